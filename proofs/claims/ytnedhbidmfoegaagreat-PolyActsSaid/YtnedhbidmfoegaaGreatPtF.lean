/- Monomials, powers, enclosures. Printed by wip/sym/g_pb.py. Contracts of nat: Normal, BitLen, raise, Shift upward. When data as it stands is canonical: what is said of it goes on, and back. Contracts: what is canonical as it stands. Printed by wip/sym/g_vd.py. PolyActs, walked. Printed by wip/sym/g_l5x.py. -/
import Derived.Test.YtnedhbidmfoegaaGreatPtE
namespace Go.Proofs.YtnedhbidmfoegaaGreat
open Go.RowKit
set_option linter.unusedVariables false
def Nt.monL (q : Rat) (n : Int) : List Rat := if n < 0 ∨ 48 < n then [] else Nt.trimQ ((List.replicate (n.toNat + 1) 0).set n.toNat q)
def Nt.monE (n : Int) : Int := if n < 0 ∨ 48 < n then 12 else 0
def Nt.powL (l : List Rat) (n : Int) : List Rat := if n < 0 ∨ 48 < n then [] else (Nt.Pol.npow (Nt.Pol.mk' l) n.toNat).l
theorem Nt.mon_in {q : Rat} {k : Nat} (h : k ≤ 48) : Nt.monL q (k : Int) = Nt.trimQ ((List.replicate (k + 1) 0).set k q) ∧ Nt.monE (k : Int) = 0 := by
 unfold Nt.monL Nt.monE
 rw [if_neg (by omega), if_neg (by omega), Int.toNat_natCast]
 exact ⟨rfl, rfl⟩
theorem Nt.mon_out {q : Rat} {n : Int} (h : n < 0 ∨ 48 < n) : Nt.monL q n = [] ∧ Nt.monE n = 12 := by
 unfold Nt.monL Nt.monE
 rw [if_pos h, if_pos h]
 exact ⟨rfl, rfl⟩
theorem Nt.mon_len (q : Rat) (n : Int) : (Nt.monL q n).length ≤ 49 := by
 unfold Nt.monL
 split
 ·simp
 ·refine Nat.le_trans (Nt.zzg _) ?_
  simp; omega
theorem Nt.pow_in {l : List Rat} {k : Nat} (h : k ≤ 48) : Nt.powL l (k : Int) = (Nt.Pol.npow (Nt.Pol.mk' l) k).l := by
 unfold Nt.powL
 rw [if_neg (by omega), Int.toNat_natCast]
theorem Nt.pow_out {l : List Rat} {n : Int} (h : n < 0 ∨ 48 < n) : Nt.powL l n = [] := by
 unfold Nt.powL
 rw [if_pos h]
set_option maxHeartbeats 2000000 in
theorem k_poMono0 {u w : World} {r : RL} {q : Rat} {K : Nat} {k : Nat} (hk : k ≤ 48) (d : Dat u w) (hr : RatV u r q K) (hK : K ≤ 10000000) : Calls Tryz.prog 89 #[r.v, .int .i64 (k : Int)] w (Post u w fun v u' => ∃ y : Sl, v = .tuple #[y.v, .int .i64 (Nt.monE (k : Int))] ∧ PolN u' y (Nt.monL q (k : Int)) (K + 2)) := by
 refine zzl (args := [r.v, .int .i64 (k : Int)]) Tryz.func89 rfl Tryz.ntmps89 (rs := [.tmp 4, .tmp 5]) Tryz.results89 (le_b rfl) (le_b rfl) d ?_
 refine sq9 ?_
 refine zzj 2 ⟨26, r.cs⟩ ?_
 refine zza 4 (.v (.slice none 0 0)) ?_
 refine zza 5 (.v (.int .i64 0)) ?_
 refine zzb 23 [(1, .v (.int .i64 (k : Int))), (2, .adr 2 0)] [(2, ⟨26, r.cs⟩)] ?_
 refine zzc ?_
 refine sq9 ?_
 refine zza 7 (.v (.int .i64 (k : Int))) ?_
 refine zza 8 (.v (.bool (decide ((k : Int) < 0)))) ?_
 refine zyp 9 (x := .v (.bool (decide ((k : Int) < 0)))) (.v (.bool false)) (by rw [show (decide ((k : Int) < 0)) = false from decide_eq_false (by omega)]) ?_
 refine zza 10 (.v (.int .i64 (k : Int))) ?_ (hw := w1 2 false 9)
 refine zza 11 (.v (.bool (decide ((48 : Int) < (k : Int))))) ?_ (hw := w1 2 false 9)
 refine zza 12 (.v (.bool (decide ((48 : Int) < (k : Int))))) ?_
 refine zzb 23 [(1, .v (.int .i64 (k : Int))), (2, .adr 2 0), (12, .v (.bool (decide ((48 : Int) < (k : Int)))))] [(2, ⟨26, r.cs⟩)] ?_
 refine zzt (b := decide ((48 : Int) < (k : Int))) (by kernel_rfl) (fun hb => ?_) (fun hb => ?_)
 ·exact absurd hb (by rw [show (decide ((48 : Int) < (k : Int))) = false from decide_eq_false (by omega)]; decide)
 ·clear hb
  refine zzr (zzo ?_)
  refine sq9 ?_
  refine zza 13 (.v (.int .i64 (k : Int))) ?_
  refine zyp 14 (x := .v (.int .i64 (IntKind.i64.wrap ((k : Int) + 1)))) (.v (.int .i64 ((k + 1 : Nat) : Int))) (eqI (by rw [IntWalk.i64_in _ (by omega)]; omega)) ?_
  refine zzf 15 124 [.int .i64 ((k + 1 : Nat) : Int)] ?_
  intro w12 u12 e12 d12
  have k21 := k_zeros (n := k + 1) d12 (by omega)
  with_reducible refine Post.mono k21 ?_
  rintro _ u19 g20 ⟨b13, L14, rfl, hb15, hh16, hL17, hR18⟩
  refine zza 6 (.v (.slice (some ⟨b13, 0, none⟩) (k + 1) (k + 1))) ?_
  refine zzb 23 [(1, .v (.int .i64 (k : Int))), (2, .adr 2 0), (6, .v (.slice (some ⟨b13, 0, none⟩) (k + 1) (k + 1)))] [(2, ⟨26, r.cs⟩)] ?_
  refine zzc ?_
  refine sw_adopt (r := 6) (k := 6) (by rfl) ((Ext.refl _).cells hh16) (Nat.le_trans (e12.size) hb15) (by kernel_rfl) (fun u22 eB23 => ?_)
  replace hR18 := (hR18.ext (Ext.refl _)).extB ((Ext.refl _).cells hh16) eB23
  refine zze ?_
  refine zza 16 (.slc 6 0 (k + 1) (k + 1)) ?_
  refine zza 17 (.v (.int .i64 (k : Int))) ?_
  refine zzh 18 (.v (r.v)) ty26 zzd ?_
  refine zzf 19 126 [r.v] ?_
  intro w24 u24 e24 d24
  have k29 := k_ratTrim d24 (hr.ext (e12.trans ((ExtB.old eB23 g20.ext hb15).trans e24))) (by omega)
  with_reducible refine Post.mono k29 ?_
  rintro _ u27 g28 ⟨r25, rfl, h26⟩
  refine zyv 20 (off' := k * 3) (n := k + 1) (off := 0) (sz := 3) (i := (k : Int)) sl41 (by omega) (by omega) (by omega) ?_
  refine zyu (V := ⟨26, rcs L14⟩) (off := k * 3) (rcs ((L14).set k r25)) ty26 (by rw [zyx]; first|omega|(simp;omega)) (zyw (r := r25) (i := k) (by first|omega|(simp;omega)) rfl) ?_
  refine zzb 23 [(6, .slc 6 0 (k + 1) (k + 1))] [(6, ⟨26, rcs ((L14).set k r25)⟩)] ?_
  refine zzc ?_
  have hQ9 := RatsN.set (i := k) (q := q) (RatsN.more (K' := K + 2) (hR18.ext (e24.trans g28.ext)) (by omega)) (by simp) (RatN.more (K := K) (L := K + 2) h26 (by omega))
  have hs9 : ((L14).set k r25).length = k + 1 := by simp; omega
  refine zyo (r := 6) (t := 6) [6] (by repeat first | exact noAt_of | refine zyc ?_ | refine zye ?_ | refine zyd ?_ | refine zzx ?_ | refine zya ?_) (by kernel_rfl) (by rfl) (by rfl) (by kernel_rfl) (fun b30 u31 e32 hb33 hh34 => ?_)
  have hp35 : PolN u31 ⟨some ⟨b30, 0, none⟩, k + 1, k + 1⟩ ((List.replicate (k + 1) (0 : Rat)).set k q) (K + 2) := pol_data1 hh34 (by unfold maxLen; omega) (hQ9.ext e32) (by omega)
  refine zze ?_
  refine zza 21 (.v (.slice (some ⟨b30, 0, none⟩) (k + 1) (k + 1))) ?_
  refine zzf 22 118 [.slice (some ⟨b30, 0, none⟩) (k + 1) (k + 1)] ?_
  intro w36 u36 e36 d36
  have k39 := k_cut d36 (hp35.ext e36).raw (by omega) (by first|omega|(simp;omega) | (refine Nat.le_trans (Nt.zzg _) ?_; first|omega|(simp;omega)) | (refine Nat.le_trans (Nt.zzg _) ?_; simp only [List.length_map]; refine Nat.le_trans (Nt.zzg _) ?_; first|omega|(simp;omega)))
  with_reducible refine Post.mono k39 ?_
  rintro _ u37 g38 rfl
  refine zza 4 (.v (.slice (some ⟨b30, 0, none⟩) (Nt.trimQ ((List.replicate (k + 1) (0 : Rat)).set k q)).length (k + 1))) ?_
  refine zza 5 (.v (.int .i64 0)) ?_
  refine zzb 23 [(4, .v (.slice (some ⟨b30, 0, none⟩) (Nt.trimQ ((List.replicate (k + 1) (0 : Rat)).set k q)).length (k + 1))), (5, .v (.int .i64 0))] [] ?_
  refine zzn (ret0 [.slice (some ⟨b30, 0, none⟩) (Nt.trimQ ((List.replicate (k + 1) (0 : Rat)).set k q)).length (k + 1), .int .i64 0] ⟨zzp, zzp, trivial⟩ fun u40 e41 => ?_)
  refine ⟨(⟨some ⟨b30, 0, none⟩, (Nt.trimQ ((List.replicate (k + 1) (0 : Rat)).set k q)).length, k + 1⟩ : Sl), by rw [(Nt.mon_in (q := q) hk).2]; rfl, PolN.more (K := (K + 2)) ?_ (by omega)⟩
  rw [(Nt.mon_in hk).1]
  exact ((cut_N (hp35.ext (e36.trans g38.ext))).ext e41)
set_option maxHeartbeats 1000000 in
theorem k_poMono1 {u w : World} {r : RL} {q : Rat} {K : Nat} {n : Int} (hn : n < 0 ∨ 48 < n) (d : Dat u w) (hr : RatV u r q K) (hK : K ≤ 10000000) : Calls Tryz.prog 89 #[r.v, .int .i64 n] w (Post u w fun v u' => ∃ y : Sl, v = .tuple #[y.v, .int .i64 (Nt.monE n)] ∧ PolN u' y (Nt.monL q n) (K + 2)) := by
 refine zzl (args := [r.v, .int .i64 n]) Tryz.func89 rfl Tryz.ntmps89 (rs := [.tmp 4, .tmp 5]) Tryz.results89 (le_b rfl) (le_b rfl) d ?_
 refine sq9 ?_
 refine zzj 2 ⟨26, r.cs⟩ ?_
 refine zza 4 (.v (.slice none 0 0)) ?_
 refine zza 5 (.v (.int .i64 0)) ?_
 refine zzb 23 [(1, .v (.int .i64 n)), (2, .adr 2 0)] [(2, ⟨26, r.cs⟩)] ?_
 refine zzc ?_
 refine sq9 ?_
 refine zza 7 (.v (.int .i64 n)) ?_
 refine zza 8 (.v (.bool (decide (n < 0)))) ?_
 rcases Bool.eq_false_or_eq_true (decide (n < 0)) with hs11 | hs11
 ·refine zyp 9 (x := .v (.bool (decide (n < 0)))) (.v (.bool true)) (by rw [hs11]) ?_
  have qhs11 := of_decide_eq_true hs11
  refine zzm 10 (uw 2 false true 9) ?_
  refine zzm 11 (uw 2 false true 9) ?_
  refine zza 12 (.v (.bool true)) ?_
  refine zzb 23 [(1, .v (.int .i64 n)), (2, .adr 2 0), (12, .v (.bool true))] [(2, ⟨26, r.cs⟩)] ?_
  refine zyq (by kernel_rfl) ?_
  refine sq9 ?_
  refine zza 4 (.v (.slice none 0 0)) ?_
  refine zza 5 (.v (.int .i64 12)) ?_
  refine zzb 23 [(4, .v (.slice none 0 0)), (5, .v (.int .i64 12))] [] ?_
  refine zzn (zzv (ret0 [.slice none 0 0, .int .i64 12] ⟨zzp, zzp, trivial⟩ fun u12 e13 => ?_))
  exact ⟨⟨none, 0, 0⟩, by rw [(Nt.mon_out (q := q) hn).2]; rfl, by rw [(Nt.mon_out hn).1]; exact pol_nil _ _⟩
 ·refine zyp 9 (x := .v (.bool (decide (n < 0)))) (.v (.bool false)) (by rw [hs11]) ?_
  have qhs11 := of_decide_eq_false hs11
  refine zza 10 (.v (.int .i64 n)) ?_ (hw := w1 2 false 9)
  refine zza 11 (.v (.bool (decide ((48 : Int) < n)))) ?_ (hw := w1 2 false 9)
  refine zza 12 (.v (.bool (decide ((48 : Int) < n)))) ?_
  refine zzb 23 [(1, .v (.int .i64 n)), (2, .adr 2 0), (12, .v (.bool (decide ((48 : Int) < n))))] [(2, ⟨26, r.cs⟩)] ?_
  refine zzt (b := decide ((48 : Int) < n)) (by kernel_rfl) (fun hb => ?_) (fun hb => ?_)
  ·clear hb
   refine sq9 ?_
   refine zza 4 (.v (.slice none 0 0)) ?_
   refine zza 5 (.v (.int .i64 12)) ?_
   refine zzb 23 [(4, .v (.slice none 0 0)), (5, .v (.int .i64 12))] [] ?_
   refine zzn (zzv (ret0 [.slice none 0 0, .int .i64 12] ⟨zzp, zzp, trivial⟩ fun u14 e15 => ?_))
   exact ⟨⟨none, 0, 0⟩, by rw [(Nt.mon_out (q := q) hn).2]; rfl, by rw [(Nt.mon_out hn).1]; exact pol_nil _ _⟩
  ·exact absurd hb (by rw [show (decide ((48 : Int) < n)) = true from decide_eq_true (by omega)]; decide)
set_option maxHeartbeats 2000000 in
theorem k_r5Mono0 {u w : World} {r : RL} {q : Rat} {K : Nat} {k : Nat} (hk : k ≤ 48) (d : Dat u w) (hr : RatV u r q K) (hK : K ≤ 10000000) : Calls Tryz.prog 90 #[r.v, .int .i64 (k : Int)] w (Post u w fun v u' => ∃ y : Sl, v = .tuple #[y.v, .int .i64 (Nt.monE (k : Int))] ∧ PolN u' y (Nt.monL q (k : Int)) (K + 2)) := by
 refine zzl (args := [r.v, .int .i64 (k : Int)]) Tryz.func90 rfl Tryz.ntmps90 (rs := [.tmp 4, .tmp 5]) Tryz.results90 (le_b rfl) (le_b rfl) d ?_
 refine sq9 ?_
 refine zzj 2 ⟨26, r.cs⟩ ?_
 refine zza 4 (.v (.slice none 0 0)) ?_
 refine zza 5 (.v (.int .i64 0)) ?_
 refine zzb 22 [(1, .v (.int .i64 (k : Int))), (2, .adr 2 0)] [(2, ⟨26, r.cs⟩)] ?_
 refine zzc ?_
 refine sq9 ?_
 refine zza 7 (.v (.int .i64 (k : Int))) ?_
 refine zza 8 (.v (.bool (decide ((k : Int) < 0)))) ?_
 refine zyp 9 (x := .v (.bool (decide ((k : Int) < 0)))) (.v (.bool false)) (by rw [show (decide ((k : Int) < 0)) = false from decide_eq_false (by omega)]) ?_
 refine zza 10 (.v (.int .i64 (k : Int))) ?_ (hw := w1 2 false 9)
 refine zza 11 (.v (.bool (decide ((48 : Int) < (k : Int))))) ?_ (hw := w1 2 false 9)
 refine zza 12 (.v (.bool (decide ((48 : Int) < (k : Int))))) ?_
 refine zzb 22 [(1, .v (.int .i64 (k : Int))), (2, .adr 2 0), (12, .v (.bool (decide ((48 : Int) < (k : Int)))))] [(2, ⟨26, r.cs⟩)] ?_
 refine zzt (b := decide ((48 : Int) < (k : Int))) (by kernel_rfl) (fun hb => ?_) (fun hb => ?_)
 ·exact absurd hb (by rw [show (decide ((48 : Int) < (k : Int))) = false from decide_eq_false (by omega)]; decide)
 ·clear hb
  refine zzr (zzo ?_)
  refine sq9 ?_
  refine zza 13 (.v (.int .i64 (k : Int))) ?_
  refine zyp 14 (x := .v (.int .i64 (IntKind.i64.wrap ((k : Int) + 1)))) (.v (.int .i64 ((k + 1 : Nat) : Int))) (eqI (by rw [IntWalk.i64_in _ (by omega)]; omega)) ?_
  refine sy_make 15 (T := 41) (E := 26) (z := .agg #[.bool false, .slice none 0 0, .slice none 0 0]) (size := 3) (bytes := 56) (k + 1) (rcs (List.replicate (k + 1) rl0)) (by kernel_rfl) (by kernel_rfl) rfl rfl (by omega) (by unfold maxLen; omega) (made_rcs _) ?_
  refine zza 6 (.slc 15 0 (k + 1) (k + 1)) ?_
  refine zzb 22 [(1, .v (.int .i64 (k : Int))), (2, .adr 2 0), (6, .slc 15 0 (k + 1) (k + 1))] [(2, ⟨26, r.cs⟩), (15, ⟨26, rcs (List.replicate (k + 1) rl0)⟩)] ?_
  refine zzc ?_
  have hZ9 : RatsV u (List.replicate (k + 1) rl0) (List.replicate (k + 1) 0) (K + 2) := RatsV.more (RatsV.zeros _ _) (by omega)
  refine zze ?_
  refine zza 16 (.slc 15 0 (k + 1) (k + 1)) ?_
  refine zza 17 (.v (.int .i64 (k : Int))) ?_
  refine zzh 18 (.v (r.v)) ty26 zzd ?_
  refine zyv 19 (off' := k * 3) (n := k + 1) (off := 0) (sz := 3) (i := (k : Int)) sl41 (by omega) (by omega) (by omega) ?_
  refine zyu (V := ⟨26, rcs (List.replicate (k + 1) rl0)⟩) (off := k * 3) (rcs ((List.replicate (k + 1) rl0).set k r)) ty26 (by rw [zyx]; first|omega|(simp;omega) | simp) (zyw (r := r) (i := k) (by first|omega|(simp;omega) | simp) rfl) ?_
  refine zzb 22 [(6, .slc 15 0 (k + 1) (k + 1))] [(15, ⟨26, rcs ((List.replicate (k + 1) rl0).set k r)⟩)] ?_
  refine zzc ?_
  have hQ9 := RatsV.set (i := k) (q := q) hZ9 (by simp) (RatV.more (L := K + 2) hr (by omega))
  have hs9 : ((List.replicate (k + 1) rl0).set k r).length = k + 1 := by simp
  refine zyo (r := 6) (t := 15) [6, 15] (by repeat first | exact noAt_of | refine zyc ?_ | refine zye ?_ | refine zyd ?_ | refine zzx ?_ | refine zya ?_) (by kernel_rfl) (by rfl) (by rfl) (by kernel_rfl) (fun b12 u13 e14 hb15 hh16 => ?_)
  have hp17 : PolV u13 ⟨some ⟨b12, 0, none⟩, k + 1, k + 1⟩ ((List.replicate (k + 1) (0 : Rat)).set k q) (K + 2) := pol_data1V hh16 (by unfold maxLen; omega) (hQ9.ext e14) (by omega)
  refine zze ?_
  refine zza 20 (.v (.slice (some ⟨b12, 0, none⟩) (k + 1) (k + 1))) ?_
  refine zzf 21 87 [.slice (some ⟨b12, 0, none⟩) (k + 1) (k + 1)] ?_
  intro w18 u18 e18 d18
  have k23 := k_r5Trim d18 (hp17.ext e18) (by omega) (by first|omega|(simp;omega) | (refine Nat.le_trans (Nt.zzg _) ?_; first|omega|(simp;omega)) | (refine Nat.le_trans (Nt.zzg _) ?_; simp only [List.length_map]; refine Nat.le_trans (Nt.zzg _) ?_; first|omega|(simp;omega)))
  with_reducible refine Post.mono k23 ?_
  rintro _ u21 g22 ⟨y19, rfl, h20⟩
  have hly19 := h20.len
  refine zza 4 (.v y19.v) ?_
  refine zza 5 (.v (.int .i64 0)) ?_
  refine zzb 22 [(4, .v y19.v), (5, .v (.int .i64 0))] [] ?_
  refine zzn (ret0 [.slice y19.a y19.n y19.c, .int .i64 0] ⟨zzp, zzp, trivial⟩ fun u24 e25 => ?_)
  refine ⟨y19, by rw [(Nt.mon_in (q := q) hk).2]; rfl, PolN.more (K := (K + 2)) ?_ (by omega)⟩
  rw [(Nt.mon_in hk).1]
  exact (h20.ext e25)
set_option maxHeartbeats 1000000 in
theorem k_r5Mono1 {u w : World} {r : RL} {q : Rat} {K : Nat} {n : Int} (hn : n < 0 ∨ 48 < n) (d : Dat u w) (hr : RatV u r q K) (hK : K ≤ 10000000) : Calls Tryz.prog 90 #[r.v, .int .i64 n] w (Post u w fun v u' => ∃ y : Sl, v = .tuple #[y.v, .int .i64 (Nt.monE n)] ∧ PolN u' y (Nt.monL q n) (K + 2)) := by
 refine zzl (args := [r.v, .int .i64 n]) Tryz.func90 rfl Tryz.ntmps90 (rs := [.tmp 4, .tmp 5]) Tryz.results90 (le_b rfl) (le_b rfl) d ?_
 refine sq9 ?_
 refine zzj 2 ⟨26, r.cs⟩ ?_
 refine zza 4 (.v (.slice none 0 0)) ?_
 refine zza 5 (.v (.int .i64 0)) ?_
 refine zzb 22 [(1, .v (.int .i64 n)), (2, .adr 2 0)] [(2, ⟨26, r.cs⟩)] ?_
 refine zzc ?_
 refine sq9 ?_
 refine zza 7 (.v (.int .i64 n)) ?_
 refine zza 8 (.v (.bool (decide (n < 0)))) ?_
 rcases Bool.eq_false_or_eq_true (decide (n < 0)) with hs11 | hs11
 ·refine zyp 9 (x := .v (.bool (decide (n < 0)))) (.v (.bool true)) (by rw [hs11]) ?_
  have qhs11 := of_decide_eq_true hs11
  refine zzm 10 (uw 2 false true 9) ?_
  refine zzm 11 (uw 2 false true 9) ?_
  refine zza 12 (.v (.bool true)) ?_
  refine zzb 22 [(1, .v (.int .i64 n)), (2, .adr 2 0), (12, .v (.bool true))] [(2, ⟨26, r.cs⟩)] ?_
  refine zyq (by kernel_rfl) ?_
  refine sq9 ?_
  refine zza 4 (.v (.slice none 0 0)) ?_
  refine zza 5 (.v (.int .i64 12)) ?_
  refine zzb 22 [(4, .v (.slice none 0 0)), (5, .v (.int .i64 12))] [] ?_
  refine zzn (zzv (ret0 [.slice none 0 0, .int .i64 12] ⟨zzp, zzp, trivial⟩ fun u12 e13 => ?_))
  exact ⟨⟨none, 0, 0⟩, by rw [(Nt.mon_out (q := q) hn).2]; rfl, by rw [(Nt.mon_out hn).1]; exact pol_nil _ _⟩
 ·refine zyp 9 (x := .v (.bool (decide (n < 0)))) (.v (.bool false)) (by rw [hs11]) ?_
  have qhs11 := of_decide_eq_false hs11
  refine zza 10 (.v (.int .i64 n)) ?_ (hw := w1 2 false 9)
  refine zza 11 (.v (.bool (decide ((48 : Int) < n)))) ?_ (hw := w1 2 false 9)
  refine zza 12 (.v (.bool (decide ((48 : Int) < n)))) ?_
  refine zzb 22 [(1, .v (.int .i64 n)), (2, .adr 2 0), (12, .v (.bool (decide ((48 : Int) < n))))] [(2, ⟨26, r.cs⟩)] ?_
  refine zzt (b := decide ((48 : Int) < n)) (by kernel_rfl) (fun hb => ?_) (fun hb => ?_)
  ·clear hb
   refine sq9 ?_
   refine zza 4 (.v (.slice none 0 0)) ?_
   refine zza 5 (.v (.int .i64 12)) ?_
   refine zzb 22 [(4, .v (.slice none 0 0)), (5, .v (.int .i64 12))] [] ?_
   refine zzn (zzv (ret0 [.slice none 0 0, .int .i64 12] ⟨zzp, zzp, trivial⟩ fun u14 e15 => ?_))
   exact ⟨⟨none, 0, 0⟩, by rw [(Nt.mon_out (q := q) hn).2]; rfl, by rw [(Nt.mon_out hn).1]; exact pol_nil _ _⟩
  ·exact absurd hb (by rw [show (decide ((48 : Int) < n)) = true from decide_eq_true (by omega)]; decide)
theorem k_poMono {u w : World} {r : RL} {q : Rat} {K : Nat} {n : Int} (d : Dat u w) (hr : RatV u r q K) (hK : K ≤ 10000000) : Calls Tryz.prog 89 #[r.v, .int .i64 n] w (Post u w fun v u' => ∃ y : Sl, v = .tuple #[y.v, .int .i64 (Nt.monE n)] ∧ PolN u' y (Nt.monL q n) (K + 2)) := by
 by_cases hn : n < 0 ∨ 48 < n
 ·exact k_poMono1 hn d hr hK
 ·obtain ⟨k, rfl⟩ : ∃ k : Nat, n = (k : Int) := ⟨n.toNat, by omega⟩
  exact k_poMono0 (by omega) d hr hK
theorem k_r5Mono {u w : World} {r : RL} {q : Rat} {K : Nat} {n : Int} (d : Dat u w) (hr : RatV u r q K) (hK : K ≤ 10000000) : Calls Tryz.prog 90 #[r.v, .int .i64 n] w (Post u w fun v u' => ∃ y : Sl, v = .tuple #[y.v, .int .i64 (Nt.monE n)] ∧ PolN u' y (Nt.monL q n) (K + 2)) := by
 by_cases hn : n < 0 ∨ 48 < n
 ·exact k_r5Mono1 hn d hr hK
 ·obtain ⟨k, rfl⟩ : ∃ k : Nat, n = (k : Int) := ⟨n.toNat, by omega⟩
  exact k_r5Mono0 (by omega) d hr hK
set_option maxHeartbeats 1000000 in
theorem k_poPowBad {u w : World} {x : Sl} {l : List Rat} {K D A : Nat} {n : Int} (hn : n < 0 ∨ 48 < n) (d : Dat u w) (hx : PolV u x l K) : Calls Tryz.prog 91 #[x.v, .int .i64 n] w (Post u w fun v u' => v = .tuple #[.slice none 0 0, .int .i64 12]) := by
 refine zzl (args := [.slice x.a x.n x.c, .int .i64 n]) Tryz.func91 rfl Tryz.ntmps91 (rs := [.tmp 4, .tmp 5]) Tryz.results91 (le_b rfl) (le_b rfl) d ?_
 refine sq9 ?_
 refine zza 4 (.v (.slice none 0 0)) ?_
 refine zza 5 (.v (.int .i64 0)) ?_
 refine zzb 30 [(0, .v x.v), (1, .v (.int .i64 n))] [] ?_
 refine zzc ?_
 refine sq9 ?_
 refine zza 7 (.v (.int .i64 n)) ?_
 refine zza 8 (.v (.bool (decide (n < 0)))) ?_
 rcases Bool.eq_false_or_eq_true (decide (n < 0)) with hs11 | hs11
 ·refine zyp 9 (x := .v (.bool (decide (n < 0)))) (.v (.bool true)) (by rw [hs11]) ?_
  have qhs11 := of_decide_eq_true hs11
  refine zzm 10 (uw 2 false true 9) ?_
  refine zzm 11 (uw 2 false true 9) ?_
  refine zza 12 (.v (.bool true)) ?_
  refine zza 13 (.v (.bool true)) ?_
  refine zzm 14 (uw 6 false true 13) ?_
  refine zzm 15 (uw 6 false true 13) ?_
  refine zzm 16 (uw 6 false true 13) ?_
  refine zzm 17 (uw 6 false true 13) ?_
  refine zzm 18 (uw 6 false true 13) ?_
  refine zza 19 (.v (.bool true)) ?_
  refine zzb 30 [(0, .v x.v), (1, .v (.int .i64 n)), (19, .v (.bool true))] [] ?_
  refine zyq (by kernel_rfl) ?_
  refine sq9 ?_
  refine zza 4 (.v (.slice none 0 0)) ?_
  refine zza 5 (.v (.int .i64 12)) ?_
  refine zzb 30 [(4, .v (.slice none 0 0)), (5, .v (.int .i64 12))] [] ?_
  refine zzn (zzv (ret0 [.slice none 0 0, .int .i64 12] ⟨zzp, zzp, trivial⟩ fun u12 e13 => ?_))
  rfl
 ·refine zyp 9 (x := .v (.bool (decide (n < 0)))) (.v (.bool false)) (by rw [hs11]) ?_
  have qhs11 := of_decide_eq_false hs11
  refine zza 10 (.v (.int .i64 n)) ?_ (hw := w1 2 false 9)
  refine zza 11 (.v (.bool (decide ((48 : Int) < n)))) ?_ (hw := w1 2 false 9)
  refine zza 12 (.v (.bool (decide ((48 : Int) < n)))) ?_
  refine zyp 13 (x := .v (.bool (decide ((48 : Int) < n)))) (.v (.bool true)) (by rw [show (decide ((48 : Int) < n)) = true from decide_eq_true (by omega)]) ?_
  refine zzm 14 (uw 6 false true 13) ?_
  refine zzm 15 (uw 6 false true 13) ?_
  refine zzm 16 (uw 6 false true 13) ?_
  refine zzm 17 (uw 6 false true 13) ?_
  refine zzm 18 (uw 6 false true 13) ?_
  refine zza 19 (.v (.bool true)) ?_
  refine zzb 30 [(0, .v x.v), (1, .v (.int .i64 n)), (19, .v (.bool true))] [] ?_
  refine zyq (by kernel_rfl) ?_
  refine sq9 ?_
  refine zza 4 (.v (.slice none 0 0)) ?_
  refine zza 5 (.v (.int .i64 12)) ?_
  refine zzb 30 [(4, .v (.slice none 0 0)), (5, .v (.int .i64 12))] [] ?_
  refine zzn (zzv (ret0 [.slice none 0 0, .int .i64 12] ⟨zzp, zzp, trivial⟩ fun u15 e16 => ?_))
  rfl
theorem k_r5PowBad {u w : World} {x : Sl} {l : List Rat} {K D A : Nat} {n : Int} (hn9 : n < 0 ∨ 48 < n) (hn4 : n ≤ 4) (d : Dat u w) (hx : PolV u x l K) : Calls Tryz.prog 92 #[x.v, .int .i64 n] w (Post u w fun v u' => v = .tuple #[.slice none 0 0, .int .i64 12]) := by
 have hn : decide (n < 0) = true := by simp; omega
 have key : Calls Tryz.prog 92 #[.slice x.a x.n x.c, .int .i64 n] w fun e w' => e = .returned (.tuple #[.slice none 0 0, .int .i64 12]) ∧ w = w' := by
  clear hn9 hn4 hx d
  go_enter Tryz.func92, Tryz.ntmps92
  go_wp2
  go_ret2
  exact ⟨rfl, rfl⟩
 refine key.mono fun e w' ⟨h, hw⟩ => ?_
 subst hw
 exact post_below d h (Below.refl _ _)
set_option maxHeartbeats 2000000 in
theorem k_r5Pow {u w : World} {x : Sl} {l : List Rat} {K n D A : Nat} (d : Dat u w) (hx : PolV u x l K) (hs : Nt.Sm l D A) (hD : D ≤ 2 ^ A) (hl : l.length ≤ 8) (hn : n ≤ 4) (hA : A ≤ 1000) (hK : K ≤ 100) : Calls Tryz.prog 92 #[x.v, .int .i64 (n : Int)] w (Post u w fun v u' => ∃ y : Sl, v = .tuple #[y.v, .int .i64 0] ∧ PolN u' y (Nt.Pol.npow (Nt.Pol.mk' l) n).l (Nt.dg (n * (A + 8)))) := by
 have hlen := hx.len
 have htl := Nt.zzg l
 have hnb : 0 ≤ (n : Int) * (((Nt.trimQ l).length - 1 : Nat) : Int) ∧ (n : Int) * (((Nt.trimQ l).length - 1 : Nat) : Int) ≤ 28 := by
  obtain ⟨k, hk⟩ : ∃ k, (Nt.trimQ l).length - 1 = k := ⟨_, rfl⟩
  rw [hk]
  rcases (by omega : n = 0 ∨ n = 1 ∨ n = 2 ∨ n = 3 ∨ n = 4) with rfl | rfl | rfl | rfl | rfl <;> omega
 have hdg : Nt.dg (n * (A + 8)) ≤ 127 := by
  have h9 : n * (A + 8) ≤ 4 * 1008 := Nat.mul_le_mul hn (by omega)
  exact Nat.le_trans (Nt.dg_mono h9) (by decide)
 refine zzl (args := [.slice x.a x.n x.c, .int .i64 (n : Int)]) Tryz.func92 rfl Tryz.ntmps92 (rs := [.tmp 4, .tmp 5]) Tryz.results92 (le_b rfl) (le_b rfl) d ?_
 refine sq9 ?_
 refine zza 4 (.v (.slice none 0 0)) ?_
 refine zza 5 (.v (.int .i64 0)) ?_
 refine zzb 31 [(0, .v x.v), (1, .v (.int .i64 (n : Int)))] [] ?_
 refine zzc ?_
 refine sq9 ?_
 refine zza 7 (.v (.int .i64 (n : Int))) ?_
 refine zza 8 (.v (.bool (decide ((n : Int) < 0)))) ?_
 refine zyp 9 (x := .v (.bool (decide ((n : Int) < 0)))) (.v (.bool false)) (by rw [show (decide ((n : Int) < 0)) = false from decide_eq_false (by omega)]) ?_
 refine zza 10 (.v (.int .i64 (n : Int))) ?_ (hw := w1 2 false 9)
 refine zza 11 (.v (.bool (decide ((48 : Int) < (n : Int))))) ?_ (hw := w1 2 false 9)
 refine zza 12 (.v (.bool (decide ((48 : Int) < (n : Int))))) ?_
 refine zyp 13 (x := .v (.bool (decide ((48 : Int) < (n : Int))))) (.v (.bool false)) (by rw [show (decide ((48 : Int) < (n : Int))) = false from decide_eq_false (by omega)]) ?_
 refine zza 14 (.v (.int .i64 (n : Int))) ?_ (hw := w1 6 false 13)
 refine zza 15 (.v x.v) ?_ (hw := w1 6 false 13)
 refine zzf 16 83 [x.v] ?_ (hw := w1 6 false 13)
 intro w13 u13 e13 d13
 have k16 := k_r5Degree d13 (hx.ext e13) (by omega) (by first|omega|(simp;omega) | (refine Nat.le_trans (Nt.zzg _) ?_; first|omega|(simp;omega)) | (refine Nat.le_trans (Nt.zzg _) ?_; simp only [List.length_map]; refine Nat.le_trans (Nt.zzg _) ?_; first|omega|(simp;omega)))
 with_reducible refine Post.mono k16 ?_
 rintro _ u14 g15 rfl
 refine sy_max0 17 (n := ((Nt.trimQ l).length : Int) - 1) (v := (((Nt.trimQ l).length - 1 : Nat) : Int)) (by split <;> omega) ?_ (hw := w1 6 false 13)
 refine zyp 18 (x := .v (.int .i64 (IntKind.i64.wrap (((n : Int) * (((Nt.trimQ l).length - 1 : Nat) : Int)))))) (.v (.int .i64 (((n : Int) * (((Nt.trimQ l).length - 1 : Nat) : Int))))) (by rw [IntWalk.i64_in _ (by omega)]) ?_ (hw := w1 6 false 13)
 refine zza 19 (.v (.bool (decide ((192 : Int) < ((n : Int) * (((Nt.trimQ l).length - 1 : Nat) : Int)))))) ?_ (hw := w1 6 false 13)
 refine zza 20 (.v (.bool (decide ((192 : Int) < ((n : Int) * (((Nt.trimQ l).length - 1 : Nat) : Int)))))) ?_
 refine zzb 31 [(0, .v x.v), (1, .v (.int .i64 (n : Int))), (20, .v (.bool (decide ((192 : Int) < ((n : Int) * (((Nt.trimQ l).length - 1 : Nat) : Int))))))] [] ?_
 refine zzt (b := decide ((192 : Int) < ((n : Int) * (((Nt.trimQ l).length - 1 : Nat) : Int)))) (by kernel_rfl) (fun hb => ?_) (fun hb => ?_)
 ·exact absurd hb (by rw [show (decide ((192 : Int) < ((n : Int) * (((Nt.trimQ l).length - 1 : Nat) : Int)))) = false from decide_eq_false (by omega)]; decide)
 ·clear hb
  refine zzr (zzo ?_)
  refine sq9 ?_
  refine zzf 21 41 [.int .i64 1] ?_
  intro w17 u17 e17 d17
  have k22 := k_rqOf d17 (z := 1) (by omega) (by omega)
  with_reducible refine Post.mono k22 ?_
  rintro _ u20 g21 ⟨r18, rfl, h19⟩
  refine sy_data 22 ⟨26, r18.cs⟩ 1 (fun b23 u24 e25 h26 => ?_)
  have hp27 : PolN u24 (⟨some ⟨b23, 0, none⟩, 1, 1⟩ : Sl) [((1 : Int) : Rat)] 2 := pol_lit (L := [r18]) h26 (rats1 (h19.ext e25)) rfl (by decide)
  refine zza 6 (.v (.slice (some ⟨b23, 0, none⟩) 1 1)) ?_
  refine zzb 31 [(0, .v x.v), (1, .v (.int .i64 (n : Int))), (6, .v (.slice (some ⟨b23, 0, none⟩) 1 1))] [] ?_
  refine zzc ?_
  refine zzs ?_
  refine zym (I := fun m28 S' u' => ∃ (j : Nat) (k : Nat) (xr : Sl), (m28 = k) ∧ (j + k = n) ∧ (S' = St.of 31 [(0, .v (.slice x.a x.n x.c)), (1, .v (.int .i64 (k : Int))), (6, .v (.slice xr.a xr.n xr.c))] []) ∧ (Ext u24 u') ∧ (PolN u' xr (Nt.Pol.npow (Nt.Pol.mk' l) j).l (Nt.dg (n * (A + 8))))) (fun m S u1 u2 e h => by obtain ⟨j, k, xr, hm, p0, hS, hE, f0⟩ := h; exact ⟨j, k, xr, hm, p0, hS, hE.trans e, f0.ext e⟩) _ (T := St.of 31 [(0, .v (.slice x.a x.n x.c)), (1, .v (.int .i64 (n : Int))), (6, .v (.slice (some ⟨b23, 0, none⟩) 1 1))] []) (by exact zzu _ _ _) ⟨0, n, (⟨some ⟨b23, 0, none⟩, 1, 1⟩ : Sl), rfl, by omega, rfl, Ext.refl _, (by have h9 : PolN _ _ (Nt.Pol.npow (Nt.Pol.mk' l) 0).l _ := hp27; exact PolN.fitS h9 ((hs.npow 0).more (by rw [Nat.zero_mul]; exact Nat.zero_le _)) (Nt.pow_leN hD (Nat.zero_le _)))⟩ ?_
  rintro m28 _ u28 ⟨j, k, xr, hm28, hj, rfl, e28, hF⟩
  have hlr := hF.len
  have hlp : (Nt.Pol.npow (Nt.Pol.mk' l) j).l.length ≤ 33 := by have h9 := Nt.Pol.npow_len (Nt.Pol.mk' l) j; have h8 : j * (Nt.Pol.mk' l).len ≤ 4 * 8 := Nat.mul_le_mul (by omega) (Nat.le_trans (Nt.mk_len l) hl); change _ ≤ _ at h9; unfold Nt.Pol.len at h9; unfold Nt.Pol.len at h8; omega
  have hkk : Nt.kk (Nt.dg (n * (A + 8)) + K + 3) ((Nt.Pol.npow (Nt.Pol.mk' l) j).l.length * l.length) ≤ 20000000 := Nat.le_trans (Nt.kk_mono (show _ ≤ 230 by omega) (Nat.mul_le_mul hlp hl)) (by decide +kernel)
  refine zzc ?_
  refine sq9 ?_
  refine zza 23 (.v (.int .i64 (k : Int))) ?_
  refine zza 24 (.v (.bool (decide ((0 : Int) < (k : Int))))) ?_
  refine zzb 31 [(0, .v x.v), (1, .v (.int .i64 (k : Int))), (6, .v xr.v), (24, .v (.bool (decide ((0 : Int) < (k : Int)))))] [] ?_
  refine zzt (b := decide ((0 : Int) < (k : Int))) (by kernel_rfl) (fun hb29 => ?_) (fun hb29 => ?_)
  ·replace hb29 : (decide ((0 : Int) < (k : Int))) = true := hb29
   have qhb29 := of_decide_eq_true hb29
   refine zzr (zzo ?_)
   refine zzc ?_
   refine zzs ?_
   refine zze ?_
   refine zza 27 (.v xr.v) ?_
   refine zza 28 (.v x.v) ?_
   refine zzf 29 96 [xr.v, x.v] ?_
   intro w30 u30 e30 d30
   have k35 := k_r5Mul d30 (hF.ext e30).raw (hx.ext (e13.trans (g15.ext.trans (e17.trans (g21.ext.trans (e25.trans (e28.trans e30))))))) hkk (by omega) (by omega) (by omega) (by omega)
   with_reducible refine Post.mono k35 ?_
   rintro _ u33 g34 ⟨y31, rfl, h32⟩
   refine zza 6 (.v y31.v) ?_
   refine zzw ?_
   refine zzo ?_
   refine zze ?_
   refine zza 25 (.v (.int .i64 (k : Int))) ?_
   refine zyp 26 (x := .v (.int .i64 (IntKind.i64.wrap ((k : Int) - 1)))) (.v (.int .i64 ((k - 1 : Nat) : Int))) (eqI (by rw [IntWalk.i64_in _ (by omega)]; omega)) ?_
   refine zza 1 (.v (.int .i64 ((k - 1 : Nat) : Int))) ?_
   refine zzw ?_
   refine ⟨_, ?_, St.of 31 [(0, .v (.slice x.a x.n x.c)), (1, .v (.int .i64 ((k - 1 : Nat) : Int))), (6, .v (.slice y31.a y31.n y31.c))] [], by exact zzu _ _ _, j + 1, k - 1, y31, rfl, by omega, rfl, (e28.trans (e30.trans g34.ext)), (by have h9 : PolN _ _ (Nt.Pol.npow (Nt.Pol.mk' l) (j + 1)).l _ := (by rw [Nt.npow_l]; exact h32); exact PolN.fitS h9 ((hs.npow (j + 1)).more (Nat.mul_le_mul (by omega) (by omega))) (Nt.pow_leN hD (by omega)))⟩
   omega
  ·replace hb29 : (decide ((0 : Int) < (k : Int))) = false := hb29
   have qhb29 := of_decide_eq_false hb29
   refine zyb ?_
   refine zzo ?_
   refine sq9 ?_
   refine zza 30 (.v xr.v) ?_
   refine zza 4 (.v xr.v) ?_
   refine zza 5 (.v (.int .i64 0)) ?_
   refine zzb 31 [(4, .v xr.v), (5, .v (.int .i64 0))] [] ?_
   refine zzn (ret0 [.slice xr.a xr.n xr.c, .int .i64 0] ⟨zzp, zzp, trivial⟩ fun u36 e37 => ?_)
   have hjn : j = n := by omega
   refine ⟨xr, rfl, ?_⟩
   have h9 := (hF.ext e37)
   rw [hjn] at h9
   exact h9
theorem k_poPowU {u w : World} {x : Sl} {l : List Rat} {K D A : Nat} {n : Int} (d : Dat u w) (hx : PolV u x l K) (hs : Nt.Sm l D A) (hD : D ≤ 2 ^ A) (hl : l.length ≤ 8) (hn : n ≤ 4) (hA : A ≤ 1000) (hK : K ≤ 100) : Calls Tryz.prog 91 #[x.v, .int .i64 n] w (Post u w fun v u' => ∃ y : Sl, v = .tuple #[y.v, .int .i64 (Nt.monE n)] ∧ PolN u' y (Nt.powL l n) (Nt.dg (4 * (A + 8)))) := by
 by_cases h0 : n < 0 ∨ 48 < n
 ·exact Post.mono (k_poPowBad h0 d hx (D := 0) (A := 0)) fun v u' _ h => ⟨⟨none, 0, 0⟩, by rw [h, (Nt.mon_out (q := 0) h0).2], by rw [Nt.pow_out h0]; exact pol_nil _ _⟩
 ·obtain ⟨k, rfl⟩ : ∃ k : Nat, n = (k : Int) := ⟨n.toNat, by omega⟩
  refine Post.mono (k_poPow d hx hs hD hl (by omega) hA hK) fun v u' _ h => ?_
  obtain ⟨y, h1, h2⟩ := h
  exact ⟨y, by rw [h1, (Nt.mon_in (q := 0) (by omega)).2], by rw [Nt.pow_in (by omega)]; exact h2.more (Nt.dg_mono (Nat.mul_le_mul_right _ (by omega)))⟩
theorem k_r5PowU {u w : World} {x : Sl} {l : List Rat} {K D A : Nat} {n : Int} (d : Dat u w) (hx : PolV u x l K) (hs : Nt.Sm l D A) (hD : D ≤ 2 ^ A) (hl : l.length ≤ 8) (hn : n ≤ 4) (hA : A ≤ 1000) (hK : K ≤ 100) : Calls Tryz.prog 92 #[x.v, .int .i64 n] w (Post u w fun v u' => ∃ y : Sl, v = .tuple #[y.v, .int .i64 (Nt.monE n)] ∧ PolN u' y (Nt.powL l n) (Nt.dg (4 * (A + 8)))) := by
 by_cases h0 : n < 0 ∨ 48 < n
 ·exact Post.mono (k_r5PowBad h0 hn d hx (D := 0) (A := 0)) fun v u' _ h => ⟨⟨none, 0, 0⟩, by rw [h, (Nt.mon_out (q := 0) h0).2], by rw [Nt.pow_out h0]; exact pol_nil _ _⟩
 ·obtain ⟨k, rfl⟩ : ∃ k : Nat, n = (k : Int) := ⟨n.toNat, by omega⟩
  refine Post.mono (k_r5Pow d hx hs hD hl (by omega) hA hK) fun v u' _ h => ?_
  obtain ⟨y, h1, h2⟩ := h
  exact ⟨y, by rw [h1, (Nt.mon_in (q := 0) (by omega)).2], by rw [Nt.pow_in (by omega)]; exact h2.more (Nt.dg_mono (Nat.mul_le_mul_right _ (by omega)))⟩
theorem Nt.enc_topk {a b : Rat} {l : List Rat} {k : Nat} (h0 : 0 < k) (h : k ≤ l.length) : Nt.encL a b (l.drop (k - 1)) = (Nt.lo4 ((Nt.encL a b (l.drop k)).1 * a) ((Nt.encL a b (l.drop k)).1 * b) ((Nt.encL a b (l.drop k)).2 * a) ((Nt.encL a b (l.drop k)).2 * b) + l.getD (k - 1) 0, Nt.hi4 ((Nt.encL a b (l.drop k)).1 * a) ((Nt.encL a b (l.drop k)).1 * b) ((Nt.encL a b (l.drop k)).2 * a) ((Nt.encL a b (l.drop k)).2 * b) + l.getD (k - 1) 0) := by
 have h9 := Nt.enc_top (a := a) (b := b) (l := l) (i := l.length - k) (by omega)
 rw [show l.length - (l.length - k + 1) = k - 1 by omega, show l.length - (l.length - k) = k by omega, show l.length - 1 - (l.length - k) = k - 1 by omega] at h9
 exact h9
set_option maxHeartbeats 4000000 in
theorem k_r5Enclose {u w : World} {x : Sl} {l : List Rat} {b1 b2 : RL} {y1 y2 : Rat} {K M S : Nat} (d : Dat u w) (hx : PolV u x l K) (hb1 : RatV u b1 y1 M) (hb2 : RatV u b2 y2 M) (hS : K + M + 5 ≤ S) (hS9 : l.length * S ≤ 20000000) (hM : M ≤ 10000000) (hK : K ≤ 10000000) (hl9 : l.length ≤ 1000000) : Calls Tryz.prog 88 #[x.v, IV b1 b2] w (Post u w fun v u' => ∃ p q : RL, v = IV p q ∧ RatN u' p (Nt.encL y1 y2 l).1 (l.length * S + 2) ∧ RatN u' q (Nt.encL y1 y2 l).2 (l.length * S + 2)) := by
 have hlen := hx.len
 have htl := Nt.zzg l
 have hln : l.length ≤ 1000000 := hl9
 clear hl9
 refine zzl (args := [.slice x.a x.n x.c, .agg #[.bool b1.s, .slice b1.m.a b1.m.n b1.m.c, .slice b1.d.a b1.d.n b1.d.c, .bool b2.s, .slice b2.m.a b2.m.n b2.m.c, .slice b2.d.a b2.d.n b2.d.c]]) Tryz.func88 rfl Tryz.ntmps88 (rs := [.cell 4 28]) Tryz.results88 (le_b rfl) (le_b rfl) d ?_
 refine sq9 ?_
 refine zzj 3 ⟨28, b1.cs ++ b2.cs⟩ ?_
 refine zzj 4 ⟨28, [.bool false, .slice none 0 0, .slice none 0 0, .bool false, .slice none 0 0, .slice none 0 0]⟩ ?_
 refine zzb 33 [(0, .v x.v), (3, .adr 3 0), (4, .adr 4 0)] [(3, ⟨28, b1.cs ++ b2.cs⟩), (4, ⟨28, [.bool false, .slice none 0 0, .slice none 0 0, .bool false, .slice none 0 0, .slice none 0 0]⟩)] ?_
 refine sq9 ?_
 refine zza 7 (.v x.v) ?_
 refine zzf 8 87 [x.v] ?_
 intro w11 u11 e11 d11
 have k16 := k_r5Trim d11 (hx.ext e11) (by omega) (by first|omega|(simp;omega) | (refine Nat.le_trans (Nt.zzg _) ?_; first|omega|(simp;omega)) | (refine Nat.le_trans (Nt.zzg _) ?_; simp only [List.length_map]; refine Nat.le_trans (Nt.zzg _) ?_; first|omega|(simp;omega)))
 with_reducible refine Post.mono k16 ?_
 rintro _ u14 g15 ⟨y12, rfl, h13⟩
 have hly12 := h13.len
 obtain ⟨l9, hl9⟩ : ∃ l9, l9 = Nt.trimQ l := ⟨_, rfl⟩
 rw [← hl9] at h13 hly12
 have hl8 : l9.length ≤ l.length := by rw [hl9]; exact htl
 refine zza 0 (.v y12.v) ?_
 refine zzb 33 [(0, .v y12.v), (3, .adr 3 0), (4, .adr 4 0)] [(3, ⟨28, b1.cs ++ b2.cs⟩), (4, ⟨28, [.bool false, .slice none 0 0, .slice none 0 0, .bool false, .slice none 0 0, .slice none 0 0]⟩)] ?_
 refine sq9 ?_
 refine zzf 9 41 [.int .i64 0] ?_
 intro w18 u18 e18 d18
 have k23 := k_rqOf d18 (z := 0) (by omega) (by omega)
 with_reducible refine Post.mono k23 ?_
 rintro _ u21 g22 ⟨r19, rfl, h20⟩
 refine zzf 10 41 [.int .i64 0] ?_
 intro w24 u24 e24 d24
 have k29 := k_rqOf d24 (z := 0) (by omega) (by omega)
 with_reducible refine Post.mono k29 ?_
 rintro _ u27 g28 ⟨r25, rfl, h26⟩
 refine zzf 11 46 [r19.v, r25.v] ?_
 intro w30 u30 e30 d30
 have k37 := k_r4Make d30 (h20.ext (e24.trans (g28.ext.trans e30))).raw (h26.ext e30).raw (by omega)
 with_reducible refine Post.mono k37 ?_
 rintro _ u35 g36 ⟨r31, r33, rfl, h32, h34⟩
 refine zzj 5 ⟨28, [.bool false, .slice none 0 0, .slice none 0 0, .bool false, .slice none 0 0, .slice none 0 0]⟩ ?_
 refine zzi ⟨28, r31.cs ++ r33.cs⟩ ty28 ?_
 refine zzb 33 [(0, .v y12.v), (3, .adr 3 0), (4, .adr 4 0), (5, .adr 5 0)] [(3, ⟨28, b1.cs ++ b2.cs⟩), (4, ⟨28, [.bool false, .slice none 0 0, .slice none 0 0, .bool false, .slice none 0 0, .slice none 0 0]⟩), (5, ⟨28, r31.cs ++ r33.cs⟩)] ?_
 refine zzc ?_
 refine sq9 ?_
 refine zza 12 (.v y12.v) ?_
 refine zza 13 (.v (.int .i64 (y12.n : Int))) ?_
 refine zyp 14 (x := .v (.int .i64 (IntKind.i64.wrap ((y12.n : Int) - 1)))) (.v (.int .i64 ((y12.n : Int) - 1))) (eqI (by rw [IntWalk.i64_in _ (by omega)]; try omega)) ?_
 refine zza 6 (.v (.int .i64 ((y12.n : Int) - 1))) ?_
 refine zzb 33 [(0, .v y12.v), (3, .adr 3 0), (4, .adr 4 0), (5, .adr 5 0), (6, .v (.int .i64 ((y12.n : Int) - 1)))] [(3, ⟨28, b1.cs ++ b2.cs⟩), (4, ⟨28, [.bool false, .slice none 0 0, .slice none 0 0, .bool false, .slice none 0 0, .slice none 0 0]⟩), (5, ⟨28, r31.cs ++ r33.cs⟩)] ?_
 refine zzs ?_
 refine zym (I := fun m38 S' u' => ∃ (k : Nat) (p1 : RL) (p2 : RL), (m38 = k) ∧ (k ≤ l9.length) ∧ (S' = St.of 33 [(0, .v (.slice y12.a y12.n y12.c)), (3, .adr 3 0), (4, .adr 4 0), (5, .adr 5 0), (6, .v (.int .i64 ((k : Int) - 1)))] [(3, ⟨28, b1.cs ++ b2.cs⟩), (4, ⟨28, [.bool false, .slice none 0 0, .slice none 0 0, .bool false, .slice none 0 0, .slice none 0 0]⟩), (5, ⟨28, p1.cs ++ p2.cs⟩)]) ∧ (Ext u35 u') ∧ (RatN u' p1 (Nt.encL y1 y2 (l9.drop k)).1 ((l9.length - k) * S + 2)) ∧ (RatN u' p2 (Nt.encL y1 y2 (l9.drop k)).2 ((l9.length - k) * S + 2))) (fun m S u1 u2 e h => by obtain ⟨k, p1, p2, hm, p0, hS, hE, f0, f1⟩ := h; exact ⟨k, p1, p2, hm, p0, hS, hE.trans e, f0.ext e, f1.ext e⟩) _ (T := St.of 33 [(0, .v (.slice y12.a y12.n y12.c)), (3, .adr 3 0), (4, .adr 4 0), (5, .adr 5 0), (6, .v (.int .i64 ((y12.n : Int) - 1)))] [(3, ⟨28, b1.cs ++ b2.cs⟩), (4, ⟨28, [.bool false, .slice none 0 0, .slice none 0 0, .bool false, .slice none 0 0, .slice none 0 0]⟩), (5, ⟨28, r31.cs ++ r33.cs⟩)]) (by exact zzu _ _ _) ⟨y12.n, r31, r33, rfl, by omega, rfl, Ext.refl _, (by rw [List.drop_of_length_le (by omega)]; have h9 := h32; rw [show (Nt.lo ((0 : Int) : Rat) ((0 : Int) : Rat)) = (0 : Rat) from (by decide +kernel)] at h9; exact RatN.more (K := 2) h9 (by omega)), (by rw [List.drop_of_length_le (by omega)]; have h9 := h34; rw [show (Nt.hi ((0 : Int) : Rat) ((0 : Int) : Rat)) = (0 : Rat) from (by decide +kernel)] at h9; exact RatN.more (K := 2) h9 (by omega))⟩ ?_
 rintro m38 _ u38 ⟨k, p1, p2, hm38, hk, rfl, e38, hP, hQ⟩
 have hm1 : (l9.length - k) * S ≤ l9.length * S := Nat.mul_le_mul_right _ (by omega)
 have hm2 : l9.length * S ≤ l.length * S := Nat.mul_le_mul_right _ hl8
 refine zzc ?_
 refine sq9 ?_
 refine zza 15 (.v (.int .i64 ((k : Int) - 1))) ?_
 refine zza 16 (.v (.bool (decide ((0 : Int) ≤ ((k : Int) - 1))))) ?_
 refine zzb 33 [(0, .v y12.v), (3, .adr 3 0), (4, .adr 4 0), (5, .adr 5 0), (6, .v (.int .i64 ((k : Int) - 1))), (16, .v (.bool (decide ((0 : Int) ≤ ((k : Int) - 1)))))] [(3, ⟨28, b1.cs ++ b2.cs⟩), (4, ⟨28, [.bool false, .slice none 0 0, .slice none 0 0, .bool false, .slice none 0 0, .slice none 0 0]⟩), (5, ⟨28, p1.cs ++ p2.cs⟩)] ?_
 refine zzt (b := decide ((0 : Int) ≤ ((k : Int) - 1))) (by kernel_rfl) (fun hb39 => ?_) (fun hb39 => ?_)
 ·replace hb39 : (decide ((0 : Int) ≤ ((k : Int) - 1))) = true := hb39
  have qhb39 := of_decide_eq_true hb39
  refine zzr (zzo ?_)
  refine zzc ?_
  refine zzs ?_
  refine zzy [0, 0, 3, 0, 0, 24, 56, 0, 0, 384, 896, 2047, 4095, 8191] [(0, []), (1, []), (3, []), (4, []), (5, []), (6, []), (7, []), (8, []), (9, []), (10, []), (2, []), (11, []), (12, []), (13, [])] (by kernel_rfl) (by kernel_rfl) ?_
  refine zzh 19 (.v (.agg #[.bool p1.s, p1.m.v, p1.d.v, .bool p2.s, p2.m.v, p2.d.v])) ty28 zzd ?_
  refine zzh 20 (.v (.agg #[.bool b1.s, b1.m.v, b1.d.v, .bool b2.s, b2.m.v, b2.d.v])) ty28 zzd ?_
  refine zza 22 (.v y12.v) ?_
  refine zyp 23 (x := .v (.int .i64 ((k : Int) - 1))) (.v (.int .i64 ((k - 1 : Nat) : Int))) (eqI (by omega)) ?_
  have hl40 := (h13.ext (e18.trans (g22.ext.trans (e24.trans (g28.ext.trans (e30.trans (g36.ext.trans e38))))))).len
  obtain ⟨r40, b40, o40, hA40, hc40, hr40⟩ := pol_atN (h13.ext (e18.trans (g22.ext.trans (e24.trans (g28.ext.trans (e30.trans (g36.ext.trans e38))))))) (i := (k - 1)) (by omega)
  refine zzz 24 (o40 + (k - 1) * 3) (n := y12.n) (off := o40) (sz := 3) (i := ((k - 1 : Nat) : Int)) (by omega) hA40 (by omega) (by omega) sl41 ?_
  refine zyl 25 r40.cs hc40 ty26 ?_
  refine zza 26 (.v y12.v) ?_
  refine zyp 27 (x := .v (.int .i64 ((k : Int) - 1))) (.v (.int .i64 ((k - 1 : Nat) : Int))) (eqI (by omega)) ?_
  have hl41 := (h13.ext (e18.trans (g22.ext.trans (e24.trans (g28.ext.trans (e30.trans (g36.ext.trans e38))))))).len
  obtain ⟨r41, b41, o41, hA41, hc41, hr41⟩ := pol_atN (h13.ext (e18.trans (g22.ext.trans (e24.trans (g28.ext.trans (e30.trans (g36.ext.trans e38))))))) (i := (k - 1)) (by omega)
  refine zzz 28 (o41 + (k - 1) * 3) (n := y12.n) (off := o41) (sz := 3) (i := ((k - 1 : Nat) : Int)) (by omega) hA41 (by omega) (by omega) sl41 ?_
  refine zyl 29 r41.cs hc41 ty26 ?_
  refine zzf 21 77 [.agg #[.bool p1.s, p1.m.v, p1.d.v, .bool p2.s, p2.m.v, p2.d.v], .agg #[.bool b1.s, b1.m.v, b1.d.v, .bool b2.s, b2.m.v, b2.d.v]] ?_
  intro w42 u42 e42 d42
  have k49 := k_r4Mul d42 (hP.ext e42).raw (hQ.ext e42).raw (hb1.ext (e11.trans (g15.ext.trans (e18.trans (g22.ext.trans (e24.trans (g28.ext.trans (e30.trans (g36.ext.trans (e38.trans e42)))))))))) (hb2.ext (e11.trans (g15.ext.trans (e18.trans (g22.ext.trans (e24.trans (g28.ext.trans (e30.trans (g36.ext.trans (e38.trans e42)))))))))) (by omega) (by omega)
  with_reducible refine Post.mono k49 ?_
  rintro _ u47 g48 ⟨r43, r45, rfl, h44, h46⟩
  refine zzf 30 46 [r40.v, r41.v] ?_
  intro w50 u50 e50 d50
  have k57 := k_r4Make d50 (hr40.ext (e42.trans (g48.ext.trans e50))).raw (hr41.ext (e42.trans (g48.ext.trans e50))).raw (by omega)
  with_reducible refine Post.mono k57 ?_
  rintro _ u55 g56 ⟨r51, r53, rfl, h52, h54⟩
  refine zzf 31 75 [.agg #[.bool r43.s, r43.m.v, r43.d.v, .bool r45.s, r45.m.v, r45.d.v], .agg #[.bool r51.s, r51.m.v, r51.d.v, .bool r53.s, r53.m.v, r53.d.v]] ?_
  intro w58 u58 e58 d58
  have k65 := k_r4Add d58 (h44.ext (e50.trans (g56.ext.trans e58))).raw (h46.ext (e50.trans (g56.ext.trans e58))).raw (h52.ext e58).raw (h54.ext e58).raw (by omega) (by omega)
  with_reducible refine Post.mono k65 ?_
  rintro _ u63 g64 ⟨r59, r61, rfl, h60, h62⟩
  refine zzi ⟨28, r59.cs ++ r61.cs⟩ ty28 ?_
  refine zzw ?_
  refine zzo ?_
  refine zze ?_
  refine zza 17 (.v (.int .i64 ((k : Int) - 1))) ?_
  refine zyp 18 (x := .v (.int .i64 (IntKind.i64.wrap (((k : Int) - 1) - 1)))) (.v (.int .i64 (((k - 1 : Nat) : Int) - 1))) (eqI (by rw [IntWalk.i64_in _ (by omega)]; try omega)) ?_
  refine zza 6 (.v (.int .i64 (((k - 1 : Nat) : Int) - 1))) ?_
  refine zzw ?_
  have hs1 : (l9.length - (k - 1)) * S = (l9.length - k) * S + S := by rw [show l9.length - (k - 1) = (l9.length - k) + 1 by omega, Nat.add_mul, Nat.one_mul]
  refine ⟨_, ?_, St.of 33 [(0, .v (.slice y12.a y12.n y12.c)), (3, .adr 3 0), (4, .adr 4 0), (5, .adr 5 0), (6, .v (.int .i64 (((k - 1 : Nat) : Int) - 1)))] [(3, ⟨28, b1.cs ++ b2.cs⟩), (4, ⟨28, [.bool false, .slice none 0 0, .slice none 0 0, .bool false, .slice none 0 0, .slice none 0 0]⟩), (5, ⟨28, r59.cs ++ r61.cs⟩)], by exact zzu _ _ _, k - 1, r59, r61, rfl, by omega, rfl, (e38.trans (e42.trans (g48.ext.trans (e50.trans (g56.ext.trans (e58.trans g64.ext)))))), (by have h9 := h60; rw [(Nt.enc_step _ _ _ _ _).1] at h9; rw [Nt.enc_topk (by omega) (by omega)]; exact RatN.more (K := ((((l9.length - k) * S + 2) + M + 1) + K + 2)) h9 (by omega)), (by have h9 := h62; rw [(Nt.enc_step _ _ _ _ _).2] at h9; rw [Nt.enc_topk (by omega) (by omega)]; exact RatN.more (K := ((((l9.length - k) * S + 2) + M + 1) + K + 2)) h9 (by omega))⟩
  omega
 ·replace hb39 : (decide ((0 : Int) ≤ ((k : Int) - 1))) = false := hb39
  have qhb39 := of_decide_eq_false hb39
  refine zyb ?_
  refine zzo ?_
  refine sq9 ?_
  refine zzh 32 (.v (.agg #[.bool p1.s, p1.m.v, p1.d.v, .bool p2.s, p2.m.v, p2.d.v])) ty28 zzd ?_
  refine zzi ⟨28, p1.cs ++ p2.cs⟩ ty28 ?_
  refine zzb 33 [(4, .adr 4 0)] [(4, ⟨28, p1.cs ++ p2.cs⟩)] ?_
  refine zzn (ret0 [.agg #[.bool p1.s, .slice p1.m.a p1.m.n p1.m.c, .slice p1.d.a p1.d.n p1.d.c, .bool p2.s, .slice p2.m.a p2.m.n p2.m.c, .slice p2.d.a p2.d.n p2.d.c]] ⟨zzq ty28 zzd, trivial⟩ fun u66 e67 => ?_)
  have hk0 : k = 0 := by omega
  refine ⟨p1, p2, rfl, ?_, ?_⟩
  ·have h9 := (hP.ext e67)
   rw [hk0, List.drop_zero, hl9, Nt.encL_trim, Nat.sub_zero] at h9
   exact h9.more (by have h8 := Nat.mul_le_mul_right S htl; omega)
  ·have h9 := (hQ.ext e67)
   rw [hk0, List.drop_zero, hl9, Nt.encL_trim, Nat.sub_zero] at h9
   exact h9.more (by have h8 := Nat.mul_le_mul_right S htl; omega)
section
variable {P : Program} (w : World)
end
namespace Nt
theorem last_norm {l : List Int} (h : 0 < l.length) (k : l[l.length - 1]?.getD 0 ≠ 0) : strip l = l := by
 induction l with
 | nil => cases h
 | cons x l ih =>
  rw [strip]
  rcases Nat.eq_zero_or_pos l.length with h0 | h0
  ·have e := List.eq_nil_of_length_eq_zero h0
   subst e
   have : x ≠ 0 := by simpa using k
   simp [strip, this]
  ·have e : strip l = l := ih h0 (by
    have e9 : (x :: l).length - 1 = (l.length - 1) + 1 := by simp; omega
    rw [e9] at k; simpa using k)
   rw [e, if_neg]
   rintro ⟨h1, _⟩
   rw [h1] at h0; simp at h0
end Nt
set_option maxHeartbeats 1000000 in
theorem Normal_any (A : Option Addr) (n c : Nat) (a : List Int) (w : World) (ha : SlR .u32 w A n c a) :
  Calls Tryz.prog 173 #[.slice A n c] w fun e w' => (∃ b : Bool, e = .returned (.bool b) ∧ (b = true ↔ (n = 0 ∨ a[n - 1]?.getD 0 ≠ 0))) ∧ w' = w := by
 rcases n with _ | k
 ·go_enter Tryz.func173, Tryz.ntmps173
  go_wp2
  go_ret
  exact ⟨⟨_, rfl, by simp⟩, rfl⟩
 ·obtain ⟨b, o, rfl, _, hc⟩ := ha.pos (i := k) (by omega)
  have hcm := ha.2.1
  have hmx : c ≤ maxLen := ha.2.2.1
  unfold maxLen at hmx
  have hkb : ((k : Int) + 1 == 0) = false := by rw [beq_eq_false_iff_ne]; omega
  obtain ⟨t, ht⟩ : ∃ t, t = a[k]?.getD 0 := ⟨_, rfl⟩
  rw [← ht] at hc
  have HT : Hid ((t != 0) = true ↔ (k + 1 = 0 ∨ a[k + 1 - 1]?.getD 0 ≠ 0)) := by show _ ↔ _; rw [Nat.add_sub_cancel, ← ht]; simp
  clear ht
  go_enter Tryz.func173, Tryz.ntmps173
  go_wp2
  go_ret
  exact ⟨⟨_, rfl, HT.out⟩, rfl⟩
theorem Nt.trim_same {l : List Rat} : Nt.trimQ l = l ↔ (Nt.trimQ l).length = l.length := ⟨fun h => by rw [h], fun h => by have h9 := Nt.trim_take l; rw [h, List.take_length] at h9; exact h9.symm⟩
section
variable {u u' w w' : World} {x y : Sl} {i j : IL} {r r' : RL} {N M K L S b o n : Nat} {z z' : Int} {q q' : Rat} {l m : List Rat} {cs cs' : List Value}
theorem SlR.same {k : IntKind} {A : Option Addr} {n c : Nat} {l l' : List Int} (h : SlR k u A n c l) (h' : SlR k u A n c l') : l = l' := by
 apply List.ext_getElem?
 intro i
 have h1 := h.1
 have h2 := h'.1
 by_cases hi : i < n
 ·obtain ⟨b, o, e0, _, hc⟩ := h.pos hi
  obtain ⟨b', o', e, _, hc'⟩ := h'.pos hi
  rw [e0] at e
  cases e
  rw [hc] at hc'
  have e3 : l[i]?.getD 0 = l'[i]?.getD 0 := by simpa using hc'
  rw [List.getElem?_eq_getElem (by omega), List.getElem?_eq_getElem (by omega)] at e3 ⊢
  simpa using e3
 ·rw [List.getElem?_eq_none (by omega), List.getElem?_eq_none (by omega)]
theorem NatN.val (h : NatV u x N K) (k : NatN u x M L) : M = N := by
 obtain ⟨l, h1, h2, h3, h4⟩ := h
 have e := h1.same k.2.1
 have e2 := Nt.zyi M
 rw [← e, h4] at e2
 omega
theorem NatN.back (h : NatV u x N K) (e : Ext u u') (k : NatN u' x M L) : NatN u x N K := by
 have e1 := NatN.val (h.ext e) k
 subst e1
 obtain ⟨l, h1, h2, h3, h4⟩ := h
 have e2 := (h1.ext e).same k.2.1
 exact ⟨k.1, e2 ▸ h1, by rw [← k.1]; exact h3⟩
theorem IntN.val (h : IntV u i z K) (k : IntN u i z' L) : z' = z := by
 obtain ⟨N, h1, h2⟩ := h
 have e := NatN.val h1 k.2
 rw [h2, k.1]
 unfold Nt.sg
 by_cases hz : z' < 0
 ·simp [hz]; omega
 ·simp [hz]; omega
theorem IntN.back (h : IntV u i z K) (e : Ext u u') (k : IntN u' i z' L) : IntN u i z K := by
 have e1 := IntN.val (h.ext e) k
 subst e1
 exact ⟨k.1, NatN.back h.abs e k.2⟩
theorem RatN.val (h : RatV u r q K) (k : RatN u r q' L) : q' = q := by
 obtain ⟨⟨z, D, h1, h2, h3⟩, h4⟩ := h
 rw [h3, ← IntN.val h1 k.1, ← NatN.val h2 k.2, Rat.mkRat_self]
theorem RatN.back (h : RatV u r q K) (e : Ext u u') (k : RatN u' r q' L) : RatN u r q K := by
 have e1 := RatN.val (h.ext e) k
 subst e1
 obtain ⟨⟨z, D, h1, h2, h3⟩, h4⟩ := h
 have a1 := IntN.val (h1.ext e) k.1
 have a2 := NatN.val (h2.ext e) k.2
 exact ⟨by rw [a1]; exact IntN.back h1 e k.1, by rw [a2]; exact NatN.back h2 e k.2⟩
theorem nat_norm {l : List Int} (h : SlR .u32 u x.a x.n x.c l) (hd : Nt.Dig l) (hK : x.n ≤ K) : NatN u x (Nt.val l).toNat K ↔ (x.n = 0 ∨ l[x.n - 1]?.getD 0 ≠ 0) := by
 have hl := h.1
 have e := Nt.strip_eq hd
 constructor
 ·intro k
  rcases Nat.eq_zero_or_pos x.n with h0 | h0
  ·exact .inl h0
  ·right
   have e2 := h.same k.2.1
   rw [← e] at e2
   exact Nt.norm_last (k := x.n - 1) (l := l) e2.symm (by omega)
 ·intro k
  have e3 : Nt.strip l = l := by
   rcases k with k | k
   ·rw [List.eq_nil_of_length_eq_zero (by omega : l.length = 0)]; rfl
   ·rcases Nat.eq_zero_or_pos x.n with h0 | h0
    ·rw [List.eq_nil_of_length_eq_zero (by omega : l.length = 0)]; rfl
    ·exact Nt.last_norm (by omega) (by rw [hl]; exact k)
  rw [e3] at e
  exact ⟨by unfold dl; rw [← e]; omega, by rw [← e]; exact h, by unfold dl; rw [← e]; omega⟩
theorem int_norm (h : IntV u i z K) : IntN u i z K ↔ (NatN u i.m z.natAbs K ∧ ¬ (i.s = true ∧ i.m.n = 0)) := by
 obtain ⟨N, h1, h2⟩ := h
 constructor
 ·intro k
  refine ⟨k.2, fun hc => ?_⟩
  have a := k.2.pos
  have b := k.1
  rw [hc.1] at b
  have b' : z < 0 := of_decide_eq_true b.symm
  omega
 ·rintro ⟨k1, k2⟩
  refine ⟨?_, k1⟩
  have a := k1.pos
  rw [h2] at a ⊢
  rw [Nt.sg_abs] at a
  unfold Nt.sg
  cases hs : i.s
  ·simp
  ·have : i.m.n ≠ 0 := fun e => k2 ⟨hs, e⟩
   simp; omega
theorem rat_norm {D : Nat} (hi : IntV u ⟨r.s, r.m⟩ z K) (hd : NatV u r.d D K) (hK : 1 ≤ K) : RatN u r (mkRat z D) K ↔ (IntN u ⟨r.s, r.m⟩ z K ∧ NatN u r.d D K ∧ r.d.n ≠ 0 ∧ Nat.gcd z.natAbs D = 1) := by
 constructor
 ·intro k
  have a1 := IntN.val hi k.1
  have a2 := NatN.val hd k.2
  have k1 := k.1
  have k2 := k.2
  have cop := (mkRat z D).reduced
  have pos := (mkRat z D).den_pos
  rw [a1] at k1 cop
  rw [a2] at k2 cop pos
  have k3 := k2.pos
  exact ⟨k1, k2, by omega, cop⟩
 ·rintro ⟨k1, k2, k3, k4⟩
  have k5 := k2.pos
  have hD : 0 < D := by omega
  have e1 := (Nt.mk_den (z := z) hD).1
  have e2 := (Nt.mk_den (z := z) hD).2
  rw [k4, Nat.div_one] at e1
  rw [k4] at e2
  simp at e2
  exact ⟨by rw [e2]; exact k1, by rw [e1]; exact k2⟩
theorem rl_inj (h : r.cs = r'.cs) : r = r' := by
 obtain ⟨s, ⟨a, n, c⟩, ⟨a2, n2, c2⟩⟩ := r
 obtain ⟨s', ⟨a', n', c'⟩, ⟨a2', n2', c2'⟩⟩ := r'
 simp [RL.cs] at h
 obtain ⟨rfl, ⟨rfl, rfl, rfl⟩, rfl, rfl, rfl⟩ := h
 rfl
def ElN (u : World) (x : Sl) (n : Nat) (q : Rat) (K : Nat) : Prop := ∃ (r : RL) (b o : Nat), x.a = some ⟨b, o, none⟩ ∧ (∀ j, j < r.cs.length → u.cell? ⟨b, o + n * 3 + j, none⟩ = r.cs[j]?) ∧ RatN u r q K
theorem pol_els (h : PolV u x l K) (k : ∀ n, n < l.length → ElN u x n (l.getD n 0) K) : PolN u x l K := by
 have hn := h.len
 obtain ⟨L, h1, h5⟩ := h
 refine ⟨L, h1, h5.1, fun i hi => ?_⟩
 obtain ⟨r, b, o, e, hc, hr⟩ := k i hi
 obtain ⟨_, _, _, h4⟩ := h1
 obtain ⟨b', o', e', hc'⟩ := h4 (by omega)
 rw [e] at e'
 cases e'
 have hL : i < L.length := by rw [h5.1]; exact hi
 have e9 : r = L.getD i rl0 := by
  apply rl_inj
  apply List.ext_getElem?
  intro j
  by_cases hj : j < 3
  ·have a := hc j hj
   have b' := hc' (i * 3 + j) (by rw [zyx]; omega)
   rw [← Nat.add_assoc, a] at b'
   rw [b', ← rcs_get hL, List.getElem?_take_of_lt hj, List.getElem?_drop]
  ·rw [List.getElem?_eq_none (show r.cs.length ≤ j by show 3 ≤ j; omega), List.getElem?_eq_none (show (L.getD i rl0).cs.length ≤ j by show 3 ≤ j; omega)]
 rw [← e9]; exact hr
theorem pol_el (h : PolN u x l K) (hi : n < l.length) (hA : x.a = some ⟨b, o, none⟩) (hc : ∀ j, j < r.cs.length → u.cell? ⟨b, o + n * 3 + j, none⟩ = r.cs[j]?) : RatN u r (l.getD n 0) K := by
 obtain ⟨r', b', o', e, hc', hr⟩ := pol_atN h hi
 rw [hA] at e
 cases e
 have e9 : r = r' := by
  apply rl_inj
  apply List.ext_getElem?
  intro j
  by_cases hj : j < 3
  ·rw [← hc j hj, ← hc' j hj]
  ·rw [List.getElem?_eq_none (show r.cs.length ≤ j by show 3 ≤ j; omega), List.getElem?_eq_none (show r'.cs.length ≤ j by show 3 ≤ j; omega)]
 rw [e9]; exact hr
theorem NatN.same (h : NatV u x N K) (e : Ext u u') : NatN u' x N K ↔ NatN u x N K := ⟨fun k => NatN.back h e k, fun k => k.ext e⟩
theorem IntN.same (h : IntV u i z K) (e : Ext u u') : IntN u' i z K ↔ IntN u i z K := ⟨fun k => IntN.back h e k, fun k => k.ext e⟩
theorem RatN.same (h : RatV u r q K) (e : Ext u u') : RatN u' r q K ↔ RatN u r q K := ⟨fun k => RatN.back h e k, fun k => k.ext e⟩
theorem int_eq (h : IntV u i z K) (k : IntN u' j z' L) : (IntN u i z K ∧ z = z') ↔ ((i.s == j.s) = true ∧ NatN u i.m z.natAbs K ∧ z.natAbs = z'.natAbs) := by
 constructor
 ·rintro ⟨h1, rfl⟩
  exact ⟨by rw [h1.1, k.1]; simp, h1.2, rfl⟩
 ·rintro ⟨h1, h2, h3⟩
  have h1 : i.s = j.s := by simpa using h1
  obtain ⟨N, h4, h5⟩ := h
  have h6 := k.sg
  have h7 : N = z.natAbs := by rw [h5, Nt.sg_abs]
  have h8 : z = z' := by rw [h5, h6, h1, h7, h3]
  subst h8
  exact ⟨⟨by rw [h1]; exact k.1, h2⟩, rfl⟩
theorem rat_eq {D : Nat} (hi : IntV u ⟨r.s, r.m⟩ z K) (hd : NatV u r.d D K) (h : q = mkRat z D) : (RatN u r q K ∧ q = q') ↔ ((IntN u ⟨r.s, r.m⟩ z K ∧ z = q'.num) ∧ (NatN u r.d D K ∧ D = q'.den)) := by
 subst h
 constructor
 ·rintro ⟨h1, rfl⟩
  have a1 := IntN.val hi h1.1
  have a2 := NatN.val hd h1.2
  have b1 := h1.1
  have b2 := h1.2
  rw [a1] at b1
  rw [a2] at b2
  exact ⟨⟨b1, a1.symm⟩, b2, a2.symm⟩
 ·rintro ⟨⟨h1, h2⟩, h3, h4⟩
  have e : mkRat z D = q' := by rw [h2, h4, Rat.mkRat_self]
  exact ⟨⟨by rw [e, ← h2]; exact h1, by rw [e, ← h4]; exact h3⟩, e⟩
def ElsN (u : World) (x : Sl) (l : List Rat) (n K : Nat) : Prop := ∀ i, i < n → ElN u x i (l.getD i 0) K
theorem ElN.ext (h : ElN u x n q K) (e : Ext u u') : ElN u' x n q K := by
 obtain ⟨r, b, o, hA, hc, hr⟩ := h
 refine ⟨r, b, o, hA, fun j hj => ?_, hr.ext e⟩
 have h9 := hc j hj
 rw [List.getElem?_eq_getElem hj] at h9 ⊢
 exact e.cell h9
theorem ElsN.ext (h : ElsN u x l n K) (e : Ext u u') : ElsN u' x l n K := fun i hi => (h i hi).ext e
theorem ElsN.nil (u : World) (x : Sl) (l : List Rat) (K : Nat) : ElsN u x l 0 K := fun i hi => absurd hi (Nat.not_lt_zero i)
theorem ElsN.step (h : ElsN u' x l n K) (hA : x.a = some ⟨b, o, none⟩) (hc : ∀ j, j < r.cs.length → u.cell? ⟨b, o + n * 3 + j, none⟩ = r.cs[j]?) (e : Ext u u') (hr : RatN u' r (l.getD n 0) K) : ElsN u' x l (n + 1) K := by
 intro i hi
 by_cases e1 : i = n
 ·subst e1
  refine ⟨r, b, o, hA, fun j hj => ?_, hr⟩
  have h9 := hc j hj
  rw [List.getElem?_eq_getElem hj] at h9 ⊢
  exact e.cell h9
 ·exact h i (by omega)
theorem ElsN.done (hx : PolV u x l K) (h : ElsN u x l n K) (hn : n = l.length) : PolN u x l K := pol_els hx fun i hi => h i (by omega)
theorem PolN.back (h : PolV u x l K) (e : Ext u u') (k : PolN u' x l L) : PolN u x l K := by
 refine pol_els h fun n hn => ?_
 obtain ⟨r, b, o, hA, hc, hr⟩ := pol_at h hn
 refine ⟨r, b, o, hA, hc, RatN.back hr e (pol_el k hn hA fun j hj => ?_)⟩
 have h9 := hc j hj
 rw [List.getElem?_eq_getElem hj] at h9 ⊢
 exact e.cell h9
theorem PolN.same (h : PolV u x l K) (e : Ext u u') : PolN u' x l K ↔ PolN u x l K := ⟨fun k => PolN.back h e k, fun k => k.ext e⟩
end
section
variable {u u' w w' : World} {x y : Sl} {i j : IL} {N M K L : Nat}
theorem k_natNormal (d : Dat u w) (h : NatV u x N K) : Calls Tryz.prog 173 #[x.v] w (Post u w fun v _ => ∃ b : Bool, v = .bool b ∧ (b = true ↔ NatN u x N K)) := by
 obtain ⟨l, a1, a2, a3, a4⟩ := h
 refine (Normal_any _ _ _ _ _ (a1.ext d.ext)).mono fun e w' ⟨⟨b, he, hb⟩, hw⟩ => ?_
 subst hw
 have key := nat_norm a1 a2 a3
 rw [a4, Int.toNat_natCast] at key
 obtain ⟨v, u', p1, p2, p3, p4, p5⟩ := post_below (v := .bool b) d he (Below.refl _ _)
 exact ⟨v, u', p1, p2, p3, p4, b, p5, hb.trans key.symm⟩
theorem k_rnSameV (d : Dat u w) (h1 : NatV u x N K) (h2 : NatN u y M L) : Calls Tryz.prog 138 #[x.v, y.v] w (Post u w fun v _ => ∃ b : Bool, v = .bool b ∧ (b = true ↔ (NatN u x N K ∧ N = M))) := by
 obtain ⟨l, a1, a2, a3, a4⟩ := h1
 refine (rSame_any _ _ _ _ _ _ _ _ _ (a1.ext d.ext) (h2.2.1.ext d.ext)).mono fun e w' ⟨he, k, hk⟩ => ?_
 have key : decide (l = Nt.digits M) = true ↔ (NatN u x N K ∧ N = M) := by
  rw [decide_eq_true_iff]
  constructor
  ·intro e1
   have e2 : N = M := by have := Nt.zyi M; rw [← e1, a4] at this; omega
   subst e2
   have hx := a1.1
   exact ⟨⟨by rw [← hx, e1]; rfl, e1 ▸ a1, by unfold dl; rw [← e1, hx]; exact a3⟩, rfl⟩
  ·rintro ⟨h3, rfl⟩
   exact a1.same h3.2.1
 obtain ⟨v, u', p1, p2, p3, p4, p5⟩ := post_below (w' := w') (v := .bool (decide (l = Nt.digits M))) d he (by rw [hk]; exact below_drewN w k)
 exact ⟨v, u', p1, p2, p3, p4, _, p5, key⟩
end
theorem k_intValid {u w : World} {i : IL} {z : Int} {K : Nat} (d : Dat u w) (hi : IntV u i z K) : Calls Tryz.prog 172 #[i.v] w (Post u w fun v _ => ∃ b : Bool, v = .bool b ∧ (b = true ↔ IntN u i z K)) := by
 refine zzl (args := [i.v]) Tryz.func172 rfl Tryz.ntmps172 (rs := [.tmp 2]) Tryz.results172 (le_b rfl) (le_b rfl) d ?_
 refine sq9 ?_
 refine zzj 1 ⟨24, i.cs⟩ ?_
 refine zza 2 (.v (.bool false)) ?_
 refine zzb 17 [(1, .adr 1 0)] [(1, ⟨24, i.cs⟩)] ?_
 refine sq9 ?_
 refine zza 3 (.adr 1 1) ?_
 refine zzh 4 (.v i.m.v) ty22 zzk ?_
 refine zzf 5 173 [i.m.v] ?_
 intro w11 u11 e11 d11
 have k16 := k_natNormal d11 ((IntV.abs hi).ext e11)
 with_reducible refine Post.mono k16 ?_
 rintro _ u14 g15 ⟨b12, rfl, hv13⟩
 rcases Bool.eq_false_or_eq_true b12 with hs17 | hs17
 ·refine zyp 6 (x := .v (.bool b12)) (.v (.bool true)) (by rw [hs17]) ?_
  refine zza 7 (.adr 1 0) ?_ (hw := w1 3 true 6)
  refine zzh 8 (.v (.bool i.s)) ty4 zzk ?_ (hw := w1 3 true 6)
  rcases Bool.eq_false_or_eq_true i.s with hs18 | hs18
  ·refine zyp 9 (x := .v (.bool i.s)) (.v (.bool true)) (by rw [hs18]) ?_ (hw := w1 3 true 6)
   refine zza 10 (.adr 1 1) ?_ (hw := w1 6 true 9)
   refine zzh 11 (.v i.m.v) ty22 zzk ?_ (hw := w1 6 true 9)
   refine zza 12 (.v (.int .i64 (i.m.n : Int))) ?_ (hw := w1 6 true 9)
   refine zza 13 (.v (.bool ((i.m.n : Int) == 0))) ?_ (hw := w1 6 true 9)
   refine zza 14 (.v (.bool ((i.m.n : Int) == 0))) ?_ (hw := w1 3 true 6)
   refine zza 15 (.v (.bool (!((i.m.n : Int) == 0)))) ?_ (hw := w1 3 true 6)
   refine zza 16 (.v (.bool (!((i.m.n : Int) == 0)))) ?_
   refine zza 2 (.v (.bool (!((i.m.n : Int) == 0)))) ?_
   refine zzb 17 [(2, .v (.bool (!((i.m.n : Int) == 0))))] [] ?_
   refine zzn (ret0 [.bool (!((i.m.n : Int) == 0))] ⟨zzp, trivial⟩ fun u19 e20 => ?_)
   have hgb12 : b12 = true ↔ NatN u i.m z.natAbs K := hv13.trans (NatN.same (IntV.abs hi) e11)
   refine ⟨_, rfl, ?_⟩
   rw [int_norm hi, ← hgb12]
   simp [hs17, hs18]
  ·refine zyp 9 (x := .v (.bool i.s)) (.v (.bool false)) (by rw [hs18]) ?_ (hw := w1 3 true 6)
   refine zzm 10 (uw 6 true false 9) ?_
   refine zzm 11 (uw 6 true false 9) ?_
   refine zzm 12 (uw 6 true false 9) ?_
   refine zzm 13 (uw 6 true false 9) ?_
   refine zza 14 (.v (.bool false)) ?_ (hw := w1 3 true 6)
   refine zza 15 (.v (.bool true)) ?_ (hw := w1 3 true 6)
   refine zza 16 (.v (.bool true)) ?_
   refine zza 2 (.v (.bool true)) ?_
   refine zzb 17 [(2, .v (.bool true))] [] ?_
   refine zzn (ret0 [.bool true] ⟨zzp, trivial⟩ fun u21 e22 => ?_)
   have hgb12 : b12 = true ↔ NatN u i.m z.natAbs K := hv13.trans (NatN.same (IntV.abs hi) e11)
   refine ⟨_, rfl, ?_⟩
   rw [int_norm hi, ← hgb12]
   simp [hs17, hs18]
 ·refine zyp 6 (x := .v (.bool b12)) (.v (.bool false)) (by rw [hs17]) ?_
  refine zzm 7 (uw 3 true false 6) ?_
  refine zzm 8 (uw 3 true false 6) ?_
  refine zzm 9 (uw 3 true false 6) ?_
  refine zzm 10 (unwantedU (g := 6) (b := true) (t := 9) (by kernel_rfl) (by kernel_rfl) (by kernel_rfl)) ?_
  refine zzm 11 (unwantedU (g := 6) (b := true) (t := 9) (by kernel_rfl) (by kernel_rfl) (by kernel_rfl)) ?_
  refine zzm 12 (unwantedU (g := 6) (b := true) (t := 9) (by kernel_rfl) (by kernel_rfl) (by kernel_rfl)) ?_
  refine zzm 13 (unwantedU (g := 6) (b := true) (t := 9) (by kernel_rfl) (by kernel_rfl) (by kernel_rfl)) ?_
  refine zzm 14 (uw 3 true false 6) ?_
  refine zzm 15 (uw 3 true false 6) ?_
  refine zza 16 (.v (.bool false)) ?_
  refine zza 2 (.v (.bool false)) ?_
  refine zzb 17 [(2, .v (.bool false))] [] ?_
  refine zzn (ret0 [.bool false] ⟨zzp, trivial⟩ fun u23 e24 => ?_)
  have hgb12 : b12 = true ↔ NatN u i.m z.natAbs K := hv13.trans (NatN.same (IntV.abs hi) e11)
  refine ⟨_, rfl, ?_⟩
  rw [int_norm hi, ← hgb12]
  simp [hs17]
theorem k_ratValid {u w : World} {r : RL} {q : Rat} {K : Nat} (d : Dat u w) (hr : RatV u r q K) (hK : K ≤ 400000000) : Calls Tryz.prog 131 #[r.v] w (Post u w fun v _ => ∃ b : Bool, v = .bool b ∧ (b = true ↔ RatN u r q K)) := by
 obtain ⟨⟨z, D, hi, hd, hq⟩, hK1⟩ := hr
 refine zzl (args := [r.v]) Tryz.func131 rfl Tryz.ntmps131 (rs := [.tmp 2]) Tryz.results131 (le_b rfl) (le_b rfl) d ?_
 refine sq9 ?_
 refine zzj 1 ⟨26, r.cs⟩ ?_
 refine zza 2 (.v (.bool false)) ?_
 refine zzb 26 [(1, .adr 1 0)] [(1, ⟨26, r.cs⟩)] ?_
 refine zzc ?_
 refine sq9 ?_
 refine zza 3 (.adr 1 0) ?_
 refine zzh 4 (.v (.agg #[.bool r.s, r.m.v])) ty24 zzd ?_
 refine zzf 5 172 [.agg #[.bool r.s, r.m.v]] ?_
 intro w11 u11 e11 d11
 have k16 := k_intValid d11 (hi.ext e11)
 with_reducible refine Post.mono k16 ?_
 rintro _ u14 g15 ⟨b12, rfl, hv13⟩
 refine zza 6 (.v (.bool (!b12))) ?_
 rcases Bool.eq_false_or_eq_true (!b12) with hs17 | hs17
 ·refine zyp 7 (x := .v (.bool (!b12))) (.v (.bool true)) (by rw [hs17]) ?_
  refine zzm 8 (uw 4 false true 7) ?_
  refine zzm 9 (uw 4 false true 7) ?_
  refine zzm 10 (uw 4 false true 7) ?_
  refine zzm 11 (uw 4 false true 7) ?_
  refine zza 12 (.v (.bool true)) ?_
  refine zza 13 (.v (.bool true)) ?_
  refine zzm 14 (uw 10 false true 13) ?_
  refine zzm 15 (uw 10 false true 13) ?_
  refine zzm 16 (uw 10 false true 13) ?_
  refine zzm 17 (uw 10 false true 13) ?_
  refine zza 18 (.v (.bool true)) ?_
  refine zzb 26 [(1, .adr 1 0), (18, .v (.bool true))] [(1, ⟨26, r.cs⟩)] ?_
  refine zyq (by kernel_rfl) ?_
  refine sq9 ?_
  refine zza 2 (.v (.bool false)) ?_
  refine zzb 26 [(2, .v (.bool false))] [] ?_
  refine zzn (zzv (ret0 [.bool false] ⟨zzp, trivial⟩ fun u18 e19 => ?_))
  have hgb12 : b12 = true ↔ IntN u ⟨r.s, r.m⟩ z K := hv13.trans (IntN.same hi e11)
  refine ⟨_, rfl, ?_⟩
  rw [hq, rat_norm hi hd hK1, ← hgb12]
  have nhs17 : b12 = false := by simpa using hs17
  simp [nhs17]
 ·refine zyp 7 (x := .v (.bool (!b12))) (.v (.bool false)) (by rw [hs17]) ?_
  refine zza 8 (.adr 1 2) ?_ (hw := w1 4 false 7)
  refine zzh 9 (.v r.d.v) ty22 zzk ?_ (hw := w1 4 false 7)
  refine zzf 10 173 [r.d.v] ?_ (hw := w1 4 false 7)
  intro w20 u20 e20 d20
  have k25 := k_natNormal d20 (hd.ext (e11.trans (g15.ext.trans e20)))
  with_reducible refine Post.mono k25 ?_
  rintro _ u23 g24 ⟨b21, rfl, hv22⟩
  refine zza 11 (.v (.bool (!b21))) ?_ (hw := w1 4 false 7)
  refine zza 12 (.v (.bool (!b21))) ?_
  rcases Bool.eq_false_or_eq_true (!b21) with hs26 | hs26
  ·refine zyp 13 (x := .v (.bool (!b21))) (.v (.bool true)) (by rw [hs26]) ?_
   refine zzm 14 (uw 10 false true 13) ?_
   refine zzm 15 (uw 10 false true 13) ?_
   refine zzm 16 (uw 10 false true 13) ?_
   refine zzm 17 (uw 10 false true 13) ?_
   refine zza 18 (.v (.bool true)) ?_
   refine zzb 26 [(1, .adr 1 0), (18, .v (.bool true))] [(1, ⟨26, r.cs⟩)] ?_
   refine zyq (by kernel_rfl) ?_
   refine sq9 ?_
   refine zza 2 (.v (.bool false)) ?_
   refine zzb 26 [(2, .v (.bool false))] [] ?_
   refine zzn (zzv (ret0 [.bool false] ⟨zzp, trivial⟩ fun u27 e28 => ?_))
   have hgb12 : b12 = true ↔ IntN u ⟨r.s, r.m⟩ z K := hv13.trans (IntN.same hi e11)
   have hgb21 : b21 = true ↔ NatN u r.d D K := hv22.trans (NatN.same hd (e11.trans (g15.ext.trans e20)))
   refine ⟨_, rfl, ?_⟩
   rw [hq, rat_norm hi hd hK1, ← hgb12, ← hgb21]
   have nhs17 : b12 = true := by simpa using hs17
   have nhs26 : b21 = false := by simpa using hs26
   simp [nhs17, nhs26]
  ·refine zyp 13 (x := .v (.bool (!b21))) (.v (.bool false)) (by rw [hs26]) ?_
   refine zza 14 (.adr 1 2) ?_ (hw := w1 10 false 13)
   refine zzh 15 (.v r.d.v) ty22 zzk ?_ (hw := w1 10 false 13)
   refine zza 16 (.v (.int .i64 (r.d.n : Int))) ?_ (hw := w1 10 false 13)
   refine zza 17 (.v (.bool ((r.d.n : Int) == 0))) ?_ (hw := w1 10 false 13)
   refine zza 18 (.v (.bool ((r.d.n : Int) == 0))) ?_
   refine zzb 26 [(1, .adr 1 0), (18, .v (.bool ((r.d.n : Int) == 0)))] [(1, ⟨26, r.cs⟩)] ?_
   refine zzt (b := (r.d.n : Int) == 0) (by kernel_rfl) (fun hb29 => ?_) (fun hb29 => ?_)
   ·replace hb29 : ((r.d.n : Int) == 0) = true := hb29
    have qhb29 : (r.d.n : Int) = 0 := by simpa using hb29
    refine sq9 ?_
    refine zza 2 (.v (.bool false)) ?_
    refine zzb 26 [(2, .v (.bool false))] [] ?_
    refine zzn (zzv (ret0 [.bool false] ⟨zzp, trivial⟩ fun u30 e31 => ?_))
    have hgb12 : b12 = true ↔ IntN u ⟨r.s, r.m⟩ z K := hv13.trans (IntN.same hi e11)
    have hgb21 : b21 = true ↔ NatN u r.d D K := hv22.trans (NatN.same hd (e11.trans (g15.ext.trans e20)))
    refine ⟨_, rfl, ?_⟩
    rw [hq, rat_norm hi hd hK1, ← hgb12, ← hgb21]
    have nhs17 : b12 = true := by simpa using hs17
    have nhs26 : b21 = true := by simpa using hs26
    have hz9 : r.d.n = 0 := by have h9 := hb29; simp at h9; omega
    simp [nhs17, nhs26, hz9]
   ·replace hb29 : ((r.d.n : Int) == 0) = false := hb29
    have qhb29 : ¬ ((r.d.n : Int) = 0) := by simpa using hb29
    refine zzr (zzo ?_)
    refine sq9 ?_
    refine zza 19 (.adr 1 0) ?_
    refine zza 20 (.adr 1 1) ?_
    refine zzh 21 (.v r.m.v) ty22 zzk ?_
    refine zza 22 (.adr 1 2) ?_
    refine zzh 23 (.v r.d.v) ty22 zzk ?_
    refine zzf 24 175 [r.m.v, r.d.v] ?_
    intro w32 u32 e32 d32
    have k37 := k_natGcd d32 ((IntV.abs hi).ext (e11.trans (g15.ext.trans (e20.trans (g24.ext.trans e32))))) (hd.ext (e11.trans (g15.ext.trans (e20.trans (g24.ext.trans e32))))) (by omega) (by omega)
    with_reducible refine Post.mono k37 ?_
    rintro _ u35 g36 ⟨x33, rfl, h34⟩
    refine zzf 25 174 [x33.v] ?_
    intro w38 u38 e38 d38
    have k41 := k_isOne d38 (h34.ext e38)
    with_reducible refine Post.mono k41 ?_
    rintro _ u39 g40 rfl
    refine zza 2 (.v (.bool (decide ((Nat.gcd (z : Int).natAbs D) = 1)))) ?_
    refine zzb 26 [(2, .v (.bool (decide ((Nat.gcd (z : Int).natAbs D) = 1))))] [] ?_
    refine zzn (ret0 [.bool (decide ((Nat.gcd (z : Int).natAbs D) = 1))] ⟨zzp, trivial⟩ fun u42 e43 => ?_)
    have hgb12 : b12 = true ↔ IntN u ⟨r.s, r.m⟩ z K := hv13.trans (IntN.same hi e11)
    have hgb21 : b21 = true ↔ NatN u r.d D K := hv22.trans (NatN.same hd (e11.trans (g15.ext.trans e20)))
    refine ⟨_, rfl, ?_⟩
    rw [hq, rat_norm hi hd hK1, ← hgb12, ← hgb21]
    have nhs17 : b12 = true := by simpa using hs17
    have nhs26 : b21 = true := by simpa using hs26
    have hz9 : r.d.n ≠ 0 := by have h9 := hb29; simp at h9; omega
    simp [nhs17, nhs26, hz9]
set_option maxHeartbeats 2000000 in
theorem k_poValid {u w : World} {x : Sl} {l : List Rat} {K : Nat} (d : Dat u w) (hx : PolV u x l K) (hK : K ≤ 40000000) (hx9 : l.length ≤ 1000000000) : Calls Tryz.prog 81 #[x.v] w (Post u w fun v _ => ∃ b : Bool, v = .bool b ∧ (b = true ↔ PolN u x l K ∧ Nt.trimQ l = l)) := by
 have hlen := hx.len
 have htl := Nt.zzg l
 refine zzl (args := [.slice x.a x.n x.c]) Tryz.func81 rfl Tryz.ntmps81 (rs := [.tmp 2]) Tryz.results81 (le_b rfl) (le_b rfl) d ?_
 refine sq9 ?_
 refine zza 2 (.v (.bool false)) ?_
 refine zzb 21 [(0, .v x.v)] [] ?_
 refine zzc ?_
 refine sq9 ?_
 refine zza 5 (.v x.v) ?_
 refine zza 6 (.v (.int .i64 (x.n : Int))) ?_
 refine zza 7 (.v (.int .i64 0)) ?_
 refine zzb 21 [(0, .v x.v), (5, .v x.v), (6, .v (.int .i64 (x.n : Int))), (7, .v (.int .i64 0))] [] ?_
 refine zzs ?_
 refine zym (I := fun m11 S' u' => ∃ (i : Nat), (m11 = l.length - i) ∧ (i ≤ l.length) ∧ (S' = St.of 21 [(0, .v (.slice x.a x.n x.c)), (5, .v (.slice x.a x.n x.c)), (6, .v (.int .i64 (x.n : Int))), (7, .v (.int .i64 (i : Int)))] []) ∧ (Ext u u') ∧ (ElsN u' x l i K)) (fun m S u1 u2 e h => by obtain ⟨i, hm, p0, hS, hE, f0⟩ := h; exact ⟨i, hm, p0, hS, hE.trans e, f0.ext e⟩) _ (T := St.of 21 [(0, .v (.slice x.a x.n x.c)), (5, .v (.slice x.a x.n x.c)), (6, .v (.int .i64 (x.n : Int))), (7, .v (.int .i64 0))] []) (by exact zzu _ _ _) ⟨0, rfl, Nat.zero_le _, rfl, Ext.refl _, ElsN.nil _ _ _ _⟩ ?_
 rintro m11 _ u11 ⟨i, hm11, hi, rfl, e11, hE⟩
 refine sq9 ?_
 refine zza 8 (.v (.bool (decide ((i : Int) < (x.n : Int))))) ?_
 refine zzb 21 [(0, .v x.v), (5, .v x.v), (6, .v (.int .i64 (x.n : Int))), (7, .v (.int .i64 (i : Int))), (8, .v (.bool (decide ((i : Int) < (x.n : Int)))))] [] ?_
 refine zzc ?_
 refine zzt (b := decide ((i : Int) < (x.n : Int))) (by kernel_rfl) (fun hb12 => ?_) (fun hb12 => ?_)
 ·replace hb12 : (decide ((i : Int) < (x.n : Int))) = true := hb12
  have qhb12 := of_decide_eq_true hb12
  refine zzr (zzo ?_)
  refine zzc ?_
  refine zzs ?_
  refine sq9 ?_
  have hl13 := (hx.ext e11).len
  obtain ⟨r13, b13, o13, hA13, hc13, hr13⟩ := pol_at (hx.ext e11) (i := i) (by omega)
  refine zzz 9 (o13 + i * 3) (n := x.n) (off := o13) (sz := 3) (i := (i : Int)) (by omega) hA13 (by omega) (by omega) sl41 ?_
  refine zyl 10 r13.cs hc13 ty26 ?_
  refine zzj 4 ⟨26, [.bool false, .slice none 0 0, .slice none 0 0]⟩ ?_
  refine zzi ⟨26, r13.cs⟩ ty26 ?_
  refine zzb 21 [(0, .v x.v), (4, .adr 4 0), (5, .v x.v), (6, .v (.int .i64 (x.n : Int))), (7, .v (.int .i64 (i : Int)))] [(4, ⟨26, r13.cs⟩)] ?_
  refine sq9 ?_
  refine zzh 11 (.v (r13.v)) ty26 zzd ?_
  refine zzf 12 131 [r13.v] ?_
  intro w14 u14 e14 d14
  have k19 := k_ratValid (r := r13) d14 (hr13.ext e14) (by omega)
  with_reducible refine Post.mono k19 ?_
  rintro _ u17 g18 ⟨b15, rfl, hv16⟩
  refine zza 13 (.v (.bool (!b15))) ?_
  refine zzb 21 [(0, .v x.v), (5, .v x.v), (6, .v (.int .i64 (x.n : Int))), (7, .v (.int .i64 (i : Int))), (13, .v (.bool (!b15)))] [] ?_
  refine zzt (b := !b15) (by kernel_rfl) (fun hb20 => ?_) (fun hb20 => ?_)
  ·replace hb20 : (!b15) = true := hb20
   refine sq9 ?_
   refine zza 2 (.v (.bool false)) ?_
   refine zzb 21 [(2, .v (.bool false))] [] ?_
   refine zzn (zyt (zzv (zys (zyt (zzv (ret0 [.bool false] ⟨zzp, trivial⟩ fun u21 e22 => ?_))))))
   refine ⟨false, rfl, fun h => absurd h (by decide), fun k => ?_⟩
   have hcr := hv16.2 ((pol_el (k.1.ext e11) (by omega) hA13 hc13).ext e14)
   simp [hcr] at hb20
  ·replace hb20 : (!b15) = false := hb20
   refine zzr (zzo ?_)
   refine zze ?_
   refine zyp 14 (x := .v (.int .i64 (IntKind.i64.wrap ((i : Int) + 1)))) (.v (.int .i64 ((i + 1 : Nat) : Int))) (eqI (by rw [IntWalk.i64_in _ (by omega)]; omega)) ?_
   refine zza 7 (.v (.int .i64 ((i + 1 : Nat) : Int))) ?_
   refine zzw ?_
   have hcr : RatN u14 r13 (l.getD i 0) K := hv16.1 (by simpa using hb20)
   refine ⟨_, ?_, St.of 21 [(0, .v (.slice x.a x.n x.c)), (5, .v (.slice x.a x.n x.c)), (6, .v (.int .i64 (x.n : Int))), (7, .v (.int .i64 ((i + 1 : Nat) : Int)))] [], by exact zzu _ _ _, i + 1, rfl, by omega, rfl, (e11.trans (e14.trans g18.ext)), (ElsN.step ((hE.ext (e14.trans g18.ext))) hA13 hc13 (e14.trans g18.ext) (hcr.ext g18.ext))⟩
   omega
 ·replace hb12 : (decide ((i : Int) < (x.n : Int))) = false := hb12
  have qhb12 := of_decide_eq_false hb12
  refine zyb ?_
  refine zzo ?_
  refine sq9 ?_
  refine zza 15 (.v x.v) ?_
  refine zzf 16 118 [x.v] ?_
  intro w23 u23 e23 d23
  have k26 := k_cut d23 (hx.ext (e11.trans e23)) (by omega) (by first|omega|(simp;omega) | (refine Nat.le_trans (Nt.zzg _) ?_; first|omega|(simp;omega)) | (refine Nat.le_trans (Nt.zzg _) ?_; simp only [List.length_map]; refine Nat.le_trans (Nt.zzg _) ?_; first|omega|(simp;omega)))
  with_reducible refine Post.mono k26 ?_
  rintro _ u24 g25 rfl
  refine zza 17 (.v (.int .i64 (((Nt.trimQ l).length : Nat) : Int))) ?_
  refine zza 18 (.v x.v) ?_
  refine zza 19 (.v (.int .i64 (x.n : Int))) ?_
  refine zza 20 (.v (.bool ((((Nt.trimQ l).length : Nat) : Int) == (x.n : Int)))) ?_
  refine zza 2 (.v (.bool ((((Nt.trimQ l).length : Nat) : Int) == (x.n : Int)))) ?_
  refine zzb 21 [(2, .v (.bool ((((Nt.trimQ l).length : Nat) : Int) == (x.n : Int))))] [] ?_
  refine zzn (ret0 [.bool ((((Nt.trimQ l).length : Nat) : Int) == (x.n : Int))] ⟨zzp, trivial⟩ fun u27 e28 => ?_)
  have hin : i = l.length := by omega
  have hpn : PolN u x l K := PolN.back hx (e11.trans (e23.trans (g25.ext.trans e28))) (ElsN.done (hx.ext (e11.trans (e23.trans (g25.ext.trans e28)))) ((hE.ext (e23.trans (g25.ext.trans e28)))) hin)
  refine ⟨_, rfl, ?_⟩
  rw [and_iff_right hpn, Nt.trim_same]
  simp
  omega
theorem k_riSameV {u w : World} {i j : IL} {z z' : Int} {K L : Nat} (d : Dat u w) (hi : IntV u i z K) (hj : IntN u j z' L) : Calls Tryz.prog 137 #[i.v, j.v] w (Post u w fun v _ => ∃ b : Bool, v = .bool b ∧ (b = true ↔ (IntN u i z K ∧ z = z'))) := by
 refine zzl (args := [i.v, j.v]) Tryz.func137 rfl Tryz.ntmps137 (rs := [.tmp 4]) Tryz.results137 (le_b rfl) (le_b rfl) d ?_
 refine sq9 ?_
 refine zzj 2 ⟨24, i.cs⟩ ?_
 refine zzj 3 ⟨24, j.cs⟩ ?_
 refine zza 4 (.v (.bool false)) ?_
 refine zzb 17 [(2, .adr 2 0), (3, .adr 3 0)] [(2, ⟨24, i.cs⟩), (3, ⟨24, j.cs⟩)] ?_
 refine sq9 ?_
 refine zza 5 (.adr 2 0) ?_
 refine zzh 6 (.v (.bool i.s)) ty4 zzk ?_
 refine zza 7 (.adr 3 0) ?_
 refine zzh 8 (.v (.bool j.s)) ty4 zzk ?_
 refine zza 9 (.v (.bool (i.s == j.s))) ?_
 rcases Bool.eq_false_or_eq_true (i.s == j.s) with hs11 | hs11
 ·refine zyp 10 (x := .v (.bool (i.s == j.s))) (.v (.bool true)) (by rw [hs11]) ?_
  refine zza 11 (.adr 2 1) ?_ (hw := w1 5 true 10)
  refine zzh 12 (.v i.m.v) ty22 zzk ?_ (hw := w1 5 true 10)
  refine zza 13 (.adr 3 1) ?_ (hw := w1 5 true 10)
  refine zzh 14 (.v j.m.v) ty22 zzk ?_ (hw := w1 5 true 10)
  refine zzf 15 138 [i.m.v, j.m.v] ?_ (hw := w1 5 true 10)
  intro w12 u12 e12 d12
  have k17 := k_rnSameV d12 ((IntV.abs hi).ext e12) ((int_mag hj).ext e12)
  with_reducible refine Post.mono k17 ?_
  rintro _ u15 g16 ⟨b13, rfl, hv14⟩
  refine zza 16 (.v (.bool b13)) ?_
  refine zza 4 (.v (.bool b13)) ?_
  refine zzb 17 [(4, .v (.bool b13))] [] ?_
  refine zzn (ret0 [.bool b13] ⟨zzp, trivial⟩ fun u18 e19 => ?_)
  have hgb13 : b13 = true ↔ (NatN u i.m z.natAbs K ∧ z.natAbs = z'.natAbs) := hv14.trans (and_congr_left' (NatN.same (IntV.abs hi) e12))
  refine ⟨_, rfl, ?_⟩
  rw [int_eq hi hj, ← hgb13]
  simp [hs11]
 ·refine zyp 10 (x := .v (.bool (i.s == j.s))) (.v (.bool false)) (by rw [hs11]) ?_
  refine zzm 11 (uw 5 true false 10) ?_
  refine zzm 12 (uw 5 true false 10) ?_
  refine zzm 13 (uw 5 true false 10) ?_
  refine zzm 14 (uw 5 true false 10) ?_
  refine zzm 15 (uw 5 true false 10) ?_
  refine zza 16 (.v (.bool false)) ?_
  refine zza 4 (.v (.bool false)) ?_
  refine zzb 17 [(4, .v (.bool false))] [] ?_
  refine zzn (ret0 [.bool false] ⟨zzp, trivial⟩ fun u20 e21 => ?_)
    
  refine ⟨_, rfl, ?_⟩
  rw [int_eq hi hj]
  simp [hs11]
theorem k_rqSameV {u w : World} {r s : RL} {q y : Rat} {K L : Nat} (d : Dat u w) (hr : RatV u r q K) (hs : RatN u s y L) : Calls Tryz.prog 71 #[r.v, s.v] w (Post u w fun v _ => ∃ b : Bool, v = .bool b ∧ (b = true ↔ (RatN u r q K ∧ q = y))) := by
 obtain ⟨⟨z, D, hi, hd, hq⟩, hK1⟩ := hr
 refine zzl (args := [r.v, s.v]) Tryz.func71 rfl Tryz.ntmps71 (rs := [.tmp 4]) Tryz.results71 (le_b rfl) (le_b rfl) d ?_
 refine sq9 ?_
 refine zzj 2 ⟨26, r.cs⟩ ?_
 refine zzj 3 ⟨26, s.cs⟩ ?_
 refine zza 4 (.v (.bool false)) ?_
 refine zzb 17 [(2, .adr 2 0), (3, .adr 3 0)] [(2, ⟨26, r.cs⟩), (3, ⟨26, s.cs⟩)] ?_
 refine sq9 ?_
 refine zza 5 (.adr 2 0) ?_
 refine zzh 6 (.v (.agg #[.bool r.s, r.m.v])) ty24 zzd ?_
 refine zza 7 (.adr 3 0) ?_
 refine zzh 8 (.v (.agg #[.bool s.s, s.m.v])) ty24 zzd ?_
 refine zzf 9 137 [.agg #[.bool r.s, r.m.v], .agg #[.bool s.s, s.m.v]] ?_
 intro w11 u11 e11 d11
 have k16 := k_riSameV d11 (hi.ext e11) ((RatN.num hs).ext e11)
 with_reducible refine Post.mono k16 ?_
 rintro _ u14 g15 ⟨b12, rfl, hv13⟩
 rcases Bool.eq_false_or_eq_true b12 with hs17 | hs17
 ·refine zyp 10 (x := .v (.bool b12)) (.v (.bool true)) (by rw [hs17]) ?_
  refine zza 11 (.adr 2 2) ?_ (hw := w1 5 true 10)
  refine zzh 12 (.v r.d.v) ty22 zzk ?_ (hw := w1 5 true 10)
  refine zza 13 (.adr 3 2) ?_ (hw := w1 5 true 10)
  refine zzh 14 (.v s.d.v) ty22 zzk ?_ (hw := w1 5 true 10)
  refine zzf 15 138 [r.d.v, s.d.v] ?_ (hw := w1 5 true 10)
  intro w18 u18 e18 d18
  have k23 := k_rnSameV d18 (hd.ext (e11.trans (g15.ext.trans e18))) ((RatN.den hs).ext (e11.trans (g15.ext.trans e18)))
  with_reducible refine Post.mono k23 ?_
  rintro _ u21 g22 ⟨b19, rfl, hv20⟩
  refine zza 16 (.v (.bool b19)) ?_
  refine zza 4 (.v (.bool b19)) ?_
  refine zzb 17 [(4, .v (.bool b19))] [] ?_
  refine zzn (ret0 [.bool b19] ⟨zzp, trivial⟩ fun u24 e25 => ?_)
  have hgb12 : b12 = true ↔ (IntN u ⟨r.s, r.m⟩ z K ∧ z = y.num) := hv13.trans (and_congr_left' (IntN.same hi e11))
  have hgb19 : b19 = true ↔ (NatN u r.d D K ∧ D = y.den) := hv20.trans (and_congr_left' (NatN.same hd (e11.trans (g15.ext.trans e18))))
  refine ⟨_, rfl, ?_⟩
  rw [rat_eq hi hd hq, ← hgb12, ← hgb19]
  simp [hs17]
 ·refine zyp 10 (x := .v (.bool b12)) (.v (.bool false)) (by rw [hs17]) ?_
  refine zzm 11 (uw 5 true false 10) ?_
  refine zzm 12 (uw 5 true false 10) ?_
  refine zzm 13 (uw 5 true false 10) ?_
  refine zzm 14 (uw 5 true false 10) ?_
  refine zzm 15 (uw 5 true false 10) ?_
  refine zza 16 (.v (.bool false)) ?_
  refine zza 4 (.v (.bool false)) ?_
  refine zzb 17 [(4, .v (.bool false))] [] ?_
  refine zzn (ret0 [.bool false] ⟨zzp, trivial⟩ fun u26 e27 => ?_)
  have hgb12 : b12 = true ↔ (IntN u ⟨r.s, r.m⟩ z K ∧ z = y.num) := hv13.trans (and_congr_left' (IntN.same hi e11))
  refine ⟨_, rfl, ?_⟩
  rw [rat_eq hi hd hq, ← hgb12]
  simp [hs17]
set_option maxHeartbeats 1000000 in
theorem k_sameListV {u w : World} {x y : Sl} {l m : List Rat} {K M : Nat} (d : Dat u w) (hx : PolV u x l K) (hy : PolN u y m M) (hx9 : l.length ≤ 1000000000) (hy9 : m.length ≤ 1000000000) : Calls Tryz.prog 117 #[x.v, y.v] w (Post u w fun v _ => ∃ b : Bool, v = .bool b ∧ (b = true ↔ (PolN u x l K ∧ l = m))) := by
 have hlen := hx.len
 have hlen2 := hy.len
 refine zzl (args := [.slice x.a x.n x.c, .slice y.a y.n y.c]) Tryz.func117 rfl Tryz.ntmps117 (rs := [.tmp 4]) Tryz.results117 (le_b rfl) (le_b rfl) d ?_
 refine sq9 ?_
 refine zza 4 (.v (.bool false)) ?_
 refine zzb 27 [(0, .v x.v), (1, .v y.v)] [] ?_
 refine zzc ?_
 refine sq9 ?_
 refine zza 6 (.v x.v) ?_
 refine zza 7 (.v (.int .i64 (x.n : Int))) ?_
 refine zza 8 (.v y.v) ?_
 refine zza 9 (.v (.int .i64 (y.n : Int))) ?_
 refine zza 10 (.v (.bool ((x.n : Int) != (y.n : Int)))) ?_
 refine zzb 27 [(0, .v x.v), (1, .v y.v), (10, .v (.bool ((x.n : Int) != (y.n : Int))))] [] ?_
 refine zzt (b := (x.n : Int) != (y.n : Int)) (by kernel_rfl) (fun hb11 => ?_) (fun hb11 => ?_)
 ·replace hb11 : ((x.n : Int) != (y.n : Int)) = true := hb11
  refine sq9 ?_
  refine zza 4 (.v (.bool false)) ?_
  refine zzb 27 [(4, .v (.bool false))] [] ?_
  refine zzn (zzv (ret0 [.bool false] ⟨zzp, trivial⟩ fun u12 e13 => ?_))
  refine ⟨false, rfl, fun h => absurd h (by decide), fun k => ?_⟩
  have h9 := congrArg List.length k.2
  have h8 := hb11
  simp at h8
  omega
 ·replace hb11 : ((x.n : Int) != (y.n : Int)) = false := hb11
  have hnn : x.n = y.n := by have h9 : (x.n : Int) = (y.n : Int) := (by simpa using hb11); omega
  refine zzr (zzo ?_)
  refine zzc ?_
  refine sq9 ?_
  refine zza 5 (.v (.int .i64 0)) ?_
  refine zzb 27 [(0, .v x.v), (1, .v y.v), (5, .v (.int .i64 0))] [] ?_
  refine zzs ?_
  refine zym (I := fun m14 S' u' => ∃ (i : Nat), (m14 = x.n - i) ∧ (i ≤ x.n) ∧ (∀ j, j < i → l.getD j 0 = m.getD j 0) ∧ (S' = St.of 27 [(0, .v (.slice x.a x.n x.c)), (1, .v (.slice y.a y.n y.c)), (5, .v (.int .i64 (i : Int)))] []) ∧ (Ext u u') ∧ (ElsN u' x l i K)) (fun m S u1 u2 e h => by obtain ⟨i, hm, p0, p1, hS, hE, f0⟩ := h; exact ⟨i, hm, p0, p1, hS, hE.trans e, f0.ext e⟩) _ (T := St.of 27 [(0, .v (.slice x.a x.n x.c)), (1, .v (.slice y.a y.n y.c)), (5, .v (.int .i64 0))] []) (by exact zzu _ _ _) ⟨0, rfl, by omega, fun j hj => by omega, rfl, Ext.refl _, ElsN.nil _ _ _ _⟩ ?_
  rintro m14 _ u14 ⟨i, hm14, hi, hz, rfl, e14, hE⟩
  refine zzc ?_
  refine sq9 ?_
  refine zza 11 (.v (.int .i64 (i : Int))) ?_
  refine zza 12 (.v x.v) ?_
  refine zza 13 (.v (.int .i64 (x.n : Int))) ?_
  refine zza 14 (.v (.bool (decide ((i : Int) < (x.n : Int))))) ?_
  refine zzb 27 [(0, .v x.v), (1, .v y.v), (5, .v (.int .i64 (i : Int))), (14, .v (.bool (decide ((i : Int) < (x.n : Int)))))] [] ?_
  refine zzt (b := decide ((i : Int) < (x.n : Int))) (by kernel_rfl) (fun hb15 => ?_) (fun hb15 => ?_)
  ·replace hb15 : (decide ((i : Int) < (x.n : Int))) = true := hb15
   have qhb15 := of_decide_eq_true hb15
   refine zzr (zzo ?_)
   refine zzc ?_
   refine zzs ?_
   refine zzc ?_
   refine zzy [0, 0, 3, 7, 0, 0, 48, 112, 255, 511] [(0, []), (1, []), (2, []), (3, []), (4, []), (5, []), (6, []), (7, []), (8, []), (9, [])] (by kernel_rfl) (by kernel_rfl) ?_
   refine zza 17 (.v x.v) ?_
   refine zza 18 (.v (.int .i64 (i : Int))) ?_
   have hl16 := (hx.ext e14).len
   obtain ⟨r16, b16, o16, hA16, hc16, hr16⟩ := pol_at (hx.ext e14) (i := i) (by omega)
   refine zzz 19 (o16 + i * 3) (n := x.n) (off := o16) (sz := 3) (i := (i : Int)) (by omega) hA16 (by omega) (by omega) sl40 ?_
   refine zyl 20 r16.cs hc16 ty26 ?_
   refine zza 21 (.v y.v) ?_
   refine zza 22 (.v (.int .i64 (i : Int))) ?_
   have hl17 := (hy.ext e14).len
   obtain ⟨r17, b17, o17, hA17, hc17, hr17⟩ := pol_atN (hy.ext e14) (i := i) (by omega)
   refine zzz 23 (o17 + i * 3) (n := y.n) (off := o17) (sz := 3) (i := (i : Int)) (by omega) hA17 (by omega) (by omega) sl40 ?_
   refine zyl 24 r17.cs hc17 ty26 ?_
   refine zzf 25 71 [r16.v, r17.v] ?_
   intro w18 u18 e18 d18
   have k23 := k_rqSameV (r := r16) (s := r17) d18 (hr16.ext e18) (hr17.ext e18)
   with_reducible refine Post.mono k23 ?_
   rintro _ u21 g22 ⟨b19, rfl, hv20⟩
   refine zza 26 (.v (.bool (!b19))) ?_
   refine zzb 27 [(0, .v x.v), (1, .v y.v), (5, .v (.int .i64 (i : Int))), (26, .v (.bool (!b19)))] [] ?_
   refine zzt (b := !b19) (by kernel_rfl) (fun hb24 => ?_) (fun hb24 => ?_)
   ·replace hb24 : (!b19) = true := hb24
    refine sq9 ?_
    refine zza 4 (.v (.bool false)) ?_
    refine zzb 27 [(4, .v (.bool false))] [] ?_
    refine zzn (zyt (zzv (zys (zyt (zzv (ret0 [.bool false] ⟨zzp, trivial⟩ fun u25 e26 => ?_))))))
    refine ⟨false, rfl, fun h => absurd h (by decide), fun k => ?_⟩
    have hcr := hv20.2 ⟨(pol_el (k.1.ext e14) (by omega) hA16 hc16).ext e18, by rw [k.2]⟩
    simp [hcr] at hb24
   ·replace hb24 : (!b19) = false := hb24
    refine zzr (zzo ?_)
    refine zze ?_
    refine zza 15 (.v (.int .i64 (i : Int))) ?_
    refine zyp 16 (x := .v (.int .i64 (IntKind.i64.wrap ((i : Int) + 1)))) (.v (.int .i64 ((i + 1 : Nat) : Int))) (eqI (by rw [IntWalk.i64_in _ (by omega)]; omega)) ?_
    refine zza 5 (.v (.int .i64 ((i + 1 : Nat) : Int))) ?_
    refine zzw ?_
    have hcr : RatN u18 r16 (l.getD i 0) K ∧ l.getD i 0 = m.getD i 0 := hv20.1 (by simpa using hb24)
    refine ⟨_, ?_, St.of 27 [(0, .v (.slice x.a x.n x.c)), (1, .v (.slice y.a y.n y.c)), (5, .v (.int .i64 ((i + 1 : Nat) : Int)))] [], by exact zzu _ _ _, i + 1, rfl, by omega, (fun j hj => by by_cases e : j = i; (rw [e]; exact hcr.2); exact hz j (by omega)), rfl, (e14.trans (e18.trans g22.ext)), (ElsN.step ((hE.ext (e18.trans g22.ext))) hA16 hc16 (e18.trans g22.ext) (hcr.1.ext g22.ext))⟩
    omega
  ·replace hb15 : (decide ((i : Int) < (x.n : Int))) = false := hb15
   have qhb15 := of_decide_eq_false hb15
   refine zyb ?_
   refine zzo ?_
   refine sq9 ?_
   refine zza 4 (.v (.bool true)) ?_
   refine zzb 27 [(4, .v (.bool true))] [] ?_
   refine zzn (ret0 [.bool true] ⟨zzp, trivial⟩ fun u27 e28 => ?_)
   have hin : i = l.length := by omega
   have hpn : PolN u x l K := PolN.back hx (e14.trans e28) (ElsN.done (hx.ext (e14.trans e28)) ((hE.ext e28)) hin)
   exact ⟨true, rfl, fun _ => ⟨hpn, Nt.list_ext (by omega) (fun j => by by_cases hj : j < i; exact hz j hj; rw [Nt.co_ge (by omega), Nt.co_ge (by omega)])⟩, fun _ => rfl⟩
theorem k_r5EqualV {u w : World} {x y : Sl} {l m : List Rat} {K M : Nat} (d : Dat u w) (hx : PolV u x l K) (hy : PolN u y m M) (hx9 : l.length ≤ 1000000000) (hy9 : m.length ≤ 1000000000) : Calls Tryz.prog 29 #[x.v, y.v] w (Post u w fun v _ => ∃ b : Bool, v = .bool b ∧ (b = true ↔ (PolN u x l K ∧ l = m))) := by
 have hlen := hx.len
 have hlen2 := hy.len
 refine zzl (args := [.slice x.a x.n x.c, .slice y.a y.n y.c]) Tryz.func29 rfl Tryz.ntmps29 (rs := [.tmp 4]) Tryz.results29 (le_b rfl) (le_b rfl) d ?_
 refine sq9 ?_
 refine zza 4 (.v (.bool false)) ?_
 refine zzb 8 [(0, .v x.v), (1, .v y.v)] [] ?_
 refine sq9 ?_
 refine zza 5 (.v x.v) ?_
 refine zza 6 (.v y.v) ?_
 refine zzf 7 117 [x.v, y.v] ?_
 intro w11 u11 e11 d11
 have k16 := k_sameListV d11 (hx.ext e11) (hy.ext e11) (by first|omega|(simp;omega) | (refine Nat.le_trans (Nt.zzg _) ?_; first|omega|(simp;omega)) | (refine Nat.le_trans (Nt.zzg _) ?_; simp only [List.length_map]; refine Nat.le_trans (Nt.zzg _) ?_; first|omega|(simp;omega))) (by first|omega|(simp;omega) | (refine Nat.le_trans (Nt.zzg _) ?_; first|omega|(simp;omega)) | (refine Nat.le_trans (Nt.zzg _) ?_; simp only [List.length_map]; refine Nat.le_trans (Nt.zzg _) ?_; first|omega|(simp;omega)))
 with_reducible refine Post.mono k16 ?_
 rintro _ u14 g15 ⟨b12, rfl, hv13⟩
 refine zza 4 (.v (.bool b12)) ?_
 refine zzb 8 [(4, .v (.bool b12))] [] ?_
 refine zzn (ret0 [.bool b12] ⟨zzp, trivial⟩ fun u17 e18 => ?_)
 exact ⟨_, rfl, hv13.trans (and_congr_left' (PolN.same hx e11))⟩
theorem k_r5Valid {u w : World} {x : Sl} {l : List Rat} {K : Nat} (d : Dat u w) (hx : PolV u x l K) (hK : K ≤ 40000000) (hx9 : l.length ≤ 1000000000) : Calls Tryz.prog 82 #[x.v] w (Post u w fun v _ => ∃ b : Bool, v = .bool b ∧ (b = true ↔ PolN u x l K ∧ Nt.trimQ l = l)) := by
 have hlen := hx.len
 have htl := Nt.zzg l
 refine zzl (args := [.slice x.a x.n x.c]) Tryz.func82 rfl Tryz.ntmps82 (rs := [.tmp 2]) Tryz.results82 (le_b rfl) (le_b rfl) d ?_
 refine sq9 ?_
 refine zza 2 (.v (.bool false)) ?_
 refine zzb 7 [(0, .v x.v)] [] ?_
 refine sq9 ?_
 refine zza 3 (.v x.v) ?_
 refine zza 4 (.v x.v) ?_
 refine zzf 5 87 [x.v] ?_
 intro w11 u11 e11 d11
 have k16 := k_r5Trim d11 (hx.ext e11) (by omega) (by first|omega|(simp;omega) | (refine Nat.le_trans (Nt.zzg _) ?_; first|omega|(simp;omega)) | (refine Nat.le_trans (Nt.zzg _) ?_; simp only [List.length_map]; refine Nat.le_trans (Nt.zzg _) ?_; first|omega|(simp;omega)))
 with_reducible refine Post.mono k16 ?_
 rintro _ u14 g15 ⟨y12, rfl, h13⟩
 have hly12 := h13.len
 refine zzf 6 29 [x.v, y12.v] ?_
 intro w17 u17 e17 d17
 have k22 := k_r5EqualV d17 (hx.ext (e11.trans (g15.ext.trans e17))) (h13.ext e17) (by first|omega|(simp;omega) | (refine Nat.le_trans (Nt.zzg _) ?_; first|omega|(simp;omega)) | (refine Nat.le_trans (Nt.zzg _) ?_; simp only [List.length_map]; refine Nat.le_trans (Nt.zzg _) ?_; first|omega|(simp;omega))) (by first|omega|(simp;omega) | (refine Nat.le_trans (Nt.zzg _) ?_; first|omega|(simp;omega)) | (refine Nat.le_trans (Nt.zzg _) ?_; simp only [List.length_map]; refine Nat.le_trans (Nt.zzg _) ?_; first|omega|(simp;omega)))
 with_reducible refine Post.mono k22 ?_
 rintro _ u20 g21 ⟨b18, rfl, hv19⟩
 refine zza 2 (.v (.bool b18)) ?_
 refine zzb 7 [(2, .v (.bool b18))] [] ?_
 refine zzn (ret0 [.bool b18] ⟨zzp, trivial⟩ fun u23 e24 => ?_)
 exact ⟨_, rfl, hv19.trans (and_congr (PolN.same hx (e11.trans (g15.ext.trans e17))) eq_comm)⟩
theorem Nt.sub_same (l m : List Rat) : Nt.trimQ (Nt.addQ l (Nt.trimQ (m.map (· * (((-1) : Int) : Rat))))) = Nt.trimQ (Nt.addQ l (m.map (fun z => -z))) := by
 rw [Nt.trim_eq_iff]
 intro i
 rw [Nt.addQ_co, Nt.addQ_co, Nt.trim_co]
 congr 1
 unfold Nt.co
 rw [List.getD_eq_getElem?_getD, List.getD_eq_getElem?_getD, List.getElem?_map, List.getElem?_map]
 cases m[i]? with
 | none => rfl
 | some z => simp; grind
theorem Nt.rsub_len {l m : List Rat} {f : Rat → Rat} {N : Nat} (h1 : l.length ≤ N) (h2 : m.length ≤ N) : (Nt.trimQ (Nt.addQ l (Nt.trimQ (m.map f)))).length ≤ N :=
 Nat.le_trans (Nt.zzg _) (by rw [Nt.addQ_len]; have h9 := Nt.zzg (m.map f); rw [List.length_map] at h9; omega)
theorem Nt.pow_lenU {l : List Rat} {n : Int} (hl : l.length ≤ 8) (hn : n ≤ 4) : (Nt.powL l n).length ≤ 40 := by
 unfold Nt.powL
 split
 ·simp
 ·have h9 := Nt.Pol.npow_len (Nt.Pol.mk' l) n.toNat
  have h8 : n.toNat * (Nt.Pol.mk' l).len ≤ 4 * 8 := Nat.mul_le_mul (by omega) (Nat.le_trans (Nt.mk_len l) hl)
  change _ ≤ _ at h9
  unfold Nt.Pol.len at h9
  unfold Nt.Pol.len at h8
  omega
set_option exponentiation.threshold 1000 in
set_option maxHeartbeats 16000000 in
theorem w_polyacts {u w : World} {x y : Sl} {p q : List Rat} {r a1 a2 : RL} {z y1 y2 : Rat} {K M L N : Nat} {n : Int} (d : Dat u w) (hx : PolV u x p K) (hy : PolV u y q M) (hr : RatV u r z L) (ha1 : RatV u a1 y1 N) (ha2 : RatV u a2 y2 N) (hn0 : -9223372036854775808 ≤ n) (hn1 : n ≤ 9223372036854775807) : Calls Tryz.prog 10 #[x.v, y.v, r.v, IV a1 a2, .int .i64 n] w (Post u w fun v _ => v = .bool true) := by
 have hlx := hx.len
 have hly := hy.len
 refine zzl (args := [.slice x.a x.n x.c, .slice y.a y.n y.c, r.v, .agg #[.bool a1.s, .slice a1.m.a a1.m.n a1.m.c, .slice a1.d.a a1.d.n a1.d.c, .bool a2.s, .slice a2.m.a a2.m.n a2.m.c, .slice a2.d.a a2.d.n a2.d.c], .int .i64 n]) Tryz.func10 rfl Tryz.ntmps10 (rs := [.tmp 10]) Tryz.results10 (le_b rfl) (le_b rfl) d ?_
 refine sq9 ?_
 refine zzj 7 ⟨26, r.cs⟩ ?_
 refine zzj 8 ⟨28, a1.cs ++ a2.cs⟩ ?_
 refine zza 10 (.v (.bool false)) ?_
 refine zzb 195 [(0, .v x.v), (1, .v y.v), (4, .v (.int .i64 n)), (7, .adr 7 0), (8, .adr 8 0)] [(7, ⟨26, r.cs⟩), (8, ⟨28, a1.cs ++ a2.cs⟩)] ?_
 refine zzc ?_
 refine sq9 ?_
 refine zza 24 (.v x.v) ?_
 refine zzf 25 25 [x.v] ?_
 intro w11 u11 e11 d11
 have k15 := k_smallPoly d11 (hx.ext e11)
 with_reducible refine Post.mono k15 ?_
 rintro _ u13 g14 (⟨rfl, hs12, hp12⟩ | rfl)
 ·skip
  refine zza 26 (.v (.bool false)) ?_
  refine zza 27 (.v (.bool false)) ?_
  refine zza 28 (.v y.v) ?_ (hw := w1 3 false 27)
  refine zzf 29 25 [y.v] ?_ (hw := w1 3 false 27)
  intro w16 u16 e16 d16
  have k20 := k_smallPoly d16 (hy.ext (e11.trans (g14.ext.trans e16)))
  with_reducible refine Post.mono k20 ?_
  rintro _ u18 g19 (⟨rfl, hs17, hp17⟩ | rfl)
  ·skip
   refine zza 30 (.v (.bool false)) ?_ (hw := w1 3 false 27)
   refine zza 31 (.v (.bool false)) ?_
   refine zza 32 (.v (.bool false)) ?_
   refine zzh 33 (.v (r.v)) ty26 zzd ?_ (hw := w1 8 false 32)
   refine zzf 34 55 [r.v] ?_ (hw := w1 8 false 32)
   intro w21 u21 e21 d21
   have k24 := k_smallRat (r := r) d21
   with_reducible refine Post.mono k24 ?_
   rintro _ u22 g23 rfl
   refine zza 35 (.v (.bool (!(smR r)))) ?_ (hw := w1 8 false 32)
   refine zza 36 (.v (.bool (!(smR r)))) ?_
   rcases Bool.eq_false_or_eq_true (!(smR r)) with hs25 | hs25
   ·refine zyp 37 (x := .v (.bool (!(smR r)))) (.v (.bool true)) (by rw [hs25]) ?_
    refine zzm 38 (uw 13 false true 37) ?_
    refine zzm 39 (uw 13 false true 37) ?_
    refine zzm 40 (uw 13 false true 37) ?_
    refine zza 41 (.v (.bool true)) ?_
    refine zzb 195 [(0, .v x.v), (1, .v y.v), (4, .v (.int .i64 n)), (7, .adr 7 0), (8, .adr 8 0), (41, .v (.bool true))] [(7, ⟨26, r.cs⟩), (8, ⟨28, a1.cs ++ a2.cs⟩)] ?_
    refine zyq (by kernel_rfl) ?_
    refine sq9 ?_
    refine zzf 42 26 [] ?_
    intro w26 u26 e26 d26
    have k29 := k_awake5 d26
    with_reducible refine Post.mono k29 ?_
    rintro _ u27 g28 rfl
    refine zza 10 (.v (.bool true)) ?_
    refine zzb 195 [(10, .v (.bool true))] [] ?_
    refine zzn (zzv (ret0 [.bool true] ⟨zzp, trivial⟩ fun u30 e31 => ?_))
    exact rfl
   ·refine zyp 37 (x := .v (.bool (!(smR r)))) (.v (.bool false)) (by rw [hs25]) ?_
    have qhs25 : smR r = true := by simpa using hs25
    have hrf := smR_few hr qhs25
    refine zzh 38 (.v (.agg #[.bool a1.s, a1.m.v, a1.d.v, .bool a2.s, a2.m.v, a2.d.v])) ty28 zzd ?_ (hw := w1 13 false 37)
    refine zzf 39 11 [.agg #[.bool a1.s, a1.m.v, a1.d.v, .bool a2.s, a2.m.v, a2.d.v]] ?_ (hw := w1 13 false 37)
    intro w32 u32 e32 d32
    have k35 := k_smallOn (a := a1) (b := a2) d32
    with_reducible refine Post.mono k35 ?_
    rintro _ u33 g34 rfl
    refine zza 40 (.v (.bool (!(smR a1 && smR a2)))) ?_ (hw := w1 13 false 37)
    refine zza 41 (.v (.bool (!(smR a1 && smR a2)))) ?_
    refine zzb 195 [(0, .v x.v), (1, .v y.v), (4, .v (.int .i64 n)), (7, .adr 7 0), (8, .adr 8 0), (41, .v (.bool (!(smR a1 && smR a2))))] [(7, ⟨26, r.cs⟩), (8, ⟨28, a1.cs ++ a2.cs⟩)] ?_
    refine zzt (b := !(smR a1 && smR a2)) (by kernel_rfl) (fun hb36 => ?_) (fun hb36 => ?_)
    ·replace hb36 : (!(smR a1 && smR a2)) = true := hb36
     refine sq9 ?_
     refine zzf 42 26 [] ?_
     intro w37 u37 e37 d37
     have k40 := k_awake5 d37
     with_reducible refine Post.mono k40 ?_
     rintro _ u38 g39 rfl
     refine zza 10 (.v (.bool true)) ?_
     refine zzb 195 [(10, .v (.bool true))] [] ?_
     refine zzn (zzv (ret0 [.bool true] ⟨zzp, trivial⟩ fun u41 e42 => ?_))
     exact rfl
    ·replace hb36 : (!(smR a1 && smR a2)) = false := hb36
     have qhb36 : smR a1 = true ∧ smR a2 = true := by simpa using hb36
     have ha1f := smR_few ha1 qhb36.1
     have ha2f := smR_few ha2 qhb36.2
     refine zzr (zzo ?_)
     refine zzc ?_
     refine zzc ?_
     obtain ⟨D43, hD43, hs43⟩ := Nt.any8 (PolV.all (hp12.ext (g14.ext.trans (e16.trans (g19.ext.trans (e21.trans (g23.ext.trans (e32.trans g34.ext)))))))) hs12
     obtain ⟨D44, hD44, hs44⟩ := Nt.any8 (PolV.all (hp17.ext (g19.ext.trans (e21.trans (g23.ext.trans (e32.trans g34.ext)))))) hs17
     replace hp12 := (hp12.ext (g14.ext.trans (e16.trans (g19.ext.trans (e21.trans (g23.ext.trans (e32.trans g34.ext)))))))
     replace hp17 := (hp17.ext (g19.ext.trans (e21.trans (g23.ext.trans (e32.trans g34.ext)))))
     replace hrf := (hrf.ext (e11.trans (g14.ext.trans (e16.trans (g19.ext.trans (e21.trans (g23.ext.trans (e32.trans g34.ext))))))))
     replace ha1f := (ha1f.ext (e11.trans (g14.ext.trans (e16.trans (g19.ext.trans (e21.trans (g23.ext.trans (e32.trans g34.ext))))))))
     replace ha2f := (ha2f.ext (e11.trans (g14.ext.trans (e16.trans (g19.ext.trans (e21.trans (g23.ext.trans (e32.trans g34.ext))))))))
     refine zzy [0, 1, 0, 7, 15, 31, 63, 127, 63, 511, 1023, 2047, 4095, 8191, 8191, 32767, 8191, 8191, 262143, 524287, 1048575, 2097151, 4194303, 8388607, 4194303, 33554431, 67108863, 134217727, 268435455, 536870911, 1073741823, 1073741823, 4294967295, 1073741823, 1073741823, 34359738367, 68719476735, 137438953471, 274877906943, 549755813887, 1099511627775, 1099511627775, 4398046511103, 1099511627775, 1099511627775, 35184372088831, 70368744177663, 140737488355327, 281474976710655] [(0, []), (2, []), (1, []), (3, []), (4, []), (5, []), (6, []), (8, []), (7, []), (9, []), (10, []), (11, []), (12, []), (13, []), (14, []), (16, []), (17, []), (15, []), (18, []), (19, []), (20, []), (21, []), (22, []), (24, []), (23, []), (25, []), (26, []), (27, []), (28, []), (29, []), (30, []), (31, []), (33, []), (34, []), (32, []), (35, []), (36, []), (37, []), (38, []), (39, []), (40, []), (41, []), (43, []), (44, []), (42, []), (45, []), (46, []), (47, []), (48, [])] (by kernel_rfl) (by kernel_rfl) ?_
     refine zza 43 (.v x.v) ?_
     refine zza 45 (.v x.v) ?_
     refine zzf 44 81 [x.v] ?_
     intro w45 u45 e45 d45
     have k50 := k_poValid d45 (hp12.ext e45) (by omega) (by first|omega|(simp;omega) | (refine Nat.le_trans (Nt.zzg _) ?_; first|omega|(simp;omega)) | (refine Nat.le_trans (Nt.zzg _) ?_; simp only [List.length_map]; refine Nat.le_trans (Nt.zzg _) ?_; first|omega|(simp;omega)))
     with_reducible refine Post.mono k50 ?_
     rintro _ u48 g49 ⟨b46, rfl, hv47⟩
     refine zzf 46 82 [x.v] ?_
     intro w51 u51 e51 d51
     have k56 := k_r5Valid d51 (hp12.ext (e45.trans (g49.ext.trans e51))) (by omega) (by first|omega|(simp;omega) | (refine Nat.le_trans (Nt.zzg _) ?_; first|omega|(simp;omega)) | (refine Nat.le_trans (Nt.zzg _) ?_; simp only [List.length_map]; refine Nat.le_trans (Nt.zzg _) ?_; first|omega|(simp;omega)))
     with_reducible refine Post.mono k56 ?_
     rintro _ u54 g55 ⟨b52, rfl, hv53⟩
     refine zza 47 (.v (.bool (!(b46 == b52)))) ?_
     refine zyp 48 (x := .v (.bool (!(b46 == b52)))) (.v (.bool false)) (by rw [show (!(b46 == b52)) = false from (by rw [show b46 = b52 from Bool.eq_iff_iff.2 (hv47.trans ((and_congr_left' (PolN.same (hp12.ext e45) (g49.ext.trans e51))).symm.trans hv53.symm))]; simp)]) ?_
     refine zza 49 (.v x.v) ?_ (hw := w1 5 false 48)
     refine zza 51 (.v x.v) ?_ (hw := w1 5 false 48)
     refine zzf 50 45 [x.v] ?_ (hw := w1 5 false 48)
     intro w58 u58 e58 d58
     have k61 := k_poDegree d58 (hp12.ext (e45.trans (g49.ext.trans (e51.trans (g55.ext.trans e58))))) (by omega) (by first|omega|(simp;omega) | (refine Nat.le_trans (Nt.zzg _) ?_; first|omega|(simp;omega)) | (refine Nat.le_trans (Nt.zzg _) ?_; simp only [List.length_map]; refine Nat.le_trans (Nt.zzg _) ?_; first|omega|(simp;omega)))
     with_reducible refine Post.mono k61 ?_
     rintro _ u59 g60 rfl
     refine zzf 52 83 [x.v] ?_ (hw := w1 5 false 48)
     intro w62 u62 e62 d62
     have k65 := k_r5Degree d62 (hp12.ext (e45.trans (g49.ext.trans (e51.trans (g55.ext.trans (e58.trans (g60.ext.trans e62))))))) (by omega) (by first|omega|(simp;omega) | (refine Nat.le_trans (Nt.zzg _) ?_; first|omega|(simp;omega)) | (refine Nat.le_trans (Nt.zzg _) ?_; simp only [List.length_map]; refine Nat.le_trans (Nt.zzg _) ?_; first|omega|(simp;omega)))
     with_reducible refine Post.mono k65 ?_
     rintro _ u63 g64 rfl
     refine zza 53 (.v (.bool ((((Nt.trimQ p).length : Int) - 1) != (((Nt.trimQ p).length : Int) - 1)))) ?_ (hw := w1 5 false 48)
     refine zza 54 (.v (.bool ((((Nt.trimQ p).length : Int) - 1) != (((Nt.trimQ p).length : Int) - 1)))) ?_
     refine zyp 55 (x := .v (.bool ((((Nt.trimQ p).length : Int) - 1) != (((Nt.trimQ p).length : Int) - 1)))) (.v (.bool false)) (by rw [show ((((Nt.trimQ p).length : Int) - 1) != (((Nt.trimQ p).length : Int) - 1)) = false from (by simp)]) ?_
     replace hp12 := (hp12.ext (e45.trans (g49.ext.trans (e51.trans (g55.ext.trans (e58.trans (g60.ext.trans (e62.trans g64.ext))))))))
     replace hp17 := (hp17.ext (e45.trans (g49.ext.trans (e51.trans (g55.ext.trans (e58.trans (g60.ext.trans (e62.trans g64.ext))))))))
     replace hrf := (hrf.ext (e45.trans (g49.ext.trans (e51.trans (g55.ext.trans (e58.trans (g60.ext.trans (e62.trans g64.ext))))))))
     replace ha1f := (ha1f.ext (e45.trans (g49.ext.trans (e51.trans (g55.ext.trans (e58.trans (g60.ext.trans (e62.trans g64.ext))))))))
     replace ha2f := (ha2f.ext (e45.trans (g49.ext.trans (e51.trans (g55.ext.trans (e58.trans (g60.ext.trans (e62.trans g64.ext))))))))
     refine zza 56 (.v x.v) ?_ (hw := w1 12 false 55)
     refine zza 57 (.v y.v) ?_ (hw := w1 12 false 55)
     refine zza 59 (.v x.v) ?_ (hw := w1 12 false 55)
     refine zza 60 (.v y.v) ?_ (hw := w1 12 false 55)
     refine zzf 58 84 [x.v, y.v] ?_ (hw := w1 12 false 55)
     intro w67 u67 e67 d67
     have k70 := k_poSame d67 (hp12.ext e67) (hp17.ext e67) (by omega) (by omega) (by first|omega|(simp;omega) | (refine Nat.le_trans (Nt.zzg _) ?_; first|omega|(simp;omega)) | (refine Nat.le_trans (Nt.zzg _) ?_; simp only [List.length_map]; refine Nat.le_trans (Nt.zzg _) ?_; first|omega|(simp;omega))) (by first|omega|(simp;omega) | (refine Nat.le_trans (Nt.zzg _) ?_; first|omega|(simp;omega)) | (refine Nat.le_trans (Nt.zzg _) ?_; simp only [List.length_map]; refine Nat.le_trans (Nt.zzg _) ?_; first|omega|(simp;omega)))
     with_reducible refine Post.mono k70 ?_
     rintro _ u68 g69 rfl
     refine zzf 61 85 [x.v, y.v] ?_ (hw := w1 12 false 55)
     intro w71 u71 e71 d71
     have k74 := k_r5Same d71 (hp12.ext (e67.trans (g69.ext.trans e71))) (hp17.ext (e67.trans (g69.ext.trans e71))) (by omega) (by omega) (by first|omega|(simp;omega) | (refine Nat.le_trans (Nt.zzg _) ?_; first|omega|(simp;omega)) | (refine Nat.le_trans (Nt.zzg _) ?_; simp only [List.length_map]; refine Nat.le_trans (Nt.zzg _) ?_; first|omega|(simp;omega))) (by first|omega|(simp;omega) | (refine Nat.le_trans (Nt.zzg _) ?_; first|omega|(simp;omega)) | (refine Nat.le_trans (Nt.zzg _) ?_; simp only [List.length_map]; refine Nat.le_trans (Nt.zzg _) ?_; first|omega|(simp;omega)))
     with_reducible refine Post.mono k74 ?_
     rintro _ u72 g73 rfl
     refine zza 62 (.v (.bool (!((decide (Nt.trimQ p = Nt.trimQ q)) == (decide (Nt.trimQ p = Nt.trimQ q)))))) ?_ (hw := w1 12 false 55)
     refine zza 63 (.v (.bool (!((decide (Nt.trimQ p = Nt.trimQ q)) == (decide (Nt.trimQ p = Nt.trimQ q)))))) ?_
     refine zyp 64 (x := .v (.bool (!((decide (Nt.trimQ p = Nt.trimQ q)) == (decide (Nt.trimQ p = Nt.trimQ q)))))) (.v (.bool false)) (by rw [show (!((decide (Nt.trimQ p = Nt.trimQ q)) == (decide (Nt.trimQ p = Nt.trimQ q)))) = false from (by simp)]) ?_
     replace hp12 := (hp12.ext (e67.trans (g69.ext.trans (e71.trans g73.ext))))
     replace hp17 := (hp17.ext (e67.trans (g69.ext.trans (e71.trans g73.ext))))
     replace hrf := (hrf.ext (e67.trans (g69.ext.trans (e71.trans g73.ext))))
     replace ha1f := (ha1f.ext (e67.trans (g69.ext.trans (e71.trans g73.ext))))
     replace ha2f := (ha2f.ext (e67.trans (g69.ext.trans (e71.trans g73.ext))))
     refine zza 65 (.v x.v) ?_ (hw := w1 21 false 64)
     refine zza 67 (.v x.v) ?_ (hw := w1 21 false 64)
     refine zzf 66 86 [x.v] ?_ (hw := w1 21 false 64)
     intro w76 u76 e76 d76
     have k81 := k_poTrim d76 (hp12.ext e76) (by omega) (by first|omega|(simp;omega) | (refine Nat.le_trans (Nt.zzg _) ?_; first|omega|(simp;omega)) | (refine Nat.le_trans (Nt.zzg _) ?_; simp only [List.length_map]; refine Nat.le_trans (Nt.zzg _) ?_; first|omega|(simp;omega)))
     with_reducible refine Post.mono k81 ?_
     rintro _ u79 g80 ⟨y77, rfl, h78⟩
     have hly77 := h78.len
     refine zzf 68 87 [x.v] ?_ (hw := w1 21 false 64)
     intro w82 u82 e82 d82
     have k87 := k_r5Trim d82 (hp12.ext (e76.trans (g80.ext.trans e82))) (by omega) (by first|omega|(simp;omega) | (refine Nat.le_trans (Nt.zzg _) ?_; first|omega|(simp;omega)) | (refine Nat.le_trans (Nt.zzg _) ?_; simp only [List.length_map]; refine Nat.le_trans (Nt.zzg _) ?_; first|omega|(simp;omega)))
     with_reducible refine Post.mono k87 ?_
     rintro _ u85 g86 ⟨y83, rfl, h84⟩
     have hly83 := h84.len
     refine zzf 69 29 [y77.v, y83.v] ?_ (hw := w1 21 false 64)
     intro w88 u88 e88 d88
     have k91 := k_r5Equal d88 (h78.ext (e82.trans (g86.ext.trans e88))) (h84.ext e88) (by first|omega|(simp;omega) | (refine Nat.le_trans (Nt.zzg _) ?_; first|omega|(simp;omega)) | (refine Nat.le_trans (Nt.zzg _) ?_; simp only [List.length_map]; refine Nat.le_trans (Nt.zzg _) ?_; first|omega|(simp;omega))) (by first|omega|(simp;omega) | (refine Nat.le_trans (Nt.zzg _) ?_; first|omega|(simp;omega)) | (refine Nat.le_trans (Nt.zzg _) ?_; simp only [List.length_map]; refine Nat.le_trans (Nt.zzg _) ?_; first|omega|(simp;omega)))
     with_reducible refine Post.mono k91 ?_
     rintro _ u89 g90 rfl
     refine zza 70 (.v (.bool (!(decide ((Nt.trimQ p) = (Nt.trimQ p)))))) ?_ (hw := w1 21 false 64)
     refine zza 71 (.v (.bool (!(decide ((Nt.trimQ p) = (Nt.trimQ p)))))) ?_
     refine zyp 72 (x := .v (.bool (!(decide ((Nt.trimQ p) = (Nt.trimQ p)))))) (.v (.bool false)) (by rw [show (!(decide ((Nt.trimQ p) = (Nt.trimQ p)))) = false from (by rw [decide_eq_true rfl]; rfl)]) ?_
     replace hp12 := (hp12.ext (e76.trans (g80.ext.trans (e82.trans (g86.ext.trans (e88.trans g90.ext))))))
     replace hp17 := (hp17.ext (e76.trans (g80.ext.trans (e82.trans (g86.ext.trans (e88.trans g90.ext))))))
     replace hrf := (hrf.ext (e76.trans (g80.ext.trans (e82.trans (g86.ext.trans (e88.trans g90.ext))))))
     replace ha1f := (ha1f.ext (e76.trans (g80.ext.trans (e82.trans (g86.ext.trans (e88.trans g90.ext))))))
     replace ha2f := (ha2f.ext (e76.trans (g80.ext.trans (e82.trans (g86.ext.trans (e88.trans g90.ext))))))
     replace h78 := (h78.ext (e82.trans (g86.ext.trans (e88.trans g90.ext))))
     replace h84 := (h84.ext (e88.trans g90.ext))
     refine zza 73 (.v x.v) ?_ (hw := w1 29 false 72)
     refine zzh 74 (.v (r.v)) ty26 zzd ?_ (hw := w1 29 false 72)
     refine zza 76 (.v x.v) ?_ (hw := w1 29 false 72)
     refine zzh 77 (.v (r.v)) ty26 zzd ?_ (hw := w1 29 false 72)
     refine zzf 75 44 [x.v, r.v] ?_ (hw := w1 29 false 72)
     intro w93 u93 e93 d93
     have k99 := k_poEval (C := 1608) d93 (hp12.ext e93) (hrf.ext e93) (hs43).prim (by have h9 := hs12; omega) (by decide) (by have h9 := hs12; omega) (by decide) (by have h9 := hs12; omega)
     with_reducible refine Post.mono k99 ?_
     rintro _ u97 g98 ⟨r94, rfl, h95⟩
     replace h95 : RatN _ r94 (Nt.Pol.evL p z) 124 := RatN.more h95 (by have h9 := hs12; have h8 : Nt.dg 1608 = 51 := (by decide +kernel); omega)
     refine zzf 78 52 [x.v, r.v] ?_ (hw := w1 29 false 72)
     intro w100 u100 e100 d100
     have k105 := k_r5Eval (S := 10) d100 (hp12.ext (e93.trans (g98.ext.trans e100))) (hrf.ext (e93.trans (g98.ext.trans e100))) (by omega) (by have h9 := hs12; omega) (by omega) (by omega) (by have h9 := hs12; omega)
     with_reducible refine Post.mono k105 ?_
     rintro _ u103 g104 ⟨r101, rfl, h102⟩
     replace h102 : RatN _ r101 (Nt.Pol.evL p z) 82 := RatN.more h102 (by have h9 := hs12; omega)
     refine zzf 79 71 [r94.v, r101.v] ?_ (hw := w1 29 false 72)
     intro w106 u106 e106 d106
     have k109 := k_rqSame d106 (h95.ext (e100.trans (g104.ext.trans e106))) (h102.ext e106)
     with_reducible refine Post.mono k109 ?_
     rintro _ u107 g108 rfl
     refine zza 80 (.v (.bool (!(decide ((Nt.Pol.evL p z) = (Nt.Pol.evL p z)))))) ?_ (hw := w1 29 false 72)
     refine zza 81 (.v (.bool (!(decide ((Nt.Pol.evL p z) = (Nt.Pol.evL p z)))))) ?_
     refine zyp 82 (x := .v (.bool (!(decide ((Nt.Pol.evL p z) = (Nt.Pol.evL p z)))))) (.v (.bool false)) (by rw [show (!(decide ((Nt.Pol.evL p z) = (Nt.Pol.evL p z)))) = false from (by rw [decide_eq_true rfl]; rfl)]) ?_
     replace hp12 := (hp12.ext (e93.trans (g98.ext.trans (e100.trans (g104.ext.trans (e106.trans g108.ext))))))
     replace hp17 := (hp17.ext (e93.trans (g98.ext.trans (e100.trans (g104.ext.trans (e106.trans g108.ext))))))
     replace hrf := (hrf.ext (e93.trans (g98.ext.trans (e100.trans (g104.ext.trans (e106.trans g108.ext))))))
     replace ha1f := (ha1f.ext (e93.trans (g98.ext.trans (e100.trans (g104.ext.trans (e106.trans g108.ext))))))
     replace ha2f := (ha2f.ext (e93.trans (g98.ext.trans (e100.trans (g104.ext.trans (e106.trans g108.ext))))))
     replace h78 := (h78.ext (e93.trans (g98.ext.trans (e100.trans (g104.ext.trans (e106.trans g108.ext))))))
     replace h84 := (h84.ext (e93.trans (g98.ext.trans (e100.trans (g104.ext.trans (e106.trans g108.ext))))))
     replace h95 := (h95.ext (e100.trans (g104.ext.trans (e106.trans g108.ext))))
     replace h102 := (h102.ext (e106.trans g108.ext))
     refine zza 83 (.v x.v) ?_ (hw := w1 39 false 82)
     refine zzh 84 (.v (.agg #[.bool a1.s, a1.m.v, a1.d.v, .bool a2.s, a2.m.v, a2.d.v])) ty28 zzd ?_ (hw := w1 39 false 82)
     refine zza 86 (.v x.v) ?_ (hw := w1 39 false 82)
     refine zzh 87 (.v (.agg #[.bool a1.s, a1.m.v, a1.d.v, .bool a2.s, a2.m.v, a2.d.v])) ty28 zzd ?_ (hw := w1 39 false 82)
     refine zzf 85 51 [x.v, .agg #[.bool a1.s, a1.m.v, a1.d.v, .bool a2.s, a2.m.v, a2.d.v]] ?_ (hw := w1 39 false 82)
     intro w111 u111 e111 d111
     have k118 := k_poEnclose (M := 4) (S := 8) d111 (hp12.ext e111) ((ha1f.ext e111).more (by decide)) ((ha2f.ext e111).more (by decide)) (by omega) (by have h9 := hs12; omega) (by omega) (by omega) (by have h9 := hs12; omega)
     with_reducible refine Post.mono k118 ?_
     rintro _ u116 g117 ⟨r112, r114, rfl, h113, h115⟩
     replace h113 : RatN _ r112 (Nt.encL y1 y2 p).1 66 := RatN.more h113 (by have h9 := hs12; omega)
     replace h115 : RatN _ r114 (Nt.encL y1 y2 p).2 66 := RatN.more h115 (by have h9 := hs12; omega)
     refine zzf 88 88 [x.v, .agg #[.bool a1.s, a1.m.v, a1.d.v, .bool a2.s, a2.m.v, a2.d.v]] ?_ (hw := w1 39 false 82)
     intro w119 u119 e119 d119
     have k126 := k_r5Enclose (M := 4) (S := 11) d119 (hp12.ext (e111.trans (g117.ext.trans e119))) ((ha1f.ext (e111.trans (g117.ext.trans e119))).more (by decide)) ((ha2f.ext (e111.trans (g117.ext.trans e119))).more (by decide)) (by omega) (by have h9 := hs12; omega) (by omega) (by omega) (by have h9 := hs12; omega)
     with_reducible refine Post.mono k126 ?_
     rintro _ u124 g125 ⟨r120, r122, rfl, h121, h123⟩
     replace h121 : RatN _ r120 (Nt.encL y1 y2 p).1 90 := RatN.more h121 (by have h9 := hs12; omega)
     replace h123 : RatN _ r122 (Nt.encL y1 y2 p).2 90 := RatN.more h123 (by have h9 := hs12; omega)
     refine zzf 89 59 [.agg #[.bool r112.s, r112.m.v, r112.d.v, .bool r114.s, r114.m.v, r114.d.v], .agg #[.bool r120.s, r120.m.v, r120.d.v, .bool r122.s, r122.m.v, r122.d.v]] ?_ (hw := w1 39 false 82)
     intro w127 u127 e127 d127
     have k130 := k_r4Same d127 (h113.ext (e119.trans (g125.ext.trans e127))) (h115.ext (e119.trans (g125.ext.trans e127))) (h121.ext e127) (h123.ext e127)
     with_reducible refine Post.mono k130 ?_
     rintro _ u128 g129 rfl
     refine zza 90 (.v (.bool (!(decide ((Nt.encL y1 y2 p).1 = (Nt.encL y1 y2 p).1) && decide ((Nt.encL y1 y2 p).2 = (Nt.encL y1 y2 p).2))))) ?_ (hw := w1 39 false 82)
     refine zza 91 (.v (.bool (!(decide ((Nt.encL y1 y2 p).1 = (Nt.encL y1 y2 p).1) && decide ((Nt.encL y1 y2 p).2 = (Nt.encL y1 y2 p).2))))) ?_
     refine zzb 195 [(0, .v x.v), (1, .v y.v), (4, .v (.int .i64 n)), (7, .adr 7 0), (91, .v (.bool (!(decide ((Nt.encL y1 y2 p).1 = (Nt.encL y1 y2 p).1) && decide ((Nt.encL y1 y2 p).2 = (Nt.encL y1 y2 p).2)))))] [(7, ⟨26, r.cs⟩)] ?_
     refine zzt (b := !(decide ((Nt.encL y1 y2 p).1 = (Nt.encL y1 y2 p).1) && decide ((Nt.encL y1 y2 p).2 = (Nt.encL y1 y2 p).2))) (by kernel_rfl) (fun hb => ?_) (fun hb => ?_)
     ·exact absurd hb (by rw [show (!(decide ((Nt.encL y1 y2 p).1 = (Nt.encL y1 y2 p).1) && decide ((Nt.encL y1 y2 p).2 = (Nt.encL y1 y2 p).2))) = false from (by rw [decide_eq_true rfl, decide_eq_true rfl]; rfl)]; decide)
     ·clear hb
      refine zzr (zzo ?_)
      refine zzc ?_
      refine sq9 ?_
      refine zza 92 (.v (.int .i64 n)) ?_
      refine zza 93 (.v (.int .i64 n)) ?_
      refine zzf 94 50 [.int .i64 n, .int .i64 6] ?_
      intro w131 u131 e131 d131
      have k134 := k_Mod d131 (n := n) (m := 6) (by omega) (by omega) (by omega) (by omega)
      with_reducible refine Post.mono k134 ?_
      rintro _ u132 g133 rfl
      refine zyp 95 (x := .v (.int .i64 (IntKind.i64.wrap ((n % 6) - 1)))) (.v (.int .i64 ((n % 6) - 1))) (by rw [IntWalk.i64_in _ (by omega)]) ?_
      refine sy_lit 96 ⟨3, [.int .i64 n, .int .i64 ((n % 6) - 1)]⟩ 2 ?_
      refine zza 97 (.v (.int .i64 2)) ?_
      refine zza 98 (.v (.int .i64 0)) ?_
      refine zzb 195 [(0, .v x.v), (1, .v y.v), (4, .v (.int .i64 n)), (7, .adr 7 0), (96, .slc 96 0 2 2), (97, .v (.int .i64 2)), (98, .v (.int .i64 0))] [(7, ⟨26, r.cs⟩), (96, ⟨3, [.int .i64 n, .int .i64 ((n % 6) - 1)]⟩)] ?_
      refine zzs ?_
      refine sw_rounds 2 ?_
      refine sq9 ?_
      refine zza 99 (.v (.bool true)) ?_
      refine zzb 195 [(0, .v x.v), (1, .v y.v), (4, .v (.int .i64 n)), (7, .adr 7 0), (96, .slc 96 0 2 2), (97, .v (.int .i64 2)), (98, .v (.int .i64 0)), (99, .v (.bool true))] [(7, ⟨26, r.cs⟩), (96, ⟨3, [.int .i64 n, .int .i64 ((n % 6) - 1)]⟩)] ?_
      refine zzc ?_
      refine zyq (by kernel_rfl) ?_
      refine zzr (zzo ?_)
      refine zzc ?_
      refine zzs ?_
      refine sq9 ?_
      refine zza 100 (.adr 96 0) ?_
      refine zzh 101 (.v (.int .i64 n)) ty3 zzk ?_
      refine zza 12 (.v (.int .i64 n)) ?_
      refine zzb 195 [(0, .v x.v), (1, .v y.v), (4, .v (.int .i64 n)), (7, .adr 7 0), (12, .v (.int .i64 n)), (96, .slc 96 0 2 2), (97, .v (.int .i64 2)), (98, .v (.int .i64 0))] [(7, ⟨26, r.cs⟩), (96, ⟨3, [.int .i64 n, .int .i64 ((n % 6) - 1)]⟩)] ?_
      refine sq9 ?_
      refine zzh 103 (.v (r.v)) ty26 zzd ?_
      refine zza 104 (.v (.int .i64 n)) ?_
      refine zzf 105 89 [r.v, .int .i64 n] ?_
      intro w135 u135 e135 d135
      have k140 := k_poMono (n := n) d135 (hrf.ext (e111.trans (g117.ext.trans (e119.trans (g125.ext.trans (e127.trans (g129.ext.trans (e131.trans (g133.ext.trans e135))))))))) (by omega)
      with_reducible refine Post.mono k140 ?_
      rintro _ u138 g139 ⟨y136, rfl, h137⟩
      have hly136 := h137.len
      have hmy136 := Nt.mon_len z n
      refine zza 102 (.v (.tuple #[y136.v, .int .i64 (Nt.monE n)])) ?_
      refine zza 106 (.v y136.v) ?_
      refine zza 107 (.v (.int .i64 (Nt.monE n))) ?_
      refine zza 13 (.v y136.v) ?_
      refine zza 14 (.v (.int .i64 (Nt.monE n))) ?_
      refine zzb 195 [(0, .v x.v), (1, .v y.v), (4, .v (.int .i64 n)), (7, .adr 7 0), (12, .v (.int .i64 n)), (13, .v y136.v), (14, .v (.int .i64 (Nt.monE n))), (96, .slc 96 0 2 2), (97, .v (.int .i64 2)), (98, .v (.int .i64 0))] [(7, ⟨26, r.cs⟩), (96, ⟨3, [.int .i64 n, .int .i64 ((n % 6) - 1)]⟩)] ?_
      refine sq9 ?_
      refine zzh 109 (.v (r.v)) ty26 zzd ?_
      refine zza 110 (.v (.int .i64 n)) ?_
      refine zzf 111 90 [r.v, .int .i64 n] ?_
      intro w141 u141 e141 d141
      have k146 := k_r5Mono (n := n) d141 (hrf.ext (e111.trans (g117.ext.trans (e119.trans (g125.ext.trans (e127.trans (g129.ext.trans (e131.trans (g133.ext.trans (e135.trans (g139.ext.trans e141))))))))))) (by omega)
      with_reducible refine Post.mono k146 ?_
      rintro _ u144 g145 ⟨y142, rfl, h143⟩
      have hly142 := h143.len
      have hmy142 := Nt.mon_len z n
      refine zza 108 (.v (.tuple #[y142.v, .int .i64 (Nt.monE n)])) ?_
      refine zza 112 (.v y142.v) ?_
      refine zza 113 (.v (.int .i64 (Nt.monE n))) ?_
      refine zza 15 (.v y142.v) ?_
      refine zza 16 (.v (.int .i64 (Nt.monE n))) ?_
      refine zzb 195 [(0, .v x.v), (1, .v y.v), (4, .v (.int .i64 n)), (7, .adr 7 0), (13, .v y136.v), (14, .v (.int .i64 (Nt.monE n))), (15, .v y142.v), (16, .v (.int .i64 (Nt.monE n))), (96, .slc 96 0 2 2), (97, .v (.int .i64 2)), (98, .v (.int .i64 0))] [(7, ⟨26, r.cs⟩), (96, ⟨3, [.int .i64 n, .int .i64 ((n % 6) - 1)]⟩)] ?_
      refine sq9 ?_
      refine zza 114 (.v (.int .i64 (Nt.monE n))) ?_
      refine zza 115 (.v (.int .i64 (Nt.monE n))) ?_
      refine zza 116 (.v (.bool ((Nt.monE n) != (Nt.monE n)))) ?_
      refine zyp 117 (x := .v (.bool ((Nt.monE n) != (Nt.monE n)))) (.v (.bool false)) (by rw [show ((Nt.monE n) != (Nt.monE n)) = false from (by simp)]) ?_
      refine zza 118 (.v y136.v) ?_ (hw := w1 3 false 117)
      refine zza 119 (.v y142.v) ?_ (hw := w1 3 false 117)
      refine zzf 120 29 [y136.v, y142.v] ?_ (hw := w1 3 false 117)
      intro w148 u148 e148 d148
      have k151 := k_r5Equal d148 (h137.ext (e141.trans (g145.ext.trans e148))) (h143.ext e148) (by first|omega|(simp;omega) | (refine Nat.le_trans (Nt.zzg _) ?_; first|omega|(simp;omega)) | (refine Nat.le_trans (Nt.zzg _) ?_; simp only [List.length_map]; refine Nat.le_trans (Nt.zzg _) ?_; first|omega|(simp;omega))) (by first|omega|(simp;omega) | (refine Nat.le_trans (Nt.zzg _) ?_; first|omega|(simp;omega)) | (refine Nat.le_trans (Nt.zzg _) ?_; simp only [List.length_map]; refine Nat.le_trans (Nt.zzg _) ?_; first|omega|(simp;omega)))
      with_reducible refine Post.mono k151 ?_
      rintro _ u149 g150 rfl
      refine zza 121 (.v (.bool (!(decide ((Nt.monL z n) = (Nt.monL z n)))))) ?_ (hw := w1 3 false 117)
      refine zza 122 (.v (.bool (!(decide ((Nt.monL z n) = (Nt.monL z n)))))) ?_
      refine zzb 195 [(0, .v x.v), (1, .v y.v), (4, .v (.int .i64 n)), (7, .adr 7 0), (96, .slc 96 0 2 2), (97, .v (.int .i64 2)), (98, .v (.int .i64 0)), (122, .v (.bool (!(decide ((Nt.monL z n) = (Nt.monL z n))))))] [(7, ⟨26, r.cs⟩), (96, ⟨3, [.int .i64 n, .int .i64 ((n % 6) - 1)]⟩)] ?_
      refine zzt (b := !(decide ((Nt.monL z n) = (Nt.monL z n)))) (by kernel_rfl) (fun hb => ?_) (fun hb => ?_)
      ·exact absurd hb (by rw [show (!(decide ((Nt.monL z n) = (Nt.monL z n)))) = false from (by rw [decide_eq_true rfl]; rfl)]; decide)
      ·clear hb
       refine zzr (zzo ?_)
       refine zze ?_
       refine zza 123 (.v (.int .i64 1)) ?_
       refine zza 98 (.v (.int .i64 1)) ?_
       refine zzw ?_
       refine rn_next ?_
       refine sw_weak (T := St.of 195 [(0, .v (.slice x.a x.n x.c)), (1, .v (.slice y.a y.n y.c)), (4, .v (.int .i64 n)), (7, .adr 7 0), (96, .slc 96 0 2 2), (97, .v (.int .i64 2)), (98, .v (.int .i64 1))] [(7, ⟨26, r.cs⟩), (96, ⟨3, [.int .i64 n, .int .i64 ((n % 6) - 1)]⟩)]) (by exact zzu _ _ _) ?_
       refine sq9 ?_
       refine zza 99 (.v (.bool true)) ?_
       refine zzb 195 [(0, .v x.v), (1, .v y.v), (4, .v (.int .i64 n)), (7, .adr 7 0), (96, .slc 96 0 2 2), (97, .v (.int .i64 2)), (98, .v (.int .i64 1)), (99, .v (.bool true))] [(7, ⟨26, r.cs⟩), (96, ⟨3, [.int .i64 n, .int .i64 ((n % 6) - 1)]⟩)] ?_
       refine zzc ?_
       refine zyq (by kernel_rfl) ?_
       refine zzr (zzo ?_)
       refine zzc ?_
       refine zzs ?_
       refine sq9 ?_
       refine zza 100 (.adr 96 1) ?_
       refine zzh 101 (.v (.int .i64 ((n % 6) - 1))) ty3 zzk ?_
       refine zza 12 (.v (.int .i64 ((n % 6) - 1))) ?_
       refine zzb 195 [(0, .v x.v), (1, .v y.v), (4, .v (.int .i64 n)), (7, .adr 7 0), (12, .v (.int .i64 ((n % 6) - 1))), (96, .slc 96 0 2 2), (97, .v (.int .i64 2)), (98, .v (.int .i64 1))] [(7, ⟨26, r.cs⟩), (96, ⟨3, [.int .i64 n, .int .i64 ((n % 6) - 1)]⟩)] ?_
       refine sq9 ?_
       refine zzh 103 (.v (r.v)) ty26 zzd ?_
       refine zza 104 (.v (.int .i64 ((n % 6) - 1))) ?_
       refine zzf 105 89 [r.v, .int .i64 ((n % 6) - 1)] ?_
       intro w152 u152 e152 d152
       have k157 := k_poMono (n := (n % 6) - 1) d152 (hrf.ext (e111.trans (g117.ext.trans (e119.trans (g125.ext.trans (e127.trans (g129.ext.trans (e131.trans (g133.ext.trans (e135.trans (g139.ext.trans (e141.trans (g145.ext.trans (e148.trans (g150.ext.trans e152))))))))))))))) (by omega)
       with_reducible refine Post.mono k157 ?_
       rintro _ u155 g156 ⟨y153, rfl, h154⟩
       have hly153 := h154.len
       have hmy153 := Nt.mon_len z ((n % 6) - 1)
       refine zza 102 (.v (.tuple #[y153.v, .int .i64 (Nt.monE ((n % 6) - 1))])) ?_
       refine zza 106 (.v y153.v) ?_
       refine zza 107 (.v (.int .i64 (Nt.monE ((n % 6) - 1)))) ?_
       refine zza 13 (.v y153.v) ?_
       refine zza 14 (.v (.int .i64 (Nt.monE ((n % 6) - 1)))) ?_
       refine zzb 195 [(0, .v x.v), (1, .v y.v), (4, .v (.int .i64 n)), (7, .adr 7 0), (12, .v (.int .i64 ((n % 6) - 1))), (13, .v y153.v), (14, .v (.int .i64 (Nt.monE ((n % 6) - 1)))), (96, .slc 96 0 2 2), (97, .v (.int .i64 2)), (98, .v (.int .i64 1))] [(7, ⟨26, r.cs⟩), (96, ⟨3, [.int .i64 n, .int .i64 ((n % 6) - 1)]⟩)] ?_
       refine sq9 ?_
       refine zzh 109 (.v (r.v)) ty26 zzd ?_
       refine zza 110 (.v (.int .i64 ((n % 6) - 1))) ?_
       refine zzf 111 90 [r.v, .int .i64 ((n % 6) - 1)] ?_
       intro w158 u158 e158 d158
       have k163 := k_r5Mono (n := (n % 6) - 1) d158 (hrf.ext (e111.trans (g117.ext.trans (e119.trans (g125.ext.trans (e127.trans (g129.ext.trans (e131.trans (g133.ext.trans (e135.trans (g139.ext.trans (e141.trans (g145.ext.trans (e148.trans (g150.ext.trans (e152.trans (g156.ext.trans e158))))))))))))))))) (by omega)
       with_reducible refine Post.mono k163 ?_
       rintro _ u161 g162 ⟨y159, rfl, h160⟩
       have hly159 := h160.len
       have hmy159 := Nt.mon_len z ((n % 6) - 1)
       refine zza 108 (.v (.tuple #[y159.v, .int .i64 (Nt.monE ((n % 6) - 1))])) ?_
       refine zza 112 (.v y159.v) ?_
       refine zza 113 (.v (.int .i64 (Nt.monE ((n % 6) - 1)))) ?_
       refine zza 15 (.v y159.v) ?_
       refine zza 16 (.v (.int .i64 (Nt.monE ((n % 6) - 1)))) ?_
       refine zzb 195 [(0, .v x.v), (1, .v y.v), (4, .v (.int .i64 n)), (7, .adr 7 0), (13, .v y153.v), (14, .v (.int .i64 (Nt.monE ((n % 6) - 1)))), (15, .v y159.v), (16, .v (.int .i64 (Nt.monE ((n % 6) - 1)))), (96, .slc 96 0 2 2), (97, .v (.int .i64 2)), (98, .v (.int .i64 1))] [(7, ⟨26, r.cs⟩), (96, ⟨3, [.int .i64 n, .int .i64 ((n % 6) - 1)]⟩)] ?_
       refine sq9 ?_
       refine zza 114 (.v (.int .i64 (Nt.monE ((n % 6) - 1)))) ?_
       refine zza 115 (.v (.int .i64 (Nt.monE ((n % 6) - 1)))) ?_
       refine zza 116 (.v (.bool ((Nt.monE ((n % 6) - 1)) != (Nt.monE ((n % 6) - 1))))) ?_
       refine zyp 117 (x := .v (.bool ((Nt.monE ((n % 6) - 1)) != (Nt.monE ((n % 6) - 1))))) (.v (.bool false)) (by rw [show ((Nt.monE ((n % 6) - 1)) != (Nt.monE ((n % 6) - 1))) = false from (by simp)]) ?_
       refine zza 118 (.v y153.v) ?_ (hw := w1 3 false 117)
       refine zza 119 (.v y159.v) ?_ (hw := w1 3 false 117)
       refine zzf 120 29 [y153.v, y159.v] ?_ (hw := w1 3 false 117)
       intro w165 u165 e165 d165
       have k168 := k_r5Equal d165 (h154.ext (e158.trans (g162.ext.trans e165))) (h160.ext e165) (by first|omega|(simp;omega) | (refine Nat.le_trans (Nt.zzg _) ?_; first|omega|(simp;omega)) | (refine Nat.le_trans (Nt.zzg _) ?_; simp only [List.length_map]; refine Nat.le_trans (Nt.zzg _) ?_; first|omega|(simp;omega))) (by first|omega|(simp;omega) | (refine Nat.le_trans (Nt.zzg _) ?_; first|omega|(simp;omega)) | (refine Nat.le_trans (Nt.zzg _) ?_; simp only [List.length_map]; refine Nat.le_trans (Nt.zzg _) ?_; first|omega|(simp;omega)))
       with_reducible refine Post.mono k168 ?_
       rintro _ u166 g167 rfl
       refine zza 121 (.v (.bool (!(decide ((Nt.monL z ((n % 6) - 1)) = (Nt.monL z ((n % 6) - 1))))))) ?_ (hw := w1 3 false 117)
       refine zza 122 (.v (.bool (!(decide ((Nt.monL z ((n % 6) - 1)) = (Nt.monL z ((n % 6) - 1))))))) ?_
       refine zzb 195 [(0, .v x.v), (1, .v y.v), (4, .v (.int .i64 n)), (7, .adr 7 0), (96, .slc 96 0 2 2), (97, .v (.int .i64 2)), (98, .v (.int .i64 1)), (122, .v (.bool (!(decide ((Nt.monL z ((n % 6) - 1)) = (Nt.monL z ((n % 6) - 1)))))))] [(7, ⟨26, r.cs⟩), (96, ⟨3, [.int .i64 n, .int .i64 ((n % 6) - 1)]⟩)] ?_
       refine zzt (b := !(decide ((Nt.monL z ((n % 6) - 1)) = (Nt.monL z ((n % 6) - 1))))) (by kernel_rfl) (fun hb => ?_) (fun hb => ?_)
       ·exact absurd hb (by rw [show (!(decide ((Nt.monL z ((n % 6) - 1)) = (Nt.monL z ((n % 6) - 1))))) = false from (by rw [decide_eq_true rfl]; rfl)]; decide)
       ·clear hb
        refine zzr (zzo ?_)
        refine zze ?_
        refine zza 123 (.v (.int .i64 2)) ?_
        refine zza 98 (.v (.int .i64 2)) ?_
        refine zzw ?_
        refine rn_next ?_
        refine sw_weak (T := St.of 195 [(0, .v (.slice x.a x.n x.c)), (1, .v (.slice y.a y.n y.c)), (4, .v (.int .i64 n)), (7, .adr 7 0), (96, .slc 96 0 2 2), (97, .v (.int .i64 2)), (98, .v (.int .i64 2))] [(7, ⟨26, r.cs⟩), (96, ⟨3, [.int .i64 n, .int .i64 ((n % 6) - 1)]⟩)]) (by exact zzu _ _ _) ?_
        refine sq9 ?_
        refine zza 99 (.v (.bool false)) ?_
        refine zzb 195 [(0, .v x.v), (1, .v y.v), (4, .v (.int .i64 n)), (7, .adr 7 0), (96, .slc 96 0 2 2), (97, .v (.int .i64 2)), (98, .v (.int .i64 2)), (99, .v (.bool false))] [(7, ⟨26, r.cs⟩), (96, ⟨3, [.int .i64 n, .int .i64 ((n % 6) - 1)]⟩)] ?_
        refine zzc ?_
        refine zyr (by kernel_rfl) ?_
        refine zyb ?_
        refine zzo ?_
        refine zzc ?_
        replace hp12 := (hp12.ext (e111.trans (g117.ext.trans (e119.trans (g125.ext.trans (e127.trans (g129.ext.trans (e131.trans (g133.ext.trans (e135.trans (g139.ext.trans (e141.trans (g145.ext.trans (e148.trans (g150.ext.trans (e152.trans (g156.ext.trans (e158.trans (g162.ext.trans (e165.trans g167.ext))))))))))))))))))))
        replace hp17 := (hp17.ext (e111.trans (g117.ext.trans (e119.trans (g125.ext.trans (e127.trans (g129.ext.trans (e131.trans (g133.ext.trans (e135.trans (g139.ext.trans (e141.trans (g145.ext.trans (e148.trans (g150.ext.trans (e152.trans (g156.ext.trans (e158.trans (g162.ext.trans (e165.trans g167.ext))))))))))))))))))))
        replace hrf := (hrf.ext (e111.trans (g117.ext.trans (e119.trans (g125.ext.trans (e127.trans (g129.ext.trans (e131.trans (g133.ext.trans (e135.trans (g139.ext.trans (e141.trans (g145.ext.trans (e148.trans (g150.ext.trans (e152.trans (g156.ext.trans (e158.trans (g162.ext.trans (e165.trans g167.ext))))))))))))))))))))
        replace ha1f := (ha1f.ext (e111.trans (g117.ext.trans (e119.trans (g125.ext.trans (e127.trans (g129.ext.trans (e131.trans (g133.ext.trans (e135.trans (g139.ext.trans (e141.trans (g145.ext.trans (e148.trans (g150.ext.trans (e152.trans (g156.ext.trans (e158.trans (g162.ext.trans (e165.trans g167.ext))))))))))))))))))))
        replace ha2f := (ha2f.ext (e111.trans (g117.ext.trans (e119.trans (g125.ext.trans (e127.trans (g129.ext.trans (e131.trans (g133.ext.trans (e135.trans (g139.ext.trans (e141.trans (g145.ext.trans (e148.trans (g150.ext.trans (e152.trans (g156.ext.trans (e158.trans (g162.ext.trans (e165.trans g167.ext))))))))))))))))))))
        refine zze ?_
        refine zza 124 (.v (.int .i64 n)) ?_
        refine zzf 125 50 [.int .i64 n, .int .i64 5] ?_
        intro w169 u169 e169 d169
        have k172 := k_Mod d169 (n := n) (m := 5) (by omega) (by omega) (by omega) (by omega)
        with_reducible refine Post.mono k172 ?_
        rintro _ u170 g171 rfl
        refine zyp 126 (x := .v (.int .i64 (IntKind.i64.wrap ((n % 5) - 1)))) (.v (.int .i64 ((n % 5) - 1))) (by rw [IntWalk.i64_in _ (by omega)]) ?_
        refine zza 17 (.v (.int .i64 ((n % 5) - 1))) ?_
        refine zzb 195 [(0, .v x.v), (1, .v y.v), (7, .adr 7 0), (17, .v (.int .i64 ((n % 5) - 1)))] [(7, ⟨26, r.cs⟩)] ?_
        refine sq9 ?_
        refine zza 128 (.v x.v) ?_
        refine zza 129 (.v (.int .i64 ((n % 5) - 1))) ?_
        refine zzf 130 91 [x.v, .int .i64 ((n % 5) - 1)] ?_
        intro w173 u173 e173 d173
        have k178 := k_poPowU (n := (n % 5) - 1) (A := 576) d173 (hp12.ext (e169.trans (g171.ext.trans e173))) hs43 hD43 hs12 (by omega) (by decide) (by omega)
        with_reducible refine Post.mono k178 ?_
        rintro _ u176 g177 ⟨y174, rfl, h175⟩
        have hly174 := h175.len
        have hmy174 := Nt.pow_lenU (n := (n % 5) - 1) hs12 (by omega)
        refine zza 127 (.v (.tuple #[y174.v, .int .i64 (Nt.monE ((n % 5) - 1))])) ?_
        refine zza 131 (.v y174.v) ?_
        refine zza 132 (.v (.int .i64 (Nt.monE ((n % 5) - 1)))) ?_
        refine zza 18 (.v y174.v) ?_
        refine zza 19 (.v (.int .i64 (Nt.monE ((n % 5) - 1)))) ?_
        refine zzb 195 [(0, .v x.v), (1, .v y.v), (7, .adr 7 0), (17, .v (.int .i64 ((n % 5) - 1))), (18, .v y174.v), (19, .v (.int .i64 (Nt.monE ((n % 5) - 1))))] [(7, ⟨26, r.cs⟩)] ?_
        refine sq9 ?_
        refine zza 134 (.v x.v) ?_
        refine zza 135 (.v (.int .i64 ((n % 5) - 1))) ?_
        refine zzf 136 92 [x.v, .int .i64 ((n % 5) - 1)] ?_
        intro w179 u179 e179 d179
        have k184 := k_r5PowU (n := (n % 5) - 1) (A := 576) d179 (hp12.ext (e169.trans (g171.ext.trans (e173.trans (g177.ext.trans e179))))) hs43 hD43 hs12 (by omega) (by decide) (by omega)
        with_reducible refine Post.mono k184 ?_
        rintro _ u182 g183 ⟨y180, rfl, h181⟩
        have hly180 := h181.len
        have hmy180 := Nt.pow_lenU (n := (n % 5) - 1) hs12 (by omega)
        refine zza 133 (.v (.tuple #[y180.v, .int .i64 (Nt.monE ((n % 5) - 1))])) ?_
        refine zza 137 (.v y180.v) ?_
        refine zza 138 (.v (.int .i64 (Nt.monE ((n % 5) - 1)))) ?_
        refine zza 20 (.v y180.v) ?_
        refine zza 21 (.v (.int .i64 (Nt.monE ((n % 5) - 1)))) ?_
        refine zzb 195 [(0, .v x.v), (1, .v y.v), (7, .adr 7 0), (18, .v y174.v), (19, .v (.int .i64 (Nt.monE ((n % 5) - 1)))), (20, .v y180.v), (21, .v (.int .i64 (Nt.monE ((n % 5) - 1))))] [(7, ⟨26, r.cs⟩)] ?_
        refine zzc ?_
        replace hp12 := (hp12.ext (e169.trans (g171.ext.trans (e173.trans (g177.ext.trans (e179.trans g183.ext))))))
        replace hp17 := (hp17.ext (e169.trans (g171.ext.trans (e173.trans (g177.ext.trans (e179.trans g183.ext))))))
        replace hrf := (hrf.ext (e169.trans (g171.ext.trans (e173.trans (g177.ext.trans (e179.trans g183.ext))))))
        replace ha1f := (ha1f.ext (e169.trans (g171.ext.trans (e173.trans (g177.ext.trans (e179.trans g183.ext))))))
        replace ha2f := (ha2f.ext (e169.trans (g171.ext.trans (e173.trans (g177.ext.trans (e179.trans g183.ext))))))
        replace h175 := (h175.ext (e179.trans g183.ext))
        refine zze ?_
        refine zza 140 (.v x.v) ?_
        refine zzf 141 91 [x.v, .int .i64 49] ?_
        intro w185 u185 e185 d185
        have k188 := k_poPowBad (n := 49) (D := 0) (A := 0) (by decide) d185 (hp12.ext e185)
        with_reducible refine Post.mono k188 ?_
        rintro _ u186 g187 rfl
        refine zza 139 (.v (.tuple #[.slice none 0 0, .int .i64 12])) ?_
        refine zza 142 (.v (.slice none 0 0)) ?_
        refine zza 143 (.v (.int .i64 12)) ?_
        refine zza 22 (.v (.slice none 0 0)) ?_
        refine zza 23 (.v (.int .i64 12)) ?_
        refine zzb 195 [(0, .v x.v), (1, .v y.v), (7, .adr 7 0), (18, .v y174.v), (19, .v (.int .i64 (Nt.monE ((n % 5) - 1)))), (20, .v y180.v), (21, .v (.int .i64 (Nt.monE ((n % 5) - 1)))), (23, .v (.int .i64 12))] [(7, ⟨26, r.cs⟩)] ?_
        refine zzc ?_
        refine zzy [0, 1, 3, 3, 15, 31, 63, 127, 255, 511, 1023, 2047, 2047, 8191, 16383, 32767, 65535, 65535, 262143, 65535, 65535, 2097151, 4194303, 8388607, 16777215, 33554431, 33554431, 134217727, 33554431, 33554431, 1073741823, 2147483647, 4294967295, 8589934591, 17179869183, 17179869183, 68719476735, 17179869183, 17179869183, 549755813887, 1099511627775, 2199023255551, 4398046511103, 8796093022207, 8796093022207, 35184372088831, 8796093022207, 8796093022207, 281474976710655, 562949953421311, 1125899906842623, 2251799813685247] [(0, []), (1, []), (2, []), (3, []), (4, []), (5, []), (6, []), (7, []), (8, []), (9, []), (10, []), (11, []), (12, []), (13, []), (14, []), (15, []), (16, []), (17, []), (19, []), (20, []), (18, []), (21, []), (22, []), (23, []), (24, []), (25, []), (26, []), (28, []), (29, []), (27, []), (30, []), (31, []), (32, []), (33, []), (34, []), (35, []), (37, []), (38, []), (36, []), (39, []), (40, []), (41, []), (42, []), (43, []), (44, []), (46, []), (47, []), (45, []), (48, []), (49, []), (50, []), (51, [])] (by kernel_rfl) (by kernel_rfl) ?_
        refine zzf 144 26 [] ?_
        intro w189 u189 e189 d189
        have k192 := k_awake5 d189
        with_reducible refine Post.mono k192 ?_
        rintro _ u190 g191 rfl
        refine zza 145 (.v (.bool true)) ?_
        refine zza 146 (.v (.int .i64 (Nt.monE ((n % 5) - 1)))) ?_ (hw := w1 1 true 145)
        refine zza 147 (.v (.int .i64 (Nt.monE ((n % 5) - 1)))) ?_ (hw := w1 1 true 145)
        refine zza 148 (.v (.bool ((Nt.monE ((n % 5) - 1)) == (Nt.monE ((n % 5) - 1))))) ?_ (hw := w1 1 true 145)
        refine zza 149 (.v (.bool ((Nt.monE ((n % 5) - 1)) == (Nt.monE ((n % 5) - 1))))) ?_
        refine zyp 150 (x := .v (.bool ((Nt.monE ((n % 5) - 1)) == (Nt.monE ((n % 5) - 1))))) (.v (.bool true)) (by rw [show ((Nt.monE ((n % 5) - 1)) == (Nt.monE ((n % 5) - 1))) = true from (by simp)]) ?_
        refine zza 151 (.v (.int .i64 12)) ?_ (hw := w1 6 true 150)
        refine zza 152 (.v (.bool true)) ?_ (hw := w1 6 true 150)
        refine zza 153 (.v (.bool true)) ?_
        refine zza 154 (.v (.bool true)) ?_
        replace hp12 := (hp12.ext (e185.trans (g187.ext.trans (e189.trans g191.ext))))
        replace hp17 := (hp17.ext (e185.trans (g187.ext.trans (e189.trans g191.ext))))
        replace hrf := (hrf.ext (e185.trans (g187.ext.trans (e189.trans g191.ext))))
        replace ha1f := (ha1f.ext (e185.trans (g187.ext.trans (e189.trans g191.ext))))
        replace ha2f := (ha2f.ext (e185.trans (g187.ext.trans (e189.trans g191.ext))))
        replace h175 := (h175.ext (e185.trans (g187.ext.trans (e189.trans g191.ext))))
        replace h181 := (h181.ext (e185.trans (g187.ext.trans (e189.trans g191.ext))))
        refine zza 155 (.v y174.v) ?_ (hw := w1 10 true 154)
        refine zza 156 (.v y180.v) ?_ (hw := w1 10 true 154)
        refine zzf 157 29 [y174.v, y180.v] ?_ (hw := w1 10 true 154)
        intro w194 u194 e194 d194
        have k197 := k_r5Equal d194 (h175.ext e194) (h181.ext e194) (by first|omega|(simp;omega) | (refine Nat.le_trans (Nt.zzg _) ?_; first|omega|(simp;omega)) | (refine Nat.le_trans (Nt.zzg _) ?_; simp only [List.length_map]; refine Nat.le_trans (Nt.zzg _) ?_; first|omega|(simp;omega))) (by first|omega|(simp;omega) | (refine Nat.le_trans (Nt.zzg _) ?_; first|omega|(simp;omega)) | (refine Nat.le_trans (Nt.zzg _) ?_; simp only [List.length_map]; refine Nat.le_trans (Nt.zzg _) ?_; first|omega|(simp;omega)))
        with_reducible refine Post.mono k197 ?_
        rintro _ u195 g196 rfl
        refine zza 158 (.v (.bool (decide ((Nt.powL p ((n % 5) - 1)) = (Nt.powL p ((n % 5) - 1)))))) ?_
        refine zyp 159 (x := .v (.bool (decide ((Nt.powL p ((n % 5) - 1)) = (Nt.powL p ((n % 5) - 1)))))) (.v (.bool true)) (by rw [show (decide ((Nt.powL p ((n % 5) - 1)) = (Nt.powL p ((n % 5) - 1)))) = true from (decide_eq_true rfl)]) ?_
        replace hp12 := (hp12.ext (e194.trans g196.ext))
        replace hp17 := (hp17.ext (e194.trans g196.ext))
        replace hrf := (hrf.ext (e194.trans g196.ext))
        replace ha1f := (ha1f.ext (e194.trans g196.ext))
        replace ha2f := (ha2f.ext (e194.trans g196.ext))
        replace h175 := (h175.ext (e194.trans g196.ext))
        replace h181 := (h181.ext (e194.trans g196.ext))
        refine zza 160 (.v x.v) ?_ (hw := w1 15 true 159)
        refine zza 161 (.v y.v) ?_ (hw := w1 15 true 159)
        refine zza 163 (.v x.v) ?_ (hw := w1 15 true 159)
        refine zza 164 (.v y.v) ?_ (hw := w1 15 true 159)
        refine zzf 162 54 [x.v, y.v] ?_ (hw := w1 15 true 159)
        intro w199 u199 e199 d199
        have k204 := k_poAdd d199 (hp12.ext e199) (hp17.ext e199) (by omega) (by omega) (by first|omega|(simp;omega) | (refine Nat.le_trans (Nt.zzg _) ?_; first|omega|(simp;omega)) | (refine Nat.le_trans (Nt.zzg _) ?_; simp only [List.length_map]; refine Nat.le_trans (Nt.zzg _) ?_; first|omega|(simp;omega))) (by first|omega|(simp;omega) | (refine Nat.le_trans (Nt.zzg _) ?_; first|omega|(simp;omega)) | (refine Nat.le_trans (Nt.zzg _) ?_; simp only [List.length_map]; refine Nat.le_trans (Nt.zzg _) ?_; first|omega|(simp;omega)))
        with_reducible refine Post.mono k204 ?_
        rintro _ u202 g203 ⟨y200, rfl, h201⟩
        have hly200 := h201.len
        refine zzf 165 93 [x.v, y.v] ?_ (hw := w1 15 true 159)
        intro w205 u205 e205 d205
        have k210 := k_r5Add d205 (hp12.ext (e199.trans (g203.ext.trans e205))) (hp17.ext (e199.trans (g203.ext.trans e205))) (by omega) (by omega) (by first|omega|(simp;omega) | (refine Nat.le_trans (Nt.zzg _) ?_; first|omega|(simp;omega)) | (refine Nat.le_trans (Nt.zzg _) ?_; simp only [List.length_map]; refine Nat.le_trans (Nt.zzg _) ?_; first|omega|(simp;omega))) (by first|omega|(simp;omega) | (refine Nat.le_trans (Nt.zzg _) ?_; first|omega|(simp;omega)) | (refine Nat.le_trans (Nt.zzg _) ?_; simp only [List.length_map]; refine Nat.le_trans (Nt.zzg _) ?_; first|omega|(simp;omega)))
        with_reducible refine Post.mono k210 ?_
        rintro _ u208 g209 ⟨y206, rfl, h207⟩
        have hly206 := h207.len
        refine zzf 166 29 [y200.v, y206.v] ?_ (hw := w1 15 true 159)
        intro w211 u211 e211 d211
        have k214 := k_r5Equal d211 (h201.ext (e205.trans (g209.ext.trans e211))) (h207.ext e211) (by first|omega|(simp;omega) | (refine Nat.le_trans (Nt.zzg _) ?_; first|omega|(simp;omega)) | (refine Nat.le_trans (Nt.zzg _) ?_; simp only [List.length_map]; refine Nat.le_trans (Nt.zzg _) ?_; first|omega|(simp;omega))) (by first|omega|(simp;omega) | (refine Nat.le_trans (Nt.zzg _) ?_; first|omega|(simp;omega)) | (refine Nat.le_trans (Nt.zzg _) ?_; simp only [List.length_map]; refine Nat.le_trans (Nt.zzg _) ?_; first|omega|(simp;omega)))
        with_reducible refine Post.mono k214 ?_
        rintro _ u212 g213 rfl
        refine zza 167 (.v (.bool (decide ((Nt.trimQ (Nt.addQ p q)) = (Nt.trimQ (Nt.addQ p q)))))) ?_
        refine zyp 168 (x := .v (.bool (decide ((Nt.trimQ (Nt.addQ p q)) = (Nt.trimQ (Nt.addQ p q)))))) (.v (.bool true)) (by rw [show (decide ((Nt.trimQ (Nt.addQ p q)) = (Nt.trimQ (Nt.addQ p q)))) = true from (decide_eq_true rfl)]) ?_
        replace hp12 := (hp12.ext (e199.trans (g203.ext.trans (e205.trans (g209.ext.trans (e211.trans g213.ext))))))
        replace hp17 := (hp17.ext (e199.trans (g203.ext.trans (e205.trans (g209.ext.trans (e211.trans g213.ext))))))
        replace hrf := (hrf.ext (e199.trans (g203.ext.trans (e205.trans (g209.ext.trans (e211.trans g213.ext))))))
        replace ha1f := (ha1f.ext (e199.trans (g203.ext.trans (e205.trans (g209.ext.trans (e211.trans g213.ext))))))
        replace ha2f := (ha2f.ext (e199.trans (g203.ext.trans (e205.trans (g209.ext.trans (e211.trans g213.ext))))))
        replace h175 := (h175.ext (e199.trans (g203.ext.trans (e205.trans (g209.ext.trans (e211.trans g213.ext))))))
        replace h181 := (h181.ext (e199.trans (g203.ext.trans (e205.trans (g209.ext.trans (e211.trans g213.ext))))))
        replace h201 := (h201.ext (e205.trans (g209.ext.trans (e211.trans g213.ext))))
        replace h207 := (h207.ext (e211.trans g213.ext))
        refine zza 169 (.v x.v) ?_ (hw := w1 24 true 168)
        refine zza 170 (.v y.v) ?_ (hw := w1 24 true 168)
        refine zza 172 (.v x.v) ?_ (hw := w1 24 true 168)
        refine zza 173 (.v y.v) ?_ (hw := w1 24 true 168)
        refine zzf 171 94 [x.v, y.v] ?_ (hw := w1 24 true 168)
        intro w216 u216 e216 d216
        have k221 := k_poSub d216 (hp12.ext e216) (hp17.ext e216) (by omega) (by omega) (by first|omega|(simp;omega) | (refine Nat.le_trans (Nt.zzg _) ?_; first|omega|(simp;omega)) | (refine Nat.le_trans (Nt.zzg _) ?_; simp only [List.length_map]; refine Nat.le_trans (Nt.zzg _) ?_; first|omega|(simp;omega))) (by first|omega|(simp;omega) | (refine Nat.le_trans (Nt.zzg _) ?_; first|omega|(simp;omega)) | (refine Nat.le_trans (Nt.zzg _) ?_; simp only [List.length_map]; refine Nat.le_trans (Nt.zzg _) ?_; first|omega|(simp;omega)))
        with_reducible refine Post.mono k221 ?_
        rintro _ u219 g220 ⟨y217, rfl, h218⟩
        have hly217 := h218.len
        refine zzf 174 95 [x.v, y.v] ?_ (hw := w1 24 true 168)
        intro w222 u222 e222 d222
        have k227 := k_r5Sub d222 (hp12.ext (e216.trans (g220.ext.trans e222))) (hp17.ext (e216.trans (g220.ext.trans e222))) (by omega) (by omega) (by first|omega|(simp;omega) | (refine Nat.le_trans (Nt.zzg _) ?_; first|omega|(simp;omega)) | (refine Nat.le_trans (Nt.zzg _) ?_; simp only [List.length_map]; refine Nat.le_trans (Nt.zzg _) ?_; first|omega|(simp;omega))) (by first|omega|(simp;omega) | (refine Nat.le_trans (Nt.zzg _) ?_; first|omega|(simp;omega)) | (refine Nat.le_trans (Nt.zzg _) ?_; simp only [List.length_map]; refine Nat.le_trans (Nt.zzg _) ?_; first|omega|(simp;omega)))
        with_reducible refine Post.mono k227 ?_
        rintro _ u225 g226 ⟨y223, rfl, h224⟩
        have hly223 := h224.len
        have hmy223 : (Nt.trimQ (Nt.addQ p (Nt.trimQ (q.map (· * (((-1) : Int) : Rat)))))).length ≤ 8 := Nt.rsub_len hs12 hs17
        refine zzf 175 29 [y217.v, y223.v] ?_ (hw := w1 24 true 168)
        intro w228 u228 e228 d228
        have k231 := k_r5Equal d228 (h218.ext (e222.trans (g226.ext.trans e228))) (h224.ext e228) (by first|omega|(simp;omega) | (refine Nat.le_trans (Nt.zzg _) ?_; first|omega|(simp;omega)) | (refine Nat.le_trans (Nt.zzg _) ?_; simp only [List.length_map]; refine Nat.le_trans (Nt.zzg _) ?_; first|omega|(simp;omega))) (by first|omega|(simp;omega) | (refine Nat.le_trans (Nt.zzg _) ?_; first|omega|(simp;omega)) | (refine Nat.le_trans (Nt.zzg _) ?_; simp only [List.length_map]; refine Nat.le_trans (Nt.zzg _) ?_; first|omega|(simp;omega)))
        with_reducible refine Post.mono k231 ?_
        rintro _ u229 g230 rfl
        refine zza 176 (.v (.bool (decide ((Nt.trimQ (Nt.addQ p (q.map (fun z => -z)))) = (Nt.trimQ (Nt.addQ p (Nt.trimQ (q.map (· * (((-1) : Int) : Rat)))))))))) ?_
        refine zyp 177 (x := .v (.bool (decide ((Nt.trimQ (Nt.addQ p (q.map (fun z => -z)))) = (Nt.trimQ (Nt.addQ p (Nt.trimQ (q.map (· * (((-1) : Int) : Rat)))))))))) (.v (.bool true)) (by rw [show (decide ((Nt.trimQ (Nt.addQ p (q.map (fun z => -z)))) = (Nt.trimQ (Nt.addQ p (Nt.trimQ (q.map (· * (((-1) : Int) : Rat)))))))) = true from (decide_eq_true (Nt.sub_same _ _).symm)]) ?_
        replace hp12 := (hp12.ext (e216.trans (g220.ext.trans (e222.trans (g226.ext.trans (e228.trans g230.ext))))))
        replace hp17 := (hp17.ext (e216.trans (g220.ext.trans (e222.trans (g226.ext.trans (e228.trans g230.ext))))))
        replace hrf := (hrf.ext (e216.trans (g220.ext.trans (e222.trans (g226.ext.trans (e228.trans g230.ext))))))
        replace ha1f := (ha1f.ext (e216.trans (g220.ext.trans (e222.trans (g226.ext.trans (e228.trans g230.ext))))))
        replace ha2f := (ha2f.ext (e216.trans (g220.ext.trans (e222.trans (g226.ext.trans (e228.trans g230.ext))))))
        replace h175 := (h175.ext (e216.trans (g220.ext.trans (e222.trans (g226.ext.trans (e228.trans g230.ext))))))
        replace h181 := (h181.ext (e216.trans (g220.ext.trans (e222.trans (g226.ext.trans (e228.trans g230.ext))))))
        replace h201 := (h201.ext (e216.trans (g220.ext.trans (e222.trans (g226.ext.trans (e228.trans g230.ext))))))
        replace h207 := (h207.ext (e216.trans (g220.ext.trans (e222.trans (g226.ext.trans (e228.trans g230.ext))))))
        replace h218 := (h218.ext (e222.trans (g226.ext.trans (e228.trans g230.ext))))
        replace h224 := (h224.ext (e228.trans g230.ext))
        refine zza 178 (.v x.v) ?_ (hw := w1 33 true 177)
        refine zza 179 (.v y.v) ?_ (hw := w1 33 true 177)
        refine zza 181 (.v x.v) ?_ (hw := w1 33 true 177)
        refine zza 182 (.v y.v) ?_ (hw := w1 33 true 177)
        refine zzf 180 42 [x.v, y.v] ?_ (hw := w1 33 true 177)
        intro w233 u233 e233 d233
        have k238 := k_poMul d233 (hp12.ext e233) (hp17.ext e233) (Nat.le_trans (Nt.mlK_mono hs12 hs17 (Nat.le_refl _) (Nat.le_refl _)) (by decide +kernel)) (by omega) (by omega) (by omega) (by omega)
        with_reducible refine Post.mono k238 ?_
        rintro _ u236 g237 ⟨y234, rfl, h235⟩
        have hly234 := h235.len
        have hmy234 := Nt.mul_lenQ hs12 hs17
        refine zzf 183 96 [x.v, y.v] ?_ (hw := w1 33 true 177)
        intro w239 u239 e239 d239
        have k244 := k_r5Mul d239 (hp12.ext (e233.trans (g237.ext.trans e239))) (hp17.ext (e233.trans (g237.ext.trans e239))) (Nat.le_trans (Nt.kk_mono (Nat.le_refl _) (Nat.mul_le_mul hs12 hs17)) (by decide +kernel)) (by omega) (by omega) (by omega) (by omega)
        with_reducible refine Post.mono k244 ?_
        rintro _ u242 g243 ⟨y240, rfl, h241⟩
        have hly240 := h241.len
        have hmy240 := Nt.mul_lenQ hs12 hs17
        refine zzf 184 29 [y234.v, y240.v] ?_ (hw := w1 33 true 177)
        intro w245 u245 e245 d245
        have k248 := k_r5Equal d245 (h235.ext (e239.trans (g243.ext.trans e245))) (h241.ext e245) (by first|omega|(simp;omega) | (refine Nat.le_trans (Nt.zzg _) ?_; first|omega|(simp;omega)) | (refine Nat.le_trans (Nt.zzg _) ?_; simp only [List.length_map]; refine Nat.le_trans (Nt.zzg _) ?_; first|omega|(simp;omega))) (by first|omega|(simp;omega) | (refine Nat.le_trans (Nt.zzg _) ?_; first|omega|(simp;omega)) | (refine Nat.le_trans (Nt.zzg _) ?_; simp only [List.length_map]; refine Nat.le_trans (Nt.zzg _) ?_; first|omega|(simp;omega)))
        with_reducible refine Post.mono k248 ?_
        rintro _ u246 g247 rfl
        refine zza 185 (.v (.bool (decide ((Nt.trimQ (Nt.mulQ p q)) = (Nt.trimQ (Nt.mulQ p q)))))) ?_
        refine zyp 186 (x := .v (.bool (decide ((Nt.trimQ (Nt.mulQ p q)) = (Nt.trimQ (Nt.mulQ p q)))))) (.v (.bool true)) (by rw [show (decide ((Nt.trimQ (Nt.mulQ p q)) = (Nt.trimQ (Nt.mulQ p q)))) = true from (decide_eq_true rfl)]) ?_
        replace hp12 := (hp12.ext (e233.trans (g237.ext.trans (e239.trans (g243.ext.trans (e245.trans g247.ext))))))
        replace hp17 := (hp17.ext (e233.trans (g237.ext.trans (e239.trans (g243.ext.trans (e245.trans g247.ext))))))
        replace hrf := (hrf.ext (e233.trans (g237.ext.trans (e239.trans (g243.ext.trans (e245.trans g247.ext))))))
        replace ha1f := (ha1f.ext (e233.trans (g237.ext.trans (e239.trans (g243.ext.trans (e245.trans g247.ext))))))
        replace ha2f := (ha2f.ext (e233.trans (g237.ext.trans (e239.trans (g243.ext.trans (e245.trans g247.ext))))))
        replace h175 := (h175.ext (e233.trans (g237.ext.trans (e239.trans (g243.ext.trans (e245.trans g247.ext))))))
        replace h181 := (h181.ext (e233.trans (g237.ext.trans (e239.trans (g243.ext.trans (e245.trans g247.ext))))))
        replace h201 := (h201.ext (e233.trans (g237.ext.trans (e239.trans (g243.ext.trans (e245.trans g247.ext))))))
        replace h207 := (h207.ext (e233.trans (g237.ext.trans (e239.trans (g243.ext.trans (e245.trans g247.ext))))))
        replace h218 := (h218.ext (e233.trans (g237.ext.trans (e239.trans (g243.ext.trans (e245.trans g247.ext))))))
        replace h224 := (h224.ext (e233.trans (g237.ext.trans (e239.trans (g243.ext.trans (e245.trans g247.ext))))))
        replace h235 := (h235.ext (e239.trans (g243.ext.trans (e245.trans g247.ext))))
        replace h241 := (h241.ext (e245.trans g247.ext))
        refine zza 187 (.v x.v) ?_ (hw := w1 42 true 186)
        refine zzh 188 (.v (r.v)) ty26 zzd ?_ (hw := w1 42 true 186)
        refine zza 190 (.v x.v) ?_ (hw := w1 42 true 186)
        refine zzh 191 (.v (r.v)) ty26 zzd ?_ (hw := w1 42 true 186)
        refine zzf 189 97 [x.v, r.v] ?_ (hw := w1 42 true 186)
        intro w250 u250 e250 d250
        have k255 := k_poScale d250 (hp12.ext e250) (hrf.ext e250) (by omega) (by first|omega|(simp;omega) | (refine Nat.le_trans (Nt.zzg _) ?_; first|omega|(simp;omega)) | (refine Nat.le_trans (Nt.zzg _) ?_; simp only [List.length_map]; refine Nat.le_trans (Nt.zzg _) ?_; first|omega|(simp;omega))) (by omega)
        with_reducible refine Post.mono k255 ?_
        rintro _ u253 g254 ⟨y251, rfl, h252⟩
        have hly251 := h252.len
        refine zzf 192 98 [x.v, r.v] ?_ (hw := w1 42 true 186)
        intro w256 u256 e256 d256
        have k261 := k_r5Scale d256 (hp12.ext (e250.trans (g254.ext.trans e256))) (hrf.ext (e250.trans (g254.ext.trans e256))) (by omega) (by omega) (by omega)
        with_reducible refine Post.mono k261 ?_
        rintro _ u259 g260 ⟨y257, rfl, h258⟩
        have hly257 := h258.len
        refine zzf 193 29 [y251.v, y257.v] ?_ (hw := w1 42 true 186)
        intro w262 u262 e262 d262
        have k265 := k_r5Equal d262 (h252.ext (e256.trans (g260.ext.trans e262))) (h258.ext e262) (by first|omega|(simp;omega) | (refine Nat.le_trans (Nt.zzg _) ?_; first|omega|(simp;omega)) | (refine Nat.le_trans (Nt.zzg _) ?_; simp only [List.length_map]; refine Nat.le_trans (Nt.zzg _) ?_; first|omega|(simp;omega))) (by first|omega|(simp;omega) | (refine Nat.le_trans (Nt.zzg _) ?_; first|omega|(simp;omega)) | (refine Nat.le_trans (Nt.zzg _) ?_; simp only [List.length_map]; refine Nat.le_trans (Nt.zzg _) ?_; first|omega|(simp;omega)))
        with_reducible refine Post.mono k265 ?_
        rintro _ u263 g264 rfl
        refine zza 194 (.v (.bool (decide ((Nt.trimQ (p.map (· * z))) = (Nt.trimQ (p.map (· * z))))))) ?_
        refine zza 10 (.v (.bool (decide ((Nt.trimQ (p.map (· * z))) = (Nt.trimQ (p.map (· * z))))))) ?_
        refine zzb 195 [(10, .v (.bool (decide ((Nt.trimQ (p.map (· * z))) = (Nt.trimQ (p.map (· * z)))))))] [] ?_
        refine zzn (ret0 [.bool (decide ((Nt.trimQ (p.map (· * z))) = (Nt.trimQ (p.map (· * z)))))] ⟨zzp, trivial⟩ fun u266 e267 => ?_)
        show Value.bool _ = Value.bool _
        rw [show (decide ((Nt.trimQ (p.map (· * z))) = (Nt.trimQ (p.map (· * z))))) = true from (decide_eq_true rfl)]
  ·skip
   refine zza 30 (.v (.bool true)) ?_ (hw := w1 3 false 27)
   refine zza 31 (.v (.bool true)) ?_
   refine zza 32 (.v (.bool true)) ?_
   refine zzm 33 (uw 8 false true 32) ?_
   refine zzm 34 (uw 8 false true 32) ?_
   refine zzm 35 (uw 8 false true 32) ?_
   refine zza 36 (.v (.bool true)) ?_
   refine zza 37 (.v (.bool true)) ?_
   refine zzm 38 (uw 13 false true 37) ?_
   refine zzm 39 (uw 13 false true 37) ?_
   refine zzm 40 (uw 13 false true 37) ?_
   refine zza 41 (.v (.bool true)) ?_
   refine zzb 195 [(0, .v x.v), (1, .v y.v), (4, .v (.int .i64 n)), (7, .adr 7 0), (8, .adr 8 0), (41, .v (.bool true))] [(7, ⟨26, r.cs⟩), (8, ⟨28, a1.cs ++ a2.cs⟩)] ?_
   refine zyq (by kernel_rfl) ?_
   refine sq9 ?_
   refine zzf 42 26 [] ?_
   intro w268 u268 e268 d268
   have k271 := k_awake5 d268
   with_reducible refine Post.mono k271 ?_
   rintro _ u269 g270 rfl
   refine zza 10 (.v (.bool true)) ?_
   refine zzb 195 [(10, .v (.bool true))] [] ?_
   refine zzn (zzv (ret0 [.bool true] ⟨zzp, trivial⟩ fun u272 e273 => ?_))
   exact rfl
 ·skip
  refine zza 26 (.v (.bool true)) ?_
  refine zza 27 (.v (.bool true)) ?_
  refine zzm 28 (uw 3 false true 27) ?_
  refine zzm 29 (uw 3 false true 27) ?_
  refine zzm 30 (uw 3 false true 27) ?_
  refine zza 31 (.v (.bool true)) ?_
  refine zza 32 (.v (.bool true)) ?_
  refine zzm 33 (uw 8 false true 32) ?_
  refine zzm 34 (uw 8 false true 32) ?_
  refine zzm 35 (uw 8 false true 32) ?_
  refine zza 36 (.v (.bool true)) ?_
  refine zza 37 (.v (.bool true)) ?_
  refine zzm 38 (uw 13 false true 37) ?_
  refine zzm 39 (uw 13 false true 37) ?_
  refine zzm 40 (uw 13 false true 37) ?_
  refine zza 41 (.v (.bool true)) ?_
  refine zzb 195 [(0, .v x.v), (1, .v y.v), (4, .v (.int .i64 n)), (7, .adr 7 0), (8, .adr 8 0), (41, .v (.bool true))] [(7, ⟨26, r.cs⟩), (8, ⟨28, a1.cs ++ a2.cs⟩)] ?_
  refine zyq (by kernel_rfl) ?_
  refine sq9 ?_
  refine zzf 42 26 [] ?_
  intro w274 u274 e274 d274
  have k277 := k_awake5 d274
  with_reducible refine Post.mono k277 ?_
  rintro _ u275 g276 rfl
  refine zza 10 (.v (.bool true)) ?_
  refine zzb 195 [(10, .v (.bool true))] [] ?_
  refine zzn (zzv (ret0 [.bool true] ⟨zzp, trivial⟩ fun u278 e279 => ?_))
  exact rfl
end Go.Proofs.YtnedhbidmfoegaaGreat
