/- Contracts of integer roots, of Root and Sqrt. Printed by wip/sym/g_ee.py. Enclosures of roots; the values of the examples. Root, Sqrt of the program; the examples. Printed by wip/sym/g_ef.py. Laws of chapter 10, walked. Printed by wip/sym/g_eg.py. EnclosureNests, walked. Printed by wip/sym/g_eg.py. Powers; EnclosureTight, walked. Printed by wip/sym/g_eh.py. -/
import Derived.Test.YtbolmkfphieogaaGreatEtiD
namespace Go.Proofs.YtbolmkfphieogaaGreat
open Go.RowKit
set_option linter.unusedVariables false
set_option maxHeartbeats 1000000 in
theorem k_natPower {u w : World} {x : Sl} {A n K : Nat} (d : Dat u w) (hx : NatN u x A K) (hn : n ≤ 64) (hK : K ≤ 1000000) : Calls Tryz.prog 154 #[x.v, .int .i64 (n : Int)] w (Post u w fun v u' => ∃ y : Sl, v = y.v ∧ NatN u' y (A ^ n) (n * K + K + 1)) := by
 have hA1 : dl A ≤ K := hx.2.2
 have hnK : n * K ≤ 64 * 1000000 := Nat.mul_le_mul hn hK
 refine zzl (args := [.slice x.a x.n x.c, .int .i64 n]) Tryz.func154 rfl Tryz.ntmps154 (rs := [.tmp 4]) Tryz.results154 (le_b rfl) (le_b rfl) d ?_
 refine sq9 (zza 4 (.v (.slice none 0 0)) (zzb (sq9 (zxq 6 ⟨104, [.int .u32 1]⟩ 1 (fun b11 u12 e13 h14 => ?_)))))
 refine zza 5 (.v (.slice (some ⟨b11, 0, none⟩) 1 1)) (zzb (zzd (zzs (zyl (I := fun m15 S' u' => ∃ (m : Nat) (x1 : Sl) (y1 : Sl) (a : Nat) (r : Nat), (m15 = m) ∧ (Nt.PwI A n m a r) ∧ (m ≤ n) ∧ (S' = St.of 23 [(0, .v (.slice x1.a x1.n x1.c)), (1, zI m), (5, .v (.slice y1.a y1.n y1.c))] []) ∧ (Ext u12 u') ∧ (NatN u' x1 a (n * K + K + 1)) ∧ (NatN u' y1 r (n * K + K + 1))) (fun m S u1 u2 e h => by obtain ⟨m, x1, y1, a, r, hm, p0, p1, hS, hE, f0, f1⟩ := h; exact ⟨m, x1, y1, a, r, hm, p0, p1, hS, hE.trans e, f0.ext e, f1.ext e⟩) _ (by exact zzu _ _ _) ⟨n, x, (⟨some ⟨b11, 0, none⟩, 1, 1⟩ : Sl), A, 1, rfl, (Nt.PwI.start A n), xq, rfl, (Ext.refl _), (NatN.fit (hx.ext e13) xq), (NatN.more (one_data h14) xq)⟩ ?_))))
 rintro m15 _ u15 ⟨m, x1, y1, a, r, hm15, hI, hmn, rfl, e15, f0, f1⟩
 refine zzd (sq9 (zza 7 (zI m) (zza 8 (zB (decide ((0 : Int) < (m : Int)))) (zzb (zzt (b := decide ((0 : Int) < (m : Int))) xj (fun hb16 => ?_) (fun hb16 => ?_))))))
 ·replace hb16 : (decide ((0 : Int) < (m : Int))) = true := hb16
  have qhb16 := of_decide_eq_true hb16
  refine zzr (zzo ?_)
  refine zzs (zzd (sq9 (zza 9 (zI m) (zza 10 (zI (Int.tmod (m : Int) 2)) (zza 11 (zB ((Int.tmod (m : Int) 2) == 1)) (zzb (zzt (b := (Int.tmod (m : Int) 2) == 1) xj (fun hb17 => ?_) (fun hb17 => ?_))))))))
  ·replace hb17 : ((Int.tmod (m : Int) 2) == 1) = true := hb17
   have ehb17 : Int.tmod (m : Int) 2 = (m : Int) % 2 := Int.tmod_eq_emod_of_nonneg xq
   have q2hb17 :  m % 2 = 1 := by have h9 := hb17; rw [ehb17] at h9; simp at h9; omega
   refine zzf (zza 12 (.v y1.v) (zza 13 (.v x1.v) (zzg 14 156 [y1.v, x1.v] ?_)))
   intro w18 u18 e18 d18
   have k23 := k_natMul d18 (f1.ext e18).raw (f0.ext e18).raw xq xq
   with_reducible refine zPm k23 ?_
   rintro _ u21 g22 ⟨x19, rfl, h20⟩
   refine zza 5 (.v x19.v) (zzb (sq9 (zza 15 (zI m) (sy_quo 16 (n := (m : Int)) (m := 2) ((m / 2 : Nat) : Int) xw (by rw [Int.tdiv_eq_ediv_of_nonneg xq]; exact (IntWalk.i64_in _ xq).trans xq) ?_))))
   refine zza 1 (zI (m / 2 : Nat)) (zzb (sq9 (zza 17 (zI (m / 2 : Nat)) (zza 18 (zB (decide ((0 : Int) < ((m / 2 : Nat) : Int)))) (zzb (zzt (b := decide ((0 : Int) < ((m / 2 : Nat) : Int))) xj (fun hb24 => ?_) (fun hb24 => ?_)))))))
   ·replace hb24 : (decide ((0 : Int) < ((m / 2 : Nat) : Int))) = true := hb24
    have qhb24 := of_decide_eq_true hb24
    refine zzf (zza 19 (.v x1.v) (zza 20 (.v x1.v) (zzg 21 156 [x1.v, x1.v] ?_)))
    intro w25 u25 e25 d25
    have k30 := k_natMul d25 (f0.ext (e18.trans (g22.ext.trans e25))).raw (f0.ext (e18.trans (g22.ext.trans e25))).raw xq xq
    with_reducible refine zPm k30 ?_
    rintro _ u28 g29 ⟨x26, rfl, h27⟩
    refine zza 0 (.v x26.v) (zzw ?_)
    have hnx := hI.next xq (.inl ⟨q2hb17, rfl⟩) (.inl ⟨by have h9 := of_decide_eq_true hb24; omega, rfl⟩)
    have hbd := hnx.bd hA1
    have hbd1 := hbd.1
    refine ⟨_, ?_, _, by exact zzu _ _ _, m / 2, x26, x19, (a * a), (r * a), rfl, hnx, xq, rfl, (e15.trans (e18.trans (g22.ext.trans (e25.trans g29.ext)))), (NatN.fit h27 (by have h9 := hbd.2 (by have h9 := of_decide_eq_true hb24; omega); omega)), (NatN.fit (h20.ext (e25.trans g29.ext)) xq)⟩
    omega
   ·replace hb24 : (decide ((0 : Int) < ((m / 2 : Nat) : Int))) = false := hb24
    have qhb24 := of_decide_eq_false hb24
    refine zzr ?_
    have hnx := hI.next xq (.inl ⟨q2hb17, rfl⟩) (.inr ⟨by have h9 := of_decide_eq_false hb24; omega, rfl⟩)
    have hbd := hnx.bd hA1
    have hbd1 := hbd.1
    refine ⟨_, ?_, _, by exact zzu _ _ _, m / 2, x1, x19, a, (r * a), rfl, hnx, xq, rfl, (e15.trans (e18.trans g22.ext)), (f0.ext (e18.trans g22.ext)), (NatN.fit h20 xq)⟩
    omega
  ·replace hb17 : ((Int.tmod (m : Int) 2) == 1) = false := hb17
   have ehb17 : Int.tmod (m : Int) 2 = (m : Int) % 2 := Int.tmod_eq_emod_of_nonneg xq
   have q2hb17 : ¬ m % 2 = 1 := by have h9 := hb17; rw [ehb17] at h9; simp at h9; omega
   refine zzr (zzo ?_)
   refine sq9 (zza 15 (zI m) (sy_quo 16 (n := (m : Int)) (m := 2) ((m / 2 : Nat) : Int) xw (by rw [Int.tdiv_eq_ediv_of_nonneg xq]; exact (IntWalk.i64_in _ xq).trans xq) ?_))
   refine zza 1 (zI (m / 2 : Nat)) (zzb (sq9 (zza 17 (zI (m / 2 : Nat)) (zza 18 (zB (decide ((0 : Int) < ((m / 2 : Nat) : Int)))) (zzb (zzt (b := decide ((0 : Int) < ((m / 2 : Nat) : Int))) xj (fun hb31 => ?_) (fun hb31 => ?_)))))))
   ·replace hb31 : (decide ((0 : Int) < ((m / 2 : Nat) : Int))) = true := hb31
    have qhb31 := of_decide_eq_true hb31
    refine zzf (zza 19 (.v x1.v) (zza 20 (.v x1.v) (zzg 21 156 [x1.v, x1.v] ?_)))
    intro w32 u32 e32 d32
    have k37 := k_natMul d32 (f0.ext e32).raw (f0.ext e32).raw xq xq
    with_reducible refine zPm k37 ?_
    rintro _ u35 g36 ⟨x33, rfl, h34⟩
    refine zza 0 (.v x33.v) (zzw ?_)
    have hnx := hI.next xq (.inr ⟨q2hb17, rfl⟩) (.inl ⟨by have h9 := of_decide_eq_true hb31; omega, rfl⟩)
    have hbd := hnx.bd hA1
    have hbd1 := hbd.1
    refine ⟨_, ?_, _, by exact zzu _ _ _, m / 2, x33, y1, (a * a), r, rfl, hnx, xq, rfl, (e15.trans (e32.trans g36.ext)), (NatN.fit h34 (by have h9 := hbd.2 (by have h9 := of_decide_eq_true hb31; omega); omega)), (NatN.fit (f1.ext (e32.trans g36.ext)) xq)⟩
    omega
   ·replace hb31 : (decide ((0 : Int) < ((m / 2 : Nat) : Int))) = false := hb31
    have qhb31 := of_decide_eq_false hb31
    refine zzr ?_
    have hnx := hI.next xq (.inr ⟨q2hb17, rfl⟩) (.inr ⟨by have h9 := of_decide_eq_false hb31; omega, rfl⟩)
    have hbd := hnx.bd hA1
    have hbd1 := hbd.1
    refine ⟨_, ?_, _, by exact zzu _ _ _, m / 2, x1, y1, a, r, rfl, hnx, xq, rfl, e15, f0, (NatN.fit f1 xq)⟩
    omega
 ·replace hb16 : (decide ((0 : Int) < (m : Int))) = false := hb16
  have qhb16 := of_decide_eq_false hb16
  refine zyb (zzo (sq9 (zza 22 (.v y1.v) (zza 4 (.v y1.v) (zzb (zzn (ret0 [.slice y1.a y1.n y1.c] ⟨zzp, trivial⟩ fun u38 e39 => ?_)))))))
  have hm0 : m = 0 := by have h9 := of_decide_eq_false hb16; omega
  subst hm0
  have hd := hI.done
  subst hd
  exact ⟨y1, rfl, (f1.ext e39)⟩
set_option maxHeartbeats 2000000 in
theorem k_natRoot {u w : World} {x : Sl} {N n K : Nat} (d : Dat u w) (hx : NatV u x N K) (hn1 : 1 ≤ n) (hn : n ≤ 64) (hK : K ≤ 1000) : Calls Tryz.prog 81 #[x.v, .int .i64 (n : Int)] w (Post u w fun v u' => ∃ y : Sl, v = .tuple #[y.v, .int .i64 0] ∧ NatN u' y (Nt.irt n N) (K + 3)) := by
 have hB : Nt.bitl N ≤ 32 * K := Nt.bitl_dl hx.size
 have hdv := Nat.div_le_self (Nt.bitl N + n - 1) n
 obtain ⟨s, hs⟩ : ∃ s, (Nt.bitl N + n - 1) / n = s := ⟨_, rfl⟩
 rw [hs] at hdv
 have hnK : (n - 1) * (K + 3) ≤ 64 * 1003 := Nat.mul_le_mul xq xq
 refine zzl (args := [.slice x.a x.n x.c, .int .i64 n]) Tryz.func81 rfl Tryz.ntmps81 (rs := [.tmp 4, .tmp 5]) Tryz.results81 (le_b rfl) (le_b rfl) d ?_
 refine sq9 (zza 4 (.v (.slice none 0 0)) (zza 5 (zI 0) (zzb (zzd (sq9 (zza 12 (zI n) (zza 13 (zB (decide ((n : Int) < 1))) (zyn 14 (x := zB (decide ((n : Int) < 1))) (zB false) (by rw [show (decide ((n : Int) < 1)) = false from decide_eq_false xq]) (zza 15 (zI n) ?_ (hw := w1 2 false 14))))))))))
 refine zza 16 (zB (decide ((64 : Int) < (n : Int)))) ?_ (hw := w1 2 false 14)
 refine zza 17 (zB (decide ((64 : Int) < (n : Int)))) (zzb (zzt (b := decide ((64 : Int) < (n : Int))) xj (fun hb => ?_) (fun hb => ?_)))
 ·exact absurd hb (by rw [show (decide ((64 : Int) < (n : Int))) = false from decide_eq_false xq]; decide)
 ·clear hb
  refine zzr (zzo ?_)
  refine sq9 (zza 18 (.v x.v) (zzg 19 149 [x.v] ?_))
  intro w12 u12 e12 d12
  have k17 := k_natCut d12 (hx.ext e12) xq
  with_reducible refine zPm k17 ?_
  rintro _ u15 g16 ⟨x13, rfl, h14⟩
  refine zza 6 (.v x13.v) (zzb (zzd (sq9 (zza 20 (.v x13.v) (zza 21 (zI x13.n) (zza 22 (zB ((x13.n : Int) == 0)) (zzb (zzt (b := (x13.n : Int) == 0) xj (fun hb18 => ?_) (fun hb18 => ?_)))))))))
  ·replace hb18 : ((x13.n : Int) == 0) = true := hb18
   have qhb18 : (x13.n : Int) = 0 := by simpa using hb18
   have hz0 : N = 0 := by have h9 := hb18; simp at h9; have h8 := h14.pos; omega
   refine sq9 (zza 4 (.v (.slice none 0 0)) (zza 5 (zI 0) (zzb (zzn (zzv (ret0 [.slice none 0 0, .int .i64 0] ⟨zzp, zzp, trivial⟩ fun u19 e20 => ?_))))))
   subst hz0
   exact ⟨⟨none, 0, 0⟩, rfl, nat_nilN _ _⟩
  ·replace hb18 : ((x13.n : Int) == 0) = false := hb18
   have qhb18 : ¬ ((x13.n : Int) = 0) := by simpa using hb18
   have hNp : 1 ≤ N := by have h9 := hb18; simp at h9; have h8 := h14.pos; omega
   refine zzr (zzo ?_)
   refine sq9 (zxq 23 ⟨104, [.int .u32 1]⟩ 1 (fun b21 u22 e23 h24 => ?_))
   refine zza 24 (.v x13.v) (zzg 25 150 [x13.v] ?_)
   intro w25 u25 e25 d25
   have k28 := k_natBitLen d25 (h14.ext (e23.trans e25)).raw xq
   with_reducible refine zPm k28 ?_
   rintro _ u26 g27 rfl
   refine zza 26 (zI n) (zyn 27 (x := zI (IntKind.i64.wrap (((Nt.bitl N : Nat) : Int) + (n : Int)))) (zI (((Nt.bitl N) + n : Nat) : Int)) (eqI xk) (zyn 28 (x := zI (IntKind.i64.wrap ((((Nt.bitl N) + n : Nat) : Int) - 1))) (zI ((((Nt.bitl N) + n) - 1 : Nat) : Int)) (eqI xk) (zza 29 (zI n) (sy_quo 30 (n := ((Nt.bitl N + n - 1 : Nat) : Int)) (m := (n : Int)) ((s : Nat) : Int) xq (by rw [Int.tdiv_eq_ediv_of_nonneg xq, ← Int.natCast_ediv, hs]; exact IntWalk.i64_in _ xq) ?_))))
   refine zzg 31 151 [.slice (some ⟨b21, 0, none⟩) 1 1, .int .i64 s] ?_
   intro w29 u29 e29 d29
   have k34 := k_natRaise (s := s) d29 ((one_data h24).ext (e25.trans (g27.ext.trans e29))).raw xq xq
   with_reducible refine zPm k34 ?_
   rintro _ u32 g33 ⟨x30, rfl, h31⟩
   refine zza 7 (.v x30.v) (zzb (zzs (zyl (I := fun m35 S' u' => ∃ (r : Nat) (y1 : Sl), (m35 = r) ∧ (Nt.irt n N ≤ r) ∧ (1 ≤ r) ∧ (S' = St.of 62 [(1, zI n), (6, .v (.slice x13.a x13.n x13.c)), (7, .v (.slice y1.a y1.n y1.c))] []) ∧ (Ext u32 u') ∧ (NatN u' y1 r (K + 3))) (fun m S u1 u2 e h => by obtain ⟨r, y1, hm, p0, p1, hS, hE, f0⟩ := h; exact ⟨r, y1, hm, p0, p1, hS, hE.trans e, f0.ext e⟩) _ (by exact zzu _ _ _) ⟨(1 * 2 ^ s), x30, rfl, (by rw [Nat.one_mul, ← hs]; exact Nt.newton_start hn1 (Nt.bitl_lt N)), (by rw [Nat.one_mul]; exact Nat.pow_pos xw), rfl, (Ext.refl _), (NatN.more h31 xq)⟩ ?_)))
   rintro m35 _ u35 ⟨r, y1, hm35, hI, h1, rfl, e35, f0⟩
   refine zzs (sq9 (zza 33 (.v x13.v) (zza 34 (.v y1.v) (zza 35 (zI n) (zyn 36 (x := zI (IntKind.i64.wrap ((n : Int) - 1))) (zI (n - 1 : Nat)) (eqI xk) (zzg 37 154 [y1.v, .int .i64 (n - 1 : Nat)] ?_))))))
   intro w36 u36 e36 d36
   have k41 := k_natPower (n := n - 1) d36 (f0.ext e36) xq xq
   with_reducible refine zPm k41 ?_
   rintro _ u39 g40 ⟨x37, rfl, h38⟩
   refine zzg 38 153 [x13.v, x37.v] ?_
   intro w42 u42 e42 d42
   have k49 := k_natDivide d42 (h14.ext (e23.trans (e25.trans (g27.ext.trans (e29.trans (g33.ext.trans (e35.trans (e36.trans (g40.ext.trans e42))))))))) (h38.ext e42) (Nat.pow_pos h1) xq xq
   with_reducible refine zPm k49 ?_
   rintro _ u47 g48 ⟨x43, x45, rfl, h44, h46⟩
   refine zza 32 (.v (.tuple #[x43.v, x45.v])) (zza 39 (.v x43.v) (zza 40 (.v x45.v) (zza 8 (.v x43.v) (zza 9 (.v x45.v) (zzc 62 [(1, zI n), (6, .v x13.v), (7, .v y1.v), (8, .v x43.v)] [] (sq9 (zza 42 (.v y1.v) (zza 43 (zI n) (zyn 44 (x := zI (IntKind.i64.wrap ((n : Int) - 1))) (zI (n - 1 : Nat)) (eqI xk) (sy_conv 45 ((n - 1 : Nat) : Int) (fun w => by kernel_rfl) (IntWalk.u32_in _ xq) ?_))))))))))
   refine zxq 46 ⟨104, [.int .u32 (n - 1 : Nat)]⟩ 1 (fun b50 u51 e52 h53 => ?_)
   refine zzg 47 156 [y1.v, .slice (some ⟨b50, 0, none⟩) 1 1] ?_
   intro w54 u54 e54 d54
   have k59 := k_natMul d54 (f0.ext (e36.trans (g40.ext.trans (e42.trans (g48.ext.trans (e52.trans e54)))))).raw ((digit_data (D := n - 1) h53 xq).ext e54) xq xq
   with_reducible refine zPm k59 ?_
   rintro _ u57 g58 ⟨x55, rfl, h56⟩
   refine zza 48 (.v x43.v) (zzg 49 155 [x55.v, x43.v] ?_)
   intro w60 u60 e60 d60
   have k65 := k_natAdd d60 (h56.ext e60).raw (h44.ext (e52.trans (e54.trans (g58.ext.trans e60)))).raw xq xq
   with_reducible refine zPm k65 ?_
   rintro _ u63 g64 ⟨x61, rfl, h62⟩
   refine zza 50 (zI n) (sy_conv 51 ((n : Nat) : Int) (fun w => by kernel_rfl) (IntWalk.u32_in _ xq) ?_)
   refine zxq 52 ⟨104, [.int .u32 (n : Nat)]⟩ 1 (fun b66 u67 e68 h69 => ?_)
   refine zzg 53 153 [x61.v, .slice (some ⟨b66, 0, none⟩) 1 1] ?_
   intro w70 u70 e70 d70
   have k77 := k_natDivide d70 (h62.ext (e68.trans e70)) ((digit_dataN (D := n) h69 xq xq).ext e70) xq xq xq
   with_reducible refine zPm k77 ?_
   rintro _ u75 g76 ⟨x71, x73, rfl, h72, h74⟩
   refine zza 41 (.v (.tuple #[x71.v, x73.v])) (zza 54 (.v x71.v) (zza 55 (.v x73.v) (zza 10 (.v x71.v) (zza 11 (.v x73.v) (zzb (zzd (sq9 (zza 56 (.v x71.v) (zza 57 (.v y1.v) (zzg 58 83 [x71.v, y1.v] ?_))))))))))
   intro w78 u78 e78 d78
   have k81 := k_natCompare d78 (h72.ext e78).raw (f0.ext (e36.trans (g40.ext.trans (e42.trans (g48.ext.trans (e52.trans (e54.trans (g58.ext.trans (e60.trans (g64.ext.trans (e68.trans (e70.trans (g76.ext.trans e78))))))))))))).raw
   with_reducible refine zPm k81 ?_
   rintro _ u79 g80 rfl
   refine zza 59 (zB (decide ((0 : Int) ≤ (Nt.cmpS (((((r * (n - 1)) + (N / (r ^ (n - 1)))) / n) : Nat) : Int) ((r : Nat) : Int))))) (zzb (zzt (b := decide ((0 : Int) ≤ (Nt.cmpS (((((r * (n - 1)) + (N / (r ^ (n - 1)))) / n) : Nat) : Int) ((r : Nat) : Int)))) xj (fun hb82 => ?_) (fun hb82 => ?_)))
   ·replace hb82 : (decide ((0 : Int) ≤ (Nt.cmpS (((((r * (n - 1)) + (N / (r ^ (n - 1)))) / n) : Nat) : Int) ((r : Nat) : Int)))) = true := hb82
    have qhb82 := of_decide_eq_true hb82
    have ehb82 := hb82
    rw [Nt.cmp_geN] at ehb82
    have qnhb82 := of_decide_eq_true ehb82
    refine sq9 (zza 60 (.v y1.v) (zza 4 (.v y1.v) (zza 5 (zI 0) (zzb (zzn (zzv (zyr (zyq (zyr (ret0 [.slice y1.a y1.n y1.c, .int .i64 0] ⟨zzp, zzp, trivial⟩ fun u83 e84 => ?_))))))))))
    have hd := Nt.nw_done hn1 hI qnhb82
    subst hd
    exact ⟨y1, rfl, (f0.ext (e36.trans (g40.ext.trans (e42.trans (g48.ext.trans (e52.trans (e54.trans (g58.ext.trans (e60.trans (g64.ext.trans (e68.trans (e70.trans (g76.ext.trans (e78.trans (g80.ext.trans e84)))))))))))))))⟩
   ·replace hb82 : (decide ((0 : Int) ≤ (Nt.cmpS (((((r * (n - 1)) + (N / (r ^ (n - 1)))) / n) : Nat) : Int) ((r : Nat) : Int)))) = false := hb82
    have qhb82 := of_decide_eq_false hb82
    have ehb82 := hb82
    rw [Nt.cmp_geN] at ehb82
    have qnhb82 := Nat.lt_of_not_le (of_decide_eq_false ehb82)
    refine zzr (zzo ?_)
    refine zzf (zza 61 (.v x71.v) (zza 7 (.v x71.v) (zzw ?_)))
    refine ⟨_, ?_, _, by exact zzu _ _ _, (((r * (n - 1)) + (N / (r ^ (n - 1)))) / n), x71, rfl, (Nt.nw_ge hn1 h1), (Nat.le_trans (Nt.irt_pos hn1 hNp) (Nt.nw_ge hn1 h1)), rfl, (e35.trans (e36.trans (g40.ext.trans (e42.trans (g48.ext.trans (e52.trans (e54.trans (g58.ext.trans (e60.trans (g64.ext.trans (e68.trans (e70.trans (g76.ext.trans (e78.trans g80.ext)))))))))))))), (NatN.fit (h72.ext (e78.trans g80.ext)) (Nat.le_trans (Nt.dl_mono (Nat.le_of_lt qnhb82)) f0.2.2))⟩
    omega
theorem k_natPow {u w : World} {x : Sl} {A n K : Nat} (d : Dat u w) (hx : NatN u x A K) (hn : n ≤ 64) (hK : K ≤ 1000000) : Calls Tryz.prog 82 #[x.v, .int .i64 (n : Int)] w (Post u w fun v u' => ∃ y : Sl, v = .tuple #[y.v, .int .i64 0] ∧ NatN u' y (A ^ n) (n * K + K + 1)) := by
 refine zzl (args := [.slice x.a x.n x.c, .int .i64 n]) Tryz.func82 rfl Tryz.ntmps82 (rs := [.tmp 4, .tmp 5]) Tryz.results82 (le_b rfl) (le_b rfl) d ?_
 refine sq9 (zza 4 (.v (.slice none 0 0)) (zza 5 (zI 0) (zzb (zzd (sq9 (zza 6 (zI n) (zza 7 (zB (decide ((n : Int) < 0))) (zyn 8 (x := zB (decide ((n : Int) < 0))) (zB false) (by rw [show (decide ((n : Int) < 0)) = false from decide_eq_false xq]) (zza 9 (zI n) ?_ (hw := w1 2 false 8))))))))))
 refine zza 10 (zB (decide ((64 : Int) < (n : Int)))) ?_ (hw := w1 2 false 8)
 refine zza 11 (zB (decide ((64 : Int) < (n : Int)))) (zzb (zzt (b := decide ((64 : Int) < (n : Int))) xj (fun hb => ?_) (fun hb => ?_)))
 ·exact absurd hb (by rw [show (decide ((64 : Int) < (n : Int))) = false from decide_eq_false xq]; decide)
 ·clear hb
  refine zzr (zzo ?_)
  refine sq9 (zza 12 (.v x.v) (zza 13 (zI n) (zzg 14 154 [x.v, .int .i64 n] ?_)))
  intro w12 u12 e12 d12
  have k17 := k_natPower (n := n) d12 (hx.ext e12) xq xq
  with_reducible refine zPm k17 ?_
  rintro _ u15 g16 ⟨x13, rfl, h14⟩
  refine zza 4 (.v x13.v) (zza 5 (zI 0) (zzb (zzn (ret0 [.slice x13.a x13.n x13.c, .int .i64 0] ⟨zzp, zzp, trivial⟩ fun u18 e19 => ?_))))
  exact ⟨x13, rfl, (h14.ext e19)⟩
set_option maxRecDepth 20000
theorem wf_u8e {z : Int} (h : (Lit.int .u8 z).wf = true) : 0 ≤ z ∧ z ≤ 255 := by
 simp [Lit.wf, IntKind.min, IntKind.max, IntKind.bits, IntKind.signed] at h
 omega
namespace Nt
def rtD (q : Rat) (n b : Nat) : Nat := q.num.natAbs * 2 ^ (n * b) / q.den
def rtN (q : Rat) (n b : Nat) : Nat := irt n (rtD q n b)
def rtX (q : Rat) (n b : Nat) : Prop := q.num.natAbs * 2 ^ (n * b) % q.den = 0 ∧ rtN q n b ^ n = rtD q n b
instance (q : Rat) (n b : Nat) : Decidable (rtX q n b) := by unfold rtX; infer_instance
def rtH (q : Rat) (n b : Nat) : Int := if rtX q n b then (rtN q n b : Int) else (rtN q n b : Int) + 1
theorem sgQ_nn {q : Rat} (h : 0 ≤ q) : ¬ sgQ q < 0 := by
 intro h1
 have h2 := (sgQ_lt q).symm
 rw [decide_eq_true h1] at h2
 exact absurd (of_decide_eq_true h2) (Rat.not_lt.2 h)
theorem flo_of2 {X : Nat → Rat} {b w : Nat} {lo hi z : Int} (h : ∃ N : Nat, ∀ m, N ≤ m → Enc (u2 w) lo hi (X m)) (hb : b ≤ w) (h1 : lo / u2 (w - b) = z) (h2 : hi / u2 (w - b) = z) : flo X b = z := (FlO.of h hb h1 h2).flo
theorem flo_pi0 : flo piN 0 = 3 := flo_of2 (w := 128) ⟨110, pi_128⟩ xw (by decide +kernel) (by decide +kernel)
theorem flo_14 : flo (coN 1 4) 1 = 1 := flo_of2 (w := 128) (cs8_ok xw xw) xw (by decide +kernel) (by decide +kernel)
theorem cosV_13 : cosV 1 3 8 = (((1 : Int) : Rat) / ((2 : Int) : Rat), ((1 : Int) : Rat) / ((2 : Int) : Rat)) := by
 have h : fold 1 3 = 1 := by decide +kernel
 rw [cosV_lo h xw, cosA_3 xw xw xw]
 decide +kernel
theorem cosV_14 : cosV 1 4 1 = (((1 : Int) : Rat) / ((2 : Int) : Rat), ((1 : Int) : Rat)) := by
 have h : fold 1 4 = 1 := by decide +kernel
 rw [cosV_lo h xw, cosA_g xw xw xw, flo_14]
 decide +kernel
theorem pi_0 : gr 0 (flo piN 0) = ((3 : Int) : Rat) ∧ gr 0 (flo piN 0 + 1) = ((4 : Int) : Rat) := by rw [flo_pi0]; decide +kernel
theorem rt_22 : gr 2 (rtN ((2 : Int) : Rat) 2 2 : Int) = ((5 : Int) : Rat) / ((4 : Int) : Rat) ∧ gr 2 (rtH ((2 : Int) : Rat) 2 2) = ((3 : Int) : Rat) / ((2 : Int) : Rat) := by decide +kernel
theorem absQ_nn (x : Rat) : 0 ≤ absQ x := by unfold absQ; split <;> grind
theorem rtV_ord (q : Rat) (n k : Nat) : gr k (rtN q n k : Int) ≤ gr k (rtH q n k) := gr_mono (by unfold rtH; split <;> omega)
theorem rat_pow_cast (a : Nat) : ∀ n : Nat, ((a ^ n : Nat) : Rat) = (a : Rat) ^ n
 | 0 => by rw [Nat.pow_zero, Rat.pow_zero]; rfl
 | n + 1 => by rw [Nat.pow_succ, Rat.pow_succ, Rat.natCast_mul, rat_pow_cast a n]
theorem rat_mul_pow (a b : Rat) : ∀ n : Nat, (a * b) ^ n = a ^ n * b ^ n
 | 0 => by rw [Rat.pow_zero, Rat.pow_zero, Rat.pow_zero, Rat.mul_one]
 | n + 1 => by rw [Rat.pow_succ, Rat.pow_succ, Rat.pow_succ, rat_mul_pow a b n]; grind
theorem gr_pow (k z n : Nat) : gr k (z : Int) ^ n * ((2 ^ (n * k) : Nat) : Rat) = ((z ^ n : Nat) : Rat) := by
 have h := gr_mul k (z : Int)
 have e : (u2 k : Rat) = ((2 ^ k : Nat) : Rat) := rfl
 rw [e] at h
 rw [show n * k = k * n from Nat.mul_comm .., Nat.pow_mul, rat_pow_cast, rat_pow_cast z, ← rat_mul_pow, h]; rfl
theorem q_den {q : Rat} (h : 0 ≤ q) : q * (q.den : Rat) = (q.num.natAbs : Rat) := by
 have h1 : q * (q.den : Rat) = (q.num : Rat) := by
  have e : q = (q.num : Rat) / ((q.den : Int) : Rat) := by rw [mk_div]; exact (Rat.mkRat_self q).symm
  have := div_mul_c (x := (q.num : Rat)) (cast_pos q.den_pos)
  have e2 : (q.num : Rat) / (q.den : Rat) = q := e.symm
  rw [e2] at this; exact this
 have h2 : 0 ≤ q.num := Rat.num_nonneg.2 h
 rw [h1]
 have : ((q.num.natAbs : Nat) : Int) = q.num := by omega
 have e : ((q.num.natAbs : Nat) : Rat) = (((q.num.natAbs : Nat) : Int) : Rat) := rfl
 rw [e, this]
theorem rt_tight {q : Rat} {n k : Nat} (hq : 0 ≤ q) (hn : 1 ≤ n) : gr k (rtN q n k : Int) ^ n ≤ q ∧ q ≤ gr k (rtH q n k) ^ n ∧ (gr k (rtN q n k : Int) ^ n = q ↔ rtX q n k) := by
 have hd := q.den_pos
 have hdr := cast_pos hd
 have hp := cast_pos (Nat.pow_pos (n := n * k) (show 0 < 2 by decide))
 obtain ⟨a1, a2⟩ := irt_ok hn (rtD q n k)
 have b1 := Rat.natCast_le_natCast.2 ((Nat.le_div_iff_mul_le hd).1 a1)
 have b2 := Rat.natCast_lt_natCast.2 ((Nat.div_lt_iff_lt_mul hd).1 a2)
 rw [Rat.natCast_mul, Rat.natCast_mul, ← q_den hq] at b1 b2
 have g1 := gr_pow k (rtN q n k) n
 have g2 := gr_pow k (rtN q n k + 1) n
 have e1 : gr k (rtN q n k : Int) ^ n ≤ q := by
  refine Rat.le_of_mul_le_mul_right (c := ((2 ^ (n * k) : Nat) : Rat)) (Rat.le_of_mul_le_mul_right (c := (q.den : Rat)) ?_ hdr) hp
  rw [g1]
  have : q * ((2 ^ (n * k) : Nat) : Rat) * (q.den : Rat) = q * (q.den : Rat) * ((2 ^ (n * k) : Nat) : Rat) := by grind
  rw [this]; exact b1
 have e2 : q ≤ gr k ((rtN q n k + 1 : Nat) : Int) ^ n := by
  refine Rat.le_of_mul_le_mul_right (c := ((2 ^ (n * k) : Nat) : Rat)) (Rat.le_of_mul_le_mul_right (c := (q.den : Rat)) ?_ hdr) hp
  rw [g2]
  have : q * ((2 ^ (n * k) : Nat) : Rat) * (q.den : Rat) = q * (q.den : Rat) * ((2 ^ (n * k) : Nat) : Rat) := by grind
  rw [this]; exact Rat.le_of_lt b2
 have hx : gr k (rtN q n k : Int) ^ n = q ↔ rtX q n k := by
  have key : gr k (rtN q n k : Int) ^ n = q ↔ ((rtN q n k ^ n * q.den : Nat) : Rat) = ((q.num.natAbs * 2 ^ (n * k) : Nat) : Rat) := by
   rw [Rat.natCast_mul, Rat.natCast_mul, ← g1, ← q_den hq]
   have hd' : (q.den : Rat) ≠ 0 := by grind
   have hp' : ((2 ^ (n * k) : Nat) : Rat) ≠ 0 := by grind
   generalize gr k (rtN q n k : Int) ^ n = y at *
   generalize ((2 ^ (n * k) : Nat) : Rat) = P at *
   generalize (q.den : Rat) = D at *
   constructor
   ·intro h; rw [h]; grind
   ·intro h
    have : (y - q) * (P * D) = 0 := by grind
    rcases Rat.mul_eq_zero.1 this with h9 | h9
    ·grind
    ·rcases Rat.mul_eq_zero.1 h9 with h8 | h8
     ·exact absurd h8 hp'
     ·exact absurd h8 hd'
  rw [key, Rat.natCast_inj]
  unfold rtX
  have hm := Nat.div_add_mod (q.num.natAbs * 2 ^ (n * k)) q.den
  have eD : rtD q n k = q.num.natAbs * 2 ^ (n * k) / q.den := rfl
  rw [← eD] at hm
  constructor
  ·intro h
   rw [← h]
   refine ⟨Nat.mul_mod_left _ _, ?_⟩
   rw [eD, ← h, Nat.mul_div_cancel _ hd]
  ·rintro ⟨h1, h2⟩
   rw [h1] at hm
   rw [h2, Nat.mul_comm]; exact hm
 refine ⟨e1, ?_, hx⟩
 unfold rtH
 by_cases h : rtX q n k
 ·rw [if_pos h, hx.2 h]; exact Rat.le_refl
 ·rw [if_neg h]; exact e2
theorem rt_width {q : Rat} {n k : Nat} : (rtX q n k → gr k (rtH q n k) - gr k (rtN q n k : Int) = 0) ∧ (¬ rtX q n k → (gr k (rtH q n k) - gr k (rtN q n k : Int)) * (u2 k : Rat) = 1) := by
 unfold rtH
 constructor
 ·intro h; rw [if_pos h, gr_sub, Int.sub_self, gr_zero]
 ·intro h
  rw [if_neg h, gr_sub, gr_mul]
  have : (rtN q n k : Int) + 1 - (rtN q n k : Int) = 1 := by omega
  rw [this]; rfl
end Nt
end Go.Proofs.YtbolmkfphieogaaGreat
namespace Go.Proofs.YtbolmkfphieogaaGreat
open Go.RowKit
set_option linter.unusedVariables false
theorem Nt.rtH_of {q : Rat} {n k : Nat} (h : q.num.natAbs * 2 ^ (n * k) % q.den = 0) : Nt.rtH q n k = if (Nt.cmpS ((Nt.rtN q n k ^ n : Nat) : Int) ((Nt.rtD q n k : Nat) : Int) == 0) = true then (Nt.rtN q n k : Int) else (Nt.rtN q n k : Int) + 1 := by
 unfold Nt.rtH
 by_cases h1 : Nt.rtN q n k ^ n = Nt.rtD q n k
 ·rw [if_pos ⟨h, h1⟩, if_pos (by rw [Nt.cmp_eq (congrArg _ h1)]; rfl)]
 ·rw [if_neg (fun h2 => h1 h2.2), if_neg ?_]
  intro h2
  rcases Nt.cmp_range ((Nt.rtN q n k ^ n : Nat) : Int) ((Nt.rtD q n k : Nat) : Int) with ⟨e, h3⟩ | ⟨e, h3⟩ | ⟨e, h3⟩
  ·rw [e] at h2; exact absurd h2 xw
  ·exact h1 (Int.ofNat_inj.1 h3)
  ·rw [e] at h2; exact absurd h2 xw
set_option maxHeartbeats 2000000 in
theorem k_RootG {u w : World} {r : RL} {q : Rat} {K n k : Nat} (d : Dat u w) (hr : RatV u r q K) (hq0 : 0 ≤ q) (hn1 : 1 ≤ n) (hn : n ≤ 64) (hk : k ≤ 256) (hK : K ≤ 100) : Calls Tryz.prog 20 #[r.v, .int .i64 (n : Int), .int .i64 (k : Int)] w (Post u w fun v u' => ∃ r1 r2 : RL, v = .tuple #[IV r1 r2, .int .i64 0] ∧ RatN u' r1 (Nt.gr k (Nt.rtN q n k : Int)) 1000 ∧ RatN u' r2 (Nt.gr k (Nt.rtH q n k)) 1000) := by
 have hnk : n * k ≤ 64 * 256 := Nat.mul_le_mul hn hk
 refine zzl (args := [r.v, .int .i64 n, .int .i64 k]) Tryz.func20 rfl Tryz.ntmps20 (rs := [.cell 6 32, .tmp 7]) Tryz.results20 (le_b rfl) (le_b rfl) d ?_
 refine sq9 (zzj 3 ⟨26, r.cs⟩ (zzj 6 ⟨32, [.bool false, .slice none 0 0, .slice none 0 0, .bool false, .slice none 0 0, .slice none 0 0]⟩ (zza 7 (zI 0) (zzb (zzd (sq9 (zzh 17 (.v (r.v)) ty26 zze (zzg 18 76 [r.v] ?_))))))))
 intro w11 u11 e11 d11
 have k14 := k_ratSign d11 (hr.ext e11)
 with_reducible refine zPm k14 ?_
 rintro _ u12 g13 rfl
 refine zza 19 (zB (decide ((Nt.sgQ q) < 0))) (zyn 20 (x := zB (decide ((Nt.sgQ q) < 0))) (zB false) (by rw [show (decide ((Nt.sgQ q) < 0)) = false from decide_eq_false (Nt.sgQ_nn hq0)]) (zza 21 (zI k) ?_ (hw := w1 3 false 20)))
 refine zzg 22 77 [.int .i64 k] ?_ (hw := w1 3 false 20)
 intro w16 u16 e16 d16
 have k19 := k_ePermitted (n := (k : Int)) d16
 with_reducible refine zPm k19 ?_
 rintro _ u17 g18 rfl
 refine zza 23 (zB (!(decide (0 ≤ (k : Int) ∧ (k : Int) ≤ 256)))) ?_ (hw := w1 3 false 20)
 refine zza 24 (zB (!(decide (0 ≤ (k : Int) ∧ (k : Int) ≤ 256)))) (zyn 25 (x := zB (!(decide (0 ≤ (k : Int) ∧ (k : Int) ≤ 256)))) (zB false) (by rw [show (!(decide (0 ≤ (k : Int) ∧ (k : Int) ≤ 256))) = false from (by rw [decide_eq_true xq]; rfl)]) (zza 26 (zI n) ?_ (hw := w1 8 false 25)))
 refine zza 27 (zB (decide ((n : Int) < 1))) ?_ (hw := w1 8 false 25)
 refine zza 28 (zB (decide ((n : Int) < 1))) (zyn 29 (x := zB (decide ((n : Int) < 1))) (zB false) (by rw [show (decide ((n : Int) < 1)) = false from decide_eq_false xq]) (zza 30 (zI n) ?_ (hw := w1 12 false 29)))
 refine zza 31 (zB (decide ((64 : Int) < (n : Int)))) ?_ (hw := w1 12 false 29)
 refine zza 32 (zB (decide ((64 : Int) < (n : Int)))) (zzb (zzt (b := decide ((64 : Int) < (n : Int))) xj (fun hb => ?_) (fun hb => ?_)))
 ·exact absurd hb (by rw [show (decide ((64 : Int) < (n : Int))) = false from decide_eq_false xq]; decide)
 ·clear hb
  refine zzr (zzo ?_)
  refine sq9 (zzh 34 (.v (r.v)) ty26 zze (zzg 35 78 [r.v] ?_))
  intro w22 u22 e22 d22
  have k27 := k_ratTrim d22 (hr.ext (e11.trans (g13.ext.trans (e16.trans (g18.ext.trans e22))))) xq
  with_reducible refine zPm k27 ?_
  rintro _ u25 g26 ⟨r23, rfl, h24⟩
  refine zzi ⟨26, r23.cs⟩ ty26 ?_
  refine zzb (sq9 (zza 36 (.adr 3 0) (zza 37 (.adr 3 1) (zzh 38 (.v r23.m.v) ty22 zzk (zza 39 (zI n) (zza 40 (zI k) (zyn 41 (x := zI (IntKind.i64.wrap ((n : Int) * (k : Int)))) (zI (n * k : Nat)) (eqI (by rw [← Int.natCast_mul]; exact IntWalk.i64_in _ xq)) (zzg 42 79 [r23.m.v, .int .i64 (n * k : Nat)] ?_))))))))
  intro w28 u28 e28 d28
  have k33 := k_natShift (s := n * k) d28 ((int_mag (RatN.num h24)).ext e28).raw xq xq
  with_reducible refine zPm k33 ?_
  rintro _ u31 g32 ⟨x29, rfl, h30⟩
  refine zza 8 (.v x29.v) (zzb (sq9 (zza 44 (.v x29.v) (zza 45 (.adr 3 2) (zzh 46 (.v r23.d.v) ty22 zzk (zzg 47 80 [x29.v, r23.d.v] ?_))))))
  intro w34 u34 e34 d34
  have k41 := k_natDivMod d34 (h30.ext e34).raw ((RatN.den h24).ext (e28.trans (g32.ext.trans e34))).raw q.den_pos xq xq
  with_reducible refine zPm k41 ?_
  rintro _ u39 g40 ⟨x35, x36, rfl, h37, h38⟩
  refine zza 43 (.v (.tuple #[x35.v, x36.v, .int .i64 0])) (zza 48 (.v x35.v) (zza 49 (.v x36.v) (zza 50 (zI 0) (zza 9 (.v x35.v) (zza 10 (.v x36.v) (zza 11 (zI 0) (zzc 77 [(1, zI n), (2, zI k), (6, .adr 6 0), (9, .v x35.v), (10, .v x36.v)] [(6, ⟨32, [.bool false, .slice none 0 0, .slice none 0 0, .bool false, .slice none 0 0, .slice none 0 0]⟩)] (sq9 (zza 52 (.v x35.v) (zza 53 (zI n) (zzg 54 81 [x35.v, .int .i64 n] ?_)))))))))))
  intro w42 u42 e42 d42
  have k47 := k_natRoot (n := n) d42 (h37.ext e42).raw xq xq xq
  with_reducible refine zPm k47 ?_
  rintro _ u45 g46 ⟨x43, rfl, h44⟩
  refine zza 51 (.v (.tuple #[x43.v, .int .i64 0])) (zza 55 (.v x43.v) (zza 56 (zI 0) (zza 12 (.v x43.v) (zza 13 (zI 0) (zzb (sq9 (zza 58 (.v x43.v) (zza 59 (zI n) (zzg 60 82 [x43.v, .int .i64 n] ?_)))))))))
  intro w48 u48 e48 d48
  have k53 := k_natPow (n := n) d48 (h44.ext e48) xq xq
  with_reducible refine zPm k53 ?_
  rintro _ u51 g52 ⟨x49, rfl, h50⟩
  refine zza 57 (.v (.tuple #[x49.v, .int .i64 0])) (zza 61 (.v x49.v) (zza 62 (zI 0) (zza 14 (.v x49.v) (zza 15 (zI 0) (zzb (sq9 (zza 63 (.v x36.v) (zza 64 (zI x36.n) (zza 65 (zB ((x36.n : Int) == 0)) ?_)))))))))
  rcases Bool.eq_false_or_eq_true ((x36.n : Int) == 0) with hs54 | hs54
  ·refine zyn 66 (x := zB ((x36.n : Int) == 0)) (zB true) (by rw [hs54]) ?_
   have qhs54 : (x36.n : Int) = 0 := by simpa using hs54
   refine zza 67 (.v x49.v) ?_ (hw := w1 3 true 66)
   refine zza 68 (.v x35.v) ?_ (hw := w1 3 true 66)
   refine zzg 69 83 [x49.v, x35.v] ?_ (hw := w1 3 true 66)
   intro w55 u55 e55 d55
   have k58 := k_natCompare d55 (h50.ext e55).raw (h37.ext (e42.trans (g46.ext.trans (e48.trans (g52.ext.trans e55))))).raw
   with_reducible refine zPm k58 ?_
   rintro _ u56 g57 rfl
   refine zza 70 (zB ((Nt.cmpS ((((Nt.irt n ((((q.num : Int).natAbs) * 2 ^ (n * k)) / q.den)) ^ n) : Nat) : Int) ((((((q.num : Int).natAbs) * 2 ^ (n * k)) / q.den) : Nat) : Int)) == 0)) ?_ (hw := w1 3 true 66)
   refine zza 71 (zB ((Nt.cmpS ((((Nt.irt n ((((q.num : Int).natAbs) * 2 ^ (n * k)) / q.den)) ^ n) : Nat) : Int) ((((((q.num : Int).natAbs) * 2 ^ (n * k)) / q.den) : Nat) : Int)) == 0)) (zza 16 (zB ((Nt.cmpS ((((Nt.irt n ((((q.num : Int).natAbs) * 2 ^ (n * k)) / q.den)) ^ n) : Nat) : Int) ((((((q.num : Int).natAbs) * 2 ^ (n * k)) / q.den) : Nat) : Int)) == 0)) (zzb (sq9 (zza 72 (.v x43.v) (zza 73 (.v (.agg #[.bool false, x43.v])) (zza 74 (zB ((Nt.cmpS ((((Nt.irt n ((((q.num : Int).natAbs) * 2 ^ (n * k)) / q.den)) ^ n) : Nat) : Int) ((((((q.num : Int).natAbs) * 2 ^ (n * k)) / q.den) : Nat) : Int)) == 0)) (zza 75 (zI k) (zzg 76 84 [.agg #[.bool false, x43.v], .bool ((Nt.cmpS ((((Nt.irt n ((((q.num : Int).natAbs) * 2 ^ (n * k)) / q.den)) ^ n) : Nat) : Int) ((((((q.num : Int).natAbs) * 2 ^ (n * k)) / q.den) : Nat) : Int)) == 0), .int .i64 k] ?_))))))))
   intro w59 u59 e59 d59
   have k66 := k_betweenB (k := k) (e := (Nt.cmpS ((((Nt.irt n ((((q.num : Int).natAbs) * 2 ^ (n * k)) / q.den)) ^ n) : Nat) : Int) ((((((q.num : Int).natAbs) * 2 ^ (n * k)) / q.den) : Nat) : Int)) == 0) d59 (nat_intN (h44.ext (e48.trans (g52.ext.trans (e55.trans (g57.ext.trans e59)))))) xq xq xq
   with_reducible refine zPm k66 ?_
   rintro _ u64 g65 ⟨r60, r62, rfl, h61, h63⟩
   refine zzi ⟨32, r60.cs ++ r62.cs⟩ ty32 ?_
   refine zza 7 (zI 0) (zzc 77 [(6, .adr 6 0), (7, zI 0)] [(6, ⟨32, r60.cs ++ r62.cs⟩)] (zzn (ret0 [.agg #[.bool r60.s, .slice r60.m.a r60.m.n r60.m.c, .slice r60.d.a r60.d.n r60.d.c, .bool r62.s, .slice r62.m.a r62.m.n r62.m.c, .slice r62.d.a r62.d.n r62.d.c], .int .i64 0] ⟨zzq ty32 zze, zzp, trivial⟩ fun u67 e68 => ?_)))
   have hps := h38.pos
   have hx0 : q.num.natAbs * 2 ^ (n * k) % q.den = 0 := by have h8 := hs54; simp at h8; omega
   have he := Nt.rtH_of hx0
   exact ⟨r60, r62, rfl, RatN.more (h61.ext e68) xq, by rw [he]; exact RatN.more (h63.ext e68) xq⟩
  ·refine zyn 66 (x := zB ((x36.n : Int) == 0)) (zB false) (by rw [hs54]) ?_
   have qhs54 : ¬ ((x36.n : Int) = 0) := by simpa using hs54
   refine zzm 67 (uw 3 true false 66) (zzm 68 (uw 3 true false 66) (zzm 69 (uw 3 true false 66) (zzm 70 (uw 3 true false 66) (zza 71 (zB false) (zza 16 (zB false) (zzb (sq9 (zza 72 (.v x43.v) (zza 73 (.v (.agg #[.bool false, x43.v])) (zza 74 (zB false) (zza 75 (zI k) ?_)))))))))))
   refine zzg 76 84 [.agg #[.bool false, x43.v], .bool false, .int .i64 k] ?_
   intro w69 u69 e69 d69
   have k76 := k_betweenN (k := k) d69 (nat_intN (h44.ext (e48.trans (g52.ext.trans e69)))) xq xq xq
   with_reducible refine zPm k76 ?_
   rintro _ u74 g75 ⟨r70, r72, rfl, h71, h73⟩
   refine zzi ⟨32, r70.cs ++ r72.cs⟩ ty32 ?_
   refine zza 7 (zI 0) (zzc 77 [(6, .adr 6 0), (7, zI 0)] [(6, ⟨32, r70.cs ++ r72.cs⟩)] (zzn (ret0 [.agg #[.bool r70.s, .slice r70.m.a r70.m.n r70.m.c, .slice r70.d.a r70.d.n r70.d.c, .bool r72.s, .slice r72.m.a r72.m.n r72.m.c, .slice r72.d.a r72.d.n r72.d.c], .int .i64 0] ⟨zzq ty32 zze, zzp, trivial⟩ fun u77 e78 => ?_)))
   have hps := h38.pos
   have hx : ¬ Nt.rtX q n k := fun h9 => by have h8 := hs54; simp at h8; have h7 := h9.1; omega
   have he : Nt.rtH q n k = _ := if_neg hx
   exact ⟨r70, r72, rfl, RatN.more (h71.ext e78) xq, by rw [he]; exact RatN.more (h73.ext e78) xq⟩
theorem k_SqrtG {u w : World} {r : RL} {q : Rat} {K k : Nat} (d : Dat u w) (hr : RatV u r q K) (hq0 : 0 ≤ q) (hk : k ≤ 256) (hK : K ≤ 100) : Calls Tryz.prog 18 #[r.v, .int .i64 (k : Int)] w (Post u w fun v u' => ∃ r1 r2 : RL, v = .tuple #[IV r1 r2, .int .i64 0] ∧ RatN u' r1 (Nt.gr k (Nt.rtN q 2 k : Int)) 1000 ∧ RatN u' r2 (Nt.gr k (Nt.rtH q 2 k)) 1000) := by
 refine zzl (args := [r.v, .int .i64 k]) Tryz.func18 rfl Tryz.ntmps18 (rs := [.cell 4 32, .tmp 5]) Tryz.results18 (le_b rfl) (le_b rfl) d ?_
 refine sq9 (zzj 2 ⟨26, r.cs⟩ (zzj 4 ⟨32, [.bool false, .slice none 0 0, .slice none 0 0, .bool false, .slice none 0 0, .slice none 0 0]⟩ (zza 5 (zI 0) (zzb (sq9 (zzh 6 (.v (r.v)) ty26 zze (zza 7 (zI k) (zzg 8 20 [r.v, .int .i64 2, .int .i64 k] ?_))))))))
 intro w11 u11 e11 d11
 have k18 := k_RootG (n := 2) (k := k) d11 (hr.ext e11) hq0 xq xq xq xq
 with_reducible refine zPm k18 ?_
 rintro _ u16 g17 ⟨r12, r14, rfl, h13, h15⟩
 refine zza 9 (.v (.agg #[.bool r12.s, r12.m.v, r12.d.v, .bool r14.s, r14.m.v, r14.d.v])) (zza 10 (zI 0) (zzi ⟨32, r12.cs ++ r14.cs⟩ ty32 ?_))
 refine zza 5 (zI 0) (zzb (zzn (ret0 [.agg #[.bool r12.s, .slice r12.m.a r12.m.n r12.m.c, .slice r12.d.a r12.d.n r12.d.c, .bool r14.s, .slice r14.m.a r14.m.n r14.m.c, .slice r14.d.a r14.d.n r14.d.c], .int .i64 0] ⟨zzq ty32 zze, zzp, trivial⟩ fun u19 e20 => ?_)))
 exact ⟨r12, r14, rfl, RatN.more (h13.ext e20) xq, RatN.more (h15.ext e20) xq⟩
set_option maxHeartbeats 1000000 in
theorem k_awake10 {u w : World} (d : Dat u w) : Calls Tryz.prog 16 #[] w (Post u w fun v _ => v = .bool true) := by
 refine zzl (args := []) Tryz.func16 rfl Tryz.ntmps16 (rs := [.tmp 0]) Tryz.results16 (le_b rfl) (le_b rfl) d ?_
 refine sq9 (zza 0 (zB false) (zzb (sq9 (zzg 10 30 [.int .i64 2] ?_))))
 intro w11 u11 e11 d11
 have k16 := k_rqOf d11 (z := 2) xq xq
 with_reducible refine zPm k16 ?_
 rintro _ u14 g15 ⟨r12, rfl, h13⟩
 refine zzg 11 18 [r12.v, .int .i64 2] ?_
 intro w17 u17 e17 d17
 have k24 := (Post.mono (k_SqrtG (k := 2) d17 (h13.ext e17).raw (by decide +kernel) xq xq) fun v u9 _ ⟨p, q, e1, e2, e3⟩ => (⟨p, q, e1, by rw [← Nt.rt_22.1]; exact e2, by rw [← Nt.rt_22.2]; exact e3⟩ : ∃ r1 r2 : RL, v = Value.tuple #[IV r1 r2, Value.int .i64 0] ∧ RatN u9 r1 (((5 : Int) : Rat) / ((4 : Int) : Rat)) 1000 ∧ RatN u9 r2 (((3 : Int) : Rat) / ((2 : Int) : Rat)) 1000))
 with_reducible refine zPm k24 ?_
 rintro _ u22 g23 ⟨r18, r20, rfl, h19, h21⟩
 refine zza 9 (.v (.tuple #[.agg #[.bool r18.s, r18.m.v, r18.d.v, .bool r20.s, r20.m.v, r20.d.v], .int .i64 0])) (zza 12 (.v (.agg #[.bool r18.s, r18.m.v, r18.d.v, .bool r20.s, r20.m.v, r20.d.v])) (zza 13 (zI 0) (zzj 1 ⟨32, [.bool false, .slice none 0 0, .slice none 0 0, .bool false, .slice none 0 0, .slice none 0 0]⟩ (zzi ⟨32, r18.cs ++ r20.cs⟩ ty32 ?_))))
 refine zza 2 (zI 0) (zzb (sq9 (zzg 15 32 [.int .i64 0] ?_)))
 intro w25 u25 e25 d25
 have k32 := (Post.mono (k_PiG (k := 0) d25 xq) fun v u9 _ ⟨p, q, e1, e2, e3⟩ => (⟨p, q, e1, by rw [← Nt.pi_0.1]; exact e2, by rw [← Nt.pi_0.2]; exact e3⟩ : ∃ r1 r2 : RL, v = Value.tuple #[IV r1 r2, Value.int .i64 0] ∧ RatN u9 r1 ((3 : Int) : Rat) 80 ∧ RatN u9 r2 ((4 : Int) : Rat) 80))
 with_reducible refine zPm k32 ?_
 rintro _ u30 g31 ⟨r26, r28, rfl, h27, h29⟩
 refine zza 14 (.v (.tuple #[.agg #[.bool r26.s, r26.m.v, r26.d.v, .bool r28.s, r28.m.v, r28.d.v], .int .i64 0])) (zza 16 (.v (.agg #[.bool r26.s, r26.m.v, r26.d.v, .bool r28.s, r28.m.v, r28.d.v])) (zza 17 (zI 0) (zzj 3 ⟨32, [.bool false, .slice none 0 0, .slice none 0 0, .bool false, .slice none 0 0, .slice none 0 0]⟩ (zzi ⟨32, r26.cs ++ r28.cs⟩ ty32 ?_))))
 refine zza 4 (zI 0) (zzb (sq9 (zzg 19 31 [.int .i64 1, .int .i64 3, .int .i64 8] ?_)))
 intro w33 u33 e33 d33
 have k40 := (Post.mono (k_CosPiG (p := 1) (q := 3) (k := 8) d33 xq xq xq xq xq (Nt.gapQ_80 xw xw xw)) fun v u9 _ ⟨p, q, e1, e2, e3⟩ => (⟨p, q, e1, by rw [Nt.cosV_13] at e2; exact e2, by rw [Nt.cosV_13] at e3; exact e3⟩ : ∃ r1 r2 : RL, v = Value.tuple #[IV r1 r2, Value.int .i64 0] ∧ RatN u9 r1 (((1 : Int) : Rat) / ((2 : Int) : Rat)) 80 ∧ RatN u9 r2 (((1 : Int) : Rat) / ((2 : Int) : Rat)) 80))
 with_reducible refine zPm k40 ?_
 rintro _ u38 g39 ⟨r34, r36, rfl, h35, h37⟩
 refine zza 18 (.v (.tuple #[.agg #[.bool r34.s, r34.m.v, r34.d.v, .bool r36.s, r36.m.v, r36.d.v], .int .i64 0])) (zza 20 (.v (.agg #[.bool r34.s, r34.m.v, r34.d.v, .bool r36.s, r36.m.v, r36.d.v])) (zza 21 (zI 0) (zzj 5 ⟨32, [.bool false, .slice none 0 0, .slice none 0 0, .bool false, .slice none 0 0, .slice none 0 0]⟩ (zzi ⟨32, r34.cs ++ r36.cs⟩ ty32 ?_))))
 refine zza 6 (zI 0) (zzb (sq9 (zzg 23 31 [.int .i64 1, .int .i64 4, .int .i64 1] ?_)))
 intro w41 u41 e41 d41
 have k48 := (Post.mono (k_CosPiG (p := 1) (q := 4) (k := 1) d41 xq xq xq xq xq (Nt.gapQ_80 xw xw xw)) fun v u9 _ ⟨p, q, e1, e2, e3⟩ => (⟨p, q, e1, by rw [Nt.cosV_14] at e2; exact e2, by rw [Nt.cosV_14] at e3; exact e3⟩ : ∃ r1 r2 : RL, v = Value.tuple #[IV r1 r2, Value.int .i64 0] ∧ RatN u9 r1 (((1 : Int) : Rat) / ((2 : Int) : Rat)) 80 ∧ RatN u9 r2 ((1 : Int) : Rat) 80))
 with_reducible refine zPm k48 ?_
 rintro _ u46 g47 ⟨r42, r44, rfl, h43, h45⟩
 refine zza 22 (.v (.tuple #[.agg #[.bool r42.s, r42.m.v, r42.d.v, .bool r44.s, r44.m.v, r44.d.v], .int .i64 0])) (zza 24 (.v (.agg #[.bool r42.s, r42.m.v, r42.d.v, .bool r44.s, r44.m.v, r44.d.v])) (zza 25 (zI 0) (zzj 7 ⟨32, [.bool false, .slice none 0 0, .slice none 0 0, .bool false, .slice none 0 0, .slice none 0 0]⟩ (zzi ⟨32, r42.cs ++ r44.cs⟩ ty32 ?_))))
 refine zza 8 (zI 0) (zzb (zzd (zzy [0, 1, 3, 7, 15, 31, 63, 127, 255, 511, 1023, 2047, 4095, 8191, 16383, 32767, 32767, 98303, 229375, 524287, 1048575, 2097151, 4194303, 4194303, 12582911, 29360127, 67108863, 134217727, 268435455, 536870911, 536870911, 1610612735, 3758096383, 8589934591, 17179869183, 34359738367, 68719476735, 68719476735, 206158430207, 481036337151, 1099511627775, 2199023255551, 4398046511103] [(0, []), (1, []), (2, []), (3, []), (4, []), (5, []), (6, []), (7, []), (8, []), (9, []), (10, []), (11, []), (12, []), (13, []), (14, []), (15, []), (16, []), (17, []), (18, []), (19, []), (20, []), (21, []), (22, []), (23, []), (24, []), (25, []), (26, []), (27, []), (28, []), (29, []), (30, []), (31, []), (32, []), (33, []), (34, []), (35, []), (36, []), (37, []), (38, []), (39, []), (40, []), (41, []), (42, [])] xj xj (zza 26 (zI 0) (zza 27 (zB true) (zza 28 (zB true) (zza 29 (zI 0) ?_ (hw := w1 2 true 28))))))))
 refine zza 30 (zB true) ?_ (hw := w1 2 true 28)
 refine zza 31 (zB true) (zza 32 (zB true) (zza 33 (zI 0) ?_ (hw := w1 6 true 32)))
 refine zza 34 (zB true) ?_ (hw := w1 6 true 32)
 refine zza 35 (zB true) (zza 36 (zB true) (zza 37 (zI 0) ?_ (hw := w1 10 true 36)))
 refine zza 38 (zB true) ?_ (hw := w1 10 true 36)
 refine zza 39 (zB true) (zza 40 (zB true) (zzh 41 (.v (.agg #[.bool r18.s, r18.m.v, r18.d.v, .bool r20.s, r20.m.v, r20.d.v])) ty32 zze ?_ (hw := w1 14 true 40)))
 refine zzg 42 75 [.int .i64 5, .int .i64 4] ?_ (hw := w1 14 true 40)
 intro w49 u49 e49 d49
 have k54 := k_rqFrac d49 (a := 5) (b := 4) xq xq xq xq
 with_reducible refine zPm k54 ?_
 rintro _ u52 g53 ⟨r50, rfl, h51⟩
 refine zzg 43 75 [.int .i64 3, .int .i64 2] ?_ (hw := w1 14 true 40)
 intro w55 u55 e55 d55
 have k60 := k_rqFrac d55 (a := 3) (b := 2) xq xq xq xq
 with_reducible refine zPm k60 ?_
 rintro _ u58 g59 ⟨r56, rfl, h57⟩
 refine zzg 44 38 [r50.v, r56.v] ?_ (hw := w1 14 true 40)
 intro w61 u61 e61 d61
 have k68 := k_r4Make d61 (h51.ext (e55.trans (g59.ext.trans e61))).raw (h57.ext e61).raw xq
 with_reducible refine zPm k68 ?_
 rintro _ u66 g67 ⟨r62, r64, rfl, h63, h65⟩
 refine zzg 45 22 [.agg #[.bool r18.s, r18.m.v, r18.d.v, .bool r20.s, r20.m.v, r20.d.v], .agg #[.bool r62.s, r62.m.v, r62.d.v, .bool r64.s, r64.m.v, r64.d.v]] ?_ (hw := w1 14 true 40)
 intro w69 u69 e69 d69
 have k72 := k_r4Same d69 (h19.ext (e25.trans (g31.ext.trans (e33.trans (g39.ext.trans (e41.trans (g47.ext.trans (e49.trans (g53.ext.trans (e55.trans (g59.ext.trans (e61.trans (g67.ext.trans e69))))))))))))) (h21.ext (e25.trans (g31.ext.trans (e33.trans (g39.ext.trans (e41.trans (g47.ext.trans (e49.trans (g53.ext.trans (e55.trans (g59.ext.trans (e61.trans (g67.ext.trans e69))))))))))))) (h63.ext e69) (h65.ext e69)
 with_reducible refine zPm k72 ?_
 rintro _ u70 g71 rfl
 refine zza 46 (zB (decide ((((5 : Int) : Rat) / ((4 : Int) : Rat)) = (Nt.lo (((5 : Int) : Rat) / ((4 : Int) : Rat)) (((3 : Int) : Rat) / ((2 : Int) : Rat)))) && decide ((((3 : Int) : Rat) / ((2 : Int) : Rat)) = (Nt.hi (((5 : Int) : Rat) / ((4 : Int) : Rat)) (((3 : Int) : Rat) / ((2 : Int) : Rat)))))) (zyn 47 (x := zB (decide ((((5 : Int) : Rat) / ((4 : Int) : Rat)) = (Nt.lo (((5 : Int) : Rat) / ((4 : Int) : Rat)) (((3 : Int) : Rat) / ((2 : Int) : Rat)))) && decide ((((3 : Int) : Rat) / ((2 : Int) : Rat)) = (Nt.hi (((5 : Int) : Rat) / ((4 : Int) : Rat)) (((3 : Int) : Rat) / ((2 : Int) : Rat)))))) (zB true) (by rw [show (decide ((((5 : Int) : Rat) / ((4 : Int) : Rat)) = (Nt.lo (((5 : Int) : Rat) / ((4 : Int) : Rat)) (((3 : Int) : Rat) / ((2 : Int) : Rat)))) && decide ((((3 : Int) : Rat) / ((2 : Int) : Rat)) = (Nt.hi (((5 : Int) : Rat) / ((4 : Int) : Rat)) (((3 : Int) : Rat) / ((2 : Int) : Rat))))) = true from (by decide +kernel)]) (zzh 48 (.v (.agg #[.bool r26.s, r26.m.v, r26.d.v, .bool r28.s, r28.m.v, r28.d.v])) ty32 zze ?_ (hw := w1 21 true 47)))
 refine zzg 49 30 [.int .i64 3] ?_ (hw := w1 21 true 47)
 intro w74 u74 e74 d74
 have k79 := k_rqOf d74 (z := 3) xq xq
 with_reducible refine zPm k79 ?_
 rintro _ u77 g78 ⟨r75, rfl, h76⟩
 refine zzg 50 30 [.int .i64 4] ?_ (hw := w1 21 true 47)
 intro w80 u80 e80 d80
 have k85 := k_rqOf d80 (z := 4) xq xq
 with_reducible refine zPm k85 ?_
 rintro _ u83 g84 ⟨r81, rfl, h82⟩
 refine zzg 51 38 [r75.v, r81.v] ?_ (hw := w1 21 true 47)
 intro w86 u86 e86 d86
 have k93 := k_r4Make d86 (h76.ext (e80.trans (g84.ext.trans e86))).raw (h82.ext e86).raw xq
 with_reducible refine zPm k93 ?_
 rintro _ u91 g92 ⟨r87, r89, rfl, h88, h90⟩
 refine zzg 52 22 [.agg #[.bool r26.s, r26.m.v, r26.d.v, .bool r28.s, r28.m.v, r28.d.v], .agg #[.bool r87.s, r87.m.v, r87.d.v, .bool r89.s, r89.m.v, r89.d.v]] ?_ (hw := w1 21 true 47)
 intro w94 u94 e94 d94
 have k97 := k_r4Same d94 (h27.ext (e33.trans (g39.ext.trans (e41.trans (g47.ext.trans (e49.trans (g53.ext.trans (e55.trans (g59.ext.trans (e61.trans (g67.ext.trans (e69.trans (g71.ext.trans (e74.trans (g78.ext.trans (e80.trans (g84.ext.trans (e86.trans (g92.ext.trans e94))))))))))))))))))) (h29.ext (e33.trans (g39.ext.trans (e41.trans (g47.ext.trans (e49.trans (g53.ext.trans (e55.trans (g59.ext.trans (e61.trans (g67.ext.trans (e69.trans (g71.ext.trans (e74.trans (g78.ext.trans (e80.trans (g84.ext.trans (e86.trans (g92.ext.trans e94))))))))))))))))))) (h88.ext e94) (h90.ext e94)
 with_reducible refine zPm k97 ?_
 rintro _ u95 g96 rfl
 refine zza 53 (zB (decide (((3 : Int) : Rat) = (Nt.lo ((3 : Int) : Rat) ((4 : Int) : Rat))) && decide (((4 : Int) : Rat) = (Nt.hi ((3 : Int) : Rat) ((4 : Int) : Rat))))) (zyn 54 (x := zB (decide (((3 : Int) : Rat) = (Nt.lo ((3 : Int) : Rat) ((4 : Int) : Rat))) && decide (((4 : Int) : Rat) = (Nt.hi ((3 : Int) : Rat) ((4 : Int) : Rat))))) (zB true) (by rw [show (decide (((3 : Int) : Rat) = (Nt.lo ((3 : Int) : Rat) ((4 : Int) : Rat))) && decide (((4 : Int) : Rat) = (Nt.hi ((3 : Int) : Rat) ((4 : Int) : Rat)))) = true from (by decide +kernel)]) (zzh 55 (.v (.agg #[.bool r34.s, r34.m.v, r34.d.v, .bool r36.s, r36.m.v, r36.d.v])) ty32 zze ?_ (hw := w1 28 true 54)))
 refine zzg 56 75 [.int .i64 1, .int .i64 2] ?_ (hw := w1 28 true 54)
 intro w99 u99 e99 d99
 have k104 := k_rqFrac d99 (a := 1) (b := 2) xq xq xq xq
 with_reducible refine zPm k104 ?_
 rintro _ u102 g103 ⟨r100, rfl, h101⟩
 refine zzg 57 75 [.int .i64 1, .int .i64 2] ?_ (hw := w1 28 true 54)
 intro w105 u105 e105 d105
 have k110 := k_rqFrac d105 (a := 1) (b := 2) xq xq xq xq
 with_reducible refine zPm k110 ?_
 rintro _ u108 g109 ⟨r106, rfl, h107⟩
 refine zzg 58 38 [r100.v, r106.v] ?_ (hw := w1 28 true 54)
 intro w111 u111 e111 d111
 have k118 := k_r4Make d111 (h101.ext (e105.trans (g109.ext.trans e111))).raw (h107.ext e111).raw xq
 with_reducible refine zPm k118 ?_
 rintro _ u116 g117 ⟨r112, r114, rfl, h113, h115⟩
 refine zzg 59 22 [.agg #[.bool r34.s, r34.m.v, r34.d.v, .bool r36.s, r36.m.v, r36.d.v], .agg #[.bool r112.s, r112.m.v, r112.d.v, .bool r114.s, r114.m.v, r114.d.v]] ?_ (hw := w1 28 true 54)
 intro w119 u119 e119 d119
 have k122 := k_r4Same d119 (h35.ext (e41.trans (g47.ext.trans (e49.trans (g53.ext.trans (e55.trans (g59.ext.trans (e61.trans (g67.ext.trans (e69.trans (g71.ext.trans (e74.trans (g78.ext.trans (e80.trans (g84.ext.trans (e86.trans (g92.ext.trans (e94.trans (g96.ext.trans (e99.trans (g103.ext.trans (e105.trans (g109.ext.trans (e111.trans (g117.ext.trans e119))))))))))))))))))))))))) (h37.ext (e41.trans (g47.ext.trans (e49.trans (g53.ext.trans (e55.trans (g59.ext.trans (e61.trans (g67.ext.trans (e69.trans (g71.ext.trans (e74.trans (g78.ext.trans (e80.trans (g84.ext.trans (e86.trans (g92.ext.trans (e94.trans (g96.ext.trans (e99.trans (g103.ext.trans (e105.trans (g109.ext.trans (e111.trans (g117.ext.trans e119))))))))))))))))))))))))) (h113.ext e119) (h115.ext e119)
 with_reducible refine zPm k122 ?_
 rintro _ u120 g121 rfl
 refine zza 60 (zB (decide ((((1 : Int) : Rat) / ((2 : Int) : Rat)) = (Nt.lo (((1 : Int) : Rat) / ((2 : Int) : Rat)) (((1 : Int) : Rat) / ((2 : Int) : Rat)))) && decide ((((1 : Int) : Rat) / ((2 : Int) : Rat)) = (Nt.hi (((1 : Int) : Rat) / ((2 : Int) : Rat)) (((1 : Int) : Rat) / ((2 : Int) : Rat)))))) (zyn 61 (x := zB (decide ((((1 : Int) : Rat) / ((2 : Int) : Rat)) = (Nt.lo (((1 : Int) : Rat) / ((2 : Int) : Rat)) (((1 : Int) : Rat) / ((2 : Int) : Rat)))) && decide ((((1 : Int) : Rat) / ((2 : Int) : Rat)) = (Nt.hi (((1 : Int) : Rat) / ((2 : Int) : Rat)) (((1 : Int) : Rat) / ((2 : Int) : Rat)))))) (zB true) (by rw [show (decide ((((1 : Int) : Rat) / ((2 : Int) : Rat)) = (Nt.lo (((1 : Int) : Rat) / ((2 : Int) : Rat)) (((1 : Int) : Rat) / ((2 : Int) : Rat)))) && decide ((((1 : Int) : Rat) / ((2 : Int) : Rat)) = (Nt.hi (((1 : Int) : Rat) / ((2 : Int) : Rat)) (((1 : Int) : Rat) / ((2 : Int) : Rat))))) = true from (by decide +kernel)]) (zzh 62 (.v (.agg #[.bool r42.s, r42.m.v, r42.d.v, .bool r44.s, r44.m.v, r44.d.v])) ty32 zze ?_ (hw := w1 35 true 61)))
 refine zzg 63 75 [.int .i64 1, .int .i64 2] ?_ (hw := w1 35 true 61)
 intro w124 u124 e124 d124
 have k129 := k_rqFrac d124 (a := 1) (b := 2) xq xq xq xq
 with_reducible refine zPm k129 ?_
 rintro _ u127 g128 ⟨r125, rfl, h126⟩
 refine zzg 64 30 [.int .i64 1] ?_ (hw := w1 35 true 61)
 intro w130 u130 e130 d130
 have k135 := k_rqOf d130 (z := 1) xq xq
 with_reducible refine zPm k135 ?_
 rintro _ u133 g134 ⟨r131, rfl, h132⟩
 refine zzg 65 38 [r125.v, r131.v] ?_ (hw := w1 35 true 61)
 intro w136 u136 e136 d136
 have k143 := k_r4Make d136 ((h126.ext (e130.trans (g134.ext.trans e136))).raw.more (Nat.le_max_left 3 2)) ((h132.ext e136).raw.more (Nat.le_max_right 3 2)) xq
 with_reducible refine zPm k143 ?_
 rintro _ u141 g142 ⟨r137, r139, rfl, h138, h140⟩
 refine zzg 66 22 [.agg #[.bool r42.s, r42.m.v, r42.d.v, .bool r44.s, r44.m.v, r44.d.v], .agg #[.bool r137.s, r137.m.v, r137.d.v, .bool r139.s, r139.m.v, r139.d.v]] ?_ (hw := w1 35 true 61)
 intro w144 u144 e144 d144
 have k147 := k_r4Same d144 (h43.ext (e49.trans (g53.ext.trans (e55.trans (g59.ext.trans (e61.trans (g67.ext.trans (e69.trans (g71.ext.trans (e74.trans (g78.ext.trans (e80.trans (g84.ext.trans (e86.trans (g92.ext.trans (e94.trans (g96.ext.trans (e99.trans (g103.ext.trans (e105.trans (g109.ext.trans (e111.trans (g117.ext.trans (e119.trans (g121.ext.trans (e124.trans (g128.ext.trans (e130.trans (g134.ext.trans (e136.trans (g142.ext.trans e144))))))))))))))))))))))))))))))) (h45.ext (e49.trans (g53.ext.trans (e55.trans (g59.ext.trans (e61.trans (g67.ext.trans (e69.trans (g71.ext.trans (e74.trans (g78.ext.trans (e80.trans (g84.ext.trans (e86.trans (g92.ext.trans (e94.trans (g96.ext.trans (e99.trans (g103.ext.trans (e105.trans (g109.ext.trans (e111.trans (g117.ext.trans (e119.trans (g121.ext.trans (e124.trans (g128.ext.trans (e130.trans (g134.ext.trans (e136.trans (g142.ext.trans e144))))))))))))))))))))))))))))))) (h138.ext e144) (h140.ext e144)
 with_reducible refine zPm k147 ?_
 rintro _ u145 g146 rfl
 refine zza 67 (zB (decide ((((1 : Int) : Rat) / ((2 : Int) : Rat)) = (Nt.lo (((1 : Int) : Rat) / ((2 : Int) : Rat)) ((1 : Int) : Rat))) && decide (((1 : Int) : Rat) = (Nt.hi (((1 : Int) : Rat) / ((2 : Int) : Rat)) ((1 : Int) : Rat))))) (zza 0 (zB (decide ((((1 : Int) : Rat) / ((2 : Int) : Rat)) = (Nt.lo (((1 : Int) : Rat) / ((2 : Int) : Rat)) ((1 : Int) : Rat))) && decide (((1 : Int) : Rat) = (Nt.hi (((1 : Int) : Rat) / ((2 : Int) : Rat)) ((1 : Int) : Rat))))) (zzc 68 [(0, zB (decide ((((1 : Int) : Rat) / ((2 : Int) : Rat)) = (Nt.lo (((1 : Int) : Rat) / ((2 : Int) : Rat)) ((1 : Int) : Rat))) && decide (((1 : Int) : Rat) = (Nt.hi (((1 : Int) : Rat) / ((2 : Int) : Rat)) ((1 : Int) : Rat)))))] [] (zzn (ret0 [.bool (decide ((((1 : Int) : Rat) / ((2 : Int) : Rat)) = (Nt.lo (((1 : Int) : Rat) / ((2 : Int) : Rat)) ((1 : Int) : Rat))) && decide (((1 : Int) : Rat) = (Nt.hi (((1 : Int) : Rat) / ((2 : Int) : Rat)) ((1 : Int) : Rat))))] ⟨zzp, trivial⟩ fun u148 e149 => ?_))))
 show Value.bool _ = Value.bool _
 rw [show (decide ((((1 : Int) : Rat) / ((2 : Int) : Rat)) = (Nt.lo (((1 : Int) : Rat) / ((2 : Int) : Rat)) ((1 : Int) : Rat))) && decide (((1 : Int) : Rat) = (Nt.hi (((1 : Int) : Rat) / ((2 : Int) : Rat)) ((1 : Int) : Rat)))) = true from by decide +kernel]
set_option maxHeartbeats 1000000 in
theorem k_rqPow {u w : World} {r : RL} {q : Rat} {K n : Nat} (d : Dat u w) (hr : RatV u r q K) (hn : n ≤ 64) (hK : K ≤ 100000) : Calls Tryz.prog 24 #[r.v, .int .i64 (n : Int)] w (Post u w fun v u' => ∃ p : RL, v = .tuple #[p.v, .int .i64 0] ∧ RatN u' p (q ^ n) (n * (K + 2) + 2)) := by
 refine zzl (args := [r.v, .int .i64 n]) Tryz.func24 rfl Tryz.ntmps24 (rs := [.cell 4 26, .tmp 5]) Tryz.results24 (le_b rfl) (le_b rfl) d ?_
 refine sq9 (zzj 2 ⟨26, r.cs⟩ (zzj 4 ⟨26, [.bool false, .slice none 0 0, .slice none 0 0]⟩ (zza 5 (zI 0) (zzb (zzd (sq9 (zza 7 (zI n) (zza 8 (zB (decide ((n : Int) < 0))) (zyn 9 (x := zB (decide ((n : Int) < 0))) (zB false) (by rw [show (decide ((n : Int) < 0)) = false from decide_eq_false xq]) (zza 10 (zI n) ?_ (hw := w1 2 false 9)))))))))))
 refine zza 11 (zB (decide ((64 : Int) < (n : Int)))) ?_ (hw := w1 2 false 9)
 refine zza 12 (zB (decide ((64 : Int) < (n : Int)))) (zzb (zzt (b := decide ((64 : Int) < (n : Int))) xj (fun hb => ?_) (fun hb => ?_)))
 ·exact absurd hb (by rw [show (decide ((64 : Int) < (n : Int))) = false from decide_eq_false xq]; decide)
 ·clear hb
  refine zzr (zzo ?_)
  refine sq9 (zzg 14 30 [.int .i64 1] ?_)
  intro w12 u12 e12 d12
  have k17 := k_rqOf d12 (z := 1) xq xq
  with_reducible refine zPm k17 ?_
  rintro _ u15 g16 ⟨r13, rfl, h14⟩
  refine zzj 6 ⟨26, [.bool false, .slice none 0 0, .slice none 0 0]⟩ (zzi ⟨26, r13.cs⟩ ty26 ?_)
  refine zzb (zzd (zzs (zyl (I := fun m18 S' u' => ∃ (m : Nat) (i : Nat) (y : RL), (m18 = m) ∧ (m + i = n) ∧ (m ≤ n) ∧ (S' = St.of 23 [(1, zI m), (2, .adr 2 0), (4, .adr 4 0), (6, .adr 6 0)] [(2, ⟨26, r.cs⟩), (4, ⟨26, [.bool false, .slice none 0 0, .slice none 0 0]⟩), (6, ⟨26, y.cs⟩)]) ∧ (Ext u15 u') ∧ (RatN u' y (q ^ i) (i * (K + 2) + 2))) (fun m S u1 u2 e h => by obtain ⟨m, i, y, hm, p0, p1, hS, hE, f0⟩ := h; exact ⟨m, i, y, hm, p0, p1, hS, hE.trans e, f0.ext e⟩) _ (by exact zzu _ _ _) ⟨n, 0, r13, rfl, rfl, xq, rfl, (Ext.refl _), (by rw [Rat.pow_zero]; exact RatN.more h14 xq)⟩ ?_)))
  rintro m18 _ u18 ⟨m, i, y, hm18, hmi, hmn, rfl, e18, f0⟩
  have hsi : i * (K + 2) ≤ 64 * (K + 2) := Nat.mul_le_mul_right _ xq
  refine zzd (sq9 (zza 15 (zI m) (zza 16 (zB (decide ((0 : Int) < (m : Int)))) (zzb (zzt (b := decide ((0 : Int) < (m : Int))) xj (fun hb19 => ?_) (fun hb19 => ?_))))))
  ·replace hb19 : (decide ((0 : Int) < (m : Int))) = true := hb19
   have qhb19 := of_decide_eq_true hb19
   refine zzr (zzo ?_)
   refine zzd (zzs (zzf (zzh 19 (.v (y.v)) ty26 zze (zzh 20 (.v (r.v)) ty26 zze (zzg 21 25 [y.v, r.v] ?_)))))
   intro w20 u20 e20 d20
   have k25 := k_rqMul d20 (f0.ext e20).raw (hr.ext (e12.trans (g16.ext.trans (e18.trans e20)))) xq xq
   with_reducible refine zPm k25 ?_
   rintro _ u23 g24 ⟨r21, rfl, h22⟩
   refine zzi ⟨26, r21.cs⟩ ty26 ?_
   refine zzw ?_
   refine zzo (zzf (zza 17 (zI m) (zyn 18 (x := zI (IntKind.i64.wrap ((m : Int) - 1))) (zI (m - 1 : Nat)) (eqI xk) (zza 1 (zI (m - 1 : Nat)) (zzw ?_)))))
   have hsm : (i + 1) * (K + 2) = i * (K + 2) + (K + 2) := Nat.succ_mul _ _
   refine ⟨_, ?_, _, by exact zzu _ _ _, m - 1, i + 1, r21, rfl, xq, xq, rfl, (e18.trans (e20.trans g24.ext)), (by rw [Rat.pow_succ]; exact RatN.more h22 xq)⟩
   omega
  ·replace hb19 : (decide ((0 : Int) < (m : Int))) = false := hb19
   have qhb19 := of_decide_eq_false hb19
   refine zyb (zzo (sq9 (zzh 22 (.v (y.v)) ty26 zze (zzi ⟨26, y.cs⟩ ty26 ?_))))
   refine zza 5 (zI 0) (zzb (zzn (ret0 [y.v, .int .i64 0] ⟨zzq ty26 zze, zzp, trivial⟩ fun u26 e27 => ?_)))
   have hm0 : m = 0 := by have h9 := of_decide_eq_false hb19; omega
   subst hm0
   have hin : i = n := by omega
   subst hin
   exact ⟨y, rfl, RatN.more (f0.ext e27) xq⟩
set_option maxHeartbeats 4000000 in
theorem w_tight {u w : World} {a : RL} {x : Rat} {K : Nat} {b e : Int} (d : Dat u w) (ha : RatV u a x K) (hwb : (Lit.int .u8 b).wf = true) (hwe : (Lit.int .u8 e).wf = true) : Calls Tryz.prog 4 #[a.v, .int .u8 b, .int .u8 e] w (Post u w fun v _ => v = .bool true) := by
 obtain ⟨hb0, hb1⟩ := wf_u8e hwb
 obtain ⟨he0, he1⟩ := wf_u8e hwe
 refine zzl (args := [a.v, .int .u8 b, .int .u8 e]) Tryz.func4 rfl Tryz.ntmps4 (rs := [.tmp 6]) Tryz.results4 (le_b rfl) (le_b rfl) d ?_
 refine sq9 (zzj 3 ⟨26, a.cs⟩ (zza 6 (zB false) (zzb (zzd (sq9 (zzh 17 (.v (a.v)) ty26 zze (zzg 18 15 [a.v] ?_)))))))
 intro w11 u11 e11 d11
 have k14 := k_smallRat (r := a) d11
 with_reducible refine zPm k14 ?_
 rintro _ u12 g13 rfl
 refine zza 19 (zB (!(smR a))) (zzb (zzt (b := !(smR a)) xj (fun hb15 => ?_) (fun hb15 => ?_)))
 ·replace hb15 : (!(smR a)) = true := hb15
  refine sq9 (zzg 20 16 [] ?_)
  intro w16 u16 e16 d16
  have k19 := k_awake10 d16
  with_reducible refine zPm k19 ?_
  rintro _ u17 g18 rfl
  refine zza 6 (zB true) (zzb (zzn (zzv (ret0 [.bool true] ⟨zzp, trivial⟩ fun u20 e21 => ?_))))
  exact rfl
 ·replace hb15 : (!(smR a)) = false := hb15
  have qhb15 : smR a = true := by simpa using hb15
  have haf := smR_few ha qhb15
  refine zzr (zzo ?_)
  refine sq9 (zzh 21 (.v (a.v)) ty26 zze (zzg 22 23 [a.v] ?_))
  intro w22 u22 e22 d22
  have k27 := k_rqAbs d22 (haf.ext (e11.trans (g13.ext.trans e22))) xq
  with_reducible refine zPm k27 ?_
  rintro _ u25 g26 ⟨r23, rfl, h24⟩
  refine zzi ⟨26, r23.cs⟩ ty26 ?_
  refine zzb (sq9 (zza 23 (.v (.int .u8 b)) (sy_conv 24 b (fun w => by kernel_rfl) (IntWalk.i64_in _ xq) ?_)))
  refine sy_rem 25 (b % 6) xw (Int.tmod_eq_emod_of_nonneg hb0) ?_
  refine zyn 26 (x := zI (IntKind.i64.wrap ((1 : Int) + (b % 6)))) (zI ((1 : Int) + (b % 6))) (by rw [IntWalk.i64_in _ xq]) (zza 27 (.v (.int .u8 e)) (sy_conv 28 e (fun w => by kernel_rfl) (IntWalk.i64_in _ xq) ?_))
  refine sy_rem 29 (e % 50) xw (Int.tmod_eq_emod_of_nonneg he0) ?_
  refine zza 7 (zI ((1 : Int) + (b % 6))) (zza 8 (zI (e % 50)) (zzb (zzd ?_)))
  obtain ⟨m, hnm⟩ : ∃ n : Nat, (1 : Int) + (b % 6) = (n : Int) := ⟨((1 : Int) + (b % 6)).toNat, by omega⟩
  rw [hnm]
  have hbm : 1 ≤ m ∧ m ≤ 6 := by omega
  obtain ⟨k, hnk⟩ : ∃ n : Nat, e % 50 = (n : Int) := ⟨(e % 50).toNat, by omega⟩
  rw [hnk]
  have hbk : k ≤ 49 := by omega
  refine zzf (zzh 31 (.v (r23.v)) ty26 zze (zza 32 (zI m) (zza 33 (zI k) (zzg 34 20 [r23.v, .int .i64 m, .int .i64 k] ?_))))
  intro w28 u28 e28 d28
  have k35 := k_RootG (n := m) (k := k) d28 (h24.ext e28).raw (Nt.absQ_nn x) xq xq xq xq
  with_reducible refine zPm k35 ?_
  rintro _ u33 g34 ⟨r29, r31, rfl, h30, h32⟩
  refine zza 30 (.v (.tuple #[.agg #[.bool r29.s, r29.m.v, r29.d.v, .bool r31.s, r31.m.v, r31.d.v], .int .i64 0])) (zza 35 (.v (.agg #[.bool r29.s, r29.m.v, r29.d.v, .bool r31.s, r31.m.v, r31.d.v])) (zza 36 (zI 0) (zzj 9 ⟨32, [.bool false, .slice none 0 0, .slice none 0 0, .bool false, .slice none 0 0, .slice none 0 0]⟩ (zzi ⟨32, r29.cs ++ r31.cs⟩ ty32 ?_))))
  refine zza 10 (zI 0) (zzb (sq9 (zza 38 (.adr 9 0) (zzh 39 (.v (r29.v)) ty26 zze (zza 40 (zI m) (zzg 41 24 [r29.v, .int .i64 m] ?_))))))
  intro w36 u36 e36 d36
  have k41 := k_rqPow (n := m) d36 (h30.ext e36).raw xq xq
  with_reducible refine zPm k41 ?_
  rintro _ u39 g40 ⟨r37, rfl, h38⟩
  refine zza 37 (.v (.tuple #[r37.v, .int .i64 0])) (zza 42 (.v (r37.v)) (zza 43 (zI 0) (zzj 11 ⟨26, [.bool false, .slice none 0 0, .slice none 0 0]⟩ (zzi ⟨26, r37.cs⟩ ty26 ?_))))
  refine zza 12 (zI 0) (zzc 109 [(3, .adr 3 0), (7, zI m), (8, zI k), (9, .adr 9 0), (10, zI 0), (11, .adr 11 0), (12, zI 0)] [(3, ⟨26, r23.cs⟩), (9, ⟨32, r29.cs ++ r31.cs⟩), (11, ⟨26, r37.cs⟩)] (sq9 (zza 45 (.adr 9 3) (zzh 46 (.v (r31.v)) ty26 zze (zza 47 (zI m) (zzg 48 24 [r31.v, .int .i64 m] ?_))))))
  intro w42 u42 e42 d42
  have k47 := k_rqPow (n := m) d42 (h32.ext (e36.trans (g40.ext.trans e42))).raw xq xq
  with_reducible refine zPm k47 ?_
  rintro _ u45 g46 ⟨r43, rfl, h44⟩
  refine zza 44 (.v (.tuple #[r43.v, .int .i64 0])) (zza 49 (.v (r43.v)) (zza 50 (zI 0) (zzj 13 ⟨26, [.bool false, .slice none 0 0, .slice none 0 0]⟩ (zzi ⟨26, r43.cs⟩ ty26 ?_))))
  refine zza 14 (zI 0) (zzb (sq9 (zzh 51 (.v (.agg #[.bool r29.s, r29.m.v, r29.d.v, .bool r31.s, r31.m.v, r31.d.v])) ty32 zze (zzg 52 26 [.agg #[.bool r29.s, r29.m.v, r29.d.v, .bool r31.s, r31.m.v, r31.d.v]] ?_))))
  intro w48 u48 e48 d48
  have k53 := k_r4Width d48 (h30.ext (e36.trans (g40.ext.trans (e42.trans (g46.ext.trans e48))))).raw (h32.ext (e36.trans (g40.ext.trans (e42.trans (g46.ext.trans e48))))).raw xq
  with_reducible refine zPm k53 ?_
  rintro _ u51 g52 ⟨r49, rfl, h50⟩
  refine zza 53 (zI k) (zzg 54 27 [.int .i64 k] ?_)
  intro w54 u54 e54 d54
  have k59 := k_unit (k := k) d54 xq
  with_reducible refine zPm k59 ?_
  rintro _ u57 g58 ⟨r55, rfl, h56⟩
  refine zzg 55 25 [r49.v, r55.v] ?_
  intro w60 u60 e60 d60
  have k65 := k_rqMul d60 (h50.ext (e54.trans (g58.ext.trans e60))).raw (h56.ext e60).raw xq xq
  with_reducible refine zPm k65 ?_
  rintro _ u63 g64 ⟨r61, rfl, h62⟩
  refine zzj 15 ⟨26, [.bool false, .slice none 0 0, .slice none 0 0]⟩ (zzi ⟨26, r61.cs⟩ ty26 ?_)
  refine zzb (zzd ?_)
  obtain ⟨e1, e2, e3⟩ := Nt.rt_tight (q := Nt.absQ x) (n := m) (k := k) (Nt.absQ_nn x) xq
  obtain ⟨e4, e5⟩ := Nt.rt_width (q := Nt.absQ x) (n := m) (k := k)
  have e6 := Nt.lo_of_le (Nt.rtV_ord (Nt.absQ x) m k)
  refine zzf (zzh 56 (.v (r37.v)) ty26 zze (zzh 57 (.v (r23.v)) ty26 zze (zzg 58 28 [r37.v, r23.v] ?_)))
  intro w66 u66 e66 d66
  have k69 := k_rqCompare d66 (h38.ext (e42.trans (g46.ext.trans (e48.trans (g52.ext.trans (e54.trans (g58.ext.trans (e60.trans (g64.ext.trans e66))))))))).raw (h24.ext (e28.trans (g34.ext.trans (e36.trans (g40.ext.trans (e42.trans (g46.ext.trans (e48.trans (g52.ext.trans (e54.trans (g58.ext.trans (e60.trans (g64.ext.trans e66))))))))))))).raw xq xq
  with_reducible refine zPm k69 ?_
  rintro _ u67 g68 rfl
  refine zza 59 (zB ((Nt.cmpQ ((Nt.gr k (Nt.rtN (Nt.absQ x) m k : Int)) ^ m) (Nt.absQ x)) == 0)) (zza 16 (zB ((Nt.cmpQ ((Nt.gr k (Nt.rtN (Nt.absQ x) m k : Int)) ^ m) (Nt.absQ x)) == 0)) (zzb (zzd (zzy [0, 1, 3, 7, 15, 31, 63, 127, 255, 511, 1023, 2047, 4095, 8191, 16383, 16383, 65535, 131071, 262143, 524287, 1048575, 1048575, 4194303, 8388607, 16777215, 33554431, 67108863, 134217727, 268435455, 536870911, 1073741823, 2147483647, 4294967295, 8589934591, 17179869183, 34359738367, 68719476735, 137438953471, 274877906943, 549755813887, 1099511627775, 2199023255551, 4398046511103, 4398046511103, 17592186044415, 35184372088831, 70368744177663, 140737488355327, 281474976710655, 562949953421311] [(0, []), (1, []), (2, []), (3, []), (4, []), (5, []), (6, []), (7, []), (8, []), (9, []), (10, []), (11, []), (12, []), (13, []), (14, []), (15, []), (16, []), (17, []), (18, []), (19, []), (20, []), (21, []), (22, []), (23, []), (24, []), (25, []), (26, []), (27, []), (28, []), (29, []), (30, []), (31, []), (32, []), (33, []), (34, []), (35, []), (36, []), (37, []), (38, []), (39, []), (40, []), (41, []), (42, []), (43, []), (44, []), (45, []), (46, []), (47, []), (48, []), (49, [])] xj xj (zzg 60 16 [] ?_)))))
  intro w70 u70 e70 d70
  have k73 := k_awake10 d70
  with_reducible refine zPm k73 ?_
  rintro _ u71 g72 rfl
  refine zza 61 (zB true) (zza 62 (zI 0) ?_ (hw := w1 1 true 61))
  refine zza 63 (zB true) ?_ (hw := w1 1 true 61)
  refine zza 64 (zB true) (zza 65 (zB true) (zza 66 (zI 0) ?_ (hw := w1 5 true 65)))
  refine zza 67 (zB true) ?_ (hw := w1 5 true 65)
  refine zza 68 (zB true) (zza 69 (zB true) (zza 70 (zI 0) ?_ (hw := w1 9 true 69)))
  refine zza 71 (zB true) ?_ (hw := w1 9 true 69)
  refine zza 72 (zB true) (zza 73 (zB true) (zzh 74 (.v (r37.v)) ty26 zze ?_ (hw := w1 13 true 73)))
  refine zzh 75 (.v (r23.v)) ty26 zze ?_ (hw := w1 13 true 73)
  refine zzg 76 28 [r37.v, r23.v] ?_ (hw := w1 13 true 73)
  intro w74 u74 e74 d74
  have k77 := k_rqCompare d74 (h38.ext (e42.trans (g46.ext.trans (e48.trans (g52.ext.trans (e54.trans (g58.ext.trans (e60.trans (g64.ext.trans (e66.trans (g68.ext.trans (e70.trans (g72.ext.trans e74))))))))))))).raw (h24.ext (e28.trans (g34.ext.trans (e36.trans (g40.ext.trans (e42.trans (g46.ext.trans (e48.trans (g52.ext.trans (e54.trans (g58.ext.trans (e60.trans (g64.ext.trans (e66.trans (g68.ext.trans (e70.trans (g72.ext.trans e74))))))))))))))))).raw xq xq
  with_reducible refine zPm k77 ?_
  rintro _ u75 g76 rfl
  refine zza 77 (zB (decide ((Nt.cmpQ ((Nt.gr k (Nt.rtN (Nt.absQ x) m k : Int)) ^ m) (Nt.absQ x)) ≤ 0))) ?_ (hw := w1 13 true 73)
  refine zza 78 (zB (decide ((Nt.cmpQ ((Nt.gr k (Nt.rtN (Nt.absQ x) m k : Int)) ^ m) (Nt.absQ x)) ≤ 0))) (zyn 79 (x := zB (decide ((Nt.cmpQ ((Nt.gr k (Nt.rtN (Nt.absQ x) m k : Int)) ^ m) (Nt.absQ x)) ≤ 0))) (zB true) (by rw [show (decide ((Nt.cmpQ ((Nt.gr k (Nt.rtN (Nt.absQ x) m k : Int)) ^ m) (Nt.absQ x)) ≤ 0)) = true from (by rw [Nt.cmpQ_le]; exact decide_eq_true (by first | exact e1 | exact e2))]) (zzh 80 (.v (r23.v)) ty26 zze ?_ (hw := w1 19 true 79)))
  refine zzh 81 (.v (r43.v)) ty26 zze ?_ (hw := w1 19 true 79)
  refine zzg 82 28 [r23.v, r43.v] ?_ (hw := w1 19 true 79)
  intro w79 u79 e79 d79
  have k82 := k_rqCompare d79 (h24.ext (e28.trans (g34.ext.trans (e36.trans (g40.ext.trans (e42.trans (g46.ext.trans (e48.trans (g52.ext.trans (e54.trans (g58.ext.trans (e60.trans (g64.ext.trans (e66.trans (g68.ext.trans (e70.trans (g72.ext.trans (e74.trans (g76.ext.trans e79))))))))))))))))))).raw (h44.ext (e48.trans (g52.ext.trans (e54.trans (g58.ext.trans (e60.trans (g64.ext.trans (e66.trans (g68.ext.trans (e70.trans (g72.ext.trans (e74.trans (g76.ext.trans e79))))))))))))).raw xq xq
  with_reducible refine zPm k82 ?_
  rintro _ u80 g81 rfl
  refine zza 83 (zB (decide ((Nt.cmpQ (Nt.absQ x) ((Nt.gr k (Nt.rtH (Nt.absQ x) m k)) ^ m)) ≤ 0))) ?_ (hw := w1 19 true 79)
  refine zza 84 (zB (decide ((Nt.cmpQ (Nt.absQ x) ((Nt.gr k (Nt.rtH (Nt.absQ x) m k)) ^ m)) ≤ 0))) (zyn 85 (x := zB (decide ((Nt.cmpQ (Nt.absQ x) ((Nt.gr k (Nt.rtH (Nt.absQ x) m k)) ^ m)) ≤ 0))) (zB true) (by rw [show (decide ((Nt.cmpQ (Nt.absQ x) ((Nt.gr k (Nt.rtH (Nt.absQ x) m k)) ^ m)) ≤ 0)) = true from (by rw [Nt.cmpQ_le]; exact decide_eq_true (by first | exact e1 | exact e2))]) (zza 86 (.adr 9 0) ?_ (hw := w1 25 true 85)))
  refine zzh 87 (.v (r29.v)) ty26 zze ?_ (hw := w1 25 true 85)
  refine zzg 88 29 [r29.v] ?_ (hw := w1 25 true 85)
  intro w84 u84 e84 d84
  have k87 := k_rqSign d84 (h30.ext (e36.trans (g40.ext.trans (e42.trans (g46.ext.trans (e48.trans (g52.ext.trans (e54.trans (g58.ext.trans (e60.trans (g64.ext.trans (e66.trans (g68.ext.trans (e70.trans (g72.ext.trans (e74.trans (g76.ext.trans (e79.trans (g81.ext.trans e84))))))))))))))))))).raw xq
  with_reducible refine zPm k87 ?_
  rintro _ u85 g86 rfl
  refine zza 89 (zB (decide ((0 : Int) ≤ (Nt.sgQ (Nt.gr k (Nt.rtN (Nt.absQ x) m k : Int)))))) ?_ (hw := w1 25 true 85)
  refine zza 90 (zB (decide ((0 : Int) ≤ (Nt.sgQ (Nt.gr k (Nt.rtN (Nt.absQ x) m k : Int)))))) (zyn 91 (x := zB (decide ((0 : Int) ≤ (Nt.sgQ (Nt.gr k (Nt.rtN (Nt.absQ x) m k : Int)))))) (zB true) (by rw [show (decide ((0 : Int) ≤ (Nt.sgQ (Nt.gr k (Nt.rtN (Nt.absQ x) m k : Int))))) = true from (by have h9 : 0 ≤ (Nt.gr k (Nt.rtN (Nt.absQ x) m k : Int)) := Nt.gr_nn xq; have h8 := Nt.sgQ_nn h9; exact decide_eq_true xq)]) (zza 92 (zB ((Nt.cmpQ ((Nt.gr k (Nt.rtN (Nt.absQ x) m k : Int)) ^ m) (Nt.absQ x)) == 0)) ?_ (hw := w1 31 true 91)))
  rcases Bool.eq_false_or_eq_true ((Nt.cmpQ ((Nt.gr k (Nt.rtN (Nt.absQ x) m k : Int)) ^ m) (Nt.absQ x)) == 0) with hs89 | hs89
  ·refine zyn 93 (x := zB ((Nt.cmpQ ((Nt.gr k (Nt.rtN (Nt.absQ x) m k : Int)) ^ m) (Nt.absQ x)) == 0)) (zB true) (by rw [hs89]) ?_ (hw := w1 31 true 91)
   refine zzh 94 (.v (r61.v)) ty26 zze ?_ (hw := w1 33 true 93)
   refine zzg 95 29 [r61.v] ?_ (hw := w1 33 true 93)
   intro w90 u90 e90 d90
   have k93 := k_rqSign d90 (h62.ext (e66.trans (g68.ext.trans (e70.trans (g72.ext.trans (e74.trans (g76.ext.trans (e79.trans (g81.ext.trans (e84.trans (g86.ext.trans e90))))))))))).raw xq
   with_reducible refine zPm k93 ?_
   rintro _ u91 g92 rfl
   refine zza 96 (zB ((Nt.sgQ ((Nt.hi (Nt.gr k (Nt.rtN (Nt.absQ x) m k : Int)) (Nt.gr k (Nt.rtH (Nt.absQ x) m k)) - Nt.lo (Nt.gr k (Nt.rtN (Nt.absQ x) m k : Int)) (Nt.gr k (Nt.rtH (Nt.absQ x) m k))) * (((2 ^ k : Nat) : Int) : Rat))) == 0)) ?_ (hw := w1 33 true 93)
   refine zza 97 (zB ((Nt.sgQ ((Nt.hi (Nt.gr k (Nt.rtN (Nt.absQ x) m k : Int)) (Nt.gr k (Nt.rtH (Nt.absQ x) m k)) - Nt.lo (Nt.gr k (Nt.rtN (Nt.absQ x) m k : Int)) (Nt.gr k (Nt.rtH (Nt.absQ x) m k))) * (((2 ^ k : Nat) : Int) : Rat))) == 0)) ?_ (hw := w1 31 true 91)
   refine zyn 98 (x := zB ((Nt.sgQ ((Nt.hi (Nt.gr k (Nt.rtN (Nt.absQ x) m k : Int)) (Nt.gr k (Nt.rtH (Nt.absQ x) m k)) - Nt.lo (Nt.gr k (Nt.rtN (Nt.absQ x) m k : Int)) (Nt.gr k (Nt.rtH (Nt.absQ x) m k))) * (((2 ^ k : Nat) : Int) : Rat))) == 0)) (zB true) (by rw [show ((Nt.sgQ ((Nt.hi (Nt.gr k (Nt.rtN (Nt.absQ x) m k : Int)) (Nt.gr k (Nt.rtH (Nt.absQ x) m k)) - Nt.lo (Nt.gr k (Nt.rtN (Nt.absQ x) m k : Int)) (Nt.gr k (Nt.rtH (Nt.absQ x) m k))) * (((2 ^ k : Nat) : Int) : Rat))) == 0) = true from (by have h9 := hs89; rw [Nt.cmpQ_eq] at h9; have h8 := e4 (e3.1 (of_decide_eq_true h9)); rw [Nt.sgQ_eq, e6.1, e6.2, h8, Rat.zero_mul]; rfl)]) ?_ (hw := w1 31 true 91)
   refine zzm 99 (uw 38 false true 98) (zzm 100 (uw 38 false true 98) (zzm 101 (uw 38 false true 98) (zzm 102 (unwantedU (g := 41) (b := true) (t := 101) xj xj xj) (zzm 103 (unwantedU (g := 41) (b := true) (t := 101) xj xj xj) (zzm 104 (unwantedU (g := 41) (b := true) (t := 101) xj xj xj) (zzm 105 (unwantedU (g := 41) (b := true) (t := 101) xj xj xj) (zzm 106 (uw 38 false true 98) (zza 107 (zB true) ?_ (hw := w1 31 true 91)))))))))
   refine zza 108 (zB true) (zza 6 (zB true) (zzc 109 [(6, zB true)] [] (zzn (ret0 [.bool true] ⟨zzp, trivial⟩ fun u95 e96 => ?_))))
   exact rfl
  ·refine zyn 93 (x := zB ((Nt.cmpQ ((Nt.gr k (Nt.rtN (Nt.absQ x) m k : Int)) ^ m) (Nt.absQ x)) == 0)) (zB false) (by rw [hs89]) ?_ (hw := w1 31 true 91)
   refine zzm 94 (uw 33 true false 93) (zzm 95 (uw 33 true false 93) (zzm 96 (uw 33 true false 93) (zza 97 (zB false) ?_ (hw := w1 31 true 91))))
   refine zza 98 (zB false) ?_ (hw := w1 31 true 91)
   refine zza 99 (zB ((Nt.cmpQ ((Nt.gr k (Nt.rtN (Nt.absQ x) m k : Int)) ^ m) (Nt.absQ x)) == 0)) ?_ (hw := w1 38 false 98)
   refine zza 100 (zB (!((Nt.cmpQ ((Nt.gr k (Nt.rtN (Nt.absQ x) m k : Int)) ^ m) (Nt.absQ x)) == 0))) ?_ (hw := w1 38 false 98)
   refine zyn 101 (x := zB (!((Nt.cmpQ ((Nt.gr k (Nt.rtN (Nt.absQ x) m k : Int)) ^ m) (Nt.absQ x)) == 0))) (zB true) (by rw [show (!((Nt.cmpQ ((Nt.gr k (Nt.rtN (Nt.absQ x) m k : Int)) ^ m) (Nt.absQ x)) == 0)) = true from (by rw [hs89]; rfl)]) ?_ (hw := w1 38 false 98)
   refine zzh 102 (.v (r61.v)) ty26 zze ?_ (hw := w1 41 true 101)
   refine zzg 103 30 [.int .i64 1] ?_ (hw := w1 41 true 101)
   intro w98 u98 e98 d98
   have k103 := k_rqOf d98 (z := 1) xq xq
   with_reducible refine zPm k103 ?_
   rintro _ u101 g102 ⟨r99, rfl, h100⟩
   refine zzg 104 28 [r61.v, r99.v] ?_ (hw := w1 41 true 101)
   intro w104 u104 e104 d104
   have k107 := k_rqCompare d104 (h62.ext (e66.trans (g68.ext.trans (e70.trans (g72.ext.trans (e74.trans (g76.ext.trans (e79.trans (g81.ext.trans (e84.trans (g86.ext.trans (e98.trans (g102.ext.trans e104))))))))))))).raw (h100.ext e104).raw xq xq
   with_reducible refine zPm k107 ?_
   rintro _ u105 g106 rfl
   refine zza 105 (zB ((Nt.cmpQ ((Nt.hi (Nt.gr k (Nt.rtN (Nt.absQ x) m k : Int)) (Nt.gr k (Nt.rtH (Nt.absQ x) m k)) - Nt.lo (Nt.gr k (Nt.rtN (Nt.absQ x) m k : Int)) (Nt.gr k (Nt.rtH (Nt.absQ x) m k))) * (((2 ^ k : Nat) : Int) : Rat)) ((1 : Int) : Rat)) == 0)) ?_ (hw := w1 41 true 101)
   refine zza 106 (zB ((Nt.cmpQ ((Nt.hi (Nt.gr k (Nt.rtN (Nt.absQ x) m k : Int)) (Nt.gr k (Nt.rtH (Nt.absQ x) m k)) - Nt.lo (Nt.gr k (Nt.rtN (Nt.absQ x) m k : Int)) (Nt.gr k (Nt.rtH (Nt.absQ x) m k))) * (((2 ^ k : Nat) : Int) : Rat)) ((1 : Int) : Rat)) == 0)) ?_ (hw := w1 38 false 98)
   refine zza 107 (zB ((Nt.cmpQ ((Nt.hi (Nt.gr k (Nt.rtN (Nt.absQ x) m k : Int)) (Nt.gr k (Nt.rtH (Nt.absQ x) m k)) - Nt.lo (Nt.gr k (Nt.rtN (Nt.absQ x) m k : Int)) (Nt.gr k (Nt.rtH (Nt.absQ x) m k))) * (((2 ^ k : Nat) : Int) : Rat)) ((1 : Int) : Rat)) == 0)) ?_ (hw := w1 31 true 91)
   refine zza 108 (zB ((Nt.cmpQ ((Nt.hi (Nt.gr k (Nt.rtN (Nt.absQ x) m k : Int)) (Nt.gr k (Nt.rtH (Nt.absQ x) m k)) - Nt.lo (Nt.gr k (Nt.rtN (Nt.absQ x) m k : Int)) (Nt.gr k (Nt.rtH (Nt.absQ x) m k))) * (((2 ^ k : Nat) : Int) : Rat)) ((1 : Int) : Rat)) == 0)) (zza 6 (zB ((Nt.cmpQ ((Nt.hi (Nt.gr k (Nt.rtN (Nt.absQ x) m k : Int)) (Nt.gr k (Nt.rtH (Nt.absQ x) m k)) - Nt.lo (Nt.gr k (Nt.rtN (Nt.absQ x) m k : Int)) (Nt.gr k (Nt.rtH (Nt.absQ x) m k))) * (((2 ^ k : Nat) : Int) : Rat)) ((1 : Int) : Rat)) == 0)) (zzc 109 [(6, zB ((Nt.cmpQ ((Nt.hi (Nt.gr k (Nt.rtN (Nt.absQ x) m k : Int)) (Nt.gr k (Nt.rtH (Nt.absQ x) m k)) - Nt.lo (Nt.gr k (Nt.rtN (Nt.absQ x) m k : Int)) (Nt.gr k (Nt.rtH (Nt.absQ x) m k))) * (((2 ^ k : Nat) : Int) : Rat)) ((1 : Int) : Rat)) == 0))] [] (zzn (ret0 [.bool ((Nt.cmpQ ((Nt.hi (Nt.gr k (Nt.rtN (Nt.absQ x) m k : Int)) (Nt.gr k (Nt.rtH (Nt.absQ x) m k)) - Nt.lo (Nt.gr k (Nt.rtN (Nt.absQ x) m k : Int)) (Nt.gr k (Nt.rtH (Nt.absQ x) m k))) * (((2 ^ k : Nat) : Int) : Rat)) ((1 : Int) : Rat)) == 0)] ⟨zzp, trivial⟩ fun u108 e109 => ?_))))
   show Value.bool _ = Value.bool true
   rw [show ((Nt.cmpQ ((Nt.hi (Nt.gr k (Nt.rtN (Nt.absQ x) m k : Int)) (Nt.gr k (Nt.rtH (Nt.absQ x) m k)) - Nt.lo (Nt.gr k (Nt.rtN (Nt.absQ x) m k : Int)) (Nt.gr k (Nt.rtH (Nt.absQ x) m k))) * (((2 ^ k : Nat) : Int) : Rat)) ((1 : Int) : Rat)) == 0) = true from (by have h9 := hs89; rw [Nt.cmpQ_eq] at h9; have h8 := e5 (fun h7 => absurd (e3.2 h7) (of_decide_eq_false h9)); rw [Nt.cmpQ_eq, e6.1, e6.2]; exact decide_eq_true h8)]
end Go.Proofs.YtbolmkfphieogaaGreat
