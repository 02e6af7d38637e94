/- Parts of the proof: contracts of functions, each walked once, and plain laws. -/
import Derived.Test.YtgmkhhfbckjaeaaGreatXvaE
set_option linter.unusedVariables false
namespace Go.Proofs.YtgmkhhfbckjaeaaGreat
open Go.RowKit
namespace Nt
theorem up_no {N : Int} {L : List Int} {i : Nat} {z : Int} (hi : i < L.length) (hz : z = -1 ∧ i = 0 ∨ 0 < i ∧ z = L.getD (i - 1) 0) (h : L.getD i 0 ≤ z ∨ N ≤ L.getD i 0) : ¬ Up N L := fun hu => by
 have h1 := hu.1 i hi
 rcases h with h | h
 ·rcases hz with ⟨h2, h3⟩ | ⟨h2, h3⟩
  ·omega
  have := hu.2 (i - 1) i xq hi; omega
 omega
structure UpI (N : Int) (L : List Int) (i : Nat) : Prop where
 bd : ∀ j, j < i → 0 ≤ L.getD j 0 ∧ L.getD j 0 < N
 asc : ∀ a b, a < b → b < i → L.getD a 0 < L.getD b 0
theorem upI_0 (N : Int) (L : List Int) : UpI N L 0 := ⟨fun j hj => absurd hj (Nat.not_lt_zero j), fun a b _ hb => absurd hb (Nat.not_lt_zero b)⟩
theorem UpI.step {N : Int} {L : List Int} {i : Nat} {z : Int} (h : UpI N L i) (hz : z = -1 ∧ i = 0 ∨ 0 < i ∧ z = L.getD (i - 1) 0) (h1 : z < L.getD i 0) (h2 : L.getD i 0 < N) : UpI N L (i + 1) := by
 have hz1 : -1 ≤ z := by
  rcases hz with hz | hz
  ·omega
  have := h.bd (i - 1) xq; omega
 refine ⟨fun j hj => ?_, fun a b hab hb => ?_⟩
 ·by_cases e : j = i
  ·rw [e]; omega
  exact h.bd j xq
 by_cases e : b = i
 ·rw [e]
  rcases hz with hz | hz
  ·omega
  by_cases e2 : a = i - 1
  ·rw [e2]; omega
  have := h.asc a (i - 1) xq xq; omega
 exact h.asc a b hab xq
theorem UpI.done {N : Int} {L : List Int} (h : UpI N L L.length) : Up N L := ⟨h.bd, h.asc⟩
end Nt
set_option maxHeartbeats 1000000 in
theorem k_ascending {u w : World} {z : Sl} {L : List Int} (d : Dat u w) (hz : SlR .i64 u z.a z.n z.c L) (hb : ∀ x ∈ L, -9223372036854775808 ≤ x ∧ x ≤ 9223372036854775807) {N : Int} : Calls Tryz.prog 77 #[z.v, .int .i64 N] w (Post u w fun v _ => ∃ b : Bool, v = .bool b ∧ (b = true ↔ Nt.Up N L)) := by
 have hzn : L.length = z.n := hz.1
 have hzm : z.n ≤ maxLen := Nat.le_trans hz.2.1 hz.2.2.1
 unfold maxLen at hzm
 refine zzm (args := [z.v, .int .i64 N]) Tryz.func77 rfl Tryz.ntmps77 (rs := [.tmp 4]) Tryz.results77 (le_b rfl) (le_b rfl) d ?_
 refine sq9 (zza 4 (zB false) (zzb (sq9 (zza 5 (zI (-1)) (zzb (zzd (sq9 (zza 8 (.v (z.v)) (zza 9 (zI z.n) (zza 10 (zI 0) (zzb ?_)))))))))))
 refine zzt (zyn (I := fun ah S' u' => ∃ (i : Nat) (zz : Int), (ah = L.length - i) ∧ (i ≤ L.length) ∧ (Nt.UpI N L i) ∧ (zz = -1 ∧ i = 0 ∨ 0 < i ∧ zz = L.getD (i - 1) 0) ∧ (-9223372036854775808 ≤ zz) ∧ (zz ≤ 9223372036854775807) ∧ (S' = St.of 24 [(1, zI N), (5, zI zz), (8, .v (z.v)), (9, zI z.n), (10, zI i)] []) ∧ (Ext u u')) (fun m S u1 u2 e h => by obtain ⟨i, zz, hm, p0, p1, p2, p3, p4, hS, hE⟩ := h; exact ⟨i, zz, hm, p0, p1, p2, p3, p4, hS, hE.trans e⟩) _ yk ⟨0, (-1), rfl, by omega, (Nt.upI_0 _ _), (.inl ⟨rfl, rfl⟩), by omega, by omega, rfl, (Ext.refl _)⟩ ?_)
 rintro ah _ u11 ⟨i, zz, ai, hi, hU, hzz, hb0, hb1, rfl, ad⟩
 refine sq9 (zza 11 (zB (decide ((i : Int) < (z.n : Int)))) (zzb (zzd (zzu (b := decide ((i : Int) < (z.n : Int))) xj (fun aa => ?_) (fun aa => ?_)))))
 ·have qhb12 := of_decide_eq_true aa
  refine zzs (zzp ?_)
  refine zzd (zzt (sq9 ?_))
  have hl13 := ((hz.ext ad)).1
  obtain ⟨b13, ag, ae, af⟩ := ints_at (hz.ext ad) (i := i) xq
  have hz13 := ints_bd hb xq i
  refine zya 12 (ag + i * 1) (n := z.n) (off := ag) (sz := 1) (i := (i : Int)) xq ae xq xq sl22 (zyl 13 (.int .i64 (L.getD i 0)) af ty3 (zza 7 (zI (L.getD i 0)) (zzb (zzd (sq9 (zza 14 (zI (L.getD i 0)) (zza 15 (zI zz) (zza 16 (zB (decide ((L.getD i 0) ≤ zz))) ?_))))))))
  rcases Bool.eq_false_or_eq_true (decide ((L.getD i 0) ≤ zz)) with hs14 | hs14
  ·refine zyq 17 (x := zB (decide ((L.getD i 0) ≤ zz))) (zB true) (by rw [hs14]) ?_
   have qhs14 := of_decide_eq_true hs14
   refine zzn 18 (uw 3 false true 17) (zzn 19 (uw 3 false true 17) (zzn 20 (uw 3 false true 17) (zza 21 (zB true) (zzb (zyr xj (sq9 (zza 4 (zB false) (zzb (zzo (zzw (zyu (zzw (zyt (zyu (zzw (ret0 [.bool false] ⟨zzq, trivial⟩ fun u15 e16 => ?_))))))))))))))))
   try simp only [decide_eq_true_eq] at aa
   try simp only [decide_eq_false_iff_not] at aa
   try simp only [decide_eq_true_eq] at hs14
   try simp only [decide_eq_false_iff_not] at hs14
   exact ⟨false, rfl, ⟨fun h => absurd h yq, fun h => absurd h (Nt.up_no xq hzz xq)⟩⟩
  refine zyq 17 (x := zB (decide ((L.getD i 0) ≤ zz))) (zB false) (by rw [hs14]) ?_
  have qhs14 := of_decide_eq_false hs14
  refine zza 18 (zI (L.getD i 0)) ?_ (hw := w1 3 false 17)
  refine zza 19 (zI N) ?_ (hw := w1 3 false 17)
  refine zza 20 (zB (decide (N ≤ (L.getD i 0)))) ?_ (hw := w1 3 false 17)
  refine zza 21 (zB (decide (N ≤ (L.getD i 0)))) (zzb (zzu (b := decide (N ≤ (L.getD i 0))) xj (fun ac => ?_) (fun ac => ?_)))
  ·have qhb17 := of_decide_eq_true ac
   refine sq9 (zza 4 (zB false) (zzb (zzo (zzw (zyu (zzw (zyt (zyu (zzw (ret0 [.bool false] ⟨zzq, trivial⟩ fun u18 e19 => ?_))))))))))
   try simp only [decide_eq_true_eq] at aa
   try simp only [decide_eq_false_iff_not] at aa
   try simp only [decide_eq_true_eq] at hs14
   try simp only [decide_eq_false_iff_not] at hs14
   try simp only [decide_eq_true_eq] at ac
   try simp only [decide_eq_false_iff_not] at ac
   exact ⟨false, rfl, ⟨fun h => absurd h yq, fun h => absurd h (Nt.up_no xq hzz xq)⟩⟩
  have qhb17 := of_decide_eq_false ac
  refine zzs (zzp ?_)
  refine zzf (zza 22 (zI (L.getD i 0)) (zza 5 (zI (L.getD i 0)) (zzx ?_)))
  refine zzp (zzf (zyq 23 (x := zI (IntKind.i64.wrap ((i : Int) + 1))) (zI (i + 1 : Nat)) (eqI xz) (zza 10 (zI (i + 1 : Nat)) (zzx ?_))))
  try simp only [decide_eq_true_eq] at aa
  try simp only [decide_eq_false_iff_not] at aa
  try simp only [decide_eq_true_eq] at hs14
  try simp only [decide_eq_false_iff_not] at hs14
  try simp only [decide_eq_true_eq] at ac
  try simp only [decide_eq_false_iff_not] at ac
  refine ⟨_, ?_, _, by exact zzv _ _ _, i + 1, (L.getD i 0), rfl, by omega, (hU.step hzz xq xq), (.inr ⟨by omega, by rw [Nat.add_sub_cancel]⟩), (ints_bd hb xq i).1, (ints_bd hb xq i).2, rfl, ad⟩
  omega
 have qhb12 := of_decide_eq_false aa
 refine zyc (zzp (sq9 (zza 4 (zB true) (zzb (zzo (ret0 [.bool true] ⟨zzq, trivial⟩ fun u20 e21 => ?_))))))
 have hie : i = L.length := by omega
 rw [hie] at hU
 exact ⟨true, rfl, ⟨fun _ => hU.done, fun _ => rfl⟩⟩
set_option maxHeartbeats 2000000 in
theorem k_spread {u w : World} {N k : Nat} (d : Dat u w) (hk2 : 2 ≤ k) (hkN : k ≤ N) (hN12 : N ≤ 12) : Calls Tryz.prog 60 #[.int .i64 (N : Int), .int .i64 (k : Int)] w (Post u w fun v u' => ∃ (b : Nat) (l : List Nat), v = .slice (some ⟨b, 0, none⟩) k k ∧ u.heap.size ≤ b ∧ u'.heap[b]? = some (.cells (ics (Nt.inl l)).toArray 3 (0, 0)) ∧ Nt.Rf N l (k - 1)) := by
 refine zzm (args := [.int .i64 N, .int .i64 k]) Tryz.func60 rfl Tryz.ntmps60 (rs := [.tmp 4]) Tryz.results60 (le_b rfl) (le_b rfl) d ?_
 refine sq9 (zza 4 (.v (.slice none 0 0)) (zzb (sq9 (zza 9 (zI k) (sy_make 10 (T := 22) (E := 3) (z := .int .i64 0) (size := 1) (bytes := 8) k (ics (List.replicate k 0) ++ []) xj xj rfl rfl xq yv (by rw [List.append_nil]; exact made_ints _) ?_)))))
 refine zza 5 (.slc 10 0 k k) (zzc 54 [(0, zI N), (1, zI k), (5, .slc 10 0 k k)] [(10, ⟨3, ics (List.replicate k (0 : Int)) ++ []⟩)] (sq9 (zza 11 (zI k) (zyq 12 (x := zI (IntKind.i64.wrap ((k : Int) - 1))) (zI (k - 1 : Nat)) (eqI xz) (zza 6 (zI (k - 1 : Nat)) (zzb (zzd (sq9 (zza 7 (zI 1) (zzb (zzt ?_)))))))))))
 refine zyn (I := fun av S' u' => ∃ (i : Nat) (L : List Int), (av = k - i) ∧ (i ≤ k) ∧ (1 ≤ i) ∧ (Nt.SpI N k i L) ∧ (S' = St.of 54 [(0, zI N), (1, zI k), (5, .slc 10 0 k k), (6, zI (k - 1 : Nat)), (7, zI i)] [(10, ⟨3, ics L ++ []⟩)]) ∧ (Ext u u')) (fun m S u1 u2 e h => by obtain ⟨i, L, hm, p0, p1, p2, hS, hE⟩ := h; exact ⟨i, L, hm, p0, p1, p2, hS, hE.trans e⟩) _ yk ⟨1, (List.replicate k (0 : Int)), rfl, by omega, by omega, (Nt.spI_0 xq hkN), rfl, (Ext.refl _)⟩ ?_
 rintro av _ u11 ⟨i, L, aC, hi, aE, hS, rfl, aD⟩
 have hSb := hS.bd (i - 1) xq
 have hSl := hS.len
 refine zzd (sq9 (zza 13 (zI i) (zza 14 (zI k) (zza 15 (zB (decide ((i : Int) < (k : Int)))) (zzb (zzu (b := decide ((i : Int) < (k : Int))) xj (fun ad => ?_) (fun ad => ?_)))))))
 ·have qhb12 := of_decide_eq_true ad
  refine zzs (zzp ?_)
  refine zzd (zzt (sq9 (zza 18 (zI N) (zyq 19 (x := zI (IntKind.i64.wrap ((N : Int) - 1))) (zI (N - 1 : Nat)) (eqI xz) (zza 20 (zI i) ?_)))))
  obtain ⟨af, ai⟩ : ∃ m : Nat, (N - 1) * i = m := ⟨_, rfl⟩
  have ax : af ≤ 121 := by rw [← ai]; exact Nat.le_trans (Nat.mul_le_mul (show N - 1 ≤ 11 by omega) (show i ≤ 11 by omega)) yq
  have ap : ((N - 1 : Nat) : Int) * ((i : Nat) : Int) = (af : Int) := by rw [← ai, Int.natCast_mul]
  refine zyq 21 (x := zI (IntKind.i64.wrap (((N - 1 : Nat) : Int) * ((i : Nat) : Int)))) (zI af) (eqI (by rw [ap, IntWalk.i64_in _ xq])) (zza 22 (zI i) ?_)
  obtain ⟨ac, aj⟩ : ∃ m : Nat, af * i = m := ⟨_, rfl⟩
  have ay : ac ≤ 1331 := by rw [← aj]; exact Nat.le_trans (Nat.mul_le_mul (show af ≤ 121 by omega) (show i ≤ 11 by omega)) yq
  have ao : ((af : Nat) : Int) * ((i : Nat) : Int) = (ac : Int) := by rw [← aj, Int.natCast_mul]
  refine zyq 23 (x := zI (IntKind.i64.wrap (((af : Nat) : Int) * ((i : Nat) : Int)))) (zI ac) (eqI (by rw [ao, IntWalk.i64_in _ xq])) (zza 24 (zI (k - 1 : Nat)) (zyq 25 (x := zI (IntKind.i64.wrap ((3 : Int) * ((k - 1 : Nat) : Int)))) (zI ((3 * (k - 1) : Nat) : Int)) (eqI xz) (zza 26 (zI i) (zyq 27 (x := zI (IntKind.i64.wrap ((2 : Int) * (i : Int)))) (zI (2 * i : Nat)) (eqI xz) (zyq 28 (x := zI (IntKind.i64.wrap (((3 * (k - 1) : Nat) : Int) - ((2 * i : Nat) : Int)))) (zI (((3 * (k - 1)) - (2 * i) : Nat) : Int)) (eqI xz) ?_)))))
  obtain ⟨m29, al⟩ : ∃ m : Nat, ac * ((3 * (k - 1)) - (2 * i)) = m := ⟨_, rfl⟩
  have az : m29 ≤ 43923 := by rw [← al]; exact Nat.le_trans (Nat.mul_le_mul (show ac ≤ 1331 by omega) (show (3 * (k - 1)) - (2 * i) ≤ 33 by omega)) yq
  have ak : ((ac : Nat) : Int) * (((3 * (k - 1)) - (2 * i) : Nat) : Int) = (m29 : Int) := by rw [← al, Int.natCast_mul]
  refine zyq 29 (x := zI (IntKind.i64.wrap (((ac : Nat) : Int) * (((3 * (k - 1)) - (2 * i) : Nat) : Int)))) (zI m29) (eqI (by rw [ak, IntWalk.i64_in _ xq])) (zza 30 (zI (k - 1 : Nat)) (zza 31 (zI (k - 1 : Nat)) ?_))
  obtain ⟨ae, ag⟩ : ∃ m : Nat, (k - 1) * (k - 1) = m := ⟨_, rfl⟩
  have aA : ae ≤ 121 := by rw [← ag]; exact Nat.le_trans (Nat.mul_le_mul (show k - 1 ≤ 11 by omega) (show k - 1 ≤ 11 by omega)) yq
  have an : ((k - 1 : Nat) : Int) * ((k - 1 : Nat) : Int) = (ae : Int) := by rw [← ag, Int.natCast_mul]
  refine zyq 32 (x := zI (IntKind.i64.wrap (((k - 1 : Nat) : Int) * ((k - 1 : Nat) : Int)))) (zI ae) (eqI (by rw [an, IntWalk.i64_in _ xq])) (zza 33 (zI (k - 1 : Nat)) ?_)
  obtain ⟨ah, aa⟩ : ∃ m : Nat, ae * (k - 1) = m := ⟨_, rfl⟩
  have aw : ah ≤ 1331 := by rw [← aa]; exact Nat.le_trans (Nat.mul_le_mul (show ae ≤ 121 by omega) (show k - 1 ≤ 11 by omega)) yq
  have am : ((ae : Nat) : Int) * ((k - 1 : Nat) : Int) = (ah : Int) := by rw [← aa, Int.natCast_mul]
  refine zyq 34 (x := zI (IntKind.i64.wrap (((ae : Nat) : Int) * ((k - 1 : Nat) : Int)))) (zI ah) (eqI (by rw [am, IntWalk.i64_in _ xq])) ?_
  have hq0 : ah ≠ 0 := fun e => by rw [e] at aa; have h9 := Nat.mul_pos (Nat.mul_pos (show 0 < k - 1 by omega) (show 0 < k - 1 by omega)) (show 0 < k - 1 by omega); rw [ag, aa] at h9; omega
  obtain ⟨pl, hpl⟩ : ∃ z : Int, (m29 : Int).tdiv (ah : Int) = z := ⟨_, rfl⟩
  have hplb : pl.natAbs ≤ m29 := by rw [← hpl, Int.natAbs_tdiv]; exact Nat.div_le_self _ _
  refine sy_quo 35 (n := (m29 : Int)) (m := (ah : Int)) pl xq (by rw [hpl]; exact IntWalk.i64_in _ xq) ?_
  refine zza 8 (zI pl) (zzb (zzf (zza 36 (.slc 10 0 k k) (zza 37 (zI i) (zza 38 (zI pl) (zza 39 (.slc 10 0 k k) (zza 40 (zI i) (zyq 41 (x := zI (IntKind.i64.wrap ((i : Int) - 1))) (zI (i - 1 : Nat)) (eqI xz) (zyw 42 (off' := (i - 1) * 1) (n := k) (off := 0) (sz := 1) (i := ((i - 1 : Nat) : Int)) sl22 xq xq xq ?_)))))))))
  refine zzi 43 (V := ⟨3, ics L ++ []⟩) (off := (i - 1) * 1) (zI (L.getD (i - 1) 0)) ty3 (part_intsX (l := L) (i := i - 1) (by rw [hS.len]; omega) rfl) (zyq 44 (x := zI (IntKind.i64.wrap ((L.getD (i - 1) 0) + 1))) (zI ((L.getD (i - 1) 0) + 1)) yw (sy_maxN 45 (n := pl) (m := (L.getD (i - 1) 0) + 1) (v := max pl ((L.getD (i - 1) 0) + 1)) (by rw [Int.max_def]; split <;> split <;> omega) ?_))
  refine zza 46 (zI N) (zza 47 (zI k) (zyq 48 (x := zI (IntKind.i64.wrap ((N : Int) - (k : Int)))) (zI (N - k : Nat)) (eqI xz) (zza 49 (zI i) (zyq 50 (x := zI (IntKind.i64.wrap (((N - k : Nat) : Int) + (i : Int)))) (zI (((N - k) + i : Nat) : Int)) (eqI xz) (sy_minN 51 (n := max pl ((L.getD (i - 1) 0) + 1)) (m := (((N - k) + i : Nat) : Int)) (v := min (max pl ((L.getD (i - 1) 0) + 1)) ((N : Int) - k + i)) (by rw [Int.min_def]; split <;> split <;> omega) ?_)))))
  refine zyw 52 (off' := i * 1) (n := k) (off := 0) (sz := 1) (i := (i : Int)) sl22 xq xq xq ?_
  refine zyv (V := ⟨3, ics L ++ []⟩) (off := i * 1) (ics (L.set i (min (max pl ((L.getD (i - 1) 0) + 1)) ((N : Int) - k + i))) ++ []) ty3 (by rw [List.length_append, zwi, hS.len]; omega) (setL_intsX (z := min (max pl ((L.getD (i - 1) 0) + 1)) ((N : Int) - k + i)) (i := i) (by rw [hS.len]; omega) rfl) ?_
  refine zzx ?_
  refine zzp (zzf (zza 16 (zI i) (zyq 17 (x := zI (IntKind.i64.wrap ((i : Int) + 1))) (zI (i + 1 : Nat)) (eqI xz) (zza 7 (zI (i + 1 : Nat)) (zzx ?_)))))
  refine ⟨_, ?_, _, by exact zzv _ _ _, i + 1, (L.set i (min (max pl ((L.getD (i - 1) 0) + 1)) ((N : Int) - k + i))), rfl, by omega, by omega, (hS.step xq aE hkN), rfl, aD⟩
  omega
 have qhb12 := of_decide_eq_false ad
 refine zyc (zzp (zzd (zyp (r := 5) (t := 10) [5, 10] xw xj (by rfl) (by rfl) xj (fun aq u14 e15 au ar => ?_))))
 refine zzf (zza 53 (.v (.slice (some ⟨aq, 0, none⟩) k k)) (zza 4 (.v (.slice (some ⟨aq, 0, none⟩) k k)) (zzb (zzo (ret0 [.slice (some ⟨aq, 0, none⟩) k k] ⟨zzq, trivial⟩ fun u18 aB => ?_)))))
 obtain rfl : i = k := by omega
 obtain ⟨l, hl, hR⟩ := Nt.up_inl (n := i - 1) (hS.up hkN) (by rw [hS.len]; omega)
 have h9 := aB.cells ar
 rw [List.append_nil, hl] at h9
 exact ⟨aq, l, rfl, au, h9, hR⟩
namespace Nt
theorem tm2 (p : Nat) : (Int.tmod (p : Int) 2 == 1) = decide (p % 2 = 1) := by
 rw [show Int.tmod (p : Int) 2 = ((p % 2 : Nat) : Int) from (Int.ofNat_tmod p 2).symm]
 by_cases h : p % 2 = 1
 ·rw [h]; rfl
 rw [decide_eq_false h, beq_eq_false_iff_ne]; omega
theorem inl_app (l m : List Nat) : inl (l ++ m) = inl l ++ inl m := List.map_append
theorem inl_take (l : List Nat) (n : Nat) : inl (l.take n) = (inl l).take n := List.map_take
theorem inl_drop (l : List Nat) (n : Nat) : inl (l.drop n) = (inl l).drop n := List.map_drop
theorem exL_a {l : List Nat} {a pl : Nat} {like : Bool} (h0 : 0 < l.length) (h : ((pl : Int) == 0) = true) (hl : like = true) : (inl l).set 0 (a : Int) = inl (exL l a like pl) := by
 have h1 : pl = 0 := by simpa using h
 unfold exL
 rw [if_pos h1, hl, if_pos rfl]
 match l, h0 with
 | x :: l, _ => rfl
theorem exL_b {l : List Nat} {a pl k : Nat} {like : Bool} (h0 : l.length = k) (hk : 1 ≤ k) (h : ((pl : Int) == 0) = true) (hl : like = false) : ((inl l).take 1 ++ ((inl l).drop 0).take (k - 1) ++ (inl l).drop (1 + (k - 1))).set 0 (a : Int) = inl (exL l a like pl) := by
 have h1 : pl = 0 := by simpa using h
 unfold exL
 rw [if_pos h1, hl, if_neg yq, cp_left (by rw [inl_len]; omega), ← inl_take, h0]; rfl
theorem exL_c {l : List Nat} {a pl : Nat} {like : Bool} (h : ((pl : Int) == 0) = false) (hl : ((Int.tmod (pl : Int) 2 == 1) == like) = true) : (inl l).set (pl - 1) (a : Int) = inl (exL l a like pl) := by
 have h1 : pl ≠ 0 := by simpa using h
 unfold exL
 rw [tm2, beq_iff_eq] at hl
 rw [if_neg h1, if_pos hl, inl_set]
theorem exL_d {l : List Nat} {a pl : Nat} {like : Bool} (h : ((pl : Int) == 0) = false) (hl : ((Int.tmod (pl : Int) 2 == 1) == like) = false) (h2 : pl < l.length) : (inl l).set pl (a : Int) = inl (exL l a like pl) := by
 have h1 : pl ≠ 0 := by simpa using h
 unfold exL
 rw [tm2, beq_eq_false_iff_ne] at hl
 rw [if_neg h1, if_neg hl, if_pos h2, inl_set]
theorem exL_e {l : List Nat} {a pl k : Nat} {like : Bool} (h0 : l.length = k) (hk : 1 ≤ k) (h : ((pl : Int) == 0) = false) (hl : ((Int.tmod (pl : Int) 2 == 1) == like) = false) (h2 : ¬ pl < l.length) : ((inl l).take 0 ++ ((inl l).drop 1).take (k - 1) ++ (inl l).drop (0 + (k - 1))).set (k - 1) (a : Int) = inl (exL l a like pl) := by
 have h1 : pl ≠ 0 := by simpa using h
 unfold exL
 rw [tm2, beq_eq_false_iff_ne] at hl
 rw [if_neg h1, if_neg hl, if_neg h2, cp_right (by rw [inl_len]; omega), inl_app, inl_drop]; rfl
theorem cp_len {l : List Int} {i j m : Nat} (hi : i + m ≤ l.length) (hj : j + m ≤ l.length) : (l.take j ++ (l.drop i).take m ++ l.drop (j + m)).length = l.length := by
 simp only [List.length_append, List.length_take, List.length_drop]; omega
end Nt
set_option maxHeartbeats 4000000 in
theorem k_exchange {u w v0 : World} {b k a : Nat} {l : List Nat} {like : Bool} (d : Dat u w) (hv : Ext v0 u) (hy : MutQ 1 3 v0.heap.size u (⟨some ⟨b, 0, none⟩, k, k⟩ : Sl) (ics (Nt.inl l))) (hl : l.length = k) (hk2 : 2 ≤ k) (hk9 : k ≤ 60) (ha : a ≤ 1000) : Calls Tryz.prog 67 #[.slice (some ⟨b, 0, none⟩) k k, .int .i64 (a : Int), .bool like] w (PostF (mqB (⟨some ⟨b, 0, none⟩, k, k⟩ : Sl) []) u w fun v u' => v = .tuple #[] ∧ ∃ pl, pl ≤ k ∧ (∀ i, i < pl → (Nt.inl l).getD i 0 < (a : Int)) ∧ (pl < k → (a : Int) ≤ (Nt.inl l).getD pl 0) ∧ MutQ 1 3 v0.heap.size u' (⟨some ⟨b, 0, none⟩, k, k⟩ : Sl) (ics (Nt.inl (Nt.exL l a like pl)))) := by
 have hlI : (Nt.inl l).length = k := (Nt.inl_len l).trans hl
 refine calls_symF (F := mqB (⟨some ⟨b, 0, none⟩, k, k⟩ : Sl) []) (args := [.slice (some ⟨b, 0, none⟩) k k, .int .i64 (a : Int), .bool like]) Tryz.func67 rfl Tryz.ntmps67 (rs := []) Tryz.results67 (le_b rfl) (le_b rfl) d ?_
 refine sq9 (zza 8 (.v (.slice (some ⟨b, 0, none⟩) k k)) (zza 9 (zI k) (zza 6 (zI k) (zzb (sq9 (zza 7 (zI 0) (zzb (zzd (sw_joinP (I := fun S' u' => ∃ (pl : Nat), (pl ≤ k) ∧ (∀ i, i < pl → (Nt.inl l).getD i 0 < (a : Int)) ∧ (pl < k → (a : Int) ≤ (Nt.inl l).getD pl 0) ∧ (S' = St.of 73 [(0, .v (.slice (some ⟨b, 0, none⟩) k k)), (1, zI a), (2, zB like), (6, zI k), (7, zI pl)] []) ∧ (MutQ 1 3 v0.heap.size u' (⟨some ⟨b, 0, none⟩, k, k⟩ : Sl) (ics (Nt.inl l)))) ?_ (fun af => ?_))))))))))
 ·rintro _ a6 ad ⟨pl, hpl, hpb, hpe, rfl, hyJ⟩
  refine zzt (sq9 (zza 33 (zI pl) (zza 34 (zB ((pl : Int) == 0)) ?_)))
  rcases Bool.eq_false_or_eq_true ((pl : Int) == 0) with hs12 | hs12
  ·refine zyq 35 (x := zB ((pl : Int) == 0)) (zB true) (by rw [hs12]) ?_
   have aw : (pl : Int) = 0 := by simpa using hs12
   refine zza 36 (zB like) ?_ (hw := w1 2 true 35)
   refine zza 37 (zB like) (zza 32 (zB like) (zzb (zzu (b := like) xj (fun aa => ?_) (fun aa => ?_))))
   ·replace aa : like = true := aa
    refine zzf (zza 38 (.v (.slice (some ⟨b, 0, none⟩) k k)) (zza 39 (zI a) ?_))
    obtain ⟨b14, ap, aX⟩ := MutQ.elI (j := 0) hyJ (by rw [hlI]; omega)
    refine zya 40 (0 + 0 * 1) (n := k) (off := 0) (sz := 1) (i := 0) xq ap xq xq sl22 ?_
    have hq15 := hyJ
    refine sy_storeQ (v := .int .i64 a) (off := 0 + 0 * 1) (n := 1) (⟨some ⟨b, 0, none⟩, k, k⟩ : Sl) hq15 (fun a ha => .inr (mqB_x ha)) ap ty3 (by rw [zwi, hlI]; omega) (nu_ics (l := [(a : Int)])) (fun aZ aG aF => ?_)
    have aJ : MutQ 1 3 v0.heap.size aZ (⟨some ⟨b, 0, none⟩, k, k⟩ : Sl) (ics ((Nt.inl l).set 0 (a : Int))) := by rw [← setL_icsQ (by rw [hlI]; omega)]; exact aG
    have eX15r := ExtX.root aF (MutQ.mutL hq15) (hv.trans ad)
    refine zzx ?_
    refine ⟨[], [], trivial, (fun t h => by cases h), fun B u1 e1 _ => ⟨rfl, pl, hpl, hpb, hpe, ?_⟩⟩
    rw [← (Nt.exL_a xq hs12 aa)]
    exact (aJ).ext e1
   replace aa : like = false := aa
   refine sq9 (zza 42 (zI pl) (zza 43 (zB ((pl : Int) == 0)) (zza 41 (zB ((pl : Int) == 0)) (zzb (zzu (b := (pl : Int) == 0) xj (fun hb => ?_) (fun hb => ?_))))))
   ·clear hb
    refine zzd (sw_anyX xj 7 rfl ?_)
    refine takeX 0 44 6 (.v (.slice (some ⟨b, 0, none⟩) k k)) #[true, false, false, false, false, false, false] ?_
    refine takeX 2 46 5 (.v (.slice (some ⟨b, 0, none⟩) k k)) #[true, false, true, false, false, false, false] ?_
    refine takeX 3 47 4 (.v (.int .i64 (k : Int))) #[true, false, true, true, false, false, false] ?_
    refine takeXe 4 48 3 (x := .v (.int .i64 (IntKind.i64.wrap ((k : Int) - 1)))) (.v (.int .i64 ((k - 1 : Nat) : Int))) (eqI xz) #[true, false, true, true, true, false, false] ?_
    refine ready2 1 5 #[true, true, true, true, true, false, false] #[true, false, true, true, true, true, false] ?_ ?_
    ·skip
     refine sy_tailD 45 (i := 1) (n := k) (c := k) 1 sl22 rfl xq xq xq ?_
     refine zzx ?_
     refine ready1 5 #[true, true, true, true, true, true, false] ?_
     refine sy_front 49 (i := ((k - 1 : Nat) : Int)) (n := k) (c := k) (k - 1) sl22 rfl xq ?_
     refine zzx ?_
     refine ready1 6 #[true, true, true, true, true, true, true] ?_
     have hq16 := hyJ
     refine sy_copyJ 50 (E := 3) (i := 0) (j := 1) (off := 0 + 1 * 1) (dn := k - 1) (dc := k - 1) (off2 := 0) (sn := k - 1) (sc := k) (m := k - 1) (l := (Nt.inl l)) (⟨some ⟨b, 0, none⟩, k, k⟩ : Sl) hq16 (fun a ha => .inr (mqB_x ha)) rfl xj xj xq xq (by show _ = min _ _; omega) zj zj (fun u16 au aD => ?_)
     have eX16r := ExtX.root aD (MutQ.mutL hq16) (hv.trans ad)
     have ai : ((Nt.inl l).take 1 ++ ((Nt.inl l).drop 0).take (k - 1) ++ (Nt.inl l).drop (1 + (k - 1))).length = k := (Nt.cp_len zj zj).trans ((Nt.inl_len l).trans hl)
     refine zzx ?_
     refine doneX ?_
     refine zzb (zzf (zza 51 (.v (.slice (some ⟨b, 0, none⟩) k k)) (zza 52 (zI a) ?_)))
     obtain ⟨b17, al, aY⟩ := MutQ.elI (j := 0) au (by rw [ai]; omega)
     refine zya 53 (0 + 0 * 1) (n := k) (off := 0) (sz := 1) (i := 0) xq al xq xq sl22 ?_
     have hq18 := au
     refine sy_storeQ (v := .int .i64 a) (off := 0 + 0 * 1) (n := 1) (⟨some ⟨b, 0, none⟩, k, k⟩ : Sl) hq18 (fun a ha => .inr (mqB_x ha)) al ty3 (by rw [zwi, ai]; omega) (nu_ics (l := [(a : Int)])) (fun a9 aT ay => ?_)
     have ax : MutQ 1 3 v0.heap.size a9 (⟨some ⟨b, 0, none⟩, k, k⟩ : Sl) (ics (((Nt.inl l).take 1 ++ ((Nt.inl l).drop 0).take (k - 1) ++ (Nt.inl l).drop (1 + (k - 1))).set 0 (a : Int))) := by rw [← setL_icsQ (by rw [ai]; omega)]; exact aT
     have eX18r := ExtX.root ay (MutQ.mutL hq18) eX16r
     refine zzx ?_
     refine ⟨[], [], trivial, (fun t h => by cases h), fun B u1 e1 _ => ⟨rfl, pl, hpl, hpb, hpe, ?_⟩⟩
     rw [← (Nt.exL_b hl xq hs12 aa)]
     exact (ax).ext e1
    refine sy_front 49 (i := ((k - 1 : Nat) : Int)) (n := k) (c := k) (k - 1) sl22 rfl xq ?_
    refine zzx ?_
    refine ready1 1 #[true, true, true, true, true, true, false] ?_
    refine sy_tailD 45 (i := 1) (n := k) (c := k) 1 sl22 rfl xq xq xq ?_
    refine zzx ?_
    refine ready1 6 #[true, true, true, true, true, true, true] ?_
    have hq19 := hyJ
    refine sy_copyJ 50 (E := 3) (i := 0) (j := 1) (off := 0 + 1 * 1) (dn := k - 1) (dc := k - 1) (off2 := 0) (sn := k - 1) (sc := k) (m := k - 1) (l := (Nt.inl l)) (⟨some ⟨b, 0, none⟩, k, k⟩ : Sl) hq19 (fun a ha => .inr (mqB_x ha)) rfl xj xj xq xq (by show _ = min _ _; omega) zj zj (fun u19 aq aE => ?_)
    have eX19r := ExtX.root aE (MutQ.mutL hq19) (hv.trans ad)
    have ag : ((Nt.inl l).take 1 ++ ((Nt.inl l).drop 0).take (k - 1) ++ (Nt.inl l).drop (1 + (k - 1))).length = k := (Nt.cp_len zj zj).trans ((Nt.inl_len l).trans hl)
    refine zzx ?_
    refine doneX ?_
    refine zzb (zzf (zza 51 (.v (.slice (some ⟨b, 0, none⟩) k k)) (zza 52 (zI a) ?_)))
    obtain ⟨b20, ar, aW⟩ := MutQ.elI (j := 0) aq (by rw [ag]; omega)
    refine zya 53 (0 + 0 * 1) (n := k) (off := 0) (sz := 1) (i := 0) xq ar xq xq sl22 ?_
    have hq21 := aq
    refine sy_storeQ (v := .int .i64 a) (off := 0 + 0 * 1) (n := 1) (⟨some ⟨b, 0, none⟩, k, k⟩ : Sl) hq21 (fun a ha => .inr (mqB_x ha)) ar ty3 (by rw [zwi, ag]; omega) (nu_ics (l := [(a : Int)])) (fun a2 aC aN => ?_)
    have aL : MutQ 1 3 v0.heap.size a2 (⟨some ⟨b, 0, none⟩, k, k⟩ : Sl) (ics (((Nt.inl l).take 1 ++ ((Nt.inl l).drop 0).take (k - 1) ++ (Nt.inl l).drop (1 + (k - 1))).set 0 (a : Int))) := by rw [← setL_icsQ (by rw [ag]; omega)]; exact aC
    have eX21r := ExtX.root aN (MutQ.mutL hq21) eX19r
    refine zzx ?_
    refine ⟨[], [], trivial, (fun t h => by cases h), fun B u1 e1 _ => ⟨rfl, pl, hpl, hpb, hpe, ?_⟩⟩
    rw [← (Nt.exL_b hl xq hs12 aa)]
    exact (aL).ext e1
   exact absurd hb (by rw [show ((pl : Int) == 0) = true from hs12]; decide)
  refine zyq 35 (x := zB ((pl : Int) == 0)) (zB false) (by rw [hs12]) ?_
  have aw : ¬ ((pl : Int) = 0) := by simpa using hs12
  refine zzn 36 (uw 2 true false 35) (zza 37 (zB false) (zza 32 (zB false) (zzb (zys xj (sq9 (zza 42 (zI pl) (zza 43 (zB ((pl : Int) == 0)) (zza 41 (zB ((pl : Int) == 0)) (zzb (zzu (b := (pl : Int) == 0) xj (fun hb => ?_) (fun hb => ?_)))))))))))
  ·exact absurd hb (by rw [show ((pl : Int) == 0) = false from hs12]; decide)
  clear hb
  refine sq9 (zza 55 (zI pl) (zza 56 (zI (Int.tmod (pl : Int) 2)) (zza 57 (zB ((Int.tmod (pl : Int) 2) == 1)) (zza 58 (zB like) (zza 59 (zB (((Int.tmod (pl : Int) 2) == 1) == like)) (zza 54 (zB (((Int.tmod (pl : Int) 2) == 1) == like)) (zzb (zzu (b := ((Int.tmod (pl : Int) 2) == 1) == like) xj (fun aj => ?_) (fun aj => ?_)))))))))
  ·refine zzf (zza 60 (.v (.slice (some ⟨b, 0, none⟩) k k)) (zza 61 (zI pl) (zyq 62 (x := zI (IntKind.i64.wrap ((pl : Int) - 1))) (zI (pl - 1 : Nat)) (eqI xz) (zza 63 (zI a) ?_))))
   obtain ⟨b23, an, a3⟩ := MutQ.elI (j := (pl - 1)) hyJ (by rw [hlI]; omega)
   refine zya 64 (0 + (pl - 1) * 1) (n := k) (off := 0) (sz := 1) (i := ((pl - 1 : Nat) : Int)) xq an xq xq sl22 ?_
   have hq24 := hyJ
   refine sy_storeQ (v := .int .i64 a) (off := 0 + (pl - 1) * 1) (n := 1) (⟨some ⟨b, 0, none⟩, k, k⟩ : Sl) hq24 (fun a ha => .inr (mqB_x ha)) an ty3 (by rw [zwi, hlI]; omega) (nu_ics (l := [(a : Int)])) (fun a8 az aS => ?_)
   have aI : MutQ 1 3 v0.heap.size a8 (⟨some ⟨b, 0, none⟩, k, k⟩ : Sl) (ics ((Nt.inl l).set (pl - 1) (a : Int))) := by rw [← setL_icsQ (by rw [hlI]; omega)]; exact az
   have eX24r := ExtX.root aS (MutQ.mutL hq24) (hv.trans ad)
   refine zzx ?_
   refine ⟨[], [], trivial, (fun t h => by cases h), fun B u1 e1 _ => ⟨rfl, pl, hpl, hpb, hpe, ?_⟩⟩
   rw [← (Nt.exL_c hs12 aj)]
   exact (aI).ext e1
  refine sq9 (zza 66 (zI pl) (zza 67 (zI k) (zza 68 (zB (decide ((pl : Int) < (k : Int)))) (zza 65 (zB (decide ((pl : Int) < (k : Int)))) (zzb (zzu (b := decide ((pl : Int) < (k : Int))) xj (fun ah => ?_) (fun ah => ?_)))))))
  ·have qhb25 := of_decide_eq_true ah
   refine zzf (zza 69 (.v (.slice (some ⟨b, 0, none⟩) k k)) (zza 70 (zI pl) (zza 71 (zI a) ?_)))
   obtain ⟨b26, am, a1⟩ := MutQ.elI (j := pl) hyJ (by rw [hlI]; omega)
   refine zya 72 (0 + pl * 1) (n := k) (off := 0) (sz := 1) (i := (pl : Int)) xq am xq xq sl22 ?_
   have hq27 := hyJ
   refine sy_storeQ (v := .int .i64 a) (off := 0 + pl * 1) (n := 1) (⟨some ⟨b, 0, none⟩, k, k⟩ : Sl) hq27 (fun a ha => .inr (mqB_x ha)) am ty3 (by rw [zwi, hlI]; omega) (nu_ics (l := [(a : Int)])) (fun a5 aO aM => ?_)
   have aR : MutQ 1 3 v0.heap.size a5 (⟨some ⟨b, 0, none⟩, k, k⟩ : Sl) (ics ((Nt.inl l).set pl (a : Int))) := by rw [← setL_icsQ (by rw [hlI]; omega)]; exact aO
   have eX27r := ExtX.root aM (MutQ.mutL hq27) (hv.trans ad)
   refine zzx ?_
   refine ⟨[], [], trivial, (fun t h => by cases h), fun B u1 e1 _ => ⟨rfl, pl, hpl, hpb, hpe, ?_⟩⟩
   rw [← (Nt.exL_d hs12 aj (by have h9 := of_decide_eq_true ah; omega))]
   exact (aR).ext e1
  have qhb25 := of_decide_eq_false ah
  refine sq9 (zza 23 (.v (.slice (some ⟨b, 0, none⟩) k k)) (zza 24 (.v (.slice (some ⟨b, 0, none⟩) k k)) (sy_tailD 25 (i := 1) (n := k) (c := k) 1 sl22 rfl xq xq xq ?_)))
  have hq28 := hyJ
  refine sy_copyJ 26 (E := 3) (i := 1) (j := 0) (off := 0) (dn := k) (dc := k) (off2 := 0 + 1 * 1) (sn := k - 1) (sc := k - 1) (m := k - 1) (l := (Nt.inl l)) (⟨some ⟨b, 0, none⟩, k, k⟩ : Sl) hq28 (fun a ha => .inr (mqB_x ha)) rfl xj xj xq xq (by show _ = min _ _; omega) zj zj (fun u28 av aQ => ?_)
  have eX28r := ExtX.root aQ (MutQ.mutL hq28) (hv.trans ad)
  have ae : ((Nt.inl l).take 0 ++ ((Nt.inl l).drop 1).take (k - 1) ++ (Nt.inl l).drop (0 + (k - 1))).length = k := (Nt.cp_len zj zj).trans ((Nt.inl_len l).trans hl)
  refine zzb (zzf (zza 27 (.v (.slice (some ⟨b, 0, none⟩) k k)) (zza 28 (zI k) (zyq 29 (x := zI (IntKind.i64.wrap ((k : Int) - 1))) (zI (k - 1 : Nat)) (eqI xz) (zza 30 (zI a) ?_)))))
  obtain ⟨b29, ao, a4⟩ := MutQ.elI (j := (k - 1)) av (by rw [ae]; omega)
  refine zya 31 (0 + (k - 1) * 1) (n := k) (off := 0) (sz := 1) (i := ((k - 1 : Nat) : Int)) xq ao xq xq sl22 ?_
  have hq30 := av
  refine sy_storeQ (v := .int .i64 a) (off := 0 + (k - 1) * 1) (n := 1) (⟨some ⟨b, 0, none⟩, k, k⟩ : Sl) hq30 (fun a ha => .inr (mqB_x ha)) ao ty3 (by rw [zwi, ae]; omega) (nu_ics (l := [(a : Int)])) (fun aV aB aA => ?_)
  have aH : MutQ 1 3 v0.heap.size aV (⟨some ⟨b, 0, none⟩, k, k⟩ : Sl) (ics (((Nt.inl l).take 0 ++ ((Nt.inl l).drop 1).take (k - 1) ++ (Nt.inl l).drop (0 + (k - 1))).set (k - 1) (a : Int))) := by rw [← setL_icsQ (by rw [ae]; omega)]; exact aB
  have eX30r := ExtX.root aA (MutQ.mutL hq30) eX28r
  refine zzx ?_
  refine ⟨[], [], trivial, (fun t h => by cases h), fun B u1 e1 _ => ⟨rfl, pl, hpl, hpb, hpe, ?_⟩⟩
  rw [← (Nt.exL_e hl xq hs12 aj (by have h9 := of_decide_eq_false ah; omega))]
  exact (aH).ext e1
 refine zzt (zyn (I := fun aU S' u' => ∃ (pl : Nat), (aU = k - pl) ∧ (pl ≤ k) ∧ (∀ i, i < pl → (Nt.inl l).getD i 0 < (a : Int)) ∧ (S' = St.of 73 [(0, .v (.slice (some ⟨b, 0, none⟩) k k)), (1, zI a), (2, zB like), (6, zI k), (7, zI pl)] []) ∧ (Ext u u')) (fun m S u1 u2 e h => by obtain ⟨pl, hm, p0, p1, hS, hE⟩ := h; exact ⟨pl, hm, p0, p1, hS, hE.trans e⟩) _ yk ⟨0, rfl, by omega, (fun i hi => absurd hi (Nat.not_lt_zero i)), rfl, (Ext.refl _)⟩ ?_)
 rintro aU _ u31 ⟨pl, a7, hpl, hpb, rfl, ak⟩
 refine zzd (sq9 (zza 10 (zI pl) (zza 11 (zI k) (zza 12 (zB (decide ((pl : Int) < (k : Int)))) ?_))))
 rcases Bool.eq_false_or_eq_true (decide ((pl : Int) < (k : Int))) with hs32 | hs32
 ·refine zyq 13 (x := zB (decide ((pl : Int) < (k : Int)))) (zB true) (by rw [hs32]) ?_
  have qhs32 := of_decide_eq_true hs32
  refine zza 14 (.v (.slice (some ⟨b, 0, none⟩) k k)) ?_ (hw := w1 3 true 13)
  refine zza 15 (zI pl) ?_ (hw := w1 3 true 13)
  obtain ⟨b33, aP, aK⟩ := MutQ.elI (j := pl) (hy.ext ak) (by rw [hlI]; omega)
  refine zya 16 (0 + pl * 1) (n := k) (off := 0) (sz := 1) (i := (pl : Int)) xq aP xq xq sl22 ?_ (hw := w1 3 true 13)
  refine zyl 17 (.int .i64 ((Nt.inl l).getD pl 0)) aK ty3 ?_ (hw := w1 3 true 13)
  refine zza 18 (zI a) ?_ (hw := w1 3 true 13)
  refine zza 19 (zB (decide (((Nt.inl l).getD pl 0) < (a : Int)))) ?_ (hw := w1 3 true 13)
  refine zza 20 (zB (decide (((Nt.inl l).getD pl 0) < (a : Int)))) (zzb (zzu (b := decide (((Nt.inl l).getD pl 0) < (a : Int))) xj (fun ac => ?_) (fun ac => ?_)))
  ·have qhb34 := of_decide_eq_true ac
   refine zzs (zzp ?_)
   refine zzt (zzf (zza 21 (zI pl) (zyq 22 (x := zI (IntKind.i64.wrap ((pl : Int) + 1))) (zI (pl + 1 : Nat)) (eqI xz) (zza 7 (zI (pl + 1 : Nat)) (zzx ?_)))))
   try simp only [decide_eq_true_eq] at hs32
   try simp only [decide_eq_false_iff_not] at hs32
   try simp only [decide_eq_true_eq] at ac
   try simp only [decide_eq_false_iff_not] at ac
   have hqx : (Nt.inl l).getD pl 0 < (a : Int) := by omega
   refine ⟨_, ?_, _, by exact zzv _ _ _, pl + 1, rfl, by omega, (fun i hi => by by_cases e : i = pl; (rw [e]; exact hqx); exact hpb i xq), rfl, ak⟩
   omega
  have qhb34 := of_decide_eq_false ac
  refine zyc (zzp ?_)
  try simp only [decide_eq_true_eq] at hs32
  try simp only [decide_eq_false_iff_not] at hs32
  try simp only [decide_eq_true_eq] at ac
  try simp only [decide_eq_false_iff_not] at ac
  refine sw_weak (T := St.of 73 [(0, .v (.slice (some ⟨b, 0, none⟩) k k)), (1, zI a), (2, zB like), (6, zI k), (7, zI pl)] []) yk ?_
  exact af _ _ ak ⟨pl, hpl, hpb, (by intro h; omega), rfl, (hy.ext ak)⟩
 refine zyq 13 (x := zB (decide ((pl : Int) < (k : Int)))) (zB false) (by rw [hs32]) ?_
 have qhs32 := of_decide_eq_false hs32
 refine zzn 14 (uw 3 true false 13) (zzn 15 (uw 3 true false 13) (zzn 16 (uw 3 true false 13) (zzn 17 (uw 3 true false 13) (zzn 18 (uw 3 true false 13) (zzn 19 (uw 3 true false 13) (zza 20 (zB false) (zzb (zys xj (zyc (zzp ?_))))))))))
 try simp only [decide_eq_true_eq] at hs32
 try simp only [decide_eq_false_iff_not] at hs32
 refine sw_weak (T := St.of 73 [(0, .v (.slice (some ⟨b, 0, none⟩) k k)), (1, zI a), (2, zB like), (6, zI k), (7, zI pl)] []) yk ?_
 exact af _ _ ak ⟨pl, hpl, hpb, (by intro h; omega), rfl, (hy.ext ak)⟩
namespace Nt
open Pol
def Bt (q : Rat) (B : Nat) : Prop := ∃ (z : Int) (D : Nat), 0 < D ∧ D ≤ 2 ^ B ∧ z.natAbs ≤ 2 ^ B ∧ q = mkRat z D
section
variable {p q : Rat} {A B : Nat}
theorem Bt.more (h : Bt q A) (k : A ≤ B) : Bt q B := by
 obtain ⟨z, D, h1, h2, h3, h4⟩ := h
 have := Nat.pow_le_pow_right (show 0 < 2 by omega) k
 exact ⟨z, D, h1, Nat.le_trans h2 this, Nat.le_trans h3 this, h4⟩
theorem Bt.rs (h : Bt q A) : Nt.rs q ≤ dg A := by
 obtain ⟨z, D, h1, h2, h3, h4⟩ := h
 rw [h4]
 exact rs_mk (dl_dg h3) (dl_dg h2) (by unfold dg; omega)
theorem Bt.mul (h : Bt p A) (k : Bt q B) : Bt (p * q) (A + B) := by
 obtain ⟨z, D, h1, h2, h3, h4⟩ := h
 obtain ⟨y, E, k1, k2, k3, k4⟩ := k
 refine ⟨z * y, D * E, Nat.mul_pos h1 k1, ?_, ?_, ?_⟩
 ·rw [Nat.pow_add]; exact Nat.mul_le_mul h2 k2
 ·rw [Int.natAbs_mul, Nat.pow_add]; exact Nat.mul_le_mul h3 k3
 rw [h4, k4, Rat.mkRat_mul_mkRat]
theorem Bt.neg (h : Bt q A) : Bt (-q) A := by
 obtain ⟨z, D, h1, h2, h3, h4⟩ := h
 exact ⟨-z, D, h1, h2, by rw [Int.natAbs_neg]; exact h3, by rw [h4, Rat.neg_mkRat]⟩
theorem Bt.add (h : Bt p A) (k : Bt q B) : Bt (p + q) (A + B + 1) := by
 obtain ⟨z, D, h1, h2, h3, h4⟩ := h
 obtain ⟨y, E, k1, k2, k3, k4⟩ := k
 refine ⟨z * E + y * D, D * E, Nat.mul_pos h1 k1, ?_, ?_, ?_⟩
 ·refine Nat.le_trans (Nat.mul_le_mul h2 k2) ?_
  rw [← Nat.pow_add]; exact Nat.pow_le_pow_right xq xq
 ·have e1 : (z * E).natAbs ≤ 2 ^ (A + B) := by rw [Int.natAbs_mul, Nat.pow_add]; exact Nat.mul_le_mul h3 k2
  have e2 : (y * D).natAbs ≤ 2 ^ (A + B) := by rw [Int.natAbs_mul, Nat.pow_add, Nat.mul_comm]; exact Nat.mul_le_mul h2 k3
  rw [Nat.pow_succ]
  omega
 rw [h4, k4, Rat.mkRat_add_mkRat _ _ xq xq]
theorem Bt.sub (h : Bt p A) (k : Bt q B) : Bt (p - q) (A + B + 1) := by rw [Rat.sub_eq_add_neg]; exact h.add k.neg
theorem Bt.zero (A : Nat) : Bt 0 A := ⟨0, 1, by omega, Nat.one_le_two_pow, by simp, by rw [Rat.zero_mkRat]⟩
theorem Bt.inv (h : Bt q A) : Bt q⁻¹ A := by
 obtain ⟨z, D, h1, h2, h3, h4⟩ := h
 by_cases hz : z = 0
 ·rw [h4, hz, Rat.zero_mkRat, Rat.inv_zero]; exact Bt.zero A
 have hD : ((D : Int) : Rat) ≠ 0 := dz h1
 have hzr : (z : Rat) ≠ 0 := fun e => hz (Rat.intCast_inj.1 (show (z : Rat) = ((0 : Int) : Rat) from e))
 refine ⟨z.sign * D, z.natAbs, Int.natAbs_pos.2 hz, h3, ?_, ?_⟩
 ·rw [Int.natAbs_mul, Int.natAbs_sign_of_ne_zero hz, Nat.one_mul]; exact h2
 rw [h4, ← mk_div, ← mk_div]
 rcases Int.lt_or_gt_of_ne hz with c | c
 ·have e1 : (z.natAbs : Int) = -z := by omega
  rw [Int.sign_eq_neg_one_of_neg c, e1, Rat.intCast_mul, Rat.intCast_neg, Rat.intCast_neg]
  rw [Rat.div_def, Rat.div_def, Rat.inv_mul_rev, Rat.inv_inv]
  have : (-(z : Rat))⁻¹ = -((z : Rat)⁻¹) := by
   have h1 : (-(z : Rat)) * (-((z : Rat)⁻¹)) = 1 := by have := Rat.mul_inv_cancel _ hzr; grind
   have h2 : (-(z : Rat)) ≠ 0 := by grind
   have h3 := Rat.mul_inv_cancel _ h2
   grind
  rw [this, show ((1 : Int) : Rat) = 1 from rfl]; grind
 have e1 : (z.natAbs : Int) = z := by omega
 rw [Int.sign_eq_one_of_pos c, e1, Int.one_mul, Rat.div_def, Rat.div_def, Rat.inv_mul_rev, Rat.inv_inv]
theorem Bt.div (h : Bt p A) (k : Bt q B) : Bt (p / q) (A + B) := by rw [Rat.div_def]; exact h.mul k.inv
theorem Bt.ofWh {D : Nat} (h0 : 0 < D) (h : Wh (q * ((D : Int) : Rat)) A) (hD : D ≤ 2 ^ A) : Bt q A := by
 obtain ⟨z, hz, hb⟩ := h
 exact ⟨z, D, h0, hD, hb, by rw [← mk_div, ← hz]; have := dz h0; grind⟩
end
def bZ : Nat → Nat
 | 0 => 14
 | o + 1 => 2 * bZ o + 7
theorem bZ_le : ∀ o n, o ≤ n → bZ o ≤ bZ n := fun o n h => by
 induction n with
 | zero => rw [show o = 0 by omega]; exact Nat.le_refl _
 | succ n ih =>
  by_cases e : o = n + 1
  ·rw [e]; exact Nat.le_refl _
  have := ih xq
  show _ ≤ 2 * bZ n + 7
  omega
theorem dd_Bt {x y : Nat → Rat} {n : Nat} (hx : ∀ i j, i ≤ n → j ≤ n → Bt (x i - x j) 6) (hy : ∀ i, i ≤ n → Bt (y i) 14) : ∀ o a, a + o ≤ n → Bt (dd x y o a) (bZ o)
 | 0, a, h => hy a h
 | o + 1, a, h => by
  have h1 := dd_Bt hx hy o (a + 1) xq
  have h2 := dd_Bt hx hy o a xq
  exact ((h1.sub h2).div (hx (a + o + 1) a xq xq)).more (by show _ ≤ 2 * bZ o + 7; omega)
theorem bt_common {c : Nat → Rat} {B : Nat} : ∀ n, (∀ i, i < n → Bt (c i) B) → ∃ D : Nat, 0 < D ∧ D ≤ 2 ^ (B * n) ∧ ∀ i, i < n → Wh (c i * ((D : Int) : Rat)) (B * n)
 | 0, _ => ⟨1, by omega, Nat.one_le_two_pow, fun i hi => absurd hi (Nat.not_lt_zero i)⟩
 | n + 1, h => by
  obtain ⟨D, h1, h2, h3⟩ := bt_common n (fun i hi => h i xq)
  obtain ⟨z, E, k1, k2, k3, k4⟩ := h n xq
  have e : B * (n + 1) = B * n + B := by rw [Nat.mul_succ]
  refine ⟨D * E, Nat.mul_pos h1 k1, by rw [e, Nat.pow_add]; exact Nat.mul_le_mul h2 k2, fun i hi => ?_⟩
  by_cases c : i = n
  ·subst c
   refine ⟨z * D, ?_, ?_⟩
   ·have := dz k1
    rw [k4, ← mk_div, Int.natCast_mul, Rat.intCast_mul, Rat.intCast_mul, Rat.div_def]
    have h9 := Rat.mul_inv_cancel _ this
    grind
   rw [Int.natAbs_mul, e, Nat.pow_add, Nat.mul_comm]; exact Nat.mul_le_mul h2 k3
  obtain ⟨y, g1, g2⟩ := h3 i xq
  refine ⟨y * E, ?_, ?_⟩
  ·rw [Int.natCast_mul, Rat.intCast_mul, Rat.intCast_mul, ← g1]; grind
  rw [Int.natAbs_mul, e, Nat.pow_add]; exact Nat.mul_le_mul g2 k2
theorem mul_lin_co (p : List Rat) (b : Rat) (k : Nat) : co (mulQ p [b, ((1 : Int) : Rat)]) k = b * co p k + sh (co p) k := by
 rw [mulQ_consR]
 congr 1
 have h : ∀ k, co (mulQ p [((1 : Int) : Rat)]) k = co p k := fun k => by
  rw [mulQ_consR]
  have h0 : ∀ k, co (mulQ p []) k = 0 := fun k => by rw [mulQ_comm, mulQ_nil] <;> exact co_nil k
  have : sh (co (mulQ p [])) k = 0 := by unfold sh; split <;> first | rfl | exact h0 _
  rw [this, show ((1 : Int) : Rat) = 1 from rfl]; grind
 unfold sh
 split
 ·rfl
 exact h _
theorem nwL_Wh {x c : Nat → Rat} {n D M : Nat} (hx : ∀ i, i < n → ∃ a : Int, x i * 12 = (a : Rat) ∧ a.natAbs ≤ 36) (hc : ∀ i, i < n → Wh (c i * ((D : Int) : Rat)) M) : ∀ j, j ≤ n → ∀ i, Wh (co (nwL x c n j) i * (((D * 12 ^ j : Nat) : Int) : Rat)) (M + 8 * j)
 | 0, _ => fun i => by
  show Wh (co [] i * _) _
  rw [co_nil, Rat.zero_mul]; exact Wh.zero _
 | j + 1, hj => fun i => by
  have ih := nwL_Wh hx hc j xq
  obtain ⟨a, ha, hb⟩ := hx (n - (j + 1)) xq
  have hcj := hc (n - (j + 1)) xq
  show Wh (co (trimQ (addQ (trimQ (mulQ (nwL x c n j) [-x (n - (j + 1)), ((1 : Int) : Rat)])) [c (n - (j + 1))])) i * _) _
  rw [trim_co, addQ_co, trim_co, mul_lin_co]
  have e : (((D * 12 ^ (j + 1) : Nat) : Int) : Rat) = (((D * 12 ^ j : Nat) : Int) : Rat) * 12 := by
   rw [Nat.pow_succ, ← Nat.mul_assoc, Int.natCast_mul (D * 12 ^ j), Rat.intCast_mul]; rfl
  have w1 : Wh (-x (n - (j + 1)) * co (nwL x c n j) i * (((D * 12 ^ (j + 1) : Nat) : Int) : Rat)) (M + 8 * j + 6) := by
   have : Wh (((-a : Int) : Rat) * (co (nwL x c n j) i * (((D * 12 ^ j : Nat) : Int) : Rat))) (6 + (M + 8 * j)) := Wh.mul ⟨-a, rfl, by rw [Int.natAbs_neg]; exact Nat.le_trans hb yq⟩ (ih i)
   rw [Rat.intCast_neg, ← ha] at this
   rw [e]
   have e2 : -x (n - (j + 1)) * co (nwL x c n j) i * ((((D * 12 ^ j : Nat) : Int) : Rat) * 12) = -(x (n - (j + 1)) * 12) * (co (nwL x c n j) i * (((D * 12 ^ j : Nat) : Int) : Rat)) := by grind
   rw [e2]; exact this.more xq
  have w2 : Wh (sh (co (nwL x c n j)) i * (((D * 12 ^ (j + 1) : Nat) : Int) : Rat)) (M + 8 * j + 6) := by
   unfold sh
   split
   ·rw [Rat.zero_mul]; exact Wh.zero _
   have : Wh (((12 : Int) : Rat) * (co (nwL x c n j) (i - 1) * (((D * 12 ^ j : Nat) : Int) : Rat))) (6 + (M + 8 * j)) := Wh.mul ⟨12, rfl, by decide⟩ (ih (i - 1))
   rw [e]
   have e2 : co (nwL x c n j) (i - 1) * ((((D * 12 ^ j : Nat) : Int) : Rat) * 12) = ((12 : Int) : Rat) * (co (nwL x c n j) (i - 1) * (((D * 12 ^ j : Nat) : Int) : Rat)) := by rw [show ((12 : Int) : Rat) = 12 from rfl]; grind
   rw [e2]; exact this.more xq
  have w3 : Wh (co [c (n - (j + 1))] i * (((D * 12 ^ (j + 1) : Nat) : Int) : Rat)) (M + 8 * j + 7) := by
   match i with
   | 0 =>
    show Wh (c (n - (j + 1)) * _) _
    have h12 : (12 : Nat) ^ (j + 1) ≤ 2 ^ (4 * (j + 1)) := by rw [Nat.pow_mul]; exact Nat.pow_le_pow_left xq _
    have : Wh ((c (n - (j + 1)) * ((D : Int) : Rat)) * (((12 ^ (j + 1) : Nat) : Int) : Rat)) (M + 4 * (j + 1)) := Wh.mul hcj ⟨((12 ^ (j + 1) : Nat) : Int), rfl, by rw [Int.natAbs_natCast]; exact h12⟩
    rw [Int.natCast_mul D, Rat.intCast_mul, ← Rat.mul_assoc]
    exact this.more xq
   | k + 1 =>
    show Wh (co [] k * _) _
    rw [co_nil, Rat.zero_mul]; exact Wh.zero _
  rw [Rat.add_mul, Rat.add_mul]
  exact ((w1.add w2).add w3).more xq
def xs (V : List Rat) (l : List Nat) (i : Nat) : Rat := gX V (l.getD i 0)
def ys (V : List Rat) (l : List Nat) (i : Nat) : Rat := gY V (l.getD i 0)
def ws (V : List Rat) (l : List Nat) (i : Nat) : Rat := gW V (l.getD i 0)
def sgw (V : List Rat) (l : List Nat) (i : Nat) : Rat := sg1 i / ws V l i
def eL (V : List Rat) (l : List Nat) : Rat := rE (gX V) (gW V) (gY V) l
def cL (V : List Rat) (l : List Nat) (i : Nat) : Rat := dT (xs V l) (ys V l) (l.length - 1) i - eL V l * dT (xs V l) (sgw V l) (l.length - 1) i
def pL (V : List Rat) (l : List Nat) : List Rat := nwL (xs V l) (cL V l) (l.length - 1) (l.length - 1)
section
variable {V : List Rat} {N n : Nat} {l : List Nat}
theorem GrOK.xB (h : GrOK V N) {a b : Nat} (ha : a < N) (hb : b < N) : Bt (gX V a - gX V b) 6 := by
 obtain ⟨z, e, h1, h2⟩ := h.x a ha
 obtain ⟨y, f, k1, k2⟩ := h.x b hb
 refine Bt.ofWh (D := 12) xq ⟨z - y, ?_, ?_⟩ yq
 ·rw [Rat.intCast_sub, ← e, ← f, show (((12 : Nat) : Int) : Rat) = 12 from rfl]; grind
 show _ ≤ 64; omega
theorem GrOK.yB (h : GrOK V N) {a : Nat} (ha : a < N) : Bt (gY V a) 14 := Bt.ofWh xq (h.y a ha) yq
theorem GrOK.wne (h : GrOK V N) {a : Nat} (ha : a < N) : gW V a ≠ 0 := by have := h.gr.pos a ha; grind
theorem GrOK.wB (h : GrOK V N) {a : Nat} (ha : a < N) (i : Nat) : Bt (sg1 i / gW V a) 14 := by
 obtain ⟨p, q, e, h1, h2, h3, h4⟩ := h.w a ha
 have hw : Bt (gW V a) 3 := by
  refine ⟨(p : Int), q, by omega, by show _ ≤ 8; omega, by show _ ≤ 8; omega, ?_⟩
  rw [← mk_div, ← show ((p : Nat) : Rat) = ((p : Int) : Rat) from rfl, ← e]
  have : ((q : Int) : Rat) ≠ 0 := dz xq
  have e2 : ((q : Nat) : Rat) = ((q : Int) : Rat) := rfl
  rw [e2]; grind
 have hs : Bt (sg1 i) 3 := by
  unfold sg1
  split
  ·exact ⟨1, 1, by omega, by decide, by decide, rfl⟩
  exact ⟨-1, 1, by omega, by decide, by decide, by decide +kernel⟩
 exact (hs.div hw).more xq
theorem Rf.n11 (h : Rf N l n) (hN : N ≤ 12) : n ≤ 11 := by
 have : ∀ i, i ≤ n → i ≤ l.getD i 0 := fun i => by
  induction i with
  | zero => intro _; omega
  | succ i ih => intro hi; have := ih xq; have := h.asc i (i + 1) xq hi; omega
 have := this n (Nat.le_refl _); have := h.lt n (Nat.le_refl _); omega
theorem eL_n (h : Rf N l n) : eL V l = lvE (xs V l) (ws V l) (ys V l) n := by
 unfold eL rE; rw [h.len, Nat.add_sub_cancel]; rfl
theorem lvl_c (g : GrOK V N) (h : Rf N l n) {i : Nat} (hi : i < n) : Bt (cL V l i) 172005 := by
 have hn := h.n11 g.n12
 have hb : bZ n ≤ 43001 := Nat.le_trans (bZ_le n 11 hn) yq
 have hx : ∀ i j, i ≤ n → j ≤ n → Bt (xs V l i - xs V l j) 6 := fun i j hi hj => g.xB (h.lt i hi) (h.lt j hj)
 have hy : ∀ i, i ≤ n → Bt (ys V l i) 14 := fun i hi => g.yB (h.lt i hi)
 have hs : ∀ i, i ≤ n → Bt (sgw V l i) 14 := fun i hi => g.wB (h.lt i hi) i
 have d1 := dd_Bt hx hy i 0 xq
 have d2 := dd_Bt hx hs i 0 xq
 have d3 := dd_Bt hx hy n 0 xq
 have d4 := dd_Bt hx hs n 0 xq
 have hbi := bZ_le i n xq
 have e : eL V l = dd (xs V l) (ys V l) n 0 / dd (xs V l) (sgw V l) n 0 := by rw [eL_n h]; rfl
 unfold cL
 rw [h.len, Nat.add_sub_cancel, dT_end xq, dT_end xq, e]
 exact (d1.sub ((d3.div d4).mul d2)).more xq
theorem eL_B (g : GrOK V N) (h : Rf N l n) : Nt.rs (eL V l) ≤ 2700 := by
 have hn := h.n11 g.n12
 have hb : bZ n ≤ 43001 := Nat.le_trans (bZ_le n 11 hn) yq
 have hx : ∀ i j, i ≤ n → j ≤ n → Bt (xs V l i - xs V l j) 6 := fun i j hi hj => g.xB (h.lt i hi) (h.lt j hj)
 have hy : ∀ i, i ≤ n → Bt (ys V l i) 14 := fun i hi => g.yB (h.lt i hi)
 have hs : ∀ i, i ≤ n → Bt (sgw V l i) 14 := fun i hi => g.wB (h.lt i hi) i
 have d3 := dd_Bt hx hy n 0 xq
 have d4 := dd_Bt hx hs n 0 xq
 have e : eL V l = dd (xs V l) (ys V l) n 0 / dd (xs V l) (sgw V l) n 0 := by rw [eL_n h]; rfl
 rw [e]
 exact Nat.le_trans (((d3.div d4).more (show _ ≤ 86002 by omega)).rs) yq
theorem lvl_rs (g : GrOK V N) (h : Rf N l n) {j : Nat} (hj : j ≤ n) (i : Nat) : Nt.rs (co (nwL (xs V l) (cL V l) n j) i) ≤ 60000 := by
 have hn := h.n11 g.n12
 obtain ⟨D, h1, h2, h3⟩ := bt_common n (fun i hi => lvl_c g h hi)
 have hw := nwL_Wh (x := xs V l) (c := cL V l) (n := n) (D := D) (M := 172005 * n) (fun i hi => by
  obtain ⟨z, e, k1, k2⟩ := g.x _ (h.lt i xq)
  exact ⟨z, e, by omega⟩) h3 j hj i
 have h12 : (12 : Nat) ^ j ≤ 2 ^ (4 * j) := by rw [Nat.pow_mul]; exact Nat.pow_le_pow_left xq _
 have hD : D * 12 ^ j ≤ 2 ^ (172005 * n + 8 * j) := by
  refine Nat.le_trans (Nat.mul_le_mul h2 h12) ?_
  rw [← Nat.pow_add]; exact Nat.pow_le_pow_right xq xq
 refine Nat.le_trans (wh_rs (Nat.mul_pos h1 (Nat.pow_pos xq)) hw hD) ?_
 unfold dg; omega
theorem lvl_len (h : Rf N l n) : (pL V l).length ≤ n := by unfold pL; rw [h.len, Nat.add_sub_cancel]; exact nwL_len n
theorem lvl_pL (h : Rf N l n) : pL V l = nwL (xs V l) (cL V l) n n := by unfold pL; rw [h.len, Nat.add_sub_cancel]
theorem lvl_at (g : GrOK V N) (h : Rf N l n) (h1 : 1 ≤ n) {m : Nat} (hm : m ≤ n) : gE (gX V) (gW V) (gY V) (pL V l) (l.getD m 0) = sg1 m * eL V l := by
 have hx := h.ascX g.gr
 have hw : ∀ i, i ≤ n → 0 < ws V l i := fun i hi => g.gr.pos _ (h.lt i hi)
 have := lvl_ok (x := xs V l) (w := ws V l) (y := ys V l) (c := cL V l) hx hw h1 (fun i hi => by
  unfold cL
  rw [h.len, Nat.add_sub_cancel, dT_end xq, dT_end xq, eL_n h]; rfl) hm
 rw [eL_n h, lvl_pL h]
 exact this
def sZ : Nat → Nat
 | 0 => 3
 | o + 1 => 2 * sZ o + 4
theorem sZ_le : ∀ o n, o ≤ n → sZ o ≤ sZ n := fun o n h => by
 induction n with
 | zero => rw [show o = 0 by omega]; exact Nat.le_refl _
 | succ n ih =>
  by_cases e : o = n + 1
  ·rw [e]; exact Nat.le_refl _
  have := ih xq
  show _ ≤ 2 * sZ n + 4
  omega
theorem sZ_bd {o : Nat} (h : o ≤ 11) : sZ o ≤ 14332 := Nat.le_trans (sZ_le o 11 h) yq
def fM (x y : Nat → Rat) (o i j : Nat) : Rat := if i < j then dT x y (o + 1) j else dT x y o j
def kM (o i j : Nat) : Nat := if i < j then sZ (o + 1) else sZ o
theorem GrOK.gap (g : GrOK V N) (h : Rf N l n) {i j : Nat} (hij : i < j) (hj : j ≤ n) : gX V (l.getD j 0) - gX V (l.getD i 0) ≠ 0 := by
 have := h.ascX g.gr i j hij hj
 have h9 : gX V (l.getD i 0) < gX V (l.getD j 0) := this
 grind
theorem GrOK.lvne (g : GrOK V N) (h : Rf N l n) : dT (xs V l) (sgw V l) n n ≠ 0 := by
 rw [dT_end (Nat.le_refl n)]
 exact lvS_ne (h.ascX g.gr) (fun i hi => g.gr.pos _ (h.lt i hi))
theorem lvl_e (h : Rf N l n) : dT (xs V l) (ys V l) n n / dT (xs V l) (sgw V l) n n = eL V l := by
 rw [dT_end (Nat.le_refl n), dT_end (Nat.le_refl n), eL_n h]; rfl
end
end Nt
section
variable {u u' : World} {L : List RL} {r : RL} {q : Rat} {m m' i k : Nat} {f f' : Nat → Rat} {K K' : Nat → Nat}
def RatG (u : World) (L : List RL) (f : Nat → Rat) (K : Nat → Nat) (m : Nat) : Prop := ∀ j, j < m → RatN u (L.getD j rl0) (f j) (K j)
theorem RatG.ext (h : RatG u L f K m) (e : Ext u u') : RatG u' L f K m := fun j hj => (h j hj).ext e
theorem RatG.nil : RatG u L f K 0 := fun j hj => absurd hj (Nat.not_lt_zero j)
theorem RatG.set (h : RatG u L f K m) (hi : i < L.length) (hr : RatN u r q k) (hn : ∀ j, j < m' → (j = i ∧ f' j = q ∧ k ≤ K' j) ∨ (j ≠ i ∧ j < m ∧ f' j = f j ∧ K j ≤ K' j)) : RatG u (L.set i r) f' K' m' := fun j hj => by
 rcases hn j hj with ⟨h1, h2, h3⟩ | ⟨h1, h2, h3, h4⟩
 ·subst h1
  rw [h2, List.getD_eq_getElem?_getD, List.getElem?_set_self hi]; exact hr.more h3
 rw [h3, List.getD_eq_getElem?_getD, List.getElem?_set_ne (Ne.symm h1), ← List.getD_eq_getElem?_getD]; exact (h j h2).more h4
theorem RatG.turn (h : RatG u L f K m) (e : ∀ j, j < m → f' j = f j ∧ K j ≤ K' j) : RatG u L f' K' m := fun j hj => by rw [(e j hj).1]; exact (h j hj).more (e j hj).2
end
def Nt.sgJ (i : Nat) : Int := if i % 2 = 0 then 1 else -1
theorem Nt.sgJ_q (i : Nat) : ((Nt.sgJ i : Int) : Rat) = Nt.sg1 i := by unfold Nt.sgJ Nt.sg1; split <;> rfl
theorem Nt.trim_nwL {x c : Nat → Rat} {n j : Nat} (h : 1 ≤ j) : Nt.trimQ (Nt.nwL x c n j) = Nt.nwL x c n j := by
 match j, h with
 | j + 1, _ => exact Nt.trim_trim _
theorem Nt.tmod2 (i : Nat) : Int.tmod (i : Int) 2 = ((i % 2 : Nat) : Int) := (Int.ofNat_tmod i 2).symm
theorem Nt.mul_len9 {l m : List Rat} (h : l.length ≤ 11) (k : m.length ≤ 2) : (Nt.trimQ (Nt.mulQ l m)).length ≤ 13 := Nat.le_trans (Nt.zxt h k) yq
set_option maxHeartbeats 8000000 in
theorem k_levelled {u w : World} {z : Sl} {l : List Nat} {n : Nat} {x : Sl} {N : Nat} {V : List Rat} (d : Dat u w) (hg : GrN u x N V 1) (ho : Nt.GrOK V N) (hz : SlR .i64 u z.a z.n z.c (Nt.inl l)) (hR : Nt.Rf N l n) (hn1 : 1 ≤ n) : Calls Tryz.prog 61 #[x.v, z.v] w (Post u w fun v u' => ∃ (y : Sl) (r : RL), v = .tuple #[y.v, r.v] ∧ PolN u' y (Nt.pL V l) 60000 ∧ RatN u' r (Nt.eL V l) 2700) := by
 have hxn : x.n = N := hg.len
 have hN12 := ho.n12
 have hN1 := ho.n1
 have hl := hR.len
 have hzn : z.n = n + 1 := by have h9 := hz.1; rw [Nt.inl_len] at h9; omega
 have hn11 := hR.n11 hN12
 refine zzm (args := [x.v, z.v]) Tryz.func61 rfl Tryz.ntmps61 (rs := [.tmp 4, .cell 5 32]) Tryz.results61 (le_b rfl) (le_b rfl) d ?_
 refine sq9 (zza 4 (.v (.slice none 0 0)) (zzk 5 ⟨32, zw3⟩ (zzb (sq9 (zza 20 (.v (z.v)) (zza 21 (zI z.n) (zza 6 (zI z.n) (zzb (zzd (zzz [0, 1, 0, 4, 3, 31] [(0, []), (1, []), (2, []), (3, []), (4, []), (5, [])] xj xj (zza 22 (zI z.n) ?_)))))))))))
 refine sy_make 23 (T := 26) (E := 32) (z := .agg #[.bool false, .slice none 0 0, .slice none 0 0]) (size := 3) (bytes := 56) z.n (rcs (List.replicate z.n rl0)) xj xj rfl rfl xq yv (made_rcs _) ?_
 refine zza 24 (zI z.n) (sy_make 25 (T := 26) (E := 32) (z := .agg #[.bool false, .slice none 0 0, .slice none 0 0]) (size := 3) (bytes := 56) z.n (rcs (List.replicate z.n rl0)) xj xj rfl rfl xq yv (made_rcs _) ?_)
 refine zza 7 (.slc 23 0 z.n z.n) (zza 8 (.slc 25 0 z.n z.n) (zzc 177 [(0, .v (x.v)), (1, .v (z.v)), (5, .adr 5 0), (6, zI z.n), (7, .slc 23 0 z.n z.n), (8, .slc 25 0 z.n z.n)] [(5, ⟨32, zw3⟩), (23, ⟨32, rcs (List.replicate z.n rl0)⟩), (25, ⟨32, rcs (List.replicate z.n rl0)⟩)] (zzd (sq9 (zza 26 (.v (z.v)) (zza 27 (zI z.n) (zza 28 (zI 0) (zzb (zzt (zyn (I := fun cu S' u' => ∃ (i : Nat) (L1 : List RL) (L2 : List RL), (cu = n + 1 - i) ∧ (i ≤ n + 1) ∧ (L1.length = z.n) ∧ (L2.length = z.n) ∧ (S' = St.of 177 [(0, .v (x.v)), (1, .v (z.v)), (5, .adr 5 0), (6, zI z.n), (7, .slc 23 0 z.n z.n), (8, .slc 25 0 z.n z.n), (26, .v (z.v)), (27, zI z.n), (28, zI i)] [(5, ⟨32, zw3⟩), (23, ⟨32, rcs L1⟩), (25, ⟨32, rcs L2⟩)]) ∧ (Ext u u') ∧ (RatG u' L1 (Nt.dT (Nt.xs V l) (Nt.ys V l) 0) (fun _ => 3) i) ∧ (RatG u' L2 (Nt.dT (Nt.xs V l) (Nt.sgw V l) 0) (fun _ => 3) i)) (fun m S u1 u2 e h => by obtain ⟨i, L1, L2, hm, p0, p1, p2, hS, hE, f0, f1⟩ := h; exact ⟨i, L1, L2, hm, p0, p1, p2, hS, hE.trans e, f0.ext e, f1.ext e⟩) _ yk ⟨0, List.replicate z.n rl0, List.replicate z.n rl0, rfl, by omega, zv, zv, rfl, (Ext.refl _), RatG.nil, RatG.nil⟩ ?_))))))))))
 rintro cu _ dp ⟨i, L1, L2, dm, hi, db, dP, rfl, ac, g1, g2⟩
 refine sq9 (zza 29 (zB (decide ((i : Int) < (z.n : Int)))) (zzb (zzd (zzu (b := decide ((i : Int) < (z.n : Int))) xj (fun aP => ?_) (fun aP => ?_)))))
 ·have qhb12 := of_decide_eq_true aP
  refine zzs (zzp ?_)
  refine zzd (zzt (sq9 (zza 30 (zI i) ?_)))
  have b3 : (Nt.inl l).length = z.n := ((hz.ext ac)).1
  rw [Nt.inl_len] at b3
  obtain ⟨b13, cJ, bO, bv⟩ := ints_at (hz.ext ac) (i := i) (by have h9 : i < l.length := xq; omega)
  rw [Nt.inl_at] at bv
  refine zya 31 (cJ + i * 1) (n := z.n) (off := cJ) (sz := 1) (i := (i : Int)) xq bO xq (by first | omega | (have h9 : i < l.length := xq; omega)) sl22 (zyl 32 (.int .i64 (((l.getD i 0) : Nat) : Int)) bv ty3 (zza 9 (zI i) (zza 10 (zI (((l.getD i 0) : Nat) : Int)) (zzb (sq9 (zza 33 (.slc 23 0 z.n z.n) (zza 34 (zI i) (zza 35 (.v (x.v)) (zza 36 (zI (((l.getD i 0) : Nat) : Int)) ?_)))))))))
  have dV : x.n = N := GrN.len (hg.ext ac)
  obtain ⟨dR, ak, cV, dC, bC, bX, cw, bn, cr, cd, ba, cC⟩ := gr_at (hg.ext ac) (i := (l.getD i 0)) (hR.lt _ xq)
  refine zya 37 (bC + (l.getD i 0) * 9) (n := x.n) (off := bC) (sz := 9) (i := (((l.getD i 0) : Nat) : Int)) xq bX xq (by first | omega | (have h9 : (l.getD i 0) < N := (hR.lt _ xq); omega)) sl23 (zza 38 (.v (.pointer (some ⟨dC, bC + (l.getD i 0) * 9 + 3, none⟩))) (zym 39 (ak.cs) bn ty32 (zyw 40 (off' := i * 3) (n := z.n) (off := 0) (sz := 3) (i := (i : Int)) sl26 xq xq xq ?_)))
  refine zyv (V := ⟨32, rcs L1⟩) (off := i * 3) (rcs ((L1).set i ak)) ty32 (by rw [zyy]; omega) (zyx (r := ak) (i := i) xq rfl) ?_
  refine zzc 177 [(0, .v (x.v)), (1, .v (z.v)), (5, .adr 5 0), (6, zI z.n), (7, .slc 23 0 z.n z.n), (8, .slc 25 0 z.n z.n), (9, zI i), (10, zI (((l.getD i 0) : Nat) : Int)), (26, .v (z.v)), (27, zI z.n), (28, zI i)] [(5, ⟨32, zw3⟩), (23, ⟨32, rcs ((L1).set i ak)⟩), (25, ⟨32, rcs L2⟩)] (zzz [0, 0, 0, 4, 12, 28, 60, 0, 0, 384, 896, 1920, 4092, 8188, 16380, 16380, 32767, 98303] [(0, []), (1, []), (2, []), (3, []), (4, []), (5, []), (7, []), (8, []), (9, []), (10, []), (11, []), (6, []), (12, []), (13, []), (14, []), (15, []), (16, []), (17, [])] xj xj (zza 42 (.slc 25 0 z.n z.n) (zza 43 (zI i) (zza 44 (zI i) (zyq 45 (x := zI (Int.tmod (i : Int) 2)) (zI (i % 2 : Nat)) (by rw [Nt.tmod2]) (zyq 46 (x := zI (IntKind.i64.wrap ((2 : Int) * (((i % 2) : Nat) : Int)))) (zI ((2 * (i % 2) : Nat) : Int)) (eqI xz) (zyq 47 (x := zI (IntKind.i64.wrap (1 - ((2 * (i % 2) : Nat) : Int)))) (zI (Nt.sgJ i)) (eqI (by rw [IntWalk.i64_in _ xq]; unfold Nt.sgJ; split <;> omega)) ?_)))))))
  have hsg : -1 ≤ Nt.sgJ i ∧ Nt.sgJ i ≤ 1 := by unfold Nt.sgJ; split <;> omega
  refine zza 49 (.v (x.v)) (zza 50 (zI (((l.getD i 0) : Nat) : Int)) ?_)
  have c8 : x.n = N := GrN.len (hg.ext ac)
  obtain ⟨dI, cX, bW, cS, bE, bY, ct, cK, bt, cF, cz, a5⟩ := gr_at (hg.ext ac) (i := (l.getD i 0)) (hR.lt _ xq)
  refine zya 51 (bE + (l.getD i 0) * 9) (n := x.n) (off := bE) (sz := 9) (i := (((l.getD i 0) : Nat) : Int)) xq bY xq (by first | omega | (have h9 : (l.getD i 0) < N := (hR.lt _ xq); omega)) sl23 (zza 52 (.v (.pointer (some ⟨cS, bE + (l.getD i 0) * 9 + 6, none⟩))) (zym 53 (bW.cs) bt ty32 (zzg 48 109 _ fun _ _ a6 dw => Post.mono (k_ratOf dw (z := Nt.sgJ i) xq xq) ?_)))
  rintro _ u19 a3 ⟨r17, rfl, dM⟩
  refine zzg 54 138 _ fun _ _ aX c1 => Post.mono (k_ratDiv1 c1 (dM.ext aX).raw (a5.ext (a6.t (a3.t aX))).raw (ho.wne (hR.lt _ xq)) xq xq) ?_
  rintro _ u25 bx ⟨bd, rfl, dJ⟩
  refine zza 41 (.v (.tuple #[bd.v, .int .i64 0])) (zza 55 (.v (bd.v)) (zza 56 (zI 0) (zyw 57 (off' := i * 3) (n := z.n) (off := 0) (sz := 3) (i := (i : Int)) sl26 xq xq xq ?_)))
  refine zyv (V := ⟨32, rcs L2⟩) (off := i * 3) (rcs ((L2).set i bd)) ty32 (by rw [zyy]; omega) (zyx (r := bd) (i := i) xq rfl) ?_
  refine zzx ?_
  refine zzp (zzf (zyq 58 (x := zI (IntKind.i64.wrap ((i : Int) + 1))) (zI (i + 1 : Nat)) (eqI xz) (zza 28 (zI (i + 1 : Nat)) (zzx ?_))))
  refine ⟨_, ?_, _, by exact zzv _ _ _, i + 1, (L1).set i ak, (L2).set i bd, rfl, by omega, yz, yz, rfl, (ac.t (a6.t (a3.t (aX.t bx.ext)))), (RatG.set (g1.ext (a6.t (a3.t (aX.t bx.ext)))) xq (ba.ext (a6.t (a3.t (aX.t bx.ext)))) (fun j hj => by by_cases e : j = i; (exact .inl ⟨e, by subst e; exact Nt.dT_0, by omega⟩); exact .inr ⟨e, by omega, rfl, Nat.le_refl _⟩)), (RatG.set (g2.ext (a6.t (a3.t (aX.t bx.ext)))) xq dJ (fun j hj => by by_cases e : j = i; (exact .inl ⟨e, by subst e; rw [Nt.dT_0, Nt.sgJ_q]; rfl, by omega⟩); exact .inr ⟨e, by omega, rfl, Nat.le_refl _⟩))⟩
  omega
 have qhb12 := of_decide_eq_false aP
 refine zyc (zzp (zzd (sq9 (zza 11 (zI 1) (zzb (zzt (zyn (I := fun cB S' u' => ∃ (o : Nat) (M1 : List RL) (M2 : List RL), (cB = n - o) ∧ (o ≤ n) ∧ (M1.length = z.n) ∧ (M2.length = z.n) ∧ (S' = St.of 177 [(0, .v (x.v)), (1, .v (z.v)), (5, .adr 5 0), (6, zI z.n), (7, .slc 23 0 z.n z.n), (8, .slc 25 0 z.n z.n), (11, zI (((o + 1) : Nat) : Int))] [(5, ⟨32, zw3⟩), (23, ⟨32, rcs M1⟩), (25, ⟨32, rcs M2⟩)]) ∧ (Ext dp u') ∧ (RatG u' M1 (Nt.dT (Nt.xs V l) (Nt.ys V l) o) (fun _ => Nt.sZ o) (n + 1)) ∧ (RatG u' M2 (Nt.dT (Nt.xs V l) (Nt.sgw V l) o) (fun _ => Nt.sZ o) (n + 1))) (fun m S u1 u2 e h => by obtain ⟨o, M1, M2, hm, p0, p1, p2, hS, hE, f0, f1⟩ := h; exact ⟨o, M1, M2, hm, p0, p1, p2, hS, hE.trans e, f0.ext e, f1.ext e⟩) _ yk ⟨0, L1, L2, rfl, by omega, db, dP, rfl, (Ext.refl _), (by have h9 := g1; rw [show i = n + 1 by omega] at h9; exact h9), (by have h9 := g2; rw [show i = n + 1 by omega] at h9; exact h9)⟩ ?_)))))))
 rintro cB _ be ⟨o, M1, M2, c6, ho9, dn, cT, rfl, ag, f1, f2⟩
 have hsz := Nt.sZ_bd (o := o) xq
 refine zzd (sq9 (zza 59 (zI (((o + 1) : Nat) : Int)) (zza 60 (zI z.n) (zza 61 (zB (decide ((((o + 1) : Nat) : Int) < (z.n : Int)))) (zzb (zzu (b := decide ((((o + 1) : Nat) : Int) < (z.n : Int))) xj (fun aN => ?_) (fun aN => ?_)))))))
 ·have qhb29 := of_decide_eq_true aN
  refine zzs (zzp ?_)
  refine zzd (zzt (sq9 (zza 64 (zI z.n) (zyq 65 (x := zI (IntKind.i64.wrap ((z.n : Int) - 1))) (zI ((n : Int))) (eqI (by rw [IntWalk.i64_in _ xq] <;> omega)) (zza 12 (zI ((n : Int))) (zzb (zzt (zyn (I := fun ci S' u' => ∃ (i : Nat) (A1 : List RL) (A2 : List RL), (ci = i - o) ∧ (o ≤ i) ∧ (i ≤ n) ∧ (A1.length = z.n) ∧ (A2.length = z.n) ∧ (S' = St.of 177 [(0, .v (x.v)), (1, .v (z.v)), (5, .adr 5 0), (6, zI z.n), (7, .slc 23 0 z.n z.n), (8, .slc 25 0 z.n z.n), (11, zI (((o + 1) : Nat) : Int)), (12, zI i)] [(5, ⟨32, zw3⟩), (23, ⟨32, rcs A1⟩), (25, ⟨32, rcs A2⟩)]) ∧ (Ext be u') ∧ (RatG u' A1 (Nt.fM (Nt.xs V l) (Nt.ys V l) o i) (Nt.kM o i) (n + 1)) ∧ (RatG u' A2 (Nt.fM (Nt.xs V l) (Nt.sgw V l) o i) (Nt.kM o i) (n + 1))) (fun m S u1 u2 e h => by obtain ⟨i, A1, A2, hm, p0, p1, p2, p3, hS, hE, f0, f1⟩ := h; exact ⟨i, A1, A2, hm, p0, p1, p2, p3, hS, hE.trans e, f0.ext e, f1.ext e⟩) _ yk ⟨n, M1, M2, rfl, by omega, by omega, dn, cT, rfl, (Ext.refl _), (RatG.turn f1 (fun j hj => ⟨if_neg xq, Nat.le_of_eq (if_neg xq).symm⟩)), (RatG.turn f2 (fun j hj => ⟨if_neg xq, Nat.le_of_eq (if_neg xq).symm⟩))⟩ ?_))))))))
  rintro ci _ u30 ⟨i, A1, A2, dj, hi0, hi1, dL, de, rfl, an, e1, e2⟩
  refine zzd (sq9 (zza 66 (zI i) (zza 67 (zI (((o + 1) : Nat) : Int)) (zza 68 (zB (decide ((((o + 1) : Nat) : Int) ≤ (i : Int)))) (zzb (zzu (b := decide ((((o + 1) : Nat) : Int) ≤ (i : Int))) xj (fun aI => ?_) (fun aI => ?_)))))))
  ·have qhb31 := of_decide_eq_true aI
   refine zzs (zzp ?_)
   refine zzd (zzt (zzd (zzz [0, 0, 0, 6, 14, 31, 63, 127, 0, 0, 0, 0, 3072, 7680, 15872, 32512, 65280, 130816, 262143, 0, 1048575] [(0, []), (1, []), (2, []), (3, []), (4, []), (5, []), (6, []), (7, []), (8, []), (9, []), (10, []), (11, []), (12, []), (13, []), (14, []), (15, []), (16, []), (17, []), (19, []), (18, []), (20, [])] xj xj (zza 71 (.v (x.v)) (zza 72 (.v (z.v)) (zza 73 (zI i) ?_))))))
   have bR : (Nt.inl l).length = z.n := ((hz.ext (ac.trans (ag.trans an)))).1
   rw [Nt.inl_len] at bR
   obtain ⟨b32, cI, bN, bh⟩ := ints_at (hz.ext (ac.trans (ag.trans an))) (i := i) (by have h9 : i < l.length := xq; omega)
   rw [Nt.inl_at] at bh
   refine zya 74 (cI + i * 1) (n := z.n) (off := cI) (sz := 1) (i := (i : Int)) xq bN xq (by first | omega | (have h9 : i < l.length := xq; omega)) sl22 (zyl 75 (.int .i64 (((l.getD i 0) : Nat) : Int)) bh ty3 ?_)
   have c2 : x.n = N := GrN.len (hg.ext (ac.trans (ag.trans an)))
   obtain ⟨b0, cW, dE, cY, bS, bJ, bs, cj, cH, bj, cg, cl⟩ := gr_at (hg.ext (ac.trans (ag.trans an))) (i := (l.getD i 0)) (hR.lt _ xq)
   refine zya 76 (bS + (l.getD i 0) * 9) (n := x.n) (off := bS) (sz := 9) (i := (((l.getD i 0) : Nat) : Int)) xq bJ xq (by first | omega | (have h9 : (l.getD i 0) < N := (hR.lt _ xq); omega)) sl23 (zza 77 (.v (.pointer (some ⟨cY, bS + (l.getD i 0) * 9, none⟩))) (zym 78 (b0.cs) bs ty32 (zza 79 (.v (x.v)) (zza 80 (.v (z.v)) (zza 81 (zI i) (zza 82 (zI (((o + 1) : Nat) : Int)) (zyq 83 (x := zI (IntKind.i64.wrap ((i : Int) - (((o + 1) : Nat) : Int)))) (zI ((i - (o + 1) : Nat) : Int)) (eqI xz) ?_)))))))
   have bT : (Nt.inl l).length = z.n := ((hz.ext (ac.trans (ag.trans an)))).1
   rw [Nt.inl_len] at bT
   obtain ⟨b34, cx, bV, bm⟩ := ints_at (hz.ext (ac.trans (ag.trans an))) (i := i - (o + 1)) (by have h9 : i - (o + 1) < l.length := xq; omega)
   rw [Nt.inl_at] at bm
   refine zya 84 (cx + (i - (o + 1)) * 1) (n := z.n) (off := cx) (sz := 1) (i := ((i - (o + 1) : Nat) : Int)) xq bV xq (by first | omega | (have h9 : i - (o + 1) < l.length := xq; omega)) sl22 (zyl 85 (.int .i64 (((l.getD (i - (o + 1)) 0) : Nat) : Int)) bm ty3 ?_)
   have cR : x.n = N := GrN.len (hg.ext (ac.trans (ag.trans an)))
   obtain ⟨b7, dB, dS, dk, cc, bL, bl, cA, cM, bu, cE, cN⟩ := gr_at (hg.ext (ac.trans (ag.trans an))) (i := (l.getD (i - (o + 1)) 0)) (hR.lt _ xq)
   refine zya 86 (cc + (l.getD (i - (o + 1)) 0) * 9) (n := x.n) (off := cc) (sz := 9) (i := (((l.getD (i - (o + 1)) 0) : Nat) : Int)) xq bL xq (by first | omega | (have h9 : (l.getD (i - (o + 1)) 0) < N := (hR.lt _ xq); omega)) sl23 (zza 87 (.v (.pointer (some ⟨dk, cc + (l.getD (i - (o + 1)) 0) * 9, none⟩))) (zym 88 (b7.cs) bl ty32 (zzk 13 ⟨32, zw3⟩ (zzg 89 139 _ fun _ _ ao dA => Post.mono (k_ratSub dA (bj.ext ao).raw (bu.ext ao).raw xq xq) ?_))))
   rintro _ u39 aG ⟨a9, rfl, cp⟩
   refine zzj ⟨32, a9.cs⟩ ty32 ?_
   refine zzc 177 [(0, .v (x.v)), (1, .v (z.v)), (5, .adr 5 0), (6, zI z.n), (7, .slc 23 0 z.n z.n), (8, .slc 25 0 z.n z.n), (11, zI (((o + 1) : Nat) : Int)), (12, zI i), (13, .adr 13 0)] [(5, ⟨32, zw3⟩), (13, ⟨32, a9.cs⟩), (23, ⟨32, rcs A1⟩), (25, ⟨32, rcs A2⟩)] (zzd (zzz [0, 0, 0, 0, 12, 28, 0, 0, 128, 448, 960, 2044, 0, 8188, 16380, 32764, 32764, 65535, 196607] [(0, []), (1, []), (2, []), (3, []), (4, []), (5, []), (6, []), (7, []), (8, []), (9, []), (10, []), (12, []), (11, []), (13, []), (14, []), (15, []), (16, []), (17, []), (18, [])] xj xj (zza 91 (.slc 23 0 z.n z.n) (zza 92 (zI i) (zza 93 (.slc 23 0 z.n z.n) (zza 94 (zI i) (zyw 95 (off' := i * 3) (n := z.n) (off := 0) (sz := 3) (i := (i : Int)) sl26 xq xq xq ?_)))))))
   obtain ⟨dD, aE⟩ : ∃ r : RL, (A1).getD i rl0 = r := ⟨_, rfl⟩
   refine zzi 96 (V := ⟨32, rcs A1⟩) (off := i * 3) (.v dD.v) ty32 (by have h9 := part_rcs (L := A1) (i := i) (off := i * 3) xq rfl; rw [aE] at h9; exact h9) ?_
   have h43 := (e1.ext (ao.t aG.ext)) i xq
   rw [show Nt.fM (Nt.xs V l) (Nt.ys V l) o i i = Nt.dT (Nt.xs V l) (Nt.ys V l) o i from if_neg xq, show Nt.kM o i i = Nt.sZ o from if_neg xq, aE] at h43
   refine zza 97 (.slc 23 0 z.n z.n) (zza 98 (zI i) (zyq 99 (x := zI (IntKind.i64.wrap ((i : Int) - 1))) (zI (i - 1 : Nat)) (eqI xz) (zyw 100 (off' := (i - 1) * 3) (n := z.n) (off := 0) (sz := 3) (i := ((i - 1 : Nat) : Int)) sl26 xq xq xq ?_)))
   obtain ⟨dc, aC⟩ : ∃ r : RL, (A1).getD (i - 1) rl0 = r := ⟨_, rfl⟩
   refine zzi 101 (V := ⟨32, rcs A1⟩) (off := (i - 1) * 3) (.v dc.v) ty32 (by have h9 := part_rcs (L := A1) (i := i - 1) (off := (i - 1) * 3) xq rfl; rw [aC] at h9; exact h9) ?_
   have h45 := (e1.ext (ao.t aG.ext)) (i - 1) xq
   rw [show Nt.fM (Nt.xs V l) (Nt.ys V l) o i (i - 1) = Nt.dT (Nt.xs V l) (Nt.ys V l) o (i - 1) from if_neg xq, show Nt.kM o i (i - 1) = Nt.sZ o from if_neg xq, aC] at h45
   refine zzi 103 (.v (a9.v)) ty32 zze (zzg 102 139 _ fun _ _ ap dF => Post.mono (k_ratSub dF (h43.ext ap).raw (h45.ext ap).raw xq xq) ?_)
   rintro _ u49 aQ ⟨r47, rfl, dQ⟩
   refine zzg 104 138 _ fun _ _ aD cZ => Post.mono (k_ratDiv1 cZ (dQ.ext aD).raw (cp.ext (ap.t (aQ.t aD))).raw (ho.gap hR xq xq) xq xq) ?_
   rintro _ u55 aR ⟨aV, rfl, cP⟩
   refine zza 90 (.v (.tuple #[aV.v, .int .i64 0])) (zza 105 (.v (aV.v)) (zza 106 (zI 0) (zyw 107 (off' := i * 3) (n := z.n) (off := 0) (sz := 3) (i := (i : Int)) sl26 xq xq xq ?_)))
   refine zyv (V := ⟨32, rcs A1⟩) (off := i * 3) (rcs ((A1).set i aV)) ty32 (by rw [zyy]; omega) (zyx (r := aV) (i := i) xq rfl) ?_
   refine zzc 177 [(0, .v (x.v)), (1, .v (z.v)), (5, .adr 5 0), (6, zI z.n), (7, .slc 23 0 z.n z.n), (8, .slc 25 0 z.n z.n), (11, zI (((o + 1) : Nat) : Int)), (12, zI i), (13, .adr 13 0)] [(5, ⟨32, zw3⟩), (13, ⟨32, a9.cs⟩), (23, ⟨32, rcs ((A1).set i aV)⟩), (25, ⟨32, rcs A2⟩)] (zzz [0, 0, 0, 0, 12, 28, 0, 0, 128, 448, 960, 2044, 0, 8188, 16380, 32764, 32764, 65535, 196607] [(0, []), (1, []), (2, []), (3, []), (4, []), (5, []), (6, []), (7, []), (8, []), (9, []), (10, []), (12, []), (11, []), (13, []), (14, []), (15, []), (16, []), (17, []), (18, [])] xj xj (zza 109 (.slc 25 0 z.n z.n) (zza 110 (zI i) (zza 111 (.slc 25 0 z.n z.n) (zza 112 (zI i) (zyw 113 (off' := i * 3) (n := z.n) (off := 0) (sz := 3) (i := (i : Int)) sl26 xq xq xq ?_))))))
   obtain ⟨c0, az⟩ : ∃ r : RL, (A2).getD i rl0 = r := ⟨_, rfl⟩
   refine zzi 114 (V := ⟨32, rcs A2⟩) (off := i * 3) (.v c0.v) ty32 (by have h9 := part_rcs (L := A2) (i := i) (off := i * 3) xq rfl; rw [az] at h9; exact h9) ?_
   have h59 := (e2.ext (ao.t (aG.t (ap.t (aQ.t (aD.t aR.ext)))))) i xq
   rw [show Nt.fM (Nt.xs V l) (Nt.sgw V l) o i i = Nt.dT (Nt.xs V l) (Nt.sgw V l) o i from if_neg xq, show Nt.kM o i i = Nt.sZ o from if_neg xq, az] at h59
   refine zza 115 (.slc 25 0 z.n z.n) (zza 116 (zI i) (zyq 117 (x := zI (IntKind.i64.wrap ((i : Int) - 1))) (zI (i - 1 : Nat)) (eqI xz) (zyw 118 (off' := (i - 1) * 3) (n := z.n) (off := 0) (sz := 3) (i := ((i - 1 : Nat) : Int)) sl26 xq xq xq ?_)))
   obtain ⟨c5, aA⟩ : ∃ r : RL, (A2).getD (i - 1) rl0 = r := ⟨_, rfl⟩
   refine zzi 119 (V := ⟨32, rcs A2⟩) (off := (i - 1) * 3) (.v c5.v) ty32 (by have h9 := part_rcs (L := A2) (i := i - 1) (off := (i - 1) * 3) xq rfl; rw [aA] at h9; exact h9) ?_
   have h61 := (e2.ext (ao.t (aG.t (ap.t (aQ.t (aD.t aR.ext)))))) (i - 1) xq
   rw [show Nt.fM (Nt.xs V l) (Nt.sgw V l) o i (i - 1) = Nt.dT (Nt.xs V l) (Nt.sgw V l) o (i - 1) from if_neg xq, show Nt.kM o i (i - 1) = Nt.sZ o from if_neg xq, aA] at h61
   refine zzi 121 (.v (a9.v)) ty32 zze (zzg 120 139 _ fun _ _ aO df => Post.mono (k_ratSub df (h59.ext aO).raw (h61.ext aO).raw xq xq) ?_)
   rintro _ u65 a7 ⟨r63, rfl, dq⟩
   refine zzg 122 138 _ fun _ _ aW c3 => Post.mono (k_ratDiv1 c3 (dq.ext aW).raw (cp.ext (ap.t (aQ.t (aD.t (aR.t (aO.t (a7.t aW))))))).raw (ho.gap hR xq xq) xq xq) ?_
   rintro _ u71 bz ⟨br, rfl, cU⟩
   refine zza 108 (.v (.tuple #[br.v, .int .i64 0])) (zza 123 (.v (br.v)) (zza 124 (zI 0) (zyw 125 (off' := i * 3) (n := z.n) (off := 0) (sz := 3) (i := (i : Int)) sl26 xq xq xq ?_)))
   refine zyv (V := ⟨32, rcs A2⟩) (off := i * 3) (rcs ((A2).set i br)) ty32 (by rw [zyy]; omega) (zyx (r := br) (i := i) xq rfl) ?_
   refine zzx ?_
   refine zzp (zzf (zza 69 (zI i) (zyq 70 (x := zI (IntKind.i64.wrap ((i : Int) - 1))) (zI (i - 1 : Nat)) (eqI xz) (zza 12 (zI (i - 1 : Nat)) (zzx ?_)))))
   refine ⟨_, ?_, _, by exact zzv _ _ _, i - 1, (A1).set i aV, (A2).set i br, rfl, by omega, by omega, yz, yz, rfl, (an.t (ao.t (aG.t (ap.t (aQ.t (aD.t (aR.t (aO.t (a7.t (aW.t bz.ext)))))))))), (RatG.set (e1.ext (ao.t (aG.t (ap.t (aQ.t (aD.t (aR.t (aO.t (a7.t (aW.t bz.ext)))))))))) xq (cP.ext (aO.t (a7.t (aW.t bz.ext)))) (fun j hj => by by_cases e : j = i; (subst e; exact .inl ⟨rfl, (if_pos xq).trans (Nt.dT_s xq), by unfold Nt.kM; rw [if_pos xq]; show _ ≤ 2 * Nt.sZ o + 4; omega⟩); (exact .inr ⟨e, hj, by unfold Nt.fM; split <;> split <;> first | rfl | omega, by unfold Nt.kM; split <;> split <;> first | exact Nat.le_refl _ | omega⟩))), (RatG.set (e2.ext (ao.t (aG.t (ap.t (aQ.t (aD.t (aR.t (aO.t (a7.t (aW.t bz.ext)))))))))) xq cU (fun j hj => by by_cases e : j = i; (subst e; exact .inl ⟨rfl, (if_pos xq).trans (Nt.dT_s xq), by unfold Nt.kM; rw [if_pos xq]; show _ ≤ 2 * Nt.sZ o + 4; omega⟩); (exact .inr ⟨e, hj, by unfold Nt.fM; split <;> split <;> first | rfl | omega, by unfold Nt.kM; split <;> split <;> first | exact Nat.le_refl _ | omega⟩)))⟩
   omega
  have qhb31 := of_decide_eq_false aI
  refine zyc (zzp (zzf (zza 62 (zI (((o + 1) : Nat) : Int)) (zyq 63 (x := zI (IntKind.i64.wrap ((((o + 1) : Nat) : Int) + 1))) (zI (((o + 1) + 1 : Nat) : Int)) (eqI xz) (zza 11 (zI (((o + 1) + 1 : Nat) : Int)) (zzx ?_))))))
  refine ⟨_, ?_, _, by exact zzv _ _ _, o + 1, A1, A2, rfl, by omega, dL, de, rfl, (ag.trans an), (RatG.turn e1 (fun j hj => by by_cases e : o < j; (exact ⟨(if_pos e).symm.trans (by rw [show i = o by omega]; rfl), Nat.le_of_eq (by rw [show i = o by omega]; exact if_pos e)⟩); (exact ⟨(Nt.dT_keep xq).trans ((if_neg e).symm.trans (by rw [show i = o by omega]; rfl)), by rw [show i = o by omega]; show (if o < j then _ else _) ≤ _; rw [if_neg e]; exact Nt.sZ_le _ _ xq⟩))), (RatG.turn e2 (fun j hj => by by_cases e : o < j; (exact ⟨(if_pos e).symm.trans (by rw [show i = o by omega]; rfl), Nat.le_of_eq (by rw [show i = o by omega]; exact if_pos e)⟩); (exact ⟨(Nt.dT_keep xq).trans ((if_neg e).symm.trans (by rw [show i = o by omega]; rfl)), by rw [show i = o by omega]; show (if o < j then _ else _) ≤ _; rw [if_neg e]; exact Nt.sZ_le _ _ xq⟩)))⟩
  omega
 have qhb29 := of_decide_eq_false aN
 refine zyc (zzp (zzd ?_))
 have hon : o = n := by omega
 have G1 : RatG be M1 (Nt.dT (Nt.xs V l) (Nt.ys V l) n) (fun _ => Nt.sZ n) (n + 1) := by have h9 := f1; rw [hon] at h9; exact h9
 have G2 : RatG be M2 (Nt.dT (Nt.xs V l) (Nt.sgw V l) n) (fun _ => Nt.sZ n) (n + 1) := by have h9 := f2; rw [hon] at h9; exact h9
 have hsn := Nt.sZ_bd (o := n) xq
 refine zzz [0, 0, 2, 7, 15, 0, 0, 64, 224, 480, 1023, 2047, 4095, 4095, 0, 24575, 65535] [(0, []), (1, []), (2, []), (3, []), (4, []), (5, []), (6, []), (7, []), (8, []), (9, []), (14, []), (10, []), (11, []), (12, []), (13, []), (15, []), (16, [])] xj xj (zza 127 (.slc 23 0 z.n z.n) (zza 128 (zI z.n) (zyq 129 (x := zI (IntKind.i64.wrap ((z.n : Int) - 1))) (zI ((n : Int))) (eqI (by rw [IntWalk.i64_in _ xq] <;> omega)) (zyw 130 (off' := n * 3) (n := z.n) (off := 0) (sz := 3) (i := (n : Int)) sl26 xq xq xq ?_))))
 obtain ⟨c4, aB⟩ : ∃ r : RL, (M1).getD n rl0 = r := ⟨_, rfl⟩
 refine zzi 131 (V := ⟨32, rcs M1⟩) (off := n * 3) (.v c4.v) ty32 (by have h9 := part_rcs (L := M1) (i := n) (off := n * 3) xq rfl; rw [aB] at h9; exact h9) ?_
 have cf : RatN be _ (Nt.dT (Nt.xs V l) (Nt.ys V l) n n) (Nt.sZ n) := G1 n xq
 rw [aB] at cf
 refine zza 132 (.slc 25 0 z.n z.n) (zza 133 (zI z.n) (zyq 134 (x := zI (IntKind.i64.wrap ((z.n : Int) - 1))) (zI ((n : Int))) (eqI (by rw [IntWalk.i64_in _ xq] <;> omega)) (zyw 135 (off' := n * 3) (n := z.n) (off := 0) (sz := 3) (i := (n : Int)) sl26 xq xq xq ?_)))
 obtain ⟨dt, ax⟩ : ∃ r : RL, (M2).getD n rl0 = r := ⟨_, rfl⟩
 refine zzi 136 (V := ⟨32, rcs M2⟩) (off := n * 3) (.v dt.v) ty32 (by have h9 := part_rcs (L := M2) (i := n) (off := n * 3) xq rfl; rw [ax] at h9; exact h9) ?_
 have cv : RatN be _ (Nt.dT (Nt.xs V l) (Nt.sgw V l) n n) (Nt.sZ n) := G2 n xq
 rw [ax] at cv
 refine zzk 14 ⟨32, zw3⟩ (zzg 137 138 _ fun _ _ ay dK => Post.mono (k_ratDiv1 dK (cf.ext ay).raw (cv.ext ay).raw (ho.lvne hR) xq xq) ?_)
 rintro _ ce aT ⟨af, rfl, dG⟩
 refine zza 126 (.v (.tuple #[af.v, .int .i64 0])) (zza 138 (.v (af.v)) (zza 139 (zI 0) (zzj ⟨32, af.cs⟩ ty32 ?_)))
 refine zza 15 (zI 0) (zzc 177 [(0, .v (x.v)), (1, .v (z.v)), (5, .adr 5 0), (6, zI z.n), (7, .slc 23 0 z.n z.n), (8, .slc 25 0 z.n z.n), (14, .adr 14 0)] [(5, ⟨32, zw3⟩), (14, ⟨32, af.cs⟩), (23, ⟨32, rcs M1⟩), (25, ⟨32, rcs M2⟩)] (zzd ?_))
 have ck : RatN ce af (Nt.eL V l) 2700 := by have h9 := dG; rw [Nt.lvl_e hR] at h9; exact RatN.fit h9 (Nt.eL_B ho hR)
 refine zzf (zza 16 (.v (.slice none 0 0)) (zzb (zzd (sq9 (zza 140 (zI z.n) (zyq 141 (x := zI (IntKind.i64.wrap ((z.n : Int) - 2))) (zI ((n : Int) - 1)) (eqI (by rw [IntWalk.i64_in _ xq] <;> omega)) (zza 17 (zI ((n : Int) - 1)) (zzb (zzt (zyn (I := fun cG S' u' => ∃ (m : Nat) (yp : Sl), (cG = m) ∧ (m ≤ n) ∧ (S' = St.of 177 [(0, .v (x.v)), (1, .v (z.v)), (5, .adr 5 0), (7, .slc 23 0 z.n z.n), (8, .slc 25 0 z.n z.n), (14, .adr 14 0), (16, .v (yp.v)), (17, zI ((m : Int) - 1))] [(5, ⟨32, zw3⟩), (14, ⟨32, af.cs⟩), (23, ⟨32, rcs M1⟩), (25, ⟨32, rcs M2⟩)]) ∧ (Ext ce u') ∧ (PolN u' yp (Nt.nwL (Nt.xs V l) (Nt.cL V l) n (n - m)) 60000)) (fun m S u1 u2 e h => by obtain ⟨m, yp, hm, p0, hS, hE, f0⟩ := h; exact ⟨m, yp, hm, p0, hS, hE.trans e, f0.ext e⟩) _ yk ⟨n, ⟨none, 0, 0⟩, rfl, Nat.le_refl _, rfl, (Ext.refl _), (by rw [Nat.sub_self]; exact pol_nil _ _)⟩ ?_))))))))))
 rintro cG _ u84 ⟨m, yp, c7, hm, rfl, aq, hP⟩
 have hPl := hP.len
 have hnl : (Nt.nwL (Nt.xs V l) (Nt.cL V l) n (n - m)).length ≤ 11 := Nat.le_trans (Nt.nwL_len _) xq
 refine zzd (sq9 (zza 142 (zI ((m : Int) - 1)) (zza 143 (zB (decide ((0 : Int) ≤ ((m : Int) - 1)))) (zzb (zzu (b := decide ((0 : Int) ≤ ((m : Int) - 1))) xj (fun aL => ?_) (fun aL => ?_))))))
 ·have qhb85 := of_decide_eq_true aL
  refine zzs (zzp ?_)
  refine zzd (zzt (sq9 (zza 146 (.v (x.v)) (zza 147 (.v (z.v)) (zyq 148 (x := zI ((m : Int) - 1)) (zI (((m - 1 : Nat) : Int))) (eqI xq) ?_)))))
  have cb : (Nt.inl l).length = z.n := ((hz.ext (ac.t (ag.t (ay.t (aT.t aq)))))).1
  rw [Nt.inl_len] at cb
  obtain ⟨b86, cD, bF, a1⟩ := ints_at (hz.ext (ac.t (ag.t (ay.t (aT.t aq))))) (i := (m - 1)) (by have h9 : (m - 1) < l.length := xq; omega)
  rw [Nt.inl_at] at a1
  refine zya 149 (cD + (m - 1) * 1) (n := z.n) (off := cD) (sz := 1) (i := ((m - 1 : Nat) : Int)) xq bF xq (by first | omega | (have h9 : (m - 1) < l.length := xq; omega)) sl22 (zyl 150 (.int .i64 (((l.getD (m - 1) 0) : Nat) : Int)) a1 ty3 ?_)
  have dN : x.n = N := GrN.len (hg.ext (ac.t (ag.t (ay.t (aT.t aq)))))
  obtain ⟨bH, dx, dy, dh, b6, bU, a8, cn, cy, bq, cq, cm⟩ := gr_at (hg.ext (ac.t (ag.t (ay.t (aT.t aq))))) (i := (l.getD (m - 1) 0)) (hR.lt _ xq)
  refine zya 151 (b6 + (l.getD (m - 1) 0) * 9) (n := x.n) (off := b6) (sz := 9) (i := (((l.getD (m - 1) 0) : Nat) : Int)) xq bU xq (by first | omega | (have h9 : (l.getD (m - 1) 0) < N := (hR.lt _ xq); omega)) sl23 (zza 152 (.v (.pointer (some ⟨dh, b6 + (l.getD (m - 1) 0) * 9, none⟩))) (zym 153 (bH.cs) a8 ty32 (zzg 154 79 _ fun _ _ aY cQ => Post.mono (k_ratNeg cQ (bq.ext aY).raw xq) ?_)))
  rintro _ u91 bi ⟨cO, rfl, dU⟩
  refine zzg 155 109 _ fun _ _ aS dO => Post.mono (k_ratOf dO (z := 1) xq xq) ?_
  rintro _ u97 aU ⟨ch, rfl, da⟩
  refine zxx 156 ⟨32, cO.cs ++ ch.cs⟩ 2 (fun au aM ad b9 => ?_)
  have aZ : PolN aM (⟨some ⟨au, 0, none⟩, 2, 2⟩ : Sl) [(-(Nt.gX V (l.getD (m - 1) 0))), ((1 : Int) : Rat)] (max 1 2) := pol_lit (L := [cO, ch]) b9 (rats2 (RatN.more (L := (max 1 2)) (dU.ext (aS.t (aU.t ad))) xq) (RatN.more (L := (max 1 2)) (da.ext ad) xq)) rfl yq
  refine zza 18 (.v (.slice (some ⟨au, 0, none⟩) 2 2)) (zzb (zzd (zzz [0, 0, 3, 7, 0, 0, 0, 96, 224, 496, 1023, 0, 4095] [(0, []), (1, []), (2, []), (3, []), (4, []), (5, []), (6, []), (7, []), (8, []), (11, []), (9, []), (10, []), (12, [])] xj xj (zza 157 (.slc 23 0 z.n z.n) (zyq 158 (x := zI ((m : Int) - 1)) (zI (((m - 1 : Nat) : Int))) (eqI xq) (zyw 159 (off' := (m - 1) * 3) (n := z.n) (off := 0) (sz := 3) (i := ((m - 1 : Nat) : Int)) sl26 xq xq xq ?_))))))
  obtain ⟨bA, aj⟩ : ∃ r : RL, (M1).getD (m - 1) rl0 = r := ⟨_, rfl⟩
  refine zzi 160 (V := ⟨32, rcs M1⟩) (off := (m - 1) * 3) (.v bA.v) ty32 (by have h9 := part_rcs (L := M1) (i := (m - 1)) (off := (m - 1) * 3) xq rfl; rw [aj] at h9; exact h9) ?_
  have bf : RatN aM _ (Nt.dT (Nt.xs V l) (Nt.ys V l) n (m - 1)) (Nt.sZ n) := (G1.ext (ay.t (aT.t (aq.t (aY.t (bi.t (aS.t (aU.t ad)))))))) (m - 1) xq
  rw [aj] at bf
  refine zzi 161 (.v (af.v)) ty32 zze (zza 162 (.slc 25 0 z.n z.n) (zyq 163 (x := zI ((m : Int) - 1)) (zI (((m - 1 : Nat) : Int))) (eqI xq) (zyw 164 (off' := (m - 1) * 3) (n := z.n) (off := 0) (sz := 3) (i := ((m - 1 : Nat) : Int)) sl26 xq xq xq ?_)))
  obtain ⟨bQ, al⟩ : ∃ r : RL, (M2).getD (m - 1) rl0 = r := ⟨_, rfl⟩
  refine zzi 165 (V := ⟨32, rcs M2⟩) (off := (m - 1) * 3) (.v bQ.v) ty32 (by have h9 := part_rcs (L := M2) (i := (m - 1)) (off := (m - 1) * 3) xq rfl; rw [al] at h9; exact h9) ?_
  have bo : RatN aM _ (Nt.dT (Nt.xs V l) (Nt.sgw V l) n (m - 1)) (Nt.sZ n) := (G2.ext (ay.t (aT.t (aq.t (aY.t (bi.t (aS.t (aU.t ad)))))))) (m - 1) xq
  rw [al] at bo
  refine zzk 19 ⟨32, zw3⟩ (zzg 166 113 _ fun _ _ ae b4 => Post.mono (k_ratMul b4 (ck.ext (aq.t (aY.t (bi.t (aS.t (aU.t (ad.trans ae))))))).raw (bo.ext ae).raw xq xq) ?_)
  rintro _ dH av ⟨du, rfl, ca⟩
  refine zzg 167 139 _ fun _ _ ah b2 => Post.mono (k_ratSub b2 (bf.ext (ae.t (av.t ah))).raw (ca.ext ah).raw xq xq) ?_
  rintro _ ds aH ⟨aa, rfl, bK⟩
  refine zzj ⟨32, aa.cs⟩ ty32 ?_
  refine zzc 177 [(0, .v (x.v)), (1, .v (z.v)), (5, .adr 5 0), (7, .slc 23 0 z.n z.n), (8, .slc 25 0 z.n z.n), (14, .adr 14 0), (16, .v (yp.v)), (17, zI ((m : Int) - 1)), (18, .v (.slice (some ⟨au, 0, none⟩) 2 2)), (19, .adr 19 0)] [(5, ⟨32, zw3⟩), (14, ⟨32, af.cs⟩), (19, ⟨32, aa.cs⟩), (23, ⟨32, rcs M1⟩), (25, ⟨32, rcs M2⟩)] (zzz [0, 0, 3, 0, 8, 31, 63] [(0, []), (1, []), (3, []), (4, []), (2, []), (5, [172]), (6, [])] xj xj (zza 168 (.v (yp.v)) (zza 169 (.v (.slice (some ⟨au, 0, none⟩) 2 2)) (zzi 171 (.v (aa.v)) ty32 zze (sy_lit 172 ⟨32, aa.cs⟩ 1 ?_)))))
  refine zzg 170 130 _ fun _ _ aw bI => Post.mono (k_poMul bI (hP.ext (aY.t (bi.t (aS.t (aU.t (ad.t (ae.t (av.t (ah.t (aH.t aw)))))))))).raw (aZ.ext (ae.t (av.t (ah.t (aH.t aw))))).raw (Nat.le_trans (Nt.mlK_mono (n' := 11) (m' := 2) (K' := 60000) (M' := 3) hnl (Nat.le_refl 2) (Nat.le_refl _) xq) (show Nt.mlK 11 2 60000 3 ≤ 30000000 by decide)) xq (show (2 + 1) * _ ≤ _ by omega) xq (show 2 ≤ _ by decide)) ?_
  rintro _ dr a2 ⟨ar, rfl, h123⟩
  replace h123 := PolN.more h123 (Nat.le_trans (Nt.mlK_mono (n' := 11) (m' := 2) (K' := 60000) (M' := 3) hnl (Nat.le_refl 2) (Nat.le_refl _) xq) (show Nt.mlK 11 2 60000 3 ≤ 30000000 by decide))
  have hly122 := h123.len
  have hlly122 := Nt.mul_len9 hnl (show ([(-(Nt.gX V (l.getD (m - 1) 0))), ((1 : Int) : Rat)] : List Rat).length ≤ 2 from Nat.le_refl 2)
  refine zyo 173 115 [.v (ar.v), .slc 172 0 1 1] [172] (.inr rfl) (pub_mk xw) (k := ?_)
  intro aJ c9 bg aK bG bP
  have bc : bg.heap[aJ 172]? = some (.cells #[.bool aa.s, .slice aa.m.a aa.m.n aa.m.c, .slice aa.d.a aa.d.n aa.d.c] 32 (0, 0)) := bP 172 zv _ rfl
  obtain ⟨bM, ai⟩ : ∃ b, aJ 172 = b := ⟨_, rfl⟩
  rw [ai] at bc
  have bk : PolN bg (⟨some ⟨bM, 0, none⟩, 1, 1⟩ : Sl) [((Nt.dT (Nt.xs V l) (Nt.ys V l) n (m - 1)) - ((Nt.eL V l) * (Nt.dT (Nt.xs V l) (Nt.sgw V l) n (m - 1))))] ((Nt.sZ n) + (2700 + (Nt.sZ n)) + 1) := pol_lit (L := [aa]) bc (rats1 (bK.ext (aw.t (a2.t aK)))) rfl yq
  show Calls _ _ #[.slice ar.a ar.n ar.c, .slice (some ⟨aJ 172, 0, none⟩) 1 1] _ _
  rw [ai]
  have k136 := k_poAdd bG (h123.ext aK).raw bk.raw xq xq xq (by first | (show 1 ≤ _; decide) | omega)
  with_reducible refine zPm k136 ?_
  rintro _ b8 bB ⟨aF, rfl, a4⟩
  have hly132 := a4.len
  refine zza 16 (.v (aF.v)) (zzx ?_)
  refine zzp (zzf (zza 144 (zI ((m : Int) - 1)) (zyq 145 (x := zI (IntKind.i64.wrap ((m : Int) - 1 - 1))) (zI (((m - 1 : Nat) : Int) - 1)) (eqI (by rw [IntWalk.i64_in _ xq] <;> omega)) (zza 17 (zI (((m - 1 : Nat) : Int) - 1)) (zzx ?_)))))
  have hcl : Nt.cL V l (m - 1) = Nt.dT (Nt.xs V l) (Nt.ys V l) n (m - 1) - Nt.eL V l * Nt.dT (Nt.xs V l) (Nt.sgw V l) n (m - 1) := by unfold Nt.cL; rw [hl, Nat.add_sub_cancel]
  have hPn : PolN b8 aF (Nt.nwL (Nt.xs V l) (Nt.cL V l) n (n - (m - 1))) 60000 := PolN.fitR (K := (30000000 + ((Nt.sZ n) + (2700 + (Nt.sZ n)) + 1) + 1)) (by rw [show n - (m - 1) = (n - m) + 1 by omega]; show PolN _ _ (Nt.trimQ (Nt.addQ (Nt.trimQ (Nt.mulQ _ [-Nt.xs V l (n - (n - m + 1)), _])) [Nt.cL V l (n - (n - m + 1))])) _; rw [show n - (n - m + 1) = m - 1 by omega, hcl]; exact a4) (fun i => Nt.lvl_rs ho hR xq i)
  refine ⟨_, ?_, _, by exact zzv _ _ _, m - 1, aF, rfl, by omega, rfl, (aq.t (aY.t (bi.t (aS.t (aU.t (ad.t (ae.t (av.t (ah.t (aH.t (aw.t (a2.t (aK.t bB.ext))))))))))))), hPn⟩
  omega
 have qhb85 := of_decide_eq_false aL
 refine zyc (zzp (zzd (zzz [0, 1, 0, 3, 15] [(0, []), (2, []), (1, []), (3, []), (4, [])] xj xj (zza 174 (.v (yp.v)) (zzi 176 (.v (af.v)) ty32 zze (zzg 175 117 _ fun _ _ bp bD => Post.mono (k_poTrim bD (hP.ext bp).raw xq xk) ?_))))))
 rintro _ dv b1 ⟨am, rfl, bw⟩
 have hly138 := bw.len
 refine zza 4 (.v (am.v)) (zzj ⟨32, af.cs⟩ ty32 ?_)
 refine zzc 177 [(4, .v (am.v)), (5, .adr 5 0)] [(5, ⟨32, af.cs⟩)] (zzo (ret0 [am.v, af.v] ⟨zzq, zzr ty32 zze, trivial⟩ fun b5 bb => ?_))
 have di : PolN b5 am (Nt.pL V l) 60000 := by have h9 := (bw.ext bb); rw [show n - m = n by omega, Nt.trim_nwL hn1, ← Nt.lvl_pL hR] at h9; exact h9
 exact ⟨am, af, rfl, di, (ck.ext (aq.t (bp.t (b1.t bb))))⟩
namespace Nt
section
variable {V : List Rat} {N n a pl : Nat} {l : List Nat} {like : Bool}
def exF (V : List Rat) (l : List Nat) : Rat := ab (rE (gX V) (gW V) (gY V) l)
def exN (V : List Rat) (N n : Nat) (l : List Nat) : Nat := exM (exF V) N (n + 1) (exF V l)
theorem sgQ_1 {x : Rat} (h : 0 < x) : sgQ x = 1 := by unfold sgQ cmpQ; rw [if_neg (by grind), if_neg (by grind)]
theorem sgQ_m {x : Rat} (h : x < 0) : sgQ x = -1 := by unfold sgQ cmpQ; rw [if_pos h]
theorem sgQ_0 : sgQ 0 = 0 := by unfold sgQ cmpQ; rw [if_neg (by grind), if_pos rfl]
def fst1 (e : Rat) : Int := if sgQ e = 0 then 1 else sgQ e
theorem ab_eq (x : Rat) : absQ x = ab x := rfl
theorem exF_lt (hR : Rf N l n) {m : List Nat} (hm : Rf N m n) (h : exF V l < exF V m) : exN V N n m < exN V N n l := exM_lt hm.len hm.mem h
theorem exR_off (g : GrOK V N) (hR : Rf N l n) (h1 : 1 ≤ n) (hc : absQ (eL V l) < absQ (gE (gX V) (gW V) (gY V) (pL V l) a)) {i : Nat} (hi : i ≤ n) : l.getD i 0 ≠ a := fun e => by
 have := lvl_at g hR h1 hi
 rw [e] at this
 rw [this, ab_eq, ab_eq, ab_sg] at hc
 grind
theorem design_step (g : GrOK V N) (hR : Rf N l n) (h1 : 1 ≤ n) (ha : a < N) (hc : absQ (eL V l) < absQ (gE (gX V) (gW V) (gY V) (pL V l) a)) (hp1 : pl ≤ n + 1) (hp2 : ∀ i, i < pl → (inl l).getD i 0 < (a : Int)) (hp3 : pl < n + 1 → (a : Int) ≤ (inl l).getD pl 0) (hlk : like = (sgQ (gE (gX V) (gW V) (gY V) (pL V l) a) == fst1 (eL V l))) : Rf N (exL l a like pl) n ∧ exN V N n (exL l a like pl) < exN V N n l := by
 obtain ⟨E, hE⟩ : ∃ E, eL V l = E := ⟨_, rfl⟩
 obtain ⟨G, hG⟩ : ∃ G, gE (gX V) (gW V) (gY V) (pL V l) a = G := ⟨_, rfl⟩
 have hoff := fun i hi => exR_off (a := a) g hR h1 hc (i := i) hi
 have hq1 : ∀ i, i < pl → l.getD i 0 < a := fun i hi => by have := hp2 i hi; rw [inl_at] at this; omega
 have hq2 : ∀ i, pl ≤ i → i ≤ n → a < l.getD i 0 := fun i hi hn => by
  have h9 := hp3 xq
  rw [inl_at] at h9
  have h8 := hoff i hn
  by_cases e : i = pl
  ·rw [e] at h8 ⊢; omega
  have := hR.asc pl i xq hn
  omega
 have hRf := exL_Rf (like := like) hR ha hp1 hq1 hq2
 refine ⟨hRf, exF_lt hR hRf ?_⟩
 have he : ∀ i, i ≤ n → gE (gX V) (gW V) (gY V) (pL V l) (l.getD i 0) = sg1 i * E := fun i hi => by rw [lvl_at g hR h1 hi, hE]
 rw [hE, hG] at hc hlk
 have hrE : rE (gX V) (gW V) (gY V) l = E := hE
 unfold exF
 rw [hrE]
 have hG0 : G ≠ 0 := fun e => by
  rw [e] at hc
  have : absQ 0 = 0 := by decide +kernel
  rw [this] at hc
  have := ab_nn E
  rw [ab_eq] at hc; grind
 obtain ⟨τ, hτ⟩ : ∃ τ : Rat, (if E < 0 then (-1 : Rat) else 1) = τ := ⟨_, rfl⟩
 have hτ1 : τ = 1 ∨ τ = -1 := by rw [← hτ]; split <;> simp
 refine exL_grow (τ := τ) hR g.gr ha hp1 hq1 hq2 (lvl_len hR) he hτ1 ?_ (by rw [hG]; exact hc) ?_
 ·rw [← hτ]; unfold ab; split <;> grind
 rw [hG]
 have hf : fst1 E = if E < 0 then -1 else 1 := by
  unfold fst1
  by_cases c : E < 0
  ·rw [sgQ_m c, if_pos c]; rfl
  rw [if_neg c]
  by_cases c2 : E = 0
  ·rw [c2, sgQ_0]; rfl
  rw [sgQ_1 (by grind)]; rfl
 rw [hf] at hlk
 by_cases c : E < 0
 ·rw [if_pos c] at hlk hτ
  by_cases c2 : G < 0
  ·rw [sgQ_m c2] at hlk
   have : like = true := by rw [hlk]; rfl
   rw [this, if_pos rfl, ← hτ]; grind
  rw [sgQ_1 (by grind)] at hlk
  have : like = false := by rw [hlk]; rfl
  rw [this, if_neg yq, ← hτ]; grind
 rw [if_neg c] at hlk hτ
 by_cases c2 : G < 0
 ·rw [sgQ_m c2] at hlk
  have : like = false := by rw [hlk]; rfl
  rw [this, if_neg yq, ← hτ]; grind
 rw [sgQ_1 (by grind)] at hlk
 have : like = true := by rw [hlk]; rfl
 rw [this, if_pos rfl, ← hτ]; grind
theorem design_end (g : GrOK V N) (hR : Rf N l n) (h1 : 1 ≤ n) (hG : Gst (erL V (pL V l) N) N a) (hc : ¬ absQ (eL V l) < absQ (gE (gX V) (gW V) (gY V) (pL V l) a)) : Bst (gX V) (gW V) (gY V) N n (pL V l) l ∧ absQ (gE (gX V) (gW V) (gY V) (pL V l) a) = absQ (eL V l) := by
 have hmax : ∀ b, b < N → ab (gE (gX V) (gW V) (gY V) (pL V l) b) ≤ ab (rE (gX V) (gW V) (gY V) l) := fun b hb => by
  have h9 := hG.le b hb
  rw [erL_at hb, erL_at hG.lt] at h9
  have h8 : ab (gE (gX V) (gW V) (gY V) (pL V l) a) ≤ ab (rE (gX V) (gW V) (gY V) l) := by
   rw [ab_eq, ab_eq] at hc
   have : eL V l = rE (gX V) (gW V) (gY V) l := rfl
   rw [this] at hc; grind
  grind
 refine ⟨⟨hR, lvl_len hR, hmax⟩, ?_⟩
 have h8 := hG.le (l.getD 0 0) (hR.lt 0 xq)
 rw [erL_at (hR.lt 0 xq), erL_at hG.lt, lvl_at g hR h1 xq, ab_sg] at h8
 rw [ab_eq, ab_eq] at hc ⊢
 grind
end
end Nt
section
variable {P : Program} {w0 : Base} {u0 : World} {S T : St} {B : Tmp → Nat} {a : Act} {w u u' : World} {Q : MP} {c d A C R : Code}
theorem mpr_into {I : Nat → St → World → Prop} {Q : MP} {hI : ∀ m, Mono (I m)} (h : Q.f .ret S u) : (MP.into I Q hI).f .ret S u := h
theorem sw_scope2 {l : Nat} {I : Nat → St → World → Prop} (hI : ∀ m, Mono (I m)) (hf : findLabel (.seq A (.seq C (.seq (.label l) R))) l = some (.seq .skip R)) (hA : SW P w0 u0 A S u (MP.seq P w0 u0 C (MP.into I Q hI))) (h : ∀ n S u, I n S u → SW P w0 u0 R S u (MP.jump l I n Q hI)) : SW P w0 u0 (.scope (.seq A (.seq C (.seq (.label l) R)))) S u Q := by
 intro B a w u' e hr
 let J : Nat → Act → World → Prop := fun n a w => ∃ S B u'', Rep w0 u0 S B a w u'' ∧ I n S u''
 let μ : Act → World → Nat := fun a w => Classical.epsilon fun m => J m a w ∧ ∀ k, J k a w → m ≤ k
 have hμ : ∀ a w n, J n a w → J (μ a w) a w ∧ μ a w ≤ n := fun a w n hn => by
  have := Classical.epsilon_spec (p := fun m => J m a w ∧ ∀ k, J k a w → m ≤ k) (least n hn)
  exact ⟨this.1, this.2 n hn⟩
 refine wp_scope_jumps l (fun a w => ∃ n, J n a w) μ hf ?_ ?_
 ·refine wp_seq (wp_mono (hA B a w u' e hr) fun ex a' w' ⟨S', B', u'', k1, k3⟩ => ?_)
  cases ex with
  | normal =>
   refine wp_seq (wp_mono (k3 B' a' w' u'' (Ext.refl _) k1) fun ex a' w' ⟨S', B', u'', k1, k3⟩ => ?_)
   cases ex with
   | normal =>
    obtain ⟨m, T', t1, t2⟩ := k3
    refine wp_seq (wp_label ?_)
    refine wp_mono (h m T' u'' t2 B' a' w' u'' (Ext.refl _) (k1.weak t1)) fun ex a' w' ⟨S', B', u'', k1, k3⟩ => ?_
    cases ex with
    | goto l' =>
     obtain ⟨rfl, m, hm, T', t1, t2⟩ := k3
     exact ⟨rfl, m, T', B', u'', k1.weak t1, t2⟩
    | _ => exact ⟨S', B', u'', k1, k3⟩
   | goto l' => exact k3.elim
   | _ => exact ⟨S', B', u'', k1, k3⟩
  | goto l' => exact k3.elim
  | _ => exact ⟨S', B', u'', k1, k3⟩
 rintro a w ⟨n, hn⟩
 obtain ⟨S1, B1, u1, r1, i1⟩ := (hμ a w n hn).1
 refine wp_seq (wp_skip ?_)
 refine wp_mono (h _ S1 u1 i1 B1 a w u1 (Ext.refl _) r1) fun ex a' w' ⟨S', B', u'', k1, k3⟩ => ?_
 cases ex with
 | goto l' =>
  obtain ⟨rfl, m, hm, T', t1, t2⟩ := k3
  have hJ : J m a' w' := ⟨T', B', u'', k1.weak t1, t2⟩
  exact ⟨rfl, ⟨m, hJ⟩, Nat.lt_of_le_of_lt (hμ a' w' m hJ).2 hm⟩
 | _ => exact ⟨S', B', u'', k1, k3⟩
end
set_option maxHeartbeats 2000000 in
theorem Nt.inl_inj {l m : List Nat} (h : Nt.inl l = Nt.inl m) : l = m := by
 have := congrArg (List.map Int.toNat) h
 unfold Nt.inl at this
 rw [List.map_map, List.map_map] at this
 have e : (Int.toNat ∘ fun a : Nat => (a : Int)) = id := by funext a; simp
 rw [e, List.map_id, List.map_id] at this; exact this
theorem k_exLevel {u w : World} {x : Sl} {N : Nat} {V : List Rat} (d : Dat u w) (hg : GrN u x N V 1) (ho : Nt.GrOK V N) {z : Sl} {L : List Int} (hz : SlR .i64 u z.a z.n z.c L) (hb : ∀ x ∈ L, -9223372036854775808 ≤ x ∧ x ≤ 9223372036854775807) : Calls Tryz.prog 25 #[x.v, z.v] w (Post u w fun v u' => (v = .tuple #[.slice none 0 0, .agg #[.bool false, .slice none 0 0, .slice none 0 0], .int .i64 1] ∧ (L.length < 2 ∨ 52 < L.length ∨ ¬ Nt.Up (N : Int) L)) ∨ ∃ (l : List Nat) (n : Nat) (y : Sl) (r : RL), L = Nt.inl l ∧ Nt.Rf N l n ∧ 1 ≤ n ∧ v = .tuple #[y.v, r.v, .int .i64 0] ∧ PolN u' y (Nt.pL V l) 60000 ∧ RatN u' r (Nt.eL V l) 2700) := by
 have hxn : x.n = N := hg.len
 have hN12 := ho.n12
 have hN1 := ho.n1
 have hzn : L.length = z.n := hz.1
 have hzm : z.n ≤ maxLen := Nat.le_trans hz.2.1 hz.2.2.1
 unfold maxLen at hzm
 refine zzm (args := [x.v, z.v]) Tryz.func25 rfl Tryz.ntmps25 (rs := [.tmp 4, .cell 5 32, .tmp 6]) Tryz.results25 (le_b rfl) (le_b rfl) d ?_
 refine sq9 (zza 4 (.v (.slice none 0 0)) (zzk 5 ⟨32, zw3⟩ (zza 6 (zI 0) (zzb (zzd (sq9 (zza 9 (.v (x.v)) (zzg 10 89 _ fun _ _ ah ap => Post.mono (k_lsqValid ap (hg.ext ah) ho) ?_))))))))
 rintro _ u12 aj rfl
 refine zza 11 (zB false) (zzb (zys xj (zzs (zzp ?_))))
 refine zzd (sq9 (zza 13 (.v (z.v)) (zza 14 (zI z.n) (zza 15 (zB (decide ((z.n : Int) < 2))) ?_))))
 rcases Bool.eq_false_or_eq_true (decide ((z.n : Int) < 2)) with hs15 | hs15
 ·refine zyq 16 (x := zB (decide ((z.n : Int) < 2))) (zB true) (by rw [hs15]) ?_
  have qhs15 := of_decide_eq_true hs15
  refine zzn 17 (uw 3 false true 16) (zzn 18 (uw 3 false true 16) (zzn 19 (uw 3 false true 16) (zza 20 (zB true) (zza 21 (zB true) (zzn 22 (uw 8 false true 21) (zzn 23 (uw 8 false true 21) (zzn 24 (uw 8 false true 21) (zzn 25 (uw 8 false true 21) (zzn 26 (uw 8 false true 21) (zza 27 (zB true) (zzb ?_)))))))))))
  refine zyr xj (sq9 (zza 28 (.v (.agg #[.bool false, .slice none 0 0, .slice none 0 0])) (zza 4 (.v (.slice none 0 0)) (zzj ⟨32, zw3⟩ ty32 ?_))))
  refine zza 6 (zI 1) (zzb (zzo (zzw (ret0 [.slice none 0 0, .agg #[.bool false, .slice none 0 0, .slice none 0 0], .int .i64 1] ⟨zzq, zzr ty32 zze, zzq, trivial⟩ fun u16 e17 => ?_))))
  try have qhs15 := of_decide_eq_true hs15
  exact .inl ⟨rfl, by omega⟩
 refine zyq 16 (x := zB (decide ((z.n : Int) < 2))) (zB false) (by rw [hs15]) ?_
 have qhs15 := of_decide_eq_false hs15
 refine zza 17 (.v (z.v)) ?_ (hw := w1 3 false 16)
 refine zza 18 (zI z.n) ?_ (hw := w1 3 false 16)
 refine zza 19 (zB (decide ((52 : Int) < (z.n : Int)))) ?_ (hw := w1 3 false 16)
 refine zza 20 (zB (decide ((52 : Int) < (z.n : Int)))) ?_
 rcases Bool.eq_false_or_eq_true (decide ((52 : Int) < (z.n : Int))) with hs18 | hs18
 ·refine zyq 21 (x := zB (decide ((52 : Int) < (z.n : Int)))) (zB true) (by rw [hs18]) ?_
  have qhs18 := of_decide_eq_true hs18
  refine zzn 22 (uw 8 false true 21) (zzn 23 (uw 8 false true 21) (zzn 24 (uw 8 false true 21) (zzn 25 (uw 8 false true 21) (zzn 26 (uw 8 false true 21) (zza 27 (zB true) (zzb (zyr xj (sq9 (zza 28 (.v (.agg #[.bool false, .slice none 0 0, .slice none 0 0])) (zza 4 (.v (.slice none 0 0)) (zzj ⟨32, zw3⟩ ty32 ?_)))))))))))
  refine zza 6 (zI 1) (zzb (zzo (zzw (ret0 [.slice none 0 0, .agg #[.bool false, .slice none 0 0, .slice none 0 0], .int .i64 1] ⟨zzq, zzr ty32 zze, zzq, trivial⟩ fun u19 e20 => ?_))))
  try have qhs15 := of_decide_eq_false hs15
  try have qhs18 := of_decide_eq_true hs18
  exact .inl ⟨rfl, by omega⟩
 refine zyq 21 (x := zB (decide ((52 : Int) < (z.n : Int)))) (zB false) (by rw [hs18]) ?_
 have qhs18 := of_decide_eq_false hs18
 refine zza 22 (.v (z.v)) ?_ (hw := w1 8 false 21)
 refine zza 23 (.v (x.v)) ?_ (hw := w1 8 false 21)
 refine zza 24 (zI x.n) ?_ (hw := w1 8 false 21)
 refine zzg 25 77 _ (fun _ _ ak aq => Post.mono (k_ascending (z := z) (N := (x.n : Int)) aq (hz.ext (ah.t (aj.t ak))) hb) ?_) (hw := w1 8 false 21)
 rintro _ u24 an ⟨ac, rfl, aa⟩
 refine zza 26 (zB (!ac)) ?_ (hw := w1 8 false 21)
 refine zza 27 (zB (!ac)) (zzb (zzu (b := !ac) xj (fun af => ?_) (fun af => ?_)))
 ·refine sq9 (zza 28 (.v (.agg #[.bool false, .slice none 0 0, .slice none 0 0])) (zza 4 (.v (.slice none 0 0)) (zzj ⟨32, zw3⟩ ty32 ?_)))
  refine zza 6 (zI 1) (zzb (zzo (zzw (ret0 [.slice none 0 0, .agg #[.bool false, .slice none 0 0, .slice none 0 0], .int .i64 1] ⟨zzq, zzr ty32 zze, zzq, trivial⟩ fun u28 e29 => ?_))))
  try have qhs15 := of_decide_eq_false hs15
  try have qhs18 := of_decide_eq_false hs18
  refine .inl ⟨rfl, .inr (.inr (fun hu => ?_))⟩
  have h9 : ac = false := by simpa using af
  have h8 := aa.2 (by rw [hxn]; exact hu)
  rw [h9] at h8; exact absurd h8 yq
 refine zzs (zzp ?_)
 refine zzd ?_
 have hU : Nt.Up (N : Int) L := by rw [hxn] at aa; exact aa.1 (by simpa using af)
 try have qhs15 := of_decide_eq_false hs15
 try have qhs18 := of_decide_eq_false hs18
 obtain ⟨l, hLl, hR⟩ := Nt.up_inl (n := L.length - 1) hU xq
 have hzl := hz
 rw [hLl] at hzl
 have ao : 1 ≤ L.length - 1 := by omega
 refine zzf (zza 30 (.v (x.v)) (zza 31 (.v (z.v)) (zzg 32 61 _ fun _ _ am ar => Post.mono (k_levelled (z := z) (n := (L.length - 1)) ar (hg.ext (ah.t (aj.t (ak.t (an.t am))))) ho (hzl.ext (ah.t (aj.t (ak.t (an.t am))))) hR xq) ?_)))
 rintro _ u32 g33 ⟨ae, ad, rfl, ag, ai⟩
 have hly31 := ag.len
 have hlly31 := Nt.lvl_len (V := V) hR
 refine zza 29 (.v (.tuple #[ae.v, ad.v])) (zza 33 (.v (ae.v)) (zza 34 (.v (ad.v)) (zzk 8 ⟨32, zw3⟩ (zza 7 (.v (ae.v)) (zzj ⟨32, ad.cs⟩ ty32 ?_)))))
 refine zzb (zzd (zzz [0, 0, 1, 7, 15] [(0, []), (1, []), (2, []), (3, []), (4, [])] xj xj (zza 35 (.v (ae.v)) (zzi 36 (.v (ad.v)) ty32 zze (zza 4 (.v (ae.v)) (zzj ⟨32, ad.cs⟩ ty32 ?_))))))
 refine zza 6 (zI 0) (zzc 37 [(4, .v (ae.v)), (5, .adr 5 0), (6, zI 0)] [(5, ⟨32, ad.cs⟩)] (zzo (ret0 [ae.v, ad.v, .int .i64 0] ⟨zzq, zzr ty32 zze, zzq, trivial⟩ fun u35 al => ?_)))
 exact .inr ⟨l, L.length - 1, ae, ad, hLl, hR, ao, rfl, (ag.ext al), (ai.ext al)⟩
theorem k_exLevelR {u w : World} {z : Sl} {l : List Nat} {n : Nat} {x : Sl} {N : Nat} {V : List Rat} (d : Dat u w) (hg : GrN u x N V 1) (ho : Nt.GrOK V N) (hz : SlR .i64 u z.a z.n z.c (Nt.inl l)) (hR : Nt.Rf N l n) (hn1 : 1 ≤ n) : Calls Tryz.prog 25 #[x.v, z.v] w (Post u w fun v u' => ∃ (y : Sl) (r : RL), v = .tuple #[y.v, r.v, .int .i64 0] ∧ PolN u' y (Nt.pL V l) 60000 ∧ RatN u' r (Nt.eL V l) 2700) := by
 have hn := hR.n11 ho.n12
 refine Post.mono (k_exLevel d hg ho hz (Nt.inl_bd hR.mem (by have := ho.n12; omega))) ?_
 rintro v u' _ (⟨_, h⟩ | ⟨l', n', y, r, e, hR', _, rfl, hp, hq⟩)
 ·rw [Nt.inl_len, hR.len] at h
  rcases h with h | h | h
  ·omega
  ·omega
  exact absurd hR.up h
 have : l' = l := Nt.inl_inj e.symm
 subst this
 exact ⟨y, r, rfl, hp, hq⟩
set_option maxHeartbeats 8000000 in
theorem k_exDesign {u w : World} {D : Nat} {x : Sl} {N : Nat} {V : List Rat} (d : Dat u w) (hg : GrN u x N V 1) (ho : Nt.GrOK V N) (hD : D + 2 ≤ N) : Calls Tryz.prog 13 #[x.v, .int .i64 (D : Int)] w (Post u w fun v u' => ∃ (y : Sl) (r : RL) (b : Nat) (l : List Nat), v = .tuple #[.agg #[.slice y.a y.n y.c, .bool r.s, .slice r.m.a r.m.n r.m.c, .slice r.d.a r.d.n r.d.c, .slice (some ⟨b, 0, none⟩) (D + 2) (D + 2)], .int .i64 0] ∧ PolN u' y (Nt.pL V l) 60000 ∧ RatN u' r (Nt.absQ (Nt.eL V l)) 1400000 ∧ SlR .i64 u' (some ⟨b, 0, none⟩) (D + 2) (D + 2) (Nt.inl l) ∧ Nt.Bst (Nt.gX V) (Nt.gW V) (Nt.gY V) N (D + 1) (Nt.pL V l) l) := by
 have hxn : x.n = N := hg.len
 have hN12 := ho.n12
 have hN1 := ho.n1
 have hwr : Nt.wrE N (D : Int) = 0 := by unfold Nt.wrE; rw [if_neg xq, if_neg xq]
 refine zzm (args := [x.v, .int .i64 D]) Tryz.func13 rfl Tryz.ntmps13 (rs := [.cell 4 34, .tmp 5]) Tryz.results13 (le_b rfl) (le_b rfl) d ?_
 refine sq9 (zzk 4 ⟨34, [.slice none 0 0, .bool false, .slice none 0 0, .slice none 0 0, .slice none 0 0]⟩ (zza 5 (zI 0) (zzb (sw_scope2 (I := fun bb S' u' => ∃ (b : Nat) (l : List Nat), (bb = Nt.exN V N (D + 1) l) ∧ (Nt.Rf N l (D + 1)) ∧ (S' = St.of 64 [(0, .v (x.v)), (4, .adr 4 0), (7, .v (.slice (some ⟨b, 0, none⟩) (D + 2) (D + 2)))] [(4, ⟨34, [.slice none 0 0, .bool false, .slice none 0 0, .slice none 0 0, .slice none 0 0]⟩)]) ∧ (Ext u u') ∧ (MutQ 1 3 u.heap.size u' (⟨some ⟨b, 0, none⟩, D + 2, D + 2⟩ : Sl) (ics (Nt.inl l)))) (fun m S u1 u2 e h => by obtain ⟨b, l, hm, p0, hS, hE, f0⟩ := h; exact ⟨b, l, hm, p0, hS, hE.trans e, f0.ext e⟩) xj ?_ ?_))))
 ·skip
  refine sq9 (zza 14 (.v (x.v)) (zza 15 (zI D) (zzg 16 59 _ fun _ _ aP bA => Post.mono (k_exWrong (D := (D : Int)) bA (hg.ext aP) ho) ?_)))
  rintro _ u13 bf rfl
  refine zza 6 (zI (Nt.wrE N (D : Int))) (zzb (sq9 (zza 17 (zI (Nt.wrE N (D : Int))) (zza 18 (zB ((Nt.wrE N (D : Int)) != 0)) (zzb (zzu (b := (Nt.wrE N (D : Int)) != 0) xj (fun hb => ?_) (fun hb => ?_)))))))
  ·exact absurd hb (by rw [show ((Nt.wrE N (D : Int)) != 0) = false from (by rw [hwr]; rfl)]; decide)
  clear hb
  refine zzs (zzp ?_)
  refine zzf (zza 21 (.v (x.v)) (zza 22 (zI x.n) (zza 23 (zI D) (zyq 24 (x := zI (IntKind.i64.wrap ((D : Int) + 2))) (zI (D + 2 : Nat)) (eqI xz) (zzg 25 60 _ fun _ _ a8 bv => Post.mono (k_spread (N := x.n) (k := D + 2) bv xq xq xq) ?_)))))
  rintro _ u18 bm ⟨aY, bz, rfl, aS, a5, aD⟩
  refine zza 7 (.v (.slice (some ⟨aY, 0, none⟩) (D + 2) (D + 2))) (zzx ?_)
  exact mpi_into (T := St.of 64 [(0, .v (.slice x.a x.n x.c)), (4, .adr 4 0), (7, .v (.slice (some ⟨aY, 0, none⟩) (D + 2) (D + 2)))] [(4, ⟨34, [.slice none 0 0, .bool false, .slice none 0 0, .slice none 0 0, .slice none 0 0]⟩)]) yk ⟨aY, bz, rfl, (by have h9 := aD; rw [hxn] at h9; exact h9), rfl, (aP.t (bf.t (a8.t bm.ext))), (MutQ.lit a5 (by rw [zwi, Nt.inl_len, Nt.Rf.len aD]; omega) yv (Nat.le_trans (Ext.size (aP.t (bf.t a8))) aS) nu_ics)⟩
 rintro bb _ u11 ⟨b, l, bq, hR, rfl, ax, hm⟩
 have hlk : l.length = D + 2 := by have h9 := hR.len; omega
 have hpl9 := Nt.lvl_len (V := V) hR
 refine sq9 (zza 27 (.v (x.v)) (zza 28 (.v (.slice (some ⟨b, 0, none⟩) (D + 2) (D + 2))) (zzg 29 61 _ fun _ _ ap bD => Post.mono (k_levelled (z := (⟨some ⟨b, 0, none⟩, D + 2, D + 2⟩ : Sl)) (n := (D + 1)) bD (hg.ext (ax.trans ap)) ho (MutQ.slr (hm.ext ap)) hR xq) ?_)))
 rintro _ u23 ar ⟨am, aA, rfl, av, aH⟩
 have hly22 := av.len
 have hlly22 := Nt.lvl_len (V := V) hR
 refine zza 26 (.v (.tuple #[am.v, aA.v])) (zza 30 (.v (am.v)) (zza 31 (.v (aA.v)) (zzk 9 ⟨32, zw3⟩ (zza 8 (.v (am.v)) (zzj ⟨32, aA.cs⟩ ty32 ?_)))))
 refine zzb (sq9 (zza 32 (.v (x.v)) (zza 33 (.v (am.v)) (zzg 34 62 _ fun _ _ aj bk => Post.mono (k_errorsOf (M := 1400000) bk (hg.ext (ax.t (ap.t (ar.t aj)))) ho (av.ext aj).raw xq xq yq) ?_))))
 rintro _ u29 ao ⟨au, rfl, ak⟩
 refine zza 10 (.v (au.v)) (zzb (sq9 (zza 36 (.v (au.v)) (zzg 37 63 _ fun _ _ ae bn => Post.mono (k_greatest (n := N) bn (ak.ext ae) Nt.erL_len xq xq xq) ?_))))
 rintro _ u34 ag ⟨aE, aa, rfl, aG, aK⟩
 have hgl33 := Nt.Gst.lt aK
 refine zza 35 (.v (.tuple #[aE.v, .int .i64 aa])) (zza 38 (.v (aE.v)) (zza 39 (zI aa) (zzk 11 ⟨32, zw3⟩ (zzj ⟨32, aE.cs⟩ ty32 ?_))))
 refine zza 12 (zI aa) (zzb (zzd (zzd (zzz [0, 0, 2, 7, 15] [(0, []), (1, []), (2, []), (3, []), (4, [])] xj xj (zzi 40 (.v (aE.v)) ty32 zze (zzi 41 (.v (aA.v)) ty32 zze (zzg 42 65 _ fun _ _ ad bB => Post.mono (k_ratAbs bB (aH.ext (aj.t (ao.t (ae.t (ag.t ad))))).raw xq) ?_)))))))
 rintro _ u40 af ⟨r38, rfl, bo⟩
 refine zzg 43 64 _ fun _ _ ac bs => Post.mono (k_exCompare bs (aG.ext (ad.t (af.t ac))) (RatN.toP (bo.ext ac)) xq xq) ?_
 rintro _ u44 ah rfl
 refine zza 44 (zB (decide ((0 : Int) < (Nt.cmpQ (Nt.absQ ((Nt.erL V (Nt.pL V l) N).getD aa 0)) (Nt.absQ (Nt.eL V l)))))) (zzb (zzu (b := decide ((0 : Int) < (Nt.cmpQ (Nt.absQ ((Nt.erL V (Nt.pL V l) N).getD aa 0)) (Nt.absQ (Nt.eL V l))))) xj (fun ai => ?_) (fun ai => ?_)))
 ·have qhb47 := of_decide_eq_true ai
  refine sq9 (zzi 45 (.v (aA.v)) ty32 zze (zzg 46 66 _ fun _ _ al bt => Post.mono (k_ratSign bt (aH.ext (aj.t (ao.t (ae.t (ag.t (ad.t (af.t (ac.t (ah.t al))))))))).raw) ?_))
  rintro _ u49 an rfl
  refine zza 13 (zI (Nt.sgQ (Nt.eL V l))) (zzc 64 [(0, .v (x.v)), (4, .adr 4 0), (7, .v (.slice (some ⟨b, 0, none⟩) (D + 2) (D + 2))), (10, .v (au.v)), (12, zI aa), (13, zI (Nt.sgQ (Nt.eL V l)))] [(4, ⟨34, [.slice none 0 0, .bool false, .slice none 0 0, .slice none 0 0, .slice none 0 0]⟩)] (zzd (sq9 (zza 47 (zI (Nt.sgQ (Nt.eL V l))) (zza 48 (zB ((Nt.sgQ (Nt.eL V l)) == 0)) (zzb (zzu (b := (Nt.sgQ (Nt.eL V l)) == 0) xj (fun aw => ?_) (fun aw => ?_))))))))
  ·refine zzf (zza 13 (zI 1) (zzb (sq9 (zza 49 (.v (.slice (some ⟨b, 0, none⟩) (D + 2) (D + 2))) (zza 50 (zI aa) (zza 51 (.v (au.v)) (zza 52 (zI aa) ?_)))))))
   have hl53 := PolP.len (ak.ext (ae.t (ag.t (ad.t (af.t (ac.t (ah.t (al.t an.ext))))))))
   rw [Nt.erL_len] at hl53
   obtain ⟨bu, b53, a9, aZ, aR, aL⟩ := polp_at (ak.ext (ae.t (ag.t (ad.t (af.t (ac.t (ah.t (al.t an.ext)))))))) (i := aa) (by rw [Nt.erL_len]; omega)
   rw [Nt.erL_at xq] at aL
   refine zya 53 (a9 + aa * 3) (n := au.n) (off := a9) (sz := 3) (i := (aa : Int)) xq aZ xq xq sl26 (zym 54 bu.cs aR ty32 (zzg 55 66 _ fun _ _ aM bj => Post.mono (k_ratSign bj ((RatP.raw aL).ext aM)) ?_))
   rintro _ u55 aO rfl
   refine zza 56 (zI 1) (zza 57 (zB ((Nt.sgQ (Nt.gE (Nt.gX V) (Nt.gW V) (Nt.gY V) (Nt.pL V l) aa)) == 1)) ?_)
   have hA58 := (hm).ext (ap.t (ar.t (aj.t (ao.t (ae.t (ag.t (ad.t (af.t (ac.t (ah.t (al.t (an.t (aM.t aO.ext)))))))))))))
   refine zwk (mqB (⟨some ⟨b, 0, none⟩, (D + 2), (D + 2)⟩ : Sl) []) 58 67 [.slice (some ⟨b, 0, none⟩) (D + 2) (D + 2), .int .i64 aa, .bool ((Nt.sgQ (Nt.gE (Nt.gX V) (Nt.gW V) (Nt.gY V) (Nt.pL V l) aa)) == 1)] (MutQ.mayF hA58 (Ext.size (Ext.refl _))) (fun w58 u58 a7 bl => k_exchange (v0 := u) (like := (Nt.sgQ (Nt.gE (Nt.gX V) (Nt.gW V) (Nt.gY V) (Nt.pL V l) aa)) == 1) bl (Ext.t (ax.t (ap.t (ar.t (aj.t (ao.t (ae.t (ag.t (ad.t (af.t (ac.t (ah.t (al.t (an.t (aM.t aO.ext)))))))))))))) a7) (hA58.ext a7) hlk xq xq xq) (fun v58 bx a1 aT => ?_)
   obtain ⟨rfl, ay, bg, aJ, aI, aQ⟩ := aT
   have eR58 := ExtF.rootL a1 hA58 (ax.t (ap.t (ar.t (aj.t (ao.t (ae.t (ag.t (ad.t (af.t (ac.t (ah.t (al.t (an.t (aM.t aO.ext))))))))))))))
   refine zzb ?_
   have hcc := Nt.cmpg_y _ _ ai
   rw [Nt.erL_at xq] at hcc
   have hds := Nt.design_step (a := aa) (pl := ay) (like := (Nt.sgQ (Nt.gE (Nt.gX V) (Nt.gW V) (Nt.gY V) (Nt.pL V l) aa)) == 1) ho hR xq xq hcc xq aJ (fun h9 => aI xq) (by unfold Nt.fst1; rw [if_pos (by simpa using aw)])
   have hds2 := hds.2
   refine sw_goto (mpg_seq (mpg_jump (m := _) (T := St.of 64 [(0, .v (x.v)), (4, .adr 4 0), (7, .v (.slice (some ⟨b, 0, none⟩) (D + 2) (D + 2)))] [(4, ⟨34, [.slice none 0 0, .bool false, .slice none 0 0, .slice none 0 0, .slice none 0 0]⟩)]) ?_ yk ⟨b, (Nt.exL l aa ((Nt.sgQ (Nt.gE (Nt.gX V) (Nt.gW V) (Nt.gY V) (Nt.pL V l) aa)) == 1) ay), rfl, hds.1, rfl, eR58, aQ⟩))
   omega
  refine zzs (zzp ?_)
  refine sq9 (zza 49 (.v (.slice (some ⟨b, 0, none⟩) (D + 2) (D + 2))) (zza 50 (zI aa) (zza 51 (.v (au.v)) (zza 52 (zI aa) ?_))))
  have hl59 := PolP.len (ak.ext (ae.t (ag.t (ad.t (af.t (ac.t (ah.t (al.t an.ext))))))))
  rw [Nt.erL_len] at hl59
  obtain ⟨bw, b59, ba, a3, aV, aB⟩ := polp_at (ak.ext (ae.t (ag.t (ad.t (af.t (ac.t (ah.t (al.t an.ext)))))))) (i := aa) (by rw [Nt.erL_len]; omega)
  rw [Nt.erL_at xq] at aB
  refine zya 53 (ba + aa * 3) (n := au.n) (off := ba) (sz := 3) (i := (aa : Int)) xq a3 xq xq sl26 (zym 54 bw.cs aV ty32 (zzg 55 66 _ fun _ _ aN br => Post.mono (k_ratSign br ((RatP.raw aB).ext aN)) ?_))
  rintro _ u61 a4 rfl
  refine zza 56 (zI (Nt.sgQ (Nt.eL V l))) (zza 57 (zB ((Nt.sgQ (Nt.gE (Nt.gX V) (Nt.gW V) (Nt.gY V) (Nt.pL V l) aa)) == (Nt.sgQ (Nt.eL V l)))) ?_)
  have hA64 := (hm).ext (ap.t (ar.t (aj.t (ao.t (ae.t (ag.t (ad.t (af.t (ac.t (ah.t (al.t (an.t (aN.t a4.ext)))))))))))))
  refine zwk (mqB (⟨some ⟨b, 0, none⟩, (D + 2), (D + 2)⟩ : Sl) []) 58 67 [.slice (some ⟨b, 0, none⟩) (D + 2) (D + 2), .int .i64 aa, .bool ((Nt.sgQ (Nt.gE (Nt.gX V) (Nt.gW V) (Nt.gY V) (Nt.pL V l) aa)) == (Nt.sgQ (Nt.eL V l)))] (MutQ.mayF hA64 (Ext.size (Ext.refl _))) (fun w64 u64 bc bi => k_exchange (v0 := u) (like := (Nt.sgQ (Nt.gE (Nt.gX V) (Nt.gW V) (Nt.gY V) (Nt.pL V l) aa)) == (Nt.sgQ (Nt.eL V l))) bi (Ext.t (ax.t (ap.t (ar.t (aj.t (ao.t (ae.t (ag.t (ad.t (af.t (ac.t (ah.t (al.t (an.t (aN.t a4.ext)))))))))))))) bc) (hA64.ext bc) hlk xq xq xq) (fun v64 bp aW aU => ?_)
  obtain ⟨rfl, az, be, aF, aC, aX⟩ := aU
  have eR64 := ExtF.rootL aW hA64 (ax.t (ap.t (ar.t (aj.t (ao.t (ae.t (ag.t (ad.t (af.t (ac.t (ah.t (al.t (an.t (aN.t a4.ext))))))))))))))
  refine zzb ?_
  have hcc := Nt.cmpg_y _ _ ai
  rw [Nt.erL_at xq] at hcc
  have hds := Nt.design_step (a := aa) (pl := az) (like := (Nt.sgQ (Nt.gE (Nt.gX V) (Nt.gW V) (Nt.gY V) (Nt.pL V l) aa)) == (Nt.sgQ (Nt.eL V l))) ho hR xq xq hcc xq aF (fun h9 => aC xq) (by unfold Nt.fst1; rw [if_neg (by simpa using aw)])
  have hds2 := hds.2
  refine sw_goto (mpg_seq (mpg_jump (m := _) (T := St.of 64 [(0, .v (x.v)), (4, .adr 4 0), (7, .v (.slice (some ⟨b, 0, none⟩) (D + 2) (D + 2)))] [(4, ⟨34, [.slice none 0 0, .bool false, .slice none 0 0, .slice none 0 0, .slice none 0 0]⟩)]) ?_ yk ⟨b, (Nt.exL l aa ((Nt.sgQ (Nt.gE (Nt.gX V) (Nt.gW V) (Nt.gY V) (Nt.pL V l) aa)) == (Nt.sgQ (Nt.eL V l))) az), rfl, hds.1, rfl, eR64, aX⟩))
  omega
 have qhb47 := of_decide_eq_false ai
 refine zzs (zzp ?_)
 refine sq9 (zza 59 (.v (am.v)) (zzi 60 (.v (aE.v)) ty32 zze (zzg 61 68 _ fun _ _ a2 bh => Post.mono (k_ratTrim bh ((RatP.raw aG).ext (ad.t (af.t (ac.t (ah.t a2))))) xq) ?_)))
 rintro _ u68 bd ⟨aq, rfl, bC⟩
 refine zza 62 (.v (.slice (some ⟨b, 0, none⟩) (D + 2) (D + 2))) (zza 63 (.v (.agg #[am.v, .bool aq.s, aq.m.v, aq.d.v, .slice (some ⟨b, 0, none⟩) (D + 2) (D + 2)])) (zzj ⟨34, [am.v] ++ aq.cs ++ [.slice (some ⟨b, 0, none⟩) (D + 2) (D + 2)]⟩ ty34 ?_))
 refine zza 5 (zI 0) (zzc 64 [(4, .adr 4 0), (5, zI 0)] [(4, ⟨34, [am.v] ++ aq.cs ++ [.slice (some ⟨b, 0, none⟩) (D + 2) (D + 2)]⟩)] (zzo (mpr_jump (ret0 [.agg #[am.v, .bool aq.s, aq.m.v, aq.d.v, .slice (some ⟨b, 0, none⟩) (D + 2) (D + 2)], .int .i64 0] ⟨zzr ty34 zze, zzq, trivial⟩ fun u71 a6 => ?_))))
 have hde := Nt.design_end ho hR xq aK (by have h9 := Nt.cmpg_n _ _ ai; rw [Nt.erL_at xq] at h9; exact h9)
 have h8 := (bC.ext a6)
 rw [Nt.erL_at xq, hde.2] at h8
 exact ⟨am, aq, b, l, rfl, (av.ext (aj.t (ao.t (ae.t (ag.t (ad.t (af.t (ac.t (ah.t (a2.t (bd.t a6))))))))))), h8, MutQ.slr (hm.ext (ap.t (ar.t (aj.t (ao.t (ae.t (ag.t (ad.t (af.t (ac.t (ah.t (a2.t (bd.t a6))))))))))))), hde.1⟩
theorem k_exDesignE {u w : World} {D : Int} {x : Sl} {N : Nat} {V : List Rat} (d : Dat u w) (hg : GrN u x N V 1) (ho : Nt.GrOK V N) (hwr : Nt.wrE N D ≠ 0) : Calls Tryz.prog 13 #[x.v, .int .i64 D] w (Post u w fun v u' => v = .tuple #[.agg #[.slice none 0 0, .bool false, .slice none 0 0, .slice none 0 0, .slice none 0 0], .int .i64 (Nt.wrE N D)]) := by
 have hxn : x.n = N := hg.len
 have hN12 := ho.n12
 have hN1 := ho.n1
 refine zzm (args := [x.v, .int .i64 D]) Tryz.func13 rfl Tryz.ntmps13 (rs := [.cell 4 34, .tmp 5]) Tryz.results13 (le_b rfl) (le_b rfl) d ?_
 refine sq9 (zzk 4 ⟨34, [.slice none 0 0, .bool false, .slice none 0 0, .slice none 0 0, .slice none 0 0]⟩ (zza 5 (zI 0) (zzb (sw_scope2 (I := fun _ _ _ => False) (fun m S u1 u2 e h => h) xj ?_ ?_))))
 ·skip
  refine sq9 (zza 14 (.v (x.v)) (zza 15 (zI D) (zzg 16 59 _ fun _ _ ac aa => Post.mono (k_exWrong (D := D) aa (hg.ext ac) ho) ?_)))
  rintro _ u12 g13 rfl
  refine zza 6 (zI (Nt.wrE N D)) (zzb (sq9 (zza 17 (zI (Nt.wrE N D)) (zza 18 (zB ((Nt.wrE N D) != 0)) (zzb (zzu (b := (Nt.wrE N D) != 0) xj (fun hb => ?_) (fun hb => ?_)))))))
  ·clear hb
   refine sq9 (zza 19 (.v (.agg #[.slice none 0 0, .bool false, .slice none 0 0, .slice none 0 0, .slice none 0 0])) (zza 20 (zI (Nt.wrE N D)) (zzj ⟨34, [.slice none 0 0, .bool false, .slice none 0 0, .slice none 0 0, .slice none 0 0]⟩ ty34 ?_)))
   refine zza 5 (zI (Nt.wrE N D)) (zzb (zzo (zzw (mpr_into (ret0 [.agg #[.slice none 0 0, .bool false, .slice none 0 0, .slice none 0 0, .slice none 0 0], .int .i64 (Nt.wrE N D)] ⟨zzr ty34 zze, zzq, trivial⟩ fun u15 e16 => ?_)))))
   rfl
  exact absurd hb (by rw [show ((Nt.wrE N D) != 0) = true from (by simpa using hwr)]; decide)
 intro n S u h; exact h.elim
namespace Nt
def ChkOK (V : List Rat) (N D : Nat) (p : List Rat) (e : Rat) (L : List Int) : Prop := ∃ (l : List Nat) (a : Nat), L = inl l ∧ Rf N l (D + 1) ∧ (trimQ p).length ≤ D + 1 ∧ Gst (erL V p N) N a ∧ absQ (gE (gX V) (gW V) (gY V) p a) = e ∧ absQ (gE (gX V) (gW V) (gY V) p (l.getD 0 0)) = absQ (gE (gX V) (gW V) (gY V) p a) ∧ ∀ i, i < D + 2 → gE (gX V) (gW V) (gY V) p (l.getD i 0) = sg1 i * gE (gX V) (gW V) (gY V) p (l.getD 0 0)
section
variable {V : List Rat} {N D a i : Nat} {p : List Rat} {e : Rat} {L : List Int} {l : List Nat}
theorem chk_1 (h : ¬ (trimQ p).length ≤ D + 1) : ¬ ChkOK V N D p e L := fun ⟨_, _, _, _, h1, _⟩ => h h1
theorem chk_2 (h : ¬ L.length = D + 2) : ¬ ChkOK V N D p e L := fun ⟨l, _, h1, h2, _⟩ => h (by rw [h1, inl_len, h2.len])
theorem chk_3 (h : ¬ Up N L) : ¬ ChkOK V N D p e L := fun ⟨l, _, h1, h2, _⟩ => h (by rw [h1]; exact h2.up)
theorem chk_4 (hG : Gst (erL V p N) N a) (h : ¬ absQ (gE (gX V) (gW V) (gY V) p a) = e) : ¬ ChkOK V N D p e L := fun ⟨l, b, _, _, _, h4, h5, _⟩ => h (by rw [hG.uniq h4 (fun _ _ => rfl)]; exact h5)
theorem chk_5 (hG : Gst (erL V p N) N a) (hl : L = inl l) (h : ¬ absQ (gE (gX V) (gW V) (gY V) p (l.getD 0 0)) = absQ (gE (gX V) (gW V) (gY V) p a)) : ¬ ChkOK V N D p e L := fun ⟨m, b, h1, _, _, h4, _, h6, _⟩ => h (by
 have e1 : l = m := inl_inj (hl.symm.trans h1)
 subst e1
 rw [hG.uniq h4 (fun _ _ => rfl)]; exact h6)
theorem chk_6 (hl : L = inl l) (hi : i < D + 2) (h : ¬ gE (gX V) (gW V) (gY V) p (l.getD i 0) = sg1 i * gE (gX V) (gW V) (gY V) p (l.getD 0 0)) : ¬ ChkOK V N D p e L := fun ⟨m, b, h1, _, _, _, _, _, h7⟩ => h (by
 have e1 : l = m := inl_inj (hl.symm.trans h1)
 subst e1
 exact h7 i hi)
theorem sg1_n (i : Nat) (x : Rat) : -(sg1 i * x) = sg1 (i + 1) * x := by rw [sg1_s]; grind
theorem cmp_z {x y : Rat} (h : (cmpQ x y != (0 : Int)) = false) : x = y := by
 have h1 : (cmpQ x y == (0 : Int)) = true := by simpa using h
 rw [cmpQ_eq] at h1; exact of_decide_eq_true h1
theorem cmp_nz {x y : Rat} (h : (cmpQ x y != (0 : Int)) = true) : ¬ x = y := fun e => by
 have h1 : (cmpQ x y == (0 : Int)) = true := by rw [cmpQ_eq]; exact decide_eq_true e
 simp only [bne, h1] at h; cases h
end
end Nt
set_option maxHeartbeats 8000000 in
theorem k_exCheck {u w : World} {D : Nat} {y z : Sl} {r : RL} {p : List Rat} {e : Rat} {L : List Int} {K Ke M : Nat} {x : Sl} {N : Nat} {V : List Rat} (d : Dat u w) (hg : GrN u x N V 1) (ho : Nt.GrOK V N) (hy : PolV u y p K) (hr : RatV u r e Ke) (hz : SlR .i64 u z.a z.n z.c L) (hb : ∀ x ∈ L, -9223372036854775808 ≤ x ∧ x ≤ 9223372036854775807) (hl : p.length ≤ 60) (hB : 2 * (p.length * (K + 1) + 2) + K + 2 * p.length + 11 ≤ M) (hM : M ≤ 20000000) (hKe : Ke ≤ 20000000) (hD : D + 2 ≤ N) : Calls Tryz.prog 17 #[x.v, .int .i64 (D : Int), .agg #[.slice y.a y.n y.c, .bool r.s, .slice r.m.a r.m.n r.m.c, .slice r.d.a r.d.n r.d.c, .slice z.a z.n z.c]] w (Post u w fun v _ => (v = .int .i64 0 ∧ Nt.ChkOK V N D p e L) ∨ (v = .int .i64 22 ∧ ¬ Nt.ChkOK V N D p e L)) := by
 have hxn : x.n = N := hg.len
 have hN12 := ho.n12
 have hN1 := ho.n1
 have hyl := hy.len
 have htl := Nt.zzh p
 have hzn : L.length = z.n := hz.1
 have hzm : z.n ≤ maxLen := Nat.le_trans hz.2.1 hz.2.2.1
 unfold maxLen at hzm
 have hwr : Nt.wrE N (D : Int) = 0 := by unfold Nt.wrE; rw [if_neg xq, if_neg xq]
 refine zzm (args := [x.v, .int .i64 D, .agg #[y.v, .bool r.s, r.m.v, r.d.v, z.v]]) Tryz.func17 rfl Tryz.ntmps17 (rs := [.tmp 6]) Tryz.results17 (le_b rfl) (le_b rfl) d ?_
 refine sq9 (zzk 5 ⟨34, [y.v] ++ r.cs ++ [z.v]⟩ (zza 6 (zI 0) (zzb (zzd (sq9 (zza 14 (.v (x.v)) (zza 15 (zI D) (zzg 16 59 _ fun _ _ ag bh => Post.mono (k_exWrong (D := (D : Int)) bh (hg.ext ag) ho) ?_))))))))
 rintro _ u12 ai rfl
 refine zza 7 (zI (Nt.wrE N (D : Int))) (zzb (sq9 (zza 17 (zI (Nt.wrE N (D : Int))) (zza 18 (zB ((Nt.wrE N (D : Int)) != 0)) (zzb (zzu (b := (Nt.wrE N (D : Int)) != 0) xj (fun hb => ?_) (fun hb => ?_)))))))
 ·exact absurd hb (by rw [show ((Nt.wrE N (D : Int)) != 0) = false from (by rw [hwr]; rfl)]; decide)
 clear hb
 refine zzs (zzp ?_)
 refine zzd (sq9 (zza 20 (.adr 5 0) (zzi 21 (.v (y.v)) ty27 zzl (zzg 22 76 _ fun _ _ am bc => Post.mono (k_poDegree bc (hy.ext (ag.t (ai.t am))) xq xq) ?_))))
 rintro _ u16 ap rfl
 refine zza 23 (zI D) (zza 24 (zB (decide ((D : Int) < (((Nt.trimQ p).length : Int) - 1)))) (zzb (zzu (b := decide ((D : Int) < (((Nt.trimQ p).length : Int) - 1))) xj (fun ae => ?_) (fun ae => ?_))))
 ·have qhb19 := of_decide_eq_true ae
  refine sq9 (zza 6 (zI 22) (zzb (zzo (zzw (ret0 [.int .i64 22] ⟨zzq, trivial⟩ fun u20 e21 => ?_)))))
  exact .inr ⟨rfl, (Nt.chk_1 (by have h9 := of_decide_eq_true ae; omega))⟩
 have qhb19 := of_decide_eq_false ae
 refine zzs (zzp ?_)
 refine zzd (sq9 (zza 25 (.adr 5 4) (zzi 26 (.v (z.v)) ty22 zzl (zza 27 (zI z.n) (zza 28 (zI D) (zyq 29 (x := zI (IntKind.i64.wrap ((D : Int) + 2))) (zI (D + 2 : Nat)) (eqI xz) (zza 30 (zB ((z.n : Int) != ((D + 2 : Nat) : Int))) ?_)))))))
 rcases Bool.eq_false_or_eq_true ((z.n : Int) != ((D + 2 : Nat) : Int)) with hs22 | hs22
 ·refine zyq 31 (x := zB ((z.n : Int) != ((D + 2 : Nat) : Int))) (zB true) (by rw [hs22]) (zzn 32 (uw 6 false true 31) (zzn 33 (uw 6 false true 31) (zzn 34 (uw 6 false true 31) (zzn 35 (uw 6 false true 31) (zzn 36 (uw 6 false true 31) (zzn 37 (uw 6 false true 31) (zza 38 (zB true) (zzb (zyr xj (sq9 (zza 6 (zI 22) ?_)))))))))))
  refine zzb (zzo (zzw (ret0 [.int .i64 22] ⟨zzq, trivial⟩ fun u23 e24 => ?_)))
  exact .inr ⟨rfl, (Nt.chk_2 (fun e9 => by have h9 := hs22; rw [bne_iff_ne] at h9; exact h9 xq))⟩
 refine zyq 31 (x := zB ((z.n : Int) != ((D + 2 : Nat) : Int))) (zB false) (by rw [hs22]) (zza 32 (.adr 5 4) ?_ (hw := w1 6 false 31))
 refine zzi 33 (.v (z.v)) ty22 zzl ?_ (hw := w1 6 false 31)
 refine zza 34 (.v (x.v)) ?_ (hw := w1 6 false 31)
 refine zza 35 (zI x.n) ?_ (hw := w1 6 false 31)
 refine zzg 36 77 _ (fun _ _ aq a9 => Post.mono (k_ascending (z := z) (N := (x.n : Int)) a9 (hz.ext (ag.t (ai.t (am.t (ap.t aq))))) hb) ?_) (hw := w1 6 false 31)
 rintro _ u28 av ⟨al, rfl, ad⟩
 refine zza 37 (zB (!al)) ?_ (hw := w1 6 false 31)
 refine zza 38 (zB (!al)) (zzb (zzu (b := !al) xj (fun aC => ?_) (fun aC => ?_)))
 ·refine sq9 (zza 6 (zI 22) (zzb (zzo (zzw (ret0 [.int .i64 22] ⟨zzq, trivial⟩ fun u32 e33 => ?_)))))
  exact .inr ⟨rfl, (Nt.chk_3 (fun hu => by have h9 : al = false := (by simpa using aC); have h8 := ad.2 (by rw [hxn]; exact hu); rw [h9] at h8; exact absurd h8 yq))⟩
 refine zzs (zzp ?_)
 refine zzd ?_
 have hU : Nt.Up (N : Int) L := by rw [hxn] at ad; exact ad.1 (by simpa using aC)
 have hLn : L.length = D + 2 := by have h9 := hs22; simp only [bne_eq_false_iff_eq] at h9; omega
 have hdg : (Nt.trimQ p).length ≤ D + 1 := by have h9 := of_decide_eq_false ae; omega
 obtain ⟨l, hLl, hR⟩ := Nt.up_inl (n := D + 1) hU hLn
 have hzl := hz
 rw [hLl] at hzl
 have hlk : l.length = D + 2 := by have h9 := hR.len; omega
 have hlt : ∀ i, i < D + 2 → l.getD i 0 < N := fun i hi => hR.lt i xq
 have hlt0 := hlt 0 xq
 refine zzf (zza 39 (.v (x.v)) (zza 40 (.adr 5 0) (zzi 41 (.v (y.v)) ty27 zzl (zzg 42 62 _ fun _ _ ar bk => Post.mono (k_errorsOf (M := M) bk (hg.ext (ag.t (ai.t (am.t (ap.t (aq.t (av.t ar))))))) ho (hy.ext (ag.t (ai.t (am.t (ap.t (aq.t (av.t ar))))))) hl hB hM) ?_))))
 rintro _ u37 aG ⟨an, rfl, aa⟩
 refine zza 8 (.v (an.v)) (zzc 82 [(5, .adr 5 0), (8, .v (an.v))] [(5, ⟨34, [y.v] ++ r.cs ++ [z.v]⟩)] (sq9 (zza 44 (.v (an.v)) (zzg 45 63 _ fun _ _ af bi => Post.mono (k_greatest (n := N) bi (aa.ext af) Nt.erL_len xq xq xq) ?_))))
 rintro _ u42 ak ⟨aF, ao, rfl, aH, aj⟩
 have hgl41 := Nt.Gst.lt aj
 refine zza 43 (.v (.tuple #[aF.v, .int .i64 ao])) (zza 46 (.v (aF.v)) (zza 47 (zI ao) (zzk 9 ⟨32, zw3⟩ (zzj ⟨32, aF.cs⟩ ty32 ?_))))
 refine zza 10 (zI ao) (zzb (zzd (sq9 (zzi 48 (.v (aF.v)) ty32 zze (zza 49 (.adr 5 1) (zzi 50 (.v (r.v)) ty32 zze (zzg 51 78 _ fun _ _ ac bf => Post.mono (k_ratCompare bf ((RatP.raw aH).ext ac) (hr.ext (ag.t (ai.t (am.t (ap.t (aq.t (av.t (ar.t (aG.t (af.t (ak.t ac))))))))))) xq xq) ?_)))))))
 rintro _ u46 ah rfl
 refine zza 52 (zB ((Nt.cmpQ (Nt.absQ ((Nt.erL V p N).getD ao 0)) e) != 0)) (zzb (zzu (b := (Nt.cmpQ (Nt.absQ ((Nt.erL V p N).getD ao 0)) e) != 0) xj (fun ax => ?_) (fun ax => ?_)))
 ·refine sq9 (zza 6 (zI 22) (zzb (zzo (zzw (ret0 [.int .i64 22] ⟨zzq, trivial⟩ fun u50 e51 => ?_)))))
  exact .inr ⟨rfl, (Nt.chk_4 aj (by have h9 := Nt.cmp_nz ax; rw [Nt.erL_at xq] at h9; exact h9))⟩
 refine zzs (zzp ?_)
 refine sq9 (zza 53 (.v (an.v)) (zza 54 (.adr 5 4) (zzi 55 (.v (z.v)) ty22 zzl ?_)))
 have aO : (Nt.inl l).length = z.n := ((hzl.ext (ag.t (ai.t (am.t (ap.t (aq.t (av.t (ar.t (aG.t (af.t (ak.t (ac.t ah.ext))))))))))))).1
 rw [Nt.inl_len] at aO
 obtain ⟨b52, a1, aV, aE⟩ := ints_at (hzl.ext (ag.t (ai.t (am.t (ap.t (aq.t (av.t (ar.t (aG.t (af.t (ak.t (ac.t ah.ext)))))))))))) (i := 0) (by have h9 : 0 < l.length := xq; omega)
 rw [Nt.inl_at] at aE
 refine zya 56 (a1 + 0 * 1) (n := z.n) (off := a1) (sz := 1) (i := 0) xq aV xq (by first | omega | (have h9 : 0 < l.length := xq; omega)) sl22 (zyl 57 (.int .i64 (((l.getD 0 0) : Nat) : Int)) aE ty3 ?_)
 have hl53 := PolP.len (aa.ext (af.t (ak.t (ac.t ah.ext))))
 rw [Nt.erL_len] at hl53
 obtain ⟨aI, b53, aZ, aT, aR, az⟩ := polp_at (aa.ext (af.t (ak.t (ac.t ah.ext)))) (i := (l.getD 0 0)) (by rw [Nt.erL_len]; omega)
 rw [Nt.erL_at xq] at az
 refine zya 58 (aZ + (l.getD 0 0) * 3) (n := an.n) (off := aZ) (sz := 3) (i := (((l.getD 0 0) : Nat) : Int)) xq aT xq xq sl26 (zym 59 aI.cs aR ty32 (zzk 11 ⟨32, zw3⟩ (zzj ⟨32, aI.cs⟩ ty32 ?_)))
 refine zzb (zzd (zzd (zzz [0, 1, 0, 7, 15] [(0, []), (2, []), (1, []), (3, []), (4, [])] xj xj (zzi 60 (.v (aI.v)) ty32 zze (zzi 62 (.v (aF.v)) ty32 zze (zzg 61 65 _ fun _ _ aw a6 => Post.mono (k_ratAbs a6 ((RatP.raw az).ext aw) xq) ?_))))))
 rintro _ u57 aD ⟨r55, rfl, be⟩
 refine zzg 63 78 _ fun _ _ aB bb => Post.mono (k_ratCompare bb (be.ext aB).raw ((RatP.raw aH).ext (ac.t (ah.t (aw.t (aD.t aB))))) xq xq) ?_
 rintro _ a8 aL rfl
 refine zza 64 (zB ((Nt.cmpQ (Nt.absQ (Nt.gE (Nt.gX V) (Nt.gW V) (Nt.gY V) p (l.getD 0 0))) (Nt.absQ ((Nt.erL V p N).getD ao 0))) != 0)) (zzb (zzu (b := (Nt.cmpQ (Nt.absQ (Nt.gE (Nt.gX V) (Nt.gW V) (Nt.gY V) p (l.getD 0 0))) (Nt.absQ ((Nt.erL V p N).getD ao 0))) != 0) xj (fun ay => ?_) (fun ay => ?_)))
 ·refine sq9 (zza 6 (zI 22) (zzb (zzo (zzw (ret0 [.int .i64 22] ⟨zzq, trivial⟩ fun u65 e66 => ?_)))))
  exact .inr ⟨rfl, (Nt.chk_5 aj hLl (by have h9 := Nt.cmp_nz ay; rw [Nt.erL_at xq] at h9; exact h9))⟩
 refine zzs (zzp ?_)
 refine zzd (sq9 (zza 65 (.adr 5 4) (zzi 66 (.v (z.v)) ty22 zzl (zza 67 (zI z.n) (zza 68 (zI 0) (zzc 82 [(8, .v (an.v)), (11, .adr 11 0), (66, .v (z.v)), (67, zI z.n), (68, zI 0)] [(11, ⟨32, aI.cs⟩)] (zzt (zyn (I := fun aW S' u' => ∃ (i : Nat) (rd : RL), (aW = D + 2 - i) ∧ (i ≤ D + 2) ∧ (∀ j, j < i → Nt.gE (Nt.gX V) (Nt.gW V) (Nt.gY V) p (l.getD j 0) = Nt.sg1 j * Nt.gE (Nt.gX V) (Nt.gW V) (Nt.gY V) p (l.getD 0 0)) ∧ (S' = St.of 82 [(8, .v (an.v)), (11, .adr 11 0), (66, .v (z.v)), (67, zI z.n), (68, zI i)] [(11, ⟨32, rd.cs⟩)]) ∧ (Ext a8 u') ∧ (RatV u' rd (Nt.sg1 i * Nt.gE (Nt.gX V) (Nt.gW V) (Nt.gY V) p (l.getD 0 0)) M)) (fun m S u1 u2 e h => by obtain ⟨i, rd, hm, p0, p1, hS, hE, f0⟩ := h; exact ⟨i, rd, hm, p0, p1, hS, hE.trans e, f0.ext e⟩) _ yk ⟨0, aI, rfl, by omega, (fun j hj => absurd hj (Nat.not_lt_zero j)), rfl, (Ext.refl _), (by rw [show Nt.sg1 0 = 1 from rfl, Rat.one_mul]; exact RatV.more ((RatP.raw az).ext (aw.t (aD.t (aB.t aL.ext)))) xq)⟩ ?_))))))))
 rintro aW _ u67 ⟨i, rd, ba, hi, hal, rfl, aJ, fd⟩
 refine sq9 (zza 69 (zB (decide ((i : Int) < (z.n : Int)))) (zzb (zzd (zzu (b := decide ((i : Int) < (z.n : Int))) xj (fun au => ?_) (fun au => ?_)))))
 ·have qhb68 := of_decide_eq_true au
  refine zzs (zzp ?_)
  refine zzd (zzt (zzd ?_))
  have hlti := hlt i xq
  refine zzf ?_
  have aS : (Nt.inl l).length = z.n := ((hzl.ext (ag.t (ai.t (am.t (ap.t (aq.t (av.t (ar.t (aG.t (af.t (ak.t (ac.t (ah.t (aw.t (aD.t (aB.t (aL.t aJ)))))))))))))))))).1
  rw [Nt.inl_len] at aS
  obtain ⟨b69, a3, aQ, aM⟩ := ints_at (hzl.ext (ag.t (ai.t (am.t (ap.t (aq.t (av.t (ar.t (aG.t (af.t (ak.t (ac.t (ah.t (aw.t (aD.t (aB.t (aL.t aJ))))))))))))))))) (i := i) (by have h9 : i < l.length := xq; omega)
  rw [Nt.inl_at] at aM
  refine zya 70 (a3 + i * 1) (n := z.n) (off := a3) (sz := 1) (i := (i : Int)) xq aQ xq (by first | omega | (have h9 : i < l.length := xq; omega)) sl22 (zyl 71 (.int .i64 (((l.getD i 0) : Nat) : Int)) aM ty3 (zza 13 (zI (((l.getD i 0) : Nat) : Int)) (zzb (zzd (zzd (zzz [0, 0, 3, 7, 0, 31, 63] [(0, []), (1, []), (2, []), (3, []), (4, []), (5, []), (6, [])] xj xj (zza 72 (.v (an.v)) (zza 73 (zI (((l.getD i 0) : Nat) : Int)) ?_))))))))
  have hl70 := PolP.len (aa.ext (af.t (ak.t (ac.t (ah.t (aw.t (aD.t (aB.t (aL.t aJ)))))))))
  rw [Nt.erL_len] at hl70
  obtain ⟨a5, b70, a2, aP, aU, aK⟩ := polp_at (aa.ext (af.t (ak.t (ac.t (ah.t (aw.t (aD.t (aB.t (aL.t aJ))))))))) (i := (l.getD i 0)) (by rw [Nt.erL_len]; omega)
  rw [Nt.erL_at xq] at aK
  refine zya 74 (a2 + (l.getD i 0) * 3) (n := an.n) (off := a2) (sz := 3) (i := (((l.getD i 0) : Nat) : Int)) xq aP xq xq sl26 (zym 75 a5.cs aU ty32 (zzi 76 (.v (rd.v)) ty32 zze (zzg 77 78 _ fun _ _ aN bd => Post.mono (k_ratCompare bd ((RatP.raw aK).ext aN) (fd.ext aN) xq xq) ?_)))
  rintro _ u72 aX rfl
  refine zza 78 (zB ((Nt.cmpQ (Nt.gE (Nt.gX V) (Nt.gW V) (Nt.gY V) p (l.getD i 0)) (Nt.sg1 i * Nt.gE (Nt.gX V) (Nt.gW V) (Nt.gY V) p (l.getD 0 0))) != 0)) (zzb (zzu (b := (Nt.cmpQ (Nt.gE (Nt.gX V) (Nt.gW V) (Nt.gY V) p (l.getD i 0)) (Nt.sg1 i * Nt.gE (Nt.gX V) (Nt.gW V) (Nt.gY V) p (l.getD 0 0))) != 0) xj (fun aA => ?_) (fun aA => ?_)))
  ·refine sq9 (zza 6 (zI 22) (zzb (zzo (zzw (zyu (zzw (zyt (zyu (zzw (ret0 [.int .i64 22] ⟨zzq, trivial⟩ fun u76 e77 => ?_))))))))))
   exact .inr ⟨rfl, (Nt.chk_6 hLl (i := i) xq (Nt.cmp_nz aA))⟩
  refine zzs (zzp ?_)
  refine zzf (zzi 79 (.v (rd.v)) ty32 zze (zzg 80 79 _ fun _ _ aY bj => Post.mono (k_ratNeg bj (fd.ext (aN.t (aX.t aY))) xq) ?_))
  rintro _ u81 a7 ⟨a4, rfl, bg⟩
  refine zzj ⟨32, a4.cs⟩ ty32 ?_
  refine zzx ?_
  refine zzp (zzf (zyq 81 (x := zI (IntKind.i64.wrap ((i : Int) + 1))) (zI (i + 1 : Nat)) (eqI xz) (zza 68 (zI (i + 1 : Nat)) (zzx ?_))))
  refine ⟨_, ?_, _, by exact zzv _ _ _, i + 1, a4, rfl, by omega, (fun j hj => by by_cases e9 : j = i; (rw [e9]; exact Nt.cmp_z aA); exact hal j xq), rfl, (aJ.t (aN.t (aX.t (aY.t a7.ext)))), (by rw [← Nt.sg1_n]; exact RatV.more (RatN.raw bg) xq)⟩
  omega
 have qhb68 := of_decide_eq_false au
 refine zyc (zzp (sq9 (zza 6 (zI 0) (zzb (zzo (ret0 [.int .i64 0] ⟨zzq, trivial⟩ fun u84 e85 => ?_))))))
 obtain rfl : i = D + 2 := by omega
 exact .inl ⟨rfl, l, ao, hLl, hR, hdg, aj, (by have h9 := Nt.cmp_z ax; rw [Nt.erL_at xq] at h9; exact h9), (by have h9 := Nt.cmp_z ay; rw [Nt.erL_at xq] at h9; exact h9), fun i hi => hal i hi⟩
namespace Nt
open Pol
section
variable {V : List Rat} {N n D : Nat} {p q : List Rat} {l m : List Nat}
theorem gst_ex (E : List Rat) : ∀ n, 1 ≤ n → ∃ a, Gst E n a
 | 0, h => absurd h xq
 | n + 1, _ => by
  by_cases h : n = 0
  ·subst h; exact ⟨0, gst_1 E⟩
  obtain ⟨a, ha⟩ := gst_ex E n xq
  by_cases c : ab (E.getD a 0) < ab (E.getD n 0)
  ·exact ⟨n, ha.up c⟩
  exact ⟨a, ha.keep c⟩
theorem bst_max (g : GrOK V N) (h : Bst (gX V) (gW V) (gY V) N n p l) {a : Nat} (hG : Gst (erL V p N) N a) : absQ (gE (gX V) (gW V) (gY V) p a) = absQ (eL V l) := by
 have h1 := h.max a hG.lt
 have h2 := h.at_ab g.gr 0 xq
 have h3 := hG.le (l.getD 0 0) (h.rf.lt 0 xq)
 rw [erL_at (h.rf.lt 0 xq), erL_at hG.lt] at h3
 rw [ab_eq, ab_eq]
 have e : eL V l = rE (gX V) (gW V) (gY V) l := rfl
 rw [e]; grind
theorem chk_bst (g : GrOK V N) (h : Bst (gX V) (gW V) (gY V) N (D + 1) p l) {e : Rat} (he : e = absQ (eL V l)) : ChkOK V N D p e (inl l) := by
 obtain ⟨a, ha⟩ := gst_ex (erL V p N) N g.n1
 refine ⟨l, a, rfl, h.rf, Nat.le_trans (zzh p) h.len, ha, by rw [he]; exact bst_max g h ha, ?_, fun i hi => ?_⟩
 ·rw [bst_max g h ha, ab_eq, ab_eq]; exact h.at_ab g.gr 0 xq
 rw [h.at g.gr i xq, h.at g.gr 0 xq]
 have : sg1 0 = 1 := rfl
 rw [this]; grind
theorem pL_trim (h : Rf N l n) (h1 : 1 ≤ n) : trimQ (pL V l) = pL V l := by rw [lvl_pL h]; exact trim_nwL h1
theorem bst_list (g : GrOK V N) (h : Bst (gX V) (gW V) (gY V) N n p l) (k : Bst (gX V) (gW V) (gY V) N n q m) (hp : trimQ p = p) (hq : trimQ q = q) : p = q := by
 rw [← hp, ← hq]; exact trim_ext (fun i => (h.same k g.gr).2 i)
theorem bst_err (g : GrOK V N) (h : Bst (gX V) (gW V) (gY V) N n p l) (k : Bst (gX V) (gW V) (gY V) N n q m) : absQ (eL V l) = absQ (eL V m) := (h.same k g.gr).1
end
def awV : List Rat := [((-1 : Int) : Rat), ((1 : Int) : Rat), ((1 : Int) : Rat), ((0 : Int) : Rat), ((0 : Int) : Rat), ((1 : Int) : Rat), ((1 : Int) : Rat), ((1 : Int) : Rat), ((1 : Int) : Rat)]
theorem awOK : GrOK awV 3 := by
 refine ⟨by decide, by decide, rfl, fun i hi => ?_, fun i hi => ?_, fun i hi => ⟨1, 1, ?_, by decide, by decide, by decide, by decide⟩, fun a b hab hb => ?_⟩
 ·rcases (by omega : i = 0 ∨ i = 1 ∨ i = 2) with rfl | rfl | rfl
  ·exact ⟨-12, by decide +kernel, by decide, by decide⟩
  ·exact ⟨0, by decide +kernel, by decide, by decide⟩
  exact ⟨12, by decide +kernel, by decide, by decide⟩
 ·rcases (by omega : i = 0 ∨ i = 1 ∨ i = 2) with rfl | rfl | rfl
  ·exact ⟨840, by decide +kernel, by decide⟩
  ·exact ⟨0, by decide +kernel, by decide⟩
  exact ⟨840, by decide +kernel, by decide⟩
 ·rcases (by omega : i = 0 ∨ i = 1 ∨ i = 2) with rfl | rfl | rfl <;> decide +kernel
 rcases (by omega : a = 0 ∧ b = 1 ∨ a = 0 ∧ b = 2 ∨ a = 1 ∧ b = 2) with ⟨rfl, rfl⟩ | ⟨rfl, rfl⟩ | ⟨rfl, rfl⟩ <;> decide +kernel
theorem awRf : Rf 3 [0, 1, 2] 2 := ⟨rfl, fun i j hij hj => by
 rcases (by omega : i = 0 ∧ j = 1 ∨ i = 0 ∧ j = 2 ∨ i = 1 ∧ j = 2) with ⟨rfl, rfl⟩ | ⟨rfl, rfl⟩ | ⟨rfl, rfl⟩ <;> decide, fun i hi => by
 rcases (by omega : i = 0 ∨ i = 1 ∨ i = 2) with rfl | rfl | rfl <;> decide⟩
theorem aw_e : eL awV [0, 1, 2] = ((1 : Int) : Rat) / ((2 : Int) : Rat) := by decide +kernel
theorem aw_best : Bst (gX awV) (gW awV) (gY awV) 3 2 [((1 : Int) : Rat) / ((2 : Int) : Rat)] [0, 1, 2] := by
 refine ⟨awRf, by decide, fun a ha => ?_⟩
 rcases (by omega : a = 0 ∨ a = 1 ∨ a = 2) with rfl | rfl | rfl <;> decide +kernel
theorem aw_lev : Bst (gX awV) (gW awV) (gY awV) 3 2 (pL awV [0, 1, 2]) [0, 1, 2] := by
 refine ⟨awRf, lvl_len awRf, fun a ha => ?_⟩
 have h9 : a = [0, 1, 2].getD a 0 := by rcases (by omega : a = 0 ∨ a = 1 ∨ a = 2) with rfl | rfl | rfl <;> rfl
 rw [h9, lvl_at awOK awRf yq xq, ab_sg]
 exact Rat.le_refl
theorem aw_half : trimQ [((1 : Int) : Rat) / ((2 : Int) : Rat)] = [((1 : Int) : Rat) / ((2 : Int) : Rat)] := by decide +kernel
theorem aw_p {l : List Nat} (h : Bst (gX awV) (gW awV) (gY awV) 3 2 (pL awV l) l) : pL awV l = [((1 : Int) : Rat) / ((2 : Int) : Rat)] := bst_list awOK h aw_best (pL_trim h.rf yq) aw_half
theorem aw_x {l : List Nat} (h : Bst (gX awV) (gW awV) (gY awV) 3 2 (pL awV l) l) : absQ (eL awV l) = ((1 : Int) : Rat) / ((2 : Int) : Rat) := by
 rw [bst_err awOK h aw_best, aw_e]; decide +kernel
end Nt
theorem k_exCheckB {u w : World} {D : Nat} {y z : Sl} {r : RL} {p : List Rat} {e : Rat} {l : List Nat} {K Ke M : Nat} {x : Sl} {N : Nat} {V : List Rat} (d : Dat u w) (hg : GrN u x N V 1) (ho : Nt.GrOK V N) (hy : PolV u y p K) (hr : RatV u r e Ke) (hz : SlR .i64 u z.a z.n z.c (Nt.inl l)) (hl : p.length ≤ 60) (hB : 2 * (p.length * (K + 1) + 2) + K + 2 * p.length + 11 ≤ M) (hM : M ≤ 20000000) (hKe : Ke ≤ 20000000) (hD : D + 2 ≤ N) (hb : Nt.Bst (Nt.gX V) (Nt.gW V) (Nt.gY V) N (D + 1) p l) (he : e = Nt.absQ (Nt.eL V l)) : Calls Tryz.prog 17 #[x.v, .int .i64 (D : Int), .agg #[.slice y.a y.n y.c, .bool r.s, .slice r.m.a r.m.n r.m.c, .slice r.d.a r.d.n r.d.c, .slice z.a z.n z.c]] w (Post u w fun v _ => v = .int .i64 0) :=
 Post.mono (k_exCheck d hg ho hy hr hz (Nt.inl_bd hb.rf.mem (by have := ho.n12; omega)) hl hB hM hKe hD) fun v u' _ h => h.elim (fun h => h.1) (fun h => absurd (Nt.chk_bst ho hb he) h.2)
theorem wf_u8f {z : Int} (h : (Lit.int .u8 z).wf = true) : 0 ≤ z ∧ z ≤ 255 := by
 simp [Lit.wf, IntKind.min, IntKind.max, IntKind.bits, IntKind.signed] at h
 omega
theorem Nt.rs_small {z : Int} (h : z.natAbs ≤ 1) : Nt.rs (z : Rat) ≤ 1 := Nt.rs_int (K := 1) (Nat.le_trans (Nt.dl_mono h) (Nat.le_of_eq Nt.dl_one)) (Nat.le_refl 1)
set_option maxHeartbeats 4000000 in
theorem k_awake15 {u w : World} (d : Dat u w) : Calls Tryz.prog 18 #[] w (Post u w fun v _ => v = .bool true) := by
 refine zzm (args := []) Tryz.func18 rfl Tryz.ntmps18 (rs := [.tmp 0]) Tryz.results18 (le_b rfl) (le_b rfl) d ?_
 refine sq9 (zza 0 (zB false) (zzb (sq9 (zzg 11 30 _ fun _ _ _ bs => Post.mono (k_rqOf bs (z := 1) xq xq) ?_))))
 rintro _ u14 g15 ⟨aa, rfl, aD⟩
 refine zzk 1 ⟨32, zw3⟩ (zzj ⟨32, aa.cs⟩ ty32 ?_)
 refine zzb (zzd (zzz [0, 0, 0, 7, 1, 17, 0, 113, 0, 0, 0, 1792, 4095, 8191] [(1, []), (2, []), (6, []), (8, []), (9, []), (10, []), (11, []), (0, []), (3, []), (4, []), (5, []), (7, []), (12, []), (13, [])] xj xj (zzi 13 (.v (aa.v)) ty32 zze (zzi 14 (.v (aa.v)) ty32 zze (zzi 18 (.v (aa.v)) ty32 zze (zzi 20 (.v (aa.v)) ty32 zze (zzi 21 (.v (aa.v)) ty32 zze (zzi 22 (.v (aa.v)) ty32 zze (zza 23 (.v (.agg #[.bool aa.s, aa.m.v, aa.d.v, .bool aa.s, aa.m.v, aa.d.v, .bool aa.s, aa.m.v, aa.d.v])) (zzg 12 30 _ fun _ _ aL bq => Post.mono (k_rqOf bq (z := (-1)) xq xq) ?_))))))))))
 rintro _ u20 aM ⟨aI, rfl, a5⟩
 refine zza 15 (.v (.agg #[.bool aI.s, aI.m.v, aI.d.v, .bool aa.s, aa.m.v, aa.d.v, .bool aa.s, aa.m.v, aa.d.v])) (zzg 16 30 _ fun _ _ aC bj => Post.mono (k_rqOf bj (z := 0) xq xq) ?_)
 rintro _ u26 az ⟨aG, rfl, ba⟩
 refine zzg 17 30 _ fun _ _ aq bl => Post.mono (k_rqOf bl (z := 0) xq xq) ?_
 rintro _ u32 av ⟨aF, rfl, bc⟩
 refine zza 19 (.v (.agg #[.bool aG.s, aG.m.v, aG.d.v, .bool aF.s, aF.m.v, aF.d.v, .bool aa.s, aa.m.v, aa.d.v])) (sy_lit 24 ⟨56, aI.cs ++ aa.cs ++ aa.cs ++ aG.cs ++ aF.cs ++ aa.cs ++ aa.cs ++ aa.cs ++ aa.cs⟩ 3 ?_)
 refine zza 2 (.slc 24 0 3 3) (zzb (zzd (zyp (r := 2) (t := 24) [2, 24] xw xj (by rfl) (by rfl) xj (fun aH a4 al a7 aW => ?_))))
 have hAw : RatsN a4 [aI, aa, aa, aG, aF, aa, aa, aa, aa] Nt.awV 1 := (RatsN.snoc (RatsN.snoc (RatsN.snoc (RatsN.snoc (RatsN.snoc (rats4 (RatN.fit (K := 2) (a5.ext (aC.t (az.t (aq.t (av.t al))))) (Nt.rs_small yq)) (RatN.fit (K := 2) (aD.ext (aL.t (aM.t (aC.t (az.t (aq.t (av.t al))))))) (Nt.rs_small yq)) (RatN.fit (K := 2) (aD.ext (aL.t (aM.t (aC.t (az.t (aq.t (av.t al))))))) (Nt.rs_small yq)) (RatN.fit (K := 2) (ba.ext (aq.t (av.t al))) (Nt.rs_small yq))) (RatN.fit (K := 2) (bc.ext al) (Nt.rs_small yq))) (RatN.fit (K := 2) (aD.ext (aL.t (aM.t (aC.t (az.t (aq.t (av.t al))))))) (Nt.rs_small yq))) (RatN.fit (K := 2) (aD.ext (aL.t (aM.t (aC.t (az.t (aq.t (av.t al))))))) (Nt.rs_small yq))) (RatN.fit (K := 2) (aD.ext (aL.t (aM.t (aC.t (az.t (aq.t (av.t al))))))) (Nt.rs_small yq))) (RatN.fit (K := 2) (aD.ext (aL.t (aM.t (aC.t (az.t (aq.t (av.t al))))))) (Nt.rs_small yq)))
 have hGw : GrN a4 ⟨some ⟨aH, 0, none⟩, 3, 3⟩ 3 Nt.awV 1 := gr_lit (L := [aI, aa, aa, aG, aF, aa, aa, aa, aa]) aW hAw rfl yq
 refine zzf (zza 26 (.v (.slice (some ⟨aH, 0, none⟩) 3 3)) (zzg 27 13 _ fun _ _ aR bt => Post.mono (k_exDesign (D := 1) bt (hGw.ext aR) Nt.awOK yq) ?_))
 rintro _ u42 a2 ⟨aB, ac, aA, aE, rfl, ax, aQ, a3, aj⟩
 have hly41 := ax.len
 have hlly41 := Nt.Bst.len aj
 refine zza 25 (.v (.tuple #[.agg #[aB.v, .bool ac.s, ac.m.v, ac.d.v, .slice (some ⟨aA, 0, none⟩) (1 + 2) (1 + 2)], .int .i64 0])) (zza 28 (.v (.agg #[aB.v, .bool ac.s, ac.m.v, ac.d.v, .slice (some ⟨aA, 0, none⟩) (1 + 2) (1 + 2)])) (zza 29 (zI 0) (zzk 3 ⟨34, [.slice none 0 0, .bool false, .slice none 0 0, .slice none 0 0, .slice none 0 0]⟩ (zzj ⟨34, [aB.v] ++ ac.cs ++ [.slice (some ⟨aA, 0, none⟩) (1 + 2) (1 + 2)]⟩ ty34 ?_))))
 refine zza 4 (zI 0) (zzb (sq9 (zza 31 (.v (.slice (some ⟨aH, 0, none⟩) 3 3)) (zxx 32 ⟨3, [.int .i64 0, .int .i64 1, .int .i64 2]⟩ 3 (fun aU a6 au bu => ?_)))))
 have aY : SlR .i64 a6 ((⟨some ⟨aU, 0, none⟩, 3, 3⟩ : Sl)).a ((⟨some ⟨aU, 0, none⟩, 3, 3⟩ : Sl)).n ((⟨some ⟨aU, 0, none⟩, 3, 3⟩ : Sl)).c (Nt.inl [0, 1, 2]) := ints_data bu rfl rfl (Nat.le_refl _) (by show 3 ≤ maxLen; unfold maxLen; omega)
 refine zzg 33 25 _ fun _ _ ai a8 => Post.mono (k_exLevelR (z := (⟨some ⟨aU, 0, none⟩, 3, 3⟩ : Sl)) (n := 2) a8 (hGw.ext (aR.t (a2.t (au.trans ai)))) Nt.awOK (aY.ext ai) Nt.awRf xq) ?_
 rintro _ u52 ay ⟨aN, aP, rfl, aO, aX⟩
 have hly51 := aO.len
 have hlly51 := Nt.lvl_len (V := Nt.awV) Nt.awRf
 refine zza 30 (.v (.tuple #[aN.v, aP.v, .int .i64 0])) (zza 34 (.v (aN.v)) (zza 35 (.v (aP.v)) (zza 36 (zI 0) (zzk 6 ⟨32, zw3⟩ (zza 5 (.v (aN.v)) (zzj ⟨32, aP.cs⟩ ty32 ?_))))))
 refine zza 7 (zI 0) (zzc 89 [(2, .v (.slice (some ⟨aH, 0, none⟩) 3 3)), (3, .adr 3 0), (4, zI 0), (5, .v (aN.v)), (6, .adr 6 0), (7, zI 0)] [(3, ⟨34, [aB.v] ++ ac.cs ++ [.slice (some ⟨aA, 0, none⟩) (1 + 2) (1 + 2)]⟩), (6, ⟨32, aP.cs⟩)] (sq9 (zza 38 (.v (.slice (some ⟨aH, 0, none⟩) 3 3)) (zzg 39 13 _ fun _ _ ak br => Post.mono (k_exDesignE (D := (2 : Nat)) br (hGw.ext (aR.t (a2.t (au.t (ai.t (ay.t ak)))))) Nt.awOK yq) ?_))))
 rintro _ u56 ar rfl
 refine zza 37 (.v (.tuple #[.agg #[.slice none 0 0, .bool false, .slice none 0 0, .slice none 0 0, .slice none 0 0], .int .i64 (Nt.wrE 3 2)])) (zza 40 (.v (.agg #[.slice none 0 0, .bool false, .slice none 0 0, .slice none 0 0, .slice none 0 0])) (zza 41 (zI (Nt.wrE 3 2)) (zzk 8 ⟨34, [.slice none 0 0, .bool false, .slice none 0 0, .slice none 0 0, .slice none 0 0]⟩ (zzj ⟨34, [.slice none 0 0, .bool false, .slice none 0 0, .slice none 0 0, .slice none 0 0]⟩ ty34 ?_))))
 refine zza 9 (zI (Nt.wrE 3 2)) (zzb (sq9 (zzg 42 23 _ fun _ _ ap bh => Post.mono (k_rqFrac bh (a := 1) (b := 2) xq xq xq xq) ?_)))
 rintro _ u62 an ⟨ah, rfl, aT⟩
 refine zzk 10 ⟨32, zw3⟩ (zzj ⟨32, ah.cs⟩ ty32 ?_)
 refine zzb (sq9 (zza 43 (zI 0) (zza 44 (zB true) (zza 45 (zB true) (zza 46 (zI 0) ?_ (hw := w1 2 true 45))))))
 refine zza 47 (zB true) ?_ (hw := w1 2 true 45)
 refine zza 48 (zB true) (zza 49 (zB true) (zza 50 (zI (Nt.wrE 3 2)) ?_ (hw := w1 6 true 49)))
 refine zza 51 (zB ((Nt.wrE 3 2) == 1)) ?_ (hw := w1 6 true 49)
 refine zza 52 (zB ((Nt.wrE 3 2) == 1)) (zyq 53 (x := zB ((Nt.wrE 3 2) == 1)) (zB true) (by rw [show ((Nt.wrE 3 2) == 1) = true from yq]) (zza 54 (.adr 3 0) ?_ (hw := w1 10 true 53)))
 refine zzi 55 (.v (aB.v)) ty27 zzl ?_ (hw := w1 10 true 53)
 refine zzi 56 (.v (ah.v)) ty32 zze ?_ (hw := w1 10 true 53)
 refine zxx 57 ⟨32, ah.cs⟩ 1 (fun bv bd ae bk => ?_) (hw := w1 10 true 53)
 have a1 : PolN bd (⟨some ⟨bv, 0, none⟩, 1, 1⟩ : Sl) [(((1 : Int) : Rat) / ((2 : Int) : Rat))] 3 := pol_lit (L := [ah]) bk (rats1 (aT.ext ae)) rfl yq
 refine zzg 58 15 _ (fun _ _ ad bi => Post.mono (k_r5Equal bi (ax.ext (au.t (ai.t (ay.t (ak.t (ar.t (ap.t (an.t (ae.trans ad))))))))) (a1.ext ad) xk zv) ?_) (hw := w1 10 true 53)
 rintro _ u72 af rfl
 refine zza 59 (zB (decide ((Nt.pL Nt.awV aE) = [(((1 : Int) : Rat) / ((2 : Int) : Rat))]))) (zyq 60 (x := zB (decide ((Nt.pL Nt.awV aE) = [(((1 : Int) : Rat) / ((2 : Int) : Rat))]))) (zB true) (by rw [show (decide ((Nt.pL Nt.awV aE) = [(((1 : Int) : Rat) / ((2 : Int) : Rat))])) = true from (decide_eq_true (Nt.aw_p aj))]) (zza 61 (.adr 3 1) ?_ (hw := w1 17 true 60)))
 refine zzi 62 (.v (ac.v)) ty32 zze ?_ (hw := w1 17 true 60)
 refine zzi 63 (.v (ah.v)) ty32 zze ?_ (hw := w1 17 true 60)
 refine zzg 64 16 _ (fun _ _ ag bn => Post.mono (k_rqSame bn (aQ.ext (au.t (ai.t (ay.t (ak.t (ar.t (ap.t (an.t (ae.t (ad.t (af.t ag))))))))))) (aT.ext (ae.t (ad.t (af.t ag))))) ?_) (hw := w1 17 true 60)
 rintro _ u77 ao rfl
 refine zza 65 (zB (decide ((Nt.absQ (Nt.eL Nt.awV aE)) = (((1 : Int) : Rat) / ((2 : Int) : Rat))))) (zyq 66 (x := zB (decide ((Nt.absQ (Nt.eL Nt.awV aE)) = (((1 : Int) : Rat) / ((2 : Int) : Rat))))) (zB true) (by rw [show (decide ((Nt.absQ (Nt.eL Nt.awV aE)) = (((1 : Int) : Rat) / ((2 : Int) : Rat)))) = true from (decide_eq_true (Nt.aw_x aj))]) (zza 67 (.adr 3 4) ?_ (hw := w1 23 true 66)))
 refine zzi 68 (.v (.slice (some ⟨aA, 0, none⟩) (1 + 2) (1 + 2))) ty22 zzl ?_ (hw := w1 23 true 66)
 refine zza 69 (zI (1 + 2 : Nat)) ?_ (hw := w1 23 true 66)
 refine zza 70 (zB (((1 + 2 : Nat) : Int) == 3)) ?_ (hw := w1 23 true 66)
 refine zza 71 (zB (((1 + 2 : Nat) : Int) == 3)) (zyq 72 (x := zB (((1 + 2 : Nat) : Int) == 3)) (zB true) (by rw [show (((1 + 2 : Nat) : Int) == 3) = true from yq]) (zza 73 (.v (aN.v)) ?_ (hw := w1 29 true 72)))
 refine zzi 74 (.v (ah.v)) ty32 zze ?_ (hw := w1 29 true 72)
 refine zxx 75 ⟨32, ah.cs⟩ 1 (fun be bf am a9 => ?_) (hw := w1 29 true 72)
 have aZ : PolN bf (⟨some ⟨be, 0, none⟩, 1, 1⟩ : Sl) [(((1 : Int) : Rat) / ((2 : Int) : Rat))] 3 := pol_lit (L := [ah]) a9 (rats1 (aT.ext (ae.t (ad.t (af.t (ag.t (ao.t am))))))) rfl yq
 refine zzg 76 15 _ (fun _ _ aw bb => Post.mono (k_r5Equal bb (aO.ext (ak.t (ar.t (ap.t (an.t (ae.t (ad.t (af.t (ag.t (ao.t (am.trans aw))))))))))) (aZ.ext aw) xk zv) ?_) (hw := w1 29 true 72)
 rintro _ u88 aJ rfl
 refine zza 77 (zB (decide ((Nt.pL Nt.awV ([0, 1, 2])) = [(((1 : Int) : Rat) / ((2 : Int) : Rat))]))) (zyq 78 (x := zB (decide ((Nt.pL Nt.awV ([0, 1, 2])) = [(((1 : Int) : Rat) / ((2 : Int) : Rat))]))) (zB true) (by rw [show (decide ((Nt.pL Nt.awV ([0, 1, 2])) = [(((1 : Int) : Rat) / ((2 : Int) : Rat))])) = true from (decide_eq_true (Nt.aw_p Nt.aw_lev))]) (zzi 79 (.v (aP.v)) ty32 zze ?_ (hw := w1 35 true 78)))
 refine zzi 80 (.v (ah.v)) ty32 zze ?_ (hw := w1 35 true 78)
 refine zzg 81 16 _ (fun _ _ aK bo => Post.mono (k_rqSame bo (aX.ext (ak.t (ar.t (ap.t (an.t (ae.t (ad.t (af.t (ag.t (ao.t (am.t (aw.t (aJ.t aK))))))))))))) (aT.ext (ae.t (ad.t (af.t (ag.t (ao.t (am.t (aw.t (aJ.t aK)))))))))) ?_) (hw := w1 35 true 78)
 rintro _ u93 aV rfl
 refine zza 82 (zB (decide ((Nt.eL Nt.awV ([0, 1, 2])) = (((1 : Int) : Rat) / ((2 : Int) : Rat))))) (zyq 83 (x := zB (decide ((Nt.eL Nt.awV ([0, 1, 2])) = (((1 : Int) : Rat) / ((2 : Int) : Rat))))) (zB true) (by rw [show (decide ((Nt.eL Nt.awV ([0, 1, 2])) = (((1 : Int) : Rat) / ((2 : Int) : Rat)))) = true from (decide_eq_true Nt.aw_e)]) (zza 84 (.v (.slice (some ⟨aH, 0, none⟩) 3 3)) ?_ (hw := w1 40 true 83)))
 refine zzi 85 (.v (.agg #[aB.v, .bool ac.s, ac.m.v, ac.d.v, .slice (some ⟨aA, 0, none⟩) (1 + 2) (1 + 2)])) ty34 zze ?_ (hw := w1 40 true 83)
 refine zzg 86 17 _ (fun _ _ aS bp => Post.mono (k_exCheckB (D := 1) (y := aB) (z := (⟨some ⟨aA, 0, none⟩, 1 + 2, 1 + 2⟩ : Sl)) (r := ac) (M := 1400000) bp (hGw.ext (aR.t (a2.t (au.t (ai.t (ay.t (ak.t (ar.t (ap.t (an.t (ae.t (ad.t (af.t (ag.t (ao.t (am.t (aw.t (aJ.t (aK.t (aV.t aS)))))))))))))))))))) Nt.awOK (ax.ext (au.t (ai.t (ay.t (ak.t (ar.t (ap.t (an.t (ae.t (ad.t (af.t (ag.t (ao.t (am.t (aw.t (aJ.t (aK.t (aV.t aS)))))))))))))))))).raw (aQ.ext (au.t (ai.t (ay.t (ak.t (ar.t (ap.t (an.t (ae.t (ad.t (af.t (ag.t (ao.t (am.t (aw.t (aJ.t (aK.t (aV.t aS)))))))))))))))))).raw (a3.ext (au.t (ai.t (ay.t (ak.t (ar.t (ap.t (an.t (ae.t (ad.t (af.t (ag.t (ao.t (am.t (aw.t (aJ.t (aK.t (aV.t aS)))))))))))))))))) xq xq yq xq yq aj rfl) ?_) (hw := w1 40 true 83)
 rintro _ u98 g99 rfl
 refine zza 87 (zB true) ?_ (hw := w1 40 true 83)
 refine zza 88 (zB true) (zza 0 (zB true) (zzc 89 [(0, zB true)] [] (zzo (ret0 [.bool true] ⟨zzq, trivial⟩ fun bg bm => ?_))))
 rfl
set_option maxHeartbeats 2000000 in
theorem k_r5Eval {u w : World} {x : Sl} {l : List Rat} {r : RL} {q : Rat} {K M S : Nat} (d : Dat u w) (hx : PolV u x l K) (hr : RatV u r q M) (hS : K + M + 4 ≤ S) (hS9 : l.length * S ≤ 20000000) (hM : M ≤ 10000000) (hK : K ≤ 10000000) (hl9 : l.length ≤ 1000000) : Calls Tryz.prog 94 #[x.v, r.v] w (Post u w fun v u' => ∃ p : RL, v = p.v ∧ RatN u' p (Nt.Pol.evL l q) (l.length * S + 2)) := by
 have hlen := hx.len
 refine zzm (args := [x.v, r.v]) Tryz.func94 rfl Tryz.ntmps94 (rs := [.cell 4 32]) Tryz.results94 (le_b rfl) (le_b rfl) d ?_
 refine sq9 (zzk 3 ⟨32, r.cs⟩ (zzk 4 ⟨32, zw3⟩ (zzb (sq9 (zzg 7 30 _ fun _ _ ag aw => Post.mono (k_rqOf aw (z := 0) xq xq) ?_)))))
 rintro _ ar af ⟨al, rfl, aq⟩
 refine zzk 5 ⟨32, zw3⟩ (zzj ⟨32, al.cs⟩ ty32 ?_)
 refine zzb (zzd (sq9 (zza 8 (.v (x.v)) (zza 9 (zI x.n) (zyq 10 (x := zI (IntKind.i64.wrap ((x.n : Int) - 1))) (zI ((x.n : Int) - 1)) (eqI (by rw [IntWalk.i64_in _ xq]; try omega)) (zza 6 (zI ((x.n : Int) - 1)) (zzb (zzt (zyn (I := fun ao S' u' => ∃ (k : Nat) (ry : RL), (ao = k) ∧ (k ≤ l.length) ∧ (S' = St.of 24 [(0, .v (x.v)), (3, .adr 3 0), (4, .adr 4 0), (5, .adr 5 0), (6, zI ((k : Int) - 1))] [(3, ⟨32, r.cs⟩), (4, ⟨32, zw3⟩), (5, ⟨32, ry.cs⟩)]) ∧ (Ext ar u') ∧ (RatN u' ry (Nt.Pol.evL (l.drop k) q) ((l.length - k) * S + 2))) (fun m S u1 u2 e h => by obtain ⟨k, ry, hm, p0, hS, hE, f0⟩ := h; exact ⟨k, ry, hm, p0, hS, hE.trans e, f0.ext e⟩) _ yk ⟨x.n, al, rfl, by omega, rfl, (Ext.refl _), (by rw [Nt.ev_drop_all xq]; exact RatN.more (K := 2) aq xq)⟩ ?_)))))))))
 rintro ao _ u17 ⟨k, ry, au, hk, rfl, ad, hY⟩
 have hm1 : (l.length - k) * S ≤ l.length * S := Nat.mul_le_mul_right _ xq
 refine zzd (sq9 (zza 11 (zI ((k : Int) - 1)) (zza 12 (zB (decide ((0 : Int) ≤ ((k : Int) - 1)))) (zzb (zzu (b := decide ((0 : Int) ≤ ((k : Int) - 1))) xj (fun aa => ?_) (fun aa => ?_))))))
 ·have qhb18 := of_decide_eq_true aa
  refine zzs (zzp ?_)
  refine zzd (zzt (zzz [0, 0, 3, 0, 0, 24, 56, 127, 255] [(0, []), (1, []), (3, []), (4, []), (5, []), (6, []), (2, []), (7, []), (8, [])] xj xj (zzi 15 (.v (ry.v)) ty32 zze (zzi 16 (.v (r.v)) ty32 zze (zza 18 (.v (x.v)) (zyq 19 (x := zI ((k : Int) - 1)) (zI (k - 1 : Nat)) (eqI xq) ?_))))))
  have hl19 := (hx.ext (ag.t (af.t ad))).len
  obtain ⟨aC, b19, ak, ah, ae, ai⟩ := pol_at (hx.ext (ag.t (af.t ad))) (i := (k - 1)) xq
  refine zya 20 (ak + (k - 1) * 3) (n := x.n) (off := ak) (sz := 3) (i := ((k - 1 : Nat) : Int)) xq ah xq xq sl27 (zym 21 aC.cs ae ty32 (zzg 17 91 _ fun _ _ ac az => Post.mono (k_rqMul az (hY.ext ac).raw (hr.ext (ag.t (af.t (ad.trans ac)))) xq xq) ?_))
  rintro _ u23 an ⟨r21, rfl, ay⟩
  refine zzg 22 58 _ fun _ _ aj aB => Post.mono (k_rqAdd aB (ay.ext aj).raw (ai.ext (ac.t (an.t aj))) xq xq) ?_
  rintro _ u29 av ⟨am, rfl, aA⟩
  refine zzj ⟨32, am.cs⟩ ty32 ?_
  refine zzx ?_
  refine zzp (zzf (zza 13 (zI ((k : Int) - 1)) (zyq 14 (x := zI (IntKind.i64.wrap (((k : Int) - 1) - 1))) (zI (((k - 1 : Nat) : Int) - 1)) (eqI (by rw [IntWalk.i64_in _ xq]; try omega)) (zza 6 (zI (((k - 1 : Nat) : Int) - 1)) (zzx ?_)))))
  have hs1 : (l.length - (k - 1)) * S = (l.length - k) * S + S := by rw [show l.length - (k - 1) = (l.length - k) + 1 by omega, Nat.add_mul, Nat.one_mul]
  refine ⟨_, ?_, _, by exact zzv _ _ _, k - 1, am, rfl, by omega, rfl, (ad.t (ac.t (an.t (aj.t av.ext)))), (by rw [Nt.ev_drop1 xq xq]; exact RatN.more (K := ((((l.length - k) * S + 2) + M + 1) + K + 2)) aA xq)⟩
  omega
 have qhb18 := of_decide_eq_false aa
 refine zyc (zzp (sq9 (zzi 23 (.v (ry.v)) ty32 zze (zzj ⟨32, ry.cs⟩ ty32 ?_))))
 refine zzb (zzo (ret0 [ry.v] ⟨zzr ty32 zze, trivial⟩ fun u32 ax => ?_))
 have ap : k = 0 := by omega
 refine ⟨ry, rfl, RatN.more (K := ((l.length - k) * S + 2)) ?_ xq⟩
 have h9 := (hY.ext ax)
 rw [ap, Nt.ev_drop0] at h9
 rw [ap]
 exact h9
theorem k_r15At {u w : World} {r0 r1 r2 : RL} {x y g : Rat} {s : Sl} {p : List Rat} {K T : Nat} (d : Dat u w) (hr0 : RatN u r0 x 1) (hr1 : RatN u r1 y 1) (hr2 : RatN u r2 g 1) (hS : PolV u s p K) (hl : p.length ≤ 60) (hT : p.length * (K + 5) + 10 ≤ T) (hT9 : T ≤ 10000000) (hK : K ≤ 10000000) : Calls Tryz.prog 31 #[.agg #[.bool r0.s, .slice r0.m.a r0.m.n r0.m.c, .slice r0.d.a r0.d.n r0.d.c, .bool r1.s, .slice r1.m.a r1.m.n r1.m.c, .slice r1.d.a r1.d.n r1.d.c, .bool r2.s, .slice r2.m.a r2.m.n r2.m.c, .slice r2.d.a r2.d.n r2.d.c], s.v] w (Post u w fun v u' => ∃ r : RL, v = r.v ∧ RatN u' r (g * (y - Nt.Pol.evL p x)) T) := by
 refine zzm (args := [.agg #[.bool r0.s, r0.m.v, r0.d.v, .bool r1.s, r1.m.v, r1.d.v, .bool r2.s, r2.m.v, r2.d.v], s.v]) Tryz.func31 rfl Tryz.ntmps31 (rs := [.cell 4 32]) Tryz.results31 (le_b rfl) (le_b rfl) d ?_
 refine sq9 (zzk 2 ⟨56, r0.cs ++ r1.cs ++ r2.cs⟩ (zzk 4 ⟨32, zw3⟩ (zzb (zzd (zzz [0, 1, 0, 4, 0, 0, 32, 112, 252, 511, 1023] [(0, []), (1, []), (2, []), (3, []), (4, []), (5, []), (6, []), (7, []), (8, []), (9, []), (10, [])] xj xj (zza 5 (.adr 2 6) (zzi 6 (.v (r2.v)) ty32 zze (zza 7 (.adr 2 3) (zzi 8 (.v (r1.v)) ty32 zze (zza 9 (.v (s.v)) (zza 10 (.adr 2 0) ?_)))))))))))
 refine zzi 11 (.v (r0.v)) ty32 zze (zzg 12 94 _ fun _ _ aa am => Post.mono (k_r5Eval (S := K + 5) am (hS.ext aa) (hr0.ext aa).raw xq xq xq xq xq) ?_)
 rintro _ u14 ae ⟨r12, rfl, ag⟩
 refine zzg 13 93 _ fun _ _ ad aj => Post.mono (k_rqSub aj (hr1.ext (aa.t (ae.t ad))).raw (ag.ext ad).raw xq xq) ?_
 rintro _ u20 an ⟨r18, rfl, ah⟩
 refine zzg 14 91 _ fun _ _ af ak => Post.mono (k_rqMul ak (hr2.ext (aa.t (ae.t (ad.t (an.t af))))).raw (ah.ext af).raw xq xq) ?_
 rintro _ u26 g27 ⟨ac, rfl, al⟩
 refine zzj ⟨32, ac.cs⟩ ty32 ?_
 refine zzb (zzo (ret0 [ac.v] ⟨zzr ty32 zze, trivial⟩ fun u29 ai => ?_))
 exact ⟨ac, rfl, RatN.more (K := (1 + (1 + (p.length * (K + 5) + 2) + 2) + 1)) (al.ext ai) xq⟩
namespace Nt
structure VaI (N D i : Nat) (L : List Int) (a : Int) : Prop where
 len : L.length = i
 asc : ∀ p q, p < q → q < i → L.getD p 0 < L.getD q 0
 bd : ∀ p, p < i → 0 ≤ L.getD p 0 ∧ L.getD p 0 ≤ (N : Int) - (D + 2) + p
 last : a = -1 ∧ i = 0 ∨ 0 < i ∧ a = L.getD (i - 1) 0
theorem vaI_0 (N D : Nat) : VaI N D 0 [] (-1) := ⟨rfl, fun p q _ h => absurd h (Nat.not_lt_zero q), fun p h => absurd h (Nat.not_lt_zero p), .inl ⟨rfl, rfl⟩⟩
theorem VaI.a0 {N D i : Nat} {L : List Int} {a : Int} (h : VaI N D i L a) (hN : D + 2 ≤ N) (hi : i ≤ D + 2) : -1 ≤ a ∧ a ≤ (N : Int) := by
 rcases h.last with ⟨h1, h2⟩ | ⟨h1, h2⟩
 ·omega
 have := h.bd (i - 1) xq; rw [← h2] at this
 omega
theorem getD_app1 {L : List Int} {i p : Nat} {z : Int} (h : L.length = i) (hp : p ≤ i) : (L ++ [z]).getD p 0 = if p < i then L.getD p 0 else z := by
 rw [List.getD_eq_getElem?_getD]
 split
 ·rw [List.getElem?_append_left xq, ← List.getD_eq_getElem?_getD]
 rw [List.getElem?_append_right xq, show p - L.length = 0 by omega]; rfl
theorem VaI.step {N D i : Nat} {L : List Int} {a s : Int} (h : VaI N D i L a) (hi : i < D + 2) (hN : D + 2 ≤ N) (hs : 0 ≤ s) : VaI N D (i + 1) (L ++ [min (a + 1 + s) ((N : Int) - (D + 2 - i))]) (min (a + 1 + s) ((N : Int) - (D + 2 - i))) := by
 have hl := h.len
 have h0 : -1 ≤ a ∧ (0 < i → a ≤ (N : Int) - (D + 2) + (i - 1)) := by
  rcases h.last with ⟨h1, h2⟩ | ⟨h1, h2⟩
  ·omega
  have := h.bd (i - 1) xq; rw [← h2] at this; omega
 refine ⟨by rw [List.length_append, hl]; rfl, fun p q hpq hq => ?_, fun p hp => ?_, .inr ⟨by omega, ?_⟩⟩
 ·rw [getD_app1 hl xq, getD_app1 hl xq, if_pos xq]
  split
  ·exact h.asc p q hpq xq
  rcases h.last with ⟨h1, h2⟩ | ⟨h1, h2⟩
  ·omega
  have : L.getD p 0 ≤ a := by
   by_cases e : p = i - 1
   ·rw [e, h2]; omega
   have := h.asc p (i - 1) xq xq; omega
  have := h0.2 h1
  omega
 ·rw [getD_app1 hl xq]
  split
  ·exact h.bd p xq
  rcases h.last with ⟨h1, h2⟩ | ⟨h1, h2⟩
  ·omega
  have := h0.2 h1; omega
 rw [getD_app1 hl xq, if_neg xq]
theorem VaI.up {N D : Nat} {L : List Int} {a : Int} (h : VaI N D (D + 2) L a) (hN : D + 2 ≤ N) : Up N L := ⟨fun i hi => by have := h.bd i (by rw [← h.len]; exact hi); have := h.len; omega, fun i j hij hj => h.asc i j hij (by rw [← h.len]; exact hj)⟩
structure Alt (y : Nat → Rat) (i : Nat) (last : Int) (m : Rat) : Prop where
 z : i = 0 → last = 0
 s : 0 < i → last = sgQ (y (i - 1))
 alt : ∀ j, j + 1 < i → sgQ (y (j + 1)) = -sgQ (y j)
 ne : ∀ j, j < i → y j ≠ 0
 le : ∀ j, j < i → m ≤ ab (y j)
 b0 : -1 ≤ last
 b1 : last ≤ 1
theorem alt_0 (y : Nat → Rat) (m : Rat) : Alt y 0 0 m := ⟨fun _ => rfl, fun h => absurd h xq, fun j h => absurd h xq, fun j h => absurd h xq, fun j h => absurd h xq, by omega, by omega⟩
theorem sgQ_bd (x : Rat) : -1 ≤ sgQ x ∧ sgQ x ≤ 1 := by unfold sgQ cmpQ; split <;> (try split) <;> omega
theorem sgQ_ne {x : Rat} (h : ¬ sgQ x = 0) : x ≠ 0 := fun e => h (by rw [e]; exact sgQ_0)
theorem Alt.step {y : Nat → Rat} {i : Nat} {last : Int} {m m' : Rat} (h : Alt y i last m) (hn : ¬ sgQ (y i) = 0) (ha : last = 0 ∨ sgQ (y i) = -last) (h1 : m' ≤ m) (h2 : m' ≤ ab (y i)) : Alt y (i + 1) (sgQ (y i)) m' := by
 refine ⟨fun h => by omega, fun _ => rfl, fun j hj => ?_, fun j hj => ?_, fun j hj => ?_, (sgQ_bd _).1, (sgQ_bd _).2⟩
 ·by_cases e : j + 1 = i
  ·rw [e]
   have hs := h.s xq
   rw [show i - 1 = j by omega] at hs
   rcases ha with ha | ha
   ·have := h.ne j xq
    rw [ha] at hs
    by_cases c : y j < 0
    ·rw [sgQ_m c] at hs; omega
    rw [sgQ_1 (by grind)] at hs; omega
   rw [ha, hs]
  exact h.alt j xq
 ·by_cases e : j = i
  ·rw [e]; exact sgQ_ne hn
  exact h.ne j xq
 by_cases e : j = i
 ·rw [e]; exact h2
 have := h.le j xq; grind
theorem Alt.sign {y : Nat → Rat} {i : Nat} {last : Int} {m : Rat} (h : Alt y i last m) : ∀ j, j < i → (0 < y 0 → 0 < sg1 j * y j) ∧ (¬ 0 < y 0 → 0 < -(sg1 j * y j))
 | 0, hj => by
  have h0 := h.ne 0 hj
  have : sg1 0 = 1 := rfl
  rw [this]
  constructor <;> intro c <;> grind
 | j + 1, hj => by
  have ih := Alt.sign h j xq
  have h1 := h.alt j hj
  have h2 := h.ne (j + 1) hj
  have h3 := h.ne j xq
  have hsg : ∀ p q : Rat, p ≠ 0 → q ≠ 0 → sgQ p = -sgQ q → (0 < q → p < 0) ∧ (q < 0 → 0 < p) := fun p q hp hq e => by
   constructor <;> intro c
   ·rw [sgQ_1 c] at e
    by_cases c2 : p < 0
    ·exact c2
    rw [sgQ_1 (by grind)] at e; omega
   rw [sgQ_m c] at e
   by_cases c2 : p < 0
   ·rw [sgQ_m c2] at e; omega
   grind
  have h4 := hsg _ _ h2 h3 h1
  rw [sg1_s]
  have hq : sg1 j = 1 ∨ sg1 j = -1 := by unfold sg1; split <;> simp
  rcases hq with hq | hq <;> rw [hq] at ih ⊢ <;> constructor <;> intro c
  ·have := h4.1 (by have := ih.1 c; grind); grind
  ·have := h4.2 (by have := ih.2 c; grind); grind
  ·have := h4.2 (by have := ih.1 c; grind); grind
  have := h4.1 (by have := ih.2 c; grind); grind
section
variable {V : List Rat} {N n : Nat} {p q : List Rat} {l k : List Nat} {m : Rat} {last : Int}
theorem va_le (g : GrOK V N) (h : Bst (gX V) (gW V) (gY V) N n p l) (hk : Rf N k n) : absQ (eL V k) ≤ absQ (eL V l) := hk.max g.gr h.len (fun i hi => h.max _ (hk.lt i hi))
theorem va_least (g : GrOK V N) (h : Bst (gX V) (gW V) (gY V) N n p l) (hk : Rf N k n) (hq : q.length ≤ n) (ha : Alt (fun i => gE (gX V) (gW V) (gY V) q (k.getD i 0)) (n + 1) last m) : m ≤ absQ (eL V l) := by
 have h1 := va_le g h hk
 have hx := hk.ascX g.gr
 have hw : ∀ i, i ≤ n → 0 < ws V k i := fun i hi => g.gr.pos _ (hk.lt i hi)
 have hab : ∀ z : Rat, (0 < z → ab z = z) ∧ (0 < -z → ab z = -z) := fun z => by unfold ab; constructor <;> intro c <;> split <;> grind
 have h2 : m ≤ absQ (eL V k) := by
  rw [ab_eq, eL_n hk]
  by_cases c : 0 < gE (gX V) (gW V) (gY V) q (k.getD 0 0)
  ·have := vallee (x := xs V k) (w := ws V k) (y := ys V k) (δ := m) hx hw hq (fun i hi => by
    have h3 := (ha.sign i xq).1 c
    have h4 := ha.le i xq
    rw [← ab_sg i, (hab _).1 h3] at h4
    exact h4)
   have h5 : lvE (xs V k) (ws V k) (ys V k) n ≤ ab (lvE (xs V k) (ws V k) (ys V k) n) := by unfold ab; split <;> grind
   grind
  have := vallee' (x := xs V k) (w := ws V k) (y := ys V k) (δ := m) hx hw hq (fun i hi => by
   have h3 := (ha.sign i xq).2 c
   have h4 := ha.le i xq
   rw [← ab_sg i, (hab _).2 h3] at h4
   exact h4)
  have h5 : -lvE (xs V k) (ws V k) (ys V k) n ≤ ab (lvE (xs V k) (ws V k) (ys V k) n) := by unfold ab; split <;> grind
  grind
 grind
theorem lo_le1 (x y : Rat) : lo x y ≤ x ∧ lo x y ≤ y := by unfold lo; split <;> grind
end
end Nt
set_option maxHeartbeats 8000000 in
theorem w_exVallee {u w : World} {x1 x2 x3 : Sl} {l1 l2 l3 : List Int} {g8 : Int} (d : Dat u w) (hx1 : SlR .i64 u x1.a x1.n x1.c l1) (hb1 : ∀ z ∈ l1, -9223372036854775808 ≤ z ∧ z ≤ 9223372036854775807) (hx2 : SlR .i64 u x2.a x2.n x2.c l2) (hb2 : ∀ z ∈ l2, -9223372036854775808 ≤ z ∧ z ≤ 9223372036854775807) (hx3 : SlR .i64 u x3.a x3.n x3.c l3) (hb3 : ∀ z ∈ l3, -9223372036854775808 ≤ z ∧ z ≤ 9223372036854775807) (hwg8 : (Lit.int .u8 g8).wf = true) : Calls Tryz.prog 5 #[x1.v, x2.v, x3.v, .int .u8 g8] w (Post u w fun v _ => v = .bool true) := by
 obtain ⟨cf, dJ⟩ := wf_u8f hwg8
 have d7 : l2.length = x2.n := hx2.1
 refine zzm (args := [x1.v, x2.v, x3.v, .int .u8 g8]) Tryz.func5 rfl Tryz.ntmps5 (rs := [.tmp 8]) Tryz.results5 (le_b rfl) (le_b rfl) d ?_
 refine sq9 (zza 8 (zB false) (zzb (sq9 (zza 26 (.v (x1.v)) (zzg 27 11 _ fun _ _ bp d3 => Post.mono (k_grid d3 (hx1.ext bp) hb1) ?_)))))
 rintro _ u13 bP ⟨ac, N12, aa, rfl, ay, ae⟩
 have cW : ac.n = N12 := GrN.len ay
 have hlnN12 := ae.n12
 have hlmN12 := ae.n1
 refine zza 9 (.v (ac.v)) (zzb (sq9 (zza 28 (.v (.int .u8 g8)) (sy_conv 29 g8 (fun w => by kernel_rfl) (IntWalk.i64_in _ xq) ?_))))
 refine sy_rem 30 (g8 % 4) yq (Int.tmod_eq_emod_of_nonneg cf) ?_
 refine zza 10 (zI (g8 % 4)) (zzb (zzd (zzd ?_)))
 obtain ⟨D, hnD⟩ : ∃ n : Nat, g8 % 4 = (n : Int) := ⟨(g8 % 4).toNat, by omega⟩
 rw [hnD]
 have hbD : D ≤ 3 := by omega
 refine zzf (zza 31 (.v (ac.v)) (zza 32 (zI ac.n) (zza 33 (zI D) (zyq 34 (x := zI (IntKind.i64.wrap ((D : Int) + 2))) (zI (D + 2 : Nat)) (eqI xz) (zza 35 (zB (decide ((ac.n : Int) < ((D + 2 : Nat) : Int)))) (zzb (zzu (b := decide ((ac.n : Int) < ((D + 2 : Nat) : Int))) xj (fun bb => ?_) (fun bb => ?_))))))))
 ·have qhb16 := of_decide_eq_true bb
  refine sq9 (zzg 36 18 _ fun _ _ _ d0 => Post.mono (k_awake15 d0) ?_)
  rintro _ u18 g19 rfl
  refine zza 8 (zB true) (zzb (zzo (zzw (ret0 [.bool true] ⟨zzq, trivial⟩ fun u21 e22 => ?_))))
  rfl
 have qhb16 := of_decide_eq_false bb
 refine zzs (zzp ?_)
 refine sq9 (zza 38 (.v (ac.v)) (zza 39 (zI D) (zzg 40 13 _ fun _ _ aJ dF => Post.mono (k_exDesign (D := D) dF (ay.ext aJ) ae xq) ?_)))
 rintro _ cV aL ⟨ai, ag, ar, av, rfl, bB, bL, c0, bd⟩
 have hly24 := bB.len
 have hlly24 := Nt.Bst.len bd
 refine zza 37 (.v (.tuple #[.agg #[ai.v, .bool ag.s, ag.m.v, ag.d.v, .slice (some ⟨ar, 0, none⟩) (D + 2) (D + 2)], .int .i64 0])) (zza 41 (.v (.agg #[ai.v, .bool ag.s, ag.m.v, ag.d.v, .slice (some ⟨ar, 0, none⟩) (D + 2) (D + 2)])) (zza 42 (zI 0) (zzk 11 ⟨34, [.slice none 0 0, .bool false, .slice none 0 0, .slice none 0 0, .slice none 0 0]⟩ (zzj ⟨34, [ai.v] ++ ag.cs ++ [.slice (some ⟨ar, 0, none⟩) (D + 2) (D + 2)]⟩ ty34 ?_))))
 refine zza 12 (zI 0) (zzb (sq9 (zza 13 (.v (.slice none 0 0)) (zzb (sq9 (zza 14 (zI (-1)) (zzb (zzd (sq9 (zza 15 (zI 0) (zzb ?_)))))))))))
 refine zzt (zyn (I := fun cH S' u' => (cH = D + 2 ∧ S' = St.of 145 [(1, .v (x2.v)), (2, .v (x3.v)), (9, .v (ac.v)), (10, zI D), (11, .adr 11 0), (12, zI 0), (13, .v (.slice none 0 0)), (14, zI (-1)), (15, zI 0)] [(11, ⟨34, [ai.v] ++ ag.cs ++ [.slice (some ⟨ar, 0, none⟩) (D + 2) (D + 2)]⟩)] ∧ Ext cV u') ∨ (∃ (i : Nat) (a : Int) (L : List Int) (cs : List Value) (cp : Nat), cH = D + 2 - i ∧ i ≤ D + 2 ∧ 0 < i ∧ Nt.VaI N12 D i L a ∧ cs.take (i * 1) = L.map (Value.int .i64) ∧ cs.length = cp * 1 ∧ i ≤ cp ∧ cp ≤ maxLen ∧ S' = St.of 145 [(1, .v (x2.v)), (2, .v (x3.v)), (9, .v (ac.v)), (10, zI D), (11, .adr 11 0), (12, zI 0), (13, .slc 73 0 i cp), (14, zI a), (15, zI i)] [(11, ⟨34, [ai.v] ++ ag.cs ++ [.slice (some ⟨ar, 0, none⟩) (D + 2) (D + 2)]⟩), (73, ⟨3, cs⟩)] ∧ Ext cV u')) (fun m S u1 u2 e h => by rcases h with ⟨a1, a2, a3⟩ | ⟨i, a, L, cs, cp, a1, a2, a3, a4, a5, a6, a7, a8, a10, a11⟩; exact .inl ⟨a1, a2, a3.trans e⟩; exact .inr ⟨i, a, L, cs, cp, a1, a2, a3, a4, a5, a6, a7, a8, a10, a11.trans e⟩) _ yk (.inl ⟨rfl, rfl, (Ext.refl _)⟩) ?_)
 rintro cH _ u28 (⟨dZ, rfl, ak⟩ | ⟨i, a, L, cs, cp, dZ, hi9, hi0, hVa, bV, dh, cN, cw, rfl, ak⟩)
 ·change SW _ _ _ _ (St.of 145 [(1, .v (.slice x2.a x2.n x2.c)), (2, .v (.slice x3.a x3.n x3.c)), (9, .v (.slice ac.a ac.n ac.c)), (10, .v (.int .i64 (D : Int))), (11, .adr 11 0), (12, .v (.int .i64 0)), (13, .v (.slice none 0 0)), (14, .v (.int .i64 (-1))), (15, .v (.int .i64 0))] [(11, ⟨34, [.slice ai.a ai.n ai.c] ++ ag.cs ++ [.slice (some ⟨ar, 0, none⟩) (D + 2) (D + 2)]⟩)]) _ _
  refine zzd (sq9 (zza 43 (zI 0) (zza 44 (zI D) (zyq 45 (x := zI (IntKind.i64.wrap ((D : Int) + 2))) (zI (D + 2 : Nat)) (eqI xz) (zza 46 (zB (decide ((0 : Int) < ((D + 2 : Nat) : Int)))) (zzb (zzu (b := decide ((0 : Int) < ((D + 2 : Nat) : Int))) xj (fun bg => ?_) (fun bg => ?_))))))))
  ·have qhb29 := of_decide_eq_true bg
   refine zzs (zzp ?_)
   refine zzd (zzt (sq9 (zza 16 (zI 0) (zzb (zzd (sq9 (zza 49 (zI 0) (zza 50 (.v (x2.v)) (zza 51 (zI x2.n) (zza 52 (zB (decide ((0 : Int) < (x2.n : Int)))) (zzc 145 [(1, .v (x2.v)), (2, .v (x3.v)), (9, .v (ac.v)), (10, zI D), (11, .adr 11 0), (12, zI 0), (13, .v (.slice none 0 0)), (14, zI (-1)), (15, zI 0), (16, zI 0), (52, zB (decide ((0 : Int) < (x2.n : Int))))] [(11, ⟨34, [ai.v] ++ ag.cs ++ [.slice (some ⟨ar, 0, none⟩) (D + 2) (D + 2)]⟩)] ?_)))))))))))
   refine zzu (b := decide ((0 : Int) < (x2.n : Int))) xj (fun bo => ?_) (fun bo => ?_)
   ·have qhb30 := of_decide_eq_true bo
    refine zzf (zza 53 (.v (x2.v)) (zza 54 (zI 0) ?_))
    have hl31 := ((hx2.ext (bp.t (bP.t (aJ.t (aL.t ak)))))).1
    obtain ⟨b31, cS, cC, cx⟩ := ints_at (hx2.ext (bp.t (bP.t (aJ.t (aL.t ak))))) (i := 0) xq
    have hz31 := ints_bd hb2 xq 0
    refine zya 55 (cS + 0 * 1) (n := x2.n) (off := cS) (sz := 1) (i := 0) xq cC xq xq sl22 (zyl 56 (.int .i64 (l2.getD 0 0)) cx ty3 (zzg 57 12 _ fun _ _ dH dc => Post.mono (k_Mod dc (n := (l2.getD 0 0)) (m := 3) xq xq xq xq) ?_))
    rintro _ u33 de rfl
    refine zza 16 (zI ((l2.getD 0 0) % 3)) (zzb (sq9 (zza 58 (zI (-1)) (zyq 59 (x := zI (IntKind.i64.wrap (((-1) : Int) + 1))) (zI (((-1) : Int) + 1)) yw (zza 60 (zI ((l2.getD 0 0) % 3)) (zyq 61 (x := zI (IntKind.i64.wrap ((((-1) : Int) + 1) + ((l2.getD 0 0) % 3)))) (zI ((((-1) : Int) + 1) + ((l2.getD 0 0) % 3))) yw (zza 62 (.v (ac.v)) (zza 63 (zI ac.n) (zza 64 (zI D) (zyq 65 (x := zI (IntKind.i64.wrap ((D : Int) + 2))) (zI (D + 2 : Nat)) (eqI xz) (zza 66 (zI 0) ?_)))))))))))
    refine zyq 67 (x := zI (IntKind.i64.wrap (((D + 2 : Nat) : Int) - 0))) (zI (((D + 2) - 0 : Nat) : Int)) (eqI xz) (zyq 68 (x := zI (IntKind.i64.wrap ((ac.n : Int) - (((D + 2) - 0 : Nat) : Int)))) (zI ((ac.n - ((D + 2) - 0) : Nat) : Int)) (eqI xz) (sy_minN 69 (n := (((-1) : Int) + 1) + ((l2.getD 0 0) % 3)) (m := ((ac.n - ((D + 2) - 0) : Nat) : Int)) (v := min ((-1) + 1 + ((l2.getD 0 0) % 3)) ((N12 : Int) - (D + 2 - (0 : Nat)))) (by rw [Int.min_def]; split <;> split <;> omega) ?_))
    refine zza 14 (zI (min ((-1) + 1 + ((l2.getD 0 0) % 3)) ((N12 : Int) - (D + 2 - (0 : Nat))))) (zzb (zzf (zza 70 (.v (.slice none 0 0)) (zza 71 (zI (min ((-1) + 1 + ((l2.getD 0 0) % 3)) ((N12 : Int) - (D + 2 - (0 : Nat))))) (zxx 72 ⟨3, [.int .i64 (min ((-1) + 1 + ((l2.getD 0 0) % 3)) ((N12 : Int) - (D + 2 - (0 : Nat))))]⟩ 1 (fun ds u37 dU dj => ?_))))))
    refine sy_app0 73 (T := 22) (E := 3) (z := .int .i64 0) (size := 1) (bytes := 8) (b := ds) (off := 0) (m := 1) [.int .i64 (min ((-1) + 1 + ((l2.getD 0 0) % 3)) ((N12 : Int) - (D + 2 - (0 : Nat))))] xj xj xj yq rfl (lit_news ((Ext.refl _).cells dj)) (int_one _) yq yq yq ?_
    intro dR bJ cd b3 cg cD
    have bw : bJ.take (1 * 1) = ([min ((-1) + 1 + ((l2.getD 0 0) % 3)) ((N12 : Int) - (D + 2 - (0 : Nat)))]).map (Value.int .i64) := cD
    refine zza 13 (.slc 73 0 1 dR) (zzx ?_)
    refine zzp (zzf (zza 47 (zI 0) (zza 48 (zI 1) (zza 15 (zI 1) (zzx ?_)))))
    have hVn := Nt.VaI.step (s := ((l2.getD 0 0) % 3)) (Nt.vaI_0 N12 D) xq xq xq
    refine ⟨_, ?_, _, by exact zzv _ _ _, .inr ⟨0 + 1, min ((-1) + 1 + ((l2.getD 0 0) % 3)) ((N12 : Int) - (D + 2 - (0 : Nat))), [min ((-1) + 1 + ((l2.getD 0 0) % 3)) ((N12 : Int) - (D + 2 - (0 : Nat)))], bJ, _, rfl, by omega, by omega, (by exact hVn), bw, cg, cd, b3, rfl, (ak.t (dH.t (de.t dU)))⟩⟩
    omega
   have qhb30 := of_decide_eq_false bo
   refine zzs (zzp ?_)
   refine sq9 (zza 58 (zI (-1)) (zyq 59 (x := zI (IntKind.i64.wrap (((-1) : Int) + 1))) (zI (((-1) : Int) + 1)) yw (zza 60 (zI 0) (zyq 61 (x := zI (IntKind.i64.wrap ((((-1) : Int) + 1) + 0))) (zI ((((-1) : Int) + 1) + 0)) yw (zza 62 (.v (ac.v)) (zza 63 (zI ac.n) (zza 64 (zI D) (zyq 65 (x := zI (IntKind.i64.wrap ((D : Int) + 2))) (zI (D + 2 : Nat)) (eqI xz) (zza 66 (zI 0) (zyq 67 (x := zI (IntKind.i64.wrap (((D + 2 : Nat) : Int) - 0))) (zI (((D + 2) - 0 : Nat) : Int)) (eqI xz) (zyq 68 (x := zI (IntKind.i64.wrap ((ac.n : Int) - (((D + 2) - 0 : Nat) : Int)))) (zI ((ac.n - ((D + 2) - 0) : Nat) : Int)) (eqI xz) ?_)))))))))))
   refine sy_minN 69 (n := (((-1) : Int) + 1) + 0) (m := ((ac.n - ((D + 2) - 0) : Nat) : Int)) (v := min ((-1) + 1 + 0) ((N12 : Int) - (D + 2 - (0 : Nat)))) (by rw [Int.min_def]; split <;> split <;> omega) ?_
   refine zza 14 (zI (min ((-1) + 1 + 0) ((N12 : Int) - (D + 2 - (0 : Nat))))) (zzb (zzf (zza 70 (.v (.slice none 0 0)) (zza 71 (zI (min ((-1) + 1 + 0) ((N12 : Int) - (D + 2 - (0 : Nat))))) (zxx 72 ⟨3, [.int .i64 (min ((-1) + 1 + 0) ((N12 : Int) - (D + 2 - (0 : Nat))))]⟩ 1 (fun dw u42 dS dq => ?_))))))
   refine sy_app0 73 (T := 22) (E := 3) (z := .int .i64 0) (size := 1) (bytes := 8) (b := dw) (off := 0) (m := 1) [.int .i64 (min ((-1) + 1 + 0) ((N12 : Int) - (D + 2 - (0 : Nat))))] xj xj xj yq rfl (lit_news ((Ext.refl _).cells dq)) (int_one _) yq yq yq ?_
   intro c8 bQ cQ cI cK cl
   have bU : bQ.take (1 * 1) = ([min ((-1) + 1 + 0) ((N12 : Int) - (D + 2 - (0 : Nat)))]).map (Value.int .i64) := cl
   refine zza 13 (.slc 73 0 1 c8) (zzx ?_)
   refine zzp (zzf (zza 47 (zI 0) (zza 48 (zI 1) (zza 15 (zI 1) (zzx ?_)))))
   have hVn := Nt.VaI.step (s := 0) (Nt.vaI_0 N12 D) xq xq xq
   refine ⟨_, ?_, _, by exact zzv _ _ _, .inr ⟨0 + 1, min ((-1) + 1 + 0) ((N12 : Int) - (D + 2 - (0 : Nat))), [min ((-1) + 1 + 0) ((N12 : Int) - (D + 2 - (0 : Nat)))], bQ, _, rfl, by omega, by omega, (by exact hVn), bU, cK, cQ, cI, rfl, (ak.trans dS)⟩⟩
   omega
  have qhb29 := of_decide_eq_false bg
  refine zyc (zzp (zzd ?_))
  exfalso; omega
 change SW _ _ _ _ (St.of 145 [(1, .v (.slice x2.a x2.n x2.c)), (2, .v (.slice x3.a x3.n x3.c)), (9, .v (.slice ac.a ac.n ac.c)), (10, .v (.int .i64 (D : Int))), (11, .adr 11 0), (12, .v (.int .i64 0)), (13, .slc 73 0 i cp), (14, .v (.int .i64 a)), (15, .v (.int .i64 (i : Int)))] [(11, ⟨34, [.slice ai.a ai.n ai.c] ++ ag.cs ++ [.slice (some ⟨ar, 0, none⟩) (D + 2) (D + 2)]⟩), (73, ⟨3, cs⟩)]) _ _
 have hab := hVa.a0 xq xq
 refine zzd (sq9 (zza 43 (zI i) (zza 44 (zI D) (zyq 45 (x := zI (IntKind.i64.wrap ((D : Int) + 2))) (zI (D + 2 : Nat)) (eqI xz) (zza 46 (zB (decide ((i : Int) < ((D + 2 : Nat) : Int)))) (zzb (zzu (b := decide ((i : Int) < ((D + 2 : Nat) : Int))) xj (fun bk => ?_) (fun bk => ?_))))))))
 ·have qhb46 := of_decide_eq_true bk
  refine zzs (zzp ?_)
  refine zzd (zzt (sq9 (zza 16 (zI 0) (zzb (zzd (sq9 (zza 49 (zI i) (zza 50 (.v (x2.v)) (zza 51 (zI x2.n) (zza 52 (zB (decide ((i : Int) < (x2.n : Int)))) (zzc 145 [(1, .v (x2.v)), (2, .v (x3.v)), (9, .v (ac.v)), (10, zI D), (11, .adr 11 0), (12, zI 0), (13, .slc 73 0 i cp), (14, zI a), (15, zI i), (16, zI 0), (52, zB (decide ((i : Int) < (x2.n : Int))))] [(11, ⟨34, [ai.v] ++ ag.cs ++ [.slice (some ⟨ar, 0, none⟩) (D + 2) (D + 2)]⟩), (73, ⟨3, cs⟩)] ?_)))))))))))
  refine zzu (b := decide ((i : Int) < (x2.n : Int))) xj (fun bn => ?_) (fun bn => ?_)
  ·have qhb47 := of_decide_eq_true bn
   refine zzf (zza 53 (.v (x2.v)) (zza 54 (zI i) ?_))
   have hl48 := ((hx2.ext (bp.t (bP.t (aJ.t (aL.t ak)))))).1
   obtain ⟨b48, cT, bW, cz⟩ := ints_at (hx2.ext (bp.t (bP.t (aJ.t (aL.t ak))))) (i := i) xq
   have hz48 := ints_bd hb2 xq i
   refine zya 55 (cT + i * 1) (n := x2.n) (off := cT) (sz := 1) (i := (i : Int)) xq bW xq xq sl22 (zyl 56 (.int .i64 (l2.getD i 0)) cz ty3 (zzg 57 12 _ fun _ _ d9 dB => Post.mono (k_Mod dB (n := (l2.getD i 0)) (m := 3) xq xq xq xq) ?_))
   rintro _ u50 dK rfl
   refine zza 16 (zI ((l2.getD i 0) % 3)) (zzb (sq9 (zza 58 (zI a) (zyq 59 (x := zI (IntKind.i64.wrap (a + 1))) (zI (a + 1)) yw (zza 60 (zI ((l2.getD i 0) % 3)) (zyq 61 (x := zI (IntKind.i64.wrap ((a + 1) + ((l2.getD i 0) % 3)))) (zI ((a + 1) + ((l2.getD i 0) % 3))) yw (zza 62 (.v (ac.v)) (zza 63 (zI ac.n) (zza 64 (zI D) (zyq 65 (x := zI (IntKind.i64.wrap ((D : Int) + 2))) (zI (D + 2 : Nat)) (eqI xz) (zza 66 (zI i) ?_)))))))))))
   refine zyq 67 (x := zI (IntKind.i64.wrap (((D + 2 : Nat) : Int) - (i : Int)))) (zI (((D + 2) - i : Nat) : Int)) (eqI xz) (zyq 68 (x := zI (IntKind.i64.wrap ((ac.n : Int) - (((D + 2) - i : Nat) : Int)))) (zI ((ac.n - ((D + 2) - i) : Nat) : Int)) (eqI xz) (sy_minN 69 (n := (a + 1) + ((l2.getD i 0) % 3)) (m := ((ac.n - ((D + 2) - i) : Nat) : Int)) (v := min (a + 1 + ((l2.getD i 0) % 3)) ((N12 : Int) - (D + 2 - (i : Nat)))) (by rw [Int.min_def]; split <;> split <;> omega) ?_))
   refine zza 14 (zI (min (a + 1 + ((l2.getD i 0) % 3)) ((N12 : Int) - (D + 2 - (i : Nat))))) (zzb (zzf (zza 70 (.slc 73 0 i cp) (zza 71 (zI (min (a + 1 + ((l2.getD i 0) % 3)) ((N12 : Int) - (D + 2 - (i : Nat))))) (zxx 72 ⟨3, [.int .i64 (min (a + 1 + ((l2.getD i 0) % 3)) ((N12 : Int) - (D + 2 - (i : Nat))))]⟩ 1 (fun cZ u54 dI dM => ?_))))))
   refine sy_app1 73 (T := 22) (E := 3) (z := .int .i64 0) (size := 1) (bytes := 8) (b := cZ) (off := 0) (m := 1) (n := i) (cap := cp) (t := 73) (cs0 := cs) [13, 70, 73] [.int .i64 (min (a + 1 + ((l2.getD i 0) % 3)) ((N12 : Int) - (D + 2 - (i : Nat))))] xj xj xj yq rfl (lit_news ((Ext.refl _).cells dM)) (int_one _) yq yv xq xq xq xq xw ?_
   intro da bH bX b4 cJ cv
   have bC : bH.take ((i + 1) * 1) = (L ++ [min (a + 1 + ((l2.getD i 0) % 3)) ((N12 : Int) - (D + 2 - (i : Nat)))]).map (Value.int .i64) := by rw [cv, bV, List.map_append]; rfl
   refine zza 13 (.slc 73 0 (i + 1) da) (zzx ?_)
   refine zzp (zzf (zza 47 (zI i) (zyq 48 (x := zI (IntKind.i64.wrap ((i : Int) + 1))) (zI (i + 1 : Nat)) (eqI xz) (zza 15 (zI (i + 1 : Nat)) (zzx ?_)))))
   have hVn := Nt.VaI.step (s := ((l2.getD i 0) % 3)) hVa xq xq xq
   refine ⟨_, ?_, _, by exact zzv _ _ _, .inr ⟨i + 1, min (a + 1 + ((l2.getD i 0) % 3)) ((N12 : Int) - (D + 2 - (i : Nat))), L ++ [min (a + 1 + ((l2.getD i 0) % 3)) ((N12 : Int) - (D + 2 - (i : Nat)))], bH, _, rfl, by omega, by omega, (by exact hVn), bC, cJ, bX, b4, rfl, (ak.t (d9.t (dK.t dI)))⟩⟩
   omega
  have qhb47 := of_decide_eq_false bn
  refine zzs (zzp ?_)
  refine sq9 (zza 58 (zI a) (zyq 59 (x := zI (IntKind.i64.wrap (a + 1))) (zI (a + 1)) yw (zza 60 (zI 0) (zyq 61 (x := zI (IntKind.i64.wrap ((a + 1) + 0))) (zI ((a + 1) + 0)) yw (zza 62 (.v (ac.v)) (zza 63 (zI ac.n) (zza 64 (zI D) (zyq 65 (x := zI (IntKind.i64.wrap ((D : Int) + 2))) (zI (D + 2 : Nat)) (eqI xz) (zza 66 (zI i) (zyq 67 (x := zI (IntKind.i64.wrap (((D + 2 : Nat) : Int) - (i : Int)))) (zI (((D + 2) - i : Nat) : Int)) (eqI xz) (zyq 68 (x := zI (IntKind.i64.wrap ((ac.n : Int) - (((D + 2) - i : Nat) : Int)))) (zI ((ac.n - ((D + 2) - i) : Nat) : Int)) (eqI xz) ?_)))))))))))
  refine sy_minN 69 (n := (a + 1) + 0) (m := ((ac.n - ((D + 2) - i) : Nat) : Int)) (v := min (a + 1 + 0) ((N12 : Int) - (D + 2 - (i : Nat)))) (by rw [Int.min_def]; split <;> split <;> omega) ?_
  refine zza 14 (zI (min (a + 1 + 0) ((N12 : Int) - (D + 2 - (i : Nat))))) (zzb (zzf (zza 70 (.slc 73 0 i cp) (zza 71 (zI (min (a + 1 + 0) ((N12 : Int) - (D + 2 - (i : Nat))))) (zxx 72 ⟨3, [.int .i64 (min (a + 1 + 0) ((N12 : Int) - (D + 2 - (i : Nat))))]⟩ 1 (fun dW u59 d6 dG => ?_))))))
  refine sy_app1 73 (T := 22) (E := 3) (z := .int .i64 0) (size := 1) (bytes := 8) (b := dW) (off := 0) (m := 1) (n := i) (cap := cp) (t := 73) (cs0 := cs) [13, 70, 73] [.int .i64 (min (a + 1 + 0) ((N12 : Int) - (D + 2 - (i : Nat))))] xj xj xj yq rfl (lit_news ((Ext.refl _).cells dG)) (int_one _) yq yv xq xq xq xq xw ?_
  intro dD bF b2 cE b7 bY
  have bD : bF.take ((i + 1) * 1) = (L ++ [min (a + 1 + 0) ((N12 : Int) - (D + 2 - (i : Nat)))]).map (Value.int .i64) := by rw [bY, bV, List.map_append]; rfl
  refine zza 13 (.slc 73 0 (i + 1) dD) (zzx ?_)
  refine zzp (zzf (zza 47 (zI i) (zyq 48 (x := zI (IntKind.i64.wrap ((i : Int) + 1))) (zI (i + 1 : Nat)) (eqI xz) (zza 15 (zI (i + 1 : Nat)) (zzx ?_)))))
  have hVn := Nt.VaI.step (s := 0) hVa xq xq xq
  refine ⟨_, ?_, _, by exact zzv _ _ _, .inr ⟨i + 1, min (a + 1 + 0) ((N12 : Int) - (D + 2 - (i : Nat))), L ++ [min (a + 1 + 0) ((N12 : Int) - (D + 2 - (i : Nat)))], bF, _, rfl, by omega, by omega, (by exact hVn), bD, b7, b2, cE, rfl, (ak.trans d6)⟩⟩
  omega
 have qhb46 := of_decide_eq_false bk
 refine zyc (zzp (zzd (zyp (r := 13) (t := 73) [13, 73] xw xj (by rfl) (by rfl) xj (fun aX dn bf dk b5 => ?_))))
 obtain rfl : i = D + 2 := by omega
 obtain ⟨k, hLk, hRk⟩ := Nt.up_inl (n := D + 1) (hVa.up xq) hVa.len
 have aT : SlR .i64 dn (some ⟨aX, 0, none⟩) (D + 2) cp (Nt.inl k) := by rw [← hLk]; exact ints_data b5 (by have h9 := bV; rw [Nat.mul_one] at h9; exact h9) (by have h9 := dh; rw [Nat.mul_one] at h9; exact h9) cN cw
 have hkl : k.length = D + 2 := by have h9 := hRk.len; omega
 refine zzf (zza 75 (.v (ac.v)) (zza 76 (.v (.slice (some ⟨aX, 0, none⟩) (D + 2) cp)) (zzg 77 25 _ fun _ _ az d4 => Post.mono (k_exLevelR (z := (⟨some ⟨aX, 0, none⟩, D + 2, cp⟩ : Sl)) (n := (D + 1)) d4 (ay.ext (aJ.t (aL.t (ak.trans (bf.trans az))))) ae (aT.ext az) hRk xq) ?_)))
 rintro _ u71 aM ⟨cO, br, rfl, cm, cA⟩
 have hly70 := cm.len
 have hlly70 := Nt.lvl_len (V := aa) hRk
 refine zza 74 (.v (.tuple #[cO.v, br.v, .int .i64 0])) (zza 78 (.v (cO.v)) (zza 79 (.v (br.v)) (zza 80 (zI 0) (zzk 18 ⟨32, zw3⟩ (zza 17 (.v (cO.v)) (zzj ⟨32, br.cs⟩ ty32 ?_))))))
 refine zza 19 (zI 0) (zzc 145 [(2, .v (x3.v)), (9, .v (ac.v)), (10, zI D), (11, .adr 11 0), (12, zI 0), (13, .v (.slice (some ⟨aX, 0, none⟩) (D + 2) cp)), (18, .adr 18 0), (19, zI 0)] [(11, ⟨34, [ai.v] ++ ag.cs ++ [.slice (some ⟨ar, 0, none⟩) (D + 2) (D + 2)]⟩), (18, ⟨32, br.cs⟩)] (zzd (zzd (zzz [0, 1, 3, 7, 15, 31, 63, 127, 255, 127, 639, 2047, 4095] [(0, []), (1, []), (2, []), (3, []), (4, []), (5, []), (6, []), (7, []), (8, []), (9, []), (10, []), (11, []), (12, [])] xj xj (zza 81 (zI 0) (zza 82 (zB false) (zza 83 (zB false) (zza 84 (zI 0) ?_ (hw := w1 2 false 83)))))))))
 refine zza 85 (zB false) ?_ (hw := w1 2 false 83)
 refine zza 86 (zB false) (zza 87 (zB false) (zza 88 (.adr 11 1) ?_ (hw := w1 6 false 87)))
 refine zzi 89 (.v (ag.v)) ty32 zze ?_ (hw := w1 6 false 87)
 refine zzi 90 (.v (br.v)) ty32 zze ?_ (hw := w1 6 false 87)
 refine zzg 91 27 _ (fun _ _ aA dO => Post.mono (k_rqAbs dO (cA.ext aA).raw xq) ?_) (hw := w1 6 false 87)
 rintro _ u77 aP ⟨r75, rfl, dE⟩
 refine zzg 92 26 _ (fun _ _ aG dN => Post.mono (k_rqLess dN (bL.ext (ak.t (bf.t (az.t (aM.t (aA.t (aP.t aG))))))).raw (dE.ext aG).raw xq xq) ?_) (hw := w1 6 false 87)
 rintro _ u81 aU rfl
 refine zza 93 (zB (decide ((Nt.absQ (Nt.eL aa av)) < (Nt.absQ (Nt.eL aa k))))) (zzb (zzu (b := decide ((Nt.absQ (Nt.eL aa av)) < (Nt.absQ (Nt.eL aa k)))) xj (fun hb => ?_) (fun hb => ?_)))
 ·exact absurd hb (by rw [show (decide ((Nt.absQ (Nt.eL aa av)) < (Nt.absQ (Nt.eL aa k)))) = false from (decide_eq_false (fun h => by have h9 := Nt.va_le ae bd hRk; grind))]; decide)
 clear hb
 refine zzs (zzp ?_)
 refine zzd (zzz [0, 1, 0, 0, 12, 28, 60, 127, 255] [(0, []), (1, []), (2, []), (3, []), (4, []), (5, []), (6, []), (7, []), (8, [])] xj xj (zza 94 (.adr 11 0) (zzi 95 (.v (ai.v)) ty27 zzl (zza 96 (.v (x3.v)) (zza 97 (zI D) (zzg 98 29 _ fun _ _ aY dx => Post.mono (k_mkPoly (x := x3) (D := D) dx (hx3.ext (bp.t (bP.t (aJ.t (aL.t (ak.t (bf.t (az.t (aM.t (aA.t (aP.t (aG.t (aU.t aY))))))))))))) hb3 xq) ?_))))))
 rintro _ u87 bq ⟨y85, rfl, cU⟩
 have hly85 := cU.len
 have cq : (Nt.mkP l3 D).length ≤ D + 1 := Nt.mkP_len l3 D
 refine zzg 99 23 _ fun _ _ ba d5 => Post.mono (k_rqFrac d5 (a := 1) (b := 50) xq xq xq xq) ?_
 rintro _ u93 aV ⟨r91, rfl, dQ⟩
 refine zzg 100 28 _ fun _ _ aN df => Post.mono (k_r5Scale df (cU.ext (ba.t (aV.t aN))).raw (dQ.ext aN).raw xq xq xq) ?_
 rintro _ u99 ao ⟨y97, rfl, cY⟩
 have hly97 := cY.len
 refine zzg 101 22 _ fun _ _ am ck => Post.mono (k_r5Add ck (bB.ext (ak.t (bf.t (az.t (aM.t (aA.t (aP.t (aG.t (aU.t (aY.t (bq.t (ba.t (aV.t (aN.t (ao.t am))))))))))))))).raw (cY.ext am).raw xq xq xk xk) ?_
 rintro _ c2 ax ⟨aI, rfl, bG⟩
 have hly103 := bG.len
 refine zza 20 (.v (aI.v)) (zzb (zzd ?_))
 have hqL : (Nt.trimQ (Nt.addQ (Nt.pL aa av) (Nt.trimQ ((Nt.mkP l3 D).map (· * (((1 : Int) : Rat) / ((50 : Int) : Rat))))))).length ≤ D + 1 := Nat.le_trans (Nt.zzh _) (by rw [Nt.addQ_len]; exact Nat.max_le.2 ⟨by omega, Nat.le_trans (Nt.zzh _) (by rw [List.length_map]; exact Nt.mkP_len _ _)⟩)
 obtain ⟨q, hqe⟩ : ∃ q9, (Nt.trimQ (Nt.addQ (Nt.pL aa av) (Nt.trimQ ((Nt.mkP l3 D).map (· * (((1 : Int) : Rat) / ((50 : Int) : Rat))))))) = q9 := ⟨_, rfl⟩
 have hQ := bG
 rw [hqe] at hQ hqL
 have hQn := hQ.len
 refine zzf (zzg 102 30 _ fun _ _ aq cM => Post.mono (k_rqOf cM (z := 1000000) xq xq) ?_)
 rintro _ cB ap ⟨bS, rfl, cn⟩
 refine zzk 21 ⟨32, zw3⟩ (zzj ⟨32, bS.cs⟩ ty32 ?_)
 refine zza 22 (zI 0) (zzb (zzd (sq9 (zza 103 (.v (.slice (some ⟨aX, 0, none⟩) (D + 2) cp)) (zza 104 (zI (D + 2 : Nat)) (zza 105 (zI 0) (zzb (zzt (zyn (I := fun bR S' u' => ∃ (i : Nat) (rl : RL) (mm : Rat) (la : Int), (bR = D + 2 - i) ∧ (i ≤ D + 2) ∧ (Nt.Alt (fun i => Nt.gE (Nt.gX aa) (Nt.gW aa) (Nt.gY aa) q (k.getD i 0)) i la mm) ∧ (S' = St.of 145 [(9, .v (ac.v)), (11, .adr 11 0), (20, .v (aI.v)), (21, .adr 21 0), (22, zI la), (103, .v (.slice (some ⟨aX, 0, none⟩) (D + 2) cp)), (104, zI (D + 2 : Nat)), (105, zI i)] [(11, ⟨34, [ai.v] ++ ag.cs ++ [.slice (some ⟨ar, 0, none⟩) (D + 2) (D + 2)]⟩), (21, ⟨32, rl.cs⟩)]) ∧ (Ext cB u') ∧ (RatN u' rl mm 400000)) (fun m S u1 u2 e h => by obtain ⟨i, rl, mm, la, hm, p0, p1, hS, hE, f0⟩ := h; exact ⟨i, rl, mm, la, hm, p0, p1, hS, hE.trans e, f0.ext e⟩) _ yk ⟨0, bS, ((1000000 : Int) : Rat), 0, rfl, by omega, (Nt.alt_0 _ _), rfl, (Ext.refl _), (RatN.more (K := 2) cn xq)⟩ ?_)))))))))
 rintro bR _ dP ⟨i, rl, mm, la, cX, hi, hA, rfl, ah, f0⟩
 have hb0 := hA.b0
 have hb1 := hA.b1
 refine sq9 (zza 106 (zB (decide ((i : Int) < ((D + 2 : Nat) : Int)))) (zzb (zzd (zzu (b := decide ((i : Int) < ((D + 2 : Nat) : Int))) xj (fun au => ?_) (fun au => ?_)))))
 ·have qhb115 := of_decide_eq_true au
  refine zzs (zzp ?_)
  refine zzd (zzt (sq9 ?_))
  have bu : (Nt.inl k).length = D + 2 := ((aT.ext (az.t (aM.t (aA.t (aP.t (aG.t (aU.t (aY.t (bq.t (ba.t (aV.t (aN.t (ao.t (am.t (ax.t (aq.t (ap.t ah)))))))))))))))))).1
  rw [Nt.inl_len] at bu
  obtain ⟨c5, bz, bs, aQ⟩ := ints_at (aT.ext (az.t (aM.t (aA.t (aP.t (aG.t (aU.t (aY.t (bq.t (ba.t (aV.t (aN.t (ao.t (am.t (ax.t (aq.t (ap.t ah))))))))))))))))) (i := i) (by have h9 : i < k.length := xq; omega)
  rw [Nt.inl_at] at aQ
  refine zya 107 (bz + i * 1) (n := D + 2) (off := bz) (sz := 1) (i := (i : Int)) xq bs xq (by first | omega | (have h9 : i < k.length := xq; omega)) sl22 (zyl 108 (.int .i64 (((k.getD i 0) : Nat) : Int)) aQ ty3 (zza 24 (zI (((k.getD i 0) : Nat) : Int)) (zzc 145 [(9, .v (ac.v)), (11, .adr 11 0), (20, .v (aI.v)), (21, .adr 21 0), (22, zI la), (24, zI (((k.getD i 0) : Nat) : Int)), (103, .v (.slice (some ⟨aX, 0, none⟩) (D + 2) cp)), (104, zI (D + 2 : Nat)), (105, zI i)] [(11, ⟨34, [ai.v] ++ ag.cs ++ [.slice (some ⟨ar, 0, none⟩) (D + 2) (D + 2)]⟩), (21, ⟨32, rl.cs⟩)] (sq9 (zza 109 (.v (ac.v)) (zza 110 (zI (((k.getD i 0) : Nat) : Int)) ?_))))))
  have cR : ac.n = N12 := GrN.len (ay.ext (aJ.t (aL.t (ak.t (bf.t (az.t (aM.t (aA.t (aP.t (aG.t (aU.t (aY.t (bq.t (ba.t (aV.t (aN.t (ao.t (am.t (ax.t (aq.t (ap.t ah)))))))))))))))))))))
  obtain ⟨aO, aK, aS, dX, bI, bN, bc, bh, bl, aZ, bj, be⟩ := gr_at (ay.ext (aJ.t (aL.t (ak.t (bf.t (az.t (aM.t (aA.t (aP.t (aG.t (aU.t (aY.t (bq.t (ba.t (aV.t (aN.t (ao.t (am.t (ax.t (aq.t (ap.t ah))))))))))))))))))))) (i := (k.getD i 0)) (hRk.lt _ xq)
  refine zya 111 (bI + (k.getD i 0) * 9) (n := ac.n) (off := bI) (sz := 9) (i := (((k.getD i 0) : Nat) : Int)) xq bN xq (by first | omega | (have h9 : (k.getD i 0) < N12 := (hRk.lt _ xq); omega)) sl23 (zym 112 (aO.cs ++ aK.cs ++ aS.cs) (gr_pt bc bh bl) ty56 (zza 113 (.v (aI.v)) (zzg 114 31 _ fun _ _ aj b9 => Post.mono (k_r15At (r0 := aO) (r1 := aK) (r2 := aS) (T := 400000) b9 (aZ.ext aj) (bj.ext aj) (be.ext aj) (hQ.ext (aq.t (ap.t (ah.trans aj)))).raw xq xq xq xq) ?_)))
  rintro _ c1 aB ⟨al, rfl, an⟩
  refine zzk 25 ⟨32, zw3⟩ (zzj ⟨32, al.cs⟩ ty32 ?_)
  refine zzb (zzd (zzd ?_))
  have hsb := Nt.sgQ_bd ((Nt.gW aa (k.getD i 0)) * ((Nt.gY aa (k.getD i 0)) - Nt.Pol.evL q (Nt.gX aa (k.getD i 0))))
  refine zzf (zzi 115 (.v (al.v)) ty32 zze (zzg 116 32 _ fun _ _ ad cu => Post.mono (k_rqSign cu (an.ext ad).raw xq) ?_))
  rintro _ dA af rfl
  refine zza 117 (zB ((Nt.sgQ ((Nt.gW aa (k.getD i 0)) * ((Nt.gY aa (k.getD i 0)) - Nt.Pol.evL q (Nt.gX aa (k.getD i 0))))) == 0)) ?_
  rcases Bool.eq_false_or_eq_true ((Nt.sgQ ((Nt.gW aa (k.getD i 0)) * ((Nt.gY aa (k.getD i 0)) - Nt.Pol.evL q (Nt.gX aa (k.getD i 0))))) == 0) with hs128 | hs128
  ·refine zyq 118 (x := zB ((Nt.sgQ ((Nt.gW aa (k.getD i 0)) * ((Nt.gY aa (k.getD i 0)) - Nt.Pol.evL q (Nt.gX aa (k.getD i 0))))) == 0)) (zB true) (by rw [hs128]) (zzn 119 (uw 3 false true 118) (zzn 120 (uw 3 false true 118) (zzn 121 (uw 3 false true 118) (zzn 122 (unwantedU (g := 6) (b := true) (t := 121) xj xj xj) (zzn 123 (unwantedU (g := 6) (b := true) (t := 121) xj xj xj) (zzn 124 (unwantedU (g := 6) (b := true) (t := 121) xj xj xj) (zzn 125 (unwantedU (g := 6) (b := true) (t := 121) xj xj xj) (zzn 126 (unwantedU (g := 6) (b := true) (t := 121) xj xj xj) (zzn 127 (uw 3 false true 118) (zza 128 (zB true) (zzb ?_)))))))))))
   refine zyr xj (sq9 (zzg 129 18 _ fun _ _ _ cj => Post.mono (k_awake15 cj) ?_))
   rintro _ c6 du rfl
   refine zza 8 (zB true) (zzb (zzo (zzw (zyu (zzw (zyt (zyu (zzw (ret0 [.bool true] ⟨zzq, trivial⟩ fun dV dv => ?_)))))))))
   rfl
  refine zyq 118 (x := zB ((Nt.sgQ ((Nt.gW aa (k.getD i 0)) * ((Nt.gY aa (k.getD i 0)) - Nt.Pol.evL q (Nt.gX aa (k.getD i 0))))) == 0)) (zB false) (by rw [hs128]) (zza 119 (zI la) ?_ (hw := w1 3 false 118))
  refine zza 120 (zB (la != 0)) ?_ (hw := w1 3 false 118)
  rcases Bool.eq_false_or_eq_true (la != 0) with hs135 | hs135
  ·refine zyq 121 (x := zB (la != 0)) (zB true) (by rw [hs135]) ?_ (hw := w1 3 false 118)
   refine zzi 122 (.v (al.v)) ty32 zze ?_ (hw := w1 6 true 121)
   refine zzg 123 32 _ (fun _ _ aw ca => Post.mono (k_rqSign ca (an.ext (ad.t (af.t aw))).raw xq) ?_) (hw := w1 6 true 121)
   rintro _ db aF rfl
   refine zza 124 (zI la) ?_ (hw := w1 6 true 121)
   refine zyq 125 (x := zI (IntKind.i64.wrap (0 - la))) (zI (-la)) (eqI xz) ?_ (hw := w1 6 true 121)
   refine zza 126 (zB ((Nt.sgQ ((Nt.gW aa (k.getD i 0)) * ((Nt.gY aa (k.getD i 0)) - Nt.Pol.evL q (Nt.gX aa (k.getD i 0))))) != (-la))) ?_ (hw := w1 6 true 121)
   refine zza 127 (zB ((Nt.sgQ ((Nt.gW aa (k.getD i 0)) * ((Nt.gY aa (k.getD i 0)) - Nt.Pol.evL q (Nt.gX aa (k.getD i 0))))) != (-la))) ?_ (hw := w1 3 false 118)
   refine zza 128 (zB ((Nt.sgQ ((Nt.gW aa (k.getD i 0)) * ((Nt.gY aa (k.getD i 0)) - Nt.Pol.evL q (Nt.gX aa (k.getD i 0))))) != (-la))) (zzb (zzu (b := (Nt.sgQ ((Nt.gW aa (k.getD i 0)) * ((Nt.gY aa (k.getD i 0)) - Nt.Pol.evL q (Nt.gX aa (k.getD i 0))))) != (-la)) xj (fun aR => ?_) (fun aR => ?_)))
   ·refine sq9 (zzg 129 18 _ fun _ _ _ ce => Post.mono (k_awake15 ce) ?_)
    rintro _ dr c4 rfl
    refine zza 8 (zB true) (zzb (zzo (zzw (zyu (zzw (zyt (zyu (zzw (ret0 [.bool true] ⟨zzq, trivial⟩ fun d2 c7 => ?_)))))))))
    rfl
   refine zzs (zzp ?_)
   refine zzz [0, 0, 2, 7, 0, 31, 63, 127] [(0, []), (1, []), (4, []), (2, []), (3, []), (5, []), (6, []), (7, [])] xj xj (zzi 130 (.v (rl.v)) ty32 zze (zzi 131 (.v (al.v)) ty32 zze (zzi 134 (.v (al.v)) ty32 zze (zzg 132 27 _ fun _ _ aC cy => Post.mono (k_rqAbs cy (an.ext (ad.t (af.t (aw.t (aF.t aC))))).raw xq) ?_))))
   rintro _ dm bi ⟨di, rfl, cr⟩
   refine zzg 133 33 _ fun _ _ aE b8 => Post.mono (k_rqMin b8 (f0.ext (aj.t (aB.t (ad.t (af.t (aw.t (aF.t (aC.t (bi.t aE))))))))).raw (cr.ext aE).raw xq xq) ?_
   rintro _ d8 bM ⟨bt, rfl, cP⟩
   refine zzg 135 32 _ fun _ _ bm cF => Post.mono (k_rqSign cF (an.ext (ad.t (af.t (aw.t (aF.t (aC.t (bi.t (aE.t (bM.t bm))))))))).raw xq) ?_
   rintro _ dC bE rfl
   refine zzj ⟨32, bt.cs⟩ ty32 ?_
   refine zza 22 (zI (Nt.sgQ ((Nt.gW aa (k.getD i 0)) * ((Nt.gY aa (k.getD i 0)) - Nt.Pol.evL q (Nt.gX aa (k.getD i 0)))))) (zzx ?_)
   refine zzp (zzf (zyq 136 (x := zI (IntKind.i64.wrap ((i : Int) + 1))) (zI (i + 1 : Nat)) (eqI xz) (zza 105 (zI (i + 1 : Nat)) (zzx ?_))))
   have hlo := Nt.lo_le1 mm (Nt.absQ ((Nt.gW aa (k.getD i 0)) * ((Nt.gY aa (k.getD i 0)) - Nt.Pol.evL q (Nt.gX aa (k.getD i 0)))))
   have hAn := Nt.Alt.step hA (fun h9 => by have h8 := hs128; rw [beq_eq_false_iff_ne] at h8; exact h8 h9) (.inr (by have h8 := aR; rw [bne_eq_false_iff_eq] at h8; exact h8)) hlo.1 hlo.2
   refine ⟨_, ?_, _, by exact zzv _ _ _, i + 1, bt, (Nt.lo mm (Nt.absQ ((Nt.gW aa (k.getD i 0)) * ((Nt.gY aa (k.getD i 0)) - Nt.Pol.evL q (Nt.gX aa (k.getD i 0)))))), Nt.sgQ ((Nt.gW aa (k.getD i 0)) * ((Nt.gY aa (k.getD i 0)) - Nt.Pol.evL q (Nt.gX aa (k.getD i 0)))), rfl, by omega, (by exact hAn), rfl, (ah.t (aj.t (aB.t (ad.t (af.t (aw.t (aF.t (aC.t (bi.t (aE.t (bM.t (bm.t bE.ext)))))))))))), (RatN.more (K := (max 400000 400000)) (cP.ext (bm.t bE.ext)) xq)⟩
   omega
  refine zyq 121 (x := zB (la != 0)) (zB false) (by rw [hs135]) ?_ (hw := w1 3 false 118)
  refine zzn 122 (uw 6 true false 121) (zzn 123 (uw 6 true false 121) (zzn 124 (uw 6 true false 121) (zzn 125 (uw 6 true false 121) (zzn 126 (uw 6 true false 121) (zza 127 (zB false) ?_ (hw := w1 3 false 118))))))
  refine zza 128 (zB false) (zzb (zys xj (zzs (zzp ?_))))
  refine zzz [0, 0, 2, 7, 0, 31, 63, 127] [(0, []), (1, []), (4, []), (2, []), (3, []), (5, []), (6, []), (7, [])] xj xj (zzi 130 (.v (rl.v)) ty32 zze (zzi 131 (.v (al.v)) ty32 zze (zzi 134 (.v (al.v)) ty32 zze (zzg 132 27 _ fun _ _ aH cc => Post.mono (k_rqAbs cc (an.ext (ad.t (af.t aH))).raw xq) ?_))))
  rintro _ c9 aW ⟨dt, rfl, cb⟩
  refine zzg 133 33 _ fun _ _ aD cG => Post.mono (k_rqMin cG (f0.ext (aj.t (aB.t (ad.t (af.t (aH.t (aW.t aD))))))).raw (cb.ext aD).raw xq xq) ?_
  rintro _ d1 bA ⟨bv, rfl, ct⟩
  refine zzg 135 32 _ fun _ _ a9 ci => Post.mono (k_rqSign ci (an.ext (ad.t (af.t (aH.t (aW.t (aD.t (bA.t a9))))))).raw xq) ?_
  rintro _ dL bO rfl
  refine zzj ⟨32, bv.cs⟩ ty32 ?_
  refine zza 22 (zI (Nt.sgQ ((Nt.gW aa (k.getD i 0)) * ((Nt.gY aa (k.getD i 0)) - Nt.Pol.evL q (Nt.gX aa (k.getD i 0)))))) (zzx ?_)
  refine zzp (zzf (zyq 136 (x := zI (IntKind.i64.wrap ((i : Int) + 1))) (zI (i + 1 : Nat)) (eqI xz) (zza 105 (zI (i + 1 : Nat)) (zzx ?_))))
  have hlo := Nt.lo_le1 mm (Nt.absQ ((Nt.gW aa (k.getD i 0)) * ((Nt.gY aa (k.getD i 0)) - Nt.Pol.evL q (Nt.gX aa (k.getD i 0)))))
  have hAn := Nt.Alt.step hA (fun h9 => by have h8 := hs128; rw [beq_eq_false_iff_ne] at h8; exact h8 h9) (.inl (by simpa using hs135)) hlo.1 hlo.2
  refine ⟨_, ?_, _, by exact zzv _ _ _, i + 1, bv, (Nt.lo mm (Nt.absQ ((Nt.gW aa (k.getD i 0)) * ((Nt.gY aa (k.getD i 0)) - Nt.Pol.evL q (Nt.gX aa (k.getD i 0)))))), Nt.sgQ ((Nt.gW aa (k.getD i 0)) * ((Nt.gY aa (k.getD i 0)) - Nt.Pol.evL q (Nt.gX aa (k.getD i 0)))), rfl, by omega, (by exact hAn), rfl, (ah.t (aj.t (aB.t (ad.t (af.t (aH.t (aW.t (aD.t (bA.t (a9.t bO.ext)))))))))), (RatN.more (K := (max 400000 400000)) (ct.ext (a9.t bO.ext)) xq)⟩
  omega
 have qhb115 := of_decide_eq_false au
 refine zyc (zzp (zzd ?_))
 obtain rfl : i = D + 2 := by omega
 have hle := Nt.va_least ae bd hRk hqL hA
 refine zzf (zzg 137 18 _ fun _ _ bK ch => Post.mono (k_awake15 ch) ?_)
 rintro _ c3 bx rfl
 refine zza 138 (zB true) (zza 139 (.adr 11 1) ?_ (hw := w1 1 true 138))
 refine zzi 140 (.v (ag.v)) ty32 zze ?_ (hw := w1 1 true 138)
 refine zzi 141 (.v (rl.v)) ty32 zze ?_ (hw := w1 1 true 138)
 refine zzg 142 26 _ (fun _ _ bT b6 => Post.mono (k_rqLess b6 (bL.ext (ak.t (bf.t (az.t (aM.t (aA.t (aP.t (aG.t (aU.t (aY.t (bq.t (ba.t (aV.t (aN.t (ao.t (am.t (ax.t (aq.t (ap.t (ah.t (bK.t (bx.t bT)))))))))))))))))))))).raw (f0.ext (bK.t (bx.t bT))).raw xq xq) ?_) (hw := w1 1 true 138)
 rintro _ dY dy rfl
 refine zza 143 (zB (!(decide ((Nt.absQ (Nt.eL aa av)) < mm)))) ?_ (hw := w1 1 true 138)
 refine zza 144 (zB (!(decide ((Nt.absQ (Nt.eL aa av)) < mm)))) (zza 8 (zB (!(decide ((Nt.absQ (Nt.eL aa av)) < mm)))) (zzc 145 [(8, zB (!(decide ((Nt.absQ (Nt.eL aa av)) < mm))))] [] (zzo (ret0 [.bool (!(decide ((Nt.absQ (Nt.eL aa av)) < mm)))] ⟨zzq, trivial⟩ fun ea dp => ?_))))
 show Value.bool _ = Value.bool true
 rw [show (!(decide ((Nt.absQ (Nt.eL aa av)) < mm))) = true from (by rw [Bool.not_eq_true', decide_eq_false_iff_not]; grind)]
end Go.Proofs.YtgmkhhfbckjaeaaGreat
