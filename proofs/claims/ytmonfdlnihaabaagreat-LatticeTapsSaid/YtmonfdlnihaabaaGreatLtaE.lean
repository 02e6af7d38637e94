/- Taps of lattices. Printed by wip/sym/g_cb.py. Taps of lattices. Printed by wip/sym/g_cc.py. The back of a list of ints; lists that grow; structs of two lists of ints as arguments. Formats and sections out of numbers. Printed by wip/sym/g_wl.py. LatticeRefuses. Printed by wip/sym/g_cd.py. The taps and the reversed polynomials make up the polynomial again: plain law. -/
import Derived.Test.YtmonfdlnihaabaaGreatLtaD
namespace Go.Proofs.YtmonfdlnihaabaaGreat
open Go.RowKit
set_option linter.unusedVariables false
theorem pol_take3 {u : World} {x : Sl} {l : List Rat} {K n : Nat} (h : PolV u x l K) (hn : n ≤ l.length) : PolV u ⟨x.a, n, n⟩ (l.take n) K := by
 obtain ⟨L, ⟨h1, h2, h3, h4⟩, h5⟩ := pol_take h hn
 exact ⟨L, ⟨h1, Nat.le_refl n, Nat.le_trans h2 h3, h4⟩, h5⟩
namespace Nt
theorem upL_at (l : List Rat) {i j : Nat} (h : j < i + 2) : (upL l (i + 1)).getD j 0 = (upL l i).getD j 0 + l.getD i 0 * (upL l i).getD (i + 1 - j) 0 := by
 show (upS _ _ _).getD j 0 = _
 rw [upS_at _ _ _ _ (by rw [List.length_append, upL_len]; simpa using h), getD_app0, getD_app0]
theorem upL_take (k : List Rat) {n i : Nat} (h : i ≤ n) : upL (k.take n) i = upL k i := by
 induction i with
 | zero => rfl
 | succ i ih =>
  show upS _ _ _ = upS _ _ _
  rw [ih (by omega)]
  congr 1
  rw [List.getD_eq_getElem?_getD, List.getD_eq_getElem?_getD, List.getElem?_take_of_lt (by omega)]
theorem small_take {k : List Rat} (h : ∀ i, i < k.length → smallQ (k.getD i 0) = true) (n : Nat) : ∀ i, i < (k.take n).length → smallQ ((k.take n).getD i 0) = true := fun i hi => by
 rw [List.length_take] at hi
 rw [List.getD_eq_getElem?_getD, List.getElem?_take_of_lt (by omega), ← List.getD_eq_getElem?_getD]
 exact h i (by omega)
def revL (k : List Rat) (i : Nat) : List Rat := (List.range (i + 1)).map fun j => (upL k i).getD (i - j) 0
theorem revL_len (k : List Rat) (i : Nat) : (revL k i).length = i + 1 := by unfold revL; simp
theorem revL_at (k : List Rat) {i j : Nat} (h : j ≤ i) : (revL k i).getD j 0 = (upL k i).getD (i - j) 0 := by
 unfold revL
 rw [List.getD_eq_getElem?_getD, List.getElem?_map, List.getElem?_range (by omega)]
 rfl
theorem cmpQ_self (q : Rat) : (cmpQ q q != 0) = false := by
 have h : (cmpQ q q == (0 : Int)) = true := by rw [cmpQ_eq, decide_eq_true rfl]
 show (!(cmpQ q q == (0 : Int))) = false
 rw [h]; rfl
theorem trimD (l : List Rat) (i : Nat) : (trimQ l).getD i 0 = l.getD i 0 := trim_co l i
end Nt
theorem k_stepUpG {u w : World} {x : Sl} {l : List Rat} {M : Nat} (d : Dat u w) (hx : PolV u x l M) (hl : l.length ≤ 6) (hM : M ≤ 4) (hz : ∀ i, i < l.length → Nt.smallQ (l.getD i 0) = true) : Calls Tryz.prog 45 #[x.v] w (Post u w fun v u' => ∃ y : Sl, v = .tuple #[y.v, .int .i64 0] ∧ PolN u' y (Nt.trimQ (Nt.upL l l.length)) (Nt.upK l.length)) :=
 Post.mono (k_stepUp d hx hl hM) fun v u' _ h => by
  rcases h with ⟨i, h1, h2, _⟩ | ⟨_, h⟩
  ·rw [hz i h1] at h2; cases h2
  ·exact h
set_option maxHeartbeats 4000000 in
theorem k_rstepUp {u w : World} {x : Sl} {l : List Rat} {M : Nat} (d : Dat u w) (hx : PolV u x l M) (hl : l.length ≤ 6) (hM : M ≤ 4) : Calls Tryz.prog 18 #[x.v] w (Post u w (UpV l)) := by
 have hlen := hx.len
 refine zzl (args := [.slice x.a x.n x.c]) Tryz.func18 rfl Tryz.ntmps18 (rs := [.tmp 2, .tmp 3]) Tryz.results18 (le_b rfl) (le_b rfl) d ?_
 refine sq9 ?_
 refine zza 2 (.v (.slice none 0 0)) ?_
 refine zza 3 (.v (.int .i64 0)) ?_
 refine zzb 49 [(0, .v x.v)] [] ?_
 refine zzc ?_
 refine sq9 ?_
 refine zza 9 (.v x.v) ?_
 refine zza 10 (.v (.int .i64 (x.n : Int))) ?_
 refine zza 11 (.v (.bool (decide ((48 : Int) < (x.n : Int))))) ?_
 refine zzb 49 [(0, .v x.v), (11, .v (.bool (decide ((48 : Int) < (x.n : Int)))))] [] ?_
 refine zzt (b := decide ((48 : Int) < (x.n : Int))) (by kernel_rfl) (fun hb => ?_) (fun hb => ?_)
 ·exact absurd hb (by rw [show (decide ((48 : Int) < (x.n : Int))) = false from decide_eq_false (by omega)]; decide)
 ·clear hb
  refine zzr (zzo ?_)
  refine sq9 ?_
  refine zzf 12 19 [.int .i64 1] ?_
  intro w11 u11 e11 d11
  have k16 := k_rqOf d11 (z := 1) (by omega) (by omega)
  with_reducible refine Post.mono k16 ?_
  rintro _ u14 g15 ⟨r12, rfl, h13⟩
  refine sy_data 13 ⟨29, r12.cs⟩ 1 (fun b17 u18 e19 h20 => ?_)
  have hp21 : PolN u18 (⟨some ⟨b17, 0, none⟩, 1, 1⟩ : Sl) [((1 : Int) : Rat)] 2 := pol_lit (L := [r12]) h20 (rats1 (h13.ext e19)) rfl (by decide)
  refine zza 4 (.v (.slice (some ⟨b17, 0, none⟩) 1 1)) ?_
  refine zzb 49 [(0, .v x.v), (4, .v (.slice (some ⟨b17, 0, none⟩) 1 1))] [] ?_
  refine zzc ?_
  refine sq9 ?_
  refine zza 14 (.v x.v) ?_
  refine zza 15 (.v (.int .i64 (x.n : Int))) ?_
  refine zza 16 (.v (.int .i64 0)) ?_
  refine zzb 49 [(4, .v (.slice (some ⟨b17, 0, none⟩) 1 1)), (14, .v x.v), (15, .v (.int .i64 (x.n : Int))), (16, .v (.int .i64 0))] [] ?_
  refine zzs ?_
  refine zym (I := fun m22 S' u' => ∃ (i : Nat) (c : Sl), (m22 = l.length - i) ∧ (i ≤ l.length) ∧ (∀ j, j < i → Nt.smallQ (l.getD j 0) = true) ∧ (S' = St.of 49 [(4, .v (.slice c.a c.n c.c)), (14, .v (.slice x.a x.n x.c)), (15, .v (.int .i64 (x.n : Int))), (16, .v (.int .i64 (i : Int)))] []) ∧ (Ext u18 u') ∧ (PolN u' c (Nt.upL l i) (Nt.upK i))) (fun m S u1 u2 e h => by obtain ⟨i, c, hm, p0, p1, hS, hE, f0⟩ := h; exact ⟨i, c, hm, p0, p1, hS, hE.trans e, f0.ext e⟩) _ (T := St.of 49 [(4, .v (.slice (some ⟨b17, 0, none⟩) 1 1)), (14, .v (.slice x.a x.n x.c)), (15, .v (.int .i64 (x.n : Int))), (16, .v (.int .i64 0))] []) (by exact zzu _ _ _) ⟨0, (⟨some ⟨b17, 0, none⟩, 1, 1⟩ : Sl), rfl, Nat.zero_le _, fun j hj => absurd hj (Nat.not_lt_zero j), rfl, Ext.refl _, (PolN.more hp21 (by decide))⟩ ?_
  rintro m22 _ u22 ⟨i, c, hm22, hi, hz, rfl, e22, hC⟩
  have hcl := hC.len
  have hul := Nt.upL_len l i
  have huk := Nt.upK_succ i
  have huk2 := Nt.upK_le (show i ≤ 6 by omega)
  refine sq9 ?_
  refine zza 17 (.v (.bool (decide ((i : Int) < (x.n : Int))))) ?_
  refine zzb 49 [(4, .v c.v), (14, .v x.v), (15, .v (.int .i64 (x.n : Int))), (16, .v (.int .i64 (i : Int))), (17, .v (.bool (decide ((i : Int) < (x.n : Int)))))] [] ?_
  refine zzc ?_
  refine zzt (b := decide ((i : Int) < (x.n : Int))) (by kernel_rfl) (fun hb23 => ?_) (fun hb23 => ?_)
  ·replace hb23 : (decide ((i : Int) < (x.n : Int))) = true := hb23
   have qhb23 := of_decide_eq_true hb23
   refine zzr (zzo ?_)
   refine zzc ?_
   refine zzs ?_
   refine sq9 ?_
   refine zza 18 (.v (.int .i64 (i : Int))) ?_
   have hl24 := (hx.ext (e11.trans (g15.ext.trans (e19.trans e22)))).len
   obtain ⟨r24, b24, o24, hA24, hc24, hr24⟩ := pol_at (hx.ext (e11.trans (g15.ext.trans (e19.trans e22)))) (i := i) (by omega)
   refine zzz 19 (o24 + i * 3) (n := x.n) (off := o24) (sz := 3) (i := (i : Int)) (by omega) hA24 (by omega) (by omega) sl24 ?_
   refine zyl 20 r24.cs hc24 ty29 ?_
   refine zzj 6 ⟨29, [.bool false, .slice none 0 0, .slice none 0 0]⟩ ?_
   refine zza 5 (.v (.int .i64 (i : Int))) ?_
   refine zzi ⟨29, r24.cs⟩ ty29 ?_
   refine zzb 49 [(4, .v c.v), (5, .v (.int .i64 (i : Int))), (6, .adr 6 0), (14, .v x.v), (15, .v (.int .i64 (x.n : Int))), (16, .v (.int .i64 (i : Int)))] [(6, ⟨29, r24.cs⟩)] ?_
   refine zzc ?_
   refine sq9 ?_
   refine zzh 21 (.v (r24.v)) ty29 zzd ?_
   refine zzf 22 58 [r24.v] ?_
   intro w25 u25 e25 d25
   have k28 := k_rsmall d25 (hr24.ext e25) (by omega)
   with_reducible refine Post.mono k28 ?_
   rintro _ u26 g27 rfl
   refine zza 23 (.v (.bool (!(Nt.smallQ (l.getD i 0))))) ?_
   refine zzb 49 [(4, .v c.v), (5, .v (.int .i64 (i : Int))), (6, .adr 6 0), (14, .v x.v), (15, .v (.int .i64 (x.n : Int))), (16, .v (.int .i64 (i : Int))), (23, .v (.bool (!(Nt.smallQ (l.getD i 0)))))] [(6, ⟨29, r24.cs⟩)] ?_
   refine zzt (b := !(Nt.smallQ (l.getD i 0))) (by kernel_rfl) (fun hb29 => ?_) (fun hb29 => ?_)
   ·replace hb29 : (!(Nt.smallQ (l.getD i 0))) = true := hb29
    refine sq9 ?_
    refine zza 2 (.v (.slice none 0 0)) ?_
    refine zza 3 (.v (.int .i64 14)) ?_
    refine zzb 49 [(2, .v (.slice none 0 0)), (3, .v (.int .i64 14))] [] ?_
    refine zzn (zzv (zyt (zzv (zys (zyt (zzv (ret0 [.slice none 0 0, .int .i64 14] ⟨zzp, zzp, trivial⟩ fun u30 e31 => ?_)))))))
    exact .inl ⟨i, by omega, by simpa using hb29, rfl⟩
   ·replace hb29 : (!(Nt.smallQ (l.getD i 0))) = false := hb29
    refine zzr (zzo ?_)
    refine sq9 ?_
    refine zza 7 (.v (.slice none 0 0)) ?_
    refine zzb 49 [(4, .v c.v), (5, .v (.int .i64 (i : Int))), (6, .adr 6 0), (7, .v (.slice none 0 0)), (14, .v x.v), (15, .v (.int .i64 (x.n : Int))), (16, .v (.int .i64 (i : Int)))] [(6, ⟨29, r24.cs⟩)] ?_
    refine zzc ?_
    refine sq9 ?_
    refine zza 8 (.v (.int .i64 0)) ?_
    refine zzb 49 [(4, .v c.v), (5, .v (.int .i64 (i : Int))), (6, .adr 6 0), (7, .v (.slice none 0 0)), (8, .v (.int .i64 0)), (14, .v x.v), (15, .v (.int .i64 (x.n : Int))), (16, .v (.int .i64 (i : Int)))] [(6, ⟨29, r24.cs⟩)] ?_
    refine zzs ?_
    refine zym (I := fun m32 S' u' => (m32 = (i + 2) ∧ S' = St.of 49 [(4, .v (.slice c.a c.n c.c)), (5, .v (.int .i64 (i : Int))), (6, .adr 6 0), (7, .v (.slice none 0 0)), (8, .v (.int .i64 0)), (14, .v (.slice x.a x.n x.c)), (15, .v (.int .i64 (x.n : Int))), (16, .v (.int .i64 (i : Int)))] [(6, ⟨29, r24.cs⟩)] ∧ Ext u26 u') ∨ (∃ (i2 : Nat) (L2 : List RL) (cs2 : List Value) (cp2 : Nat), m32 = (i + 2) - i2 ∧ i2 ≤ (i + 2) ∧ 0 < i2 ∧ L2.length = i2 ∧ cs2.length = cp2 * 3 ∧ i2 ≤ cp2 ∧ cp2 ≤ maxLen ∧ cs2.take (i2 * 3) = rcs L2 ∧ S' = St.of 49 [(4, .v (.slice c.a c.n c.c)), (5, .v (.int .i64 (i : Int))), (6, .adr 6 0), (7, .slc 44 0 i2 cp2), (8, .v (.int .i64 (i2 : Int))), (14, .v (.slice x.a x.n x.c)), (15, .v (.int .i64 (x.n : Int))), (16, .v (.int .i64 (i : Int)))] [(6, ⟨29, r24.cs⟩), (44, ⟨29, cs2⟩)] ∧ Ext u26 u' ∧ RatsN u' L2 ((Nt.upL l (i + 1)).take i2) (Nt.upK (i + 1)))) (fun m S u1 u2 e h => by rcases h with ⟨a, b, c⟩ | ⟨a1, a2, a3, a4, b1, b2, b3, b4, b5, b6, b7, b8, b9, b10, b11⟩; exact .inl ⟨a, b, c.trans e⟩; exact .inr ⟨a1, a2, a3, a4, b1, b2, b3, b4, b5, b6, b7, b8, b9, b10.trans e, b11.ext e⟩) _ (T := St.of 49 [(4, .v (.slice c.a c.n c.c)), (5, .v (.int .i64 (i : Int))), (6, .adr 6 0), (7, .v (.slice none 0 0)), (8, .v (.int .i64 0)), (14, .v (.slice x.a x.n x.c)), (15, .v (.int .i64 (x.n : Int))), (16, .v (.int .i64 (i : Int)))] [(6, ⟨29, r24.cs⟩)]) (by exact zzu _ _ _) (.inl ⟨rfl, rfl, Ext.refl _⟩) ?_
    rintro m32 _ u32 (⟨hm32, rfl, e32⟩ | ⟨i2, L2, cs2, cp2, hm32, hi2, hp2, hL2, hc2, hle2, hmx2, ht2, rfl, e32, hR2⟩)
    ·change SW _ _ _ _ (St.of 49 [(4, .v (.slice c.a c.n c.c)), (5, .v (.int .i64 (i : Int))), (6, .adr 6 0), (7, .v (.slice none 0 0)), (8, .v (.int .i64 0)), (14, .v (.slice x.a x.n x.c)), (15, .v (.int .i64 (x.n : Int))), (16, .v (.int .i64 (i : Int)))] [(6, ⟨29, r24.cs⟩)]) _ _
     refine zzc ?_
     refine sq9 ?_
     refine zza 24 (.v (.int .i64 0)) ?_
     refine zza 25 (.v (.int .i64 (i : Int))) ?_
     refine zyp 26 (x := .v (.int .i64 (IntKind.i64.wrap ((i : Int) + 1)))) (.v (.int .i64 ((i + 1 : Nat) : Int))) (eqI (by rw [IntWalk.i64_in _ (by omega)]; omega)) ?_
     refine zza 27 (.v (.bool (decide ((0 : Int) ≤ ((i + 1 : Nat) : Int))))) ?_
     refine zzb 49 [(4, .v c.v), (5, .v (.int .i64 (i : Int))), (6, .adr 6 0), (7, .v (.slice none 0 0)), (8, .v (.int .i64 0)), (14, .v x.v), (15, .v (.int .i64 (x.n : Int))), (16, .v (.int .i64 (i : Int))), (27, .v (.bool (decide ((0 : Int) ≤ ((i + 1 : Nat) : Int)))))] [(6, ⟨29, r24.cs⟩)] ?_
     refine zzt (b := decide ((0 : Int) ≤ ((i + 1 : Nat) : Int))) (by kernel_rfl) (fun hb => ?_) (fun hb => ?_)
     ·clear hb
      refine zzr (zzo ?_)
      refine zzc ?_
      refine zzs ?_
      refine zzy [0, 0, 0, 6, 0, 0, 0, 64, 0, 448, 1006, 2046, 4094, 8190, 16383, 32767] [(0, []), (1, []), (2, []), (4, []), (5, []), (6, []), (7, []), (8, []), (9, []), (3, []), (10, []), (11, []), (12, []), (13, []), (14, []), (15, [])] (by kernel_rfl) (by kernel_rfl) ?_
      refine zza 30 (.v (.slice none 0 0)) ?_
      refine zza 31 (.v c.v) ?_
      refine zza 32 (.v (.int .i64 0)) ?_
      refine zzh 34 (.v (r24.v)) ty29 zzd ?_
      refine zza 35 (.v c.v) ?_
      refine zza 36 (.v (.int .i64 (i : Int))) ?_
      refine zyp 37 (x := .v (.int .i64 (IntKind.i64.wrap ((i : Int) + 1)))) (.v (.int .i64 ((i + 1 : Nat) : Int))) (eqI (by rw [IntWalk.i64_in _ (by omega)]; omega)) ?_
      refine zza 38 (.v (.int .i64 0)) ?_
      refine zyp 39 (x := .v (.int .i64 (IntKind.i64.wrap (((i + 1 : Nat) : Int) - 0)))) (.v (.int .i64 (((i + 1) - 0 : Nat) : Int))) (eqI (by rw [IntWalk.i64_in _ (by omega)]; omega)) ?_
      refine zzf 33 60 [c.v, .int .i64 0] ?_
      intro w33 u33 e33 d33
      have k38 := (show Calls _ _ #[_, .int .i64 (0)] _ _ from k_r5At (i := 0) d33 (hC.ext (e25.trans (g27.ext.trans (e32.trans e33)))).raw (by omega) (by first|omega|(simp;omega) | (refine Nat.le_trans (Nt.zzg _) ?_; first|omega|(simp;omega)) | (refine Nat.le_trans (Nt.zzg _) ?_; simp only [List.length_map]; refine Nat.le_trans (Nt.zzg _) ?_; first|omega|(simp;omega))) (by omega))
      with_reducible refine Post.mono k38 ?_
      rintro _ u36 g37 ⟨r34, rfl, h35⟩
      refine zzf 40 60 [c.v, .int .i64 (((i + 1) - 0 : Nat) : Int)] ?_
      intro w39 u39 e39 d39
      have k44 := (show Calls _ _ #[_, .int .i64 ((((i + 1) - 0 : Nat) : Int))] _ _ from k_r5At (i := (i + 1) - 0) d39 (hC.ext (e25.trans (g27.ext.trans (e32.trans (e33.trans (g37.ext.trans e39)))))).raw (by omega) (by first|omega|(simp;omega) | (refine Nat.le_trans (Nt.zzg _) ?_; first|omega|(simp;omega)) | (refine Nat.le_trans (Nt.zzg _) ?_; simp only [List.length_map]; refine Nat.le_trans (Nt.zzg _) ?_; first|omega|(simp;omega))) (by omega))
      with_reducible refine Post.mono k44 ?_
      rintro _ u42 g43 ⟨r40, rfl, h41⟩
      refine zzf 41 61 [r24.v, r40.v] ?_
      intro w45 u45 e45 d45
      have k50 := k_rqMul d45 (hr24.ext (e25.trans (g27.ext.trans (e32.trans (e33.trans (g37.ext.trans (e39.trans (g43.ext.trans e45)))))))) (h41.ext e45).raw (by omega) (by omega)
      with_reducible refine Post.mono k50 ?_
      rintro _ u48 g49 ⟨r46, rfl, h47⟩
      refine zzf 42 59 [r34.v, r46.v] ?_
      intro w51 u51 e51 d51
      have k56 := k_rqAdd d51 (h35.ext (e39.trans (g43.ext.trans (e45.trans (g49.ext.trans e51))))).raw (h47.ext e51).raw (by omega) (by omega)
      with_reducible refine Post.mono k56 ?_
      rintro _ u54 g55 ⟨r52, rfl, h53⟩
      refine sy_lit 43 ⟨29, r52.cs⟩ 1 ?_
      refine sy_appL0 44 (T := 32) (E := 29) (z := .agg #[.bool false, .slice none 0 0, .slice none 0 0]) (size := 3) (bytes := 56) (m := 1) (t2 := 43) r52.cs (by kernel_rfl) (by kernel_rfl) (by kernel_rfl) (by decide) rfl (rl_one r52) (by decide) (by decide) (by decide) ?_
      intro c57 cs57 ha57 hb57 hc57 hd57
      refine zza 7 (.slc 44 0 1 c57) ?_
      refine zzw ?_
      refine zzo ?_
      refine zze ?_
      refine zza 28 (.v (.int .i64 0)) ?_
      refine zza 29 (.v (.int .i64 1)) ?_
      refine zza 8 (.v (.int .i64 1)) ?_
      refine zzw ?_
      have ht58 : 0 < (Nt.upL l (i + 1)).length := by rw [Nt.upL_len]; omega
      refine ⟨_, ?_, St.of 49 [(4, .v (.slice c.a c.n c.c)), (5, .v (.int .i64 (i : Int))), (6, .adr 6 0), (7, .slc 44 0 1 c57), (8, .v (.int .i64 1)), (14, .v (.slice x.a x.n x.c)), (15, .v (.int .i64 (x.n : Int))), (16, .v (.int .i64 (i : Int)))] [(6, ⟨29, r24.cs⟩), (44, ⟨29, cs57⟩)], by exact zzu _ _ _, .inr ⟨1, [r52], cs57, c57, rfl, by omega, by omega, by simp, hc57, by omega, hb57, hd57, rfl, (e32.trans (e33.trans (g37.ext.trans (e39.trans (g43.ext.trans (e45.trans (g49.ext.trans (e51.trans g55.ext)))))))), (app_first (RatN.more (K := (((Nt.upK i) + 2) + (M + ((Nt.upK i) + 2) + 1) + 2)) h53 (by omega)) ht58 (Nt.upL_at l (i := i) (j := 0) (by omega)).symm)⟩⟩
      omega
     ·exact absurd hb (by rw [show (decide ((0 : Int) ≤ ((i + 1 : Nat) : Int))) = true from decide_eq_true (by omega)]; decide)
    ·change SW _ _ _ _ (St.of 49 [(4, .v (.slice c.a c.n c.c)), (5, .v (.int .i64 (i : Int))), (6, .adr 6 0), (7, .slc 44 0 i2 cp2), (8, .v (.int .i64 (i2 : Int))), (14, .v (.slice x.a x.n x.c)), (15, .v (.int .i64 (x.n : Int))), (16, .v (.int .i64 (i : Int)))] [(6, ⟨29, r24.cs⟩), (44, ⟨29, cs2⟩)]) _ _
     refine zzc ?_
     refine sq9 ?_
     refine zza 24 (.v (.int .i64 (i2 : Int))) ?_
     refine zza 25 (.v (.int .i64 (i : Int))) ?_
     refine zyp 26 (x := .v (.int .i64 (IntKind.i64.wrap ((i : Int) + 1)))) (.v (.int .i64 ((i + 1 : Nat) : Int))) (eqI (by rw [IntWalk.i64_in _ (by omega)]; omega)) ?_
     refine zza 27 (.v (.bool (decide ((i2 : Int) ≤ ((i + 1 : Nat) : Int))))) ?_
     refine zzb 49 [(4, .v c.v), (5, .v (.int .i64 (i : Int))), (6, .adr 6 0), (7, .slc 44 0 i2 cp2), (8, .v (.int .i64 (i2 : Int))), (14, .v x.v), (15, .v (.int .i64 (x.n : Int))), (16, .v (.int .i64 (i : Int))), (27, .v (.bool (decide ((i2 : Int) ≤ ((i + 1 : Nat) : Int)))))] [(6, ⟨29, r24.cs⟩), (44, ⟨29, cs2⟩)] ?_
     refine zzt (b := decide ((i2 : Int) ≤ ((i + 1 : Nat) : Int))) (by kernel_rfl) (fun hb59 => ?_) (fun hb59 => ?_)
     ·replace hb59 : (decide ((i2 : Int) ≤ ((i + 1 : Nat) : Int))) = true := hb59
      have qhb59 := of_decide_eq_true hb59
      refine zzr (zzo ?_)
      refine zzc ?_
      refine zzs ?_
      refine zzy [0, 0, 0, 6, 0, 0, 0, 64, 0, 448, 1006, 2046, 4094, 8190, 16383, 32767] [(0, []), (1, []), (2, []), (4, []), (5, []), (6, []), (7, []), (8, []), (9, []), (3, []), (10, []), (11, []), (12, []), (13, []), (14, []), (15, [])] (by kernel_rfl) (by kernel_rfl) ?_
      refine zza 30 (.slc 44 0 i2 cp2) ?_
      refine zza 31 (.v c.v) ?_
      refine zza 32 (.v (.int .i64 (i2 : Int))) ?_
      refine zzh 34 (.v (r24.v)) ty29 zzd ?_
      refine zza 35 (.v c.v) ?_
      refine zza 36 (.v (.int .i64 (i : Int))) ?_
      refine zyp 37 (x := .v (.int .i64 (IntKind.i64.wrap ((i : Int) + 1)))) (.v (.int .i64 ((i + 1 : Nat) : Int))) (eqI (by rw [IntWalk.i64_in _ (by omega)]; omega)) ?_
      refine zza 38 (.v (.int .i64 (i2 : Int))) ?_
      refine zyp 39 (x := .v (.int .i64 (IntKind.i64.wrap (((i + 1 : Nat) : Int) - (i2 : Int))))) (.v (.int .i64 (((i + 1) - i2 : Nat) : Int))) (eqI (by rw [IntWalk.i64_in _ (by omega)]; omega)) ?_
      refine zzf 33 60 [c.v, .int .i64 (i2 : Int)] ?_
      intro w60 u60 e60 d60
      have k65 := (show Calls _ _ #[_, .int .i64 ((i2 : Int))] _ _ from k_r5At (i := i2) d60 (hC.ext (e25.trans (g27.ext.trans (e32.trans e60)))).raw (by omega) (by first|omega|(simp;omega) | (refine Nat.le_trans (Nt.zzg _) ?_; first|omega|(simp;omega)) | (refine Nat.le_trans (Nt.zzg _) ?_; simp only [List.length_map]; refine Nat.le_trans (Nt.zzg _) ?_; first|omega|(simp;omega))) (by omega))
      with_reducible refine Post.mono k65 ?_
      rintro _ u63 g64 ⟨r61, rfl, h62⟩
      refine zzf 40 60 [c.v, .int .i64 (((i + 1) - i2 : Nat) : Int)] ?_
      intro w66 u66 e66 d66
      have k71 := (show Calls _ _ #[_, .int .i64 ((((i + 1) - i2 : Nat) : Int))] _ _ from k_r5At (i := (i + 1) - i2) d66 (hC.ext (e25.trans (g27.ext.trans (e32.trans (e60.trans (g64.ext.trans e66)))))).raw (by omega) (by first|omega|(simp;omega) | (refine Nat.le_trans (Nt.zzg _) ?_; first|omega|(simp;omega)) | (refine Nat.le_trans (Nt.zzg _) ?_; simp only [List.length_map]; refine Nat.le_trans (Nt.zzg _) ?_; first|omega|(simp;omega))) (by omega))
      with_reducible refine Post.mono k71 ?_
      rintro _ u69 g70 ⟨r67, rfl, h68⟩
      refine zzf 41 61 [r24.v, r67.v] ?_
      intro w72 u72 e72 d72
      have k77 := k_rqMul d72 (hr24.ext (e25.trans (g27.ext.trans (e32.trans (e60.trans (g64.ext.trans (e66.trans (g70.ext.trans e72)))))))) (h68.ext e72).raw (by omega) (by omega)
      with_reducible refine Post.mono k77 ?_
      rintro _ u75 g76 ⟨r73, rfl, h74⟩
      refine zzf 42 59 [r61.v, r73.v] ?_
      intro w78 u78 e78 d78
      have k83 := k_rqAdd d78 (h62.ext (e66.trans (g70.ext.trans (e72.trans (g76.ext.trans e78))))).raw (h74.ext e78).raw (by omega) (by omega)
      with_reducible refine Post.mono k83 ?_
      rintro _ u81 g82 ⟨r79, rfl, h80⟩
      refine sy_lit 43 ⟨29, r79.cs⟩ 1 ?_
      refine sy_appL1 44 (T := 32) (E := 29) (z := .agg #[.bool false, .slice none 0 0, .slice none 0 0]) (size := 3) (bytes := 56) (m := 1) (t2 := 43) (n := i2) (cap := cp2) (t := 44) (cs0 := cs2) [7, 30, 44] r79.cs (by kernel_rfl) (by kernel_rfl) (by kernel_rfl) (by decide) rfl (rl_one r79) (by decide) (by unfold maxLen; omega) (by omega) (by omega) (by omega) (by omega) (by repeat first | exact noAt_of | refine zyc ?_ | refine zye ?_ | refine zyd ?_ | refine zzx ?_ | refine zya ?_) ?_
      intro c84 cs84 ha84 hb84 hc84 hd84
      have hd84r : cs84.take ((i2 + 1) * 3) = rcs (L2 ++ [r79]) := by rw [hd84, ht2, rcs_app]; rfl
      refine zza 7 (.slc 44 0 (i2 + 1) c84) ?_
      refine zzw ?_
      refine zzo ?_
      refine zze ?_
      refine zza 28 (.v (.int .i64 (i2 : Int))) ?_
      refine zyp 29 (x := .v (.int .i64 (IntKind.i64.wrap ((i2 : Int) + 1)))) (.v (.int .i64 ((i2 + 1 : Nat) : Int))) (eqI (by rw [IntWalk.i64_in _ (by omega)]; omega)) ?_
      refine zza 8 (.v (.int .i64 ((i2 + 1 : Nat) : Int))) ?_
      refine zzw ?_
      have ht85 : i2 < (Nt.upL l (i + 1)).length := by rw [Nt.upL_len]; omega
      refine ⟨_, ?_, St.of 49 [(4, .v (.slice c.a c.n c.c)), (5, .v (.int .i64 (i : Int))), (6, .adr 6 0), (7, .slc 44 0 (i2 + 1) c84), (8, .v (.int .i64 ((i2 + 1 : Nat) : Int))), (14, .v (.slice x.a x.n x.c)), (15, .v (.int .i64 (x.n : Int))), (16, .v (.int .i64 (i : Int)))] [(6, ⟨29, r24.cs⟩), (44, ⟨29, cs84⟩)], by exact zzu _ _ _, .inr ⟨i2 + 1, L2 ++ [r79], cs84, c84, rfl, by omega, by omega, by simp; omega, hc84, by omega, hb84, hd84r, rfl, (e32.trans (e60.trans (g64.ext.trans (e66.trans (g70.ext.trans (e72.trans (g76.ext.trans (e78.trans g82.ext)))))))), (app_next (hR2.ext (e60.trans (g64.ext.trans (e66.trans (g70.ext.trans (e72.trans (g76.ext.trans (e78.trans g82.ext)))))))) (RatN.more (K := (((Nt.upK i) + 2) + (M + ((Nt.upK i) + 2) + 1) + 2)) h80 (by omega)) ht85 (Nt.upL_at l (i := i) (j := i2) (by omega)).symm)⟩⟩
      omega
     ·replace hb59 : (decide ((i2 : Int) ≤ ((i + 1 : Nat) : Int))) = false := hb59
      have qhb59 := of_decide_eq_false hb59
      refine zyb ?_
      refine zzo ?_
      refine zyo (r := 7) (t := 44) [7, 44] (by repeat first | exact noAt_of | refine zyc ?_ | refine zye ?_ | refine zyd ?_ | refine zzx ?_ | refine zya ?_) (by kernel_rfl) (by rfl) (by rfl) (by kernel_rfl) (fun b87 u88 e89 hb90 hh91 => ?_)
      have hp86 : PolN u88 ⟨some ⟨b87, 0, none⟩, i2, cp2⟩ (Nt.upL l (i + 1)) (Nt.upK (i + 1)) := by have h8 := pol_data hh91 ht2 hc2 hle2 hmx2 (hR2.ext e89); rw [List.take_of_length_le (l := (Nt.upL l (i + 1))) (by rw [Nt.upL_len]; omega)] at h8; exact h8
      refine zze ?_
      refine zza 45 (.v (.slice (some ⟨b87, 0, none⟩) i2 cp2)) ?_
      refine zza 4 (.v (.slice (some ⟨b87, 0, none⟩) i2 cp2)) ?_
      refine zzw ?_
      refine zzo ?_
      refine zze ?_
      refine zyp 46 (x := .v (.int .i64 (IntKind.i64.wrap ((i : Int) + 1)))) (.v (.int .i64 ((i + 1 : Nat) : Int))) (eqI (by rw [IntWalk.i64_in _ (by omega)]; omega)) ?_
      refine zza 16 (.v (.int .i64 ((i + 1 : Nat) : Int))) ?_
      refine zzw ?_
      refine ⟨_, ?_, St.of 49 [(4, .v (.slice (some ⟨b87, 0, none⟩) i2 cp2)), (14, .v (.slice x.a x.n x.c)), (15, .v (.int .i64 (x.n : Int))), (16, .v (.int .i64 ((i + 1 : Nat) : Int)))] [], by exact zzu _ _ _, i + 1, (⟨some ⟨b87, 0, none⟩, i2, cp2⟩ : Sl), rfl, by omega, (fun j hj => by by_cases e : j = i; (rw [e]; simpa using hb29); exact hz j (by omega)), rfl, (e22.trans (e25.trans (g27.ext.trans (e32.trans e89)))), hp86⟩
      omega
  ·replace hb23 : (decide ((i : Int) < (x.n : Int))) = false := hb23
   have qhb23 := of_decide_eq_false hb23
   refine zyb ?_
   refine zzo ?_
   refine sq9 ?_
   refine zza 47 (.v c.v) ?_
   refine zzf 48 53 [c.v] ?_
   intro w92 u92 e92 d92
   have k97 := k_r5Trim d92 (hC.ext e92).raw (by omega) (by first|omega|(simp;omega) | (refine Nat.le_trans (Nt.zzg _) ?_; first|omega|(simp;omega)) | (refine Nat.le_trans (Nt.zzg _) ?_; simp only [List.length_map]; refine Nat.le_trans (Nt.zzg _) ?_; first|omega|(simp;omega)))
   with_reducible refine Post.mono k97 ?_
   rintro _ u95 g96 ⟨y93, rfl, h94⟩
   have hly93 := h94.len
   refine zza 2 (.v y93.v) ?_
   refine zza 3 (.v (.int .i64 0)) ?_
   refine zzb 49 [(2, .v y93.v), (3, .v (.int .i64 0))] [] ?_
   refine zzn (ret0 [.slice y93.a y93.n y93.c, .int .i64 0] ⟨zzp, zzp, trivial⟩ fun u98 e99 => ?_)
   have hi9 : i = l.length := by omega
   refine .inr ⟨fun j hj => hz j (by omega), y93, rfl, ?_⟩
   have h9 := (h94.ext e99)
   rw [hi9] at h9
   exact h9
theorem k_rstepUpG {u w : World} {x : Sl} {l : List Rat} {M : Nat} (d : Dat u w) (hx : PolV u x l M) (hl : l.length ≤ 6) (hM : M ≤ 4) (hz : ∀ i, i < l.length → Nt.smallQ (l.getD i 0) = true) : Calls Tryz.prog 18 #[x.v] w (Post u w fun v u' => ∃ y : Sl, v = .tuple #[y.v, .int .i64 0] ∧ PolN u' y (Nt.trimQ (Nt.upL l l.length)) (Nt.upK l.length)) :=
 Post.mono (k_rstepUp d hx hl hM) fun v u' _ h => by
  rcases h with ⟨i, h1, h2, _⟩ | ⟨_, h⟩
  ·rw [hz i h1] at h2; cases h2
  ·exact h
set_option maxHeartbeats 2000000 in
theorem k_reversed {u w : World} {x : Sl} {l : List Rat} {M i : Nat} (d : Dat u w) (hx : PolV u x l M) (hl : l.length ≤ 6) (hM : M ≤ 4) (hz : ∀ i, i < l.length → Nt.smallQ (l.getD i 0) = true) (hi : i ≤ l.length) : Calls Tryz.prog 52 #[x.v, .int .i64 (i : Int)] w (Post u w fun v u' => ∃ y : Sl, v = y.v ∧ PolN u' y (Nt.revL l i) (Nt.upK i)) := by
 have hlen := hx.len
 have huk := Nt.upK_succ i
 refine zzl (args := [.slice x.a x.n x.c, .int .i64 (i : Int)]) Tryz.func52 rfl Tryz.ntmps52 (rs := [.tmp 4]) Tryz.results52 (le_b rfl) (le_b rfl) d ?_
 refine sq9 ?_
 refine zza 4 (.v (.slice none 0 0)) ?_
 refine zzb 46 [(0, .v x.v), (1, .v (.int .i64 (i : Int)))] [] ?_
 refine sq9 ?_
 refine zza 10 (.v x.v) ?_
 refine zza 11 (.v (.int .i64 (i : Int))) ?_
 refine zza 12 (.v (.int .i64 (i : Int))) ?_
 have hl11 := hx.len
 have hc11 := hx.cap
 refine sy_front3 13 (n := x.n) (c := x.c) i sl24 rfl rfl (by omega) ?_
 refine zzf 14 45 [.slice x.a i i] ?_
 intro w12 u12 e12 d12
 have k17 := k_stepUpG d12 ((pol_take3 hx (by omega)).ext e12) (by rw [List.length_take]; omega) (by omega) (Nt.small_take hz i)
 with_reducible refine Post.mono k17 ?_
 rintro _ u15 g16 ⟨y13, rfl, h14⟩
 rw [List.length_take, Nat.min_eq_left (by omega), Nt.upL_take _ (Nat.le_refl _)] at h14
 have hly13 := h14.len
 have hmy13 := Nt.zzg (Nt.upL l i)
 rw [Nt.upL_len] at hmy13
 have hky13 := Nt.upK_le (show i ≤ 6 by omega)
 refine zza 9 (.v (.tuple #[y13.v, .int .i64 0])) ?_
 refine zza 15 (.v y13.v) ?_
 refine zza 16 (.v (.int .i64 0)) ?_
 refine zza 5 (.v y13.v) ?_
 refine zza 6 (.v (.int .i64 0)) ?_
 refine zzb 46 [(1, .v (.int .i64 (i : Int))), (5, .v y13.v)] [] ?_
 refine sq9 ?_
 refine zza 17 (.v (.int .i64 (i : Int))) ?_
 refine zyp 18 (x := .v (.int .i64 (IntKind.i64.wrap ((i : Int) + 1)))) (.v (.int .i64 ((i + 1 : Nat) : Int))) (eqI (by rw [IntWalk.i64_in _ (by omega)]; omega)) ?_
 refine sy_make 19 (T := 32) (E := 29) (z := .agg #[.bool false, .slice none 0 0, .slice none 0 0]) (size := 3) (bytes := 56) (i + 1) (rcs (List.replicate (i + 1) rl0)) (by kernel_rfl) (by kernel_rfl) rfl rfl (by omega) (by unfold maxLen; omega) (made_rcs _) ?_
 refine zza 7 (.slc 19 0 (i + 1) (i + 1)) ?_
 refine zzb 46 [(1, .v (.int .i64 (i : Int))), (5, .v y13.v), (7, .slc 19 0 (i + 1) (i + 1))] [(19, ⟨29, rcs (List.replicate (i + 1) rl0)⟩)] ?_
 refine zzc ?_
 refine sq9 ?_
 refine zza 20 (.slc 19 0 (i + 1) (i + 1)) ?_
 refine zza 21 (.v (.int .i64 ((i + 1 : Nat) : Int))) ?_
 refine zza 22 (.v (.int .i64 0)) ?_
 refine zzb 46 [(1, .v (.int .i64 (i : Int))), (5, .v y13.v), (7, .slc 19 0 (i + 1) (i + 1)), (21, .v (.int .i64 ((i + 1 : Nat) : Int))), (22, .v (.int .i64 0))] [(19, ⟨29, rcs (List.replicate (i + 1) rl0)⟩)] ?_
 refine zzs ?_
 refine zym (I := fun m18 S' u' => ∃ (j : Nat) (L : List RL), (m18 = i + 1 - j) ∧ (j ≤ i + 1) ∧ (L.length = i + 1) ∧ (S' = St.of 46 [(1, .v (.int .i64 (i : Int))), (5, .v (.slice y13.a y13.n y13.c)), (7, .slc 19 0 (i + 1) (i + 1)), (21, .v (.int .i64 ((i + 1 : Nat) : Int))), (22, .v (.int .i64 (j : Int)))] [(19, ⟨29, rcs L⟩)]) ∧ (Ext u15 u') ∧ (RatsN u' (L.take j) ((Nt.revL l i).take j) (Nt.upK i))) (fun m S u1 u2 e h => by obtain ⟨j, L, hm, p0, p1, hS, hE, f0⟩ := h; exact ⟨j, L, hm, p0, p1, hS, hE.trans e, f0.ext e⟩) _ (T := St.of 46 [(1, .v (.int .i64 (i : Int))), (5, .v (.slice y13.a y13.n y13.c)), (7, .slc 19 0 (i + 1) (i + 1)), (21, .v (.int .i64 ((i + 1 : Nat) : Int))), (22, .v (.int .i64 0))] [(19, ⟨29, rcs (List.replicate (i + 1) rl0)⟩)]) (by exact zzu _ _ _) ⟨0, List.replicate (i + 1) rl0, rfl, by omega, by simp, rfl, Ext.refl _, RatsN.tnil _ _ _ _⟩ ?_
 rintro m18 _ u18 ⟨j, L, hm18, hj, hL, rfl, e18, hR⟩
 refine sq9 ?_
 refine zza 23 (.v (.bool (decide ((j : Int) < ((i + 1 : Nat) : Int))))) ?_
 refine zzb 46 [(1, .v (.int .i64 (i : Int))), (5, .v y13.v), (7, .slc 19 0 (i + 1) (i + 1)), (21, .v (.int .i64 ((i + 1 : Nat) : Int))), (22, .v (.int .i64 (j : Int))), (23, .v (.bool (decide ((j : Int) < ((i + 1 : Nat) : Int)))))] [(19, ⟨29, rcs L⟩)] ?_
 refine zzc ?_
 refine zzt (b := decide ((j : Int) < ((i + 1 : Nat) : Int))) (by kernel_rfl) (fun hb19 => ?_) (fun hb19 => ?_)
 ·replace hb19 : (decide ((j : Int) < ((i + 1 : Nat) : Int))) = true := hb19
  have qhb19 := of_decide_eq_true hb19
  refine zzr (zzo ?_)
  refine zzc ?_
  refine zzs ?_
  refine sq9 ?_
  refine zza 24 (.v (.int .i64 (j : Int))) ?_
  refine zza 8 (.v (.int .i64 (j : Int))) ?_
  refine zzb 46 [(1, .v (.int .i64 (i : Int))), (5, .v y13.v), (7, .slc 19 0 (i + 1) (i + 1)), (8, .v (.int .i64 (j : Int))), (21, .v (.int .i64 ((i + 1 : Nat) : Int))), (22, .v (.int .i64 (j : Int)))] [(19, ⟨29, rcs L⟩)] ?_
  refine sq9 ?_
  refine zza 25 (.slc 19 0 (i + 1) (i + 1)) ?_
  refine zza 26 (.v (.int .i64 (j : Int))) ?_
  refine zzf 27 48 [.int .i64 0] ?_
  intro w20 u20 e20 d20
  have k25 := k_ratOf d20 (z := 0) (by omega) (by omega)
  with_reducible refine Post.mono k25 ?_
  rintro _ u23 g24 ⟨r21, rfl, h22⟩
  refine zyv 28 (off' := j * 3) (n := i + 1) (off := 0) (sz := 3) (i := (j : Int)) sl32 (by omega) (by omega) (by omega) ?_
  refine zyu (V := ⟨29, rcs L⟩) (off := j * 3) (rcs ((L).set j r21)) ty29 (by rw [zyx]; first|omega|(simp;omega)) (zyw (r := r21) (i := j) (by first|omega|(simp;omega)) rfl) ?_
  refine zzb 46 [(1, .v (.int .i64 (i : Int))), (5, .v y13.v), (7, .slc 19 0 (i + 1) (i + 1)), (8, .v (.int .i64 (j : Int))), (21, .v (.int .i64 ((i + 1 : Nat) : Int))), (22, .v (.int .i64 (j : Int)))] [(19, ⟨29, rcs ((L).set j r21)⟩)] ?_
  refine sq9 ?_
  refine zza 29 (.v (.int .i64 (i : Int))) ?_
  refine zza 30 (.v (.int .i64 (j : Int))) ?_
  refine zyp 31 (x := .v (.int .i64 (IntKind.i64.wrap ((i : Int) - (j : Int))))) (.v (.int .i64 ((i - j : Nat) : Int))) (eqI (by rw [IntWalk.i64_in _ (by omega)]; omega)) ?_
  refine zza 32 (.v y13.v) ?_
  refine zza 33 (.v (.int .i64 (y13.n : Int))) ?_
  refine zza 34 (.v (.bool (decide (((i - j : Nat) : Int) < (y13.n : Int))))) ?_
  refine zzb 46 [(1, .v (.int .i64 (i : Int))), (5, .v y13.v), (7, .slc 19 0 (i + 1) (i + 1)), (8, .v (.int .i64 (j : Int))), (21, .v (.int .i64 ((i + 1 : Nat) : Int))), (22, .v (.int .i64 (j : Int))), (34, .v (.bool (decide (((i - j : Nat) : Int) < (y13.n : Int)))))] [(19, ⟨29, rcs ((L).set j r21)⟩)] ?_
  refine zzt (b := decide (((i - j : Nat) : Int) < (y13.n : Int))) (by kernel_rfl) (fun hb26 => ?_) (fun hb26 => ?_)
  ·replace hb26 : (decide (((i - j : Nat) : Int) < (y13.n : Int))) = true := hb26
   have qhb26 := of_decide_eq_true hb26
   refine zze ?_
   refine zza 35 (.slc 19 0 (i + 1) (i + 1)) ?_
   refine zza 36 (.v (.int .i64 (j : Int))) ?_
   refine zza 37 (.v y13.v) ?_
   refine zza 38 (.v (.int .i64 (i : Int))) ?_
   refine zza 39 (.v (.int .i64 (j : Int))) ?_
   refine zyp 40 (x := .v (.int .i64 (IntKind.i64.wrap ((i : Int) - (j : Int))))) (.v (.int .i64 ((i - j : Nat) : Int))) (eqI (by rw [IntWalk.i64_in _ (by omega)]; omega)) ?_
   have hl27 := (h14.ext (e18.trans (e20.trans g24.ext))).len
   obtain ⟨r27, b27, o27, hA27, hc27, hr27⟩ := pol_atN (h14.ext (e18.trans (e20.trans g24.ext))) (i := i - j) (by omega)
   refine zzz 41 (o27 + (i - j) * 3) (n := y13.n) (off := o27) (sz := 3) (i := ((i - j : Nat) : Int)) (by omega) hA27 (by omega) (by omega) sl32 ?_
   refine zyl 42 r27.cs hc27 ty29 ?_
   refine zyv 43 (off' := j * 3) (n := i + 1) (off := 0) (sz := 3) (i := (j : Int)) sl32 (by omega) (by omega) (by omega) ?_
   refine zyu (V := ⟨29, rcs ((L).set j r21)⟩) (off := j * 3) (rcs ((L).set j r27)) ty29 (by rw [zyx]; first|omega|(simp;omega)) ((zyw (r := r27) (i := j) (by first|omega|(simp;omega)) rfl).trans (by rw [List.set_set])) ?_
   refine zzw ?_
   refine zzo ?_
   refine zze ?_
   refine zyp 44 (x := .v (.int .i64 (IntKind.i64.wrap ((j : Int) + 1)))) (.v (.int .i64 ((j + 1 : Nat) : Int))) (eqI (by rw [IntWalk.i64_in _ (by omega)]; omega)) ?_
   refine zza 22 (.v (.int .i64 ((j + 1 : Nat) : Int))) ?_
   refine zzw ?_
   have ht9 : j < (Nt.revL l i).length := by rw [Nt.revL_len]; omega
   refine ⟨_, ?_, St.of 46 [(1, .v (.int .i64 (i : Int))), (5, .v (.slice y13.a y13.n y13.c)), (7, .slc 19 0 (i + 1) (i + 1)), (21, .v (.int .i64 ((i + 1 : Nat) : Int))), (22, .v (.int .i64 ((j + 1 : Nat) : Int)))] [(19, ⟨29, rcs ((L).set j r27)⟩)], by exact zzu _ _ _, j + 1, (L).set j r27, rfl, by omega, by simpa using hL, rfl, (e18.trans (e20.trans g24.ext)), RatsN.tstep (hR.ext (e20.trans g24.ext)) (by omega) ht9 (RatN.more (K := (Nt.upK i)) hr27 (by omega)) (by rw [Nt.revL_at l (by omega)]; exact Nt.trimD _ _)⟩
   omega
  ·replace hb26 : (decide (((i - j : Nat) : Int) < (y13.n : Int))) = false := hb26
   have qhb26 := of_decide_eq_false hb26
   refine zzr (zzo ?_)
   refine zze ?_
   refine zyp 44 (x := .v (.int .i64 (IntKind.i64.wrap ((j : Int) + 1)))) (.v (.int .i64 ((j + 1 : Nat) : Int))) (eqI (by rw [IntWalk.i64_in _ (by omega)]; omega)) ?_
   refine zza 22 (.v (.int .i64 ((j + 1 : Nat) : Int))) ?_
   refine zzw ?_
   have ht9 : j < (Nt.revL l i).length := by rw [Nt.revL_len]; omega
   refine ⟨_, ?_, St.of 46 [(1, .v (.int .i64 (i : Int))), (5, .v (.slice y13.a y13.n y13.c)), (7, .slc 19 0 (i + 1) (i + 1)), (21, .v (.int .i64 ((i + 1 : Nat) : Int))), (22, .v (.int .i64 ((j + 1 : Nat) : Int)))] [(19, ⟨29, rcs ((L).set j r21)⟩)], by exact zzu _ _ _, j + 1, (L).set j r21, rfl, by omega, by simpa using hL, rfl, (e18.trans (e20.trans g24.ext)), RatsN.tstep (hR.ext (e20.trans g24.ext)) (by omega) ht9 (RatN.more (K := 2) h22 (by omega)) (by rw [Nt.revL_at l (by omega), ← Nt.trimD]; exact (Nt.co_ge (by omega)).symm)⟩
   omega
 ·replace hb19 : (decide ((j : Int) < ((i + 1 : Nat) : Int))) = false := hb19
  have qhb19 := of_decide_eq_false hb19
  refine zyb ?_
  refine zzo ?_
  refine zzc ?_
  refine zyo (r := 7) (t := 19) [7, 19] (by repeat first | exact noAt_of | refine zyc ?_ | refine zye ?_ | refine zyd ?_ | refine zzx ?_ | refine zya ?_) (by kernel_rfl) (by rfl) (by rfl) (by kernel_rfl) (fun b28 u29 e30 hb31 hh32 => ?_)
  have hp33 : PolN u29 ⟨some ⟨b28, 0, none⟩, i + 1, i + 1⟩ (Nt.revL l i) (Nt.upK i) := pol_data1 hh32 (by unfold maxLen; omega) (RatsN.tdone (hR.ext e30) (by omega) (by rw [Nt.revL_len]; omega)) (by omega)
  refine zze ?_
  refine zza 45 (.v (.slice (some ⟨b28, 0, none⟩) (i + 1) (i + 1))) ?_
  refine zza 4 (.v (.slice (some ⟨b28, 0, none⟩) (i + 1) (i + 1))) ?_
  refine zzb 46 [(4, .v (.slice (some ⟨b28, 0, none⟩) (i + 1) (i + 1)))] [] ?_
  refine zzn (ret0 [.slice (some ⟨b28, 0, none⟩) (i + 1) (i + 1)] ⟨zzp, trivial⟩ fun u34 e35 => ?_)
  exact ⟨(⟨some ⟨b28, 0, none⟩, i + 1, i + 1⟩ : Sl), rfl, (hp33.ext e35)⟩
set_option maxHeartbeats 4000000 in
theorem k_rreversed {u w : World} {x : Sl} {l : List Rat} {M i : Nat} (d : Dat u w) (hx : PolV u x l M) (hl : l.length ≤ 6) (hM : M ≤ 4) (hz : ∀ i, i < l.length → Nt.smallQ (l.getD i 0) = true) (hi : i ≤ l.length) : Calls Tryz.prog 54 #[x.v, .int .i64 (i : Int)] w (Post u w fun v u' => ∃ y : Sl, v = .tuple #[y.v, .int .i64 0] ∧ PolN u' y (Nt.revL l i) (Nt.upK i)) := by
 have hlen := hx.len
 have huk := Nt.upK_succ i
 refine zzl (args := [.slice x.a x.n x.c, .int .i64 (i : Int)]) Tryz.func54 rfl Tryz.ntmps54 (rs := [.tmp 4, .tmp 5]) Tryz.results54 (le_b rfl) (le_b rfl) d ?_
 refine sq9 ?_
 refine zza 4 (.v (.slice none 0 0)) ?_
 refine zza 5 (.v (.int .i64 0)) ?_
 refine zzb 41 [(0, .v x.v), (1, .v (.int .i64 (i : Int)))] [] ?_
 refine sq9 ?_
 refine zza 11 (.v x.v) ?_
 refine zza 12 (.v (.int .i64 (i : Int))) ?_
 have hl11 := hx.len
 have hc11 := hx.cap
 refine sy_front 13 (n := x.n) (c := x.c) i sl24 rfl (by omega) ?_
 refine zzf 14 18 [.slice x.a i x.c] ?_
 intro w12 u12 e12 d12
 have k17 := k_rstepUpG d12 ((pol_take hx (by omega)).ext e12) (by rw [List.length_take]; omega) (by omega) (Nt.small_take hz i)
 with_reducible refine Post.mono k17 ?_
 rintro _ u15 g16 ⟨y13, rfl, h14⟩
 rw [List.length_take, Nat.min_eq_left (by omega), Nt.upL_take _ (Nat.le_refl _)] at h14
 have hly13 := h14.len
 have hmy13 := Nt.zzg (Nt.upL l i)
 rw [Nt.upL_len] at hmy13
 have hky13 := Nt.upK_le (show i ≤ 6 by omega)
 refine zza 10 (.v (.tuple #[y13.v, .int .i64 0])) ?_
 refine zza 15 (.v y13.v) ?_
 refine zza 16 (.v (.int .i64 0)) ?_
 refine zza 6 (.v y13.v) ?_
 refine zza 7 (.v (.int .i64 0)) ?_
 refine zzb 41 [(1, .v (.int .i64 (i : Int))), (6, .v y13.v), (7, .v (.int .i64 0))] [] ?_
 refine zzc ?_
 refine sq9 ?_
 refine zza 17 (.v (.int .i64 0)) ?_
 refine zza 18 (.v (.bool false)) ?_
 refine zzb 41 [(1, .v (.int .i64 (i : Int))), (6, .v y13.v), (7, .v (.int .i64 0)), (18, .v (.bool false))] [] ?_
 refine zyr (by kernel_rfl) ?_
 refine zzr (zzo ?_)
 refine sq9 ?_
 refine zza 8 (.v (.slice none 0 0)) ?_
 refine zzb 41 [(1, .v (.int .i64 (i : Int))), (6, .v y13.v), (8, .v (.slice none 0 0))] [] ?_
 refine zzc ?_
 refine sq9 ?_
 refine zza 20 (.v (.int .i64 (i : Int))) ?_
 refine zza 9 (.v (.int .i64 (i : Int))) ?_
 refine zzb 41 [(6, .v y13.v), (8, .v (.slice none 0 0)), (9, .v (.int .i64 (i : Int)))] [] ?_
 refine zzs ?_
 refine zym (I := fun m18 S' u' => (m18 = (i + 1) ∧ S' = St.of 41 [(6, .v (.slice y13.a y13.n y13.c)), (8, .v (.slice none 0 0)), (9, .v (.int .i64 ((i : Int) - ((0 : Nat) : Int))))] [] ∧ Ext u15 u') ∨ (∃ (i2 : Nat) (L2 : List RL) (cs2 : List Value) (cp2 : Nat), m18 = (i + 1) - i2 ∧ i2 ≤ (i + 1) ∧ 0 < i2 ∧ L2.length = i2 ∧ cs2.length = cp2 * 3 ∧ i2 ≤ cp2 ∧ cp2 ≤ maxLen ∧ cs2.take (i2 * 3) = rcs L2 ∧ S' = St.of 41 [(6, .v (.slice y13.a y13.n y13.c)), (8, .slc 35 0 i2 cp2), (9, .v (.int .i64 ((i : Int) - ((i2 : Nat) : Int))))] [(35, ⟨29, cs2⟩)] ∧ Ext u15 u' ∧ RatsN u' L2 ((Nt.revL l i).take i2) (Nt.upK i))) (fun m S u1 u2 e h => by rcases h with ⟨a, b, c⟩ | ⟨a1, a2, a3, a4, b1, b2, b3, b4, b5, b6, b7, b8, b9, b10, b11⟩; exact .inl ⟨a, b, c.trans e⟩; exact .inr ⟨a1, a2, a3, a4, b1, b2, b3, b4, b5, b6, b7, b8, b9, b10.trans e, b11.ext e⟩) _ (T := St.of 41 [(6, .v (.slice y13.a y13.n y13.c)), (8, .v (.slice none 0 0)), (9, .v (.int .i64 ((i : Int) - ((0 : Nat) : Int))))] []) (by exact zzu _ _ _) (.inl ⟨rfl, rfl, Ext.refl _⟩) ?_
 rintro m18 _ u18 (⟨hm18, rfl, e18⟩ | ⟨i2, L2, cs2, cp2, hm18, hi2, hp2, hL2, hc2, hle2, hmx2, ht2, rfl, e18, hR2⟩)
 ·change SW _ _ _ _ (St.of 41 [(6, .v (.slice y13.a y13.n y13.c)), (8, .v (.slice none 0 0)), (9, .v (.int .i64 ((i : Int) - ((0 : Nat) : Int))))] []) _ _
  refine zzc ?_
  refine sq9 ?_
  refine zza 21 (.v (.int .i64 ((i : Int) - ((0 : Nat) : Int)))) ?_
  refine zza 22 (.v (.bool (decide ((0 : Int) ≤ ((i : Int) - ((0 : Nat) : Int)))))) ?_
  refine zzb 41 [(6, .v y13.v), (8, .v (.slice none 0 0)), (9, .v (.int .i64 ((i : Int) - ((0 : Nat) : Int)))), (22, .v (.bool (decide ((0 : Int) ≤ ((i : Int) - ((0 : Nat) : Int))))))] [] ?_
  refine zzt (b := decide ((0 : Int) ≤ ((i : Int) - ((0 : Nat) : Int)))) (by kernel_rfl) (fun hb => ?_) (fun hb => ?_)
  ·clear hb
   refine zzr (zzo ?_)
   refine zzc ?_
   refine zzs ?_
   refine zzc ?_
   rw [show (i : Int) - ((0 : Nat) : Int) = ((i - 0 : Nat) : Int) by omega]
   refine zze ?_
   refine zza 25 (.v (.int .i64 ((i - 0 : Nat) : Int))) ?_
   refine zza 26 (.v y13.v) ?_
   refine zza 27 (.v (.int .i64 (y13.n : Int))) ?_
   refine zza 28 (.v (.bool (decide (((i - 0 : Nat) : Int) < (y13.n : Int))))) ?_
   refine zzb 41 [(6, .v y13.v), (8, .v (.slice none 0 0)), (9, .v (.int .i64 ((i - 0 : Nat) : Int))), (28, .v (.bool (decide (((i - 0 : Nat) : Int) < (y13.n : Int)))))] [] ?_
   refine zzt (b := decide (((i - 0 : Nat) : Int) < (y13.n : Int))) (by kernel_rfl) (fun hb19 => ?_) (fun hb19 => ?_)
   ·replace hb19 : (decide (((i - 0 : Nat) : Int) < (y13.n : Int))) = true := hb19
    have qhb19 := of_decide_eq_true hb19
    refine zze ?_
    refine zza 29 (.v (.slice none 0 0)) ?_
    refine zza 30 (.v y13.v) ?_
    refine zza 31 (.v (.int .i64 ((i - 0 : Nat) : Int))) ?_
    have hl20 := (h14.ext e18).len
    obtain ⟨r20, b20, o20, hA20, hc20, hr20⟩ := pol_atN (h14.ext e18) (i := i - 0) (by omega)
    refine zzz 32 (o20 + (i - 0) * 3) (n := y13.n) (off := o20) (sz := 3) (i := ((i - 0 : Nat) : Int)) (by omega) hA20 (by omega) (by omega) sl32 ?_
    refine zyl 33 r20.cs hc20 ty29 ?_
    refine sy_data 34 ⟨29, r20.cs⟩ 1 (fun b21 u22 e23 h24 => ?_)
    have hp25 : PolN u22 (⟨some ⟨b21, 0, none⟩, 1, 1⟩ : Sl) [((Nt.trimQ (Nt.upL l i)).getD (i - 0) 0)] (Nt.upK i) := pol_lit (L := [r20]) h24 (rats1 (hr20.ext e23)) rfl (by decide)
    refine sy_app0 35 (T := 32) (E := 29) (z := .agg #[.bool false, .slice none 0 0, .slice none 0 0]) (size := 3) (bytes := 56) (b := b21) (off := 0) (m := 1) r20.cs (by kernel_rfl) (by kernel_rfl) (by kernel_rfl) (by decide) rfl (lit_news ((Ext.refl _).cells h24)) (rl_one r20) (by decide) (by decide) (by decide) ?_
    intro c26 cs26 ha26 hb26 hc26 hd26
    refine zza 8 (.slc 35 0 1 c26) ?_
    refine zzw ?_
    refine zzo ?_
    refine zze ?_
    refine zza 23 (.v (.int .i64 ((i - 0 : Nat) : Int))) ?_
    refine zyp 24 (x := .v (.int .i64 (IntKind.i64.wrap (((i - 0 : Nat) : Int) - 1)))) (.v (.int .i64 ((i : Int) - ((1 : Nat) : Int)))) (eqI (by rw [IntWalk.i64_in _ (by omega)]; omega)) ?_
    refine zza 9 (.v (.int .i64 ((i : Int) - ((1 : Nat) : Int)))) ?_
    refine zzw ?_
    have ht27 : 0 < (Nt.revL l i).length := by rw [Nt.revL_len]; omega
    refine ⟨_, ?_, St.of 41 [(6, .v (.slice y13.a y13.n y13.c)), (8, .slc 35 0 1 c26), (9, .v (.int .i64 ((i : Int) - ((1 : Nat) : Int))))] [(35, ⟨29, cs26⟩)], by exact zzu _ _ _, .inr ⟨1, [r20], cs26, c26, rfl, by omega, by omega, by simp, hc26, by omega, hb26, hd26, rfl, (e18.trans e23), (app_first (RatN.more (K := (Nt.upK i)) (hr20.ext e23) (by omega)) ht27 (by rw [Nt.revL_at l (by omega)]; exact Nt.trimD _ _))⟩⟩
    omega
   ·replace hb19 : (decide (((i - 0 : Nat) : Int) < (y13.n : Int))) = false := hb19
    have qhb19 := of_decide_eq_false hb19
    refine zze ?_
    refine zza 36 (.v (.slice none 0 0)) ?_
    refine zzf 37 19 [.int .i64 0] ?_
    intro w28 u28 e28 d28
    have k33 := k_rqOf d28 (z := 0) (by omega) (by omega)
    with_reducible refine Post.mono k33 ?_
    rintro _ u31 g32 ⟨r29, rfl, h30⟩
    refine sy_data 38 ⟨29, r29.cs⟩ 1 (fun b34 u35 e36 h37 => ?_)
    have hp38 : PolN u35 (⟨some ⟨b34, 0, none⟩, 1, 1⟩ : Sl) [((0 : Int) : Rat)] 2 := pol_lit (L := [r29]) h37 (rats1 (h30.ext e36)) rfl (by decide)
    refine sy_app0 39 (T := 32) (E := 29) (z := .agg #[.bool false, .slice none 0 0, .slice none 0 0]) (size := 3) (bytes := 56) (b := b34) (off := 0) (m := 1) r29.cs (by kernel_rfl) (by kernel_rfl) (by kernel_rfl) (by decide) rfl (lit_news ((Ext.refl _).cells h37)) (rl_one r29) (by decide) (by decide) (by decide) ?_
    intro c39 cs39 ha39 hb39 hc39 hd39
    refine zza 8 (.slc 39 0 1 c39) ?_
    refine zzw ?_
    refine zzo ?_
    refine sw_ren (r := 8) (t := 39) 35 [8, 39] (by repeat first | exact noAt_of | refine zyc ?_ | refine zye ?_ | refine zyd ?_ | refine zzx ?_ | refine zya ?_) (by kernel_rfl) (by rfl) (by rfl) (by kernel_rfl) (by kernel_rfl) ?_
    refine zze ?_
    refine zza 23 (.v (.int .i64 ((i - 0 : Nat) : Int))) ?_
    refine zyp 24 (x := .v (.int .i64 (IntKind.i64.wrap (((i - 0 : Nat) : Int) - 1)))) (.v (.int .i64 ((i : Int) - ((1 : Nat) : Int)))) (eqI (by rw [IntWalk.i64_in _ (by omega)]; omega)) ?_
    refine zza 9 (.v (.int .i64 ((i : Int) - ((1 : Nat) : Int)))) ?_
    refine zzw ?_
    have ht40 : 0 < (Nt.revL l i).length := by rw [Nt.revL_len]; omega
    refine ⟨_, ?_, St.of 41 [(6, .v (.slice y13.a y13.n y13.c)), (8, .slc 35 0 1 c39), (9, .v (.int .i64 ((i : Int) - ((1 : Nat) : Int))))] [(35, ⟨29, cs39⟩)], by exact zzu _ _ _, .inr ⟨1, [r29], cs39, c39, rfl, by omega, by omega, by simp, hc39, by omega, hb39, hd39, rfl, (e18.trans (e28.trans (g32.ext.trans e36))), (app_first (RatN.more (K := 2) (h30.ext e36) (by omega)) ht40 (by rw [Nt.revL_at l (by omega), ← Nt.trimD]; exact (Nt.co_ge (by omega)).symm))⟩⟩
    omega
  ·exact absurd hb (by rw [show (decide ((0 : Int) ≤ ((i : Int) - ((0 : Nat) : Int)))) = true from decide_eq_true (by omega)]; decide)
 ·change SW _ _ _ _ (St.of 41 [(6, .v (.slice y13.a y13.n y13.c)), (8, .slc 35 0 i2 cp2), (9, .v (.int .i64 ((i : Int) - ((i2 : Nat) : Int))))] [(35, ⟨29, cs2⟩)]) _ _
  refine zzc ?_
  refine sq9 ?_
  refine zza 21 (.v (.int .i64 ((i : Int) - ((i2 : Nat) : Int)))) ?_
  refine zza 22 (.v (.bool (decide ((0 : Int) ≤ ((i : Int) - ((i2 : Nat) : Int)))))) ?_
  refine zzb 41 [(6, .v y13.v), (8, .slc 35 0 i2 cp2), (9, .v (.int .i64 ((i : Int) - ((i2 : Nat) : Int)))), (22, .v (.bool (decide ((0 : Int) ≤ ((i : Int) - ((i2 : Nat) : Int))))))] [(35, ⟨29, cs2⟩)] ?_
  refine zzt (b := decide ((0 : Int) ≤ ((i : Int) - ((i2 : Nat) : Int)))) (by kernel_rfl) (fun hb41 => ?_) (fun hb41 => ?_)
  ·replace hb41 : (decide ((0 : Int) ≤ ((i : Int) - ((i2 : Nat) : Int)))) = true := hb41
   have qhb41 := of_decide_eq_true hb41
   refine zzr (zzo ?_)
   refine zzc ?_
   refine zzs ?_
   refine zzc ?_
   rw [show (i : Int) - ((i2 : Nat) : Int) = ((i - i2 : Nat) : Int) by omega]
   refine zze ?_
   refine zza 25 (.v (.int .i64 ((i - i2 : Nat) : Int))) ?_
   refine zza 26 (.v y13.v) ?_
   refine zza 27 (.v (.int .i64 (y13.n : Int))) ?_
   refine zza 28 (.v (.bool (decide (((i - i2 : Nat) : Int) < (y13.n : Int))))) ?_
   refine zzb 41 [(6, .v y13.v), (8, .slc 35 0 i2 cp2), (9, .v (.int .i64 ((i - i2 : Nat) : Int))), (28, .v (.bool (decide (((i - i2 : Nat) : Int) < (y13.n : Int)))))] [(35, ⟨29, cs2⟩)] ?_
   refine zzt (b := decide (((i - i2 : Nat) : Int) < (y13.n : Int))) (by kernel_rfl) (fun hb42 => ?_) (fun hb42 => ?_)
   ·replace hb42 : (decide (((i - i2 : Nat) : Int) < (y13.n : Int))) = true := hb42
    have qhb42 := of_decide_eq_true hb42
    refine zze ?_
    refine zza 29 (.slc 35 0 i2 cp2) ?_
    refine zza 30 (.v y13.v) ?_
    refine zza 31 (.v (.int .i64 ((i - i2 : Nat) : Int))) ?_
    have hl43 := (h14.ext e18).len
    obtain ⟨r43, b43, o43, hA43, hc43, hr43⟩ := pol_atN (h14.ext e18) (i := i - i2) (by omega)
    refine zzz 32 (o43 + (i - i2) * 3) (n := y13.n) (off := o43) (sz := 3) (i := ((i - i2 : Nat) : Int)) (by omega) hA43 (by omega) (by omega) sl32 ?_
    refine zyl 33 r43.cs hc43 ty29 ?_
    refine sy_data 34 ⟨29, r43.cs⟩ 1 (fun b44 u45 e46 h47 => ?_)
    have hp48 : PolN u45 (⟨some ⟨b44, 0, none⟩, 1, 1⟩ : Sl) [((Nt.trimQ (Nt.upL l i)).getD (i - i2) 0)] (Nt.upK i) := pol_lit (L := [r43]) h47 (rats1 (hr43.ext e46)) rfl (by decide)
    refine sy_app1 35 (T := 32) (E := 29) (z := .agg #[.bool false, .slice none 0 0, .slice none 0 0]) (size := 3) (bytes := 56) (b := b44) (off := 0) (m := 1) (n := i2) (cap := cp2) (t := 35) (cs0 := cs2) [8, 29, 35] r43.cs (by kernel_rfl) (by kernel_rfl) (by kernel_rfl) (by decide) rfl (lit_news ((Ext.refl _).cells h47)) (rl_one r43) (by decide) (by unfold maxLen; omega) (by omega) (by omega) (by omega) (by omega) (by repeat first | exact noAt_of | refine zyc ?_ | refine zye ?_ | refine zyd ?_ | refine zzx ?_ | refine zya ?_) ?_
    intro c49 cs49 ha49 hb49 hc49 hd49
    have hd49r : cs49.take ((i2 + 1) * 3) = rcs (L2 ++ [r43]) := by rw [hd49, ht2, rcs_app]; rfl
    refine zza 8 (.slc 35 0 (i2 + 1) c49) ?_
    refine zzw ?_
    refine zzo ?_
    refine zze ?_
    refine zza 23 (.v (.int .i64 ((i - i2 : Nat) : Int))) ?_
    refine zyp 24 (x := .v (.int .i64 (IntKind.i64.wrap (((i - i2 : Nat) : Int) - 1)))) (.v (.int .i64 ((i : Int) - ((i2 + 1 : Nat) : Int)))) (eqI (by rw [IntWalk.i64_in _ (by omega)]; omega)) ?_
    refine zza 9 (.v (.int .i64 ((i : Int) - ((i2 + 1 : Nat) : Int)))) ?_
    refine zzw ?_
    have ht50 : i2 < (Nt.revL l i).length := by rw [Nt.revL_len]; omega
    refine ⟨_, ?_, St.of 41 [(6, .v (.slice y13.a y13.n y13.c)), (8, .slc 35 0 (i2 + 1) c49), (9, .v (.int .i64 ((i : Int) - ((i2 + 1 : Nat) : Int))))] [(35, ⟨29, cs49⟩)], by exact zzu _ _ _, .inr ⟨i2 + 1, L2 ++ [r43], cs49, c49, rfl, by omega, by omega, by simp; omega, hc49, by omega, hb49, hd49r, rfl, (e18.trans e46), (app_next (hR2.ext e46) (RatN.more (K := (Nt.upK i)) (hr43.ext e46) (by omega)) ht50 (by rw [Nt.revL_at l (by omega)]; exact Nt.trimD _ _))⟩⟩
    omega
   ·replace hb42 : (decide (((i - i2 : Nat) : Int) < (y13.n : Int))) = false := hb42
    have qhb42 := of_decide_eq_false hb42
    refine zze ?_
    refine zza 36 (.slc 35 0 i2 cp2) ?_
    refine zzf 37 19 [.int .i64 0] ?_
    intro w51 u51 e51 d51
    have k56 := k_rqOf d51 (z := 0) (by omega) (by omega)
    with_reducible refine Post.mono k56 ?_
    rintro _ u54 g55 ⟨r52, rfl, h53⟩
    refine sy_data 38 ⟨29, r52.cs⟩ 1 (fun b57 u58 e59 h60 => ?_)
    have hp61 : PolN u58 (⟨some ⟨b57, 0, none⟩, 1, 1⟩ : Sl) [((0 : Int) : Rat)] 2 := pol_lit (L := [r52]) h60 (rats1 (h53.ext e59)) rfl (by decide)
    refine sy_app1 39 (T := 32) (E := 29) (z := .agg #[.bool false, .slice none 0 0, .slice none 0 0]) (size := 3) (bytes := 56) (b := b57) (off := 0) (m := 1) (n := i2) (cap := cp2) (t := 35) (cs0 := cs2) [8, 35, 36, 39] r52.cs (by kernel_rfl) (by kernel_rfl) (by kernel_rfl) (by decide) rfl (lit_news ((Ext.refl _).cells h60)) (rl_one r52) (by decide) (by unfold maxLen; omega) (by omega) (by omega) (by omega) (by omega) (by repeat first | exact noAt_of | refine zyc ?_ | refine zye ?_ | refine zyd ?_ | refine zzx ?_ | refine zya ?_) ?_
    intro c62 cs62 ha62 hb62 hc62 hd62
    have hd62r : cs62.take ((i2 + 1) * 3) = rcs (L2 ++ [r52]) := by rw [hd62, ht2, rcs_app]; rfl
    refine zza 8 (.slc 39 0 (i2 + 1) c62) ?_
    refine zzw ?_
    refine zzo ?_
    refine sw_ren (r := 8) (t := 39) 35 [8, 39] (by repeat first | exact noAt_of | refine zyc ?_ | refine zye ?_ | refine zyd ?_ | refine zzx ?_ | refine zya ?_) (by kernel_rfl) (by rfl) (by rfl) (by kernel_rfl) (by kernel_rfl) ?_
    refine zze ?_
    refine zza 23 (.v (.int .i64 ((i - i2 : Nat) : Int))) ?_
    refine zyp 24 (x := .v (.int .i64 (IntKind.i64.wrap (((i - i2 : Nat) : Int) - 1)))) (.v (.int .i64 ((i : Int) - ((i2 + 1 : Nat) : Int)))) (eqI (by rw [IntWalk.i64_in _ (by omega)]; omega)) ?_
    refine zza 9 (.v (.int .i64 ((i : Int) - ((i2 + 1 : Nat) : Int)))) ?_
    refine zzw ?_
    have ht63 : i2 < (Nt.revL l i).length := by rw [Nt.revL_len]; omega
    refine ⟨_, ?_, St.of 41 [(6, .v (.slice y13.a y13.n y13.c)), (8, .slc 35 0 (i2 + 1) c62), (9, .v (.int .i64 ((i : Int) - ((i2 + 1 : Nat) : Int))))] [(35, ⟨29, cs62⟩)], by exact zzu _ _ _, .inr ⟨i2 + 1, L2 ++ [r52], cs62, c62, rfl, by omega, by omega, by simp; omega, hc62, by omega, hb62, hd62r, rfl, (e18.trans (e51.trans (g55.ext.trans e59))), (app_next (hR2.ext (e51.trans (g55.ext.trans e59))) (RatN.more (K := 2) (h53.ext e59) (by omega)) ht63 (by rw [Nt.revL_at l (by omega), ← Nt.trimD]; exact (Nt.co_ge (by omega)).symm))⟩⟩
    omega
  ·replace hb41 : (decide ((0 : Int) ≤ ((i : Int) - ((i2 : Nat) : Int)))) = false := hb41
   have qhb41 := of_decide_eq_false hb41
   refine zyb ?_
   refine zzo ?_
   refine zzc ?_
   refine zyo (r := 8) (t := 35) [8, 35] (by repeat first | exact noAt_of | refine zyc ?_ | refine zye ?_ | refine zyd ?_ | refine zzx ?_ | refine zya ?_) (by kernel_rfl) (by rfl) (by rfl) (by kernel_rfl) (fun b65 u66 e67 hb68 hh69 => ?_)
   have hp64 : PolN u66 ⟨some ⟨b65, 0, none⟩, i2, cp2⟩ (Nt.revL l i) (Nt.upK i) := by have h8 := pol_data hh69 ht2 hc2 hle2 hmx2 (hR2.ext e67); rw [List.take_of_length_le (l := (Nt.revL l i)) (by rw [Nt.revL_len]; omega)] at h8; exact h8
   refine zze ?_
   refine zza 40 (.v (.slice (some ⟨b65, 0, none⟩) i2 cp2)) ?_
   refine zza 4 (.v (.slice (some ⟨b65, 0, none⟩) i2 cp2)) ?_
   refine zza 5 (.v (.int .i64 0)) ?_
   refine zzb 41 [(4, .v (.slice (some ⟨b65, 0, none⟩) i2 cp2)), (5, .v (.int .i64 0))] [] ?_
   refine zzn (ret0 [.slice (some ⟨b65, 0, none⟩) i2 cp2, .int .i64 0] ⟨zzp, zzp, trivial⟩ fun u70 e71 => ?_)
   exact ⟨(⟨some ⟨b65, 0, none⟩, i2, cp2⟩ : Sl), rfl, (hp64.ext e71)⟩
theorem k_sameRats {u w : World} {x y : Sl} {l : List Rat} {K M : Nat} (d : Dat u w) (hx : PolV u x l K) (hy : PolV u y l M) (hK : K ≤ 10000000) (hM : M ≤ 10000000) : Calls Tryz.prog 15 #[x.v, y.v] w (Post u w fun v u' => v = .bool true) := by
 have hlen := hx.len
 have hlen2 := hy.len
 have hmx := hx.max
 unfold maxLen at hmx
 refine zzl (args := [.slice x.a x.n x.c, .slice y.a y.n y.c]) Tryz.func15 rfl Tryz.ntmps15 (rs := [.tmp 4]) Tryz.results15 (le_b rfl) (le_b rfl) d ?_
 refine sq9 ?_
 refine zza 4 (.v (.bool false)) ?_
 refine zzb 27 [(0, .v x.v), (1, .v y.v)] [] ?_
 refine zzc ?_
 refine sq9 ?_
 refine zza 6 (.v x.v) ?_
 refine zza 7 (.v (.int .i64 (x.n : Int))) ?_
 refine zza 8 (.v y.v) ?_
 refine zza 9 (.v (.int .i64 (y.n : Int))) ?_
 refine zza 10 (.v (.bool ((x.n : Int) != (y.n : Int)))) ?_
 refine zzb 27 [(0, .v x.v), (1, .v y.v), (10, .v (.bool ((x.n : Int) != (y.n : Int))))] [] ?_
 refine zzt (b := (x.n : Int) != (y.n : Int)) (by kernel_rfl) (fun hb => ?_) (fun hb => ?_)
 ·exact absurd hb (by rw [show ((x.n : Int) != (y.n : Int)) = false from (by rw [hlen, hlen2]; simp)]; decide)
 ·clear hb
  refine zzr (zzo ?_)
  refine zzc ?_
  refine sq9 ?_
  refine zza 5 (.v (.int .i64 0)) ?_
  refine zzb 27 [(0, .v x.v), (1, .v y.v), (5, .v (.int .i64 0))] [] ?_
  refine zzs ?_
  refine zym (I := fun m11 S' u' => ∃ (i : Nat), (m11 = l.length - i) ∧ (i ≤ l.length) ∧ (S' = St.of 27 [(0, .v (.slice x.a x.n x.c)), (1, .v (.slice y.a y.n y.c)), (5, .v (.int .i64 (i : Int)))] []) ∧ (Ext u u')) (fun m S u1 u2 e h => by obtain ⟨i, hm, p0, hS, hE⟩ := h; exact ⟨i, hm, p0, hS, hE.trans e⟩) _ (T := St.of 27 [(0, .v (.slice x.a x.n x.c)), (1, .v (.slice y.a y.n y.c)), (5, .v (.int .i64 0))] []) (by exact zzu _ _ _) ⟨0, rfl, Nat.zero_le _, rfl, Ext.refl _⟩ ?_
  rintro m11 _ u11 ⟨i, hm11, hi, rfl, e11⟩
  refine zzc ?_
  refine sq9 ?_
  refine zza 11 (.v (.int .i64 (i : Int))) ?_
  refine zza 12 (.v x.v) ?_
  refine zza 13 (.v (.int .i64 (x.n : Int))) ?_
  refine zza 14 (.v (.bool (decide ((i : Int) < (x.n : Int))))) ?_
  refine zzb 27 [(0, .v x.v), (1, .v y.v), (5, .v (.int .i64 (i : Int))), (14, .v (.bool (decide ((i : Int) < (x.n : Int)))))] [] ?_
  refine zzt (b := decide ((i : Int) < (x.n : Int))) (by kernel_rfl) (fun hb12 => ?_) (fun hb12 => ?_)
  ·replace hb12 : (decide ((i : Int) < (x.n : Int))) = true := hb12
   have qhb12 := of_decide_eq_true hb12
   refine zzr (zzo ?_)
   refine zzc ?_
   refine zzs ?_
   refine zzc ?_
   refine zzy [0, 0, 3, 7, 0, 0, 48, 112, 255, 511] [(0, []), (1, []), (2, []), (3, []), (4, []), (5, []), (6, []), (7, []), (8, []), (9, [])] (by kernel_rfl) (by kernel_rfl) ?_
   refine zza 17 (.v x.v) ?_
   refine zza 18 (.v (.int .i64 (i : Int))) ?_
   have hl13 := (hx.ext e11).len
   obtain ⟨r13, b13, o13, hA13, hc13, hr13⟩ := pol_at (hx.ext e11) (i := i) (by omega)
   refine zzz 19 (o13 + i * 3) (n := x.n) (off := o13) (sz := 3) (i := (i : Int)) (by omega) hA13 (by omega) (by omega) sl24 ?_
   refine zyl 20 r13.cs hc13 ty29 ?_
   refine zza 21 (.v y.v) ?_
   refine zza 22 (.v (.int .i64 (i : Int))) ?_
   have hl14 := (hy.ext e11).len
   obtain ⟨r14, b14, o14, hA14, hc14, hr14⟩ := pol_at (hy.ext e11) (i := i) (by omega)
   refine zzz 23 (o14 + i * 3) (n := y.n) (off := o14) (sz := 3) (i := (i : Int)) (by omega) hA14 (by omega) (by omega) sl24 ?_
   refine zyl 24 r14.cs hc14 ty29 ?_
   refine zzf 25 56 [r13.v, r14.v] ?_
   intro w15 u15 e15 d15
   have k18 := k_rqCompare d15 (hr13.ext e15) (hr14.ext e15) (by omega) (by omega)
   with_reducible refine Post.mono k18 ?_
   rintro _ u16 g17 rfl
   refine zza 26 (.v (.bool ((Nt.cmpQ (l.getD i 0) (l.getD i 0)) != 0))) ?_
   refine zzb 27 [(0, .v x.v), (1, .v y.v), (5, .v (.int .i64 (i : Int))), (26, .v (.bool ((Nt.cmpQ (l.getD i 0) (l.getD i 0)) != 0)))] [] ?_
   refine zzt (b := (Nt.cmpQ (l.getD i 0) (l.getD i 0)) != 0) (by kernel_rfl) (fun hb => ?_) (fun hb => ?_)
   ·exact absurd hb (by rw [show ((Nt.cmpQ (l.getD i 0) (l.getD i 0)) != 0) = false from (Nt.cmpQ_self _)]; decide)
   ·clear hb
    refine zzr (zzo ?_)
    refine zze ?_
    refine zza 15 (.v (.int .i64 (i : Int))) ?_
    refine zyp 16 (x := .v (.int .i64 (IntKind.i64.wrap ((i : Int) + 1)))) (.v (.int .i64 ((i + 1 : Nat) : Int))) (eqI (by rw [IntWalk.i64_in _ (by omega)]; omega)) ?_
    refine zza 5 (.v (.int .i64 ((i + 1 : Nat) : Int))) ?_
    refine zzw ?_
    refine ⟨_, ?_, St.of 27 [(0, .v (.slice x.a x.n x.c)), (1, .v (.slice y.a y.n y.c)), (5, .v (.int .i64 ((i + 1 : Nat) : Int)))] [], by exact zzu _ _ _, i + 1, rfl, by omega, rfl, (e11.trans (e15.trans g17.ext))⟩
    omega
  ·replace hb12 : (decide ((i : Int) < (x.n : Int))) = false := hb12
   have qhb12 := of_decide_eq_false hb12
   refine zyb ?_
   refine zzo ?_
   refine sq9 ?_
   refine zza 4 (.v (.bool true)) ?_
   refine zzb 27 [(4, .v (.bool true))] [] ?_
   refine zzn (ret0 [.bool true] ⟨zzp, trivial⟩ fun u19 e20 => ?_)
   rfl
namespace Nt
def tapR (b k : List Rat) : Nat → List Rat
 | 0 => trimQ b
 | t + 1 => if (tapR b k t).length = k.length - t + 1 then trimQ (addQ (tapR b k t) ((trimQ ((revL k (k.length - t)).map (· * (tapR b k t).getD (k.length - t) 0))).map (fun z => -z))) else tapR b k t
def tapV (b k : List Rat) (t : Nat) : Rat := if (tapR b k t).length = k.length - t + 1 then (tapR b k t).getD (k.length - t) 0 else ((0 : Int) : Rat)
def tapL (b k : List Rat) : List Rat := (List.range (k.length + 1)).map fun i => tapV b k (k.length - i)
def tapE (b k : List Rat) : Int := if k.all smallQ then (if k.length + 1 < (trimQ b).length then 12 else 0) else 14
def tapO (b k : List Rat) : List Rat := if tapE b k = 0 then tapL b k else []
def tapK (t : Nat) : Nat := 2104 * 2 ^ t - 2100
theorem tapK_succ (t : Nat) : tapK (t + 1) = 2 * tapK t + 2100 ∧ 4 ≤ tapK t := by
 unfold tapK
 have := Nat.one_le_two_pow (n := t)
 rw [Nat.pow_succ]
 omega
theorem tapK_le {t : Nat} (h : t ≤ 7) : tapK t ≤ 270000 := by
 unfold tapK
 have := Nat.pow_le_pow_right (n := 2) (by decide) h
 omega
theorem tapL_len (b k : List Rat) : (tapL b k).length = k.length + 1 := by unfold tapL; simp
theorem tapL_at (b k : List Rat) {t : Nat} (h : t ≤ k.length) : (tapL b k).getD (k.length - t) 0 = tapV b k t := by
 unfold tapL
 rw [List.getD_eq_getElem?_getD, List.getElem?_map, List.getElem?_range (by omega)]
 show tapV b k (k.length - (k.length - t)) = _
 rw [show k.length - (k.length - t) = t by omega]
theorem all_small {k : List Rat} (h : ∀ i, i < k.length → smallQ (k.getD i 0) = true) : k.all smallQ = true := by
 rw [List.all_eq_true]
 intro q hq
 obtain ⟨i, hi, rfl⟩ := List.getElem_of_mem hq
 have := h i hi
 rwa [List.getD_eq_getElem?_getD, List.getElem?_eq_getElem hi] at this
theorem not_all {k : List Rat} {i : Nat} (hi : i < k.length) (h : smallQ (k.getD i 0) = false) : k.all smallQ = false := by
 cases e : k.all smallQ with
 | false => rfl
 | true =>
  rw [List.all_eq_true] at e
  have h9 := e (k[i]) (List.getElem_mem hi)
  rw [List.getD_eq_getElem?_getD, List.getElem?_eq_getElem hi] at h
  have h : smallQ (k[i]) = false := h
  rw [h9] at h; cases h
theorem tapE_bad {b k : List Rat} {i : Nat} (hi : i < k.length) (h : smallQ (k.getD i 0) = false) : tapE b k = 14 ∧ tapO b k = [] := by
 have e : tapE b k = 14 := by unfold tapE; rw [not_all hi h]; rfl
 exact ⟨e, by unfold tapO; rw [e]; rfl⟩
theorem tapE_deg {b k : List Rat} (hz : ∀ i, i < k.length → smallQ (k.getD i 0) = true) (h : k.length + 1 < (trimQ b).length) : tapE b k = 12 ∧ tapO b k = [] := by
 have e : tapE b k = 12 := by unfold tapE; rw [all_small hz, if_pos rfl, if_pos h]
 exact ⟨e, by unfold tapO; rw [e]; rfl⟩
theorem tapE_ok {b k : List Rat} (hz : ∀ i, i < k.length → smallQ (k.getD i 0) = true) (h : (trimQ b).length ≤ k.length + 1) : tapE b k = 0 ∧ tapO b k = tapL b k := by
 have e : tapE b k = 0 := by unfold tapE; rw [all_small hz, if_pos rfl, if_neg (by omega)]
 exact ⟨e, by unfold tapO; rw [e]; rfl⟩
theorem tapR_trim (b k : List Rat) (t : Nat) : trimQ (tapR b k t) = tapR b k t := by
 induction t with
 | zero => exact trim_trim _
 | succ t ih =>
  unfold tapR
  split
  ·exact trim_trim _
  ·exact ih
theorem tapR_len (b k : List Rat) (t : Nat) : (tapR b k t).length ≤ b.length + k.length + 1 := by
 induction t with
 | zero => have h9 := zzg b; show (trimQ b).length ≤ _; omega
 | succ t ih =>
  unfold tapR
  split
  ·refine Nat.le_trans (zzg _) ?_
   rw [addQ_len, List.length_map]
   have h9 : (trimQ ((revL k (k.length - t)).map (· * (tapR b k t).getD (k.length - t) 0))).length ≤ k.length - t + 1 := map_lenQ (Nat.le_of_eq (revL_len _ _))
   omega
  ·exact ih
theorem tapR_yes {b k : List Rat} {t : Nat} (h : (tapR b k t).length = k.length - t + 1) : trimQ (addQ (tapR b k t) ((trimQ ((revL k (k.length - t)).map (· * (tapR b k t).getD (k.length - t) 0))).map (fun z => -z))) = tapR b k (t + 1) := by
 rw [tapR, if_pos h]
theorem tapR_no {b k : List Rat} {t : Nat} (h : (tapR b k t).length ≠ k.length - t + 1) : tapR b k t = tapR b k (t + 1) := by
 rw [tapR, if_neg h]
theorem sub_same (l m : List Rat) : trimQ (addQ l (trimQ (m.map (· * (((-1) : Int) : Rat))))) = trimQ (addQ l (m.map (fun z => -z))) := by
 rw [trim_eq_iff]
 intro i
 rw [addQ_co, addQ_co, trim_co]
 congr 1
 unfold co
 rw [List.getD_eq_getElem?_getD, List.getD_eq_getElem?_getD, List.getElem?_map, List.getElem?_map]
 cases m[i]? with
 | none => rfl
 | some z => simp; grind
theorem tapR_yes2 {b k : List Rat} {t : Nat} (h : (tapR b k t).length = k.length - t + 1) : trimQ (addQ (tapR b k t) (trimQ ((trimQ ((revL k (k.length - t)).map (· * (tapR b k t).getD (k.length - t) 0))).map (· * (((-1) : Int) : Rat))))) = tapR b k (t + 1) := by
 rw [sub_same]; exact tapR_yes h
theorem tapR_no2 {b k : List Rat} {t : Nat} (h : (tapR b k t).length ≠ k.length - t + 1) : trimQ (addQ (tapR b k t) (trimQ ((trimQ ((revL k (k.length - t)).map (· * ((0 : Int) : Rat)))).map (· * (((-1) : Int) : Rat))))) = tapR b k (t + 1) := by
 rw [← tapR_no h, ← tapR_trim b k t]
 rw [trim_eq_iff]
 intro i
 rw [addQ_co, trim_co, trim_co]
 have h0 : co ((trimQ ((revL k (k.length - t)).map (· * ((0 : Int) : Rat)))).map (· * (((-1) : Int) : Rat))) i = 0 := by
  rw [co_map (fun x => x * (((-1) : Int) : Rat)) (Rat.zero_mul _), trim_co, co_map (fun x => x * ((0 : Int) : Rat)) (Rat.zero_mul _)]
  rw [show ((0 : Int) : Rat) = 0 from rfl, Rat.mul_zero, Rat.zero_mul]
 rw [h0, Rat.add_zero]
theorem tapV_yes {b k : List Rat} {t : Nat} (h : (tapR b k t).length = k.length - t + 1) : (tapR b k t).getD (k.length - t) 0 = tapV b k t := by
 unfold tapV; rw [if_pos h]
theorem tapV_no {b k : List Rat} {t : Nat} (h : (tapR b k t).length ≠ k.length - t + 1) : ((0 : Int) : Rat) = tapV b k t := by
 unfold tapV; rw [if_neg h]
end Nt
def RatsTop (u : World) (L : List RL) (l : List Rat) (s K : Nat) : Prop := ∀ j, s ≤ j → j < l.length → RatN u (L.getD j rl0) (l.getD j 0) K
theorem RatsTop.ext {u u' : World} {L : List RL} {l : List Rat} {s K : Nat} (h : RatsTop u L l s K) (e : Ext u u') : RatsTop u' L l s K := fun j h1 h2 => (h j h1 h2).ext e
theorem RatsTop.set {u : World} {L : List RL} {l : List Rat} {s s2 s3 K : Nat} {r : RL} (h : RatsTop u L l s2 K) (hs : s2 = s + 1) (hs3 : s3 = s) (hl : s < L.length) (hr : RatN u r (l.getD s 0) K) : RatsTop u (L.set s r) l s3 K := fun j h1 h2 => by
 subst hs3
 by_cases e : j = s3
 ·subst e; rw [rl_set_same hl]; exact hr
 ·have h9 := h j (by omega) h2
  rw [List.getD_eq_getElem?_getD, List.getElem?_set_ne (by omega), ← List.getD_eq_getElem?_getD]
  exact h9
theorem RatsTop.none {u : World} {L : List RL} {l : List Rat} {s K : Nat} (h : l.length ≤ s) : RatsTop u L l s K := fun j h1 h2 => by omega
theorem RatsTop.done {u : World} {L : List RL} {l : List Rat} {s K : Nat} (h : RatsTop u L l s K) (hs : s = 0) (hL : L.length = l.length) : RatsN u L l K := ⟨hL, fun i hi => by
 first
 | exact h i (by omega) hi
 | exact h i (by omega) (by omega)⟩
set_option maxHeartbeats 8000000 in
theorem k_taps {u w : World} {x y : Sl} {p l : List Rat} {K M : Nat} (d : Dat u w) (hx : PolV u x p K) (hy : PolV u y l M) (hl : l.length ≤ 6) (hM : M ≤ 4) (hK : K ≤ 4) (hp9 : p.length ≤ 1000) : Calls Tryz.prog 13 #[x.v, y.v] w (Post u w fun v u' => ∃ y : Sl, v = .tuple #[y.v, .int .i64 (Nt.tapE p l)] ∧ PolN u' y (Nt.tapO p l) 270000) := by
 have hlen := hx.len
 have hlen2 := hy.len
 have htp := Nt.zzg p
 refine zzl (args := [.slice x.a x.n x.c, .slice y.a y.n y.c]) Tryz.func13 rfl Tryz.ntmps13 (rs := [.tmp 4, .tmp 5]) Tryz.results13 (le_b rfl) (le_b rfl) d ?_
 refine sq9 ?_
 refine zza 4 (.v (.slice none 0 0)) ?_
 refine zza 5 (.v (.int .i64 0)) ?_
 refine zzb 64 [(0, .v x.v), (1, .v y.v)] [] ?_
 refine zzc ?_
 refine sq9 ?_
 refine zza 12 (.v y.v) ?_
 refine zzf 13 45 [y.v] ?_
 intro w11 u11 e11 d11
 have k15 := k_stepUp d11 (hy.ext e11) (by omega) (by omega)
 with_reducible refine Post.mono k15 ?_
 rintro _ u13 g14 (⟨i12, hi12, hs12, rfl⟩ | ⟨hz12, y12, rfl, hy12⟩)
 ·skip
  refine zza 11 (.v (.tuple #[.slice none 0 0, .int .i64 14])) ?_
  refine zza 14 (.v (.slice none 0 0)) ?_
  refine zza 15 (.v (.int .i64 14)) ?_
  refine zza 6 (.v (.slice none 0 0)) ?_
  refine zza 7 (.v (.int .i64 14)) ?_
  refine zzb 64 [(0, .v x.v), (1, .v y.v), (7, .v (.int .i64 14))] [] ?_
  refine sq9 ?_
  refine zza 16 (.v (.int .i64 14)) ?_
  refine zza 17 (.v (.bool true)) ?_
  refine zzb 64 [(0, .v x.v), (1, .v y.v), (7, .v (.int .i64 14)), (17, .v (.bool true))] [] ?_
  refine zyq (by kernel_rfl) ?_
  refine sq9 ?_
  refine zza 18 (.v (.int .i64 14)) ?_
  refine zza 4 (.v (.slice none 0 0)) ?_
  refine zza 5 (.v (.int .i64 14)) ?_
  refine zzb 64 [(4, .v (.slice none 0 0)), (5, .v (.int .i64 14))] [] ?_
  refine zzn (zzv (ret0 [.slice none 0 0, .int .i64 14] ⟨zzp, zzp, trivial⟩ fun u16 e17 => ?_))
  refine ⟨⟨none, 0, 0⟩, by rw [(Nt.tapE_bad hi12 hs12).1]; rfl, by rw [(Nt.tapE_bad hi12 hs12).2]; exact pol_nil _ _⟩
 ·have hly12 := hy12.len
  have hmy12 := Nt.zzg (Nt.upL l l.length)
  rw [Nt.upL_len] at hmy12
  have hky12 := Nt.upK_le (show l.length ≤ 6 by omega)
  refine zza 11 (.v (.tuple #[y12.v, .int .i64 0])) ?_
  refine zza 14 (.v y12.v) ?_
  refine zza 15 (.v (.int .i64 0)) ?_
  refine zza 6 (.v y12.v) ?_
  refine zza 7 (.v (.int .i64 0)) ?_
  refine zzb 64 [(0, .v x.v), (1, .v y.v), (7, .v (.int .i64 0))] [] ?_
  refine sq9 ?_
  refine zza 16 (.v (.int .i64 0)) ?_
  refine zza 17 (.v (.bool false)) ?_
  refine zzb 64 [(0, .v x.v), (1, .v y.v), (7, .v (.int .i64 0)), (17, .v (.bool false))] [] ?_
  refine zyr (by kernel_rfl) ?_
  refine zzr (zzo ?_)
  refine zzc ?_
  refine sq9 ?_
  refine zza 19 (.v x.v) ?_
  refine zzf 20 46 [x.v] ?_
  intro w18 u18 e18 d18
  have k21 := k_poDegree d18 (hx.ext (e11.trans (g14.ext.trans e18))) (by omega) (by first|omega|(simp;omega) | (refine Nat.le_trans (Nt.zzg _) ?_; first|omega|(simp;omega)) | (refine Nat.le_trans (Nt.zzg _) ?_; simp only [List.length_map]; refine Nat.le_trans (Nt.zzg _) ?_; first|omega|(simp;omega)))
  with_reducible refine Post.mono k21 ?_
  rintro _ u19 g20 rfl
  refine zza 21 (.v y.v) ?_
  refine zza 22 (.v (.int .i64 (y.n : Int))) ?_
  refine zza 23 (.v (.bool (decide ((y.n : Int) < (((Nt.trimQ p).length : Int) - 1))))) ?_
  refine zzb 64 [(0, .v x.v), (1, .v y.v), (23, .v (.bool (decide ((y.n : Int) < (((Nt.trimQ p).length : Int) - 1)))))] [] ?_
  refine zzt (b := decide ((y.n : Int) < (((Nt.trimQ p).length : Int) - 1))) (by kernel_rfl) (fun hb22 => ?_) (fun hb22 => ?_)
  ·replace hb22 : (decide ((y.n : Int) < (((Nt.trimQ p).length : Int) - 1))) = true := hb22
   have qhb22 := of_decide_eq_true hb22
   refine sq9 ?_
   refine zza 4 (.v (.slice none 0 0)) ?_
   refine zza 5 (.v (.int .i64 12)) ?_
   refine zzb 64 [(4, .v (.slice none 0 0)), (5, .v (.int .i64 12))] [] ?_
   refine zzn (zzv (ret0 [.slice none 0 0, .int .i64 12] ⟨zzp, zzp, trivial⟩ fun u23 e24 => ?_))
   refine ⟨⟨none, 0, 0⟩, by rw [(Nt.tapE_deg hz12 (by omega)).1]; rfl, by rw [(Nt.tapE_deg hz12 (by omega)).2]; exact pol_nil _ _⟩
  ·replace hb22 : (decide ((y.n : Int) < (((Nt.trimQ p).length : Int) - 1))) = false := hb22
   have qhb22 := of_decide_eq_false hb22
   refine zzr (zzo ?_)
   refine sq9 ?_
   refine zza 24 (.v x.v) ?_
   refine zzf 25 47 [x.v] ?_
   intro w25 u25 e25 d25
   have k30 := k_poTrim d25 (hx.ext (e11.trans (g14.ext.trans (e18.trans (g20.ext.trans e25))))) (by omega) (by first|omega|(simp;omega) | (refine Nat.le_trans (Nt.zzg _) ?_; first|omega|(simp;omega)) | (refine Nat.le_trans (Nt.zzg _) ?_; simp only [List.length_map]; refine Nat.le_trans (Nt.zzg _) ?_; first|omega|(simp;omega)))
   with_reducible refine Post.mono k30 ?_
   rintro _ u28 g29 ⟨y26, rfl, h27⟩
   have hly26 := h27.len
   refine zza 8 (.v y26.v) ?_
   refine zzb 64 [(1, .v y.v), (8, .v y26.v)] [] ?_
   refine sq9 ?_
   refine zza 26 (.v y.v) ?_
   refine zza 27 (.v (.int .i64 (y.n : Int))) ?_
   refine zyp 28 (x := .v (.int .i64 (IntKind.i64.wrap ((y.n : Int) + 1)))) (.v (.int .i64 ((y.n + 1 : Nat) : Int))) (eqI (by rw [IntWalk.i64_in _ (by omega)]; omega)) ?_
   refine sy_make 29 (T := 24) (E := 29) (z := .agg #[.bool false, .slice none 0 0, .slice none 0 0]) (size := 3) (bytes := 56) (y.n + 1) (rcs (List.replicate (y.n + 1) rl0)) (by kernel_rfl) (by kernel_rfl) rfl rfl (by omega) (by unfold maxLen; omega) (made_rcs _) ?_
   refine zza 9 (.slc 29 0 (y.n + 1) (y.n + 1)) ?_
   refine zzb 64 [(1, .v y.v), (8, .v y26.v), (9, .slc 29 0 (y.n + 1) (y.n + 1))] [(29, ⟨29, rcs (List.replicate (y.n + 1) rl0)⟩)] ?_
   refine zzc ?_
   refine sq9 ?_
   refine zza 30 (.v y.v) ?_
   refine zza 31 (.v (.int .i64 (y.n : Int))) ?_
   refine zza 10 (.v (.int .i64 (y.n : Int))) ?_
   refine zzb 64 [(1, .v y.v), (8, .v y26.v), (9, .slc 29 0 (y.n + 1) (y.n + 1)), (10, .v (.int .i64 (y.n : Int)))] [(29, ⟨29, rcs (List.replicate (y.n + 1) rl0)⟩)] ?_
   refine zzs ?_
   rw [show ((y.n : Nat) : Int) = ((l.length : Nat) : Int) by omega]
   have hz := hz12
   refine zym (I := fun m31 S' u' => ∃ (t : Nat) (L : List RL) (r : Sl), (m31 = l.length + 1 - t) ∧ (t ≤ l.length + 1) ∧ (L.length = l.length + 1) ∧ (S' = St.of 64 [(1, .v (.slice y.a y.n y.c)), (8, .v (.slice r.a r.n r.c)), (9, .slc 29 0 (y.n + 1) (y.n + 1)), (10, .v (.int .i64 ((l.length : Int) - ((t : Nat) : Int))))] [(29, ⟨29, rcs L⟩)]) ∧ (Ext u28 u') ∧ (PolN u' r (Nt.tapR p l t) (Nt.tapK t)) ∧ (RatsTop u' L (Nt.tapL p l) (l.length + 1 - t) 270000)) (fun m S u1 u2 e h => by obtain ⟨t, L, r, hm, p0, p1, hS, hE, f0, f1⟩ := h; exact ⟨t, L, r, hm, p0, p1, hS, hE.trans e, f0.ext e, f1.ext e⟩) _ (T := St.of 64 [(1, .v (.slice y.a y.n y.c)), (8, .v (.slice y26.a y26.n y26.c)), (9, .slc 29 0 (y.n + 1) (y.n + 1)), (10, .v (.int .i64 (l.length : Int)))] [(29, ⟨29, rcs (List.replicate (y.n + 1) rl0)⟩)]) (by exact zzu _ _ _) ⟨0, List.replicate (y.n + 1) rl0, y26, rfl, Nat.zero_le _, by simp; omega, rfl, Ext.refl _, (PolN.more h27 (by have h9 : Nt.tapK 0 = 4 := (by decide); omega)), (RatsTop.none (by rw [Nt.tapL_len]; omega))⟩ ?_
   rintro m31 _ u31 ⟨t, L, r, hm31, ht, hL, rfl, e31, hF, hR⟩
   have hrl := hF.len
   have htk := Nt.tapK_succ t
   have htk2 := Nt.tapK_le (show t ≤ 7 by omega)
   have hrb := Nt.tapR_len p l t
   have hrt := congrArg List.length (Nt.tapR_trim p l t)
   refine zzc ?_
   refine sq9 ?_
   refine zza 32 (.v (.int .i64 ((l.length : Int) - ((t : Nat) : Int)))) ?_
   refine zza 33 (.v (.bool (decide ((0 : Int) ≤ ((l.length : Int) - ((t : Nat) : Int)))))) ?_
   refine zzb 64 [(1, .v y.v), (8, .v r.v), (9, .slc 29 0 (y.n + 1) (y.n + 1)), (10, .v (.int .i64 ((l.length : Int) - ((t : Nat) : Int)))), (33, .v (.bool (decide ((0 : Int) ≤ ((l.length : Int) - ((t : Nat) : Int))))))] [(29, ⟨29, rcs L⟩)] ?_
   refine zzt (b := decide ((0 : Int) ≤ ((l.length : Int) - ((t : Nat) : Int)))) (by kernel_rfl) (fun hb32 => ?_) (fun hb32 => ?_)
   ·replace hb32 : (decide ((0 : Int) ≤ ((l.length : Int) - ((t : Nat) : Int)))) = true := hb32
    have qhb32 := of_decide_eq_true hb32
    refine zzr (zzo ?_)
    refine zzc ?_
    refine zzs ?_
    refine zzc ?_
    rw [show (l.length : Int) - ((t : Nat) : Int) = ((l.length - t : Nat) : Int) by omega]
    refine zze ?_
    refine zza 36 (.slc 29 0 (y.n + 1) (y.n + 1)) ?_
    refine zza 37 (.v (.int .i64 ((l.length - t : Nat) : Int))) ?_
    refine zzf 38 48 [.int .i64 0] ?_
    intro w33 u33 e33 d33
    have k38 := k_ratOf d33 (z := 0) (by omega) (by omega)
    with_reducible refine Post.mono k38 ?_
    rintro _ u36 g37 ⟨r34, rfl, h35⟩
    refine zyv 39 (off' := (l.length - t) * 3) (n := y.n + 1) (off := 0) (sz := 3) (i := ((l.length - t : Nat) : Int)) sl24 (by omega) (by omega) (by omega) ?_
    refine zyu (V := ⟨29, rcs L⟩) (off := (l.length - t) * 3) (rcs ((L).set (l.length - t) r34)) ty29 (by rw [zyx]; first|omega|(simp;omega)) (zyw (r := r34) (i := l.length - t) (by first|omega|(simp;omega)) rfl) ?_
    refine zzb 64 [(1, .v y.v), (8, .v r.v), (9, .slc 29 0 (y.n + 1) (y.n + 1)), (10, .v (.int .i64 ((l.length - t : Nat) : Int)))] [(29, ⟨29, rcs ((L).set (l.length - t) r34)⟩)] ?_
    refine sq9 ?_
    refine zza 40 (.v r.v) ?_
    refine zza 41 (.v (.int .i64 (r.n : Int))) ?_
    refine zza 42 (.v (.int .i64 ((l.length - t : Nat) : Int))) ?_
    refine zyp 43 (x := .v (.int .i64 (IntKind.i64.wrap (((l.length - t : Nat) : Int) + 1)))) (.v (.int .i64 (((l.length - t) + 1 : Nat) : Int))) (eqI (by rw [IntWalk.i64_in _ (by omega)]; omega)) ?_
    refine zza 44 (.v (.bool ((r.n : Int) == (((l.length - t) + 1 : Nat) : Int)))) ?_
    refine zzb 64 [(1, .v y.v), (8, .v r.v), (9, .slc 29 0 (y.n + 1) (y.n + 1)), (10, .v (.int .i64 ((l.length - t : Nat) : Int))), (44, .v (.bool ((r.n : Int) == (((l.length - t) + 1 : Nat) : Int))))] [(29, ⟨29, rcs ((L).set (l.length - t) r34)⟩)] ?_
    refine zzt (b := (r.n : Int) == (((l.length - t) + 1 : Nat) : Int)) (by kernel_rfl) (fun hb39 => ?_) (fun hb39 => ?_)
    ·replace hb39 : ((r.n : Int) == (((l.length - t) + 1 : Nat) : Int)) = true := hb39
     have qhb39 : (Nt.tapR p l t).length = l.length - t + 1 := by have h9 := eq_of_beq hb39; omega
     refine sq9 ?_
     refine zza 45 (.slc 29 0 (y.n + 1) (y.n + 1)) ?_
     refine zza 46 (.v (.int .i64 ((l.length - t : Nat) : Int))) ?_
     refine zza 47 (.v r.v) ?_
     refine zza 48 (.v (.int .i64 ((l.length - t : Nat) : Int))) ?_
     have hl40 := (hF.ext (e33.trans g37.ext)).len
     obtain ⟨r40, b40, o40, hA40, hc40, hr40⟩ := pol_atN (hF.ext (e33.trans g37.ext)) (i := l.length - t) (by omega)
     refine zzz 49 (o40 + (l.length - t) * 3) (n := r.n) (off := o40) (sz := 3) (i := ((l.length - t : Nat) : Int)) (by omega) hA40 (by omega) (by omega) sl32 ?_
     refine zyl 50 r40.cs hc40 ty29 ?_
     refine zzf 51 49 [r40.v] ?_
     intro w41 u41 e41 d41
     have k46 := k_ratTrim d41 (hr40.ext e41).raw (by omega)
     with_reducible refine Post.mono k46 ?_
     rintro _ u44 g45 ⟨r42, rfl, h43⟩
     refine zyv 52 (off' := (l.length - t) * 3) (n := y.n + 1) (off := 0) (sz := 3) (i := ((l.length - t : Nat) : Int)) sl24 (by omega) (by omega) (by omega) ?_
     refine zyu (V := ⟨29, rcs ((L).set (l.length - t) r34)⟩) (off := (l.length - t) * 3) (rcs ((L).set (l.length - t) r42)) ty29 (by rw [zyx]; first|omega|(simp;omega)) ((zyw (r := r42) (i := l.length - t) (by first|omega|(simp;omega)) rfl).trans (by rw [List.set_set])) ?_
     refine zzb 64 [(1, .v y.v), (8, .v r.v), (9, .slc 29 0 (y.n + 1) (y.n + 1)), (10, .v (.int .i64 ((l.length - t : Nat) : Int)))] [(29, ⟨29, rcs ((L).set (l.length - t) r42)⟩)] ?_
     refine zzy [0, 0, 0, 6, 0, 0, 48, 112, 254, 511, 1023] [(0, []), (1, []), (2, []), (4, []), (5, []), (6, []), (7, []), (3, []), (8, []), (9, []), (10, [])] (by kernel_rfl) (by kernel_rfl) ?_
     refine zza 53 (.v r.v) ?_
     refine zza 54 (.v y.v) ?_
     refine zza 55 (.v (.int .i64 ((l.length - t : Nat) : Int))) ?_
     refine zza 57 (.slc 29 0 (y.n + 1) (y.n + 1)) ?_
     refine zza 58 (.v (.int .i64 ((l.length - t : Nat) : Int))) ?_
     refine zyv 59 (off' := (l.length - t) * 3) (n := y.n + 1) (off := 0) (sz := 3) (i := ((l.length - t : Nat) : Int)) sl24 (by omega) (by omega) (by omega) ?_
     refine zzh 60 (V := ⟨29, rcs ((L).set (l.length - t) r42)⟩) (off := (l.length - t) * 3) (.v r42.v) ty29 (by have h9 := part_rcs (L := (L).set (l.length - t) r42) (i := l.length - t) (off := (l.length - t) * 3) (by first|omega|(simp;omega)) rfl; rw [rl_set_same (by first|omega|(simp;omega))] at h9; exact h9) ?_
     refine zzf 56 52 [y.v, .int .i64 ((l.length - t : Nat) : Int)] ?_
     intro w47 u47 e47 d47
     have k52 := (show Calls _ _ #[_, .int .i64 ((l.length - t : Nat) : Int)] _ _ from k_reversed (i := l.length - t) d47 (hy.ext (e11.trans (g14.ext.trans (e18.trans (g20.ext.trans (e25.trans (g29.ext.trans (e31.trans (e33.trans (g37.ext.trans (e41.trans (g45.ext.trans e47)))))))))))) (by omega) (by omega) hz (by omega))
     with_reducible refine Post.mono k52 ?_
     rintro _ u50 g51 ⟨y48, rfl, h49⟩
     have hly48 := h49.len
     have hmy48 := Nt.revL_len l (l.length - t)
     have hky48 := Nt.upK_le (show l.length - t ≤ 6 by omega)
     refine zzf 61 51 [y48.v, r42.v] ?_
     intro w53 u53 e53 d53
     have k58 := k_poScale d53 (h49.ext e53).raw (h43.ext (e47.trans (g51.ext.trans e53))).raw (by omega) (by first|omega|(simp;omega) | (refine Nat.le_trans (Nt.zzg _) ?_; first|omega|(simp;omega)) | (refine Nat.le_trans (Nt.zzg _) ?_; simp only [List.length_map]; refine Nat.le_trans (Nt.zzg _) ?_; first|omega|(simp;omega))) (by omega)
     with_reducible refine Post.mono k58 ?_
     rintro _ u56 g57 ⟨y54, rfl, h55⟩
     have hly54 := h55.len
     refine zzf 62 50 [r.v, y54.v] ?_
     intro w59 u59 e59 d59
     have k64 := k_poSub d59 (hF.ext (e33.trans (g37.ext.trans (e41.trans (g45.ext.trans (e47.trans (g51.ext.trans (e53.trans (g57.ext.trans e59))))))))).raw (h55.ext e59).raw (by omega) (by omega) (by first|omega|(simp;omega) | (refine Nat.le_trans (Nt.zzg _) ?_; first|omega|(simp;omega)) | (refine Nat.le_trans (Nt.zzg _) ?_; simp only [List.length_map]; refine Nat.le_trans (Nt.zzg _) ?_; first|omega|(simp;omega))) (by first|omega|(simp;omega) | (refine Nat.le_trans (Nt.zzg _) ?_; first|omega|(simp;omega)) | (refine Nat.le_trans (Nt.zzg _) ?_; simp only [List.length_map]; refine Nat.le_trans (Nt.zzg _) ?_; first|omega|(simp;omega)))
     with_reducible refine Post.mono k64 ?_
     rintro _ u62 g63 ⟨y60, rfl, h61⟩
     have hly60 := h61.len
     refine zza 8 (.v y60.v) ?_
     refine zzw ?_
     refine zzo ?_
     refine zze ?_
     refine zza 34 (.v (.int .i64 ((l.length - t : Nat) : Int))) ?_
     refine zyp 35 (x := .v (.int .i64 (IntKind.i64.wrap (((l.length - t : Nat) : Int) - 1)))) (.v (.int .i64 ((l.length : Int) - ((t + 1 : Nat) : Int)))) (eqI (by rw [IntWalk.i64_in _ (by omega)]; omega)) ?_
     refine zza 10 (.v (.int .i64 ((l.length : Int) - ((t + 1 : Nat) : Int)))) ?_
     refine zzw ?_
     have he9 := Nt.tapR_yes qhb39
     refine ⟨_, ?_, St.of 64 [(1, .v (.slice y.a y.n y.c)), (8, .v (.slice y60.a y60.n y60.c)), (9, .slc 29 0 (y.n + 1) (y.n + 1)), (10, .v (.int .i64 ((l.length : Int) - ((t + 1 : Nat) : Int))))] [(29, ⟨29, rcs ((L).set (l.length - t) r42)⟩)], by exact zzu _ _ _, t + 1, (L).set (l.length - t) r42, y60, rfl, by omega, by simpa using hL, rfl, (e31.trans (e33.trans (g37.ext.trans (e41.trans (g45.ext.trans (e47.trans (g51.ext.trans (e53.trans (g57.ext.trans (e59.trans g63.ext)))))))))), (by rw [← he9]; exact PolN.more (K := ((Nt.tapK t) + ((Nt.upK (l.length - t)) + (Nt.tapK t)) + 1)) h61 (by omega)), (RatsTop.set (s := l.length - t) (hR.ext (e33.trans (g37.ext.trans (e41.trans (g45.ext.trans (e47.trans (g51.ext.trans (e53.trans (g57.ext.trans (e59.trans g63.ext)))))))))) (by omega) (by omega) (by omega) (by rw [Nt.tapL_at p l (by omega), ← Nt.tapV_yes qhb39]; exact RatN.more (K := (Nt.tapK t)) (h43.ext (e47.trans (g51.ext.trans (e53.trans (g57.ext.trans (e59.trans g63.ext)))))) (by omega)))⟩
     omega
    ·replace hb39 : ((r.n : Int) == (((l.length - t) + 1 : Nat) : Int)) = false := hb39
     have qhb39 : (Nt.tapR p l t).length ≠ l.length - t + 1 := by have h9 := ne_of_beq_false hb39; omega
     refine zzr (zzo ?_)
     refine zze ?_
     refine zza 34 (.v (.int .i64 ((l.length - t : Nat) : Int))) ?_
     refine zyp 35 (x := .v (.int .i64 (IntKind.i64.wrap (((l.length - t : Nat) : Int) - 1)))) (.v (.int .i64 ((l.length : Int) - ((t + 1 : Nat) : Int)))) (eqI (by rw [IntWalk.i64_in _ (by omega)]; omega)) ?_
     refine zza 10 (.v (.int .i64 ((l.length : Int) - ((t + 1 : Nat) : Int)))) ?_
     refine zzw ?_
     have he9 := Nt.tapR_no qhb39
     refine ⟨_, ?_, St.of 64 [(1, .v (.slice y.a y.n y.c)), (8, .v (.slice r.a r.n r.c)), (9, .slc 29 0 (y.n + 1) (y.n + 1)), (10, .v (.int .i64 ((l.length : Int) - ((t + 1 : Nat) : Int))))] [(29, ⟨29, rcs ((L).set (l.length - t) r34)⟩)], by exact zzu _ _ _, t + 1, (L).set (l.length - t) r34, r, rfl, by omega, by simpa using hL, rfl, (e31.trans (e33.trans g37.ext)), (by rw [← he9]; exact PolN.more (K := (Nt.tapK t)) (hF.ext (e33.trans g37.ext)) (by omega)), (RatsTop.set (s := l.length - t) (hR.ext (e33.trans g37.ext)) (by omega) (by omega) (by omega) (by rw [Nt.tapL_at p l (by omega), ← Nt.tapV_no qhb39]; exact RatN.more (K := 2) h35 (by omega)))⟩
     omega
   ·replace hb32 : (decide ((0 : Int) ≤ ((l.length : Int) - ((t : Nat) : Int)))) = false := hb32
    have qhb32 := of_decide_eq_false hb32
    refine zyb ?_
    refine zzo ?_
    refine zzc ?_
    refine zyo (r := 9) (t := 29) [9, 29] (by repeat first | exact noAt_of | refine zyc ?_ | refine zye ?_ | refine zyd ?_ | refine zzx ?_ | refine zya ?_) (by kernel_rfl) (by rfl) (by rfl) (by kernel_rfl) (fun b65 u66 e67 hb68 hh69 => ?_)
    have hp70 : PolN u66 ⟨some ⟨b65, 0, none⟩, y.n + 1, y.n + 1⟩ (Nt.tapL p l) 270000 := pol_data1 hh69 (by unfold maxLen; omega) (RatsTop.done (hR.ext e67) (by omega) (by rw [Nt.tapL_len]; omega)) (by omega)
    refine zze ?_
    refine zza 63 (.v (.slice (some ⟨b65, 0, none⟩) (y.n + 1) (y.n + 1))) ?_
    refine zza 4 (.v (.slice (some ⟨b65, 0, none⟩) (y.n + 1) (y.n + 1))) ?_
    refine zza 5 (.v (.int .i64 0)) ?_
    refine zzb 64 [(4, .v (.slice (some ⟨b65, 0, none⟩) (y.n + 1) (y.n + 1))), (5, .v (.int .i64 0))] [] ?_
    refine zzn (ret0 [.slice (some ⟨b65, 0, none⟩) (y.n + 1) (y.n + 1), .int .i64 0] ⟨zzp, zzp, trivial⟩ fun u71 e72 => ?_)
    refine ⟨(⟨some ⟨b65, 0, none⟩, y.n + 1, y.n + 1⟩ : Sl), by rw [(Nt.tapE_ok hz12 (by omega)).1]; rfl, by rw [(Nt.tapE_ok hz12 (by omega)).2]; exact (hp70.ext e72)⟩
set_option maxHeartbeats 8000000 in
theorem k_rtaps {u w : World} {x y : Sl} {p l : List Rat} {K M : Nat} (d : Dat u w) (hx : PolV u x p K) (hy : PolV u y l M) (hl : l.length ≤ 6) (hM : M ≤ 4) (hK : K ≤ 4) (hp9 : p.length ≤ 1000) : Calls Tryz.prog 14 #[x.v, y.v] w (Post u w fun v u' => ∃ y : Sl, v = .tuple #[y.v, .int .i64 (Nt.tapE p l)] ∧ PolN u' y (Nt.tapO p l) 270000) := by
 have hlen := hx.len
 have hlen2 := hy.len
 have htp := Nt.zzg p
 refine zzl (args := [.slice x.a x.n x.c, .slice y.a y.n y.c]) Tryz.func14 rfl Tryz.ntmps14 (rs := [.tmp 4, .tmp 5]) Tryz.results14 (le_b rfl) (le_b rfl) d ?_
 refine sq9 ?_
 refine zza 4 (.v (.slice none 0 0)) ?_
 refine zza 5 (.v (.int .i64 0)) ?_
 refine zzb 70 [(0, .v x.v), (1, .v y.v)] [] ?_
 refine zzc ?_
 refine sq9 ?_
 refine zza 14 (.v y.v) ?_
 refine zzf 15 18 [y.v] ?_
 intro w11 u11 e11 d11
 have k15 := k_rstepUp d11 (hy.ext e11) (by omega) (by omega)
 with_reducible refine Post.mono k15 ?_
 rintro _ u13 g14 (⟨i12, hi12, hs12, rfl⟩ | ⟨hz12, y12, rfl, hy12⟩)
 ·skip
  refine zza 13 (.v (.tuple #[.slice none 0 0, .int .i64 14])) ?_
  refine zza 16 (.v (.slice none 0 0)) ?_
  refine zza 17 (.v (.int .i64 14)) ?_
  refine zza 6 (.v (.slice none 0 0)) ?_
  refine zza 7 (.v (.int .i64 14)) ?_
  refine zzb 70 [(0, .v x.v), (1, .v y.v), (7, .v (.int .i64 14))] [] ?_
  refine sq9 ?_
  refine zza 18 (.v (.int .i64 14)) ?_
  refine zza 19 (.v (.bool true)) ?_
  refine zzb 70 [(0, .v x.v), (1, .v y.v), (7, .v (.int .i64 14)), (19, .v (.bool true))] [] ?_
  refine zyq (by kernel_rfl) ?_
  refine sq9 ?_
  refine zza 20 (.v (.int .i64 14)) ?_
  refine zza 4 (.v (.slice none 0 0)) ?_
  refine zza 5 (.v (.int .i64 14)) ?_
  refine zzb 70 [(4, .v (.slice none 0 0)), (5, .v (.int .i64 14))] [] ?_
  refine zzn (zzv (ret0 [.slice none 0 0, .int .i64 14] ⟨zzp, zzp, trivial⟩ fun u16 e17 => ?_))
  refine ⟨⟨none, 0, 0⟩, by rw [(Nt.tapE_bad hi12 hs12).1]; rfl, by rw [(Nt.tapE_bad hi12 hs12).2]; exact pol_nil _ _⟩
 ·have hly12 := hy12.len
  have hmy12 := Nt.zzg (Nt.upL l l.length)
  rw [Nt.upL_len] at hmy12
  have hky12 := Nt.upK_le (show l.length ≤ 6 by omega)
  refine zza 13 (.v (.tuple #[y12.v, .int .i64 0])) ?_
  refine zza 16 (.v y12.v) ?_
  refine zza 17 (.v (.int .i64 0)) ?_
  refine zza 6 (.v y12.v) ?_
  refine zza 7 (.v (.int .i64 0)) ?_
  refine zzb 70 [(0, .v x.v), (1, .v y.v), (7, .v (.int .i64 0))] [] ?_
  refine sq9 ?_
  refine zza 18 (.v (.int .i64 0)) ?_
  refine zza 19 (.v (.bool false)) ?_
  refine zzb 70 [(0, .v x.v), (1, .v y.v), (7, .v (.int .i64 0)), (19, .v (.bool false))] [] ?_
  refine zyr (by kernel_rfl) ?_
  refine zzr (zzo ?_)
  refine sq9 ?_
  refine zza 21 (.v x.v) ?_
  refine zzf 22 53 [x.v] ?_
  intro w18 u18 e18 d18
  have k23 := k_r5Trim d18 (hx.ext (e11.trans (g14.ext.trans e18))) (by omega) (by first|omega|(simp;omega) | (refine Nat.le_trans (Nt.zzg _) ?_; first|omega|(simp;omega)) | (refine Nat.le_trans (Nt.zzg _) ?_; simp only [List.length_map]; refine Nat.le_trans (Nt.zzg _) ?_; first|omega|(simp;omega)))
  with_reducible refine Post.mono k23 ?_
  rintro _ u21 g22 ⟨y19, rfl, h20⟩
  have hly19 := h20.len
  refine zza 8 (.v y19.v) ?_
  refine zzb 70 [(1, .v y.v), (8, .v y19.v)] [] ?_
  refine zzc ?_
  refine sq9 ?_
  refine zza 23 (.v y19.v) ?_
  refine zza 24 (.v (.int .i64 (y19.n : Int))) ?_
  refine zza 25 (.v y.v) ?_
  refine zza 26 (.v (.int .i64 (y.n : Int))) ?_
  refine zyp 27 (x := .v (.int .i64 (IntKind.i64.wrap ((y.n : Int) + 1)))) (.v (.int .i64 ((y.n + 1 : Nat) : Int))) (eqI (by rw [IntWalk.i64_in _ (by omega)]; omega)) ?_
  refine zza 28 (.v (.bool (decide (((y.n + 1 : Nat) : Int) < (y19.n : Int))))) ?_
  refine zzb 70 [(1, .v y.v), (8, .v y19.v), (28, .v (.bool (decide (((y.n + 1 : Nat) : Int) < (y19.n : Int)))))] [] ?_
  refine zzt (b := decide (((y.n + 1 : Nat) : Int) < (y19.n : Int))) (by kernel_rfl) (fun hb24 => ?_) (fun hb24 => ?_)
  ·replace hb24 : (decide (((y.n + 1 : Nat) : Int) < (y19.n : Int))) = true := hb24
   have qhb24 := of_decide_eq_true hb24
   refine sq9 ?_
   refine zza 4 (.v (.slice none 0 0)) ?_
   refine zza 5 (.v (.int .i64 12)) ?_
   refine zzb 70 [(4, .v (.slice none 0 0)), (5, .v (.int .i64 12))] [] ?_
   refine zzn (zzv (ret0 [.slice none 0 0, .int .i64 12] ⟨zzp, zzp, trivial⟩ fun u25 e26 => ?_))
   refine ⟨⟨none, 0, 0⟩, by rw [(Nt.tapE_deg hz12 (by omega)).1]; rfl, by rw [(Nt.tapE_deg hz12 (by omega)).2]; exact pol_nil _ _⟩
  ·replace hb24 : (decide (((y.n + 1 : Nat) : Int) < (y19.n : Int))) = false := hb24
   have qhb24 := of_decide_eq_false hb24
   refine zzr (zzo ?_)
   refine sq9 ?_
   refine zza 29 (.v y.v) ?_
   refine zza 30 (.v (.int .i64 (y.n : Int))) ?_
   refine zyp 31 (x := .v (.int .i64 (IntKind.i64.wrap ((y.n : Int) + 1)))) (.v (.int .i64 ((y.n + 1 : Nat) : Int))) (eqI (by rw [IntWalk.i64_in _ (by omega)]; omega)) ?_
   refine sy_make 32 (T := 24) (E := 29) (z := .agg #[.bool false, .slice none 0 0, .slice none 0 0]) (size := 3) (bytes := 56) (y.n + 1) (rcs (List.replicate (y.n + 1) rl0)) (by kernel_rfl) (by kernel_rfl) rfl rfl (by omega) (by unfold maxLen; omega) (made_rcs _) ?_
   refine zza 9 (.slc 32 0 (y.n + 1) (y.n + 1)) ?_
   refine zzb 70 [(1, .v y.v), (8, .v y19.v), (9, .slc 32 0 (y.n + 1) (y.n + 1))] [(32, ⟨29, rcs (List.replicate (y.n + 1) rl0)⟩)] ?_
   refine zzc ?_
   refine sq9 ?_
   refine zza 33 (.v y.v) ?_
   refine zza 34 (.v (.int .i64 (y.n : Int))) ?_
   refine zza 10 (.v (.int .i64 (y.n : Int))) ?_
   refine zzb 70 [(1, .v y.v), (8, .v y19.v), (9, .slc 32 0 (y.n + 1) (y.n + 1)), (10, .v (.int .i64 (y.n : Int)))] [(32, ⟨29, rcs (List.replicate (y.n + 1) rl0)⟩)] ?_
   refine zzs ?_
   rw [show ((y.n : Nat) : Int) = ((l.length : Nat) : Int) by omega]
   have hz := hz12
   refine zym (I := fun m27 S' u' => ∃ (t : Nat) (L : List RL) (r : Sl), (m27 = l.length + 1 - t) ∧ (t ≤ l.length + 1) ∧ (L.length = l.length + 1) ∧ (S' = St.of 70 [(1, .v (.slice y.a y.n y.c)), (8, .v (.slice r.a r.n r.c)), (9, .slc 32 0 (y.n + 1) (y.n + 1)), (10, .v (.int .i64 ((l.length : Int) - ((t : Nat) : Int))))] [(32, ⟨29, rcs L⟩)]) ∧ (Ext u21 u') ∧ (PolN u' r (Nt.tapR p l t) (Nt.tapK t)) ∧ (RatsTop u' L (Nt.tapL p l) (l.length + 1 - t) 270000)) (fun m S u1 u2 e h => by obtain ⟨t, L, r, hm, p0, p1, hS, hE, f0, f1⟩ := h; exact ⟨t, L, r, hm, p0, p1, hS, hE.trans e, f0.ext e, f1.ext e⟩) _ (T := St.of 70 [(1, .v (.slice y.a y.n y.c)), (8, .v (.slice y19.a y19.n y19.c)), (9, .slc 32 0 (y.n + 1) (y.n + 1)), (10, .v (.int .i64 (l.length : Int)))] [(32, ⟨29, rcs (List.replicate (y.n + 1) rl0)⟩)]) (by exact zzu _ _ _) ⟨0, List.replicate (y.n + 1) rl0, y19, rfl, Nat.zero_le _, by simp; omega, rfl, Ext.refl _, (PolN.more h20 (by have h9 : Nt.tapK 0 = 4 := (by decide); omega)), (RatsTop.none (by rw [Nt.tapL_len]; omega))⟩ ?_
   rintro m27 _ u27 ⟨t, L, r, hm27, ht, hL, rfl, e27, hF, hR⟩
   have hrl := hF.len
   have htk := Nt.tapK_succ t
   have htk2 := Nt.tapK_le (show t ≤ 7 by omega)
   have hrb := Nt.tapR_len p l t
   have hrt := congrArg List.length (Nt.tapR_trim p l t)
   refine zzc ?_
   refine sq9 ?_
   refine zza 35 (.v (.int .i64 ((l.length : Int) - ((t : Nat) : Int)))) ?_
   refine zza 36 (.v (.bool (decide ((0 : Int) ≤ ((l.length : Int) - ((t : Nat) : Int)))))) ?_
   refine zzb 70 [(1, .v y.v), (8, .v r.v), (9, .slc 32 0 (y.n + 1) (y.n + 1)), (10, .v (.int .i64 ((l.length : Int) - ((t : Nat) : Int)))), (36, .v (.bool (decide ((0 : Int) ≤ ((l.length : Int) - ((t : Nat) : Int))))))] [(32, ⟨29, rcs L⟩)] ?_
   refine zzt (b := decide ((0 : Int) ≤ ((l.length : Int) - ((t : Nat) : Int)))) (by kernel_rfl) (fun hb28 => ?_) (fun hb28 => ?_)
   ·replace hb28 : (decide ((0 : Int) ≤ ((l.length : Int) - ((t : Nat) : Int)))) = true := hb28
    have qhb28 := of_decide_eq_true hb28
    refine zzr (zzo ?_)
    refine zzc ?_
    refine zzs ?_
    refine zzc ?_
    rw [show (l.length : Int) - ((t : Nat) : Int) = ((l.length - t : Nat) : Int) by omega]
    refine zze ?_
    refine zza 39 (.slc 32 0 (y.n + 1) (y.n + 1)) ?_
    refine zza 40 (.v (.int .i64 ((l.length - t : Nat) : Int))) ?_
    refine zzf 41 19 [.int .i64 0] ?_
    intro w29 u29 e29 d29
    have k34 := k_rqOf d29 (z := 0) (by omega) (by omega)
    with_reducible refine Post.mono k34 ?_
    rintro _ u32 g33 ⟨r30, rfl, h31⟩
    refine zyv 42 (off' := (l.length - t) * 3) (n := y.n + 1) (off := 0) (sz := 3) (i := ((l.length - t : Nat) : Int)) sl24 (by omega) (by omega) (by omega) ?_
    refine zyu (V := ⟨29, rcs L⟩) (off := (l.length - t) * 3) (rcs ((L).set (l.length - t) r30)) ty29 (by rw [zyx]; first|omega|(simp;omega)) (zyw (r := r30) (i := l.length - t) (by first|omega|(simp;omega)) rfl) ?_
    refine zzb 70 [(1, .v y.v), (8, .v r.v), (9, .slc 32 0 (y.n + 1) (y.n + 1)), (10, .v (.int .i64 ((l.length - t : Nat) : Int)))] [(32, ⟨29, rcs ((L).set (l.length - t) r30)⟩)] ?_
    refine zzc ?_
    refine sq9 ?_
    refine zza 43 (.v r.v) ?_
    refine zza 44 (.v (.int .i64 (r.n : Int))) ?_
    refine zza 45 (.v (.int .i64 ((l.length - t : Nat) : Int))) ?_
    refine zyp 46 (x := .v (.int .i64 (IntKind.i64.wrap (((l.length - t : Nat) : Int) + 1)))) (.v (.int .i64 (((l.length - t) + 1 : Nat) : Int))) (eqI (by rw [IntWalk.i64_in _ (by omega)]; omega)) ?_
    refine zza 47 (.v (.bool ((r.n : Int) == (((l.length - t) + 1 : Nat) : Int)))) ?_
    refine zzb 70 [(1, .v y.v), (8, .v r.v), (9, .slc 32 0 (y.n + 1) (y.n + 1)), (10, .v (.int .i64 ((l.length - t : Nat) : Int))), (47, .v (.bool ((r.n : Int) == (((l.length - t) + 1 : Nat) : Int))))] [(32, ⟨29, rcs ((L).set (l.length - t) r30)⟩)] ?_
    refine zzt (b := (r.n : Int) == (((l.length - t) + 1 : Nat) : Int)) (by kernel_rfl) (fun hb35 => ?_) (fun hb35 => ?_)
    ·replace hb35 : ((r.n : Int) == (((l.length - t) + 1 : Nat) : Int)) = true := hb35
     have qhb35 : (Nt.tapR p l t).length = l.length - t + 1 := by have h9 := eq_of_beq hb35; omega
     refine zze ?_
     refine zza 48 (.slc 32 0 (y.n + 1) (y.n + 1)) ?_
     refine zza 49 (.v (.int .i64 ((l.length - t : Nat) : Int))) ?_
     refine zza 50 (.v r.v) ?_
     refine zza 51 (.v (.int .i64 ((l.length - t : Nat) : Int))) ?_
     have hl36 := (hF.ext (e29.trans g33.ext)).len
     obtain ⟨r36, b36, o36, hA36, hc36, hr36⟩ := pol_atN (hF.ext (e29.trans g33.ext)) (i := l.length - t) (by omega)
     refine zzz 52 (o36 + (l.length - t) * 3) (n := r.n) (off := o36) (sz := 3) (i := ((l.length - t : Nat) : Int)) (by omega) hA36 (by omega) (by omega) sl32 ?_
     refine zyl 53 r36.cs hc36 ty29 ?_
     refine zyv 54 (off' := (l.length - t) * 3) (n := y.n + 1) (off := 0) (sz := 3) (i := ((l.length - t : Nat) : Int)) sl24 (by omega) (by omega) (by omega) ?_
     refine zyu (V := ⟨29, rcs ((L).set (l.length - t) r30)⟩) (off := (l.length - t) * 3) (rcs ((L).set (l.length - t) r36)) ty29 (by rw [zyx]; first|omega|(simp;omega)) ((zyw (r := r36) (i := l.length - t) (by first|omega|(simp;omega)) rfl).trans (by rw [List.set_set])) ?_
     refine zzb 70 [(1, .v y.v), (8, .v r.v), (9, .slc 32 0 (y.n + 1) (y.n + 1)), (10, .v (.int .i64 ((l.length - t : Nat) : Int)))] [(32, ⟨29, rcs ((L).set (l.length - t) r36)⟩)] ?_
     refine sq9 ?_
     refine zza 56 (.v y.v) ?_
     refine zza 57 (.v (.int .i64 ((l.length - t : Nat) : Int))) ?_
     refine zzf 58 54 [y.v, .int .i64 ((l.length - t : Nat) : Int)] ?_
     intro w37 u37 e37 d37
     have k42 := (show Calls _ _ #[_, .int .i64 ((l.length - t : Nat) : Int)] _ _ from k_rreversed (i := l.length - t) d37 (hy.ext (e11.trans (g14.ext.trans (e18.trans (g22.ext.trans (e27.trans (e29.trans (g33.ext.trans e37)))))))) (by omega) (by omega) hz (by omega))
     with_reducible refine Post.mono k42 ?_
     rintro _ u40 g41 ⟨y38, rfl, h39⟩
     have hly38 := h39.len
     have hmy38 := Nt.revL_len l (l.length - t)
     have hky38 := Nt.upK_le (show l.length - t ≤ 6 by omega)
     refine zza 55 (.v (.tuple #[y38.v, .int .i64 0])) ?_
     refine zza 59 (.v y38.v) ?_
     refine zza 60 (.v (.int .i64 0)) ?_
     refine zza 11 (.v y38.v) ?_
     refine zza 12 (.v (.int .i64 0)) ?_
     refine zzb 70 [(1, .v y.v), (8, .v r.v), (9, .slc 32 0 (y.n + 1) (y.n + 1)), (10, .v (.int .i64 ((l.length - t : Nat) : Int))), (11, .v y38.v)] [(32, ⟨29, rcs ((L).set (l.length - t) r36)⟩)] ?_
     refine zze ?_
     refine zza 61 (.v r.v) ?_
     refine zza 62 (.v y38.v) ?_
     refine zza 63 (.slc 32 0 (y.n + 1) (y.n + 1)) ?_
     refine zza 64 (.v (.int .i64 ((l.length - t : Nat) : Int))) ?_
     refine zyv 65 (off' := (l.length - t) * 3) (n := y.n + 1) (off := 0) (sz := 3) (i := ((l.length - t : Nat) : Int)) sl24 (by omega) (by omega) (by omega) ?_
     refine zzh 66 (V := ⟨29, rcs ((L).set (l.length - t) r36)⟩) (off := (l.length - t) * 3) (.v r36.v) ty29 (by have h9 := part_rcs (L := (L).set (l.length - t) r36) (i := l.length - t) (off := (l.length - t) * 3) (by first|omega|(simp;omega)) rfl; rw [rl_set_same (by first|omega|(simp;omega))] at h9; exact h9) ?_
     refine zzf 67 21 [y38.v, r36.v] ?_
     intro w43 u43 e43 d43
     have k48 := k_r5Scale d43 (h39.ext e43).raw (hr36.ext (e37.trans (g41.ext.trans e43))).raw (by omega) (by omega) (by omega)
     with_reducible refine Post.mono k48 ?_
     rintro _ u46 g47 ⟨y44, rfl, h45⟩
     have hly44 := h45.len
     refine zzf 68 55 [r.v, y44.v] ?_
     intro w49 u49 e49 d49
     have k54 := k_r5Sub d49 (hF.ext (e29.trans (g33.ext.trans (e37.trans (g41.ext.trans (e43.trans (g47.ext.trans e49))))))).raw (h45.ext e49).raw (by omega) (by omega) (by first|omega|(simp;omega) | (refine Nat.le_trans (Nt.zzg _) ?_; first|omega|(simp;omega)) | (refine Nat.le_trans (Nt.zzg _) ?_; simp only [List.length_map]; refine Nat.le_trans (Nt.zzg _) ?_; first|omega|(simp;omega))) (by first|omega|(simp;omega) | (refine Nat.le_trans (Nt.zzg _) ?_; first|omega|(simp;omega)) | (refine Nat.le_trans (Nt.zzg _) ?_; simp only [List.length_map]; refine Nat.le_trans (Nt.zzg _) ?_; first|omega|(simp;omega)))
     with_reducible refine Post.mono k54 ?_
     rintro _ u52 g53 ⟨y50, rfl, h51⟩
     have hly50 := h51.len
     refine zza 8 (.v y50.v) ?_
     refine zzw ?_
     refine zzo ?_
     refine zze ?_
     refine zza 37 (.v (.int .i64 ((l.length - t : Nat) : Int))) ?_
     refine zyp 38 (x := .v (.int .i64 (IntKind.i64.wrap (((l.length - t : Nat) : Int) - 1)))) (.v (.int .i64 ((l.length : Int) - ((t + 1 : Nat) : Int)))) (eqI (by rw [IntWalk.i64_in _ (by omega)]; omega)) ?_
     refine zza 10 (.v (.int .i64 ((l.length : Int) - ((t + 1 : Nat) : Int)))) ?_
     refine zzw ?_
     have he9 := Nt.tapR_yes2 qhb35
     refine ⟨_, ?_, St.of 70 [(1, .v (.slice y.a y.n y.c)), (8, .v (.slice y50.a y50.n y50.c)), (9, .slc 32 0 (y.n + 1) (y.n + 1)), (10, .v (.int .i64 ((l.length : Int) - ((t + 1 : Nat) : Int))))] [(32, ⟨29, rcs ((L).set (l.length - t) r36)⟩)], by exact zzu _ _ _, t + 1, (L).set (l.length - t) r36, y50, rfl, by omega, by simpa using hL, rfl, (e27.trans (e29.trans (g33.ext.trans (e37.trans (g41.ext.trans (e43.trans (g47.ext.trans (e49.trans g53.ext)))))))), (by rw [← he9]; exact PolN.more (K := ((Nt.tapK t) + ((Nt.upK (l.length - t)) + (Nt.tapK t) + 1) + 20)) h51 (by omega)), (RatsTop.set (s := l.length - t) (hR.ext (e29.trans (g33.ext.trans (e37.trans (g41.ext.trans (e43.trans (g47.ext.trans (e49.trans g53.ext)))))))) (by omega) (by omega) (by omega) (by rw [Nt.tapL_at p l (by omega), ← Nt.tapV_yes qhb35]; exact RatN.more (K := (Nt.tapK t)) (hr36.ext (e37.trans (g41.ext.trans (e43.trans (g47.ext.trans (e49.trans g53.ext)))))) (by omega)))⟩
     omega
    ·replace hb35 : ((r.n : Int) == (((l.length - t) + 1 : Nat) : Int)) = false := hb35
     have qhb35 : (Nt.tapR p l t).length ≠ l.length - t + 1 := by have h9 := ne_of_beq_false hb35; omega
     refine zzr (zzo ?_)
     refine sq9 ?_
     refine zza 56 (.v y.v) ?_
     refine zza 57 (.v (.int .i64 ((l.length - t : Nat) : Int))) ?_
     refine zzf 58 54 [y.v, .int .i64 ((l.length - t : Nat) : Int)] ?_
     intro w55 u55 e55 d55
     have k60 := (show Calls _ _ #[_, .int .i64 ((l.length - t : Nat) : Int)] _ _ from k_rreversed (i := l.length - t) d55 (hy.ext (e11.trans (g14.ext.trans (e18.trans (g22.ext.trans (e27.trans (e29.trans (g33.ext.trans e55)))))))) (by omega) (by omega) hz (by omega))
     with_reducible refine Post.mono k60 ?_
     rintro _ u58 g59 ⟨y56, rfl, h57⟩
     have hly56 := h57.len
     have hmy56 := Nt.revL_len l (l.length - t)
     have hky56 := Nt.upK_le (show l.length - t ≤ 6 by omega)
     refine zza 55 (.v (.tuple #[y56.v, .int .i64 0])) ?_
     refine zza 59 (.v y56.v) ?_
     refine zza 60 (.v (.int .i64 0)) ?_
     refine zza 11 (.v y56.v) ?_
     refine zza 12 (.v (.int .i64 0)) ?_
     refine zzb 70 [(1, .v y.v), (8, .v r.v), (9, .slc 32 0 (y.n + 1) (y.n + 1)), (10, .v (.int .i64 ((l.length - t : Nat) : Int))), (11, .v y56.v)] [(32, ⟨29, rcs ((L).set (l.length - t) r30)⟩)] ?_
     refine zze ?_
     refine zza 61 (.v r.v) ?_
     refine zza 62 (.v y56.v) ?_
     refine zza 63 (.slc 32 0 (y.n + 1) (y.n + 1)) ?_
     refine zza 64 (.v (.int .i64 ((l.length - t : Nat) : Int))) ?_
     refine zyv 65 (off' := (l.length - t) * 3) (n := y.n + 1) (off := 0) (sz := 3) (i := ((l.length - t : Nat) : Int)) sl24 (by omega) (by omega) (by omega) ?_
     refine zzh 66 (V := ⟨29, rcs ((L).set (l.length - t) r30)⟩) (off := (l.length - t) * 3) (.v r30.v) ty29 (by have h9 := part_rcs (L := (L).set (l.length - t) r30) (i := l.length - t) (off := (l.length - t) * 3) (by first|omega|(simp;omega)) rfl; rw [rl_set_same (by first|omega|(simp;omega))] at h9; exact h9) ?_
     refine zzf 67 21 [y56.v, r30.v] ?_
     intro w61 u61 e61 d61
     have k66 := k_r5Scale d61 (h57.ext e61).raw (h31.ext (e55.trans (g59.ext.trans e61))).raw (by omega) (by omega) (by omega)
     with_reducible refine Post.mono k66 ?_
     rintro _ u64 g65 ⟨y62, rfl, h63⟩
     have hly62 := h63.len
     refine zzf 68 55 [r.v, y62.v] ?_
     intro w67 u67 e67 d67
     have k72 := k_r5Sub d67 (hF.ext (e29.trans (g33.ext.trans (e55.trans (g59.ext.trans (e61.trans (g65.ext.trans e67))))))).raw (h63.ext e67).raw (by omega) (by omega) (by first|omega|(simp;omega) | (refine Nat.le_trans (Nt.zzg _) ?_; first|omega|(simp;omega)) | (refine Nat.le_trans (Nt.zzg _) ?_; simp only [List.length_map]; refine Nat.le_trans (Nt.zzg _) ?_; first|omega|(simp;omega))) (by first|omega|(simp;omega) | (refine Nat.le_trans (Nt.zzg _) ?_; first|omega|(simp;omega)) | (refine Nat.le_trans (Nt.zzg _) ?_; simp only [List.length_map]; refine Nat.le_trans (Nt.zzg _) ?_; first|omega|(simp;omega)))
     with_reducible refine Post.mono k72 ?_
     rintro _ u70 g71 ⟨y68, rfl, h69⟩
     have hly68 := h69.len
     refine zza 8 (.v y68.v) ?_
     refine zzw ?_
     refine zzo ?_
     refine zze ?_
     refine zza 37 (.v (.int .i64 ((l.length - t : Nat) : Int))) ?_
     refine zyp 38 (x := .v (.int .i64 (IntKind.i64.wrap (((l.length - t : Nat) : Int) - 1)))) (.v (.int .i64 ((l.length : Int) - ((t + 1 : Nat) : Int)))) (eqI (by rw [IntWalk.i64_in _ (by omega)]; omega)) ?_
     refine zza 10 (.v (.int .i64 ((l.length : Int) - ((t + 1 : Nat) : Int)))) ?_
     refine zzw ?_
     have he9 := Nt.tapR_no2 qhb35
     refine ⟨_, ?_, St.of 70 [(1, .v (.slice y.a y.n y.c)), (8, .v (.slice y68.a y68.n y68.c)), (9, .slc 32 0 (y.n + 1) (y.n + 1)), (10, .v (.int .i64 ((l.length : Int) - ((t + 1 : Nat) : Int))))] [(32, ⟨29, rcs ((L).set (l.length - t) r30)⟩)], by exact zzu _ _ _, t + 1, (L).set (l.length - t) r30, y68, rfl, by omega, by simpa using hL, rfl, (e27.trans (e29.trans (g33.ext.trans (e55.trans (g59.ext.trans (e61.trans (g65.ext.trans (e67.trans g71.ext)))))))), (by rw [← he9]; exact PolN.more (K := ((Nt.tapK t) + ((Nt.upK (l.length - t)) + 2 + 1) + 20)) h69 (by omega)), (RatsTop.set (s := l.length - t) (hR.ext (e29.trans (g33.ext.trans (e55.trans (g59.ext.trans (e61.trans (g65.ext.trans (e67.trans g71.ext)))))))) (by omega) (by omega) (by omega) (by rw [Nt.tapL_at p l (by omega), ← Nt.tapV_no qhb35]; exact RatN.more (K := 2) (h31.ext (e55.trans (g59.ext.trans (e61.trans (g65.ext.trans (e67.trans g71.ext)))))) (by omega)))⟩
     omega
   ·replace hb28 : (decide ((0 : Int) ≤ ((l.length : Int) - ((t : Nat) : Int)))) = false := hb28
    have qhb28 := of_decide_eq_false hb28
    refine zyb ?_
    refine zzo ?_
    refine zzc ?_
    refine zyo (r := 9) (t := 32) [9, 32] (by repeat first | exact noAt_of | refine zyc ?_ | refine zye ?_ | refine zyd ?_ | refine zzx ?_ | refine zya ?_) (by kernel_rfl) (by rfl) (by rfl) (by kernel_rfl) (fun b73 u74 e75 hb76 hh77 => ?_)
    have hp78 : PolN u74 ⟨some ⟨b73, 0, none⟩, y.n + 1, y.n + 1⟩ (Nt.tapL p l) 270000 := pol_data1 hh77 (by unfold maxLen; omega) (RatsTop.done (hR.ext e75) (by omega) (by rw [Nt.tapL_len]; omega)) (by omega)
    refine zze ?_
    refine zza 69 (.v (.slice (some ⟨b73, 0, none⟩) (y.n + 1) (y.n + 1))) ?_
    refine zza 4 (.v (.slice (some ⟨b73, 0, none⟩) (y.n + 1) (y.n + 1))) ?_
    refine zza 5 (.v (.int .i64 0)) ?_
    refine zzb 70 [(4, .v (.slice (some ⟨b73, 0, none⟩) (y.n + 1) (y.n + 1))), (5, .v (.int .i64 0))] [] ?_
    refine zzn (ret0 [.slice (some ⟨b73, 0, none⟩) (y.n + 1) (y.n + 1), .int .i64 0] ⟨zzp, zzp, trivial⟩ fun u79 e80 => ?_)
    refine ⟨(⟨some ⟨b73, 0, none⟩, y.n + 1, y.n + 1⟩ : Sl), by rw [(Nt.tapE_ok hz12 (by omega)).1]; rfl, by rw [(Nt.tapE_ok hz12 (by omega)).2]; exact (hp78.ext e80)⟩
end Go.Proofs.YtmonfdlnihaabaaGreat
namespace Go.Proofs.YtmonfdlnihaabaaGreat
open Go.RowKit Go.ChangeShapes Go.WideShapes
set_option linter.unusedVariables false
theorem wrap64_ex (n : Int) : ∃ z, IntKind.i64.wrap n = z ∧ -9223372036854775808 ≤ z ∧ z ≤ 9223372036854775807 := ⟨_, rfl, by rw [IntKind.wrap_i64]; omega⟩
section
variable {u : World} {k : IntKind} {A A' : Option Addr} {n c m : Nat} {l : List Int}
end
section
variable {H : Type} {enc : TypeId × Value → H} {w : World} {base : Nat} {spare : Nat → Bool} {held : Bool} {r0 : Reach} {b0 : Nat} {v : Value} {d : DataW H} {p : List MemPlace}
end
end Go.Proofs.YtmonfdlnihaabaaGreat
namespace Go.Proofs.YtmonfdlnihaabaaGreat
open Go.RowKit
set_option linter.unusedVariables false
theorem k_wat {u w : World} {x : Sl} {l : List Int} {i : Nat} (d : Dat u w) (hx : SlR .i64 u x.a x.n x.c l) (hb : ∀ z ∈ l, -9223372036854775808 ≤ z ∧ z ≤ 9223372036854775807) (hi9 : i ≤ 1000000000) : Calls Tryz.prog 11 #[x.v, .int .i64 (i : Int)] w (Post u w fun v _ => v = .int .i64 (l.getD i 0)) := by
 have hlen : l.length = x.n := hx.1
 refine zzl (args := [.slice x.a x.n x.c, .int .i64 (i : Int)]) Tryz.func11 rfl Tryz.ntmps11 (rs := [.tmp 4]) Tryz.results11 (le_b rfl) (le_b rfl) d ?_
 refine sq9 ?_
 refine zza 4 (.v (.int .i64 0)) ?_
 refine zzb 17 [(0, .v x.v), (1, .v (.int .i64 (i : Int)))] [] ?_
 refine zzc ?_
 refine sq9 ?_
 refine zza 5 (.v (.int .i64 (i : Int))) ?_
 refine zza 6 (.v (.bool (decide ((0 : Int) ≤ (i : Int))))) ?_
 refine zyp 7 (x := .v (.bool (decide ((0 : Int) ≤ (i : Int))))) (.v (.bool true)) (by rw [show (decide ((0 : Int) ≤ (i : Int))) = true from decide_eq_true (by omega)]) ?_
 refine zza 8 (.v (.int .i64 (i : Int))) ?_ (hw := w1 2 true 7)
 refine zza 9 (.v x.v) ?_ (hw := w1 2 true 7)
 refine zza 10 (.v (.int .i64 (x.n : Int))) ?_ (hw := w1 2 true 7)
 refine zza 11 (.v (.bool (decide ((i : Int) < (x.n : Int))))) ?_ (hw := w1 2 true 7)
 refine zza 12 (.v (.bool (decide ((i : Int) < (x.n : Int))))) ?_
 refine zzb 17 [(0, .v x.v), (1, .v (.int .i64 (i : Int))), (12, .v (.bool (decide ((i : Int) < (x.n : Int)))))] [] ?_
 refine zzt (b := decide ((i : Int) < (x.n : Int))) (by kernel_rfl) (fun hb12 => ?_) (fun hb12 => ?_)
 ·replace hb12 : (decide ((i : Int) < (x.n : Int))) = true := hb12
  have qhb12 := of_decide_eq_true hb12
  refine sq9 ?_
  refine zza 13 (.v x.v) ?_
  refine zza 14 (.v (.int .i64 (i : Int))) ?_
  have hl13 := (hx).1
  obtain ⟨b13, o13, hA13, hc13⟩ := ints_at hx (i := i) (by omega)
  have hz13 := ints_bd hb (by omega) i
  refine zzz 15 (o13 + i * 1) (n := x.n) (off := o13) (sz := 1) (i := (i : Int)) (by omega) hA13 (by omega) (by omega) sl22 ?_
  refine zyk 16 (.int .i64 (l.getD i 0)) hc13 ty3 ?_
  refine zza 4 (.v (.int .i64 (l.getD i 0))) ?_
  refine zzb 17 [(4, .v (.int .i64 (l.getD i 0)))] [] ?_
  refine zzn (zzv (ret0 [.int .i64 (l.getD i 0)] ⟨zzp, trivial⟩ fun u14 e15 => ?_))
  rfl
 ·replace hb12 : (decide ((i : Int) < (x.n : Int))) = false := hb12
  have qhb12 := of_decide_eq_false hb12
  refine zzr (zzo ?_)
  refine sq9 ?_
  refine zza 4 (.v (.int .i64 0)) ?_
  refine zzb 17 [(4, .v (.int .i64 0))] [] ?_
  refine zzn (ret0 [.int .i64 0] ⟨zzp, trivial⟩ fun u16 e17 => ?_)
  show Value.int _ _ = Value.int _ _
  rw [show l.getD i 0 = 0 by rw [List.getD_eq_getElem?_getD, List.getElem?_eq_none (by omega)]; rfl]
set_option maxHeartbeats 2000000 in
theorem k_latWrong {u w : World} {x y : Sl} (d : Dat u w) (hx : SlR .i64 u x.a x.n x.c [8]) (hy : SlR .i64 u y.a y.n y.c [0, 16]) : Calls Tryz.prog 124 #[x.v, y.v, (⟨8, 4, 1, 1⟩ : WL).v] w (Post u w fun v u' => v = .int .i64 0) := by
 have hlx : x.n = 1 := hx.1.symm
 have hly : y.n = 2 := hy.1.symm
 refine zzl (args := [.slice x.a x.n x.c, .slice y.a y.n y.c, .agg #[.int .i64 8, .int .i64 4, .int .i64 1, .int .i64 1]]) Tryz.func124 rfl Tryz.ntmps124 (rs := [.tmp 6]) Tryz.results124 (le_b rfl) (le_b rfl) d ?_
 refine sq9 ?_
 refine zzj 5 ⟨51, [.int .i64 8, .int .i64 4, .int .i64 1, .int .i64 1]⟩ ?_
 refine zza 6 (.v (.int .i64 0)) ?_
 refine zzb 71 [(0, .v x.v), (1, .v y.v), (5, .adr 5 0)] [(5, ⟨51, [.int .i64 8, .int .i64 4, .int .i64 1, .int .i64 1]⟩)] ?_
 refine zzc ?_
 refine sq9 ?_
 refine zzh 13 (.v (.agg #[.int .i64 8, .int .i64 4, .int .i64 1, .int .i64 1])) ty51 zzd ?_
 refine zzf 14 81 [.agg #[.int .i64 8, .int .i64 4, .int .i64 1, .int .i64 1]] ?_
 intro w11 u11 e11 d11
 have k14 := k_fxValid (W := (⟨8, 4, 1, 1⟩ : WL)) d11 (show WdOK (⟨8, 4, 1, 1⟩ : WL) by unfold WdOK; decide)
 with_reducible refine Post.mono k14 ?_
 rintro _ u12 g13 rfl
 refine zza 15 (.v (.bool false)) ?_
 refine zzb 71 [(0, .v x.v), (1, .v y.v), (5, .adr 5 0), (15, .v (.bool false))] [(5, ⟨51, [.int .i64 8, .int .i64 4, .int .i64 1, .int .i64 1]⟩)] ?_
 refine zyr (by kernel_rfl) ?_
 refine zzr (zzo ?_)
 refine zzc ?_
 refine sq9 ?_
 refine zza 16 (.v x.v) ?_
 refine zza 17 (.v (.int .i64 (x.n : Int))) ?_
 refine zza 18 (.v (.bool (decide ((8 : Int) < (x.n : Int))))) ?_
 refine zyp 19 (x := .v (.bool (decide ((8 : Int) < (x.n : Int))))) (.v (.bool false)) (by rw [show (decide ((8 : Int) < (x.n : Int))) = false from decide_eq_false (by omega)]) ?_
 refine zza 20 (.v y.v) ?_ (hw := w1 3 false 19)
 refine zza 21 (.v (.int .i64 (y.n : Int))) ?_ (hw := w1 3 false 19)
 refine zza 22 (.v x.v) ?_ (hw := w1 3 false 19)
 refine zza 23 (.v (.int .i64 (x.n : Int))) ?_ (hw := w1 3 false 19)
 refine zyp 24 (x := .v (.int .i64 (IntKind.i64.wrap ((x.n : Int) + 1)))) (.v (.int .i64 ((x.n + 1 : Nat) : Int))) (eqI (by rw [IntWalk.i64_in _ (by omega)]; omega)) ?_ (hw := w1 3 false 19)
 refine zza 25 (.v (.bool ((y.n : Int) != ((x.n + 1 : Nat) : Int)))) ?_ (hw := w1 3 false 19)
 refine zza 26 (.v (.bool ((y.n : Int) != ((x.n + 1 : Nat) : Int)))) ?_
 refine zzb 71 [(0, .v x.v), (1, .v y.v), (5, .adr 5 0), (26, .v (.bool ((y.n : Int) != ((x.n + 1 : Nat) : Int))))] [(5, ⟨51, [.int .i64 8, .int .i64 4, .int .i64 1, .int .i64 1]⟩)] ?_
 refine zzt (b := (y.n : Int) != ((x.n + 1 : Nat) : Int)) (by kernel_rfl) (fun hb => ?_) (fun hb => ?_)
 ·exact absurd hb (by rw [show ((y.n : Int) != ((x.n + 1 : Nat) : Int)) = false from (by rw [hlx, hly]; rfl)]; decide)
 ·clear hb
  refine zzr (zzo ?_)
  refine zzc ?_
  refine sq9 ?_
  refine zza 27 (.v y.v) ?_
  refine zza 28 (.v (.int .i64 (y.n : Int))) ?_
  refine zza 29 (.v (.int .i64 0)) ?_
  refine zzb 71 [(0, .v x.v), (5, .adr 5 0), (27, .v y.v), (28, .v (.int .i64 (y.n : Int))), (29, .v (.int .i64 0))] [(5, ⟨51, [.int .i64 8, .int .i64 4, .int .i64 1, .int .i64 1]⟩)] ?_
  refine zzs ?_
  refine sw_rounds 2 ?_
  refine sq9 ?_
  refine zza 30 (.v (.bool (decide ((0 : Int) < (y.n : Int))))) ?_
  refine zzb 71 [(0, .v x.v), (5, .adr 5 0), (27, .v y.v), (28, .v (.int .i64 (y.n : Int))), (29, .v (.int .i64 0)), (30, .v (.bool (decide ((0 : Int) < (y.n : Int)))))] [(5, ⟨51, [.int .i64 8, .int .i64 4, .int .i64 1, .int .i64 1]⟩)] ?_
  refine zzc ?_
  refine zzt (b := decide ((0 : Int) < (y.n : Int))) (by kernel_rfl) (fun hb => ?_) (fun hb => ?_)
  ·clear hb
   refine zzr (zzo ?_)
   refine zzc ?_
   refine zzs ?_
   refine sq9 ?_
   have hl16 := ((hy.ext (e11.trans g13.ext))).1
   obtain ⟨b16, o16, hA16, hc16⟩ := ints_at (hy.ext (e11.trans g13.ext)) (i := 0) (by omega)
   have hz16 := ints_bd (show ∀ z ∈ ([0, 16] : List Int), -9223372036854775808 ≤ z ∧ z ≤ 9223372036854775807 by decide) (by omega) 0
   refine zzz 31 (o16 + 0 * 1) (n := y.n) (off := o16) (sz := 1) (i := 0) (by omega) hA16 (by omega) (by omega) sl22 ?_
   refine zyk 32 (.int .i64 0) hc16 ty3 ?_
   refine zza 8 (.v (.int .i64 0)) ?_
   refine zzb 71 [(0, .v x.v), (5, .adr 5 0), (8, .v (.int .i64 0)), (27, .v y.v), (28, .v (.int .i64 (y.n : Int))), (29, .v (.int .i64 0))] [(5, ⟨51, [.int .i64 8, .int .i64 4, .int .i64 1, .int .i64 1]⟩)] ?_
   refine sq9 ?_
   refine zzh 33 (.v (.agg #[.int .i64 8, .int .i64 4, .int .i64 1, .int .i64 1])) ty51 zzd ?_
   refine zza 34 (.v (.int .i64 0)) ?_
   refine zzf 35 134 [.agg #[.int .i64 8, .int .i64 4, .int .i64 1, .int .i64 1], .int .i64 0] ?_
   intro w17 u17 e17 d17
   have k20 := k_fxFits (W := (⟨8, 4, 1, 1⟩ : WL)) (z := 0) d17 (show WdOK (⟨8, 4, 1, 1⟩ : WL) by unfold WdOK; decide) (by decide +kernel) (by decide +kernel)
   with_reducible refine Post.mono k20 ?_
   rintro _ u18 g19 rfl
   refine zza 36 (.v (.bool false)) ?_
   refine zzb 71 [(0, .v x.v), (5, .adr 5 0), (27, .v y.v), (28, .v (.int .i64 (y.n : Int))), (29, .v (.int .i64 0)), (36, .v (.bool false))] [(5, ⟨51, [.int .i64 8, .int .i64 4, .int .i64 1, .int .i64 1]⟩)] ?_
   refine zyr (by kernel_rfl) ?_
   refine zzr (zzo ?_)
   refine zze ?_
   refine zza 37 (.v (.int .i64 1)) ?_
   refine zza 29 (.v (.int .i64 1)) ?_
   refine zzw ?_
   refine rn_next ?_
   refine sw_weak (T := St.of 71 [(0, .v (.slice x.a x.n x.c)), (5, .adr 5 0), (27, .v (.slice y.a y.n y.c)), (28, .v (.int .i64 (y.n : Int))), (29, .v (.int .i64 1))] [(5, ⟨51, [.int .i64 8, .int .i64 4, .int .i64 1, .int .i64 1]⟩)]) (by exact zzu _ _ _) ?_
   refine sq9 ?_
   refine zza 30 (.v (.bool (decide ((1 : Int) < (y.n : Int))))) ?_
   refine zzb 71 [(0, .v x.v), (5, .adr 5 0), (27, .v y.v), (28, .v (.int .i64 (y.n : Int))), (29, .v (.int .i64 1)), (30, .v (.bool (decide ((1 : Int) < (y.n : Int)))))] [(5, ⟨51, [.int .i64 8, .int .i64 4, .int .i64 1, .int .i64 1]⟩)] ?_
   refine zzc ?_
   refine zzt (b := decide ((1 : Int) < (y.n : Int))) (by kernel_rfl) (fun hb => ?_) (fun hb => ?_)
   ·clear hb
    refine zzr (zzo ?_)
    refine zzc ?_
    refine zzs ?_
    refine sq9 ?_
    have hl21 := ((hy.ext (e11.trans (g13.ext.trans (e17.trans g19.ext))))).1
    obtain ⟨b21, o21, hA21, hc21⟩ := ints_at (hy.ext (e11.trans (g13.ext.trans (e17.trans g19.ext)))) (i := 1) (by omega)
    have hz21 := ints_bd (show ∀ z ∈ ([0, 16] : List Int), -9223372036854775808 ≤ z ∧ z ≤ 9223372036854775807 by decide) (by omega) 1
    refine zzz 31 (o21 + 1 * 1) (n := y.n) (off := o21) (sz := 1) (i := 1) (by omega) hA21 (by omega) (by omega) sl22 ?_
    refine zyk 32 (.int .i64 16) hc21 ty3 ?_
    refine zza 8 (.v (.int .i64 16)) ?_
    refine zzb 71 [(0, .v x.v), (5, .adr 5 0), (8, .v (.int .i64 16)), (27, .v y.v), (28, .v (.int .i64 (y.n : Int))), (29, .v (.int .i64 1))] [(5, ⟨51, [.int .i64 8, .int .i64 4, .int .i64 1, .int .i64 1]⟩)] ?_
    refine sq9 ?_
    refine zzh 33 (.v (.agg #[.int .i64 8, .int .i64 4, .int .i64 1, .int .i64 1])) ty51 zzd ?_
    refine zza 34 (.v (.int .i64 16)) ?_
    refine zzf 35 134 [.agg #[.int .i64 8, .int .i64 4, .int .i64 1, .int .i64 1], .int .i64 16] ?_
    intro w22 u22 e22 d22
    have k25 := k_fxFits (W := (⟨8, 4, 1, 1⟩ : WL)) (z := 16) d22 (show WdOK (⟨8, 4, 1, 1⟩ : WL) by unfold WdOK; decide) (by decide +kernel) (by decide +kernel)
    with_reducible refine Post.mono k25 ?_
    rintro _ u23 g24 rfl
    refine zza 36 (.v (.bool false)) ?_
    refine zzb 71 [(0, .v x.v), (5, .adr 5 0), (27, .v y.v), (28, .v (.int .i64 (y.n : Int))), (29, .v (.int .i64 1)), (36, .v (.bool false))] [(5, ⟨51, [.int .i64 8, .int .i64 4, .int .i64 1, .int .i64 1]⟩)] ?_
    refine zyr (by kernel_rfl) ?_
    refine zzr (zzo ?_)
    refine zze ?_
    refine zza 37 (.v (.int .i64 2)) ?_
    refine zza 29 (.v (.int .i64 2)) ?_
    refine zzw ?_
    refine rn_next ?_
    refine sw_weak (T := St.of 71 [(0, .v (.slice x.a x.n x.c)), (5, .adr 5 0), (27, .v (.slice y.a y.n y.c)), (28, .v (.int .i64 (y.n : Int))), (29, .v (.int .i64 2))] [(5, ⟨51, [.int .i64 8, .int .i64 4, .int .i64 1, .int .i64 1]⟩)]) (by exact zzu _ _ _) ?_
    refine sq9 ?_
    refine zza 30 (.v (.bool (decide ((2 : Int) < (y.n : Int))))) ?_
    refine zzb 71 [(0, .v x.v), (5, .adr 5 0), (27, .v y.v), (28, .v (.int .i64 (y.n : Int))), (29, .v (.int .i64 2)), (30, .v (.bool (decide ((2 : Int) < (y.n : Int)))))] [(5, ⟨51, [.int .i64 8, .int .i64 4, .int .i64 1, .int .i64 1]⟩)] ?_
    refine zzc ?_
    refine zzt (b := decide ((2 : Int) < (y.n : Int))) (by kernel_rfl) (fun hb => ?_) (fun hb => ?_)
    ·exact absurd hb (by rw [show (decide ((2 : Int) < (y.n : Int))) = false from decide_eq_false (by omega)]; decide)
    ·clear hb
     refine zyb ?_
     refine zzo ?_
     refine zzc ?_
     refine sq9 ?_
     refine zza 38 (.v x.v) ?_
     refine zza 39 (.v (.int .i64 (x.n : Int))) ?_
     refine zza 40 (.v (.int .i64 0)) ?_
     refine zzb 71 [(0, .v x.v), (5, .adr 5 0), (38, .v x.v), (39, .v (.int .i64 (x.n : Int))), (40, .v (.int .i64 0))] [(5, ⟨51, [.int .i64 8, .int .i64 4, .int .i64 1, .int .i64 1]⟩)] ?_
     refine zzs ?_
     refine sw_rounds 1 ?_
     refine sq9 ?_
     refine zza 41 (.v (.bool (decide ((0 : Int) < (x.n : Int))))) ?_
     refine zzb 71 [(0, .v x.v), (5, .adr 5 0), (38, .v x.v), (39, .v (.int .i64 (x.n : Int))), (40, .v (.int .i64 0)), (41, .v (.bool (decide ((0 : Int) < (x.n : Int)))))] [(5, ⟨51, [.int .i64 8, .int .i64 4, .int .i64 1, .int .i64 1]⟩)] ?_
     refine zzc ?_
     refine zzt (b := decide ((0 : Int) < (x.n : Int))) (by kernel_rfl) (fun hb => ?_) (fun hb => ?_)
     ·clear hb
      refine zzr (zzo ?_)
      refine zzc ?_
      refine zzs ?_
      refine sq9 ?_
      have hl26 := ((hx.ext (e11.trans (g13.ext.trans (e17.trans (g19.ext.trans (e22.trans g24.ext))))))).1
      obtain ⟨b26, o26, hA26, hc26⟩ := ints_at (hx.ext (e11.trans (g13.ext.trans (e17.trans (g19.ext.trans (e22.trans g24.ext)))))) (i := 0) (by omega)
      have hz26 := ints_bd (show ∀ z ∈ ([8] : List Int), -9223372036854775808 ≤ z ∧ z ≤ 9223372036854775807 by decide) (by omega) 0
      refine zzz 42 (o26 + 0 * 1) (n := x.n) (off := o26) (sz := 1) (i := 0) (by omega) hA26 (by omega) (by omega) sl22 ?_
      refine zyk 43 (.int .i64 8) hc26 ty3 ?_
      refine zza 10 (.v (.int .i64 8)) ?_
      refine zzb 71 [(0, .v x.v), (5, .adr 5 0), (10, .v (.int .i64 8)), (38, .v x.v), (39, .v (.int .i64 (x.n : Int))), (40, .v (.int .i64 0))] [(5, ⟨51, [.int .i64 8, .int .i64 4, .int .i64 1, .int .i64 1]⟩)] ?_
      refine sq9 ?_
      refine zzh 44 (.v (.agg #[.int .i64 8, .int .i64 4, .int .i64 1, .int .i64 1])) ty51 zzd ?_
      refine zza 45 (.v (.int .i64 8)) ?_
      refine zzf 46 134 [.agg #[.int .i64 8, .int .i64 4, .int .i64 1, .int .i64 1], .int .i64 8] ?_
      intro w27 u27 e27 d27
      have k30 := k_fxFits (W := (⟨8, 4, 1, 1⟩ : WL)) (z := 8) d27 (show WdOK (⟨8, 4, 1, 1⟩ : WL) by unfold WdOK; decide) (by decide +kernel) (by decide +kernel)
      with_reducible refine Post.mono k30 ?_
      rintro _ u28 g29 rfl
      refine zza 47 (.v (.bool false)) ?_
      refine zza 48 (.v (.bool false)) ?_
      refine zzh 49 (.v (.agg #[.int .i64 8, .int .i64 4, .int .i64 1, .int .i64 1])) ty51 zzd ?_ (hw := w1 4 false 48)
      refine zza 50 (.v (.int .i64 8)) ?_ (hw := w1 4 false 48)
      refine zza 51 (.v (.int .i64 (-8))) ?_ (hw := w1 4 false 48)
      refine zzf 52 134 [.agg #[.int .i64 8, .int .i64 4, .int .i64 1, .int .i64 1], .int .i64 (-8)] ?_ (hw := w1 4 false 48)
      intro w31 u31 e31 d31
      have k34 := k_fxFits (W := (⟨8, 4, 1, 1⟩ : WL)) (z := (-8)) d31 (show WdOK (⟨8, 4, 1, 1⟩ : WL) by unfold WdOK; decide) (by decide +kernel) (by decide +kernel)
      with_reducible refine Post.mono k34 ?_
      rintro _ u32 g33 rfl
      refine zza 53 (.v (.bool false)) ?_ (hw := w1 4 false 48)
      refine zza 54 (.v (.bool false)) ?_
      refine zzb 71 [(0, .v x.v), (5, .adr 5 0), (38, .v x.v), (39, .v (.int .i64 (x.n : Int))), (40, .v (.int .i64 0)), (54, .v (.bool false))] [(5, ⟨51, [.int .i64 8, .int .i64 4, .int .i64 1, .int .i64 1]⟩)] ?_
      refine zyr (by kernel_rfl) ?_
      refine zzr (zzo ?_)
      refine zze ?_
      refine zza 55 (.v (.int .i64 1)) ?_
      refine zza 40 (.v (.int .i64 1)) ?_
      refine zzw ?_
      refine rn_next ?_
      refine sw_weak (T := St.of 71 [(0, .v (.slice x.a x.n x.c)), (5, .adr 5 0), (38, .v (.slice x.a x.n x.c)), (39, .v (.int .i64 (x.n : Int))), (40, .v (.int .i64 1))] [(5, ⟨51, [.int .i64 8, .int .i64 4, .int .i64 1, .int .i64 1]⟩)]) (by exact zzu _ _ _) ?_
      refine sq9 ?_
      refine zza 41 (.v (.bool (decide ((1 : Int) < (x.n : Int))))) ?_
      refine zzb 71 [(0, .v x.v), (5, .adr 5 0), (38, .v x.v), (39, .v (.int .i64 (x.n : Int))), (40, .v (.int .i64 1)), (41, .v (.bool (decide ((1 : Int) < (x.n : Int)))))] [(5, ⟨51, [.int .i64 8, .int .i64 4, .int .i64 1, .int .i64 1]⟩)] ?_
      refine zzc ?_
      refine zzt (b := decide ((1 : Int) < (x.n : Int))) (by kernel_rfl) (fun hb => ?_) (fun hb => ?_)
      ·exact absurd hb (by rw [show (decide ((1 : Int) < (x.n : Int))) = false from decide_eq_false (by omega)]; decide)
      ·clear hb
       refine zyb ?_
       refine zzo ?_
       refine zzc ?_
       refine sq9 ?_
       refine zza 56 (.v x.v) ?_
       refine zza 57 (.v (.int .i64 (x.n : Int))) ?_
       refine zza 58 (.v (.int .i64 0)) ?_
       refine zzb 71 [(5, .adr 5 0), (56, .v x.v), (57, .v (.int .i64 (x.n : Int))), (58, .v (.int .i64 0))] [(5, ⟨51, [.int .i64 8, .int .i64 4, .int .i64 1, .int .i64 1]⟩)] ?_
       refine zzs ?_
       refine sw_rounds 1 ?_
       refine sq9 ?_
       refine zza 59 (.v (.bool (decide ((0 : Int) < (x.n : Int))))) ?_
       refine zzb 71 [(5, .adr 5 0), (56, .v x.v), (57, .v (.int .i64 (x.n : Int))), (58, .v (.int .i64 0)), (59, .v (.bool (decide ((0 : Int) < (x.n : Int)))))] [(5, ⟨51, [.int .i64 8, .int .i64 4, .int .i64 1, .int .i64 1]⟩)] ?_
       refine zzc ?_
       refine zzt (b := decide ((0 : Int) < (x.n : Int))) (by kernel_rfl) (fun hb => ?_) (fun hb => ?_)
       ·clear hb
        refine zzr (zzo ?_)
        refine zzc ?_
        refine zzs ?_
        refine sq9 ?_
        have hl35 := ((hx.ext (e11.trans (g13.ext.trans (e17.trans (g19.ext.trans (e22.trans (g24.ext.trans (e27.trans (g29.ext.trans (e31.trans g33.ext))))))))))).1
        obtain ⟨b35, o35, hA35, hc35⟩ := ints_at (hx.ext (e11.trans (g13.ext.trans (e17.trans (g19.ext.trans (e22.trans (g24.ext.trans (e27.trans (g29.ext.trans (e31.trans g33.ext)))))))))) (i := 0) (by omega)
        have hz35 := ints_bd (show ∀ z ∈ ([8] : List Int), -9223372036854775808 ≤ z ∧ z ≤ 9223372036854775807 by decide) (by omega) 0
        refine zzz 60 (o35 + 0 * 1) (n := x.n) (off := o35) (sz := 1) (i := 0) (by omega) hA35 (by omega) (by omega) sl22 ?_
        refine zyk 61 (.int .i64 8) hc35 ty3 ?_
        refine zza 12 (.v (.int .i64 8)) ?_
        refine zzb 71 [(5, .adr 5 0), (12, .v (.int .i64 8)), (56, .v x.v), (57, .v (.int .i64 (x.n : Int))), (58, .v (.int .i64 0))] [(5, ⟨51, [.int .i64 8, .int .i64 4, .int .i64 1, .int .i64 1]⟩)] ?_
        refine sq9 ?_
        refine zza 62 (.v (.int .i64 8)) ?_
        refine zza 63 (.v (.int .i64 8)) ?_
        refine zza 64 (.v (.int .i64 (-8))) ?_
        refine sy_max2 65 (n := 8) (m := (-8)) (v := 8) (by decide) ?_
        refine zza 66 (.adr 5 1) ?_
        refine zzh 67 (.v (.int .i64 4)) ty3 zzk ?_
        refine sy_shl 68 (k := .i64) (n := 1) (s := 4) (16) (by decide) (by decide) (by decide +kernel) ?_
        refine zza 69 (.v (.bool false)) ?_
        refine zzb 71 [(5, .adr 5 0), (56, .v x.v), (57, .v (.int .i64 (x.n : Int))), (58, .v (.int .i64 0)), (69, .v (.bool false))] [(5, ⟨51, [.int .i64 8, .int .i64 4, .int .i64 1, .int .i64 1]⟩)] ?_
        refine zyr (by kernel_rfl) ?_
        refine zzr (zzo ?_)
        refine zze ?_
        refine zza 70 (.v (.int .i64 1)) ?_
        refine zza 58 (.v (.int .i64 1)) ?_
        refine zzw ?_
        refine rn_next ?_
        refine sw_weak (T := St.of 71 [(5, .adr 5 0), (56, .v (.slice x.a x.n x.c)), (57, .v (.int .i64 (x.n : Int))), (58, .v (.int .i64 1))] [(5, ⟨51, [.int .i64 8, .int .i64 4, .int .i64 1, .int .i64 1]⟩)]) (by exact zzu _ _ _) ?_
        refine sq9 ?_
        refine zza 59 (.v (.bool (decide ((1 : Int) < (x.n : Int))))) ?_
        refine zzb 71 [(5, .adr 5 0), (56, .v x.v), (57, .v (.int .i64 (x.n : Int))), (58, .v (.int .i64 1)), (59, .v (.bool (decide ((1 : Int) < (x.n : Int)))))] [(5, ⟨51, [.int .i64 8, .int .i64 4, .int .i64 1, .int .i64 1]⟩)] ?_
        refine zzc ?_
        refine zzt (b := decide ((1 : Int) < (x.n : Int))) (by kernel_rfl) (fun hb => ?_) (fun hb => ?_)
        ·exact absurd hb (by rw [show (decide ((1 : Int) < (x.n : Int))) = false from decide_eq_false (by omega)]; decide)
        ·clear hb
         refine zyb ?_
         refine zzo ?_
         refine sq9 ?_
         refine zza 6 (.v (.int .i64 0)) ?_
         refine zzb 71 [(6, .v (.int .i64 0))] [] ?_
         refine zzn (ret0 [.int .i64 0] ⟨zzp, trivial⟩ fun u36 e37 => ?_)
         rfl
       ·exact absurd hb (by rw [show (decide ((0 : Int) < (x.n : Int))) = true from decide_eq_true (by omega)]; decide)
     ·exact absurd hb (by rw [show (decide ((0 : Int) < (x.n : Int))) = true from decide_eq_true (by omega)]; decide)
   ·exact absurd hb (by rw [show (decide ((1 : Int) < (y.n : Int))) = true from decide_eq_true (by omega)]; decide)
  ·exact absurd hb (by rw [show (decide ((0 : Int) < (y.n : Int))) = true from decide_eq_true (by omega)]; decide)
theorem rats1set {u : World} {r : RL} {q : Rat} {n K : Nat} (hn : n = 1) (hr : RatN u r q K) : RatsN u ((List.replicate n rl0).set 0 r) [q] K := by subst hn; exact rats1 hr
theorem small_one {q : Rat} (h : Nt.smallQ q = true) : ∀ i, i < [q].length → Nt.smallQ ([q].getD i 0) = true := fun i hi => by
 have hi : i < 1 := hi
 have e : i = 0 := by omega
 subst e; exact h
set_option maxHeartbeats 4000000 in
theorem k_latIdeal {u w : World} {x y : Sl} (d : Dat u w) (hx : SlR .i64 u x.a x.n x.c [8]) (hy : SlR .i64 u y.a y.n y.c [0, 16]) : Calls Tryz.prog 57 #[x.v, y.v, (⟨8, 4, 1, 1⟩ : WL).v] w (Post u w fun v u' => ∃ y z : Sl, v = .tuple #[.agg #[y.v, z.v], .int .i64 0] ∧ PolN u' y [((1 : Int) : Rat) / ((2 : Int) : Rat), ((1 : Int) : Rat)] 20000 ∧ PolN u' z [((1 : Int) : Rat), ((1 : Int) : Rat) / ((2 : Int) : Rat)] 20000) := by
 have hlx : x.n = 1 := hx.1.symm
 have hly : y.n = 2 := hy.1.symm
 refine zzl (args := [.slice x.a x.n x.c, .slice y.a y.n y.c, .agg #[.int .i64 8, .int .i64 4, .int .i64 1, .int .i64 1]]) Tryz.func57 rfl Tryz.ntmps57 (rs := [.cell 6 54, .tmp 7]) Tryz.results57 (le_b rfl) (le_b rfl) d ?_
 refine sq9 ?_
 refine zzj 5 ⟨51, [.int .i64 8, .int .i64 4, .int .i64 1, .int .i64 1]⟩ ?_
 refine zzj 6 ⟨54, [.slice none 0 0, .slice none 0 0]⟩ ?_
 refine zza 7 (.v (.int .i64 0)) ?_
 refine zzb 72 [(0, .v x.v), (1, .v y.v), (5, .adr 5 0), (6, .adr 6 0)] [(5, ⟨51, [.int .i64 8, .int .i64 4, .int .i64 1, .int .i64 1]⟩), (6, ⟨54, [.slice none 0 0, .slice none 0 0]⟩)] ?_
 refine zzc ?_
 refine sq9 ?_
 refine zza 17 (.v x.v) ?_
 refine zza 18 (.v y.v) ?_
 refine zzh 19 (.v (.agg #[.int .i64 8, .int .i64 4, .int .i64 1, .int .i64 1])) ty51 zzd ?_
 refine zzf 20 124 [x.v, y.v, .agg #[.int .i64 8, .int .i64 4, .int .i64 1, .int .i64 1]] ?_
 intro w11 u11 e11 d11
 have k14 := k_latWrong d11 (hx.ext e11) (hy.ext e11)
 with_reducible refine Post.mono k14 ?_
 rintro _ u12 g13 rfl
 refine zza 8 (.v (.int .i64 0)) ?_
 refine zzb 72 [(0, .v x.v), (1, .v y.v), (5, .adr 5 0), (6, .adr 6 0), (8, .v (.int .i64 0))] [(5, ⟨51, [.int .i64 8, .int .i64 4, .int .i64 1, .int .i64 1]⟩), (6, ⟨54, [.slice none 0 0, .slice none 0 0]⟩)] ?_
 refine sq9 ?_
 refine zza 21 (.v (.int .i64 0)) ?_
 refine zza 22 (.v (.bool false)) ?_
 refine zzb 72 [(0, .v x.v), (1, .v y.v), (5, .adr 5 0), (6, .adr 6 0), (8, .v (.int .i64 0)), (22, .v (.bool false))] [(5, ⟨51, [.int .i64 8, .int .i64 4, .int .i64 1, .int .i64 1]⟩), (6, ⟨54, [.slice none 0 0, .slice none 0 0]⟩)] ?_
 refine zyr (by kernel_rfl) ?_
 refine zzr (zzo ?_)
 refine sq9 ?_
 refine zza 25 (.v x.v) ?_
 refine zza 26 (.v (.int .i64 (x.n : Int))) ?_
 refine sy_make 27 (T := 24) (E := 29) (z := .agg #[.bool false, .slice none 0 0, .slice none 0 0]) (size := 3) (bytes := 56) x.n (rcs (List.replicate x.n rl0)) (by kernel_rfl) (by kernel_rfl) rfl rfl (by omega) (by unfold maxLen; omega) (made_rcs _) ?_
 refine zza 9 (.slc 27 0 x.n x.n) ?_
 refine zzb 72 [(0, .v x.v), (1, .v y.v), (5, .adr 5 0), (6, .adr 6 0), (9, .slc 27 0 x.n x.n)] [(5, ⟨51, [.int .i64 8, .int .i64 4, .int .i64 1, .int .i64 1]⟩), (6, ⟨54, [.slice none 0 0, .slice none 0 0]⟩), (27, ⟨29, rcs (List.replicate x.n rl0)⟩)] ?_
 refine zzc ?_
 refine sq9 ?_
 refine zza 28 (.v x.v) ?_
 refine zza 29 (.v (.int .i64 (x.n : Int))) ?_
 refine zza 30 (.v (.int .i64 0)) ?_
 refine zzb 72 [(1, .v y.v), (5, .adr 5 0), (6, .adr 6 0), (9, .slc 27 0 x.n x.n), (28, .v x.v), (29, .v (.int .i64 (x.n : Int))), (30, .v (.int .i64 0))] [(5, ⟨51, [.int .i64 8, .int .i64 4, .int .i64 1, .int .i64 1]⟩), (6, ⟨54, [.slice none 0 0, .slice none 0 0]⟩), (27, ⟨29, rcs (List.replicate x.n rl0)⟩)] ?_
 refine zzs ?_
 refine sw_rounds 1 ?_
 refine sq9 ?_
 refine zza 31 (.v (.bool (decide ((0 : Int) < (x.n : Int))))) ?_
 refine zzb 72 [(1, .v y.v), (5, .adr 5 0), (6, .adr 6 0), (9, .slc 27 0 x.n x.n), (28, .v x.v), (29, .v (.int .i64 (x.n : Int))), (30, .v (.int .i64 0)), (31, .v (.bool (decide ((0 : Int) < (x.n : Int)))))] [(5, ⟨51, [.int .i64 8, .int .i64 4, .int .i64 1, .int .i64 1]⟩), (6, ⟨54, [.slice none 0 0, .slice none 0 0]⟩), (27, ⟨29, rcs (List.replicate x.n rl0)⟩)] ?_
 refine zzc ?_
 refine zzt (b := decide ((0 : Int) < (x.n : Int))) (by kernel_rfl) (fun hb => ?_) (fun hb => ?_)
 ·clear hb
  refine zzr (zzo ?_)
  refine zzc ?_
  refine zzs ?_
  refine sq9 ?_
  refine zza 32 (.v (.int .i64 0)) ?_
  have hl15 := ((hx.ext (e11.trans g13.ext))).1
  obtain ⟨b15, o15, hA15, hc15⟩ := ints_at (hx.ext (e11.trans g13.ext)) (i := 0) (by omega)
  have hz15 := ints_bd (show ∀ z ∈ ([8] : List Int), -9223372036854775808 ≤ z ∧ z ≤ 9223372036854775807 by decide) (by omega) 0
  refine zzz 33 (o15 + 0 * 1) (n := x.n) (off := o15) (sz := 1) (i := 0) (by omega) hA15 (by omega) (by omega) sl22 ?_
  refine zyk 34 (.int .i64 8) hc15 ty3 ?_
  refine zza 10 (.v (.int .i64 0)) ?_
  refine zza 11 (.v (.int .i64 8)) ?_
  refine zzb 72 [(1, .v y.v), (5, .adr 5 0), (6, .adr 6 0), (9, .slc 27 0 x.n x.n), (10, .v (.int .i64 0)), (11, .v (.int .i64 8)), (28, .v x.v), (29, .v (.int .i64 (x.n : Int))), (30, .v (.int .i64 0))] [(5, ⟨51, [.int .i64 8, .int .i64 4, .int .i64 1, .int .i64 1]⟩), (6, ⟨54, [.slice none 0 0, .slice none 0 0]⟩), (27, ⟨29, rcs (List.replicate x.n rl0)⟩)] ?_
  refine zze ?_
  refine zza 35 (.slc 27 0 x.n x.n) ?_
  refine zza 36 (.v (.int .i64 0)) ?_
  refine zzh 37 (.v (.agg #[.int .i64 8, .int .i64 4, .int .i64 1, .int .i64 1])) ty51 zzd ?_
  refine zza 38 (.v (.int .i64 8)) ?_
  refine zzf 39 102 [.agg #[.int .i64 8, .int .i64 4, .int .i64 1, .int .i64 1], .int .i64 8] ?_
  intro w16 u16 e16 d16
  have k21 := k_fxValue (W := (⟨8, 4, 1, 1⟩ : WL)) (z := 8) d16 (show WdOK (⟨8, 4, 1, 1⟩ : WL) by unfold WdOK; decide) (by decide) (by decide)
  with_reducible refine Post.mono k21 ?_
  rintro _ u19 g20 ⟨r17, rfl, h18⟩
  refine zyv 40 (off' := 0 * 3) (n := x.n) (off := 0) (sz := 3) (i := 0) sl24 (by omega) (by omega) (by omega) ?_
  refine zyu (V := ⟨29, rcs (List.replicate x.n rl0)⟩) (off := 0 * 3) (rcs ((List.replicate x.n rl0).set 0 r17)) ty29 (by rw [zyx]; first|omega|(simp;omega)) (zyw (r := r17) (i := 0) (by first|omega|(simp;omega)) rfl) ?_
  refine zzw ?_
  refine zzo ?_
  refine zze ?_
  refine zza 41 (.v (.int .i64 1)) ?_
  refine zza 30 (.v (.int .i64 1)) ?_
  refine zzw ?_
  refine rn_next ?_
  refine sw_weak (T := St.of 72 [(1, .v (.slice y.a y.n y.c)), (5, .adr 5 0), (6, .adr 6 0), (9, .slc 27 0 x.n x.n), (28, .v (.slice x.a x.n x.c)), (29, .v (.int .i64 (x.n : Int))), (30, .v (.int .i64 1))] [(5, ⟨51, [.int .i64 8, .int .i64 4, .int .i64 1, .int .i64 1]⟩), (6, ⟨54, [.slice none 0 0, .slice none 0 0]⟩), (27, ⟨29, rcs ((List.replicate x.n rl0).set 0 r17)⟩)]) (by exact zzu _ _ _) ?_
  refine sq9 ?_
  refine zza 31 (.v (.bool (decide ((1 : Int) < (x.n : Int))))) ?_
  refine zzb 72 [(1, .v y.v), (5, .adr 5 0), (6, .adr 6 0), (9, .slc 27 0 x.n x.n), (28, .v x.v), (29, .v (.int .i64 (x.n : Int))), (30, .v (.int .i64 1)), (31, .v (.bool (decide ((1 : Int) < (x.n : Int)))))] [(5, ⟨51, [.int .i64 8, .int .i64 4, .int .i64 1, .int .i64 1]⟩), (6, ⟨54, [.slice none 0 0, .slice none 0 0]⟩), (27, ⟨29, rcs ((List.replicate x.n rl0).set 0 r17)⟩)] ?_
  refine zzc ?_
  refine zzt (b := decide ((1 : Int) < (x.n : Int))) (by kernel_rfl) (fun hb => ?_) (fun hb => ?_)
  ·exact absurd hb (by rw [show (decide ((1 : Int) < (x.n : Int))) = false from decide_eq_false (by omega)]; decide)
  ·clear hb
   refine zyb ?_
   refine zzo ?_
   refine zzc ?_
   have hz : ∀ i, i < [(((8 : Int) : Rat) / ((Nt.p2i (⟨8, 4, 1, 1⟩ : WL).f : Int) : Rat))].length → Nt.smallQ ([(((8 : Int) : Rat) / ((Nt.p2i (⟨8, 4, 1, 1⟩ : WL).f : Int) : Rat))].getD i 0) = true := small_one (by decide +kernel)
   have hLL : ((List.replicate x.n rl0).set 0 r17).length = 1 := by rw [List.length_set, List.length_replicate]; exact hlx
   refine zyo (r := 9) (t := 27) [9, 27] (by repeat first | exact noAt_of | refine zyc ?_ | refine zye ?_ | refine zyd ?_ | refine zzx ?_ | refine zya ?_) (by kernel_rfl) (by rfl) (by rfl) (by kernel_rfl) (fun b22 u23 e24 hb25 hh26 => ?_)
   have hp27 : PolN u23 ⟨some ⟨b22, 0, none⟩, x.n, x.n⟩ ([(((8 : Int) : Rat) / ((Nt.p2i (⟨8, 4, 1, 1⟩ : WL).f : Int) : Rat))]) 2 := pol_data1 hh26 (by unfold maxLen; omega) ((rats1set hlx h18).ext e24) (by omega)
   refine zze ?_
   refine zza 12 (.v (.slice none 0 0)) ?_
   refine zzb 72 [(1, .v y.v), (5, .adr 5 0), (6, .adr 6 0), (9, .v (.slice (some ⟨b22, 0, none⟩) x.n x.n)), (12, .v (.slice none 0 0))] [(5, ⟨51, [.int .i64 8, .int .i64 4, .int .i64 1, .int .i64 1]⟩), (6, ⟨54, [.slice none 0 0, .slice none 0 0]⟩)] ?_
   refine zzc ?_
   refine sq9 ?_
   refine zza 42 (.v y.v) ?_
   refine zza 43 (.v (.int .i64 (y.n : Int))) ?_
   refine zza 44 (.v (.int .i64 0)) ?_
   refine zzb 72 [(5, .adr 5 0), (6, .adr 6 0), (9, .v (.slice (some ⟨b22, 0, none⟩) x.n x.n)), (12, .v (.slice none 0 0)), (42, .v y.v), (43, .v (.int .i64 (y.n : Int))), (44, .v (.int .i64 0))] [(5, ⟨51, [.int .i64 8, .int .i64 4, .int .i64 1, .int .i64 1]⟩), (6, ⟨54, [.slice none 0 0, .slice none 0 0]⟩)] ?_
   refine zzs ?_
   refine sw_rounds 2 ?_
   refine sq9 ?_
   refine zza 45 (.v (.bool (decide ((0 : Int) < (y.n : Int))))) ?_
   refine zzb 72 [(5, .adr 5 0), (6, .adr 6 0), (9, .v (.slice (some ⟨b22, 0, none⟩) x.n x.n)), (12, .v (.slice none 0 0)), (42, .v y.v), (43, .v (.int .i64 (y.n : Int))), (44, .v (.int .i64 0)), (45, .v (.bool (decide ((0 : Int) < (y.n : Int)))))] [(5, ⟨51, [.int .i64 8, .int .i64 4, .int .i64 1, .int .i64 1]⟩), (6, ⟨54, [.slice none 0 0, .slice none 0 0]⟩)] ?_
   refine zzc ?_
   refine zzt (b := decide ((0 : Int) < (y.n : Int))) (by kernel_rfl) (fun hb => ?_) (fun hb => ?_)
   ·clear hb
    refine zzr (zzo ?_)
    refine zzc ?_
    refine zzs ?_
    refine sq9 ?_
    refine zza 46 (.v (.int .i64 0)) ?_
    have hl28 := ((hy.ext (e11.trans (g13.ext.trans (e16.trans (g20.ext.trans e24)))))).1
    obtain ⟨b28, o28, hA28, hc28⟩ := ints_at (hy.ext (e11.trans (g13.ext.trans (e16.trans (g20.ext.trans e24))))) (i := 0) (by omega)
    have hz28 := ints_bd (show ∀ z ∈ ([0, 16] : List Int), -9223372036854775808 ≤ z ∧ z ≤ 9223372036854775807 by decide) (by omega) 0
    refine zzz 47 (o28 + 0 * 1) (n := y.n) (off := o28) (sz := 1) (i := 0) (by omega) hA28 (by omega) (by omega) sl22 ?_
    refine zyk 48 (.int .i64 0) hc28 ty3 ?_
    refine zza 13 (.v (.int .i64 0)) ?_
    refine zza 14 (.v (.int .i64 0)) ?_
    refine zzb 72 [(5, .adr 5 0), (6, .adr 6 0), (9, .v (.slice (some ⟨b22, 0, none⟩) x.n x.n)), (12, .v (.slice none 0 0)), (13, .v (.int .i64 0)), (14, .v (.int .i64 0)), (42, .v y.v), (43, .v (.int .i64 (y.n : Int))), (44, .v (.int .i64 0))] [(5, ⟨51, [.int .i64 8, .int .i64 4, .int .i64 1, .int .i64 1]⟩), (6, ⟨54, [.slice none 0 0, .slice none 0 0]⟩)] ?_
    refine zzy [0, 0, 0, 6, 0, 0, 62, 126, 255, 511] [(0, []), (1, []), (2, []), (4, []), (5, []), (3, []), (6, []), (7, []), (8, []), (9, [])] (by kernel_rfl) (by kernel_rfl) ?_
    refine zza 49 (.v (.slice none 0 0)) ?_
    refine zza 50 (.v (.slice (some ⟨b22, 0, none⟩) x.n x.n)) ?_
    refine zza 51 (.v (.int .i64 0)) ?_
    refine zzh 53 (.v (.agg #[.int .i64 8, .int .i64 4, .int .i64 1, .int .i64 1])) ty51 zzd ?_
    refine zza 54 (.v (.int .i64 0)) ?_
    refine zzf 52 52 [.slice (some ⟨b22, 0, none⟩) x.n x.n, .int .i64 0] ?_
    intro w29 u29 e29 d29
    have k34 := (show Calls _ _ #[_, .int .i64 0] _ _ from k_reversed (i := 0) d29 (hp27.ext e29).raw (by decide) (by decide) hz (by decide))
    with_reducible refine Post.mono k34 ?_
    rintro _ u32 g33 ⟨y30, rfl, h31⟩
    have hly30 := h31.len
    have hmy30 := Nat.le_of_eq (Nt.revL_len [(((8 : Int) : Rat) / ((Nt.p2i (⟨8, 4, 1, 1⟩ : WL).f : Int) : Rat))] 0)
    have hk35 := PolN.more h31 (Nt.upK_le (show 0 ≤ 6 by omega))
    refine zzf 55 102 [.agg #[.int .i64 8, .int .i64 4, .int .i64 1, .int .i64 1], .int .i64 0] ?_
    intro w36 u36 e36 d36
    have k41 := k_fxValue (W := (⟨8, 4, 1, 1⟩ : WL)) (z := 0) d36 (show WdOK (⟨8, 4, 1, 1⟩ : WL) by unfold WdOK; decide) (by decide) (by decide)
    with_reducible refine Post.mono k41 ?_
    rintro _ u39 g40 ⟨r37, rfl, h38⟩
    refine zzf 56 51 [y30.v, r37.v] ?_
    intro w42 u42 e42 d42
    have k47 := k_poScale d42 (hk35.ext (e36.trans (g40.ext.trans e42))).raw (h38.ext e42).raw (by omega) (by have h9 := hmy30; omega) (by omega)
    with_reducible refine Post.mono k47 ?_
    rintro _ u45 g46 ⟨y43, rfl, h44⟩
    have hly43 := h44.len
    have hm48 : (Nt.trimQ ((Nt.revL [(((8 : Int) : Rat) / ((Nt.p2i (⟨8, 4, 1, 1⟩ : WL).f : Int) : Rat))] 0).map (· * (((0 : Int) : Rat) / ((Nt.p2i (⟨8, 4, 1, 1⟩ : WL).f : Int) : Rat))))).length ≤ 1 := Nt.map_lenQ hmy30
    have hk49 : PolN _ y43 (Nt.trimQ ((Nt.revL [(((8 : Int) : Rat) / ((Nt.p2i (⟨8, 4, 1, 1⟩ : WL).f : Int) : Rat))] 0).map (· * (((0 : Int) : Rat) / ((Nt.p2i (⟨8, 4, 1, 1⟩ : WL).f : Int) : Rat))))) 2034 := PolN.more h44 (by omega)
    refine zzf 57 68 [.slice none 0 0, y43.v] ?_
    intro w50 u50 e50 d50
    have k55 := k_poAdd d50 (pol_nil _ 1).raw (hk49.ext e50).raw (by omega) (by omega) (by have h9 := (show ([] : List Rat).length ≤ 0 from Nat.le_refl 0); omega) (by have h9 := hm48; omega)
    with_reducible refine Post.mono k55 ?_
    rintro _ u53 g54 ⟨y51, rfl, h52⟩
    have hly51 := h52.len
    have hm56 : (Nt.trimQ (Nt.addQ [] (Nt.trimQ ((Nt.revL [(((8 : Int) : Rat) / ((Nt.p2i (⟨8, 4, 1, 1⟩ : WL).f : Int) : Rat))] 0).map (· * (((0 : Int) : Rat) / ((Nt.p2i (⟨8, 4, 1, 1⟩ : WL).f : Int) : Rat))))))).length ≤ 1 := Nt.add_lenQ (show ([] : List Rat).length ≤ 0 from Nat.le_refl 0) hm48
    have hk57 : PolN _ y51 (Nt.trimQ (Nt.addQ [] (Nt.trimQ ((Nt.revL [(((8 : Int) : Rat) / ((Nt.p2i (⟨8, 4, 1, 1⟩ : WL).f : Int) : Rat))] 0).map (· * (((0 : Int) : Rat) / ((Nt.p2i (⟨8, 4, 1, 1⟩ : WL).f : Int) : Rat))))))) 2036 := PolN.more h52 (by omega)
    refine zza 12 (.v y51.v) ?_
    refine zzw ?_
    refine zzo ?_
    refine zze ?_
    refine zza 58 (.v (.int .i64 1)) ?_
    refine zza 44 (.v (.int .i64 1)) ?_
    refine zzw ?_
    refine rn_next ?_
    refine sw_weak (T := St.of 72 [(5, .adr 5 0), (6, .adr 6 0), (9, .v (.slice (some ⟨b22, 0, none⟩) x.n x.n)), (12, .v (.slice y51.a y51.n y51.c)), (42, .v (.slice y.a y.n y.c)), (43, .v (.int .i64 (y.n : Int))), (44, .v (.int .i64 1))] [(5, ⟨51, [.int .i64 8, .int .i64 4, .int .i64 1, .int .i64 1]⟩), (6, ⟨54, [.slice none 0 0, .slice none 0 0]⟩)]) (by exact zzu _ _ _) ?_
    refine sq9 ?_
    refine zza 45 (.v (.bool (decide ((1 : Int) < (y.n : Int))))) ?_
    refine zzb 72 [(5, .adr 5 0), (6, .adr 6 0), (9, .v (.slice (some ⟨b22, 0, none⟩) x.n x.n)), (12, .v y51.v), (42, .v y.v), (43, .v (.int .i64 (y.n : Int))), (44, .v (.int .i64 1)), (45, .v (.bool (decide ((1 : Int) < (y.n : Int)))))] [(5, ⟨51, [.int .i64 8, .int .i64 4, .int .i64 1, .int .i64 1]⟩), (6, ⟨54, [.slice none 0 0, .slice none 0 0]⟩)] ?_
    refine zzc ?_
    refine zzt (b := decide ((1 : Int) < (y.n : Int))) (by kernel_rfl) (fun hb => ?_) (fun hb => ?_)
    ·clear hb
     refine zzr (zzo ?_)
     refine zzc ?_
     refine zzs ?_
     refine sq9 ?_
     refine zza 46 (.v (.int .i64 1)) ?_
     have hl58 := ((hy.ext (e11.trans (g13.ext.trans (e16.trans (g20.ext.trans (e24.trans (e29.trans (g33.ext.trans (e36.trans (g40.ext.trans (e42.trans (g46.ext.trans (e50.trans g54.ext)))))))))))))).1
     obtain ⟨b58, o58, hA58, hc58⟩ := ints_at (hy.ext (e11.trans (g13.ext.trans (e16.trans (g20.ext.trans (e24.trans (e29.trans (g33.ext.trans (e36.trans (g40.ext.trans (e42.trans (g46.ext.trans (e50.trans g54.ext))))))))))))) (i := 1) (by omega)
     have hz58 := ints_bd (show ∀ z ∈ ([0, 16] : List Int), -9223372036854775808 ≤ z ∧ z ≤ 9223372036854775807 by decide) (by omega) 1
     refine zzz 47 (o58 + 1 * 1) (n := y.n) (off := o58) (sz := 1) (i := 1) (by omega) hA58 (by omega) (by omega) sl22 ?_
     refine zyk 48 (.int .i64 16) hc58 ty3 ?_
     refine zza 13 (.v (.int .i64 1)) ?_
     refine zza 14 (.v (.int .i64 16)) ?_
     refine zzb 72 [(5, .adr 5 0), (6, .adr 6 0), (9, .v (.slice (some ⟨b22, 0, none⟩) x.n x.n)), (12, .v y51.v), (13, .v (.int .i64 1)), (14, .v (.int .i64 16)), (42, .v y.v), (43, .v (.int .i64 (y.n : Int))), (44, .v (.int .i64 1))] [(5, ⟨51, [.int .i64 8, .int .i64 4, .int .i64 1, .int .i64 1]⟩), (6, ⟨54, [.slice none 0 0, .slice none 0 0]⟩)] ?_
     refine zzy [0, 0, 0, 6, 0, 0, 62, 126, 255, 511] [(0, []), (1, []), (2, []), (4, []), (5, []), (3, []), (6, []), (7, []), (8, []), (9, [])] (by kernel_rfl) (by kernel_rfl) ?_
     refine zza 49 (.v y51.v) ?_
     refine zza 50 (.v (.slice (some ⟨b22, 0, none⟩) x.n x.n)) ?_
     refine zza 51 (.v (.int .i64 1)) ?_
     refine zzh 53 (.v (.agg #[.int .i64 8, .int .i64 4, .int .i64 1, .int .i64 1])) ty51 zzd ?_
     refine zza 54 (.v (.int .i64 16)) ?_
     refine zzf 52 52 [.slice (some ⟨b22, 0, none⟩) x.n x.n, .int .i64 1] ?_
     intro w59 u59 e59 d59
     have k64 := (show Calls _ _ #[_, .int .i64 1] _ _ from k_reversed (i := 1) d59 (hp27.ext (e29.trans (g33.ext.trans (e36.trans (g40.ext.trans (e42.trans (g46.ext.trans (e50.trans (g54.ext.trans e59))))))))).raw (by decide) (by decide) hz (by decide))
     with_reducible refine Post.mono k64 ?_
     rintro _ u62 g63 ⟨y60, rfl, h61⟩
     have hly60 := h61.len
     have hmy60 := Nat.le_of_eq (Nt.revL_len [(((8 : Int) : Rat) / ((Nt.p2i (⟨8, 4, 1, 1⟩ : WL).f : Int) : Rat))] 1)
     have hk65 := PolN.more h61 (Nt.upK_le (show 1 ≤ 6 by omega))
     refine zzf 55 102 [.agg #[.int .i64 8, .int .i64 4, .int .i64 1, .int .i64 1], .int .i64 16] ?_
     intro w66 u66 e66 d66
     have k71 := k_fxValue (W := (⟨8, 4, 1, 1⟩ : WL)) (z := 16) d66 (show WdOK (⟨8, 4, 1, 1⟩ : WL) by unfold WdOK; decide) (by decide) (by decide)
     with_reducible refine Post.mono k71 ?_
     rintro _ u69 g70 ⟨r67, rfl, h68⟩
     refine zzf 56 51 [y60.v, r67.v] ?_
     intro w72 u72 e72 d72
     have k77 := k_poScale d72 (hk65.ext (e66.trans (g70.ext.trans e72))).raw (h68.ext e72).raw (by omega) (by have h9 := hmy60; omega) (by omega)
     with_reducible refine Post.mono k77 ?_
     rintro _ u75 g76 ⟨y73, rfl, h74⟩
     have hly73 := h74.len
     have hm78 : (Nt.trimQ ((Nt.revL [(((8 : Int) : Rat) / ((Nt.p2i (⟨8, 4, 1, 1⟩ : WL).f : Int) : Rat))] 1).map (· * (((16 : Int) : Rat) / ((Nt.p2i (⟨8, 4, 1, 1⟩ : WL).f : Int) : Rat))))).length ≤ 2 := Nt.map_lenQ hmy60
     have hk79 : PolN _ y73 (Nt.trimQ ((Nt.revL [(((8 : Int) : Rat) / ((Nt.p2i (⟨8, 4, 1, 1⟩ : WL).f : Int) : Rat))] 1).map (· * (((16 : Int) : Rat) / ((Nt.p2i (⟨8, 4, 1, 1⟩ : WL).f : Int) : Rat))))) 2034 := PolN.more h74 (by omega)
     refine zzf 57 68 [y51.v, y73.v] ?_
     intro w80 u80 e80 d80
     have k85 := k_poAdd d80 (hk57.ext (e59.trans (g63.ext.trans (e66.trans (g70.ext.trans (e72.trans (g76.ext.trans e80))))))).raw (hk79.ext e80).raw (by omega) (by omega) (by have h9 := hm56; omega) (by have h9 := hm78; omega)
     with_reducible refine Post.mono k85 ?_
     rintro _ u83 g84 ⟨y81, rfl, h82⟩
     have hly81 := h82.len
     have hm86 : (Nt.trimQ (Nt.addQ (Nt.trimQ (Nt.addQ [] (Nt.trimQ ((Nt.revL [(((8 : Int) : Rat) / ((Nt.p2i (⟨8, 4, 1, 1⟩ : WL).f : Int) : Rat))] 0).map (· * (((0 : Int) : Rat) / ((Nt.p2i (⟨8, 4, 1, 1⟩ : WL).f : Int) : Rat))))))) (Nt.trimQ ((Nt.revL [(((8 : Int) : Rat) / ((Nt.p2i (⟨8, 4, 1, 1⟩ : WL).f : Int) : Rat))] 1).map (· * (((16 : Int) : Rat) / ((Nt.p2i (⟨8, 4, 1, 1⟩ : WL).f : Int) : Rat))))))).length ≤ 2 := Nt.add_lenQ hm56 hm78
     have hk87 : PolN _ y81 (Nt.trimQ (Nt.addQ (Nt.trimQ (Nt.addQ [] (Nt.trimQ ((Nt.revL [(((8 : Int) : Rat) / ((Nt.p2i (⟨8, 4, 1, 1⟩ : WL).f : Int) : Rat))] 0).map (· * (((0 : Int) : Rat) / ((Nt.p2i (⟨8, 4, 1, 1⟩ : WL).f : Int) : Rat))))))) (Nt.trimQ ((Nt.revL [(((8 : Int) : Rat) / ((Nt.p2i (⟨8, 4, 1, 1⟩ : WL).f : Int) : Rat))] 1).map (· * (((16 : Int) : Rat) / ((Nt.p2i (⟨8, 4, 1, 1⟩ : WL).f : Int) : Rat))))))) 4071 := PolN.more h82 (by omega)
     refine zza 12 (.v y81.v) ?_
     refine zzw ?_
     refine zzo ?_
     refine zze ?_
     refine zza 58 (.v (.int .i64 2)) ?_
     refine zza 44 (.v (.int .i64 2)) ?_
     refine zzw ?_
     refine rn_next ?_
     refine sw_weak (T := St.of 72 [(5, .adr 5 0), (6, .adr 6 0), (9, .v (.slice (some ⟨b22, 0, none⟩) x.n x.n)), (12, .v (.slice y81.a y81.n y81.c)), (42, .v (.slice y.a y.n y.c)), (43, .v (.int .i64 (y.n : Int))), (44, .v (.int .i64 2))] [(5, ⟨51, [.int .i64 8, .int .i64 4, .int .i64 1, .int .i64 1]⟩), (6, ⟨54, [.slice none 0 0, .slice none 0 0]⟩)]) (by exact zzu _ _ _) ?_
     refine sq9 ?_
     refine zza 45 (.v (.bool (decide ((2 : Int) < (y.n : Int))))) ?_
     refine zzb 72 [(5, .adr 5 0), (6, .adr 6 0), (9, .v (.slice (some ⟨b22, 0, none⟩) x.n x.n)), (12, .v y81.v), (42, .v y.v), (43, .v (.int .i64 (y.n : Int))), (44, .v (.int .i64 2)), (45, .v (.bool (decide ((2 : Int) < (y.n : Int)))))] [(5, ⟨51, [.int .i64 8, .int .i64 4, .int .i64 1, .int .i64 1]⟩), (6, ⟨54, [.slice none 0 0, .slice none 0 0]⟩)] ?_
     refine zzc ?_
     refine zzt (b := decide ((2 : Int) < (y.n : Int))) (by kernel_rfl) (fun hb => ?_) (fun hb => ?_)
     ·exact absurd hb (by rw [show (decide ((2 : Int) < (y.n : Int))) = false from decide_eq_false (by omega)]; decide)
     ·clear hb
      refine zyb ?_
      refine zzo ?_
      refine sq9 ?_
      refine zza 60 (.v (.slice (some ⟨b22, 0, none⟩) x.n x.n)) ?_
      refine zzf 61 45 [.slice (some ⟨b22, 0, none⟩) x.n x.n] ?_
      intro w88 u88 e88 d88
      have k93 := k_stepUpG d88 (hp27.ext (e29.trans (g33.ext.trans (e36.trans (g40.ext.trans (e42.trans (g46.ext.trans (e50.trans (g54.ext.trans (e59.trans (g63.ext.trans (e66.trans (g70.ext.trans (e72.trans (g76.ext.trans (e80.trans (g84.ext.trans e88))))))))))))))))).raw (by decide) (by decide) hz
      with_reducible refine Post.mono k93 ?_
      rintro _ u91 g92 ⟨y89, rfl, h90⟩
      change PolN _ _ (Nt.trimQ (Nt.upL [(((8 : Int) : Rat) / ((Nt.p2i (⟨8, 4, 1, 1⟩ : WL).f : Int) : Rat))] 1)) (Nt.upK 1) at h90
      have hly89 := h90.len
      have hky89 := Nt.upK_le (show 1 ≤ 6 by omega)
      refine zza 59 (.v (.tuple #[y89.v, .int .i64 0])) ?_
      refine zza 62 (.v y89.v) ?_
      refine zza 63 (.v (.int .i64 0)) ?_
      refine zza 15 (.v y89.v) ?_
      refine zza 16 (.v (.int .i64 0)) ?_
      refine zzb 72 [(6, .adr 6 0), (12, .v y81.v), (15, .v y89.v), (16, .v (.int .i64 0))] [(6, ⟨54, [.slice none 0 0, .slice none 0 0]⟩)] ?_
      refine zzc ?_
      refine sq9 ?_
      refine zza 64 (.v (.int .i64 0)) ?_
      refine zza 65 (.v (.bool false)) ?_
      refine zzb 72 [(6, .adr 6 0), (12, .v y81.v), (15, .v y89.v), (16, .v (.int .i64 0)), (65, .v (.bool false))] [(6, ⟨54, [.slice none 0 0, .slice none 0 0]⟩)] ?_
      refine zyr (by kernel_rfl) ?_
      refine zzr (zzo ?_)
      refine sq9 ?_
      refine zza 68 (.v y81.v) ?_
      refine zzf 69 47 [y81.v] ?_
      intro w94 u94 e94 d94
      have k99 := k_poTrim d94 (hk87.ext (e88.trans (g92.ext.trans e94))).raw (by omega) (by first|omega|(simp;omega) | (refine Nat.le_trans (Nt.zzg _) ?_; first|omega|(simp;omega)) | (refine Nat.le_trans (Nt.zzg _) ?_; simp only [List.length_map]; refine Nat.le_trans (Nt.zzg _) ?_; first|omega|(simp;omega)))
      with_reducible refine Post.mono k99 ?_
      rintro _ u97 g98 ⟨y95, rfl, h96⟩
      have hly95 := h96.len
      refine zza 70 (.v y89.v) ?_
      refine zza 71 (.v (.agg #[y95.v, y89.v])) ?_
      refine zzi ⟨54, [y95.v, y89.v]⟩ ty54 ?_
      refine zza 7 (.v (.int .i64 0)) ?_
      refine zzb 72 [(6, .adr 6 0), (7, .v (.int .i64 0))] [(6, ⟨54, [y95.v, y89.v]⟩)] ?_
      refine zzn (ret0 [.agg #[.slice y95.a y95.n y95.c, .slice y89.a y89.n y89.c], .int .i64 0] ⟨zzq ty54 zzd, zzp, trivial⟩ fun u100 e101 => ?_)
      refine ⟨y95, y89, rfl, ?_, ?_⟩
      ·have h9 := (h96.ext e101)
       rw [show (Nt.trimQ (Nt.trimQ (Nt.addQ (Nt.trimQ (Nt.addQ [] (Nt.trimQ ((Nt.revL [(((8 : Int) : Rat) / ((Nt.p2i (⟨8, 4, 1, 1⟩ : WL).f : Int) : Rat))] 0).map (· * (((0 : Int) : Rat) / ((Nt.p2i (⟨8, 4, 1, 1⟩ : WL).f : Int) : Rat))))))) (Nt.trimQ ((Nt.revL [(((8 : Int) : Rat) / ((Nt.p2i (⟨8, 4, 1, 1⟩ : WL).f : Int) : Rat))] 1).map (· * (((16 : Int) : Rat) / ((Nt.p2i (⟨8, 4, 1, 1⟩ : WL).f : Int) : Rat)))))))) = [((1 : Int) : Rat) / ((2 : Int) : Rat), ((1 : Int) : Rat)] from by decide +kernel] at h9
       exact h9.more (by omega)
      ·have h9 := (h90.ext (e94.trans (g98.ext.trans e101)))
       rw [show (Nt.trimQ (Nt.upL [(((8 : Int) : Rat) / ((Nt.p2i (⟨8, 4, 1, 1⟩ : WL).f : Int) : Rat))] 1)) = [((1 : Int) : Rat), ((1 : Int) : Rat) / ((2 : Int) : Rat)] from by decide +kernel] at h9
       exact h9.more (by omega)
    ·exact absurd hb (by rw [show (decide ((1 : Int) < (y.n : Int))) = true from decide_eq_true (by omega)]; decide)
   ·exact absurd hb (by rw [show (decide ((0 : Int) < (y.n : Int))) = true from decide_eq_true (by omega)]; decide)
 ·exact absurd hb (by rw [show (decide ((0 : Int) < (x.n : Int))) = true from decide_eq_true (by omega)]; decide)
set_option maxHeartbeats 4000000 in
theorem k_known25 {u w : World} (d : Dat u w) : Calls Tryz.prog 16 #[] w (Post u w fun v _ => v = .bool true) := by
 refine zzl (args := []) Tryz.func16 rfl Tryz.ntmps16 (rs := [.tmp 0]) Tryz.results16 (le_b rfl) (le_b rfl) d ?_
 refine sq9 ?_
 refine zza 0 (.v (.bool false)) ?_
 refine zzb 52 [] [] ?_
 refine sq9 ?_
 refine zza 6 (.v (.agg #[.int .i64 8, .int .i64 4, .int .i64 1, .int .i64 1])) ?_
 refine zzj 1 ⟨51, [.int .i64 0, .int .i64 0, .int .i64 0, .int .i64 0]⟩ ?_
 refine zzi ⟨51, [.int .i64 8, .int .i64 4, .int .i64 1, .int .i64 1]⟩ ty51 ?_
 refine zzb 52 [(1, .adr 1 0)] [(1, ⟨51, [.int .i64 8, .int .i64 4, .int .i64 1, .int .i64 1]⟩)] ?_
 refine sq9 ?_
 refine zzf 8 19 [.int .i64 1] ?_
 intro w11 u11 e11 d11
 have k16 := k_rqOf d11 (z := 1) (by omega) (by omega)
 with_reducible refine Post.mono k16 ?_
 rintro _ u14 g15 ⟨r12, rfl, h13⟩
 refine zzf 9 19 [.int .i64 1] ?_
 intro w17 u17 e17 d17
 have k22 := k_rqOf d17 (z := 1) (by omega) (by omega)
 with_reducible refine Post.mono k22 ?_
 rintro _ u20 g21 ⟨r18, rfl, h19⟩
 refine sy_data 10 ⟨29, r12.cs ++ r18.cs⟩ 2 (fun b23 u24 e25 h26 => ?_)
 have hp27 : PolN u24 (⟨some ⟨b23, 0, none⟩, 2, 2⟩ : Sl) [((1 : Int) : Rat), ((1 : Int) : Rat)] 2 := pol_lit (L := [r12, r18]) h26 (rats2 (h13.ext (e17.trans (g21.ext.trans e25))) (h19.ext e25)) rfl (by decide)
 refine zzf 11 10 [.int .i64 1, .int .i64 2] ?_
 intro w28 u28 e28 d28
 have k33 := k_rqFrac d28 (a := 1) (b := 2) (by omega) (by omega) (by omega) (by omega)
 with_reducible refine Post.mono k33 ?_
 rintro _ u31 g32 ⟨r29, rfl, h30⟩
 refine sy_data 12 ⟨29, r29.cs⟩ 1 (fun b34 u35 e36 h37 => ?_)
 have hp38 : PolN u35 (⟨some ⟨b34, 0, none⟩, 1, 1⟩ : Sl) [(((1 : Int) : Rat) / ((2 : Int) : Rat))] 3 := pol_lit (L := [r29]) h37 (rats1 (h30.ext e36)) rfl (by decide)
 refine zzf 13 13 [.slice (some ⟨b23, 0, none⟩) 2 2, .slice (some ⟨b34, 0, none⟩) 1 1] ?_
 intro w39 u39 e39 d39
 have k44 := k_taps d39 (hp27.ext (e28.trans (g32.ext.trans (e36.trans e39)))).raw (hp38.ext e39).raw (by first | omega | (simp; done) | (simp; omega)) (by omega) (by omega) (by first | omega | (simp; done) | (simp; omega))
 with_reducible refine Post.mono k44 ?_
 rintro _ u42 g43 ⟨y40, rfl, h41⟩
 refine zza 7 (.v (.tuple #[y40.v, .int .i64 (Nt.tapE ([((1 : Int) : Rat), ((1 : Int) : Rat)]) ([(((1 : Int) : Rat) / ((2 : Int) : Rat))]))])) ?_
 refine zza 14 (.v y40.v) ?_
 refine zza 15 (.v (.int .i64 (Nt.tapE ([((1 : Int) : Rat), ((1 : Int) : Rat)]) ([(((1 : Int) : Rat) / ((2 : Int) : Rat))])))) ?_
 refine zza 2 (.v y40.v) ?_
 refine zza 3 (.v (.int .i64 (Nt.tapE ([((1 : Int) : Rat), ((1 : Int) : Rat)]) ([(((1 : Int) : Rat) / ((2 : Int) : Rat))])))) ?_
 refine zzb 52 [(1, .adr 1 0), (2, .v y40.v), (3, .v (.int .i64 (Nt.tapE ([((1 : Int) : Rat), ((1 : Int) : Rat)]) ([(((1 : Int) : Rat) / ((2 : Int) : Rat))]))))] [(1, ⟨51, [.int .i64 8, .int .i64 4, .int .i64 1, .int .i64 1]⟩)] ?_
 refine sq9 ?_
 refine sy_data 17 ⟨3, [.int .i64 8]⟩ 1 (fun b45 u46 e47 h48 => ?_)
 have hp49 : SlR .i64 u46 (some ⟨b45, 0, none⟩) 1 1 [8] := ints_data h48 rfl rfl (Nat.le_refl _) (by decide)
 refine sy_data 18 ⟨3, [.int .i64 0, .int .i64 16]⟩ 2 (fun b50 u51 e52 h53 => ?_)
 have hp54 : SlR .i64 u51 (some ⟨b50, 0, none⟩) 2 2 [0, 16] := ints_data h53 rfl rfl (Nat.le_refl _) (by decide)
 refine zzh 19 (.v (.agg #[.int .i64 8, .int .i64 4, .int .i64 1, .int .i64 1])) ty51 zzd ?_
 refine zzf 20 57 [.slice (some ⟨b45, 0, none⟩) 1 1, .slice (some ⟨b50, 0, none⟩) 2 2, .agg #[.int .i64 8, .int .i64 4, .int .i64 1, .int .i64 1]] ?_
 intro w55 u55 e55 d55
 have k62 := k_latIdeal (x := (⟨some ⟨b45, 0, none⟩, 1, 1⟩ : Sl)) (y := (⟨some ⟨b50, 0, none⟩, 2, 2⟩ : Sl)) d55 (hp49.ext (e52.trans e55)) (hp54.ext e55)
 with_reducible refine Post.mono k62 ?_
 rintro _ u60 g61 ⟨y56, y57, rfl, h58, h59⟩
 refine zza 16 (.v (.tuple #[.agg #[y56.v, y57.v], .int .i64 0])) ?_
 refine zza 21 (.v (.agg #[y56.v, y57.v])) ?_
 refine zza 22 (.v (.int .i64 0)) ?_
 refine zzj 4 ⟨54, [.slice none 0 0, .slice none 0 0]⟩ ?_
 refine zzi ⟨54, [y56.v, y57.v]⟩ ty54 ?_
 refine zza 5 (.v (.int .i64 0)) ?_
 refine zzb 52 [(2, .v y40.v), (3, .v (.int .i64 (Nt.tapE ([((1 : Int) : Rat), ((1 : Int) : Rat)]) ([(((1 : Int) : Rat) / ((2 : Int) : Rat))])))), (4, .adr 4 0), (5, .v (.int .i64 0))] [(4, ⟨54, [y56.v, y57.v]⟩)] ?_
 refine zzc ?_
 refine zzy [0, 1, 3, 7, 15, 31, 63, 127, 127, 383, 895, 2047, 4095, 8191, 16383, 32767, 16383, 81919, 212991, 524287, 1048575, 2097151, 4194303, 8388607, 4194303, 20971519, 54525951, 134217727, 268435455, 536870911] [(0, []), (1, []), (2, []), (3, []), (4, []), (5, []), (6, []), (7, []), (8, []), (9, []), (10, []), (11, [33]), (12, []), (13, []), (14, []), (15, []), (16, []), (17, []), (18, []), (19, [41]), (20, []), (21, []), (22, []), (23, []), (24, []), (25, []), (26, []), (27, [49]), (28, []), (29, [])] (by kernel_rfl) (by kernel_rfl) ?_
 refine zza 23 (.v (.int .i64 (Nt.tapE ([((1 : Int) : Rat), ((1 : Int) : Rat)]) ([(((1 : Int) : Rat) / ((2 : Int) : Rat))])))) ?_
 refine zza 24 (.v (.bool ((Nt.tapE ([((1 : Int) : Rat), ((1 : Int) : Rat)]) ([(((1 : Int) : Rat) / ((2 : Int) : Rat))])) == 0))) ?_
 refine zyp 25 (x := .v (.bool ((Nt.tapE ([((1 : Int) : Rat), ((1 : Int) : Rat)]) ([(((1 : Int) : Rat) / ((2 : Int) : Rat))])) == 0))) (.v (.bool true)) (by rw [show ((Nt.tapE ([((1 : Int) : Rat), ((1 : Int) : Rat)]) ([(((1 : Int) : Rat) / ((2 : Int) : Rat))])) == 0) = true from (by decide +kernel)]) ?_
 refine zza 26 (.v (.int .i64 0)) ?_ (hw := w1 2 true 25)
 refine zza 27 (.v (.bool true)) ?_ (hw := w1 2 true 25)
 refine zza 28 (.v (.bool true)) ?_
 refine zza 29 (.v (.bool true)) ?_
 refine zza 30 (.v y40.v) ?_ (hw := w1 6 true 29)
 refine zzf 31 10 [.int .i64 1, .int .i64 2] ?_ (hw := w1 6 true 29)
 intro w64 u64 e64 d64
 have k69 := k_rqFrac d64 (a := 1) (b := 2) (by omega) (by omega) (by omega) (by omega)
 with_reducible refine Post.mono k69 ?_
 rintro _ u67 g68 ⟨r65, rfl, h66⟩
 refine zzf 32 19 [.int .i64 1] ?_ (hw := w1 6 true 29)
 intro w70 u70 e70 d70
 have k75 := k_rqOf d70 (z := 1) (by omega) (by omega)
 with_reducible refine Post.mono k75 ?_
 rintro _ u73 g74 ⟨r71, rfl, h72⟩
 refine sy_lit 33 ⟨29, r65.cs ++ r71.cs⟩ 2 ?_ (hw := w1 6 true 29)
 refine zyn 34 15 [.v y40.v, .slc 33 0 2 2] [33] (.inr rfl) (pub_mk (by repeat first | exact noAt_of | refine zyc ?_ | refine zye ?_ | refine zyd ?_ | refine zzx ?_ | refine zya ?_)) (k := ?_) (hw := w1 6 true 29)
 intro B76 w76 u76 e76 d76 v76
 have h78 : u76.heap[B76 33]? = some (.cells #[.bool r65.s, .slice r65.m.a r65.m.n r65.m.c, .slice r65.d.a r65.d.n r65.d.c, .bool r71.s, .slice r71.m.a r71.m.n r71.m.c, .slice r71.d.a r71.d.n r71.d.c] 29 (0, 0)) := v76 33 (by simp) _ rfl
 obtain ⟨b77, hBb77⟩ : ∃ b, B76 33 = b := ⟨_, rfl⟩
 rw [hBb77] at h78
 have hp79 : PolN u76 (⟨some ⟨b77, 0, none⟩, 2, 2⟩ : Sl) [(((1 : Int) : Rat) / ((2 : Int) : Rat)), ((1 : Int) : Rat)] (max 3 2) := pol_lit (L := [r65, r71]) h78 (rats2 (RatN.more (L := (max 3 2)) (h66.ext (e70.trans (g74.ext.trans e76))) (by omega)) (RatN.more (L := (max 3 2)) (h72.ext e76) (by omega))) rfl (by decide)
 show Calls _ _ #[.slice y40.a y40.n y40.c, .slice (some ⟨B76 33, 0, none⟩) 2 2] _ _
 rw [hBb77]
 have k82 := k_sameRats d76 (h41.ext (e47.trans (e52.trans (e55.trans (g61.ext.trans (e64.trans (g68.ext.trans (e70.trans (g74.ext.trans e76))))))))).raw (show PolV _ _ (Nt.tapO ([((1 : Int) : Rat), ((1 : Int) : Rat)]) ([(((1 : Int) : Rat) / ((2 : Int) : Rat))])) _ from (by rw [show (Nt.tapO ([((1 : Int) : Rat), ((1 : Int) : Rat)]) ([(((1 : Int) : Rat) / ((2 : Int) : Rat))])) = [(((1 : Int) : Rat) / ((2 : Int) : Rat)), ((1 : Int) : Rat)] from by decide +kernel]; exact hp79.raw)) (by decide) (by decide)
 with_reducible refine Post.mono k82 ?_
 rintro _ u80 g81 rfl
 refine zza 35 (.v (.bool true)) ?_
 refine zza 36 (.v (.bool true)) ?_
 refine zza 37 (.adr 4 1) ?_ (hw := w1 13 true 36)
 refine zzh 38 (.v y57.v) ty32 zzk ?_ (hw := w1 13 true 36)
 refine zzf 39 19 [.int .i64 1] ?_ (hw := w1 13 true 36)
 intro w83 u83 e83 d83
 have k88 := k_rqOf d83 (z := 1) (by omega) (by omega)
 with_reducible refine Post.mono k88 ?_
 rintro _ u86 g87 ⟨r84, rfl, h85⟩
 refine zzf 40 10 [.int .i64 1, .int .i64 2] ?_ (hw := w1 13 true 36)
 intro w89 u89 e89 d89
 have k94 := k_rqFrac d89 (a := 1) (b := 2) (by omega) (by omega) (by omega) (by omega)
 with_reducible refine Post.mono k94 ?_
 rintro _ u92 g93 ⟨r90, rfl, h91⟩
 refine sy_lit 41 ⟨29, r84.cs ++ r90.cs⟩ 2 ?_ (hw := w1 13 true 36)
 refine zyn 42 22 [.v y57.v, .slc 41 0 2 2] [41] (.inr rfl) (pub_mk (by repeat first | exact noAt_of | refine zyc ?_ | refine zye ?_ | refine zyd ?_ | refine zzx ?_ | refine zya ?_)) (k := ?_) (hw := w1 13 true 36)
 intro B95 w95 u95 e95 d95 v95
 have h97 : u95.heap[B95 41]? = some (.cells #[.bool r84.s, .slice r84.m.a r84.m.n r84.m.c, .slice r84.d.a r84.d.n r84.d.c, .bool r90.s, .slice r90.m.a r90.m.n r90.m.c, .slice r90.d.a r90.d.n r90.d.c] 29 (0, 0)) := v95 41 (by simp) _ rfl
 obtain ⟨b96, hBb96⟩ : ∃ b, B95 41 = b := ⟨_, rfl⟩
 rw [hBb96] at h97
 have hp98 : PolN u95 (⟨some ⟨b96, 0, none⟩, 2, 2⟩ : Sl) [((1 : Int) : Rat), (((1 : Int) : Rat) / ((2 : Int) : Rat))] (max 2 3) := pol_lit (L := [r84, r90]) h97 (rats2 (RatN.more (L := (max 2 3)) (h85.ext (e89.trans (g93.ext.trans e95))) (by omega)) (RatN.more (L := (max 2 3)) (h91.ext e95) (by omega))) rfl (by decide)
 show Calls _ _ #[.slice y57.a y57.n y57.c, .slice (some ⟨B95 41, 0, none⟩) 2 2] _ _
 rw [hBb96]
 have k101 := k_r5Same d95 (h59.ext (e64.trans (g68.ext.trans (e70.trans (g74.ext.trans (e76.trans (g81.ext.trans (e83.trans (g87.ext.trans (e89.trans (g93.ext.trans e95))))))))))).raw hp98.raw (by decide) (by decide) (by decide) (by decide)
 with_reducible refine Post.mono k101 ?_
 rintro _ u99 g100 rfl
 refine zza 43 (.v (.bool (decide (Nt.trimQ [((1 : Int) : Rat), ((1 : Int) : Rat) / ((2 : Int) : Rat)] = Nt.trimQ [((1 : Int) : Rat), (((1 : Int) : Rat) / ((2 : Int) : Rat))])))) ?_
 refine zyp 44 (x := .v (.bool (decide (Nt.trimQ [((1 : Int) : Rat), ((1 : Int) : Rat) / ((2 : Int) : Rat)] = Nt.trimQ [((1 : Int) : Rat), (((1 : Int) : Rat) / ((2 : Int) : Rat))])))) (.v (.bool true)) (by rw [show (decide (Nt.trimQ [((1 : Int) : Rat), ((1 : Int) : Rat) / ((2 : Int) : Rat)] = Nt.trimQ [((1 : Int) : Rat), (((1 : Int) : Rat) / ((2 : Int) : Rat))])) = true from decide_eq_true (by decide +kernel)]) ?_
 refine zza 45 (.adr 4 0) ?_ (hw := w1 21 true 44)
 refine zzh 46 (.v y56.v) ty32 zzk ?_ (hw := w1 21 true 44)
 refine zzf 47 10 [.int .i64 1, .int .i64 2] ?_ (hw := w1 21 true 44)
 intro w103 u103 e103 d103
 have k108 := k_rqFrac d103 (a := 1) (b := 2) (by omega) (by omega) (by omega) (by omega)
 with_reducible refine Post.mono k108 ?_
 rintro _ u106 g107 ⟨r104, rfl, h105⟩
 refine zzf 48 19 [.int .i64 1] ?_ (hw := w1 21 true 44)
 intro w109 u109 e109 d109
 have k114 := k_rqOf d109 (z := 1) (by omega) (by omega)
 with_reducible refine Post.mono k114 ?_
 rintro _ u112 g113 ⟨r110, rfl, h111⟩
 refine sy_lit 49 ⟨29, r104.cs ++ r110.cs⟩ 2 ?_ (hw := w1 21 true 44)
 refine zyn 50 22 [.v y56.v, .slc 49 0 2 2] [49] (.inr rfl) (pub_mk (by repeat first | exact noAt_of | refine zyc ?_ | refine zye ?_ | refine zyd ?_ | refine zzx ?_ | refine zya ?_)) (k := ?_) (hw := w1 21 true 44)
 intro B115 w115 u115 e115 d115 v115
 have h117 : u115.heap[B115 49]? = some (.cells #[.bool r104.s, .slice r104.m.a r104.m.n r104.m.c, .slice r104.d.a r104.d.n r104.d.c, .bool r110.s, .slice r110.m.a r110.m.n r110.m.c, .slice r110.d.a r110.d.n r110.d.c] 29 (0, 0)) := v115 49 (by simp) _ rfl
 obtain ⟨b116, hBb116⟩ : ∃ b, B115 49 = b := ⟨_, rfl⟩
 rw [hBb116] at h117
 have hp118 : PolN u115 (⟨some ⟨b116, 0, none⟩, 2, 2⟩ : Sl) [(((1 : Int) : Rat) / ((2 : Int) : Rat)), ((1 : Int) : Rat)] (max 3 2) := pol_lit (L := [r104, r110]) h117 (rats2 (RatN.more (L := (max 3 2)) (h105.ext (e109.trans (g113.ext.trans e115))) (by omega)) (RatN.more (L := (max 3 2)) (h111.ext e115) (by omega))) rfl (by decide)
 show Calls _ _ #[.slice y56.a y56.n y56.c, .slice (some ⟨B115 49, 0, none⟩) 2 2] _ _
 rw [hBb116]
 have k121 := k_r5Same d115 (h58.ext (e64.trans (g68.ext.trans (e70.trans (g74.ext.trans (e76.trans (g81.ext.trans (e83.trans (g87.ext.trans (e89.trans (g93.ext.trans (e95.trans (g100.ext.trans (e103.trans (g107.ext.trans (e109.trans (g113.ext.trans e115))))))))))))))))).raw hp118.raw (by decide) (by decide) (by decide) (by decide)
 with_reducible refine Post.mono k121 ?_
 rintro _ u119 g120 rfl
 refine zza 51 (.v (.bool (decide (Nt.trimQ [((1 : Int) : Rat) / ((2 : Int) : Rat), ((1 : Int) : Rat)] = Nt.trimQ [(((1 : Int) : Rat) / ((2 : Int) : Rat)), ((1 : Int) : Rat)])))) ?_
 refine zza 0 (.v (.bool (decide (Nt.trimQ [((1 : Int) : Rat) / ((2 : Int) : Rat), ((1 : Int) : Rat)] = Nt.trimQ [(((1 : Int) : Rat) / ((2 : Int) : Rat)), ((1 : Int) : Rat)])))) ?_
 refine zzb 52 [(0, .v (.bool (decide (Nt.trimQ [((1 : Int) : Rat) / ((2 : Int) : Rat), ((1 : Int) : Rat)] = Nt.trimQ [(((1 : Int) : Rat) / ((2 : Int) : Rat)), ((1 : Int) : Rat)]))))] [] ?_
 refine zzn (ret0 [.bool (decide (Nt.trimQ [((1 : Int) : Rat) / ((2 : Int) : Rat), ((1 : Int) : Rat)] = Nt.trimQ [(((1 : Int) : Rat) / ((2 : Int) : Rat)), ((1 : Int) : Rat)]))] ⟨zzp, trivial⟩ fun u122 e123 => ?_)
 show Value.bool _ = Value.bool _
 rw [show (decide (Nt.trimQ [((1 : Int) : Rat) / ((2 : Int) : Rat), ((1 : Int) : Rat)] = Nt.trimQ [(((1 : Int) : Rat) / ((2 : Int) : Rat)), ((1 : Int) : Rat)])) = true from decide_eq_true (by decide +kernel)]
namespace Nt
theorem upL_zero (k : List Rat) (i : Nat) : (upL k i).getD 0 0 = 1 := by
 induction i with
 | zero => rfl
 | succ i ih =>
  rw [upL_at k (by omega), ih]
  have h : (upL k i).getD (i + 1 - 0) 0 = 0 := co_ge (by rw [upL_len]; omega)
  rw [h, Rat.mul_zero, Rat.add_zero]
def ltS (p l : List Rat) : Nat → List Rat
 | 0 => []
 | i + 1 => trimQ (addQ (ltS p l i) (trimQ ((revL l i).map (· * (tapL p l).getD i 0))))
theorem ltS_co (p l : List Rat) (n j : Nat) : co (ltS p l n) j = tsum (fun m => co (revL l m) j * (tapL p l).getD m 0) n := by
 induction n with
 | zero => rfl
 | succ n ih =>
  show co (trimQ (addQ (ltS p l n) (trimQ ((revL l n).map (· * (tapL p l).getD n 0))))) j = tsum _ n + _
  rw [trim_co, addQ_co, trim_co, ih, co_map (fun x => x * (tapL p l).getD n 0) (Rat.zero_mul _)]
theorem ltS_len (p l : List Rat) (n : Nat) : (ltS p l n).length ≤ n := by
 induction n with
 | zero => exact Nat.le_refl _
 | succ n ih =>
  have h9 : (trimQ ((revL l n).map (· * (tapL p l).getD n 0))).length ≤ n + 1 := map_lenQ (Nat.le_of_eq (revL_len _ _))
  refine Nat.le_trans (zzg _) ?_
  rw [addQ_len]
  omega
theorem tapR_co (p l : List Rat) {t : Nat} (ht : t ≤ l.length) (j : Nat) : co (tapR p l (t + 1)) j = co (tapR p l t) j - co (revL l (l.length - t)) j * (tapL p l).getD (l.length - t) 0 := by
 rw [tapL_at p l ht]
 by_cases h : (tapR p l t).length = l.length - t + 1
 ·rw [← tapR_yes h, ← tapV_yes h, trim_co, addQ_co, co_map (fun z => -z) (by rfl), trim_co, co_map (fun x => x * (tapR p l t).getD (l.length - t) 0) (Rat.zero_mul _)]
  grind
 ·rw [← tapR_no h, ← tapV_no h]
  rw [show ((0 : Int) : Rat) = 0 from rfl, Rat.mul_zero]
  grind
theorem tapR_down (p l : List Rat) (h0 : (trimQ p).length ≤ l.length + 1) {t : Nat} (ht : t ≤ l.length + 1) : (tapR p l t).length ≤ l.length + 1 - t := by
 induction t with
 | zero => exact h0
 | succ t ih =>
  have ih := ih (by omega)
  by_cases h : (tapR p l t).length = l.length - t + 1
  ·rw [← tapR_trim p l (t + 1)]
   refine len_of_co fun j hj => ?_
   rw [tapR_co p l (by omega), tapL_at p l (by omega), ← tapV_yes h]
   rcases Nat.lt_or_ge (l.length - t) j with hlt | hge
   ·have e1 : co (tapR p l t) j = 0 := co_ge (by omega)
    have e2 : co (revL l (l.length - t)) j = 0 := co_ge (by rw [revL_len]; omega)
    rw [e1, e2]; grind
   ·have e : j = l.length - t := by omega
    subst e
    have e3 : co (revL l (l.length - t)) (l.length - t) = 1 := by
     show (revL l (l.length - t)).getD (l.length - t) 0 = 1
     rw [revL_at l (Nat.le_refl _), Nat.sub_self, upL_zero]
    rw [e3]
    show (tapR p l t).getD (l.length - t) 0 - _ = 0
    grind
  ·rw [← tapR_no h]; omega
theorem lt_inv (p l : List Rat) (j : Nat) {t : Nat} (ht : t ≤ l.length + 1) : co (tapR p l t) j + (tsum (fun m => co (revL l m) j * (tapL p l).getD m 0) (l.length + 1) - tsum (fun m => co (revL l m) j * (tapL p l).getD m 0) (l.length + 1 - t)) = co (trimQ p) j := by
 induction t with
 | zero => show co (trimQ p) j + _ = _; rw [Nat.sub_zero]; grind
 | succ t ih =>
  have ih := ih (by omega)
  have e : tsum (fun m => co (revL l m) j * (tapL p l).getD m 0) (l.length + 1 - t) = tsum (fun m => co (revL l m) j * (tapL p l).getD m 0) (l.length + 1 - (t + 1)) + co (revL l (l.length - t)) j * (tapL p l).getD (l.length - t) 0 := by
   rw [show l.length + 1 - t = (l.length - t) + 1 by omega, show l.length + 1 - (t + 1) = l.length - t by omega]
   rfl
  rw [tapR_co p l (by omega), ← ih, e]
  grind
theorem lt_law {p l : List Rat} (h0 : (trimQ p).length ≤ l.length + 1) : trimQ (ltS p l (l.length + 1)) = trimQ p := by
 rw [trim_eq_iff]
 intro j
 rw [ltS_co, ← trim_co p]
 have h := lt_inv p l j (Nat.le_refl (l.length + 1))
 have hl := tapR_down p l h0 (Nat.le_refl (l.length + 1))
 have e1 : co (tapR p l (l.length + 1)) j = 0 := co_ge (by omega)
 rw [Nat.sub_self, e1] at h
 rw [← h]
 show _ = 0 + (_ - 0)
 grind
end Nt
end Go.Proofs.YtmonfdlnihaabaaGreat
