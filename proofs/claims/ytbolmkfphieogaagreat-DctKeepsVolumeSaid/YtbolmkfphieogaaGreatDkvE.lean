/- Parts of the proof: contracts of functions, each walked once, and plain laws. -/
import Derived.Test.YtbolmkfphieogaaGreatDkvD
namespace Go.Proofs.YtbolmkfphieogaaGreat
open Go.RowKit
set_option linter.unusedVariables false
theorem k_r9valid {u w : World} {lo : Nat} {x : Sl} {Rs : List Sl} {Ls : List (List RL)} {M : List (List Rat)} {n m K : Nat} (d : Dat u w) (hm : MatQ 1 54 26 lo u x Rs Ls) (hN : MatN u Ls M K) (hl0 : M.length = n) (hr0 : ∀ i, i < n → (M.getD i []).length = m) (h1 : 1 ≤ n) (h2 : n ≤ 52) (h3 : 1 ≤ m) (h4 : m ≤ 52) : Calls Tryz.prog 120 #[x.v] w (Post u w fun v _ => v = .bool true) := by
 have hLl : Ls.length = n := hN.1.trans hl0
 have hRsl := hm.len
 have hxn : x.n = n := hm.rows.trans hLl
 refine zzl (args := [.slice x.a x.n x.c]) Tryz.func120 rfl Tryz.ntmps120 (rs := [.tmp 2]) Tryz.results120 (le_b rfl) (le_b rfl) d ?_
 refine sq9 (zza 2 (zB false) (zzb (zzd (sq9 (zza 5 (.v x.v) (zza 6 (zI x.n) (zza 7 (zB (decide ((x.n : Int) < 1))) (zyp 8 (x := zB (decide ((x.n : Int) < 1))) (zB false) (by rw [show (decide ((x.n : Int) < 1)) = false from decide_eq_false xq]) (zza 9 (.v x.v) ?_ (hw := w1 3 false 8))))))))))
 refine zza 10 (zI x.n) ?_ (hw := w1 3 false 8)
 refine zza 11 (zB (decide ((52 : Int) < (x.n : Int)))) ?_ (hw := w1 3 false 8)
 refine zza 12 (zB (decide ((52 : Int) < (x.n : Int)))) (zyp 13 (x := zB (decide ((52 : Int) < (x.n : Int)))) (zB false) (by rw [show (decide ((52 : Int) < (x.n : Int))) = false from decide_eq_false xq]) (zza 14 (.v x.v) ?_ (hw := w1 8 false 13)))
 obtain ⟨b13, hA13, hc13⟩ := MatQ.cell (i := 0) hm xq
 refine zzz 15 (0 + 0 * 1) (n := x.n) (off := 0) (sz := 1) (i := 0) xq hA13 xq xq sl71 ?_ (hw := w1 8 false 13)
 have hrw14 := MatQ.row hm 0 xq
 have hrl14 : (Ls.getD 0 []).length = m := (MatN.rowlen hN (by rw [hl0]; omega)).trans (hr0 0 xq)
 have hrn14 : (Rs.getD 0 sl0).n = m := (MutQ.rown hrw14).trans hrl14
 refine zyk 16 (.slice (Rs.getD 0 sl0).a (Rs.getD 0 sl0).n (Rs.getD 0 sl0).c) hc13 ty54 ?_ (hw := w1 8 false 13)
 refine zza 17 (zI (((Rs.getD 0 sl0).n : Nat) : Int)) ?_ (hw := w1 8 false 13)
 refine zza 18 (zB (decide ((((Rs.getD 0 sl0).n : Nat) : Int) < 1))) ?_ (hw := w1 8 false 13)
 refine zza 19 (zB (decide ((((Rs.getD 0 sl0).n : Nat) : Int) < 1))) (zyp 20 (x := zB (decide ((((Rs.getD 0 sl0).n : Nat) : Int) < 1))) (zB false) (by rw [show (decide ((((Rs.getD 0 sl0).n : Nat) : Int) < 1)) = false from decide_eq_false xq]) (zza 21 (.v x.v) ?_ (hw := w1 15 false 20)))
 obtain ⟨b16, hA16, hc16⟩ := MatQ.cell (i := 0) hm xq
 refine zzz 22 (0 + 0 * 1) (n := x.n) (off := 0) (sz := 1) (i := 0) xq hA16 xq xq sl71 ?_ (hw := w1 15 false 20)
 have hrw17 := MatQ.row hm 0 xq
 have hrl17 : (Ls.getD 0 []).length = m := (MatN.rowlen hN (by rw [hl0]; omega)).trans (hr0 0 xq)
 have hrn17 : (Rs.getD 0 sl0).n = m := (MutQ.rown hrw17).trans hrl17
 refine zyk 23 (.slice (Rs.getD 0 sl0).a (Rs.getD 0 sl0).n (Rs.getD 0 sl0).c) hc16 ty54 ?_ (hw := w1 15 false 20)
 refine zza 24 (zI (((Rs.getD 0 sl0).n : Nat) : Int)) ?_ (hw := w1 15 false 20)
 refine zza 25 (zB (decide ((52 : Int) < (((Rs.getD 0 sl0).n : Nat) : Int)))) ?_ (hw := w1 15 false 20)
 refine zza 26 (zB (decide ((52 : Int) < (((Rs.getD 0 sl0).n : Nat) : Int)))) (zzb (zzt (b := decide ((52 : Int) < (((Rs.getD 0 sl0).n : Nat) : Int))) xj (fun hb => ?_) (fun hb => ?_)))
 ·exact absurd hb (by rw [show (decide ((52 : Int) < (((Rs.getD 0 sl0).n : Nat) : Int))) = false from decide_eq_false xq]; decide)
 ·clear hb
  refine zzr (zzo ?_)
  refine zzd (sq9 (zza 27 (.v x.v) (zza 28 (zI x.n) (zza 29 (zI 0) (zzb (zzs (zym (I := fun m18 S' u' => ∃ (i : Nat), (m18 = n - i) ∧ (i ≤ n) ∧ (S' = St.of 41 [(0, .v (.slice x.a x.n x.c)), (27, .v (.slice x.a x.n x.c)), (28, zI x.n), (29, zI i)] []) ∧ (Ext u u')) (fun m S u1 u2 e h => by obtain ⟨i, hm, p0, hS, hE⟩ := h; exact ⟨i, hm, p0, hS, hE.trans e⟩) _ yz ⟨0, rfl, by omega, rfl, (Ext.refl _)⟩ ?_)))))))
  rintro m18 _ u18 ⟨i, hm18, hi, rfl, e18⟩
  refine sq9 (zza 30 (zB (decide ((i : Int) < (x.n : Int)))) (zzb (zzd (zzt (b := decide ((i : Int) < (x.n : Int))) xj (fun hb19 => ?_) (fun hb19 => ?_)))))
  ·replace hb19 : (decide ((i : Int) < (x.n : Int))) = true := hb19
   have qhb19 := of_decide_eq_true hb19
   refine zzr (zzo ?_)
   refine zzd (zzs (sq9 ?_))
   obtain ⟨b20, hA20, hc20⟩ := MatQ.cell (i := i) (hm.ext e18) xq
   refine zzz 31 (0 + i * 1) (n := x.n) (off := 0) (sz := 1) (i := (i : Int)) xq hA20 xq xq sl71 ?_
   have hrw21 := MatQ.row (hm.ext e18) i xq
   have hrl21 : (Ls.getD i []).length = m := (MatN.rowlen (hN.ext e18) (by rw [hl0]; omega)).trans (hr0 i xq)
   have hrn21 : (Rs.getD i sl0).n = m := (MutQ.rown hrw21).trans hrl21
   refine zyk 32 (.slice (Rs.getD i sl0).a (Rs.getD i sl0).n (Rs.getD i sl0).c) hc20 ty54 (zza 4 (.v (.slice (Rs.getD i sl0).a (Rs.getD i sl0).n (Rs.getD i sl0).c)) (zzb (sq9 (zza 33 (.v (.slice (Rs.getD i sl0).a (Rs.getD i sl0).n (Rs.getD i sl0).c)) (zza 34 (zI (((Rs.getD i sl0).n : Nat) : Int)) (zza 35 (.v x.v) ?_))))))
   obtain ⟨b22, hA22, hc22⟩ := MatQ.cell (i := 0) (hm.ext e18) xq
   refine zzz 36 (0 + 0 * 1) (n := x.n) (off := 0) (sz := 1) (i := 0) xq hA22 xq xq sl71 ?_
   have hrw23 := MatQ.row (hm.ext e18) 0 xq
   have hrl23 : (Ls.getD 0 []).length = m := (MatN.rowlen (hN.ext e18) (by rw [hl0]; omega)).trans (hr0 0 xq)
   have hrn23 : (Rs.getD 0 sl0).n = m := (MutQ.rown hrw23).trans hrl23
   refine zyk 37 (.slice (Rs.getD 0 sl0).a (Rs.getD 0 sl0).n (Rs.getD 0 sl0).c) hc22 ty54 (zza 38 (zI (((Rs.getD 0 sl0).n : Nat) : Int)) (zza 39 (zB ((((Rs.getD i sl0).n : Nat) : Int) != (((Rs.getD 0 sl0).n : Nat) : Int))) (zzc 41 [(0, .v x.v), (27, .v x.v), (28, zI x.n), (29, zI i), (39, zB ((((Rs.getD i sl0).n : Nat) : Int) != (((Rs.getD 0 sl0).n : Nat) : Int)))] [] (zzt (b := (((Rs.getD i sl0).n : Nat) : Int) != (((Rs.getD 0 sl0).n : Nat) : Int)) xj (fun hb => ?_) (fun hb => ?_)))))
   ·exact absurd hb (by rw [show ((((Rs.getD i sl0).n : Nat) : Int) != (((Rs.getD 0 sl0).n : Nat) : Int)) = false from (by rw [bne_eq_false_iff_eq]; omega)]; decide)
   ·clear hb
    refine zzr (zzo ?_)
    refine zzf (zyp 40 (x := zI (IntKind.i64.wrap ((i : Int) + 1))) (zI (i + 1 : Nat)) (eqI xz) (zza 29 (zI (i + 1 : Nat)) (zzw ?_)))
    refine ⟨_, ?_, _, by exact zzu _ _ _, i + 1, rfl, by omega, rfl, e18⟩
    omega
  ·replace hb19 : (decide ((i : Int) < (x.n : Int))) = false := hb19
   have qhb19 := of_decide_eq_false hb19
   refine zyb (zzo (sq9 (zza 2 (zB true) (zzb (zzn (ret0 [.bool true] ⟨zzp, trivial⟩ fun u24 e25 => ?_))))))
   rfl
section
variable {w lo b c i j : Nat} {tO tR : TypeId} {u u' : World} {x z : Sl} {Rs : List Sl} {Ls : List (List RL)} {cs : List Value} {k : Nat}
theorem MatQ.far (hT : tO ≠ tR) (m : MatQ w tO tR lo u x Rs Ls) (hz : MutQ k tR lo u z cs) (e : ExtX z u u') (hs : ∀ j, j < Ls.length → Sep z (Rs.getD j sl0)) : MatQ w tO tR lo u' x Rs Ls :=
 ⟨m.out.extT (e.t hz.mutL) hT, m.len, fun i hi => (m.row i hi).extS e (hs i hi), m.sep⟩
end
set_option maxHeartbeats 4000000 in
theorem k_r9copies {u w : World} {lo : Nat} {x : Sl} {Rs : List Sl} {Ls : List (List RL)} {M : List (List Rat)} {n m K : Nat} (d : Dat u w) (hm : MatQ 1 54 26 lo u x Rs Ls) (hN : MatN u Ls M K) (hl0 : M.length = n) (hr0 : ∀ i, i < n → (M.getD i []).length = m) (h2 : n ≤ 1000) (h4 : m ≤ 1000) (hK : K ≤ 50000000) : Calls Tryz.prog 122 #[x.v] w (Post u w fun v u' => ∃ (y : Sl) (Rs' : List Sl) (Ls' : List (List RL)), v = y.v ∧ MatQ 1 54 26 u.heap.size u' y Rs' Ls' ∧ MatN u' Ls' M K) := by
 have hLl : Ls.length = n := hN.1.trans hl0
 have hRsl := hm.len
 have hxn : x.n = n := hm.rows.trans hLl
 refine zzl (args := [.slice x.a x.n x.c]) Tryz.func122 rfl Tryz.ntmps122 (rs := [.tmp 2]) Tryz.results122 (le_b rfl) (le_b rfl) d ?_
 refine sq9 (zza 2 (.v (.slice none 0 0)) (zzb (sq9 (zza 3 (.v (.slice none 0 0)) (zzb (zzd (sq9 (zza 9 (.v x.v) (zza 10 (zI x.n) (zza 11 (zI 0) (zzb ?_)))))))))))
 refine zzs (zym (I := fun m11 S' u' => ∃ (i : Nat) (y : Sl) (Rc : List Sl) (Lc : List (List RL)), (m11 = n - i) ∧ (i ≤ n) ∧ (S' = St.of 33 [(3, .v (.slice y.a y.n y.c)), (9, .v (.slice x.a x.n x.c)), (10, zI x.n), (11, zI i)] []) ∧ (Ext u u') ∧ (MatQ 1 54 26 u.heap.size u' y Rc Lc) ∧ (MatN u' Lc (M.take i) K)) (fun m S u1 u2 e h => by obtain ⟨i, y, Rc, Lc, hm, p0, hS, hE, f0, f1⟩ := h; exact ⟨i, y, Rc, Lc, hm, p0, hS, hE.trans e, f0.ext e, f1.ext e⟩) _ yz ⟨0, sl0, [], [], rfl, by omega, rfl, (Ext.refl _), MatQ.empty, (by rw [List.take_zero]; exact MatN.empty)⟩ ?_)
 rintro m11 _ u11 ⟨i, y, Rc, Lc, hm11, hi, rfl, e11, g0, g1⟩
 refine sq9 (zza 12 (zB (decide ((i : Int) < (x.n : Int)))) (zzb (zzd (zzt (b := decide ((i : Int) < (x.n : Int))) xj (fun hb12 => ?_) (fun hb12 => ?_)))))
 ·replace hb12 : (decide ((i : Int) < (x.n : Int))) = true := hb12
  have qhb12 := of_decide_eq_true hb12
  refine zzr (zzo ?_)
  refine zzd (zzs (sq9 ?_))
  obtain ⟨b13, hA13, hc13⟩ := MatQ.cell (i := i) (hm.ext e11) xq
  refine zzz 13 (0 + i * 1) (n := x.n) (off := 0) (sz := 1) (i := (i : Int)) xq hA13 xq xq sl71 ?_
  have hrw14 := MatQ.row (hm.ext e11) i xq
  have hrl14 : (Ls.getD i []).length = m := (MatN.rowlen (hN.ext e11) (by rw [hl0]; omega)).trans (hr0 i xq)
  have hrn14 : (Rs.getD i sl0).n = m := (MutQ.rown hrw14).trans hrl14
  refine zyk 14 (.slice (Rs.getD i sl0).a (Rs.getD i sl0).n (Rs.getD i sl0).c) hc13 ty54 (zza 5 (.v (.slice (Rs.getD i sl0).a (Rs.getD i sl0).n (Rs.getD i sl0).c)) (zzb (sq9 (zza 6 (.v (.slice none 0 0)) (zzb (zzd (sq9 (zza 15 (.v (.slice (Rs.getD i sl0).a (Rs.getD i sl0).n (Rs.getD i sl0).c)) (zza 16 (zI (((Rs.getD i sl0).n : Nat) : Int)) (zza 17 (zI 0) (zzb ?_)))))))))))
  refine zzs (zym (I := fun m15 S' u' => ∃ (j : Nat) (z : Sl) (L : List RL), (m15 = m - j) ∧ (j ≤ m) ∧ (∀ k, k < Lc.length → Sep z (Rc.getD k sl0)) ∧ (S' = St.of 33 [(3, .v (.slice y.a y.n y.c)), (6, .v (.slice z.a z.n z.c)), (9, .v (.slice x.a x.n x.c)), (10, zI x.n), (11, zI i), (15, .v (.slice (Rs.getD i sl0).a (Rs.getD i sl0).n (Rs.getD i sl0).c)), (16, zI (((Rs.getD i sl0).n : Nat) : Int)), (17, zI j)] []) ∧ (Ext u u') ∧ (MatQ 1 54 26 u.heap.size u' y Rc Lc) ∧ (MatN u' Lc (M.take i) K) ∧ (MutQ (1 * 3) 26 u.heap.size u' z (rcs L)) ∧ (RatsN u' L ((M.getD i []).take j) K)) (fun m S u1 u2 e h => by obtain ⟨j, z, L, hm, p0, p1, hS, hE, f0, f1, f2, f3⟩ := h; exact ⟨j, z, L, hm, p0, p1, hS, hE.trans e, f0.ext e, f1.ext e, f2.ext e, f3.ext e⟩) _ yz ⟨0, sl0, [], rfl, by omega, (fun k hk => Sep.nil _), rfl, e11, g0, g1, (MutQ.nil _ _ _ _), (by rw [List.take_zero]; exact ⟨rfl, fun k hk => absurd hk (Nat.not_lt_zero k)⟩)⟩ ?_)
  rintro m15 _ u15 ⟨j, z, L, hm15, hj, hsep, rfl, e15, f0, f1, f2, f3⟩
  have hrs := MatQ.row hm i xq
  have hzL := (MutQ.rown (show MutQ (1 * 3) 26 u.heap.size u15 z (rcs L) from f2))
  have hLj : L.length = j := by rw [f3.1, List.length_take, hr0 i xq]; omega
  refine sq9 (zza 18 (zB (decide ((j : Int) < (((Rs.getD i sl0).n : Nat) : Int)))) (zzb (zzd (zzt (b := decide ((j : Int) < (((Rs.getD i sl0).n : Nat) : Int))) xj (fun hb16 => ?_) (fun hb16 => ?_)))))
  ·replace hb16 : (decide ((j : Int) < (((Rs.getD i sl0).n : Nat) : Int))) = true := hb16
   have qhb16 := of_decide_eq_true hb16
   refine zzr (zzo ?_)
   refine zzd (zzs (sq9 ?_))
   obtain ⟨b17, hA17, hc17⟩ := MutQ.el1 (j := j) (hrs.ext e15) xq
   refine zzz 19 (0 + j * 3) (n := (Rs.getD i sl0).n) (off := 0) (sz := 3) (i := (j : Int)) xq hA17 xq xq sl54 ?_
   obtain ⟨r18, hr19⟩ : ∃ r : RL, (Ls.getD i []).getD j rl0 = r := ⟨_, rfl⟩
   rw [hr19] at hc17
   have hv20 := ((MatN.at (i := i) (j := j) hN xq (by rw [hr0 i xq]; omega)).ext e15)
   rw [hr19] at hv20
   refine zyl 20 (r18.cs) hc17 ty26 (zzj 8 ⟨26, [.bool false, .slice none 0 0, .slice none 0 0]⟩ (zzi ⟨26, r18.cs⟩ ty26 ?_))
   refine zzb (zzf (zza 21 (.v z.v) (zzh 22 (.v (r18.v)) ty26 zze (zzg 23 90 [r18.v] ?_))))
   intro w21 u21 e21 d21
   have k26 := k_rqTrim d21 (hv20.ext e21).raw xq
   with_reducible refine zPm k26 ?_
   rintro _ u24 g25 ⟨r22, rfl, h23⟩
   refine zxw 24 ⟨26, r22.cs⟩ 1 (fun b27 u28 e29 h30 => ?_)
   have hp31 : PolN u28 (⟨some ⟨b27, 0, none⟩, 1, 1⟩ : Sl) [((M.getD i []).getD j 0)] K := pol_lit (L := [r22]) h30 (rats1 (h23.ext e29)) rfl xw
   have hz32 := (f2.ext (e21.trans (g25.ext.trans e29)))
   have hz32L := (MutQ.rown (show MutQ (1 * 3) 26 u.heap.size u28 z (rcs L) from hz32))
   refine sy_appQ 25 (T := 54) (E := 26) (z := .agg #[.bool false, .slice none 0 0, .slice none 0 0]) (size := 3) (bytes := 56) (b2 := b27) (off := 0) (m := 1) z (rcs L) r22.cs hz32 xj xj xj xw rfl (lit_news ((Ext.refl _).cells h30)) (rl_one r22) xw yv xq (nu_rl r22) nu_zrat (fun y33 u33 hm33 hn33 eX33 ho33 => ?_)
   have hQ33 : MutQ (1 * 3) 26 u.heap.size u33 y33 (rcs (L ++ [r22])) := by rw [rcs_app, show rcs [r22] = r22.cs from by simp [rcs]]; exact hm33
   have eR33 := ExtX.root eX33 (MutQ.mutL hz32) (e15.trans (e21.trans (g25.ext.trans e29)))
   have hy33 : y33.n = L.length + 1 := by omega
   refine zza 6 (.v y33.v) (zzw ?_)
   refine zzo (zzf (zyp 26 (x := zI (IntKind.i64.wrap ((j : Int) + 1))) (zI (j + 1 : Nat)) (eqI xz) (zza 17 (zI (j + 1 : Nat)) (zzw ?_))))
   refine ⟨_, ?_, _, by exact zzu _ _ _, j + 1, y33, (L ++ [r22]), rfl, by omega, (fun k hk => (Sep.step (hsep k hk).symm (MatQ.row (f0.ext (e21.trans (g25.ext.trans e29))) k hk).mutL ho33).symm), rfl, eR33, (MatQ.ext (by exact MatQ.far xw (f0.ext (e21.trans (g25.ext.trans e29))) hz32 eX33 (fun k hk => (hsep k hk))) (Ext.refl _)), ((MatN.keep (f1.ext (e21.trans (g25.ext.trans e29))) hz32 eX33).ext (Ext.refl _)), (MutQ.ext hQ33 (Ext.refl _)), ((app_next (MutQ.keeps hz32 eX33 (f3.ext (e21.trans (g25.ext.trans e29)))) (MutQ.keep hz32 eX33 (RatN.more (K := K) (h23.ext e29) xq)) (by rw [hr0 i xq]; omega) rfl).ext (Ext.refl _))⟩
   omega
  ·replace hb16 : (decide ((j : Int) < (((Rs.getD i sl0).n : Nat) : Int))) = false := hb16
   have qhb16 := of_decide_eq_false hb16
   refine zyb (zzo ?_)
   have hfull := f3
   rw [List.take_of_length_le (by rw [hr0 i xq]; omega)] at hfull
   refine zzf (zza 27 (.v y.v) (zza 28 (.v z.v) (zxw 29 ⟨54, [z.v]⟩ 1 (fun b34 u35 e36 h37 => ?_))))
   have hx38 := (f0.ext e36)
   have hx38l := hx38.rows
   have hx38n := (f1.ext e36)
   have hx38z := (f2.ext e36)
   have hx38r := (hfull.ext e36)
   have hx38k : Lc.length = i := by rw [hx38n.1, List.length_take]; omega
   refine sy_appQ 30 (T := 71) (E := 54) (z := .slice none 0 0) (size := 1) (bytes := 24) (b2 := b34) (off := 0) (m := 1) y (Rc.map Sl.v) [z.v] (MatQ.out hx38) xj xj xj xw rfl (lit_news ((Ext.refl _).cells h37)) (sl_one z) xw yv xq (nu_sls [z]) nu_zsl (fun y39 u39 hm39 hn39 eX39 ho39 => ?_)
   have hS39 := MatQ.snoc xw xw hx38 hx38z (fun j hj => hsep j hj) (by rw [List.map_append]; exact hm39) eX39
   have hT39 := MatN.keep (MatN.snoc hx38n hx38r) (MatQ.out hx38) eX39
   have eR39 := ExtX.root eX39 (MutQ.mutL (MatQ.out hx38)) (e15.trans e36)
   refine zza 3 (.v y39.v) (zzw ?_)
   refine zzo (zzf (zyp 31 (x := zI (IntKind.i64.wrap ((i : Int) + 1))) (zI (i + 1 : Nat)) (eqI xz) (zza 11 (zI (i + 1 : Nat)) (zzw ?_))))
   have hTi : M.take (i + 1) = M.take i ++ [M.getD i []] := by rw [List.take_succ_eq_append_getElem xq, List.getD_eq_getElem?_getD, List.getElem?_eq_getElem xq]; rfl
   refine ⟨_, ?_, _, by exact zzu _ _ _, i + 1, y39, (Rc ++ [z]), (Lc ++ [L]), rfl, by omega, rfl, eR39, (MatQ.ext hS39 (Ext.refl _)), (by rw [hTi]; exact MatN.ext hT39 (Ext.refl _))⟩
   omega
 ·replace hb12 : (decide ((i : Int) < (x.n : Int))) = false := hb12
  have qhb12 := of_decide_eq_false hb12
  refine zyb (zzo (sq9 (zza 32 (.v y.v) (zza 2 (.v y.v) (zzb (zzn (ret0 [.slice y.a y.n y.c] ⟨zzp, trivial⟩ fun u40 e41 => ?_)))))))
  refine ⟨y, Rc, Lc, rfl, (g0.ext e41), by have h9 := (g1.ext e41); rw [List.take_of_length_le xq] at h9; exact h9⟩
set_option maxHeartbeats 8000000 in
theorem k_r9reduce {u w v0 : World} {x : Sl} {Rs : List Sl} {Ls : List (List RL)} {M0 : List (List Rat)} {n m K : Nat} (d : Dat u w) (hv : Ext v0 u) (hm : MatQ 1 54 26 v0.heap.size u x Rs Ls) (hN : MatN u Ls M0 K) (hl0 : M0.length = n) (hr0 : ∀ i, i < n → (M0.getD i []).length = m) (hnm : n ≤ m) (hm9 : m ≤ 1000) (h1 : 1 ≤ n) (hI : Nt.Inj n M0) (hz : Nt.kz n K ≤ 50000000) : Calls Tryz.prog 121 #[x.v, .int .i64 (n : Int)] w (PostF (mqB x Rs) u w fun v u' => ∃ (r : RL) (D : Rat) (Rs' : List Sl) (Ls' : List (List RL)) (M' : List (List Rat)), v = .tuple #[.int .i64 (n : Int), r.v] ∧ RatN u' r D (Nt.kz n K + 2) ∧ MatQ 1 54 26 v0.heap.size u' x Rs' Ls' ∧ MatN u' Ls' M' (Nt.kz n K) ∧ Nt.GI n m M0 M' n D) := by
 have hLl : Ls.length = n := hN.1.trans hl0
 have hxn : x.n = n := hm.rows.trans hLl
 refine calls_symF (F := mqB x Rs) (args := [.slice x.a x.n x.c, .int .i64 (n : Int)]) Tryz.func121 rfl Tryz.ntmps121 (rs := [.tmp 4, .cell 5 26]) Tryz.results121 (le_b rfl) (le_b rfl) d ?_
 refine sq9 (zza 4 (zI 0) (zzj 5 ⟨26, [.bool false, .slice none 0 0, .slice none 0 0]⟩ (zzb (sq9 (zzg 15 30 [.int .i64 1] ?_)))))
 intro w11 u11 e11 d11
 have k16 := k_rqOf d11 (z := 1) xq xq
 with_reducible refine zPm k16 ?_
 rintro _ u14 g15 ⟨r12, rfl, h13⟩
 refine zzj 7 ⟨26, [.bool false, .slice none 0 0, .slice none 0 0]⟩ (zza 6 (zI 0) (zzi ⟨26, r12.cs⟩ ty26 ?_))
 refine zzb (zzd (sq9 (zza 8 (zI 0) (zzb (zzs (zym (I := fun m17 S' u' => ∃ (c : Nat) (Rz : List Sl) (Lz : List (List RL)) (M1 : List (List Rat)) (rd : RL) (D : Rat), (m17 = n - c) ∧ (c ≤ n) ∧ (Nt.GI n m M0 M1 c D) ∧ (RowsIn (mqB x Rs) Rz) ∧ (S' = St.of 159 [(0, .v (.slice x.a x.n x.c)), (1, zI n), (5, .adr 5 0), (6, zI c), (7, .adr 7 0), (8, zI c)] [(5, ⟨26, [.bool false, .slice none 0 0, .slice none 0 0]⟩), (7, ⟨26, rd.cs⟩)]) ∧ (Ext v0 u') ∧ (MatQ 1 54 26 v0.heap.size u' x Rz Lz) ∧ (MatN u' Lz M1 (Nt.kz c K)) ∧ (RatN u' rd D (Nt.kz c K + 2))) (fun m S u1 u2 e h => by obtain ⟨c, Rz, Lz, M1, rd, D, hm, p0, p1, p2, hS, hE, f0, f1, f2⟩ := h; exact ⟨c, Rz, Lz, M1, rd, D, hm, p0, p1, p2, hS, hE.trans e, f0.ext e, f1.ext e, f2.ext e⟩) _ yz ⟨0, Rs, Ls, M0, r12, 1, rfl, by omega, (Nt.GI.start hl0 hr0), RowsIn.self, rfl, (hv.trans (e11.trans g15.ext)), (hm.ext (e11.trans g15.ext)), (hN.ext (e11.trans g15.ext)), (by have h9 := h13; rw [show ((1 : Int) : Rat) = 1 from rfl] at h9; exact RatN.more h9 xq)⟩ ?_))))))
 rintro m17 _ u17 ⟨c, Rz, Lz, M1, rd, D, hm17, hc, hg, hF, rfl, e17, z0, z1, z2⟩
 obtain ⟨kc, hkc⟩ : ∃ k, Nt.kz c K = k := ⟨_, rfl⟩
 rw [hkc] at z1 z2
 have hkz : kc ≤ 50000000 := by rw [← hkc]; exact Nat.le_trans (Nt.kz_mono hc) hz
 have hM1 := hg.len
 have hLz : Lz.length = n := z1.1.trans hM1
 have hRz := z0.len
 refine zzd (sq9 (zza 16 (zI c) (zza 17 (zI n) (zza 18 (zB (decide ((c : Int) < (n : Int)))) ?_))))
 rcases Bool.eq_false_or_eq_true (decide ((c : Int) < (n : Int))) with hs18 | hs18
 ·refine zyp 19 (x := zB (decide ((c : Int) < (n : Int)))) (zB true) (by rw [hs18]) ?_
  have qhs18 := of_decide_eq_true hs18
  refine zza 20 (zI c) ?_ (hw := w1 3 true 19)
  refine zza 21 (.v x.v) ?_ (hw := w1 3 true 19)
  refine zza 22 (zI x.n) ?_ (hw := w1 3 true 19)
  refine zza 23 (zB (decide ((c : Int) < (x.n : Int)))) ?_ (hw := w1 3 true 19)
  refine zza 24 (zB (decide ((c : Int) < (x.n : Int)))) (zzb (zzt (b := decide ((c : Int) < (x.n : Int))) xj (fun hb => ?_) (fun hb => ?_)))
  ·clear hb
   refine zzr (zzo ?_)
   refine zzd (zzs (zzd ?_))
   have hz1 : 6 * kc + 10 ≤ 50000000 := by rw [← hkc, ← Nt.kz_s]; exact Nat.le_trans (Nt.kz_mono xq) hz
   refine zzf (zza 27 (zI c) (zza 9 (zI c) (zzb (zzd (zzs (zym (I := fun m19 S' u' => ∃ (k : Nat), (m19 = n - k) ∧ (c ≤ k) ∧ (k ≤ n) ∧ (∀ i, c ≤ i → i < k → Nt.ent M1 i c = 0) ∧ (S' = St.of 159 [(0, .v (.slice x.a x.n x.c)), (1, zI n), (5, .adr 5 0), (6, zI c), (7, .adr 7 0), (8, zI c), (9, zI k)] [(5, ⟨26, [.bool false, .slice none 0 0, .slice none 0 0]⟩), (7, ⟨26, rd.cs⟩)]) ∧ (Ext u17 u')) (fun m S u1 u2 e h => by obtain ⟨k, hm, p0, p1, p2, hS, hE⟩ := h; exact ⟨k, hm, p0, p1, p2, hS, hE.trans e⟩) _ yz ⟨c, rfl, Nat.le_refl _, by omega, (fun i h1 h2 => absurd h2 xq), rfl, (Ext.refl _)⟩ ?_))))))
   rintro m19 _ u19 ⟨k, hm19, hk0, hk1, hze, rfl, e19⟩
   refine zzd (sq9 (zza 28 (zI k) (zza 29 (.v x.v) (zza 30 (zI x.n) (zza 31 (zB (decide ((k : Int) < (x.n : Int)))) ?_)))))
   rcases Bool.eq_false_or_eq_true (decide ((k : Int) < (x.n : Int))) with hs20 | hs20
   ·refine zyp 32 (x := zB (decide ((k : Int) < (x.n : Int)))) (zB true) (by rw [hs20]) ?_
    have qhs20 := of_decide_eq_true hs20
    refine zza 33 (.v x.v) ?_ (hw := w1 4 true 32)
    refine zza 34 (zI k) ?_ (hw := w1 4 true 32)
    obtain ⟨b21, hA21, hc21⟩ := MatQ.cell (i := k) (z0.ext e19) xq
    refine zzz 35 (0 + k * 1) (n := x.n) (off := 0) (sz := 1) (i := (k : Int)) xq hA21 xq xq sl71 ?_ (hw := w1 4 true 32)
    have hrw22 := MatQ.row (z0.ext e19) k xq
    have hrl22 : (Lz.getD k []).length = m := (MatN.rowlen (z1.ext e19) (by rw [hM1]; omega)).trans (hg.row k xq)
    have hrn22 : (Rz.getD k sl0).n = m := (MutQ.rown hrw22).trans hrl22
    refine zyk 36 (.slice (Rz.getD k sl0).a (Rz.getD k sl0).n (Rz.getD k sl0).c) hc21 ty54 ?_ (hw := w1 4 true 32)
    refine zza 37 (zI c) ?_ (hw := w1 4 true 32)
    obtain ⟨b23, hA23, hc23⟩ := MutQ.el1 (j := c) hrw22 xq
    refine zzz 38 (0 + c * 3) (n := (Rz.getD k sl0).n) (off := 0) (sz := 3) (i := (c : Int)) xq hA23 xq xq sl54 ?_ (hw := w1 4 true 32)
    obtain ⟨r24, hr25⟩ : ∃ r : RL, (Lz.getD k []).getD c rl0 = r := ⟨_, rfl⟩
    rw [hr25] at hc23
    have hv26 := (MatN.at (i := k) (j := c) (z1.ext e19) (by rw [hM1]; omega) (by rw [(hg.row k xq)]; omega))
    rw [hr25] at hv26
    refine zyl 39 (r24.cs) hc23 ty26 ?_ (hw := w1 4 true 32)
    refine zzg 40 29 [r24.v] ?_ (hw := w1 4 true 32)
    intro w27 u27 e27 d27
    have k30 := k_rqSign d27 (hv26.ext e27).raw xq
    with_reducible refine zPm k30 ?_
    rintro _ u28 g29 rfl
    refine zza 41 (zB ((Nt.sgQ ((M1.getD k []).getD c 0)) == 0)) ?_ (hw := w1 4 true 32)
    refine zza 42 (zB ((Nt.sgQ ((M1.getD k []).getD c 0)) == 0)) (zzc 159 [(0, .v x.v), (1, zI n), (5, .adr 5 0), (6, zI c), (7, .adr 7 0), (8, zI c), (9, zI k), (42, zB ((Nt.sgQ ((M1.getD k []).getD c 0)) == 0))] [(5, ⟨26, [.bool false, .slice none 0 0, .slice none 0 0]⟩), (7, ⟨26, rd.cs⟩)] (zzt (b := (Nt.sgQ ((M1.getD k []).getD c 0)) == 0) xj (fun hb31 => ?_) (fun hb31 => ?_)))
    ·replace hb31 : ((Nt.sgQ ((M1.getD k []).getD c 0)) == 0) = true := hb31
     have qhb31 : ((M1.getD k []).getD c 0) = 0 := by have h9 := hb31; rw [Nt.sgQ_eq] at h9; exact of_decide_eq_true h9
     refine zzr (zzo ?_)
     refine zzs (zzf (zza 43 (zI k) (zyp 44 (x := zI (IntKind.i64.wrap ((k : Int) + 1))) (zI (k + 1 : Nat)) (eqI xz) (zza 9 (zI (k + 1 : Nat)) (zzw ?_)))))
     refine ⟨_, ?_, _, by exact zzu _ _ _, k + 1, rfl, by omega, by omega, (fun i h1 h2 => by rcases Nat.lt_or_ge i k with h3 | h3; exact hze i h1 h3; (obtain rfl : i = k := by omega); exact qhb31), rfl, (e19.trans (e27.trans g29.ext))⟩
     omega
    ·replace hb31 : ((Nt.sgQ ((M1.getD k []).getD c 0)) == 0) = false := hb31
     have qhb31 : ¬ ((M1.getD k []).getD c 0) = 0 := by have h9 := hb31; rw [Nt.sgQ_eq] at h9; exact of_decide_eq_false h9
     refine zyb (zzo (zzd (sq9 (zza 45 (zI k) (zza 46 (.v x.v) (zza 47 (zI x.n) (zza 48 (zB ((k : Int) == (x.n : Int))) (zzb (zzt (b := (k : Int) == (x.n : Int)) xj (fun hb => ?_) (fun hb => ?_))))))))))
     ·exact absurd hb (by rw [show ((k : Int) == (x.n : Int)) = false from yy]; decide)
     ·clear hb
      refine zzr (zzo ?_)
      refine zzd (sw_joinR (I := fun S' u' => ∃ (Ry : List Sl) (Ly : List (List RL)) (M2 : List (List Rat)) (re : RL) (D2 : Rat), (Nt.GI n m M0 M2 c D2) ∧ (¬ Nt.ent M2 c c = 0) ∧ (RowsIn (mqB x Rs) Ry) ∧ (S' = St.of 159 [(0, .v (.slice x.a x.n x.c)), (1, zI n), (5, .adr 5 0), (6, zI c), (7, .adr 7 0), (8, zI c)] [(5, ⟨26, [.bool false, .slice none 0 0, .slice none 0 0]⟩), (7, ⟨26, re.cs⟩)]) ∧ (Ext v0 u') ∧ (MatQ 1 54 26 v0.heap.size u' x Ry Ly) ∧ (MatN u' Ly M2 kc) ∧ (RatN u' re D2 (kc + 2))) ?_ (fun rest32 => ?_))
      ·rintro _ uj32 ⟨Ry, Ly, M2, re, D2, hg2, hpv, hF2, rfl, ej32, y0, y1, y2⟩
       have hM2 := hg2.len
       have hLy : Ly.length = n := y1.1.trans hM2
       have hRy := y0.len
       refine sq9 (zza 68 (.v x.v) (zza 69 (zI c) ?_))
       obtain ⟨b33, hA33, hc33⟩ := MatQ.cell (i := c) y0 xq
       refine zzz 70 (0 + c * 1) (n := x.n) (off := 0) (sz := 1) (i := (c : Int)) xq hA33 xq xq sl71 ?_
       have hrw34 := MatQ.row y0 c xq
       have hrl34 : (Ly.getD c []).length = m := (MatN.rowlen y1 (by rw [hM2]; omega)).trans (hg2.row c xq)
       have hrn34 : (Ry.getD c sl0).n = m := (MutQ.rown hrw34).trans hrl34
       refine zyk 71 (.slice (Ry.getD c sl0).a (Ry.getD c sl0).n (Ry.getD c sl0).c) hc33 ty54 (zza 72 (zI c) ?_)
       obtain ⟨b35, hA35, hc35⟩ := MutQ.el1 (j := c) hrw34 xq
       refine zzz 73 (0 + c * 3) (n := (Ry.getD c sl0).n) (off := 0) (sz := 3) (i := (c : Int)) xq hA35 xq xq sl54 ?_
       obtain ⟨r36, hr37⟩ : ∃ r : RL, (Ly.getD c []).getD c rl0 = r := ⟨_, rfl⟩
       rw [hr37] at hc35
       have hv38 := (MatN.at (i := c) (j := c) y1 (by rw [hM2]; omega) (by rw [(hg2.row c xq)]; omega))
       rw [hr37] at hv38
       refine zyl 74 (r36.cs) hc35 ty26 (zzj 10 ⟨26, [.bool false, .slice none 0 0, .slice none 0 0]⟩ (zzi ⟨26, r36.cs⟩ ty26 ?_))
       refine zzb (zzd ?_)
       obtain ⟨p, hp⟩ : ∃ p, (M2.getD c []).getD c 0 = p := ⟨_, rfl⟩
       have hp0 : p ≠ 0 := by rw [← hp]; exact hpv
       have hpr : RatN uj32 r36 p kc := by rw [← hp]; exact hv38
       obtain ⟨R, hR0⟩ : ∃ R, Nt.ovR (M2.getD c []) p = R := ⟨_, rfl⟩
       have hrow2 := hg2.row c xq
       have hRl : R.length = (M2.getD c []).length := by rw [← hR0, Nt.ovR_len]
       have hRa : ∀ j, j < m → (M2.getD c []).getD j 0 / p = R.getD j 0 := fun j hj => by rw [← hR0, Nt.ovR_at xq]
       have hMt : c < M2.length := by omega
       refine zzf (zzh 75 (.v (re.v)) ty26 zze (zzh 76 (.v (r36.v)) ty26 zze (zzg 77 25 [re.v, r36.v] ?_)))
       intro w39 u39 e39 d39
       have k44 := k_rqMul d39 (y2.ext e39).raw (hpr.ext e39).raw xq xq
       with_reducible refine zPm k44 ?_
       rintro _ u42 g43 ⟨r40, rfl, h41⟩
       refine zzi ⟨26, r40.cs⟩ ty26 ?_
       refine zzb (zzd (sq9 (zza 78 (.v x.v) (zza 79 (zI c) ?_))))
       obtain ⟨b45, hA45, hc45⟩ := MatQ.cell (i := c) (y0.ext (e39.trans g43.ext)) xq
       refine zzz 80 (0 + c * 1) (n := x.n) (off := 0) (sz := 1) (i := (c : Int)) xq hA45 xq xq sl71 ?_
       have hrw46 := MatQ.row (y0.ext (e39.trans g43.ext)) c xq
       have hrl46 : (Ly.getD c []).length = m := (MatN.rowlen (y1.ext (e39.trans g43.ext)) (by rw [hM2]; omega)).trans (hg2.row c xq)
       have hrn46 : (Ry.getD c sl0).n = m := (MutQ.rown hrw46).trans hrl46
       refine zyk 81 (.slice (Ry.getD c sl0).a (Ry.getD c sl0).n (Ry.getD c sl0).c) hc45 ty54 (zza 82 (zI (((Ry.getD c sl0).n : Nat) : Int)) (zza 83 (zI 0) (zzb (zzs (zym (I := fun m47 S' u' => ∃ (j : Nat) (Q : List (List RL)), (m47 = m - j) ∧ (j ≤ m) ∧ (Q.length = Ly.length) ∧ (S' = St.of 159 [(0, .v (.slice x.a x.n x.c)), (1, zI n), (5, .adr 5 0), (6, zI c), (7, .adr 7 0), (8, zI c), (10, .adr 10 0), (82, zI (((Ry.getD c sl0).n : Nat) : Int)), (83, zI j)] [(5, ⟨26, [.bool false, .slice none 0 0, .slice none 0 0]⟩), (7, ⟨26, r40.cs⟩), (10, ⟨26, r36.cs⟩)]) ∧ (Ext v0 u') ∧ (MatQ 1 54 26 v0.heap.size u' x Ry Q) ∧ (MatE u' Q (Nt.mixR M2 c R j) (Nt.kfS c j (2 * kc + 2) kc)) ∧ (RatN u' r40 (D2 * p) (2 * kc + 3)) ∧ (RatN u' r36 p kc)) (fun m S u1 u2 e h => by obtain ⟨j, Q, hm, p0, p1, hS, hE, f0, f1, f2, f3⟩ := h; exact ⟨j, Q, hm, p0, p1, hS, hE.trans e, f0.ext e, f1.ext e, f2.ext e, f3.ext e⟩) _ yz ⟨0, Ly, rfl, by omega, rfl, rfl, (ej32.trans (e39.trans g43.ext)), (y0.ext (e39.trans g43.ext)), (by rw [Nt.mixR_0]; exact MatE.ofN (y1.ext (e39.trans g43.ext)) Nt.kfS_start), (RatN.more (K := ((kc + 2) + kc + 1)) h41 xq), (hpr.ext (e39.trans g43.ext))⟩ ?_)))))
       rintro m47 _ u47 ⟨j, Q, hm47, hj, hQy, rfl, e47, f0, f1, f2, f3⟩
       have hQn : Q.length = n := by omega
       refine sq9 (zza 84 (zB (decide ((j : Int) < (((Ry.getD c sl0).n : Nat) : Int)))) (zzb (zzd (zzt (b := decide ((j : Int) < (((Ry.getD c sl0).n : Nat) : Int))) xj (fun hb48 => ?_) (fun hb48 => ?_)))))
       ·replace hb48 : (decide ((j : Int) < (((Ry.getD c sl0).n : Nat) : Int))) = true := hb48
        have qhb48 := of_decide_eq_true hb48
        refine zzr (zzo ?_)
        refine zzd (zzs (sq9 (zza 85 (zI j) (zza 11 (zI j) (zzb (sw_anyC [0, 0, 3, 7, 0, 0, 0, 96, 224, 0, 992, 2016, 0, 8160, 16383, 32767] [(0, []), (1, []), (2, []), (3, []), (4, []), (5, []), (6, []), (7, []), (8, []), (9, []), (10, []), (11, []), (12, []), (13, [])] [(14, []), (15, [])] xj xj xj ?_))))))
        refine zza 86 (.v x.v) (zza 87 (zI c) ?_)
        obtain ⟨b49, hA49, hc49⟩ := MatQ.cell (i := c) f0 xq
        refine zzz 88 (0 + c * 1) (n := x.n) (off := 0) (sz := 1) (i := (c : Int)) xq hA49 xq xq sl71 ?_
        have hrw50 := MatQ.row f0 c xq
        have hrl50 : (Q.getD c []).length = m := (MatE.rowlen f1 (by rw [(Nt.mixR_len.trans hM2)]; omega)).trans ((Nt.mixR_row hMt hRl xq).trans (hRl.trans hrow2))
        have hrn50 : (Ry.getD c sl0).n = m := (MutQ.rown hrw50).trans hrl50
        refine zyk 89 (.slice (Ry.getD c sl0).a (Ry.getD c sl0).n (Ry.getD c sl0).c) hc49 ty54 (zza 90 (zI j) (zza 91 (.v x.v) (zza 92 (zI c) ?_)))
        obtain ⟨b51, hA51, hc51⟩ := MatQ.cell (i := c) f0 xq
        refine zzz 93 (0 + c * 1) (n := x.n) (off := 0) (sz := 1) (i := (c : Int)) xq hA51 xq xq sl71 ?_
        have hrw52 := MatQ.row f0 c xq
        have hrl52 : (Q.getD c []).length = m := (MatE.rowlen f1 (by rw [(Nt.mixR_len.trans hM2)]; omega)).trans ((Nt.mixR_row hMt hRl xq).trans (hRl.trans hrow2))
        have hrn52 : (Ry.getD c sl0).n = m := (MutQ.rown hrw52).trans hrl52
        refine zyk 94 (.slice (Ry.getD c sl0).a (Ry.getD c sl0).n (Ry.getD c sl0).c) hc51 ty54 (zza 95 (zI j) ?_)
        obtain ⟨b53, hA53, hc53⟩ := MutQ.el1 (j := j) hrw52 xq
        refine zzz 96 (0 + j * 3) (n := (Ry.getD c sl0).n) (off := 0) (sz := 3) (i := (j : Int)) xq hA53 xq xq sl54 ?_
        obtain ⟨r54, hr55⟩ : ∃ r : RL, (Q.getD c []).getD j rl0 = r := ⟨_, rfl⟩
        rw [hr55] at hc53
        have hv56 := (by have h9 := (MatE.at (i := c) (j := j) (K := kc) f1 (by rw [(Nt.mixR_len.trans hM2)]; omega) (by rw [((Nt.mixR_row hMt hRl xq).trans (hRl.trans hrow2))]; omega) Nt.kfS_old); rewrite [Nt.mixR_old hMt hRl xq] at h9; exact h9)
        rw [hr55] at hv56
        refine zyl 97 (r54.cs) hc53 ty26 (zzh 98 (.v (r36.v)) ty26 zze (zzg 99 88 [r54.v, r36.v] ?_))
        intro w57 u57 e57 d57
        have k62 := k_rqOver d57 (hv56.ext e57).raw (f3.ext e57).raw xq xq
        with_reducible refine zPm k62 ?_
        rintro _ u60 g61 ⟨r58, rfl, h59⟩
        refine zzw ?_
        obtain ⟨b63, hA63, hc63⟩ := MutQ.el1 (j := j) (hrw52.ext (e57.trans g61.ext)) xq
        refine zzz 100 (0 + j * 3) (n := (Ry.getD c sl0).n) (off := 0) (sz := 3) (i := (j : Int)) xq hA63 xq xq sl54 ?_
        have hq64 := (hrw52.ext (e57.trans g61.ext))
        refine sy_storeQ (v := r58.v) (off := 0 + j * 3) (n := 3) (Ry.getD c sl0) hq64 (fun a ha => .inr (hF2 c a ha)) hA63 ty26 (by rw [zyx]; have h9 : _ := xq; omega) (nu_rl r58) (fun u64 hm64 eX64 => ?_)
        have hn64 : MutQ (1 * 3) 26 v0.heap.size u64 (Ry.getD c sl0) (rcs ((Q.getD c []).set j r58)) := by rw [← zyw (off := 0 + j * 3) xq xq]; exact hm64
        have eX64r := ExtX.root eX64 (MutQ.mutL hq64) (e47.trans (e57.trans g61.ext))
        have hM65 := MatQ.storeRow xw (f0.ext (e57.trans g61.ext)) (i := c) xq (L := ((Q.getD c []).set j r58)) hn64 eX64
        have hE65 : (((M2.getD c []).getD j 0) / p) = R.getD j 0 := (hRa j xq)
        have hN65 := MatE.el (i := c) (j := j) (q := R.getD j 0) (Kg := (Nt.kfS c (j + 1) (2 * kc + 2) kc)) (MatE.keep (f1.ext (e57.trans g61.ext)) hq64 eX64) (by rw [(Nt.mixR_len.trans hM2)]; omega) (by rw [((Nt.mixR_row hMt hRl xq).trans (hRl.trans hrow2))]; omega) (by rw [← hE65]; exact MutQ.keep hq64 eX64 h59) (Nat.le_trans xq Nt.kfS_el) Nt.kfS_mono
        rewrite [Nt.mixR_s hMt hRl xq] at hN65
        obtain ⟨Q65, hQ65⟩ : ∃ Q9, Q.set c ((Q.getD c []).set j r58) = Q9 := ⟨_, rfl⟩
        rewrite [hQ65] at hM65 hN65
        have hQl65 : Q65.length = Q.length := by rw [← hQ65, List.length_set]
        have hKdet65 := MutQ.keep hq64 eX64 (f2.ext (e57.trans g61.ext))
        have hKp65 := MutQ.keep hq64 eX64 (f3.ext (e57.trans g61.ext))
        refine zzw ?_
        refine zzo (zzf (zyp 101 (x := zI (IntKind.i64.wrap ((j : Int) + 1))) (zI (j + 1 : Nat)) (eqI xz) (zza 83 (zI (j + 1 : Nat)) (zzw ?_))))
        refine ⟨_, ?_, _, by exact zzu _ _ _, j + 1, Q65, rfl, by omega, (by rw [hQl65]; exact hQy), rfl, eX64r, hM65, hN65, hKdet65, hKp65⟩
        omega
       ·replace hb48 : (decide ((j : Int) < (((Ry.getD c sl0).n : Nat) : Int))) = false := hb48
        have qhb48 := of_decide_eq_false hb48
        refine zyb (zzo (zzd (sq9 (zza 102 (.v x.v) (zza 103 (zI x.n) (zza 104 (zI 0) (zzb (zzs (zym (I := fun m66 S' u' => ∃ (i : Nat) (P : List (List RL)) (M3 : List (List Rat)), (m66 = n - i) ∧ (i ≤ n) ∧ (Nt.GE n m M0 M3 c (D2 * p) i) ∧ (S' = St.of 159 [(0, .v (.slice x.a x.n x.c)), (1, zI n), (5, .adr 5 0), (6, zI c), (7, .adr 7 0), (8, zI c), (103, zI x.n), (104, zI i)] [(5, ⟨26, [.bool false, .slice none 0 0, .slice none 0 0]⟩), (7, ⟨26, r40.cs⟩)]) ∧ (Ext v0 u') ∧ (MatQ 1 54 26 v0.heap.size u' x Ry P) ∧ (MatE u' P M3 (Nt.kfE c i 0 (6 * kc + 10) (2 * kc + 2))) ∧ (RatN u' r40 (D2 * p) (2 * kc + 3))) (fun m S u1 u2 e h => by obtain ⟨i, P, M3, hm, p0, p1, hS, hE, f0, f1, f2⟩ := h; exact ⟨i, P, M3, hm, p0, p1, hS, hE.trans e, f0.ext e, f1.ext e, f2.ext e⟩) _ yz ⟨0, Q, (M2.set c R), rfl, by omega, (by rw [← hR0]; exact Nt.GI.scale hg2 xq xq hp hp0), rfl, e47, f0, (by rw [← Nt.mixR_n hRl (show j = R.length by omega)]; exact MatE.more f1 Nt.kfS_E), f2⟩ ?_)))))))))
        rintro m66 _ u66 ⟨i, P, M3, hm66, hi, hge, rfl, e66, e0, e1, e2⟩
        have hM3 : M3.length = n := hge.len
        have hPn : P.length = n := e1.1.trans hM3
        refine sq9 (zza 105 (zB (decide ((i : Int) < (x.n : Int)))) (zzb (zzd (zzt (b := decide ((i : Int) < (x.n : Int))) xj (fun hb67 => ?_) (fun hb67 => ?_)))))
        ·replace hb67 : (decide ((i : Int) < (x.n : Int))) = true := hb67
         have qhb67 := of_decide_eq_true hb67
         refine zzr (zzo ?_)
         refine zzd (zzs (sq9 (zza 106 (zI i) (zza 12 (zI i) (zzb (sq9 (zza 107 (.v x.v) (zza 108 (zI i) ?_))))))))
         obtain ⟨b68, hA68, hc68⟩ := MatQ.cell (i := i) e0 xq
         refine zzz 109 (0 + i * 1) (n := x.n) (off := 0) (sz := 1) (i := (i : Int)) xq hA68 xq xq sl71 ?_
         have hrw69 := MatQ.row e0 i xq
         have hrl69 : (P.getD i []).length = m := (MatE.rowlen e1 (by rw [hM3]; omega)).trans (hge.row i xq)
         have hrn69 : (Ry.getD i sl0).n = m := (MutQ.rown hrw69).trans hrl69
         refine zyk 110 (.slice (Ry.getD i sl0).a (Ry.getD i sl0).n (Ry.getD i sl0).c) hc68 ty54 (zza 111 (zI c) ?_)
         obtain ⟨b70, hA70, hc70⟩ := MutQ.el1 (j := c) hrw69 xq
         refine zzz 112 (0 + c * 3) (n := (Ry.getD i sl0).n) (off := 0) (sz := 3) (i := (c : Int)) xq hA70 xq xq sl54 ?_
         obtain ⟨r71, hr72⟩ : ∃ r : RL, (P.getD i []).getD c rl0 = r := ⟨_, rfl⟩
         rw [hr72] at hc70
         have hv73 := (MatE.at (i := i) (j := c) (K := (2 * kc + 2)) e1 (by rw [hM3]; omega) (by rw [(hge.row i xq)]; omega) (Nt.kfE_i xq))
         rw [hr72] at hv73
         refine zyl 113 (r71.cs) hc70 ty26 (zzj 13 ⟨26, [.bool false, .slice none 0 0, .slice none 0 0]⟩ (zzi ⟨26, r71.cs⟩ ty26 ?_))
         refine zzc 159 [(0, .v x.v), (1, zI n), (5, .adr 5 0), (6, zI c), (7, .adr 7 0), (8, zI c), (12, zI i), (13, .adr 13 0), (103, zI x.n), (104, zI i)] [(5, ⟨26, [.bool false, .slice none 0 0, .slice none 0 0]⟩), (7, ⟨26, r40.cs⟩), (13, ⟨26, r71.cs⟩)] (zzd (zzd ?_))
         obtain ⟨f, hf⟩ : ∃ f, (M3.getD i []).getD c 0 = f := ⟨_, rfl⟩
         have hfr : RatN u66 r71 f (2 * kc + 2) := by rw [← hf]; exact hv73
         refine zzf (zza 114 (zI i) (zza 115 (zI c) (zza 116 (zB ((i : Int) == (c : Int))) ?_)))
         rcases Bool.eq_false_or_eq_true ((i : Int) == (c : Int)) with hs74 | hs74
         ·refine zyp 117 (x := zB ((i : Int) == (c : Int))) (zB true) (by rw [hs74]) ?_
          have qhs74 : i = c := by have h9 := hs74; simp at h9; omega
          refine zzm 118 (uw 3 false true 117) (zzm 119 (uw 3 false true 117) (zzm 120 (uw 3 false true 117) (zza 121 (zB true) (zzb (zyq xj (zyb (zzo (zzf (zyp 154 (x := zI (IntKind.i64.wrap ((i : Int) + 1))) (zI (i + 1 : Nat)) (eqI xz) (zza 104 (zI (i + 1 : Nat)) (zzw ?_)))))))))))
          refine ⟨_, ?_, _, by exact zzu _ _ _, i + 1, P, M3, rfl, by omega, (hge.skip (.inl qhs74)), rfl, e66, e0, (MatE.more e1 Nt.kfE_next), e2⟩
          omega
         ·refine zyp 117 (x := zB ((i : Int) == (c : Int))) (zB false) (by rw [hs74]) ?_
          have qhs74 : i ≠ c := by have h9 := hs74; simp at h9; omega
          refine zzh 118 (.v (r71.v)) ty26 zze ?_ (hw := w1 3 false 117)
          refine zzg 119 29 [r71.v] ?_ (hw := w1 3 false 117)
          intro w75 u75 e75 d75
          have k78 := k_rqSign d75 (hfr.ext e75).raw xq
          with_reducible refine zPm k78 ?_
          rintro _ u76 g77 rfl
          refine zza 120 (zB ((Nt.sgQ f) == 0)) ?_ (hw := w1 3 false 117)
          refine zza 121 (zB ((Nt.sgQ f) == 0)) (zzb (zzt (b := (Nt.sgQ f) == 0) xj (fun hb79 => ?_) (fun hb79 => ?_)))
          ·replace hb79 : ((Nt.sgQ f) == 0) = true := hb79
           have qhb79 : f = 0 := by have h9 := hb79; rw [Nt.sgQ_eq] at h9; exact of_decide_eq_true h9
           refine zyb (zzo (zzf (zyp 154 (x := zI (IntKind.i64.wrap ((i : Int) + 1))) (zI (i + 1 : Nat)) (eqI xz) (zza 104 (zI (i + 1 : Nat)) (zzw ?_)))))
           refine ⟨_, ?_, _, by exact zzu _ _ _, i + 1, P, M3, rfl, by omega, (hge.skip (.inr (by unfold Nt.ent; rw [hf]; exact qhb79))), rfl, (e66.trans (e75.trans g77.ext)), (e0.ext (e75.trans g77.ext)), (MatE.more (e1.ext (e75.trans g77.ext)) Nt.kfE_next), (e2.ext (e75.trans g77.ext))⟩
           omega
          ·replace hb79 : ((Nt.sgQ f) == 0) = false := hb79
           have qhb79 : ¬ f = 0 := by have h9 := hb79; rw [Nt.sgQ_eq] at h9; exact of_decide_eq_false h9
           refine zzr (zzo ?_)
           refine zzd ?_
           have hicc : i ≠ c := qhs74
           obtain ⟨R4, hR4⟩ : ∃ R, Nt.rowA (M3.getD i []) (M3.getD c []) (-f) = R := ⟨_, rfl⟩
           have hrow4 := hge.row i xq
           have hR4l : R4.length = (M3.getD i []).length := by rw [← hR4, Nt.rowA_len]
           have hR4a : ∀ j, j < m → (M3.getD i []).getD j 0 - f * (M3.getD c []).getD j 0 = R4.getD j 0 := fun j hj => by rw [← hR4, Nt.rowA_at xq]; grind
           have hMi : i < M3.length := by omega
           refine zzf (zza 122 (.v x.v) (zza 123 (zI i) ?_))
           obtain ⟨b80, hA80, hc80⟩ := MatQ.cell (i := i) (e0.ext (e75.trans g77.ext)) xq
           refine zzz 124 (0 + i * 1) (n := x.n) (off := 0) (sz := 1) (i := (i : Int)) xq hA80 xq xq sl71 ?_
           have hrw81 := MatQ.row (e0.ext (e75.trans g77.ext)) i xq
           have hrl81 : (P.getD i []).length = m := (MatE.rowlen (e1.ext (e75.trans g77.ext)) (by rw [hM3]; omega)).trans (hge.row i xq)
           have hrn81 : (Ry.getD i sl0).n = m := (MutQ.rown hrw81).trans hrl81
           refine zyk 125 (.slice (Ry.getD i sl0).a (Ry.getD i sl0).n (Ry.getD i sl0).c) hc80 ty54 (zza 126 (zI (((Ry.getD i sl0).n : Nat) : Int)) (zza 127 (zI 0) (zzb (zzs (zym (I := fun m82 S' u' => ∃ (j : Nat) (Q4 : List (List RL)), (m82 = m - j) ∧ (j ≤ m) ∧ (Q4.length = n) ∧ (S' = St.of 159 [(0, .v (.slice x.a x.n x.c)), (1, zI n), (5, .adr 5 0), (6, zI c), (7, .adr 7 0), (8, zI c), (12, zI i), (13, .adr 13 0), (103, zI x.n), (104, zI i), (126, zI (((Ry.getD i sl0).n : Nat) : Int)), (127, zI j)] [(5, ⟨26, [.bool false, .slice none 0 0, .slice none 0 0]⟩), (7, ⟨26, r40.cs⟩), (13, ⟨26, r71.cs⟩)]) ∧ (Ext v0 u') ∧ (MatQ 1 54 26 v0.heap.size u' x Ry Q4) ∧ (MatE u' Q4 (Nt.mixR M3 i R4 j) (Nt.kfE c i j (6 * kc + 10) (2 * kc + 2))) ∧ (RatN u' r40 (D2 * p) (2 * kc + 3)) ∧ (RatN u' r71 f (2 * kc + 2))) (fun m S u1 u2 e h => by obtain ⟨j, Q4, hm, p0, p1, hS, hE, f0, f1, f2, f3⟩ := h; exact ⟨j, Q4, hm, p0, p1, hS, hE.trans e, f0.ext e, f1.ext e, f2.ext e, f3.ext e⟩) _ yz ⟨0, P, rfl, by omega, hPn, rfl, (e66.trans (e75.trans g77.ext)), (e0.ext (e75.trans g77.ext)), (by rw [Nt.mixR_0]; exact (e1.ext (e75.trans g77.ext))), (e2.ext (e75.trans g77.ext)), (hfr.ext (e75.trans g77.ext))⟩ ?_)))))
           rintro m82 _ u82 ⟨j, Q4, hm82, hj, hQ4n, rfl, e82, g0, g1, g2, g3⟩
           refine sq9 (zza 128 (zB (decide ((j : Int) < (((Ry.getD i sl0).n : Nat) : Int)))) (zzb (zzd (zzt (b := decide ((j : Int) < (((Ry.getD i sl0).n : Nat) : Int))) xj (fun hb83 => ?_) (fun hb83 => ?_)))))
           ·replace hb83 : (decide ((j : Int) < (((Ry.getD i sl0).n : Nat) : Int))) = true := hb83
            have qhb83 := of_decide_eq_true hb83
            refine zzr (zzo ?_)
            refine zzd (zzs (sq9 (zza 129 (zI j) (zza 14 (zI j) (zzb (sw_anyC [0, 0, 3, 7, 0, 0, 0, 96, 224, 0, 992, 2016, 0, 0, 0, 24576, 57344, 0, 253952, 516096, 1044480, 2097120, 4194303, 8388607] [(0, []), (1, []), (2, []), (3, []), (4, []), (5, []), (6, []), (7, []), (8, []), (9, []), (10, []), (11, []), (12, []), (13, []), (14, []), (15, []), (16, []), (17, []), (18, []), (19, []), (20, []), (21, [])] [(22, []), (23, [])] xj xj xj ?_))))))
            refine zza 130 (.v x.v) (zza 131 (zI i) ?_)
            obtain ⟨b84, hA84, hc84⟩ := MatQ.cell (i := i) g0 xq
            refine zzz 132 (0 + i * 1) (n := x.n) (off := 0) (sz := 1) (i := (i : Int)) xq hA84 xq xq sl71 ?_
            have hrw85 := MatQ.row g0 i xq
            have hrl85 : (Q4.getD i []).length = m := (MatE.rowlen g1 (by rw [(Nt.mixR_len.trans hM3)]; omega)).trans ((Nt.mixR_row hMi hR4l xq).trans (hR4l.trans hrow4))
            have hrn85 : (Ry.getD i sl0).n = m := (MutQ.rown hrw85).trans hrl85
            refine zyk 133 (.slice (Ry.getD i sl0).a (Ry.getD i sl0).n (Ry.getD i sl0).c) hc84 ty54 (zza 134 (zI j) (zza 135 (.v x.v) (zza 136 (zI i) ?_)))
            obtain ⟨b86, hA86, hc86⟩ := MatQ.cell (i := i) g0 xq
            refine zzz 137 (0 + i * 1) (n := x.n) (off := 0) (sz := 1) (i := (i : Int)) xq hA86 xq xq sl71 ?_
            have hrw87 := MatQ.row g0 i xq
            have hrl87 : (Q4.getD i []).length = m := (MatE.rowlen g1 (by rw [(Nt.mixR_len.trans hM3)]; omega)).trans ((Nt.mixR_row hMi hR4l xq).trans (hR4l.trans hrow4))
            have hrn87 : (Ry.getD i sl0).n = m := (MutQ.rown hrw87).trans hrl87
            refine zyk 138 (.slice (Ry.getD i sl0).a (Ry.getD i sl0).n (Ry.getD i sl0).c) hc86 ty54 (zza 139 (zI j) ?_)
            obtain ⟨b88, hA88, hc88⟩ := MutQ.el1 (j := j) hrw87 xq
            refine zzz 140 (0 + j * 3) (n := (Ry.getD i sl0).n) (off := 0) (sz := 3) (i := (j : Int)) xq hA88 xq xq sl54 ?_
            obtain ⟨r89, hr90⟩ : ∃ r : RL, (Q4.getD i []).getD j rl0 = r := ⟨_, rfl⟩
            rw [hr90] at hc88
            have hv91 := (by have h9 := (MatE.at (i := i) (j := j) (K := (2 * kc + 2)) g1 (by rw [(Nt.mixR_len.trans hM3)]; omega) (by rw [((Nt.mixR_row hMi hR4l xq).trans (hR4l.trans hrow4))]; omega) (Nt.kfE_i xq)); rewrite [Nt.mixR_old hMi hR4l xq] at h9; exact h9)
            rw [hr90] at hv91
            refine zyl 141 (r89.cs) hc88 ty26 (zzh 142 (.v (r71.v)) ty26 zze (zza 143 (.v x.v) (zza 144 (zI c) ?_)))
            obtain ⟨b92, hA92, hc92⟩ := MatQ.cell (i := c) g0 xq
            refine zzz 145 (0 + c * 1) (n := x.n) (off := 0) (sz := 1) (i := (c : Int)) xq hA92 xq xq sl71 ?_
            have hrw93 := MatQ.row g0 c xq
            have hrl93 : (Q4.getD c []).length = m := (MatE.rowlen g1 (by rw [(Nt.mixR_len.trans hM3)]; omega)).trans ((congrArg List.length (Nt.mixR_other (M := M3) (t := i) (i := c) (j := j) (R := R4) xq)).trans (hge.row c xq))
            have hrn93 : (Ry.getD c sl0).n = m := (MutQ.rown hrw93).trans hrl93
            refine zyk 146 (.slice (Ry.getD c sl0).a (Ry.getD c sl0).n (Ry.getD c sl0).c) hc92 ty54 (zza 147 (zI j) ?_)
            obtain ⟨b94, hA94, hc94⟩ := MutQ.el1 (j := j) hrw93 xq
            refine zzz 148 (0 + j * 3) (n := (Ry.getD c sl0).n) (off := 0) (sz := 3) (i := (j : Int)) xq hA94 xq xq sl54 ?_
            obtain ⟨r95, hr96⟩ : ∃ r : RL, (Q4.getD c []).getD j rl0 = r := ⟨_, rfl⟩
            rw [hr96] at hc94
            have hv97 := (by have h9 := (MatE.at (i := c) (j := j) (K := (2 * kc + 2)) g1 (by rw [(Nt.mixR_len.trans hM3)]; omega) (by rw [((congrArg List.length (Nt.mixR_other (M := M3) (t := i) (i := c) (j := j) (R := R4) xq)).trans (hge.row c xq))]; omega) Nt.kfE_c); rewrite [Nt.mixR_other xq] at h9; exact h9)
            rw [hr96] at hv97
            refine zyl 149 (r95.cs) hc94 ty26 (zzg 150 25 [r71.v, r95.v] ?_)
            intro w98 u98 e98 d98
            have k103 := k_rqMul d98 (g3.ext e98).raw (hv97.ext e98).raw xq xq
            with_reducible refine zPm k103 ?_
            rintro _ u101 g102 ⟨r99, rfl, h100⟩
            refine zzg 151 58 [r89.v, r99.v] ?_
            intro w104 u104 e104 d104
            have k109 := k_rqSub d104 (hv91.ext (e98.trans (g102.ext.trans e104))).raw (h100.ext e104).raw xq xq
            with_reducible refine zPm k109 ?_
            rintro _ u107 g108 ⟨r105, rfl, h106⟩
            refine zzw ?_
            obtain ⟨b110, hA110, hc110⟩ := MutQ.el1 (j := j) (hrw87.ext (e98.trans (g102.ext.trans (e104.trans g108.ext)))) xq
            refine zzz 152 (0 + j * 3) (n := (Ry.getD i sl0).n) (off := 0) (sz := 3) (i := (j : Int)) xq hA110 xq xq sl54 ?_
            have hq111 := (hrw87.ext (e98.trans (g102.ext.trans (e104.trans g108.ext))))
            refine sy_storeQ (v := r105.v) (off := 0 + j * 3) (n := 3) (Ry.getD i sl0) hq111 (fun a ha => .inr (hF2 i a ha)) hA110 ty26 (by rw [zyx]; have h9 : _ := xq; omega) (nu_rl r105) (fun u111 hm111 eX111 => ?_)
            have hn111 : MutQ (1 * 3) 26 v0.heap.size u111 (Ry.getD i sl0) (rcs ((Q4.getD i []).set j r105)) := by rw [← zyw (off := 0 + j * 3) xq xq]; exact hm111
            have eX111r := ExtX.root eX111 (MutQ.mutL hq111) (e82.trans (e98.trans (g102.ext.trans (e104.trans g108.ext))))
            have hM112 := MatQ.storeRow xw (g0.ext (e98.trans (g102.ext.trans (e104.trans g108.ext)))) (i := i) xq (L := ((Q4.getD i []).set j r105)) hn111 eX111
            have hE112 : (((M3.getD i []).getD j 0) - (f * ((M3.getD c []).getD j 0))) = R4.getD j 0 := (hR4a j xq)
            have hN112 := MatE.el (i := i) (j := j) (q := R4.getD j 0) (Kg := (Nt.kfE c i (j + 1) (6 * kc + 10) (2 * kc + 2))) (MatE.keep (g1.ext (e98.trans (g102.ext.trans (e104.trans g108.ext)))) hq111 eX111) (by rw [(Nt.mixR_len.trans hM3)]; omega) (by rw [((Nt.mixR_row hMi hR4l xq).trans (hR4l.trans hrow4))]; omega) (by rw [← hE112]; exact MutQ.keep hq111 eX111 h106) (Nat.le_trans xq (Nt.kfE_el hicc)) Nt.kfE_mono
            rewrite [Nt.mixR_s hMi hR4l xq] at hN112
            obtain ⟨Q112, hQ112⟩ : ∃ Q9, Q4.set i ((Q4.getD i []).set j r105) = Q9 := ⟨_, rfl⟩
            rewrite [hQ112] at hM112 hN112
            have hQl112 : Q112.length = Q4.length := by rw [← hQ112, List.length_set]
            have hKdet112 := MutQ.keep hq111 eX111 (g2.ext (e98.trans (g102.ext.trans (e104.trans g108.ext))))
            have hKf112 := MutQ.keep hq111 eX111 (g3.ext (e98.trans (g102.ext.trans (e104.trans g108.ext))))
            refine zzw ?_
            refine zzo (zzf (zyp 153 (x := zI (IntKind.i64.wrap ((j : Int) + 1))) (zI (j + 1 : Nat)) (eqI xz) (zza 127 (zI (j + 1 : Nat)) (zzw ?_))))
            refine ⟨_, ?_, _, by exact zzu _ _ _, j + 1, Q112, rfl, by omega, (by rw [hQl112]; exact hQ4n), rfl, eX111r, hM112, hN112, hKdet112, hKf112⟩
            omega
           ·replace hb83 : (decide ((j : Int) < (((Ry.getD i sl0).n : Nat) : Int))) = false := hb83
            have qhb83 := of_decide_eq_false hb83
            refine zyb (zzo (zzf (zyp 154 (x := zI (IntKind.i64.wrap ((i : Int) + 1))) (zI (i + 1 : Nat)) (eqI xz) (zza 104 (zI (i + 1 : Nat)) (zzw ?_)))))
            refine ⟨_, ?_, _, by exact zzu _ _ _, i + 1, Q4, (M3.set i R4), rfl, by omega, (by rw [← hR4]; exact hge.step xq xq xq qhs74 hf), rfl, e82, g0, (by rw [← Nt.mixR_n hR4l (show j = R4.length by omega)]; exact MatE.more g1 Nt.kfE_next), g2⟩
            omega
        ·replace hb67 : (decide ((i : Int) < (x.n : Int))) = false := hb67
         have qhb67 := of_decide_eq_false hb67
         refine zyb (zzo (zzf (zza 155 (zI c) (zyp 156 (x := zI (IntKind.i64.wrap ((c : Int) + 1))) (zI (c + 1 : Nat)) (eqI xz) (zza 6 (zI (c + 1 : Nat)) (zzw ?_))))))
         refine zzo (zzf (zza 25 (zI c) (zyp 26 (x := zI (IntKind.i64.wrap ((c : Int) + 1))) (zI (c + 1 : Nat)) (eqI xz) (zza 8 (zI (c + 1 : Nat)) (zzw ?_)))))
         have hge9 : Nt.GE n m M0 M3 c (D2 * p) n := by have h9 := hge; rw [show i = n by omega] at h9; exact h9
         have hN9 := MatE.toN (K := 6 * kc + 10) e1 (fun a b _ _ => Nt.kfE_top)
         rw [← hkc, ← Nt.kz_s] at hN9
         refine ⟨_, ?_, _, by exact zzu _ _ _, c + 1, Ry, P, M3, r40, (D2 * p), rfl, by omega, (hge9.next xq), hF2, rfl, e66, e0, hN9, (RatN.more (K := 2 * kc + 3) e2 (by rw [Nt.kz_s, hkc]; omega))⟩
         omega
      ·skip
       refine sq9 (zza 49 (zI k) (zza 50 (zI c) (zza 51 (zB ((k : Int) != (c : Int))) (zzb (zzt (b := (k : Int) != (c : Int)) xj (fun hb113 => ?_) (fun hb113 => ?_))))))
       ·replace hb113 : ((k : Int) != (c : Int)) = true := hb113
        have qhb113 : k ≠ c := by have h9 := hb113; simp at h9; omega
        refine zzd (sw_anyX xj 16 rfl ?_)
        refine takeX 2 54 15 (.v (.slice x.a x.n x.c)) #[false, false, true, false, false, false, false, false, false, false, false, false, false, false, false, false] ?_
        refine takeX 3 55 14 (.v (.int .i64 (c : Int))) #[false, false, true, true, false, false, false, false, false, false, false, false, false, false, false, false] ?_
        refine restX [0, 0, 0, 0, 0, 0, 48, 112, 0, 0, 768, 1792, 4083, 8179, 16383, 32767] [(0, []), (1, []), (4, []), (5, []), (6, []), (7, []), (8, []), (9, []), (10, []), (11, []), (12, [])] [] (13, []) [(14, []), (15, [])] xj ?_
        refine zza 52 (.v x.v) (zza 53 (zI k) (zza 56 (.v x.v) (zza 57 (zI c) ?_)))
        obtain ⟨b114, hA114, hc114⟩ := MatQ.cell (i := c) (z0.ext (e19.trans (e27.trans g29.ext))) xq
        refine zzz 58 (0 + c * 1) (n := x.n) (off := 0) (sz := 1) (i := (c : Int)) xq hA114 xq xq sl71 ?_
        have hrw115 := MatQ.row (z0.ext (e19.trans (e27.trans g29.ext))) c xq
        have hrl115 : (Lz.getD c []).length = m := (MatN.rowlen (z1.ext (e19.trans (e27.trans g29.ext))) (by rw [hM1]; omega)).trans (hg.row c xq)
        have hrn115 : (Rz.getD c sl0).n = m := (MutQ.rown hrw115).trans hrl115
        refine zyk 59 (.slice (Rz.getD c sl0).a (Rz.getD c sl0).n (Rz.getD c sl0).c) hc114 ty54 (zza 60 (.v x.v) (zza 61 (zI k) ?_))
        obtain ⟨b116, hA116, hc116⟩ := MatQ.cell (i := k) (z0.ext (e19.trans (e27.trans g29.ext))) xq
        refine zzz 62 (0 + k * 1) (n := x.n) (off := 0) (sz := 1) (i := (k : Int)) xq hA116 xq xq sl71 ?_
        have hrw117 := MatQ.row (z0.ext (e19.trans (e27.trans g29.ext))) k xq
        have hrl117 : (Lz.getD k []).length = m := (MatN.rowlen (z1.ext (e19.trans (e27.trans g29.ext))) (by rw [hM1]; omega)).trans (hg.row k xq)
        have hrn117 : (Rz.getD k sl0).n = m := (MutQ.rown hrw117).trans hrl117
        refine zyk 63 (.slice (Rz.getD k sl0).a (Rz.getD k sl0).n (Rz.getD k sl0).c) hc116 ty54 ?_
        obtain ⟨b118, hA118, hc118⟩ := MatQ.cell (i := k) (z0.ext (e19.trans (e27.trans g29.ext))) xq
        refine zzz 64 (0 + k * 1) (n := x.n) (off := 0) (sz := 1) (i := (k : Int)) xq hA118 xq xq sl71 (zzw ?_)
        refine exitsK_last ?_
        have hq119 := (z0.ext (e19.trans (e27.trans g29.ext)))
        refine sy_storeQ (v := .slice (Rz.getD c sl0).a (Rz.getD c sl0).n (Rz.getD c sl0).c) (off := 0 + k * 1) (n := 1) x (MatQ.out hq119) (fun a ha => .inr (mqB_x ha)) hA118 ty54 (by rw [List.length_map, MatQ.len hq119]; omega) (nu_sls [(Rz.getD c sl0)]) (fun u119 hm119 eX119 => ?_)
        have hn119 : MutQ 1 54 v0.heap.size u119 x ((Rz.set k (Rz.getD c sl0)).map Sl.v) := by rw [← setL_map (y := (Rz.getD c sl0)) (i := k) (by rw [MatQ.len hq119]; omega)]; exact hm119
        have eX119r := ExtX.root eX119 (MutQ.mutL (MatQ.out hq119)) (e17.trans (e19.trans (e27.trans g29.ext)))
        obtain ⟨b120, hA120, _⟩ := MatQ.cell (i := c) hq119 xq
        refine zzz 65 (0 + c * 1) (n := x.n) (off := 0) (sz := 1) (i := (c : Int)) xq hA120 xq xq sl71 (sy_storeQ (v := .slice (Rz.getD k sl0).a (Rz.getD k sl0).n (Rz.getD k sl0).c) (off := 0 + c * 1) (n := 1) x hn119 (fun a ha => .inr (mqB_x ha)) hA120 ty54 (by rw [List.length_map, List.length_set, MatQ.len hq119]; omega) (nu_sls [(Rz.getD k sl0)]) (fun u121 hm121 eX121 => ?_))
        have hn121 : MutQ 1 54 v0.heap.size u121 x (((Rz.set k (Rz.getD c sl0)).set c (Rz.getD k sl0)).map Sl.v) := by rw [← setL_map (y := (Rz.getD k sl0)) (i := c) (by rw [List.length_set, MatQ.len hq119]; omega)]; exact hm121
        have eX121r := ExtX.root eX121 (MutQ.mutL hn119) eX119r
        have hW121 := MatQ.swap (p := k) (t := c) xw hq119 xq xq hn121 (ExtX.trans eX119 eX121)
        have hV121 := MatN.keep (MatN.swap (t := k) (f := c) (z1.ext (e19.trans (e27.trans g29.ext))) (by rw [hM1]; omega) (by rw [hM1]; omega)) (MatQ.out hq119) (ExtX.trans eX119 eX121)
        have hKdet121 := MutQ.keep (MatQ.out hq119) (ExtX.trans eX119 eX121) (z2.ext (e19.trans (e27.trans g29.ext)))
        refine zzb (zzf (zzh 66 (.v (rd.v)) ty26 zze (zzg 67 39 [rd.v] ?_)))
        intro w122 u122 e122 d122
        have k127 := k_rqNeg d122 (hKdet121.ext e122).raw xq
        with_reducible refine zPm k127 ?_
        rintro _ u125 g126 ⟨r123, rfl, h124⟩
        refine zzi ⟨26, r123.cs⟩ ty26 ?_
        refine zzc 159 [(0, .v x.v), (1, zI n), (5, .adr 5 0), (6, zI c), (7, .adr 7 0), (8, zI c)] [(5, ⟨26, [.bool false, .slice none 0 0, .slice none 0 0]⟩), (7, ⟨26, r123.cs⟩)] ?_
        exact rest32 _ _ ⟨((Rz.set k (Rz.getD c sl0)).set c (Rz.getD k sl0)), ((Lz.set k (Lz.getD c [])).set c (Lz.getD k [])), (Nt.swL M1 k c []), r123, (-D), (Nt.GI.swap hg xq xq xq), (by unfold Nt.ent; rw [Nt.swL_t xq xq xq]; exact qhb31), (RowsIn.swap hF xq xq), rfl, (eX121r.trans (e122.trans g126.ext)), (hW121.ext (e122.trans g126.ext)), (hV121.ext (e122.trans g126.ext)), h124⟩
       ·replace hb113 : ((k : Int) != (c : Int)) = false := hb113
        have qhb113 : k = c := by have h9 := hb113; simp at h9; omega
        refine zzr (zzo ?_)
        refine sw_weak (T := St.of 159 [(0, .v (.slice x.a x.n x.c)), (1, zI n), (5, .adr 5 0), (6, zI c), (7, .adr 7 0), (8, zI c)] [(5, ⟨26, [.bool false, .slice none 0 0, .slice none 0 0]⟩), (7, ⟨26, rd.cs⟩)]) yz ?_
        exact rest32 _ _ ⟨Rz, Lz, M1, rd, D, hg, (by have h9 := qhb31; rw [qhb113] at h9; exact h9), hF, rfl, (e17.trans (e19.trans (e27.trans g29.ext))), (z0.ext (e19.trans (e27.trans g29.ext))), (z1.ext (e19.trans (e27.trans g29.ext))), (z2.ext (e19.trans (e27.trans g29.ext)))⟩
   ·refine zyp 32 (x := zB (decide ((k : Int) < (x.n : Int)))) (zB false) (by rw [hs20]) ?_
    have qhs20 := of_decide_eq_false hs20
    refine zzm 33 (uw 4 true false 32) (zzm 34 (uw 4 true false 32) (zzm 35 (uw 4 true false 32) (zzm 36 (uw 4 true false 32) (zzm 37 (uw 4 true false 32) (zzm 38 (uw 4 true false 32) (zzm 39 (uw 4 true false 32) (zzm 40 (uw 4 true false 32) (zzm 41 (uw 4 true false 32) (zza 42 (zB false) (zzc 159 [(0, .v x.v), (1, zI n), (5, .adr 5 0), (6, zI c), (7, .adr 7 0), (8, zI c), (9, zI k), (42, zB false)] [(5, ⟨26, [.bool false, .slice none 0 0, .slice none 0 0]⟩), (7, ⟨26, rd.cs⟩)] (zyr xj ?_)))))))))))
    refine zyb (zzo (zzd (zzd ?_)))
    exact (Nt.GI.pivot hg xq hnm hI (fun i h1 h2 => hze i h1 xq)).elim
  ·exact absurd hb (by rw [show (decide ((c : Int) < (x.n : Int))) = true from decide_eq_true xq]; decide)
 ·refine zyp 19 (x := zB (decide ((c : Int) < (n : Int)))) (zB false) (by rw [hs18]) ?_
  have qhs18 := of_decide_eq_false hs18
  refine zzm 20 (uw 3 true false 19) (zzm 21 (uw 3 true false 19) (zzm 22 (uw 3 true false 19) (zzm 23 (uw 3 true false 19) (zza 24 (zB false) (zzb (zyr xj (zyb (zzo (zzd (zzy [0, 0, 1, 7] [(0, []), (1, []), (2, []), (3, [])] xj xj (zza 157 (zI c) ?_)))))))))))
  refine zzh 158 (.v (rd.v)) ty26 zze (zza 4 (zI c) (zzi ⟨26, rd.cs⟩ ty26 ?_))
  refine zzb (zzn (ret0 [.int .i64 c, rd.v] ⟨zzp, zzq ty26 zze, trivial⟩ fun u128 e129 => ?_))
  obtain rfl : c = n := by omega
  subst hkc
  exact ⟨rd, D, Rz, Lz, M1, rfl, (z2.ext e129), (z0.ext e129), (z1.ext e129), hg⟩
set_option maxHeartbeats 2000000 in
theorem k_r9det {u w : World} {lo : Nat} {x : Sl} {Rs : List Sl} {Ls : List (List RL)} {M : List (List Rat)} {n K : Nat} (d : Dat u w) (hm : MatQ 1 54 26 lo u x Rs Ls) (hN : MatN u Ls M K) (hl0 : M.length = n) (hr0 : ∀ i, i < n → (M.getD i []).length = n) (h1 : 1 ≤ n) (h2 : n ≤ 52) (hI : Nt.Inj n M) (hK : K ≤ 50000000) (hz : Nt.kz n K ≤ 50000000) : Calls Tryz.prog 54 #[x.v] w (Post u w fun v u' => ∃ r : RL, v = .tuple #[r.v, .int .i64 0] ∧ RatN u' r (Nt.det n (Nt.ent M)) (Nt.kz n K + 2)) := by
 have hLl : Ls.length = n := hN.1.trans hl0
 have hRsl := hm.len
 have hxn : x.n = n := hm.rows.trans hLl
 refine zzl (args := [.slice x.a x.n x.c]) Tryz.func54 rfl Tryz.ntmps54 (rs := [.cell 2 26, .tmp 3]) Tryz.results54 (le_b rfl) (le_b rfl) d ?_
 refine sq9 (zzj 2 ⟨26, [.bool false, .slice none 0 0, .slice none 0 0]⟩ (zza 3 (zI 0) (zzb (zzd (zzs (sq9 (zza 7 (.v x.v) (zzg 8 120 [x.v] ?_))))))))
 intro w11 u11 e11 d11
 have k14 := k_r9valid (n := n) (m := n) d11 (hm.ext e11) (hN.ext e11) (hl0) (fun i hi => (hr0 i xq)) xq xq xq xq
 with_reducible refine zPm k14 ?_
 rintro _ u12 g13 rfl
 refine zza 9 (zB false) (zza 6 (zB false) (zzb (zyr xj (sq9 (zza 12 (.v x.v) (zza 13 (zI x.n) (zza 14 (.v x.v) ?_)))))))
 obtain ⟨b15, hA15, hc15⟩ := MatQ.cell (i := 0) (hm.ext (e11.trans g13.ext)) xq
 refine zzz 15 (0 + 0 * 1) (n := x.n) (off := 0) (sz := 1) (i := 0) xq hA15 xq xq sl71 ?_
 have hrw16 := MatQ.row (hm.ext (e11.trans g13.ext)) 0 xq
 have hrl16 : (Ls.getD 0 []).length = n := (MatN.rowlen (hN.ext (e11.trans g13.ext)) (by rw [hl0]; omega)).trans (hr0 0 xq)
 have hrn16 : (Rs.getD 0 sl0).n = n := (MutQ.rown hrw16).trans hrl16
 refine zyk 16 (.slice (Rs.getD 0 sl0).a (Rs.getD 0 sl0).n (Rs.getD 0 sl0).c) hc15 ty54 (zza 17 (zI (((Rs.getD 0 sl0).n : Nat) : Int)) (zza 18 (zB ((x.n : Int) != (((Rs.getD 0 sl0).n : Nat) : Int))) (zza 11 (zB ((x.n : Int) != (((Rs.getD 0 sl0).n : Nat) : Int))) (zzb (zzt (b := (x.n : Int) != (((Rs.getD 0 sl0).n : Nat) : Int)) xj (fun hb => ?_) (fun hb => ?_))))))
 ·exact absurd hb (by rw [show ((x.n : Int) != (((Rs.getD 0 sl0).n : Nat) : Int)) = false from (by rw [bne_eq_false_iff_eq]; omega)]; decide)
 ·clear hb
  refine zzr (zzo ?_)
  refine sq9 (zza 21 (.v x.v) (zzg 22 122 [x.v] ?_))
  intro w17 u17 e17 d17
  have k21 := k_r9copies (n := n) (m := n) d17 (hm.ext (e11.trans (g13.ext.trans e17))) (hN.ext (e11.trans (g13.ext.trans e17))) (hl0) (fun i hi => (hr0 i xq)) xq xq xq
  with_reducible refine zPm k21 ?_
  rintro _ u19 g20 ⟨y18, Rs18, Ls18, rfl, hM18, hN18⟩
  refine zza 23 (.v x.v) (zza 24 (zI x.n) ?_)
  have hA22 := hM18
  have hB22 := hN18
  refine zwk (mqB y18 Rs18) 25 121 [y18.v, .int .i64 x.n] (MatQ.may hA22 (Ext.size (e11.trans (g13.ext.trans e17)))) (fun w22 u22 e22 d22 => by rw [show (x.n : Int) = ((n : Nat) : Int) by omega]; exact k_r9reduce (v0 := u17) (n := n) (m := n) (K := K) d22 (Ext.trans g20.ext e22) (hA22.ext e22) (hB22.ext e22) (hl0) (fun i hi => (hr0 i xq)) xq xq xq hI hz) (fun v22 v222 hF22 hv22 => ?_)
  obtain ⟨r22, D22, Rs22, Ls22, M22, rfl, hr22, hM22, hN22, hG22⟩ := hv22
  have eR22 := ExtF.rootQ hF22 hA22 g20.ext
  refine zza 20 (.v (.tuple #[.int .i64 n, r22.v])) (zza 26 (zI n) (zza 27 (.v (r22.v)) (zzj 5 ⟨26, [.bool false, .slice none 0 0, .slice none 0 0]⟩ (zza 4 (zI n) (zzi ⟨26, r22.cs⟩ ty26 ?_)))))
  refine zzb (zzd (sq9 (zza 28 (zI n) (zza 29 (.v x.v) (zza 30 (zI x.n) (zza 31 (zB (decide ((n : Int) < (x.n : Int)))) (zzb (zzt (b := decide ((n : Int) < (x.n : Int))) xj (fun hb => ?_) (fun hb => ?_)))))))))
  ·exact absurd hb (by rw [show (decide ((n : Int) < (x.n : Int))) = false from decide_eq_false xq]; decide)
  ·clear hb
   refine zzr (zzo ?_)
   refine sq9 (zzh 33 (.v (r22.v)) ty26 zze (zzi ⟨26, r22.cs⟩ ty26 ?_))
   refine zza 3 (zI 0) (zzc 34 [(2, .adr 2 0), (3, zI 0)] [(2, ⟨26, r22.cs⟩)] (zzn (ret0 [r22.v, .int .i64 0] ⟨zzq ty26 zze, zzp, trivial⟩ fun u23 e24 => ?_)))
   refine ⟨r22, rfl, ?_⟩
   rw [hG22.full]
   exact (hr22.ext e24)
theorem k_fxShift1 {u w : World} {v n : Int} (d : Dat u w) (hv0 : -1152921504606846976 ≤ v) (hv1 : v ≤ 1152921504606846976) (hn0 : 0 ≤ n) (hn1 : n ≤ 24) : Calls Tryz.prog 191 #[.int .i64 v, .int .i64 n, .int .i64 1] w (Post u w fun y _ => y = .int .i64 (Nt.shiftW v n 1)) := by
 have hp1 := Nt.zxo n
 have hp2 := Nt.p2i_24 (n := n) xq
 have hd1 := Nt.div_bd (v := v) hp1
 have hm1 := Int.emod_nonneg (v / Nt.p2i (n - 1)) (show (2 : Int) ≠ 0 by decide)
 have hm2 := Int.emod_lt_of_pos (v / Nt.p2i (n - 1)) (show (0 : Int) < 2 by decide)
 refine zzl (args := [.int .i64 v, .int .i64 n, .int .i64 1]) Tryz.func191 rfl Tryz.ntmps191 (rs := [.tmp 6]) Tryz.results191 (le_b rfl) (le_b rfl) d ?_
 refine sq9 (zza 6 (zI 0) (zzb (zzd (sq9 (zza 9 (zI n) (zza 10 (zB (decide (n < 0))) (zyp 11 (x := zB (decide (n < 0))) (zB false) (by rw [show (decide (n < 0)) = false from decide_eq_false xq]) (zza 12 (zI n) ?_ (hw := w1 2 false 11)))))))))
 refine zza 13 (zB (decide ((62 : Int) < n))) ?_ (hw := w1 2 false 11)
 refine zza 14 (zB (decide ((62 : Int) < n))) (zyp 15 (x := zB (decide ((62 : Int) < n))) (zB false) (by rw [show (decide ((62 : Int) < n)) = false from decide_eq_false xq]) (zza 16 (zI 1) ?_ (hw := w1 6 false 15)))
 refine zzg 17 238 [.int .i64 1] ?_ (hw := w1 6 false 15)
 intro w13 u13 e13 d13
 have k16 := k_mode (r := 1) d13 xq xq
 with_reducible refine zPm k16 ?_
 rintro _ u14 g15 rfl
 refine zza 18 (zB false) ?_ (hw := w1 6 false 15)
 refine zza 19 (zB false) (zzb (zyr xj (zzr (zzo ?_))))
 refine zzd (sq9 (zza 20 (zI n) (zza 21 (zB (n == 0)) (zzb (zzt (b := n == 0) xj (fun hb17 => ?_) (fun hb17 => ?_))))))
 ·replace hb17 : (n == 0) = true := hb17
  have qhb17 := hb17
  simp at qhb17
  refine sq9 (zza 22 (zI v) (zza 6 (zI v) (zzb (zzn (zzv (ret0 [.int .i64 v] ⟨zzp, trivial⟩ fun u18 e19 => ?_))))))
  show Value.int _ _ = Value.int _ _
  unfold Nt.shiftW
  rw [if_pos qhb17]
 ·replace hb17 : (n == 0) = false := hb17
  have qhb17 := hb17
  simp at qhb17
  refine zzr (zzo ?_)
  refine sq9 (zza 23 (zI v) (zza 24 (zI n) (sy_shr 25 (k := .i64) (n := v) (s := n) (v / Nt.p2i n) xq yw rfl ?_)))
  refine zza 7 (zI (v / Nt.p2i n)) (zzb (sq9 (zza 26 (zI (v / Nt.p2i n)) (zza 27 (zI (v / Nt.p2i n)) (zza 28 (zI v) (zza 29 (zI n) (zyp 30 (x := zI (IntKind.i64.wrap (n - 1))) (zI (n - 1)) yq (sy_shr 31 (k := .i64) (n := v) (s := n - 1) (v / Nt.p2i (n - 1)) xq yw rfl ?_))))))))
  refine zyp 32 (x := zI (bits .and .i64 (v / Nt.p2i (n - 1)) 1)) (zI (v / Nt.p2i (n - 1) % 2)) (eqI (Nt.bits_1 _)) (zyp 33 (x := zI (IntKind.i64.wrap ((v / Nt.p2i n) + (v / Nt.p2i (n - 1) % 2)))) (zI ((v / Nt.p2i n) + (v / Nt.p2i (n - 1) % 2))) yq (zza 34 (zI (v / Nt.p2i n)) (zza 35 (.v (.agg #[.int .i64 (v / Nt.p2i n), .int .i64 ((v / Nt.p2i n) + (v / Nt.p2i (n - 1) % 2)), .int .i64 (v / Nt.p2i n)])) (zzj 8 ⟨200, [.int .i64 0, .int .i64 0, .int .i64 0]⟩ (zzi ⟨200, [.int .i64 (v / Nt.p2i n), .int .i64 ((v / Nt.p2i n) + (v / Nt.p2i (n - 1) % 2)), .int .i64 (v / Nt.p2i n)]⟩ ty200 ?_)))))
  refine zzb (zzd (sq9 (zza 36 (zI v) (zza 37 (zB (decide (v < 0))) ?_))))
  rcases Bool.eq_false_or_eq_true (decide (v < 0)) with hs20 | hs20
  ·refine zyp 38 (x := zB (decide (v < 0))) (zB true) (by rw [hs20]) ?_
   have qhs20 := of_decide_eq_true hs20
   refine zza 39 (zI v) ?_ (hw := w1 2 true 38)
   refine zza 40 (zI n) ?_ (hw := w1 2 true 38)
   refine sy_shl 41 (k := .i64) (s := n) (Nt.p2i n) xq yw (shl_one xq xq) ?_ (hw := w1 2 true 38)
   refine zyp 42 (x := zI (IntKind.i64.wrap ((Nt.p2i n) - 1))) (zI ((Nt.p2i n) - 1)) yq ?_ (hw := w1 2 true 38)
   refine zyp 43 (x := zI (bits .and .i64 v (Nt.p2i n - 1))) (zI (v % Nt.p2i n)) (eqI (Nt.bits_p2 xq xq)) ?_ (hw := w1 2 true 38)
   refine zza 44 (zB ((v % Nt.p2i n) != 0)) ?_ (hw := w1 2 true 38)
   refine zza 45 (zB ((v % Nt.p2i n) != 0)) (zzc 54 [(2, zI 1), (8, .adr 8 0), (45, zB ((v % Nt.p2i n) != 0))] [(8, ⟨200, [.int .i64 (v / Nt.p2i n), .int .i64 ((v / Nt.p2i n) + (v / Nt.p2i (n - 1) % 2)), .int .i64 (v / Nt.p2i n)]⟩)] (zzt (b := (v % Nt.p2i n) != 0) xj (fun hb21 => ?_) (fun hb21 => ?_)))
   ·replace hb21 : ((v % Nt.p2i n) != 0) = true := hb21
    have qhb21 := hb21
    simp at qhb21
    refine zzf (zza 46 (.adr 8 2) (zzh 47 (zI (v / Nt.p2i n)) ty3 zzk (zyp 48 (x := zI (IntKind.i64.wrap ((v / Nt.p2i n) + 1))) (zI ((v / Nt.p2i n) + 1)) yq (zza 49 (.adr 8 2) (zzi ⟨200, [.int .i64 (v / Nt.p2i n), .int .i64 ((v / Nt.p2i n) + (v / Nt.p2i (n - 1) % 2)), .int .i64 ((v / Nt.p2i n) + 1)]⟩ ty3 ?_)))))
    refine zzb (sq9 (zza 50 (zI 1) (zza 51 (zI 0) (zza 52 (.adr 8 0) (zzh 53 (zI (v / Nt.p2i n)) ty3 zzk (zza 6 (zI (v / Nt.p2i n)) (zzb (zzn (ret0 [.int .i64 (v / Nt.p2i n)] ⟨zzp, trivial⟩ fun u22 e23 => ?_)))))))))
    show Value.int _ _ = Value.int _ _
    unfold Nt.shiftW
    rw [if_neg qhb17]
    rw [if_neg xw]
    rw [if_neg (by rintro ⟨h9, _⟩; exact absurd h9 xw)]
   ·replace hb21 : ((v % Nt.p2i n) != 0) = false := hb21
    have qhb21 := hb21
    simp at qhb21
    refine zzr (zzo ?_)
    refine sq9 (zza 50 (zI 1) (zza 51 (zI 0) (zza 52 (.adr 8 0) (zzh 53 (zI (v / Nt.p2i n)) ty3 zzk (zza 6 (zI (v / Nt.p2i n)) (zzb (zzn (ret0 [.int .i64 (v / Nt.p2i n)] ⟨zzp, trivial⟩ fun u24 e25 => ?_))))))))
    show Value.int _ _ = Value.int _ _
    unfold Nt.shiftW
    rw [if_neg qhb17]
    rw [if_neg xw]
    rw [if_neg (by rintro ⟨h9, _⟩; exact absurd h9 xw)]
  ·refine zyp 38 (x := zB (decide (v < 0))) (zB false) (by rw [hs20]) ?_
   have qhs20 := of_decide_eq_false hs20
   refine zzm 39 (uw 2 true false 38) (zzm 40 (uw 2 true false 38) (zzm 41 (uw 2 true false 38) (zzm 42 (uw 2 true false 38) (zzm 43 (uw 2 true false 38) (zzm 44 (uw 2 true false 38) (zza 45 (zB false) (zzc 54 [(2, zI 1), (8, .adr 8 0), (45, zB false)] [(8, ⟨200, [.int .i64 (v / Nt.p2i n), .int .i64 ((v / Nt.p2i n) + (v / Nt.p2i (n - 1) % 2)), .int .i64 (v / Nt.p2i n)]⟩)] (zyr xj (zzr (zzo ?_))))))))))
   refine sq9 (zza 50 (zI 1) (zza 51 (zI 0) (zza 52 (.adr 8 0) (zzh 53 (zI (v / Nt.p2i n)) ty3 zzk (zza 6 (zI (v / Nt.p2i n)) (zzb (zzn (ret0 [.int .i64 (v / Nt.p2i n)] ⟨zzp, trivial⟩ fun u26 e27 => ?_))))))))
   show Value.int _ _ = Value.int _ _
   unfold Nt.shiftW
   rw [if_neg qhb17]
   rw [if_neg xw]
   rw [if_neg (by rintro ⟨h9, _⟩; exact absurd h9 xw)]
theorem k_fxShift2 {u w : World} {v n : Int} (d : Dat u w) (hv0 : -1152921504606846976 ≤ v) (hv1 : v ≤ 1152921504606846976) (hn0 : 0 ≤ n) (hn1 : n ≤ 24) : Calls Tryz.prog 191 #[.int .i64 v, .int .i64 n, .int .i64 2] w (Post u w fun y _ => y = .int .i64 (Nt.shiftW v n 2)) := by
 have hp1 := Nt.zxo n
 have hp2 := Nt.p2i_24 (n := n) xq
 have hd1 := Nt.div_bd (v := v) hp1
 have hm1 := Int.emod_nonneg (v / Nt.p2i (n - 1)) (show (2 : Int) ≠ 0 by decide)
 have hm2 := Int.emod_lt_of_pos (v / Nt.p2i (n - 1)) (show (0 : Int) < 2 by decide)
 refine zzl (args := [.int .i64 v, .int .i64 n, .int .i64 2]) Tryz.func191 rfl Tryz.ntmps191 (rs := [.tmp 6]) Tryz.results191 (le_b rfl) (le_b rfl) d ?_
 refine sq9 (zza 6 (zI 0) (zzb (zzd (sq9 (zza 9 (zI n) (zza 10 (zB (decide (n < 0))) (zyp 11 (x := zB (decide (n < 0))) (zB false) (by rw [show (decide (n < 0)) = false from decide_eq_false xq]) (zza 12 (zI n) ?_ (hw := w1 2 false 11)))))))))
 refine zza 13 (zB (decide ((62 : Int) < n))) ?_ (hw := w1 2 false 11)
 refine zza 14 (zB (decide ((62 : Int) < n))) (zyp 15 (x := zB (decide ((62 : Int) < n))) (zB false) (by rw [show (decide ((62 : Int) < n)) = false from decide_eq_false xq]) (zza 16 (zI 2) ?_ (hw := w1 6 false 15)))
 refine zzg 17 238 [.int .i64 2] ?_ (hw := w1 6 false 15)
 intro w13 u13 e13 d13
 have k16 := k_mode (r := 2) d13 xq xq
 with_reducible refine zPm k16 ?_
 rintro _ u14 g15 rfl
 refine zza 18 (zB false) ?_ (hw := w1 6 false 15)
 refine zza 19 (zB false) (zzb (zyr xj (zzr (zzo ?_))))
 refine zzd (sq9 (zza 20 (zI n) (zza 21 (zB (n == 0)) (zzb (zzt (b := n == 0) xj (fun hb17 => ?_) (fun hb17 => ?_))))))
 ·replace hb17 : (n == 0) = true := hb17
  have qhb17 := hb17
  simp at qhb17
  refine sq9 (zza 22 (zI v) (zza 6 (zI v) (zzb (zzn (zzv (ret0 [.int .i64 v] ⟨zzp, trivial⟩ fun u18 e19 => ?_))))))
  show Value.int _ _ = Value.int _ _
  unfold Nt.shiftW
  rw [if_pos qhb17]
 ·replace hb17 : (n == 0) = false := hb17
  have qhb17 := hb17
  simp at qhb17
  refine zzr (zzo ?_)
  refine sq9 (zza 23 (zI v) (zza 24 (zI n) (sy_shr 25 (k := .i64) (n := v) (s := n) (v / Nt.p2i n) xq yw rfl ?_)))
  refine zza 7 (zI (v / Nt.p2i n)) (zzb (sq9 (zza 26 (zI (v / Nt.p2i n)) (zza 27 (zI (v / Nt.p2i n)) (zza 28 (zI v) (zza 29 (zI n) (zyp 30 (x := zI (IntKind.i64.wrap (n - 1))) (zI (n - 1)) yq (sy_shr 31 (k := .i64) (n := v) (s := n - 1) (v / Nt.p2i (n - 1)) xq yw rfl ?_))))))))
  refine zyp 32 (x := zI (bits .and .i64 (v / Nt.p2i (n - 1)) 1)) (zI (v / Nt.p2i (n - 1) % 2)) (eqI (Nt.bits_1 _)) (zyp 33 (x := zI (IntKind.i64.wrap ((v / Nt.p2i n) + (v / Nt.p2i (n - 1) % 2)))) (zI ((v / Nt.p2i n) + (v / Nt.p2i (n - 1) % 2))) yq (zza 34 (zI (v / Nt.p2i n)) (zza 35 (.v (.agg #[.int .i64 (v / Nt.p2i n), .int .i64 ((v / Nt.p2i n) + (v / Nt.p2i (n - 1) % 2)), .int .i64 (v / Nt.p2i n)])) (zzj 8 ⟨200, [.int .i64 0, .int .i64 0, .int .i64 0]⟩ (zzi ⟨200, [.int .i64 (v / Nt.p2i n), .int .i64 ((v / Nt.p2i n) + (v / Nt.p2i (n - 1) % 2)), .int .i64 (v / Nt.p2i n)]⟩ ty200 ?_)))))
  refine zzb (zzd (sq9 (zza 36 (zI v) (zza 37 (zB (decide (v < 0))) ?_))))
  rcases Bool.eq_false_or_eq_true (decide (v < 0)) with hs20 | hs20
  ·refine zyp 38 (x := zB (decide (v < 0))) (zB true) (by rw [hs20]) ?_
   have qhs20 := of_decide_eq_true hs20
   refine zza 39 (zI v) ?_ (hw := w1 2 true 38)
   refine zza 40 (zI n) ?_ (hw := w1 2 true 38)
   refine sy_shl 41 (k := .i64) (s := n) (Nt.p2i n) xq yw (shl_one xq xq) ?_ (hw := w1 2 true 38)
   refine zyp 42 (x := zI (IntKind.i64.wrap ((Nt.p2i n) - 1))) (zI ((Nt.p2i n) - 1)) yq ?_ (hw := w1 2 true 38)
   refine zyp 43 (x := zI (bits .and .i64 v (Nt.p2i n - 1))) (zI (v % Nt.p2i n)) (eqI (Nt.bits_p2 xq xq)) ?_ (hw := w1 2 true 38)
   refine zza 44 (zB ((v % Nt.p2i n) != 0)) ?_ (hw := w1 2 true 38)
   refine zza 45 (zB ((v % Nt.p2i n) != 0)) (zzc 54 [(2, zI 2), (8, .adr 8 0), (45, zB ((v % Nt.p2i n) != 0))] [(8, ⟨200, [.int .i64 (v / Nt.p2i n), .int .i64 ((v / Nt.p2i n) + (v / Nt.p2i (n - 1) % 2)), .int .i64 (v / Nt.p2i n)]⟩)] (zzt (b := (v % Nt.p2i n) != 0) xj (fun hb21 => ?_) (fun hb21 => ?_)))
   ·replace hb21 : ((v % Nt.p2i n) != 0) = true := hb21
    have qhb21 := hb21
    simp at qhb21
    refine zzf (zza 46 (.adr 8 2) (zzh 47 (zI (v / Nt.p2i n)) ty3 zzk (zyp 48 (x := zI (IntKind.i64.wrap ((v / Nt.p2i n) + 1))) (zI ((v / Nt.p2i n) + 1)) yq (zza 49 (.adr 8 2) (zzi ⟨200, [.int .i64 (v / Nt.p2i n), .int .i64 ((v / Nt.p2i n) + (v / Nt.p2i (n - 1) % 2)), .int .i64 ((v / Nt.p2i n) + 1)]⟩ ty3 ?_)))))
    refine zzb (sq9 (zza 50 (zI 2) (zza 51 (zI 1) (zza 52 (.adr 8 1) (zzh 53 (zI ((v / Nt.p2i n) + (v / Nt.p2i (n - 1) % 2))) ty3 zzk (zza 6 (zI ((v / Nt.p2i n) + (v / Nt.p2i (n - 1) % 2))) (zzb (zzn (ret0 [.int .i64 ((v / Nt.p2i n) + (v / Nt.p2i (n - 1) % 2))] ⟨zzp, trivial⟩ fun u22 e23 => ?_)))))))))
    show Value.int _ _ = Value.int _ _
    unfold Nt.shiftW
    rw [if_neg qhb17]
    rw [if_pos rfl]
   ·replace hb21 : ((v % Nt.p2i n) != 0) = false := hb21
    have qhb21 := hb21
    simp at qhb21
    refine zzr (zzo ?_)
    refine sq9 (zza 50 (zI 2) (zza 51 (zI 1) (zza 52 (.adr 8 1) (zzh 53 (zI ((v / Nt.p2i n) + (v / Nt.p2i (n - 1) % 2))) ty3 zzk (zza 6 (zI ((v / Nt.p2i n) + (v / Nt.p2i (n - 1) % 2))) (zzb (zzn (ret0 [.int .i64 ((v / Nt.p2i n) + (v / Nt.p2i (n - 1) % 2))] ⟨zzp, trivial⟩ fun u24 e25 => ?_))))))))
    show Value.int _ _ = Value.int _ _
    unfold Nt.shiftW
    rw [if_neg qhb17]
    rw [if_pos rfl]
  ·refine zyp 38 (x := zB (decide (v < 0))) (zB false) (by rw [hs20]) ?_
   have qhs20 := of_decide_eq_false hs20
   refine zzm 39 (uw 2 true false 38) (zzm 40 (uw 2 true false 38) (zzm 41 (uw 2 true false 38) (zzm 42 (uw 2 true false 38) (zzm 43 (uw 2 true false 38) (zzm 44 (uw 2 true false 38) (zza 45 (zB false) (zzc 54 [(2, zI 2), (8, .adr 8 0), (45, zB false)] [(8, ⟨200, [.int .i64 (v / Nt.p2i n), .int .i64 ((v / Nt.p2i n) + (v / Nt.p2i (n - 1) % 2)), .int .i64 (v / Nt.p2i n)]⟩)] (zyr xj (zzr (zzo ?_))))))))))
   refine sq9 (zza 50 (zI 2) (zza 51 (zI 1) (zza 52 (.adr 8 1) (zzh 53 (zI ((v / Nt.p2i n) + (v / Nt.p2i (n - 1) % 2))) ty3 zzk (zza 6 (zI ((v / Nt.p2i n) + (v / Nt.p2i (n - 1) % 2))) (zzb (zzn (ret0 [.int .i64 ((v / Nt.p2i n) + (v / Nt.p2i (n - 1) % 2))] ⟨zzp, trivial⟩ fun u26 e27 => ?_))))))))
   show Value.int _ _ = Value.int _ _
   unfold Nt.shiftW
   rw [if_neg qhb17]
   rw [if_pos rfl]
theorem k_fxShift3 {u w : World} {v n : Int} (d : Dat u w) (hv0 : -1152921504606846976 ≤ v) (hv1 : v ≤ 1152921504606846976) (hn0 : 0 ≤ n) (hn1 : n ≤ 24) : Calls Tryz.prog 191 #[.int .i64 v, .int .i64 n, .int .i64 3] w (Post u w fun y _ => y = .int .i64 (Nt.shiftW v n 3)) := by
 have hp1 := Nt.zxo n
 have hp2 := Nt.p2i_24 (n := n) xq
 have hd1 := Nt.div_bd (v := v) hp1
 have hm1 := Int.emod_nonneg (v / Nt.p2i (n - 1)) (show (2 : Int) ≠ 0 by decide)
 have hm2 := Int.emod_lt_of_pos (v / Nt.p2i (n - 1)) (show (0 : Int) < 2 by decide)
 refine zzl (args := [.int .i64 v, .int .i64 n, .int .i64 3]) Tryz.func191 rfl Tryz.ntmps191 (rs := [.tmp 6]) Tryz.results191 (le_b rfl) (le_b rfl) d ?_
 refine sq9 (zza 6 (zI 0) (zzb (zzd (sq9 (zza 9 (zI n) (zza 10 (zB (decide (n < 0))) (zyp 11 (x := zB (decide (n < 0))) (zB false) (by rw [show (decide (n < 0)) = false from decide_eq_false xq]) (zza 12 (zI n) ?_ (hw := w1 2 false 11)))))))))
 refine zza 13 (zB (decide ((62 : Int) < n))) ?_ (hw := w1 2 false 11)
 refine zza 14 (zB (decide ((62 : Int) < n))) (zyp 15 (x := zB (decide ((62 : Int) < n))) (zB false) (by rw [show (decide ((62 : Int) < n)) = false from decide_eq_false xq]) (zza 16 (zI 3) ?_ (hw := w1 6 false 15)))
 refine zzg 17 238 [.int .i64 3] ?_ (hw := w1 6 false 15)
 intro w13 u13 e13 d13
 have k16 := k_mode (r := 3) d13 xq xq
 with_reducible refine zPm k16 ?_
 rintro _ u14 g15 rfl
 refine zza 18 (zB false) ?_ (hw := w1 6 false 15)
 refine zza 19 (zB false) (zzb (zyr xj (zzr (zzo ?_))))
 refine zzd (sq9 (zza 20 (zI n) (zza 21 (zB (n == 0)) (zzb (zzt (b := n == 0) xj (fun hb17 => ?_) (fun hb17 => ?_))))))
 ·replace hb17 : (n == 0) = true := hb17
  have qhb17 := hb17
  simp at qhb17
  refine sq9 (zza 22 (zI v) (zza 6 (zI v) (zzb (zzn (zzv (ret0 [.int .i64 v] ⟨zzp, trivial⟩ fun u18 e19 => ?_))))))
  show Value.int _ _ = Value.int _ _
  unfold Nt.shiftW
  rw [if_pos qhb17]
 ·replace hb17 : (n == 0) = false := hb17
  have qhb17 := hb17
  simp at qhb17
  refine zzr (zzo ?_)
  refine sq9 (zza 23 (zI v) (zza 24 (zI n) (sy_shr 25 (k := .i64) (n := v) (s := n) (v / Nt.p2i n) xq yw rfl ?_)))
  refine zza 7 (zI (v / Nt.p2i n)) (zzb (sq9 (zza 26 (zI (v / Nt.p2i n)) (zza 27 (zI (v / Nt.p2i n)) (zza 28 (zI v) (zza 29 (zI n) (zyp 30 (x := zI (IntKind.i64.wrap (n - 1))) (zI (n - 1)) yq (sy_shr 31 (k := .i64) (n := v) (s := n - 1) (v / Nt.p2i (n - 1)) xq yw rfl ?_))))))))
  refine zyp 32 (x := zI (bits .and .i64 (v / Nt.p2i (n - 1)) 1)) (zI (v / Nt.p2i (n - 1) % 2)) (eqI (Nt.bits_1 _)) (zyp 33 (x := zI (IntKind.i64.wrap ((v / Nt.p2i n) + (v / Nt.p2i (n - 1) % 2)))) (zI ((v / Nt.p2i n) + (v / Nt.p2i (n - 1) % 2))) yq (zza 34 (zI (v / Nt.p2i n)) (zza 35 (.v (.agg #[.int .i64 (v / Nt.p2i n), .int .i64 ((v / Nt.p2i n) + (v / Nt.p2i (n - 1) % 2)), .int .i64 (v / Nt.p2i n)])) (zzj 8 ⟨200, [.int .i64 0, .int .i64 0, .int .i64 0]⟩ (zzi ⟨200, [.int .i64 (v / Nt.p2i n), .int .i64 ((v / Nt.p2i n) + (v / Nt.p2i (n - 1) % 2)), .int .i64 (v / Nt.p2i n)]⟩ ty200 ?_)))))
  refine zzb (zzd (sq9 (zza 36 (zI v) (zza 37 (zB (decide (v < 0))) ?_))))
  rcases Bool.eq_false_or_eq_true (decide (v < 0)) with hs20 | hs20
  ·refine zyp 38 (x := zB (decide (v < 0))) (zB true) (by rw [hs20]) ?_
   have qhs20 := of_decide_eq_true hs20
   refine zza 39 (zI v) ?_ (hw := w1 2 true 38)
   refine zza 40 (zI n) ?_ (hw := w1 2 true 38)
   refine sy_shl 41 (k := .i64) (s := n) (Nt.p2i n) xq yw (shl_one xq xq) ?_ (hw := w1 2 true 38)
   refine zyp 42 (x := zI (IntKind.i64.wrap ((Nt.p2i n) - 1))) (zI ((Nt.p2i n) - 1)) yq ?_ (hw := w1 2 true 38)
   refine zyp 43 (x := zI (bits .and .i64 v (Nt.p2i n - 1))) (zI (v % Nt.p2i n)) (eqI (Nt.bits_p2 xq xq)) ?_ (hw := w1 2 true 38)
   refine zza 44 (zB ((v % Nt.p2i n) != 0)) ?_ (hw := w1 2 true 38)
   refine zza 45 (zB ((v % Nt.p2i n) != 0)) (zzc 54 [(2, zI 3), (8, .adr 8 0), (45, zB ((v % Nt.p2i n) != 0))] [(8, ⟨200, [.int .i64 (v / Nt.p2i n), .int .i64 ((v / Nt.p2i n) + (v / Nt.p2i (n - 1) % 2)), .int .i64 (v / Nt.p2i n)]⟩)] (zzt (b := (v % Nt.p2i n) != 0) xj (fun hb21 => ?_) (fun hb21 => ?_)))
   ·replace hb21 : ((v % Nt.p2i n) != 0) = true := hb21
    have qhb21 := hb21
    simp at qhb21
    refine zzf (zza 46 (.adr 8 2) (zzh 47 (zI (v / Nt.p2i n)) ty3 zzk (zyp 48 (x := zI (IntKind.i64.wrap ((v / Nt.p2i n) + 1))) (zI ((v / Nt.p2i n) + 1)) yq (zza 49 (.adr 8 2) (zzi ⟨200, [.int .i64 (v / Nt.p2i n), .int .i64 ((v / Nt.p2i n) + (v / Nt.p2i (n - 1) % 2)), .int .i64 ((v / Nt.p2i n) + 1)]⟩ ty3 ?_)))))
    refine zzb (sq9 (zza 50 (zI 3) (zza 51 (zI 2) (zza 52 (.adr 8 2) (zzh 53 (zI ((v / Nt.p2i n) + 1)) ty3 zzk (zza 6 (zI ((v / Nt.p2i n) + 1)) (zzb (zzn (ret0 [.int .i64 ((v / Nt.p2i n) + 1)] ⟨zzp, trivial⟩ fun u22 e23 => ?_)))))))))
    show Value.int _ _ = Value.int _ _
    unfold Nt.shiftW
    rw [if_neg qhb17]
    rw [if_neg xw]
    rw [if_pos ⟨rfl, qhs20, qhb21⟩]
   ·replace hb21 : ((v % Nt.p2i n) != 0) = false := hb21
    have qhb21 := hb21
    simp at qhb21
    refine zzr (zzo ?_)
    refine sq9 (zza 50 (zI 3) (zza 51 (zI 2) (zza 52 (.adr 8 2) (zzh 53 (zI (v / Nt.p2i n)) ty3 zzk (zza 6 (zI (v / Nt.p2i n)) (zzb (zzn (ret0 [.int .i64 (v / Nt.p2i n)] ⟨zzp, trivial⟩ fun u24 e25 => ?_))))))))
    show Value.int _ _ = Value.int _ _
    unfold Nt.shiftW
    rw [if_neg qhb17]
    rw [if_neg xw]
    rw [if_neg (by rintro ⟨_, _, h9⟩; exact h9 qhb21)]
  ·refine zyp 38 (x := zB (decide (v < 0))) (zB false) (by rw [hs20]) ?_
   have qhs20 := of_decide_eq_false hs20
   refine zzm 39 (uw 2 true false 38) (zzm 40 (uw 2 true false 38) (zzm 41 (uw 2 true false 38) (zzm 42 (uw 2 true false 38) (zzm 43 (uw 2 true false 38) (zzm 44 (uw 2 true false 38) (zza 45 (zB false) (zzc 54 [(2, zI 3), (8, .adr 8 0), (45, zB false)] [(8, ⟨200, [.int .i64 (v / Nt.p2i n), .int .i64 ((v / Nt.p2i n) + (v / Nt.p2i (n - 1) % 2)), .int .i64 (v / Nt.p2i n)]⟩)] (zyr xj (zzr (zzo ?_))))))))))
   refine sq9 (zza 50 (zI 3) (zza 51 (zI 2) (zza 52 (.adr 8 2) (zzh 53 (zI (v / Nt.p2i n)) ty3 zzk (zza 6 (zI (v / Nt.p2i n)) (zzb (zzn (ret0 [.int .i64 (v / Nt.p2i n)] ⟨zzp, trivial⟩ fun u26 e27 => ?_))))))))
   show Value.int _ _ = Value.int _ _
   unfold Nt.shiftW
   rw [if_neg qhb17]
   rw [if_neg xw]
   rw [if_neg (by rintro ⟨_, h9, _⟩; exact absurd h9 xq)]
theorem k_fxShift {u w : World} {v n r : Int} (d : Dat u w) (hv0 : -1152921504606846976 ≤ v) (hv1 : v ≤ 1152921504606846976) (hn0 : 0 ≤ n) (hn1 : n ≤ 24) (hr : 1 ≤ r ∧ r ≤ 3) : Calls Tryz.prog 191 #[.int .i64 v, .int .i64 n, .int .i64 r] w (Post u w fun y _ => y = .int .i64 (Nt.shiftW v n r)) := by
 obtain rfl | rfl | rfl : r = 1 ∨ r = 2 ∨ r = 3 := by omega
 ·exact k_fxShift1 d hv0 hv1 hn0 hn1
 ·exact k_fxShift2 d hv0 hv1 hn0 hn1
 ·exact k_fxShift3 d hv0 hv1 hn0 hn1
theorem k_fxWrap {u w : World} {b v : Int} (d : Dat u w) (hb0 : 1 ≤ b) (hb1 : b ≤ 62) : Calls Tryz.prog 190 #[.int .i64 b, .int .i64 v] w (Post u w fun y _ => y = .int .i64 (Nt.wrapW b v)) := by
 have hp1 := Nt.zxo b
 have hp2 : Nt.p2i b ≤ 4611686018427387904 := Nt.zwd (b := 62) xq
 have hp3 := Nt.zxo (b - 1)
 have hp4 : Nt.p2i (b - 1) ≤ Nt.p2i b := Nt.zwd xq
 have hm1 := Int.emod_nonneg v (show Nt.p2i b ≠ 0 by omega)
 have hm2 := Int.emod_lt_of_pos v hp1
 refine zzl (args := [.int .i64 b, .int .i64 v]) Tryz.func190 rfl Tryz.ntmps190 (rs := [.tmp 4]) Tryz.results190 (le_b rfl) (le_b rfl) d ?_
 refine sq9 (zza 4 (zI 0) (zzb (zzd (sq9 (zza 6 (zI b) (zza 7 (zB (decide (b < 1))) (zyp 8 (x := zB (decide (b < 1))) (zB false) (by rw [show (decide (b < 1)) = false from decide_eq_false xq]) (zza 9 (zI b) ?_ (hw := w1 2 false 8)))))))))
 refine zza 10 (zB (decide ((62 : Int) < b))) ?_ (hw := w1 2 false 8)
 refine zza 11 (zB (decide ((62 : Int) < b))) (zzb (zzt (b := decide ((62 : Int) < b)) xj (fun hb => ?_) (fun hb => ?_)))
 ·exact absurd hb (by rw [show (decide ((62 : Int) < b)) = false from decide_eq_false xq]; decide)
 ·clear hb
  refine zzr (zzo ?_)
  refine sq9 (zza 12 (zI v) (zza 13 (zI b) (sy_shl 14 (k := .i64) (s := b) (Nt.p2i b) xq yw (Nt.shl_one9 xq xq) ?_)))
  refine zyp 15 (x := zI (IntKind.i64.wrap ((Nt.p2i b) - 1))) (zI ((Nt.p2i b) - 1)) yq (zyp 16 (x := zI (bits .and .i64 v (Nt.p2i b - 1))) (zI (v % Nt.p2i b)) (eqI (Nt.bits_p2 xq xq)) (zza 5 (zI (v % Nt.p2i b)) (zzb (zzd (sq9 (zza 17 (zI (v % Nt.p2i b)) (zza 18 (zI b) (zyp 19 (x := zI (IntKind.i64.wrap (b - 1))) (zI (b - 1)) yq (sy_shl 20 (k := .i64) (s := b - 1) (Nt.p2i (b - 1)) xq yw (Nt.shl_one9 xq xq) ?_)))))))))
  refine zza 21 (zB (decide ((Nt.p2i (b - 1)) ≤ (v % Nt.p2i b)))) (zzb (zzt (b := decide ((Nt.p2i (b - 1)) ≤ (v % Nt.p2i b))) xj (fun hb12 => ?_) (fun hb12 => ?_)))
  ·replace hb12 : (decide ((Nt.p2i (b - 1)) ≤ (v % Nt.p2i b))) = true := hb12
   have qhb12 := of_decide_eq_true hb12
   refine zzf (zza 22 (zI (v % Nt.p2i b)) (zza 23 (zI b) (sy_shl 24 (k := .i64) (s := b) (Nt.p2i b) xq yw (Nt.shl_one9 xq xq) ?_)))
   refine zyp 25 (x := zI (IntKind.i64.wrap ((v % Nt.p2i b) - (Nt.p2i b)))) (zI ((v % Nt.p2i b) - (Nt.p2i b))) yq (zza 5 (zI ((v % Nt.p2i b) - (Nt.p2i b))) (zzb (sq9 (zza 26 (zI ((v % Nt.p2i b) - (Nt.p2i b))) (zza 4 (zI ((v % Nt.p2i b) - (Nt.p2i b))) (zzb (zzn (ret0 [.int .i64 ((v % Nt.p2i b) - (Nt.p2i b))] ⟨zzp, trivial⟩ fun u13 e14 => ?_))))))))
   show Value.int _ _ = Value.int _ _
   unfold Nt.wrapW
   rw [if_pos xq]
  ·replace hb12 : (decide ((Nt.p2i (b - 1)) ≤ (v % Nt.p2i b))) = false := hb12
   have qhb12 := of_decide_eq_false hb12
   refine zzr (zzo ?_)
   refine sq9 (zza 26 (zI (v % Nt.p2i b)) (zza 4 (zI (v % Nt.p2i b)) (zzb (zzn (ret0 [.int .i64 (v % Nt.p2i b)] ⟨zzp, trivial⟩ fun u15 e16 => ?_)))))
   show Value.int _ _ = Value.int _ _
   unfold Nt.wrapW
   rw [if_neg xq]
theorem k_formed {u w : World} {t f cf sh n : Int} (d : Dat u w) : Calls Tryz.prog 132 #[.agg #[.int .i64 t, .int .i64 f, .int .i64 cf, .int .i64 sh], .int .i64 n] w (Post u w fun v _ => v = .bool (decide (Nt.shOK n [t, f, cf, sh]))) := by
 refine zzl (args := [.agg #[.int .i64 t, .int .i64 f, .int .i64 cf, .int .i64 sh], .int .i64 n]) Tryz.func132 rfl Tryz.ntmps132 (rs := [.tmp 4]) Tryz.results132 (le_b rfl) (le_b rfl) d ?_
 refine sq9 (zzj 2 ⟨90, [.int .i64 t, .int .i64 f, .int .i64 cf, .int .i64 sh]⟩ (zza 4 (zB false) (zzb (zzd (sq9 (zza 5 (.adr 2 0) (zzh 6 (zI t) ty3 zzk (zza 7 (zB (decide (t < 0))) ?_))))))))
 rcases Bool.eq_false_or_eq_true (decide (t < 0)) with hs11 | hs11
 ·refine zyp 8 (x := zB (decide (t < 0))) (zB true) (by rw [hs11]) ?_
  have qhs11 := of_decide_eq_true hs11
  refine zzm 9 (uw 3 false true 8) (zzm 10 (uw 3 false true 8) (zzm 11 (uw 3 false true 8) (zzm 12 (uw 3 false true 8) (zza 13 (zB true) (zza 14 (zB true) (zzm 15 (uw 9 false true 14) (zzm 16 (uw 9 false true 14) (zzm 17 (uw 9 false true 14) (zza 18 (zB true) (zza 19 (zB true) (zzm 20 (uw 14 false true 19) ?_)))))))))))
  refine zzm 21 (uw 14 false true 19) (zzm 22 (uw 14 false true 19) (zzm 23 (uw 14 false true 19) (zza 24 (zB true) (zzb (zyq xj (sq9 (zza 4 (zB false) (zzb (zzn (zzv (ret0 [.bool false] ⟨zzp, trivial⟩ fun u12 e13 => ?_)))))))))))
  show Value.bool _ = Value.bool _
  congr 1
  have h9hs11 := hs11
  simp at h9hs11
  rw [Bool.eq_iff_iff]
  simp [Nt.shOK]
  omega
 ·refine zyp 8 (x := zB (decide (t < 0))) (zB false) (by rw [hs11]) ?_
  have qhs11 := of_decide_eq_false hs11
  refine zza 9 (.adr 2 0) ?_ (hw := w1 3 false 8)
  refine zzh 10 (zI t) ty3 zzk ?_ (hw := w1 3 false 8)
  refine zza 11 (zI n) ?_ (hw := w1 3 false 8)
  refine zza 12 (zB (decide (n ≤ t))) ?_ (hw := w1 3 false 8)
  refine zza 13 (zB (decide (n ≤ t))) ?_
  rcases Bool.eq_false_or_eq_true (decide (n ≤ t)) with hs14 | hs14
  ·refine zyp 14 (x := zB (decide (n ≤ t))) (zB true) (by rw [hs14]) ?_
   have qhs14 := of_decide_eq_true hs14
   refine zzm 15 (uw 9 false true 14) (zzm 16 (uw 9 false true 14) (zzm 17 (uw 9 false true 14) (zza 18 (zB true) (zza 19 (zB true) (zzm 20 (uw 14 false true 19) (zzm 21 (uw 14 false true 19) (zzm 22 (uw 14 false true 19) (zzm 23 (uw 14 false true 19) (zza 24 (zB true) (zzb (zyq xj ?_)))))))))))
   refine sq9 (zza 4 (zB false) (zzb (zzn (zzv (ret0 [.bool false] ⟨zzp, trivial⟩ fun u15 e16 => ?_)))))
   show Value.bool _ = Value.bool _
   congr 1
   have h9hs11 := hs11
   simp at h9hs11
   have h9hs14 := hs14
   simp at h9hs14
   rw [Bool.eq_iff_iff]
   simp [Nt.shOK]
   omega
  ·refine zyp 14 (x := zB (decide (n ≤ t))) (zB false) (by rw [hs14]) ?_
   have qhs14 := of_decide_eq_false hs14
   refine zza 15 (.adr 2 1) ?_ (hw := w1 9 false 14)
   refine zzh 16 (zI f) ty3 zzk ?_ (hw := w1 9 false 14)
   refine zza 17 (zB (decide (f < 0))) ?_ (hw := w1 9 false 14)
   refine zza 18 (zB (decide (f < 0))) ?_
   rcases Bool.eq_false_or_eq_true (decide (f < 0)) with hs17 | hs17
   ·refine zyp 19 (x := zB (decide (f < 0))) (zB true) (by rw [hs17]) ?_
    have qhs17 := of_decide_eq_true hs17
    refine zzm 20 (uw 14 false true 19) (zzm 21 (uw 14 false true 19) (zzm 22 (uw 14 false true 19) (zzm 23 (uw 14 false true 19) (zza 24 (zB true) (zzb (zyq xj (sq9 (zza 4 (zB false) (zzb (zzn (zzv (ret0 [.bool false] ⟨zzp, trivial⟩ fun u18 e19 => ?_))))))))))))
    show Value.bool _ = Value.bool _
    congr 1
    have h9hs11 := hs11
    simp at h9hs11
    have h9hs14 := hs14
    simp at h9hs14
    have h9hs17 := hs17
    simp at h9hs17
    rw [Bool.eq_iff_iff]
    simp [Nt.shOK]
    omega
   ·refine zyp 19 (x := zB (decide (f < 0))) (zB false) (by rw [hs17]) ?_
    have qhs17 := of_decide_eq_false hs17
    refine zza 20 (.adr 2 1) ?_ (hw := w1 14 false 19)
    refine zzh 21 (zI f) ty3 zzk ?_ (hw := w1 14 false 19)
    refine zza 22 (zI n) ?_ (hw := w1 14 false 19)
    refine zza 23 (zB (decide (n ≤ f))) ?_ (hw := w1 14 false 19)
    refine zza 24 (zB (decide (n ≤ f))) (zzb (zzt (b := decide (n ≤ f)) xj (fun hb20 => ?_) (fun hb20 => ?_)))
    ·replace hb20 : (decide (n ≤ f)) = true := hb20
     have qhb20 := of_decide_eq_true hb20
     refine sq9 (zza 4 (zB false) (zzb (zzn (zzv (ret0 [.bool false] ⟨zzp, trivial⟩ fun u21 e22 => ?_)))))
     show Value.bool _ = Value.bool _
     congr 1
     have h9hs11 := hs11
     simp at h9hs11
     have h9hs14 := hs14
     simp at h9hs14
     have h9hs17 := hs17
     simp at h9hs17
     have h9hb20 := hb20
     simp at h9hb20
     rw [Bool.eq_iff_iff]
     simp [Nt.shOK]
     omega
    ·replace hb20 : (decide (n ≤ f)) = false := hb20
     have qhb20 := of_decide_eq_false hb20
     refine zzr (zzo ?_)
     refine zzd (sq9 (zza 25 (.adr 2 3) (zzh 26 (zI sh) ty3 zzk (zza 27 (zB (decide (sh < (-2)))) ?_))))
     rcases Bool.eq_false_or_eq_true (decide (sh < (-2))) with hs23 | hs23
     ·refine zyp 28 (x := zB (decide (sh < (-2)))) (zB true) (by rw [hs23]) ?_
      have qhs23 := of_decide_eq_true hs23
      refine zzm 29 (uw 3 false true 28) (zzm 30 (uw 3 false true 28) (zzm 31 (uw 3 false true 28) (zza 32 (zB true) (zzb (zyq xj (sq9 (zza 4 (zB false) (zzc 56 [(4, zB false)] [] (zzn (zzv (ret0 [.bool false] ⟨zzp, trivial⟩ fun u24 e25 => ?_)))))))))))
      show Value.bool _ = Value.bool _
      congr 1
      have h9hs11 := hs11
      simp at h9hs11
      have h9hs14 := hs14
      simp at h9hs14
      have h9hs17 := hs17
      simp at h9hs17
      have h9hb20 := hb20
      simp at h9hb20
      have h9hs23 := hs23
      simp at h9hs23
      rw [Bool.eq_iff_iff]
      simp [Nt.shOK]
      omega
     ·refine zyp 28 (x := zB (decide (sh < (-2)))) (zB false) (by rw [hs23]) ?_
      have qhs23 := of_decide_eq_false hs23
      refine zza 29 (.adr 2 3) ?_ (hw := w1 3 false 28)
      refine zzh 30 (zI sh) ty3 zzk ?_ (hw := w1 3 false 28)
      refine zza 31 (zB (decide ((20 : Int) < sh))) ?_ (hw := w1 3 false 28)
      refine zza 32 (zB (decide ((20 : Int) < sh))) (zzb (zzt (b := decide ((20 : Int) < sh)) xj (fun hb26 => ?_) (fun hb26 => ?_)))
      ·replace hb26 : (decide ((20 : Int) < sh)) = true := hb26
       have qhb26 := of_decide_eq_true hb26
       refine sq9 (zza 4 (zB false) (zzc 56 [(4, zB false)] [] (zzn (zzv (ret0 [.bool false] ⟨zzp, trivial⟩ fun u27 e28 => ?_)))))
       show Value.bool _ = Value.bool _
       congr 1
       have h9hs11 := hs11
       simp at h9hs11
       have h9hs14 := hs14
       simp at h9hs14
       have h9hs17 := hs17
       simp at h9hs17
       have h9hb20 := hb20
       simp at h9hb20
       have h9hs23 := hs23
       simp at h9hs23
       have h9hb26 := hb26
       simp at h9hb26
       rw [Bool.eq_iff_iff]
       simp [Nt.shOK]
       omega
      ·replace hb26 : (decide ((20 : Int) < sh)) = false := hb26
       have qhb26 := of_decide_eq_false hb26
       refine zzr (zzo ?_)
       refine zzd (sq9 (zza 33 (.adr 2 0) (zzh 34 (zI t) ty3 zzk (zza 35 (.adr 2 1) (zzh 36 (zI f) ty3 zzk (zza 37 (zB (t == f)) (zza 38 (.adr 2 3) (zzh 39 (zI sh) ty3 zzk (zza 40 (zB (sh == (-2))) (zza 41 (zB (!((t == f) == (sh == (-2))))) (zzc 56 [(2, .adr 2 0), (41, zB (!((t == f) == (sh == (-2)))))] [(2, ⟨90, [.int .i64 t, .int .i64 f, .int .i64 cf, .int .i64 sh]⟩)] ?_)))))))))))
       refine zzt (b := !((t == f) == (sh == (-2)))) xj (fun hb29 => ?_) (fun hb29 => ?_)
       ·replace hb29 : (!((t == f) == (sh == (-2)))) = true := hb29
        refine sq9 (zza 4 (zB false) (zzb (zzn (zzv (ret0 [.bool false] ⟨zzp, trivial⟩ fun u30 e31 => ?_)))))
        show Value.bool _ = Value.bool _
        congr 1
        have h9hs11 := hs11
        simp at h9hs11
        have h9hs14 := hs14
        simp at h9hs14
        have h9hs17 := hs17
        simp at h9hs17
        have h9hb20 := hb20
        simp at h9hb20
        have h9hs23 := hs23
        simp at h9hs23
        have h9hb26 := hb26
        simp at h9hb26
        have h9hb29 := hb29
        rw [Nt.ne_pair] at h9hb29
        replace h9hb29 := of_decide_eq_true h9hb29
        rw [Bool.eq_iff_iff]
        simp [Nt.shOK]
        omega
       ·replace hb29 : (!((t == f) == (sh == (-2)))) = false := hb29
        refine zzr (zzo ?_)
        refine zzd (sq9 (zza 42 (.adr 2 3) (zzh 43 (zI sh) ty3 zzk (zza 44 (zB (decide (sh < 0))) (zzb (zzt (b := decide (sh < 0)) xj (fun hb32 => ?_) (fun hb32 => ?_)))))))
        ·replace hb32 : (decide (sh < 0)) = true := hb32
         have qhb32 := of_decide_eq_true hb32
         refine sq9 (zza 45 (.adr 2 2) (zzh 46 (zI cf) ty3 zzk (zza 47 (zB (cf == 0)) (zza 4 (zB (cf == 0)) (zzb (zzn (zzv (ret0 [.bool (cf == 0)] ⟨zzp, trivial⟩ fun u33 e34 => ?_))))))))
         show Value.bool _ = Value.bool _
         congr 1
         have h9hs11 := hs11
         simp at h9hs11
         have h9hs14 := hs14
         simp at h9hs14
         have h9hs17 := hs17
         simp at h9hs17
         have h9hb20 := hb20
         simp at h9hb20
         have h9hs23 := hs23
         simp at h9hs23
         have h9hb26 := hb26
         simp at h9hb26
         have h9hb29 := hb29
         rw [Nt.ne_pair] at h9hb29
         replace h9hb29 := of_decide_eq_false h9hb29
         have h9hb32 := hb32
         simp at h9hb32
         rw [Bool.eq_iff_iff]
         simp [Nt.shOK]
         omega
        ·replace hb32 : (decide (sh < 0)) = false := hb32
         have qhb32 := of_decide_eq_false hb32
         refine zzr (zzo ?_)
         refine sq9 (zza 48 (.adr 2 2) (zzh 49 (zI cf) ty3 zzk (zza 50 (zB (decide (((-2097152) : Int) ≤ cf))) ?_)))
         rcases Bool.eq_false_or_eq_true (decide (((-2097152) : Int) ≤ cf)) with hs35 | hs35
         ·refine zyp 51 (x := zB (decide (((-2097152) : Int) ≤ cf))) (zB true) (by rw [hs35]) ?_
          have qhs35 := of_decide_eq_true hs35
          refine zza 52 (.adr 2 2) ?_ (hw := w1 3 true 51)
          refine zzh 53 (zI cf) ty3 zzk ?_ (hw := w1 3 true 51)
          refine zza 54 (zB (decide (cf ≤ 2097152))) ?_ (hw := w1 3 true 51)
          refine zza 55 (zB (decide (cf ≤ 2097152))) (zza 4 (zB (decide (cf ≤ 2097152))) (zzb (zzn (ret0 [.bool (decide (cf ≤ 2097152))] ⟨zzp, trivial⟩ fun u36 e37 => ?_))))
          show Value.bool _ = Value.bool _
          congr 1
          have h9hs11 := hs11
          simp at h9hs11
          have h9hs14 := hs14
          simp at h9hs14
          have h9hs17 := hs17
          simp at h9hs17
          have h9hb20 := hb20
          simp at h9hb20
          have h9hs23 := hs23
          simp at h9hs23
          have h9hb26 := hb26
          simp at h9hb26
          have h9hb29 := hb29
          rw [Nt.ne_pair] at h9hb29
          replace h9hb29 := of_decide_eq_false h9hb29
          have h9hb32 := hb32
          simp at h9hb32
          have h9hs35 := hs35
          simp at h9hs35
          rw [Bool.eq_iff_iff]
          simp [Nt.shOK]
          omega
         ·refine zyp 51 (x := zB (decide (((-2097152) : Int) ≤ cf))) (zB false) (by rw [hs35]) ?_
          have qhs35 := of_decide_eq_false hs35
          refine zzm 52 (uw 3 true false 51) (zzm 53 (uw 3 true false 51) (zzm 54 (uw 3 true false 51) (zza 55 (zB false) (zza 4 (zB false) (zzb (zzn (ret0 [.bool false] ⟨zzp, trivial⟩ fun u38 e39 => ?_)))))))
          show Value.bool _ = Value.bool _
          congr 1
          have h9hs11 := hs11
          simp at h9hs11
          have h9hs14 := hs14
          simp at h9hs14
          have h9hs17 := hs17
          simp at h9hs17
          have h9hb20 := hb20
          simp at h9hb20
          have h9hs23 := hs23
          simp at h9hs23
          have h9hb26 := hb26
          simp at h9hb26
          have h9hb29 := hb29
          rw [Nt.ne_pair] at h9hb29
          replace h9hb29 := of_decide_eq_false h9hb29
          have h9hb32 := hb32
          simp at h9hb32
          have h9hs35 := hs35
          simp at h9hs35
          rw [Bool.eq_iff_iff]
          simp [Nt.shOK]
          omega
set_option maxHeartbeats 1000000 in
theorem k_dvalid {u w : World} {x : Sl} {S : List (List Int)} {n : Int} (d : Dat u w) (hx : IrV 4 u x S) (h9 : S.length ≤ 1000000) : Calls Tryz.prog 64 #[x.v, .int .i64 n] w (Post u w fun v _ => v = .bool (decide (Nt.shV n S))) := by
 have hlx : x.n = S.length := hx.len
 refine zzl (args := [.slice x.a x.n x.c, .int .i64 n]) Tryz.func64 rfl Tryz.ntmps64 (rs := [.tmp 4]) Tryz.results64 (le_b rfl) (le_b rfl) d ?_
 refine sq9 (zza 4 (zB false) (zzb (zzd (sq9 (zza 7 (zI n) (zza 8 (zB (decide (n < 1))) ?_))))))
 rcases Bool.eq_false_or_eq_true (decide (n < 1)) with hs11 | hs11
 ·refine zyp 9 (x := zB (decide (n < 1))) (zB true) (by rw [hs11]) ?_
  have qhs11 := of_decide_eq_true hs11
  refine zzm 10 (uw 2 false true 9) (zzm 11 (uw 2 false true 9) (zza 12 (zB true) (zza 13 (zB true) (zzm 14 (uw 6 false true 13) (zzm 15 (uw 6 false true 13) (zzm 16 (uw 6 false true 13) (zza 17 (zB true) (zzb (zyq xj (sq9 (zza 4 (zB false) ?_)))))))))))
  refine zzb (zzn (zzv (ret0 [.bool false] ⟨zzp, trivial⟩ fun u12 e13 => ?_)))
  show Value.bool _ = Value.bool _
  congr 1
  symm
  have h9hs11 := hs11
  simp at h9hs11
  exact decide_eq_false (fun h9 => by have k1 := h9.1; have k2 := h9.2.1; have k3 := h9.2.2.1; omega)
 ·refine zyp 9 (x := zB (decide (n < 1))) (zB false) (by rw [hs11]) ?_
  have qhs11 := of_decide_eq_false hs11
  refine zza 10 (zI n) ?_ (hw := w1 2 false 9)
  refine zza 11 (zB (decide ((64 : Int) < n))) ?_ (hw := w1 2 false 9)
  refine zza 12 (zB (decide ((64 : Int) < n))) ?_
  rcases Bool.eq_false_or_eq_true (decide ((64 : Int) < n)) with hs14 | hs14
  ·refine zyp 13 (x := zB (decide ((64 : Int) < n))) (zB true) (by rw [hs14]) ?_
   have qhs14 := of_decide_eq_true hs14
   refine zzm 14 (uw 6 false true 13) (zzm 15 (uw 6 false true 13) (zzm 16 (uw 6 false true 13) (zza 17 (zB true) (zzb (zyq xj (sq9 (zza 4 (zB false) (zzb (zzn (zzv (ret0 [.bool false] ⟨zzp, trivial⟩ fun u15 e16 => ?_)))))))))))
   show Value.bool _ = Value.bool _
   congr 1
   symm
   have h9hs11 := hs11
   simp at h9hs11
   have h9hs14 := hs14
   simp at h9hs14
   exact decide_eq_false (fun h9 => by have k1 := h9.1; have k2 := h9.2.1; have k3 := h9.2.2.1; omega)
  ·refine zyp 13 (x := zB (decide ((64 : Int) < n))) (zB false) (by rw [hs14]) ?_
   have qhs14 := of_decide_eq_false hs14
   refine zza 14 (.v x.v) ?_ (hw := w1 6 false 13)
   refine zza 15 (zI x.n) ?_ (hw := w1 6 false 13)
   refine zza 16 (zB (decide ((64 : Int) < (x.n : Int)))) ?_ (hw := w1 6 false 13)
   refine zza 17 (zB (decide ((64 : Int) < (x.n : Int)))) (zzb (zzt (b := decide ((64 : Int) < (x.n : Int))) xj (fun hb17 => ?_) (fun hb17 => ?_)))
   ·replace hb17 : (decide ((64 : Int) < (x.n : Int))) = true := hb17
    have qhb17 := of_decide_eq_true hb17
    refine sq9 (zza 4 (zB false) (zzb (zzn (zzv (ret0 [.bool false] ⟨zzp, trivial⟩ fun u18 e19 => ?_)))))
    show Value.bool _ = Value.bool _
    congr 1
    symm
    have h9hs11 := hs11
    simp at h9hs11
    have h9hs14 := hs14
    simp at h9hs14
    have h9hb17 := hb17
    simp at h9hb17
    exact decide_eq_false (fun h9 => by have k1 := h9.1; have k2 := h9.2.1; have k3 := h9.2.2.1; omega)
   ·replace hb17 : (decide ((64 : Int) < (x.n : Int))) = false := hb17
    have qhb17 := of_decide_eq_false hb17
    refine zzr (zzo ?_)
    refine zzd (sq9 (zza 18 (.v x.v) (zza 19 (zI x.n) (zza 20 (zI 0) (zzb (zzs (zym (I := fun m20 S' u' => ∃ (i : Nat), (m20 = S.length - i) ∧ (i ≤ S.length) ∧ (∀ j, j < i → Nt.shOK n (S.getD j [])) ∧ (S' = St.of 29 [(1, zI n), (18, .v (.slice x.a x.n x.c)), (19, zI x.n), (20, zI i)] []) ∧ (Ext u u')) (fun m S u1 u2 e h => by obtain ⟨i, hm, p0, p1, hS, hE⟩ := h; exact ⟨i, hm, p0, p1, hS, hE.trans e⟩) _ yz ⟨0, rfl, by omega, (fun j hj => absurd hj xq), rfl, (Ext.refl _)⟩ ?_)))))))
    rintro m20 _ u20 ⟨i, hm20, hi, hA, rfl, e20⟩
    refine sq9 (zza 21 (zB (decide ((i : Int) < (x.n : Int)))) (zzb (zzd (zzt (b := decide ((i : Int) < (x.n : Int))) xj (fun hb21 => ?_) (fun hb21 => ?_)))))
    ·replace hb21 : (decide ((i : Int) < (x.n : Int))) = true := hb21
     have qhb21 := of_decide_eq_true hb21
     refine zzr (zzo ?_)
     refine zzd (zzs (sq9 ?_))
     have hl22 := ((hx.ext e20)).len
     obtain ⟨b22, o22, hA22, hc22⟩ := ir_at4 (hx.ext e20) (i := i) xq
     refine zzz 22 (o22 + i * 4) (n := x.n) (off := o22) (sz := 4) (i := (i : Int)) xq hA22 xq xq sl64 (zyl 23 [.int .i64 (gi S i 0), .int .i64 (gi S i 1), .int .i64 (gi S i 2), .int .i64 (gi S i 3)] hc22 ty90 (zzj 6 ⟨90, [.int .i64 0, .int .i64 0, .int .i64 0, .int .i64 0]⟩ (zzi ⟨90, [.int .i64 (gi S i 0), .int .i64 (gi S i 1), .int .i64 (gi S i 2), .int .i64 (gi S i 3)]⟩ ty90 ?_)))
     refine zzb (sq9 (zzh 24 (.v (.agg #[.int .i64 (gi S i 0), .int .i64 (gi S i 1), .int .i64 (gi S i 2), .int .i64 (gi S i 3)])) ty90 zze (zza 25 (zI n) (zzg 26 132 [.agg #[.int .i64 (gi S i 0), .int .i64 (gi S i 1), .int .i64 (gi S i 2), .int .i64 (gi S i 3)], .int .i64 n] ?_))))
     intro w23 u23 e23 d23
     have k26 := k_formed (t := gi S i 0) (f := gi S i 1) (cf := gi S i 2) (sh := gi S i 3) (n := n) d23
     with_reducible refine zPm k26 ?_
     rintro _ u24 g25 rfl
     refine zza 27 (zB (!(decide (Nt.shOK n [gi S i 0, gi S i 1, gi S i 2, gi S i 3])))) (zzb (zzt (b := !(decide (Nt.shOK n [gi S i 0, gi S i 1, gi S i 2, gi S i 3]))) xj (fun hb27 => ?_) (fun hb27 => ?_)))
     ·replace hb27 : (!(decide (Nt.shOK n [gi S i 0, gi S i 1, gi S i 2, gi S i 3]))) = true := hb27
      refine sq9 (zza 4 (zB false) (zzb (zzn (zyt (zzv (zys (zyt (zzv (ret0 [.bool false] ⟨zzp, trivial⟩ fun u28 e29 => ?_)))))))))
      show Value.bool _ = Value.bool _
      congr 1
      symm
      exact decide_eq_false (fun h9 => by have h8 := hb27; have h7 := h9.2.2.2 i xq; rw [row4 hx.rows xq] at h7; simp [h7] at h8)
     ·replace hb27 : (!(decide (Nt.shOK n [gi S i 0, gi S i 1, gi S i 2, gi S i 3]))) = false := hb27
      have qhb27 : Nt.shOK n (S.getD i []) := by rw [row4 hx.rows xq]; have h9 := hb27; simpa using h9
      refine zzr (zzo ?_)
      refine zzf (zyp 28 (x := zI (IntKind.i64.wrap ((i : Int) + 1))) (zI (i + 1 : Nat)) (eqI xz) (zza 20 (zI (i + 1 : Nat)) (zzw ?_)))
      refine ⟨_, ?_, _, by exact zzu _ _ _, i + 1, rfl, by omega, (fun j hj => by rcases Nat.lt_or_ge j i with h9 | h9; exact hA j h9; (obtain rfl : j = i := by omega); exact qhb27), rfl, (e20.trans (e23.trans g25.ext))⟩
      omega
    ·replace hb21 : (decide ((i : Int) < (x.n : Int))) = false := hb21
     have qhb21 := of_decide_eq_false hb21
     refine zyb (zzo (sq9 (zza 4 (zB true) (zzb (zzn (ret0 [.bool true] ⟨zzp, trivial⟩ fun u30 e31 => ?_))))))
     show Value.bool _ = Value.bool _
     congr 1
     symm
     exact decide_eq_true ⟨by omega, by omega, by omega, fun j hj => hA j xq⟩
set_option maxHeartbeats 1000000 in
theorem k_dcheck {u w : World} {x y : Sl} {S : List (List Int)} {l : List Int} (d : Dat u w) (hx : IrV 4 u x S) (h9 : S.length ≤ 1000000) (hy : SlR .i64 u y.a y.n y.c l) (hb : ∀ z ∈ l, -9223372036854775808 ≤ z ∧ z ≤ 9223372036854775807) (h8 : l.length ≤ 1000000) : Calls Tryz.prog 114 #[x.v, y.v] w (Post u w fun v _ => v = .int .i64 (Nt.chkE S l)) := by
 have hlx : x.n = S.length := hx.len
 have hly : l.length = y.n := hy.1
 refine zzl (args := [.slice x.a x.n x.c, .slice y.a y.n y.c]) Tryz.func114 rfl Tryz.ntmps114 (rs := [.tmp 4]) Tryz.results114 (le_b rfl) (le_b rfl) d ?_
 refine sq9 (zza 4 (zI 0) (zzb (zzd (sq9 (zza 7 (.v x.v) (zza 8 (.v y.v) (zza 9 (zI y.n) (zzg 10 64 [x.v, .int .i64 y.n] ?_))))))))
 intro w11 u11 e11 d11
 have k14 := k_dvalid (x := x) (n := (y.n : Int)) d11 (hx.ext e11) xq
 with_reducible refine zPm k14 ?_
 rintro _ u12 g13 rfl
 refine zza 11 (zB (!(decide (Nt.shV (y.n : Int) S)))) (zzb (zzt (b := !(decide (Nt.shV (y.n : Int) S))) xj (fun hb15 => ?_) (fun hb15 => ?_)))
 ·replace hb15 : (!(decide (Nt.shV (y.n : Int) S))) = true := hb15
  refine sq9 (zza 4 (zI 2) (zzb (zzn (zzv (ret0 [.int .i64 2] ⟨zzp, trivial⟩ fun u16 e17 => ?_)))))
  show Value.int _ _ = Value.int _ _
  congr 1
  symm
  refine Nt.chk_bad (fun h9 => ?_)
  have h8 := hb15
  rw [show ((l.length : Nat) : Int) = (y.n : Int) by omega] at h9
  simp [h9] at h8
 ·replace hb15 : (!(decide (Nt.shV (y.n : Int) S))) = false := hb15
  refine zzr (zzo ?_)
  refine zzd (sq9 (zza 12 (.v y.v) (zza 13 (zI y.n) (zza 14 (zI 0) (zzb (zzs (zym (I := fun m18 S' u' => ∃ (i : Nat), (m18 = l.length - i) ∧ (i ≤ l.length) ∧ (∀ j, j < i → -2147483648 ≤ l.getD j 0 ∧ l.getD j 0 ≤ 2147483647) ∧ (S' = St.of 23 [(12, .v (.slice y.a y.n y.c)), (13, zI y.n), (14, zI i)] []) ∧ (Ext u12 u')) (fun m S u1 u2 e h => by obtain ⟨i, hm, p0, p1, hS, hE⟩ := h; exact ⟨i, hm, p0, p1, hS, hE.trans e⟩) _ yz ⟨0, rfl, by omega, (fun j hj => absurd hj xq), rfl, (Ext.refl _)⟩ ?_)))))))
  rintro m18 _ u18 ⟨i, hm18, hi, hA, rfl, e18⟩
  refine sq9 (zza 15 (zB (decide ((i : Int) < (y.n : Int)))) (zzb (zzd (zzt (b := decide ((i : Int) < (y.n : Int))) xj (fun hb19 => ?_) (fun hb19 => ?_)))))
  ·replace hb19 : (decide ((i : Int) < (y.n : Int))) = true := hb19
   have qhb19 := of_decide_eq_true hb19
   refine zzr (zzo ?_)
   refine zzd (zzs (sq9 ?_))
   have hl20 := ((hy.ext (e11.trans (g13.ext.trans e18)))).1
   obtain ⟨b20, o20, hA20, hc20⟩ := ints_at (hy.ext (e11.trans (g13.ext.trans e18))) (i := i) xq
   have hz20 := ints_bd hb xq i
   refine zzz 16 (o20 + i * 1) (n := y.n) (off := o20) (sz := 1) (i := (i : Int)) xq hA20 xq xq sl30 (zyk 17 (.int .i64 (l.getD i 0)) hc20 ty3 (zza 6 (zI (l.getD i 0)) (zzb (sq9 (zza 18 (zI (l.getD i 0)) (zza 19 (zI (l.getD i 0)) (zzg 20 190 [.int .i64 32, .int .i64 (l.getD i 0)] ?_)))))))
   intro w21 u21 e21 d21
   have k24 := k_fxWrap (b := 32) (v := (l.getD i 0)) d21 xq xq
   with_reducible refine zPm k24 ?_
   rintro _ u22 g23 rfl
   refine zza 21 (zB ((l.getD i 0) != (Nt.wrapW 32 (l.getD i 0)))) (zzb (zzt (b := (l.getD i 0) != (Nt.wrapW 32 (l.getD i 0))) xj (fun hb25 => ?_) (fun hb25 => ?_)))
   ·replace hb25 : ((l.getD i 0) != (Nt.wrapW 32 (l.getD i 0))) = true := hb25
    refine sq9 (zza 4 (zI 17) (zzb (zzn (zyt (zzv (zys (zyt (zzv (ret0 [.int .i64 17] ⟨zzp, trivial⟩ fun u26 e27 => ?_)))))))))
    show Value.int _ _ = Value.int _ _
    congr 1
    symm
    have hV : Nt.shV (l.length : Int) S := by have h8 := hb15; simp at h8; rw [show ((l.length : Nat) : Int) = (y.n : Int) by omega]; exact h8
    refine Nt.chk_not hV (fun h9 => ?_)
    have h8 := hb25
    rw [Nt.wrap_ne] at h8
    have h7 := h9 i xq
    rw [decide_eq_true h7] at h8
    exact absurd h8 xw
   ·replace hb25 : ((l.getD i 0) != (Nt.wrapW 32 (l.getD i 0))) = false := hb25
    refine zzr (zzo ?_)
    refine zzf (zyp 22 (x := zI (IntKind.i64.wrap ((i : Int) + 1))) (zI (i + 1 : Nat)) (eqI xz) (zza 14 (zI (i + 1 : Nat)) (zzw ?_)))
    refine ⟨_, ?_, _, by exact zzu _ _ _, i + 1, rfl, by omega, (fun j hj => by rcases Nat.lt_or_ge j i with h9 | h9; exact hA j h9; (obtain rfl : j = i := by omega); have h8 := hb25; rw [Nt.wrap_ne] at h8; exact of_decide_eq_true (Nt.bnot_f h8)), rfl, (e18.trans (e21.trans g23.ext))⟩
    omega
  ·replace hb19 : (decide ((i : Int) < (y.n : Int))) = false := hb19
   have qhb19 := of_decide_eq_false hb19
   refine zyb (zzo (sq9 (zza 4 (zI 0) (zzb (zzn (ret0 [.int .i64 0] ⟨zzp, trivial⟩ fun u28 e29 => ?_))))))
   show Value.int _ _ = Value.int _ _
   congr 1
   symm
   have hV : Nt.shV (l.length : Int) S := by have h8 := hb15; simp at h8; rw [show ((l.length : Nat) : Int) = (y.n : Int) by omega]; exact h8
   exact Nt.chk_ok hV (fun j hj => hA j xq)
set_option maxHeartbeats 1000000 in
theorem k_cloneI {u w : World} {x : Sl} {l : List Int} (d : Dat u w) (hx : SlR .i64 u x.a x.n x.c l) (h0 : 0 < l.length) (h9 : l.length ≤ 1000000000) : Calls Tryz.prog 115 #[x.v] w (Post u w fun v u' => ∃ (b c : Nat) (X : List Value), v = .slice (some ⟨b, 0, none⟩) x.n c ∧ u.heap.size ≤ b ∧ u'.heap[b]? = some (.cells (ics l ++ X).toArray 3 (0, 0)) ∧ (ics l ++ X).length = c ∧ x.n ≤ c ∧ c ≤ maxLen) := by
 obtain ⟨xa, n0, c0⟩ := x
 obtain ⟨hn, h2, h3, h4⟩ := hx
 change l.length = n0 at hn
 obtain ⟨b0, o0, e, hb0, hc⟩ := h4 (by show 0 < n0; omega)
 change xa = _ at e
 subst e
 change ∀ i, i < n0 → _ at hc
 change Calls _ _ #[.slice (some ⟨b0, o0, none⟩) n0 c0] _ _
 refine zzl (args := [.slice (some ⟨b0, o0, none⟩) n0 c0]) Tryz.func115 rfl Tryz.ntmps115 (rs := [.tmp 2]) Tryz.results115 (le_b rfl) (le_b rfl) d ?_
 refine sq9 (zza 2 (.v (.slice none 0 0)) (zzb (zzd (sq9 (zza 3 (.v (.slice (some ⟨b0, o0, none⟩) n0 c0)) (zza 4 (zB false) (zzb (zyr xj (zzr (zzo ?_))))))))))
 refine sq9 (sy_lit 5 ⟨3, []⟩ 0 ?_)
 refine zza 6 (.v (.slice (some ⟨b0, o0, none⟩) n0 c0)) (sy_app1 7 (T := 30) (E := 3) (z := .int .i64 0) (size := 1) (bytes := 8) (b := b0) (off := o0) (m := n0) (c := c0) (n := 0) (cap := 0) (t := 5) (cs0 := []) [5, 7] (ics l) xj xj xj xw (by rw [zwi, hn, Nat.mul_one]) (fun j v hv => by have h9 := (List.getElem?_eq_some_iff.1 hv).1; rw [zwi] at h9; rw [hc j xq, ← hv, ics_at h9, List.getD_eq_getElem?_getD]) ics_one xq yv xq xq xw rfl xk ?_)
 intro c1 cs k1 k2 k3 k4
 refine zza 2 (.slc 7 0 (0 + n0) c1) (zzc 8 [(2, .slc 7 0 (0 + n0) c1)] [(7, ⟨3, cs⟩)] (zyo (r := 2) (t := 7) [2, 7] xk xj (by rfl) (by rfl) xj (fun b u2 e2 hb hh => ?_)))
 refine zzn (ret0 [.slice (some ⟨b, 0, none⟩) (0 + n0) c1] ⟨zzp, trivial⟩ fun u11 e12 => ?_)
 rw [Nat.zero_add, Nat.mul_one] at k4
 rw [Nat.zero_add] at k1
 rw [Nat.mul_one] at k3
 change cs.take n0 = ics l at k4
 have e9 : cs = ics l ++ cs.drop n0 := by rw [← k4]; exact (List.take_append_drop n0 cs).symm
 refine ⟨b, c1, cs.drop n0, ?_, hb, ?_, by rw [← e9]; exact k3, k1, k2⟩
 ·show Value.slice _ (0 + n0) _ = _; rw [Nat.zero_add]
 ·rw [← e9]; exact e12.cells hh
set_option maxHeartbeats 2000000 in
theorem k_perform {u w : World} {g n c : Nat} {l : List Int} {X : List Value} {t f : Nat} {cf sh sg : Int} (d : Dat u w) (hg : w.heap[g]? = some (.cells (ics l ++ X).toArray 3 (0, 0))) (hu : u.heap[g]? = some hidO) (hl : l.length = n) (hW : Nt.W32 l) (hn9 : n ≤ 1000) (hs : Nt.shOK (n : Int) [(t : Int), (f : Int), cf, sh]) (hsg : sg = 1 ∨ sg = -1) : Calls Tryz.prog 116 #[.slice (some ⟨g, 0, none⟩) n c, .agg #[.int .i64 (t : Int), .int .i64 (f : Int), .int .i64 cf, .int .i64 sh], .int .i64 sg] w (PostL u w g fun V u' => V = ⟨3, ics (Nt.shF [(t : Int), (f : Int), cf, sh] sg l) ++ X⟩) := by
 obtain ⟨h1, h2, h3, h4, h5, h6, h7, h8⟩ := Nt.shOK_mk hs
 have hlt := hW.get t
 have hlf := hW.get f
 have hm := Nt.sh_mul (a := cf) (b := l.getD f 0) (A := 2097152) (B := 2147483648) ⟨h5, h6⟩ ⟨by omega, by omega⟩ xw
 have hsb := Nt.shift_bd2 (cf * l.getD f 0) sh
 have hsx := Nt.sg_bd (x := Nt.shiftW (cf * l.getD f 0) sh 2) (B := 4503599627370497) hsg ⟨by omega, by omega⟩
 refine calls_lent (args := [.agg #[.int .i64 (t : Int), .int .i64 (f : Int), .int .i64 cf, .int .i64 sh], .int .i64 sg]) Tryz.func116 rfl Tryz.ntmps116 Tryz.results116 (le_b rfl) d hg hu ?_
 refine sq9 (zzj 4 ⟨90, [.int .i64 t, .int .i64 f, .int .i64 cf, .int .i64 sh]⟩ (zzb (sq9 (zza 7 (.adr 4 3) (zzh 8 (zI sh) ty3 zzk (zzb (zzs (sq9 (zza 35 (zB (sh == (-1))) (zza 34 (zB (sh == (-1))) (zzb ?_)))))))))))
 refine zzt (b := sh == (-1)) xj (fun hb11 => ?_) (fun hb11 => ?_)
 ·replace hb11 : (sh == (-1)) = true := hb11
  have qhb11 : sh = (-1) := by simpa using hb11
  refine zzy [0, 0, 2, 0, 0, 16, 0, 0, 128, 448, 960, 0, 0, 4096, 14336, 30720, 65479, 131015, 262143, 524287] [(0, []), (1, []), (2, []), (3, []), (4, []), (5, []), (6, []), (7, []), (8, []), (9, []), (10, []), (11, []), (12, []), (13, []), (14, []), (15, []), (16, []), (17, [40]), (18, []), (19, [])] xj xj (zza 36 (.slc 67 0 n c) (zza 37 (.adr 4 0) (zzh 38 (zI t) ty3 zzk (zza 39 (.slc 67 0 n c) (zza 40 (.adr 4 1) (zzh 41 (zI f) ty3 zzk (zza 42 (.slc 67 0 n c) (zza 43 (.adr 4 1) (zzh 44 (zI f) ty3 zzk (zyv 45 (off' := f * 1) (n := n) (off := 0) (sz := 1) (i := (f : Int)) sl30 xq xq xq ?_))))))))))
  refine zzh 46 (V := ⟨3, ics l ++ X⟩) (off := f * 1) (zI (l.getD f 0)) ty3 (part_intsX (l := l) (i := f) (by rw [hl]; omega) rfl) (zza 47 (.slc 67 0 n c) (zza 48 (.adr 4 0) (zzh 49 (zI t) ty3 zzk (zyv 50 (off' := t * 1) (n := n) (off := 0) (sz := 1) (i := (t : Int)) sl30 xq xq xq ?_))))
  refine zzh 51 (V := ⟨3, ics l ++ X⟩) (off := t * 1) (zI (l.getD t 0)) ty3 (part_intsX (l := l) (i := t) (by rw [hl]; omega) rfl) (zyv 52 (off' := t * 1) (n := n) (off := 0) (sz := 1) (i := (t : Int)) sl30 xq xq xq ?_)
  refine zyu (V := ⟨3, ics l ++ X⟩) (off := t * 1) (ics (l.set t (l.getD f 0)) ++ X) ty3 (by rw [List.length_append, zwi, hl]; omega) (setL_intsX (z := (l.getD f 0)) (i := t) (by rw [hl]; omega) rfl) ?_
  refine zyv 53 (off' := f * 1) (n := n) (off := 0) (sz := 1) (i := (f : Int)) sl30 xq xq xq ?_
  refine zyu (V := ⟨3, ics (l.set t (l.getD f 0)) ++ X⟩) (off := f * 1) (ics ((l.set t (l.getD f 0)).set f (l.getD t 0)) ++ X) ty3 (by rw [List.length_append, zwi, (List.length_set.trans hl)]; omega) (setL_intsX (z := (l.getD t 0)) (i := f) (by rw [(List.length_set.trans hl)]; omega) rfl) ?_
  refine zzw ?_
  refine lent_end (V := ⟨3, ics ((l.set t (l.getD f 0)).set f (l.getD t 0)) ++ X⟩) rfl rfl (fun _ _ => ?_)
  rw [(Nt.shF_x qhb11)]
 ·replace hb11 : (sh == (-1)) = false := hb11
  have qhb11 : ¬ sh = (-1) := by simpa using hb11
  refine sq9 (zza 55 (zB (sh == (-2))) (zza 54 (zB (sh == (-2))) (zzb (zzt (b := sh == (-2)) xj (fun hb12 => ?_) (fun hb12 => ?_)))))
  ·replace hb12 : (sh == (-2)) = true := hb12
   have qhb12 : sh = (-2) := by simpa using hb12
   refine zzy [0, 0, 2, 0, 0, 16, 56, 120, 248, 504, 1023, 2047] [(0, []), (1, []), (2, []), (3, []), (4, []), (5, []), (6, []), (7, []), (8, []), (9, []), (10, []), (11, [])] xj xj (zza 56 (.slc 67 0 n c) (zza 57 (.adr 4 0) (zzh 58 (zI t) ty3 zzk (zza 59 (.slc 67 0 n c) (zza 60 (.adr 4 0) (zzh 61 (zI t) ty3 zzk (zyv 62 (off' := t * 1) (n := n) (off := 0) (sz := 1) (i := (t : Int)) sl30 xq xq xq ?_)))))))
   refine zzh 63 (V := ⟨3, ics l ++ X⟩) (off := t * 1) (zI (l.getD t 0)) ty3 (part_intsX (l := l) (i := t) (by rw [hl]; omega) rfl) (zyp 64 (x := zI (IntKind.i64.wrap (0 - (l.getD t 0)))) (zI (-(l.getD t 0))) (eqI xz) (zzg 65 190 [.int .i64 32, .int .i64 (-(l.getD t 0))] ?_))
   intro w13 u13 e13 d13
   have k16 := k_fxWrap (b := 32) (v := -(l.getD t 0)) d13 xq xq
   with_reducible refine zPm k16 ?_
   rintro _ u14 g15 rfl
   refine zyv 66 (off' := t * 1) (n := n) (off := 0) (sz := 1) (i := (t : Int)) sl30 xq xq xq ?_
   refine zyu (V := ⟨3, ics l ++ X⟩) (off := t * 1) (ics (l.set t (Nt.wrapW 32 (-(l.getD t 0)))) ++ X) ty3 (by rw [List.length_append, zwi, hl]; omega) (setL_intsX (z := Nt.wrapW 32 (-(l.getD t 0))) (i := t) (by rw [hl]; omega) rfl) ?_
   refine zzw ?_
   refine lent_end (V := ⟨3, ics (l.set t (Nt.wrapW 32 (-(l.getD t 0)))) ++ X⟩) rfl rfl (fun _ _ => ?_)
   rw [(Nt.shF_n qhb12)]
  ·replace hb12 : (sh == (-2)) = false := hb12
   have qhb12 : ¬ sh = (-2) := by simpa using hb12
   refine zzd (zzy [0, 1, 0, 0, 8, 28, 60, 127, 0, 256, 1023, 2047] [(0, []), (1, []), (2, []), (3, []), (4, []), (5, []), (6, []), (7, []), (8, []), (9, []), (10, []), (11, [])] xj xj (zza 9 (.adr 4 2) (zzh 10 (zI cf) ty3 zzk (zza 11 (.slc 67 0 n c) (zza 12 (.adr 4 1) (zzh 13 (zI f) ty3 zzk (zyv 14 (off' := f * 1) (n := n) (off := 0) (sz := 1) (i := (f : Int)) sl30 xq xq xq ?_)))))))
   refine zzh 15 (V := ⟨3, ics l ++ X⟩) (off := f * 1) (zI (l.getD f 0)) ty3 (part_intsX (l := l) (i := f) (by rw [hl]; omega) rfl) (zyp 16 (x := zI (IntKind.i64.wrap (cf * (l.getD f 0)))) (zI (cf * (l.getD f 0))) yq (zza 17 (.adr 4 3) (zzh 18 (zI sh) ty3 zzk (zzg 19 191 [.int .i64 (cf * (l.getD f 0)), .int .i64 sh, .int .i64 2] ?_))))
   intro w17 u17 e17 d17
   have k20 := k_fxShift (v := cf * (l.getD f 0)) (n := sh) (r := 2) d17 xq xq xq xq xq
   with_reducible refine zPm k20 ?_
   rintro _ u18 g19 rfl
   refine zza 6 (zI (Nt.shiftW (cf * (l.getD f 0)) sh 2)) (zzc 67 [(0, .slc 67 0 n c), (2, zI sg), (4, .adr 4 0), (6, zI (Nt.shiftW (cf * (l.getD f 0)) sh 2))] [(4, ⟨90, [.int .i64 t, .int .i64 f, .int .i64 cf, .int .i64 sh]⟩), (67, ⟨3, ics l ++ X⟩)] (zzy [0, 0, 2, 0, 0, 16, 56, 120, 0, 0, 768, 2040, 4088, 8191, 16383] [(0, []), (1, []), (2, []), (3, []), (4, []), (5, []), (6, []), (7, []), (8, []), (9, []), (10, []), (11, []), (12, []), (13, []), (14, [])] xj xj (zza 20 (.slc 67 0 n c) (zza 21 (.adr 4 0) (zzh 22 (zI t) ty3 zzk (zza 23 (.slc 67 0 n c) (zza 24 (.adr 4 0) (zzh 25 (zI t) ty3 zzk (zyv 26 (off' := t * 1) (n := n) (off := 0) (sz := 1) (i := (t : Int)) sl30 xq xq xq ?_)))))))))
   refine zzh 27 (V := ⟨3, ics l ++ X⟩) (off := t * 1) (zI (l.getD t 0)) ty3 (part_intsX (l := l) (i := t) (by rw [hl]; omega) rfl) (zza 28 (zI sg) (zza 29 (zI (Nt.shiftW (cf * (l.getD f 0)) sh 2)) (zyp 30 (x := zI (IntKind.i64.wrap (sg * (Nt.shiftW (cf * (l.getD f 0)) sh 2)))) (zI (sg * (Nt.shiftW (cf * (l.getD f 0)) sh 2))) yq (zyp 31 (x := zI (IntKind.i64.wrap ((l.getD t 0) + (sg * (Nt.shiftW (cf * (l.getD f 0)) sh 2))))) (zI ((l.getD t 0) + (sg * (Nt.shiftW (cf * (l.getD f 0)) sh 2)))) yq (zzg 32 190 [.int .i64 32, .int .i64 ((l.getD t 0) + (sg * (Nt.shiftW (cf * (l.getD f 0)) sh 2)))] ?_)))))
   intro w21 u21 e21 d21
   have k24 := k_fxWrap (b := 32) (v := (l.getD t 0) + (sg * (Nt.shiftW (cf * (l.getD f 0)) sh 2))) d21 xq xq
   with_reducible refine zPm k24 ?_
   rintro _ u22 g23 rfl
   refine zyv 33 (off' := t * 1) (n := n) (off := 0) (sz := 1) (i := (t : Int)) sl30 xq xq xq ?_
   refine zyu (V := ⟨3, ics l ++ X⟩) (off := t * 1) (ics (l.set t (Nt.wrapW 32 ((l.getD t 0) + (sg * (Nt.shiftW (cf * (l.getD f 0)) sh 2))))) ++ X) ty3 (by rw [List.length_append, zwi, hl]; omega) (setL_intsX (z := Nt.wrapW 32 ((l.getD t 0) + (sg * (Nt.shiftW (cf * (l.getD f 0)) sh 2)))) (i := t) (by rw [hl]; omega) rfl) ?_
   refine zzw ?_
   refine lent_end (V := ⟨3, ics (l.set t (Nt.wrapW 32 ((l.getD t 0) + (sg * (Nt.shiftW (cf * (l.getD f 0)) sh 2))))) ++ X⟩) rfl rfl (fun _ _ => ?_)
   rw [(Nt.shF_s qhb11 qhb12)]
set_option maxHeartbeats 2000000 in
theorem k_dforward {u w : World} {x y : Sl} {S : List (List Int)} {l : List Int} (d : Dat u w) (hx : IrV 4 u x S) (h9 : S.length ≤ 1000000) (hy : SlR .i64 u y.a y.n y.c l) (hb : ∀ z ∈ l, -9223372036854775808 ≤ z ∧ z ≤ 9223372036854775807) (h8 : l.length ≤ 1000000) : Calls Tryz.prog 49 #[x.v, y.v] w (Post u w fun v u' => ∃ z : Sl, v = .tuple #[z.v, .int .i64 (Nt.chkE S l)] ∧ SlR .i64 u' z.a z.n z.c (Nt.fwdL S l)) := by
 have hlx : x.n = S.length := hx.len
 have hly : l.length = y.n := hy.1
 refine zzl (args := [.slice x.a x.n x.c, .slice y.a y.n y.c]) Tryz.func49 rfl Tryz.ntmps49 (rs := [.tmp 4, .tmp 5]) Tryz.results49 (le_b rfl) (le_b rfl) d ?_
 refine sq9 (zza 4 (.v (.slice none 0 0)) (zza 5 (zI 0) (zzb (zzd (sq9 (zza 10 (.v x.v) (zza 11 (.v y.v) (zzg 12 114 [x.v, y.v] ?_))))))))
 intro w11 u11 e11 d11
 have k14 := k_dcheck (x := x) (y := y) d11 (hx.ext e11) xq (hy.ext e11) hb xq
 with_reducible refine zPm k14 ?_
 rintro _ u12 g13 rfl
 refine zza 6 (zI (Nt.chkE S l)) (zzb (sq9 (zza 13 (zI (Nt.chkE S l)) (zza 14 (zB ((Nt.chkE S l) != 0)) (zzb (zzt (b := (Nt.chkE S l) != 0) xj (fun hb15 => ?_) (fun hb15 => ?_)))))))
 ·replace hb15 : ((Nt.chkE S l) != 0) = true := hb15
  have hE : ¬ Nt.chkE S l = 0 := by simpa using hb15
  refine sq9 (zza 15 (zI (Nt.chkE S l)) (zza 4 (.v (.slice none 0 0)) (zza 5 (zI (Nt.chkE S l)) (zzb (zzn (zzv (ret0 [.slice none 0 0, .int .i64 (Nt.chkE S l)] ⟨zzp, zzp, trivial⟩ fun u16 e17 => ?_)))))))
  rw [show Nt.fwdL S l = [] from if_neg hE]
  exact ⟨sl0, rfl, rfl, Nat.le_refl _, Nat.zero_le _, fun h => absurd h (Nat.lt_irrefl 0)⟩
 ·replace hb15 : ((Nt.chkE S l) != 0) = false := hb15
  have hE : Nt.chkE S l = 0 := by simpa using hb15
  obtain ⟨hV, hW⟩ := Nt.chk_0 hE
  have hV1 := hV.1
  have hV2 := hV.2.1
  have hV3 := hV.2.2.1
  refine zzr (zzo ?_)
  refine sq9 (zza 16 (.v y.v) (zzg 17 115 [y.v] ?_))
  intro w18 u18 e18 d18
  have k29 := k_cloneI (x := y) d18 (hy.ext (e11.trans (g13.ext.trans e18))) xq xq
  with_reducible refine zPm k29 ?_
  rintro _ u27 g28 ⟨b19, c20, X21, rfl, hb22, hh23, hlX24, hle25, hmx26⟩
  refine zza 7 (.v (.slice (some ⟨b19, 0, none⟩) y.n c20)) (zzb (zzd (zzd (sw_adopt (r := 7) (k := 7) (cs := ics l ++ X21) (by rfl) hh23 (Nat.le_trans ((e11.trans (g13.ext.trans e18)).size) hb22) xj (fun u30 eB31 => ?_)))))
  refine zzf (zza 18 (.v x.v) (zza 19 (zI x.n) (zza 20 (zI 0) (zzb (zzs (zym (I := fun m32 S' u' => ∃ (i : Nat), (m32 = S.length - i) ∧ (i ≤ S.length) ∧ (S' = St.of 29 [(7, .slc 7 0 y.n c20), (18, .v (.slice x.a x.n x.c)), (19, zI x.n), (20, zI i)] [(7, ⟨3, ics (Nt.shFs (S.take i) l) ++ X21⟩)]) ∧ (Ext u30 u')) (fun m S u1 u2 e h => by obtain ⟨i, hm, p0, hS, hE⟩ := h; exact ⟨i, hm, p0, hS, hE.trans e⟩) _ yz ⟨0, rfl, by omega, rfl, (Ext.refl _)⟩ ?_))))))
  rintro m32 _ u32 ⟨i, hm32, hi, rfl, e32⟩
  refine sq9 (zza 21 (zB (decide ((i : Int) < (x.n : Int)))) (zzb (zzd (zzt (b := decide ((i : Int) < (x.n : Int))) xj (fun hb33 => ?_) (fun hb33 => ?_)))))
  ·replace hb33 : (decide ((i : Int) < (x.n : Int))) = true := hb33
   have qhb33 := of_decide_eq_true hb33
   refine zzr (zzo ?_)
   refine zzd (zzs (sq9 ?_))
   have hl34 := ((hx.ext (e11.trans (g13.ext.trans (e18.trans ((ExtB.old eB31 g28.ext hb22).trans e32)))))).len
   obtain ⟨b34, o34, hA34, hc34⟩ := ir_at4 (hx.ext (e11.trans (g13.ext.trans (e18.trans ((ExtB.old eB31 g28.ext hb22).trans e32))))) (i := i) xq
   refine zzz 22 (o34 + i * 4) (n := x.n) (off := o34) (sz := 4) (i := (i : Int)) xq hA34 xq xq sl64 (zyl 23 [.int .i64 (gi S i 0), .int .i64 (gi S i 1), .int .i64 (gi S i 2), .int .i64 (gi S i 3)] hc34 ty90 (zzj 9 ⟨90, [.int .i64 0, .int .i64 0, .int .i64 0, .int .i64 0]⟩ (zzi ⟨90, [.int .i64 (gi S i 0), .int .i64 (gi S i 1), .int .i64 (gi S i 2), .int .i64 (gi S i 3)]⟩ ty90 ?_)))
   refine zzb ?_
   have hsO := hV.2.2.2 i xq
   rw [row4 hx.rows xq] at hsO
   obtain ⟨tz, htz⟩ : ∃ t : Nat, gi S i 0 = (t : Int) := ⟨(gi S i 0).toNat, by have h9 : 0 ≤ gi S i 0 := hsO.1; omega⟩
   obtain ⟨fz, hfz⟩ : ∃ t : Nat, gi S i 1 = (t : Int) := ⟨(gi S i 1).toNat, by have h9 : 0 ≤ gi S i 1 := hsO.2.2.1; omega⟩
   rw [htz, hfz]
   rw [htz, hfz] at hsO
   refine zzf (zza 24 (.slc 7 0 y.n c20) (zzh 25 (.v (.agg #[.int .i64 tz, .int .i64 fz, .int .i64 (gi S i 2), .int .i64 (gi S i 3)])) ty90 zze ?_))
   have kc35 := fun (g : Nat) (w u1 : World) (e : Ext u32 u1) (d : Dat u1 w) (hg : w.heap[g]? = some (.cells (ics (Nt.shFs (S.take i) l) ++ X21).toArray 3 (0, 0))) (hu : u1.heap[g]? = some hidO) => k_perform (n := y.n) (c := c20) (t := tz) (f := fz) (cf := gi S i 2) (sh := gi S i 3) (sg := 1) d hg hu (Nt.shFs_len.trans hly) (Nt.shFs_w32 hW) xq (by rw [show ((y.n : Nat) : Int) = (l.length : Int) by omega]; exact hsO) xw
   refine sy_lend 26 116 (t := 7) (V := ⟨3, ics (Nt.shFs (S.take i) l) ++ X21⟩) (len := y.n) (cap := c20) [.agg #[.int .i64 tz, .int .i64 fz, .int .i64 (gi S i 2), .int .i64 (gi S i 3)], .int .i64 1] xj kc35 ?_
   clear kc35
   rintro _ u35 e35 rfl
   refine zzw ?_
   refine zzo (zzf (zyp 27 (x := zI (IntKind.i64.wrap ((i : Int) + 1))) (zI (i + 1 : Nat)) (eqI xz) (zza 20 (zI (i + 1 : Nat)) (zzw ?_))))
   have hM2 : Nt.shFs (S.take (i + 1)) l = Nt.shF [(tz : Int), (fz : Int), gi S i 2, gi S i 3] 1 (Nt.shFs (S.take i) l) := by rw [Nt.shFs_snoc S i xq, row4 hx.rows xq, htz, hfz]
   rw [← hM2]
   refine ⟨_, ?_, _, by exact zzu _ _ _, i + 1, rfl, by omega, rfl, (e32.trans e35)⟩
   omega
  ·replace hb33 : (decide ((i : Int) < (x.n : Int))) = false := hb33
   have qhb33 := of_decide_eq_false hb33
   refine zyb (zzo (zzd (zyo (r := 7) (t := 7) [7] xk xj (by rfl) (by rfl) xj (fun b36 u37 e38 hb39 hh40 => ?_))))
   have hp41 : SlR .i64 u37 (some ⟨b36, 0, none⟩) y.n c20 (Nt.shFs (S.take i) l) := ints_dataX hh40 (Nt.shFs_len.trans hly) hlX24 hle25 hmx26
   refine zzf (zza 28 (.v (.slice (some ⟨b36, 0, none⟩) y.n c20)) (zza 4 (.v (.slice (some ⟨b36, 0, none⟩) y.n c20)) (zza 5 (zI 0) (zzb (zzn (ret0 [.slice (some ⟨b36, 0, none⟩) y.n c20, .int .i64 0] ⟨zzp, zzp, trivial⟩ fun u42 e43 => ?_))))))
   rw [show Nt.fwdL S l = Nt.shFs S l from if_pos hE, hE]
   refine ⟨(⟨some ⟨b36, 0, none⟩, y.n, c20⟩ : Sl), rfl, ?_⟩
   have h7 := (hp41.ext e43)
   rw [show i = S.length by omega, List.take_length] at h7
   exact h7
namespace Nt
def flr (q : Rat) : Int := q.num / (q.den : Int)
def dnQ (q : Rat) (k : Nat) : Rat := mkRat (flr (q * ((2 ^ k : Nat) : Rat))) (2 ^ k)
theorem flr_mk {z : Int} {D : Nat} (hD : 0 < D) : flr (mkRat z D) = z / (D : Int) := by
 have h1 : mkRat z D = mkRat (mkRat z D).num (mkRat z D).den := (Rat.mkRat_self _).symm
 rw [Rat.mkRat_eq_iff xq (by have := (mkRat z D).den_pos; omega)] at h1
 have hd := (mkRat z D).den_pos
 unfold flr
 generalize (mkRat z D).num = n at *
 generalize (mkRat z D).den = d at *
 have e1 : z / (D : Int) = ((d : Int) * z) / ((d : Int) * (D : Int)) := (Int.mul_ediv_mul_of_pos _ _ xq).symm
 have e2 : n / (d : Int) = ((D : Int) * n) / ((D : Int) * (d : Int)) := (Int.mul_ediv_mul_of_pos _ _ xq).symm
 rw [e1, e2, Int.mul_comm (d : Int) z, h1, Int.mul_comm n, Int.mul_comm (d : Int)]
theorem shl_mk (z : Int) (D m : Nat) : mkRat z D * ((m : Nat) : Rat) = mkRat (z * (m : Int)) D := by
 rw [Rat.mkRat_eq_div, Rat.mkRat_eq_div, Rat.intCast_mul]
 show (z : Rat) / (D : Rat) * (m : Rat) = (z : Rat) * ((m : Int) : Rat) / (D : Rat)
 have : ((m : Int) : Rat) = (m : Rat) := rfl
 rw [this]
 grind
theorem dn_mk {z : Int} {D k : Nat} (hD : 0 < D) : dnQ (mkRat z D) k = mkRat ((z * ((2 ^ k : Nat) : Int)) / (D : Int)) (2 ^ k) := by
 unfold dnQ
 rw [shl_mk, flr_mk hD]
theorem sg_mulN {s : Bool} {N m : Nat} : sg s ((sg s N).natAbs * m) = sg s N * (m : Int) := by
 rw [sg_abs]
 unfold sg
 cases s
 ·simp
 ·simp [Int.neg_mul]
theorem rdiv0 {s : Bool} {N D : Nat} (hD : 0 < D) (h : ¬ (s = true ∧ 0 < N % D)) : sg s N / (D : Int) = sg (!(s == false)) (N / D) ∧ sg s N % (D : Int) = sg false (N % D) := by
 have hm := Nat.mod_lt N hD
 have hk := Nat.div_add_mod N D
 have hk2 : (N : Int) = (D : Int) * ((N / D : Nat) : Int) + ((N % D : Nat) : Int) := by rw [← Int.natCast_mul, ← Int.natCast_add, hk]
 apply ediv_uniq xq
 ·unfold sg
  cases s
  ·simpa using hk2
  ·have h0 : N % D = 0 := by simp at h; omega
   rw [h0] at hk2 ⊢
   generalize N / D = Q at *
   simp [Int.mul_neg]
   omega
 ·unfold sg; simp; omega
 ·unfold sg; simp; omega
theorem rdiv1 {N D : Nat} (hD : 0 < D) (h : 0 < N % D) : sg true N / (D : Int) = sg (!(true == false)) (N / D + 1) ∧ sg true N % (D : Int) = sg false (D - N % D) := by
 have hm := Nat.mod_lt N hD
 have hk := Nat.div_add_mod N D
 have hk2 : (N : Int) = (D : Int) * ((N / D : Nat) : Int) + ((N % D : Nat) : Int) := by rw [← Int.natCast_mul, ← Int.natCast_add, hk]
 apply ediv_uniq xq
 ·unfold sg
  simp
  rw [show ((N : Int) / (D : Int)) = ((N / D : Nat) : Int) from rfl, show ((D - N % D : Nat) : Int) = (D : Int) - ((N % D : Nat) : Int) by omega, Int.mul_neg, Int.mul_add]
  omega
 ·unfold sg; simp
 ·unfold sg; simp; omega
end Nt
end Go.Proofs.YtbolmkfphieogaaGreat
namespace Go.Proofs.YtbolmkfphieogaaGreat
set_option linter.unusedVariables false
namespace Nt
def sgn (j : Nat) : Rat := if j % 2 = 0 then 1 else -1
theorem sgn_s (j : Nat) : sgn (j + 1) = -sgn j := by
 unfold sgn
 rcases Nat.mod_two_eq_zero_or_one j with h | h
 ·rw [if_pos h, if_neg (show ¬ (j + 1) % 2 = 0 by omega)]
 ·rw [if_neg (show ¬ j % 2 = 0 by omega), if_pos (show (j + 1) % 2 = 0 by omega)]; rfl
theorem sgn_or (j : Nat) : sgn j = 1 ∨ sgn j = -1 := by unfold sgn; split <;> simp
def alt (a : Nat → Rat) : Nat → Rat
 | 0 => 0
 | n + 1 => alt a n + sgn n * a n
theorem alt_s (a : Nat → Rat) (n : Nat) : alt a (n + 1) = alt a n + sgn n * a n := rfl
theorem alt_tail {a : Nat → Rat} {j0 : Nat} (h0 : ∀ j, 0 ≤ a j) (hd : ∀ j, j0 ≤ j → a (j + 1) ≤ a j) : ∀ d j, j0 ≤ j → 0 ≤ sgn j * (alt a (j + d) - alt a j) ∧ sgn j * (alt a (j + d) - alt a j) ≤ a j := by
 intro d
 induction d with
 | zero => intro j _; have := h0 j; rw [Nat.add_zero, Rat.sub_self, Rat.mul_zero]; exact ⟨Rat.le_refl, this⟩
 | succ d ih =>
  intro j hj
  have h1 := ih (j + 1) xq
  have h2 := hd j hj
  have h3 := h0 (j + 1)
  rw [show j + 1 + d = j + (d + 1) by omega, sgn_s, alt_s] at h1
  generalize alt a (j + (d + 1)) = x at *
  generalize alt a j = y at *
  rcases sgn_or j with e | e <;> rw [e] at h1 ⊢ <;> grind
theorem alt_near {a : Nat → Rat} {j0 j m : Nat} (h0 : ∀ j, 0 ≤ a j) (hd : ∀ j, j0 ≤ j → a (j + 1) ≤ a j) (hj : j0 ≤ j) (hm : j ≤ m) : alt a j - a j ≤ alt a m ∧ alt a m ≤ alt a j + a j := by
 obtain ⟨d, rfl⟩ : ∃ d, m = j + d := ⟨m - j, by omega⟩
 have h1 := alt_tail h0 hd d j hj
 rcases sgn_or j with e | e <;> rw [e] at h1 <;> grind
theorem div_nn {x y : Rat} (hx : 0 ≤ x) (hy : 0 < y) : 0 ≤ x / y := by
 rw [Rat.div_def]; exact Rat.mul_nonneg hx (Rat.le_of_lt (Rat.inv_pos.2 hy))
theorem div_mul_c {x y : Rat} (hy : 0 < y) : x / y * y = x := by
 rw [Rat.div_def, Rat.mul_assoc, Rat.inv_mul_cancel _ (by grind), Rat.mul_one]
theorem le_dv {x y z : Rat} (hy : 0 < y) (h : x * y ≤ z) : x ≤ z / y := by
 refine Rat.le_of_mul_le_mul_right (c := y) ?_ hy
 rw [div_mul_c hy]; exact h
theorem dv_le {x y z : Rat} (hy : 0 < y) (h : z ≤ x * y) : z / y ≤ x := by
 refine Rat.le_of_mul_le_mul_right (c := y) ?_ hy
 rw [div_mul_c hy]; exact h
theorem div_le_self {x y : Rat} (hx : 0 ≤ x) (hy : 1 ≤ y) : x / y ≤ x := by
 refine dv_le (by grind) ?_
 have := Rat.mul_le_mul_of_nonneg_left (a := 1) (b := y) (c := x) hy hx
 grind
theorem div_mono {x x' y : Rat} (hy : 0 < y) (h : x ≤ x') : x / y ≤ x' / y := by
 refine le_dv hy ?_
 rw [div_mul_c hy]; exact h
theorem mulm {a b c d : Rat} (h1 : a ≤ b) (h2 : c ≤ d) (h3 : 0 ≤ a) (h4 : 0 ≤ c) : a * c ≤ b * d :=
 Rat.le_trans (Rat.mul_le_mul_of_nonneg_right h1 h4) (Rat.mul_le_mul_of_nonneg_left h2 (Rat.le_trans h3 h1))
def atP (n : Nat) : Nat → Rat
 | 0 => 1 / (n : Rat)
 | j + 1 => atP n j / ((n * n : Nat) : Rat)
def atT (n j : Nat) : Rat := atP n j / ((2 * j + 1 : Nat) : Rat)
theorem cast_pos {n : Nat} (h : 0 < n) : (0 : Rat) < (n : Rat) := by
 have : ((0 : Nat) : Rat) < (n : Rat) := Rat.natCast_lt_natCast.2 h
 exact this
theorem cast_one {n : Nat} (h : 0 < n) : (1 : Rat) ≤ (n : Rat) := by
 have : ((1 : Nat) : Rat) ≤ (n : Rat) := Rat.natCast_le_natCast.2 h
 exact this
theorem atP_nn {n : Nat} (hn : 0 < n) : ∀ j, 0 ≤ atP n j
 | 0 => div_nn xw (cast_pos hn)
 | j + 1 => div_nn (atP_nn hn j) (cast_pos (Nat.mul_pos hn hn))
theorem atT_nn {n : Nat} (hn : 0 < n) (j : Nat) : 0 ≤ atT n j := div_nn (atP_nn hn j) (cast_pos xq)
theorem atP_le {n : Nat} (hn : 0 < n) (j : Nat) : atP n (j + 1) ≤ atP n j := div_le_self (atP_nn hn j) (cast_one (Nat.mul_pos hn hn))
theorem atT_le {n : Nat} (hn : 0 < n) (j : Nat) : atT n (j + 1) ≤ atT n j := by
 have h1 := atP_le hn j
 have h2 := atP_nn hn (j + 1)
 refine Rat.le_trans (b := atP n (j + 1) / ((2 * j + 1 : Nat) : Rat)) ?_ (div_mono (cast_pos xq) h1)
 refine dv_le (cast_pos xq) ?_
 have h3 : ((2 * j + 1 : Nat) : Rat) ≤ ((2 * (j + 1) + 1 : Nat) : Rat) := Rat.natCast_le_natCast.2 xq
 have h4 := Rat.mul_le_mul_of_nonneg_left (c := atP n (j + 1) / ((2 * j + 1 : Nat) : Rat)) h3 (div_nn h2 (cast_pos xq))
 rw [div_mul_c (cast_pos xq)] at h4
 exact h4
def piN (m : Nat) : Rat := 16 * alt (atT 5) m - 4 * alt (atT 239) m
theorem atT_b {n : Nat} (hn : 0 < n) {m : Nat} (hm : 1 ≤ m) : atT n 0 - atT n 1 ≤ alt (atT n) m ∧ alt (atT n) m ≤ atT n 0 := by
 obtain ⟨d, rfl⟩ : ∃ d, m = 1 + d := ⟨m - 1, by omega⟩
 have h1 := alt_tail (j0 := 0) (atT_nn hn) (fun j _ => atT_le hn j) d 1 xq
 have h2 : alt (atT n) 1 = atT n 0 := by show 0 + (1 : Rat) * atT n 0 = _; grind
 have h3 : sgn 1 = -1 := rfl
 rw [h2, h3] at h1
 grind
theorem piN_b {m : Nat} (hm : 1 ≤ m) : 157 / 50 ≤ piN m ∧ piN m ≤ 16 / 5 := by
 have h1 := atT_b (n := 5) xw hm
 have h2 := atT_b (n := 239) xw hm
 have e1 : atT 5 0 = 1 / 5 := by decide +kernel
 have e2 : atT 5 1 = 1 / 375 := by decide +kernel
 have e3 : atT 239 0 = 1 / 239 := by decide +kernel
 have e4 : atT 239 0 - atT 239 1 ≥ 0 := by decide +kernel
 unfold piN
 rw [e1, e2] at h1
 rw [e3] at h2 e4
 constructor
 ·have : (157 / 50 : Rat) ≤ 16 * (1 / 5 - 1 / 375) - 4 * (1 / 239) := by decide +kernel
  grind
 ·have : (16 : Rat) * (1 / 5) ≤ 16 / 5 := by decide +kernel
  grind
def csT (y : Rat) : Nat → Rat
 | 0 => 1
 | j + 1 => csT y j * (y * y) / (((2 * j + 2) * (2 * j + 1) : Nat) : Rat)
theorem csq_nn (y : Rat) : 0 ≤ y * y := by
 rcases Rat.le_total (a := 0) (b := y) with h | h
 ·exact Rat.mul_nonneg h h
 ·have h1 : 0 ≤ -y := by grind
  have h2 := Rat.mul_nonneg h1 h1
  grind
theorem csT_nn (y : Rat) : ∀ j, 0 ≤ csT y j
 | 0 => by show (0 : Rat) ≤ 1; decide
 | j + 1 => div_nn (Rat.mul_nonneg (csT_nn y j) (csq_nn y)) (cast_pos (Nat.mul_pos xq xq))
theorem csT_le {y : Rat} (hy : y * y ≤ 12) : ∀ j, 1 ≤ j → csT y (j + 1) ≤ csT y j := by
 intro j hj
 refine dv_le (cast_pos (Nat.mul_pos xq xq)) ?_
 refine Rat.mul_le_mul_of_nonneg_left ?_ (csT_nn y j)
 have : ((12 : Nat) : Rat) ≤ (((2 * j + 2) * (2 * j + 1) : Nat) : Rat) := Rat.natCast_le_natCast.2 (by
  have := Nat.mul_le_mul (show 4 ≤ 2 * j + 2 by omega) (show 3 ≤ 2 * j + 1 by omega); omega)
 exact Rat.le_trans hy this
def csY (p q m : Nat) : Rat := piN m * (p : Rat) / (q : Rat)
def coN (p q m : Nat) : Rat := alt (csT (csY p q m)) m
def cdiv (b d : Int) : Int := -((-b) / d)
theorem fl_mul {a d : Int} (hd : 0 < d) : a / d * d ≤ a ∧ a - d + 1 ≤ a / d * d := by
 have h1 := Int.ediv_mul_le a (b := d) xq
 have h2 := Int.lt_ediv_add_one_mul_self a hd
 rw [Int.add_mul, Int.one_mul] at h2
 omega
theorem cd_mul {b d : Int} (hd : 0 < d) : b ≤ cdiv b d * d ∧ cdiv b d * d ≤ b + d - 1 := by
 have h1 := fl_mul (a := -b) hd
 unfold cdiv
 rw [Int.neg_mul]
 omega
theorem cd_eq0 {b d : Int} (hd : 0 < d) (h : b % d = 0) : cdiv b d = b / d := by
 have h1 := Int.emod_add_mul_ediv b d
 unfold cdiv
 have h2 : -b = d * (-(b / d)) := by rw [Int.mul_neg]; omega
 rw [h2, Int.mul_ediv_cancel_left _ xq]; omega
theorem cd_eq1 {b d : Int} (hd : 0 < d) (h : ¬ b % d = 0) : cdiv b d = b / d + 1 := by
 have h1 := Int.emod_add_mul_ediv b d
 have h2 := Int.emod_nonneg b (b := d) xq
 have h3 := Int.emod_lt_of_pos b hd
 have h4 := cd_mul (b := b) hd
 have h5 : b / d * d < cdiv b d * d := by rw [Int.mul_comm]; omega
 have h6 : cdiv b d * d < (b / d + 2) * d := by rw [Int.add_mul, Int.mul_comm (b / d)]; omega
 have h7 := Int.lt_of_mul_lt_mul_right h5 xq
 have h8 := Int.lt_of_mul_lt_mul_right h6 xq
 omega
theorem cd_width {a b d : Int} (hd : 0 < d) : (cdiv b d - a / d) * d ≤ b - a + 2 * d - 2 := by
 have h1 := fl_mul (a := a) hd
 have h2 := cd_mul (b := b) hd
 rw [Int.sub_mul]; omega
theorem cast_mul_le {a b c : Int} (h : a * b ≤ c) : (a : Rat) * (b : Rat) ≤ (c : Rat) := by
 have := Rat.intCast_le_intCast.2 h
 rwa [Rat.intCast_mul] at this
theorem castI_pos {d : Int} (h : 0 < d) : (0 : Rat) < (d : Rat) := by
 have := Rat.intCast_lt_intCast.2 h
 exact this
theorem fl_le {a d : Int} {z : Rat} (hd : 0 < d) (h : (a : Rat) ≤ z) : ((a / d : Int) : Rat) ≤ z / (d : Rat) := by
 refine le_dv (castI_pos hd) (Rat.le_trans (cast_mul_le (fl_mul (a := a) hd).1) h)
theorem le_ce {b d : Int} {z : Rat} (hd : 0 < d) (h : z ≤ (b : Rat)) : z / (d : Rat) ≤ ((cdiv b d : Int) : Rat) := by
 refine dv_le (castI_pos hd) (Rat.le_trans h ?_)
 have := Rat.intCast_le_intCast.2 (cd_mul (b := b) hd).1
 rwa [Rat.intCast_mul] at this
def Enc (U : Int) (lo hi : Int) (x : Rat) : Prop := (lo : Rat) ≤ x * (U : Rat) ∧ x * (U : Rat) ≤ (hi : Rat)
section
variable {U a b a' b' d : Int} {x y : Rat}
theorem Enc.over (h : Enc U a b x) (hd : 0 < d) : Enc U (a / d) (cdiv b d) (x / (d : Rat)) := by
 have h1 := fl_le hd h.1
 have h2 := le_ce hd h.2
 have e : x / (d : Rat) * (U : Rat) = x * (U : Rat) / (d : Rat) := by rw [Rat.div_def, Rat.div_def]; grind
 unfold Enc
 rw [e]
 exact ⟨h1, h2⟩
theorem Enc.add (h : Enc U a b x) (k : Enc U a' b' y) : Enc U (a + a') (b + b') (x + y) := by
 obtain ⟨h1, h2⟩ := h
 obtain ⟨k1, k2⟩ := k
 unfold Enc
 rw [Rat.intCast_add, Rat.intCast_add]
 constructor <;> grind
theorem Enc.sub (h : Enc U a b x) (k : Enc U a' b' y) : Enc U (a - b') (b - a') (x - y) := by
 obtain ⟨h1, h2⟩ := h
 obtain ⟨k1, k2⟩ := k
 unfold Enc
 rw [Rat.intCast_sub, Rat.intCast_sub]
 constructor <;> grind
theorem Enc.times {n : Nat} (h : Enc U a b x) : Enc U (a * (n : Int)) (b * (n : Int)) (x * (n : Rat)) := by
 obtain ⟨h1, h2⟩ := h
 have hn : (0 : Rat) ≤ (n : Rat) := by
  have : ((0 : Nat) : Rat) ≤ (n : Rat) := Rat.natCast_le_natCast.2 (Nat.zero_le n)
  exact this
 have k1 := Rat.mul_le_mul_of_nonneg_right h1 hn
 have k2 := Rat.mul_le_mul_of_nonneg_right h2 hn
 have e : (((n : Nat) : Int) : Rat) = (n : Rat) := rfl
 unfold Enc
 rw [Rat.intCast_mul, Rat.intCast_mul, e]
 constructor <;> grind
theorem Enc.near {r : Rat} (h : Enc U a b x) (h1 : x - r ≤ y) (h2 : y ≤ x + r) (hr : r * (U : Rat) ≤ 1) (hU : 0 < U) : Enc U (a - 1) (b + 1) y := by
 obtain ⟨k1, k2⟩ := h
 have k3 := Rat.mul_le_mul_of_nonneg_right h1 (Rat.le_of_lt (castI_pos hU))
 have k4 := Rat.mul_le_mul_of_nonneg_right h2 (Rat.le_of_lt (castI_pos hU))
 unfold Enc
 rw [Rat.intCast_sub, Rat.intCast_add]
 have e : ((1 : Int) : Rat) = 1 := rfl
 rw [e]
 constructor <;> grind
theorem Enc.prod (h : Enc U a b x) (k : Enc U a' b' y) (ha : 0 ≤ a) (ha' : 0 ≤ a') (hU : 0 < U) : Enc U (a * a' / U) (cdiv (b * b') U) (x * y) := by
 obtain ⟨h1, h2⟩ := h
 obtain ⟨k1, k2⟩ := k
 have za : (0 : Rat) ≤ (a : Rat) := Rat.intCast_le_intCast.2 ha
 have za' : (0 : Rat) ≤ (a' : Rat) := Rat.intCast_le_intCast.2 ha'
 have m1 := mulm h1 k1 za za'
 have m2 := mulm h2 k2 (Rat.le_trans za h1) (Rat.le_trans za' k1)
 rw [← Rat.intCast_mul] at m1 m2
 have r1 := fl_le hU m1
 have r2 := le_ce hU m2
 have e : x * (U : Rat) * (y * (U : Rat)) / (U : Rat) = x * y * (U : Rat) := by
  have := castI_pos hU
  rw [Rat.div_def]
  have e2 : (U : Rat) * (U : Rat)⁻¹ = 1 := Rat.mul_inv_cancel _ (by grind)
  grind
 rw [e] at r1 r2
 exact ⟨r1, r2⟩
theorem Enc.lo_le {c : Int} (h : Enc U a b x) (hx : x * (U : Rat) ≤ (c : Rat)) : a ≤ c := Rat.intCast_le_intCast.1 (Rat.le_trans h.1 hx)
theorem Enc.le_hi {c : Int} (h : Enc U a b x) (hx : (c : Rat) ≤ x * (U : Rat)) : c ≤ b := Rat.intCast_le_intCast.1 (Rat.le_trans hx h.2)
theorem Enc.le (h : Enc U a b x) : a ≤ b := Rat.intCast_le_intCast.1 (Rat.le_trans h.1 h.2)
theorem Enc.nonneg (h : Enc U a b x) (hx : 0 ≤ x) (hU : 0 < U) : 0 ≤ b := h.le_hi (c := 0) (Rat.mul_nonneg hx (Rat.le_of_lt (castI_pos hU)))
theorem Enc.one : Enc U U U 1 := by unfold Enc; rw [Rat.one_mul]; exact ⟨Rat.le_refl, Rat.le_refl⟩
end
theorem fl_nn {a d : Int} (ha : 0 ≤ a) (hd : 0 < d) : 0 ≤ a / d := Int.ediv_nonneg ha xq
theorem cd_le {b d c : Int} (hd : 0 < d) (h : b ≤ c * d) : cdiv b d ≤ c := by
 have h1 := (cd_mul (b := b) hd).2
 have h2 : cdiv b d * d < (c + 1) * d := by rw [Int.add_mul]; omega
 have := Int.lt_of_mul_lt_mul_right h2 xq
 omega
theorem cd_ge {b d c : Int} (hd : 0 < d) (h : c * d < b) : c + 1 ≤ cdiv b d := by
 have h1 := (cd_mul (b := b) hd).1
 have h2 : c * d < cdiv b d * d := by omega
 have := Int.lt_of_mul_lt_mul_right h2 xq
 omega
theorem cd_self {b d : Int} (hb : 0 ≤ b) (hd : 0 < d) : cdiv b d ≤ b := cd_le hd (by
 have := Int.mul_le_mul_of_nonneg_left (show 1 ≤ d by omega) hb; omega)
theorem cd_half {b d : Int} (hb : 2 ≤ b) (hd : 3 ≤ d) : 2 * cdiv b d ≤ b := by
 have h1 := cd_mul (b := b) (show 0 < d by omega)
 rcases Int.lt_or_le b (2 * cdiv b d) with h | h
 ·exfalso
  have h2 : (b + 1) * d ≤ 2 * cdiv b d * d := Int.mul_le_mul_of_nonneg_right xq xq
  have e : 2 * cdiv b d * d = 2 * (cdiv b d * d) := Int.mul_assoc ..
  rw [Int.add_mul, Int.one_mul, e] at h2
  have h3 : b * 3 ≤ b * d := Int.mul_le_mul_of_nonneg_left hd xq
  have h4 : (b - 2) * 3 ≤ (b - 2) * d := Int.mul_le_mul_of_nonneg_left hd xq
  rw [Int.sub_mul, Int.sub_mul] at h4
  omega
 ·exact h
theorem w3 {a b d : Int} (h : b - a ≤ 3) (hd : 0 < d) : cdiv b d - a / d ≤ 3 := by
 have h1 := cd_width (a := a) (b := b) hd
 rcases Int.lt_or_le 3 (cdiv b d - a / d) with h2 | h2
 ·have h3 := Int.mul_le_mul_of_nonneg_right (show 4 ≤ cdiv b d - a / d by omega) (show 0 ≤ d by omega)
  omega
 ·exact h2
end Nt
end Go.Proofs.YtbolmkfphieogaaGreat
namespace Go.Proofs.YtbolmkfphieogaaGreat
set_option linter.unusedVariables false
namespace Nt
def u2 (w : Nat) : Int := ((2 ^ w : Nat) : Int)
theorem u2_pos (w : Nat) : 0 < u2 w := by
 have := Nat.pow_pos (n := w) (show 0 < 2 by decide)
 unfold u2; omega
theorem u2_add (a b : Nat) : u2 (a + b) = u2 a * u2 b := by unfold u2; rw [Nat.pow_add]; exact Int.natCast_mul _ _
theorem u2_mono {a b : Nat} (h : a ≤ b) : u2 a ≤ u2 b := Int.ofNat_le.2 (Nat.pow_le_pow_right xw h)
theorem u2_le_iff {a b : Nat} (h : u2 a ≤ u2 b) : a ≤ b := (Nat.pow_le_pow_iff_right xw).1 (Int.ofNat_le.1 h)
theorem lin8 : ∀ w : Nat, 16 ≤ w → 8 * (128 * (w : Int) + 800) ≤ u2 w := by
 intro w hw
 obtain ⟨k, rfl⟩ : ∃ k, w = 16 + k := ⟨w - 16, by omega⟩
 induction k with
 | zero => decide +kernel
 | succ k ih =>
  have h1 := ih xq
  have h2 : u2 (16 + (k + 1)) = u2 (16 + k) * 2 := u2_add (16 + k) 1
  rw [h2]; omega
structure AtI (n w j : Nat) (pl ph sl sh : Int) : Prop where
 p : Enc (u2 w) pl ph (atP n j)
 s : Enc (u2 w) sl sh (alt (atT n) (j + 1))
 p0 : 0 ≤ pl
 p1 : 1 ≤ ph
 pw : ph - pl ≤ 3
 sw : sh - sl ≤ 3 * ((j : Int) + 1)
 fall : ph * u2 j ≤ u2 w
def AtR (n w : Nat) (lo hi : Int) : Prop := (∃ N : Nat, ∀ m, N ≤ m → Enc (u2 w) lo hi (alt (atT n) m)) ∧ hi - lo ≤ 5 * (w : Int) + 8
theorem AtI.start {n w : Nat} (hn : 0 < n) : AtI n w 0 (u2 w / (n : Int)) (cdiv (u2 w) (n : Int)) (u2 w / (n : Int)) (cdiv (u2 w) (n : Int)) := by
 have hn' : (0 : Int) < (n : Int) := by omega
 have hU := u2_pos w
 have h1 : Enc (u2 w) (u2 w / (n : Int)) (cdiv (u2 w) (n : Int)) (atP n 0) := Enc.one.over hn'
 have h2 : alt (atT n) (0 + 1) = atP n 0 := by
  show 0 + (1 : Rat) * (atP n 0 / (((2 * 0 + 1 : Nat)) : Rat)) = _
  have e : (((2 * 0 + 1 : Nat)) : Rat) = 1 := rfl
  rw [e]; grind
 have h3 := w3 (a := u2 w) (b := u2 w) (d := (n : Int)) xq hn'
 refine ⟨h1, by rw [h2]; exact h1, fl_nn xq hn', cd_ge (c := 0) hn' xq, h3, by omega, ?_⟩
 have : u2 0 = 1 := rfl
 rw [this, Int.mul_one]
 exact cd_self xq hn'
section
variable {n w j : Nat} {pl ph sl sh : Int}
theorem AtI.jw (h : AtI n w j pl ph sl sh) : j ≤ w := by
 refine u2_le_iff (Int.le_trans ?_ h.fall)
 have := Int.mul_le_mul_of_nonneg_right h.p1 (Int.le_of_lt (u2_pos j))
 omega
theorem AtI.power (h : AtI n w j pl ph sl sh) (hn : 0 < n) : Enc (u2 w) (pl / ((n * n : Nat) : Int)) (cdiv ph ((n * n : Nat) : Int)) (atP n (j + 1)) := h.p.over (by have := Nat.mul_pos hn hn; omega)
theorem AtI.term (h : AtI n w j pl ph sl sh) (hn : 0 < n) : Enc (u2 w) (pl / ((n * n : Nat) : Int) / ((2 * j + 3 : Nat) : Int)) (cdiv (cdiv ph ((n * n : Nat) : Int)) ((2 * j + 3 : Nat) : Int)) (atT n (j + 1)) :=
 (h.power hn).over (d := ((2 * j + 3 : Nat) : Int)) xq
theorem AtI.pw' (h : AtI n w j pl ph sl sh) (hn : 0 < n) : cdiv ph ((n * n : Nat) : Int) - pl / ((n * n : Nat) : Int) ≤ 3 := w3 h.pw (by have := Nat.mul_pos hn hn; omega)
theorem AtI.tw (h : AtI n w j pl ph sl sh) (hn : 0 < n) : cdiv (cdiv ph ((n * n : Nat) : Int)) ((2 * j + 3 : Nat) : Int) - pl / ((n * n : Nat) : Int) / ((2 * j + 3 : Nat) : Int) ≤ 3 := w3 (h.pw' hn) xq
theorem AtI.sub (h : AtI n w j pl ph sl sh) (hn : 0 < n) (hj : j % 2 = 0) : Enc (u2 w) (sl - cdiv (cdiv ph ((n * n : Nat) : Int)) ((2 * j + 3 : Nat) : Int)) (sh - pl / ((n * n : Nat) : Int) / ((2 * j + 3 : Nat) : Int)) (alt (atT n) (j + 1 + 1)) := by
 have h1 := h.s.sub (h.term hn)
 have e : alt (atT n) (j + 1 + 1) = alt (atT n) (j + 1) - atT n (j + 1) := by
  rw [alt_s]; unfold sgn; rw [if_neg xq]; grind
 rw [e]; exact h1
theorem AtI.add (h : AtI n w j pl ph sl sh) (hn : 0 < n) (hj : ¬ j % 2 = 0) : Enc (u2 w) (sl + pl / ((n * n : Nat) : Int) / ((2 * j + 3 : Nat) : Int)) (sh + cdiv (cdiv ph ((n * n : Nat) : Int)) ((2 * j + 3 : Nat) : Int)) (alt (atT n) (j + 1 + 1)) := by
 have h1 := h.s.add (h.term hn)
 have e : alt (atT n) (j + 1 + 1) = alt (atT n) (j + 1) + atT n (j + 1) := by
  rw [alt_s]; unfold sgn; rw [if_pos xq]; grind
 rw [e]; exact h1
theorem AtI.go {sl' sh' : Int} (h : AtI n w j pl ph sl sh) (hn : 2 ≤ n) (ht : 2 ≤ cdiv (cdiv ph ((n * n : Nat) : Int)) ((2 * j + 3 : Nat) : Int)) (hs : Enc (u2 w) sl' sh' (alt (atT n) (j + 1 + 1))) (hw : sh' - sl' ≤ sh - sl + 3) :
  AtI n w (j + 1) (pl / ((n * n : Nat) : Int)) (cdiv ph ((n * n : Nat) : Int)) sl' sh' ∧ cdiv ph ((n * n : Nat) : Int) < ph := by
 have hnn : 4 ≤ n * n := Nat.mul_le_mul hn hn
 have h0 := h.p1
 have h1 : 1 ≤ cdiv ph ((n * n : Nat) : Int) := cd_ge (c := 0) xq xq
 have h2 := cd_self (b := cdiv ph ((n * n : Nat) : Int)) (d := ((2 * j + 3 : Nat) : Int)) xq xq
 have h3 := cd_self (b := ph) (d := ((n * n : Nat) : Int)) xq xq
 have h4 := cd_half (b := ph) (d := ((n * n : Nat) : Int)) xq xq
 refine ⟨⟨h.power xq, hs, fl_nn h.p0 xq, h1, h.pw' xq, by have := h.sw; omega, ?_⟩, by omega⟩
 have h5 : u2 (j + 1) = u2 j * 2 := u2_add j 1
 have h6 := Int.mul_le_mul_of_nonneg_right h4 (Int.le_of_lt (u2_pos j))
 have h7 := h.fall
 rw [h5]
 have e : cdiv ph ((n * n : Nat) : Int) * (u2 j * 2) = 2 * cdiv ph ((n * n : Nat) : Int) * u2 j := by grind
 rw [e]; omega
theorem AtI.out {sl' sh' : Int} (h : AtI n w j pl ph sl sh) (hn : 0 < n) (ht : cdiv (cdiv ph ((n * n : Nat) : Int)) ((2 * j + 3 : Nat) : Int) ≤ 1) (hs : Enc (u2 w) sl' sh' (alt (atT n) (j + 1 + 1))) (hw : sh' - sl' ≤ sh - sl + 3) : AtR n w (sl' - 1) (sh' + 1) := by
 refine ⟨⟨j + 1 + 1, fun m hm => ?_⟩, by have := h.jw; have := h.sw; omega⟩
 have h1 := alt_near (j0 := 0) (atT_nn hn) (fun j _ => atT_le hn j) (Nat.zero_le _) hm
 refine hs.near h1.1 h1.2 ?_ (u2_pos w)
 have h2 := (h.term hn).2
 have h3 := Rat.mul_le_mul_of_nonneg_right (atT_le hn (j + 1)) (Rat.le_of_lt (castI_pos (u2_pos w)))
 have h4 : ((cdiv (cdiv ph ((n * n : Nat) : Int)) ((2 * j + 3 : Nat) : Int) : Int) : Rat) ≤ ((1 : Int) : Rat) := Rat.intCast_le_intCast.2 ht
 have e : ((1 : Int) : Rat) = 1 := rfl
 rw [e] at h4
 exact Rat.le_trans h3 (Rat.le_trans h2 h4)
theorem AtI.bd (h : AtI n w j pl ph sl sh) (hn : 0 < n) : ph ≤ u2 w ∧ -(3 * ((w : Int) + 1)) ≤ sl ∧ sl ≤ u2 w ∧ 0 ≤ sh ∧ sh ≤ u2 w + 3 * ((w : Int) + 1) := by
 have h1 := atT_b (n := n) hn (m := j + 1) xq
 have h2 := atT_le hn 0
 have hU := castI_pos (u2_pos w)
 have h3 : alt (atT n) (j + 1) ≤ 1 := by
  refine Rat.le_trans h1.2 ?_
  have e : atT n 0 = atP n 0 / ((2 * 0 + 1 : Nat) : Rat) := rfl
  rw [e]
  refine Rat.le_trans (div_le_self (atP_nn hn 0) (cast_one xq)) ?_
  show 1 / (n : Rat) ≤ 1
  exact div_le_self xw (cast_one hn)
 have h4 : alt (atT n) (j + 1) * (u2 w : Rat) ≤ (u2 w : Rat) := by
  have := Rat.mul_le_mul_of_nonneg_right h3 (Rat.le_of_lt hU)
  rwa [Rat.one_mul] at this
 have h5 := h.s.lo_le h4
 have h6 := h.s.nonneg (by grind) (u2_pos w)
 have h7 := h.sw
 have h8 := h.jw
 have h9 := h.fall
 have h10 := Int.mul_le_mul_of_nonneg_left (show 1 ≤ u2 j by have := u2_pos j; omega) (show 0 ≤ ph by have := h.p1; omega)
 refine ⟨by omega, by omega, h5, h6, by omega⟩
end
def PiR (w : Nat) (lo hi : Int) : Prop := (∃ N : Nat, ∀ m, N ≤ m → Enc (u2 w) lo hi (piN m)) ∧ hi - lo ≤ 128 * (w : Int) + 400
theorem PiR.of {w : Nat} {a b c d : Int} (h : AtR 5 w a b) (k : AtR 239 w c d) : PiR w (a * 16 - d * 4) (b * 16 - c * 4) := by
 obtain ⟨⟨N, h1⟩, h2⟩ := h
 obtain ⟨⟨M, k1⟩, k2⟩ := k
 refine ⟨⟨max N M, fun m hm => ?_⟩, by omega⟩
 have e := ((h1 m xq).times (n := 16)).sub ((k1 m xq).times (n := 4))
 have e2 : piN m = alt (atT 5) m * ((16 : Nat) : Rat) - alt (atT 239) m * ((4 : Nat) : Rat) := by
  unfold piN
  rw [Rat.mul_comm, Rat.mul_comm 4]; rfl
 rw [e2]; exact e
theorem PiR.bd {w : Nat} {a b : Int} (h : PiR w a b) (hw : 16 ≤ w) : 0 ≤ a ∧ b ≤ 4 * u2 w ∧ a ≤ b ∧ 1 ≤ b := by
 obtain ⟨⟨N, h1⟩, h2⟩ := h
 have h3 := h1 (N + 1) xq
 have h4 := piN_b (m := N + 1) xq
 have hU := castI_pos (u2_pos w)
 have l8 := lin8 w hw
 have h5 : 3 * u2 w ≤ b := h3.le_hi (by
  rw [Rat.intCast_mul]
  refine Rat.mul_le_mul_of_nonneg_right (Rat.le_trans ?_ h4.1) (Rat.le_of_lt hU)
  decide +kernel)
 have h6 : 5 * a ≤ 16 * u2 w := by
  have h7 := Rat.mul_le_mul_of_nonneg_right h4.2 (Rat.le_of_lt hU)
  have h8 := h3.1
  refine Rat.intCast_le_intCast.1 ?_
  rw [Rat.intCast_mul, Rat.intCast_mul]
  have e5 : ((5 : Int) : Rat) = 5 := rfl
  have e16 : ((16 : Int) : Rat) = 16 := rfl
  rw [e5, e16]
  grind
 have := h3.le
 have := u2_pos w
 omega
end Nt
end Go.Proofs.YtbolmkfphieogaaGreat
namespace Go.Proofs.YtbolmkfphieogaaGreat
set_option linter.unusedVariables false
namespace Nt
theorem cdw {a b d W : Int} (hd : 0 < d) (h : b - a ≤ W * d) : cdiv b d - a / d ≤ W + 1 := by
 have h1 := cd_width (a := a) (b := b) hd
 rcases Int.lt_or_le (W + 1) (cdiv b d - a / d) with h2 | h2
 ·have h3 := Int.mul_le_mul_of_nonneg_right (show W + 2 ≤ cdiv b d - a / d by omega) (show 0 ≤ d by omega)
  rw [Int.add_mul] at h3
  omega
 ·exact h2
theorem prod_width {U a b c d W V A C : Int} (hU : 0 < U) (ha : 0 ≤ a) (hc : 0 ≤ c) (h1 : b - a ≤ W) (h2 : d - c ≤ V) (h3 : a ≤ A * U) (h4 : d ≤ C * U) (hA : 0 ≤ A) (hC : 0 ≤ C) (hW : 0 ≤ W) (hV : 0 ≤ V) (hab : a ≤ b) (hcd : c ≤ d) : cdiv (b * d) U - a * c / U ≤ W * C + V * A + 1 := by
 refine cdw hU ?_
 have e : b * d - a * c = (b - a) * d + (d - c) * a := by grind
 have k1 : (b - a) * d ≤ W * (C * U) := Int.le_trans (Int.mul_le_mul_of_nonneg_right h1 xq) (Int.mul_le_mul_of_nonneg_left h4 hW)
 have k2 : (d - c) * a ≤ V * (A * U) := Int.le_trans (Int.mul_le_mul_of_nonneg_right h2 ha) (Int.mul_le_mul_of_nonneg_left h3 hV)
 have e2 : (W * C + V * A) * U = W * (C * U) + V * (A * U) := by grind
 rw [e, e2]; omega
def CsY (p q w : Nat) (lo hi : Int) : Prop := (∃ N : Nat, ∀ m, N ≤ m → Enc (u2 w) lo hi (csY p q m)) ∧ hi - lo ≤ 128 * (w : Int) + 402 ∧ 0 ≤ lo ∧ hi ≤ 2 * u2 w ∧ lo ≤ hi ∧ 1 ≤ hi
theorem csY_b {p q m : Nat} (hq : 0 < q) (hp : 2 * p ≤ q) (hm : 1 ≤ m) : 0 ≤ csY p q m ∧ csY p q m ≤ 8 / 5 := by
 have h1 := piN_b hm
 have hq' := cast_pos hq
 have hp0 : (0 : Rat) ≤ (p : Rat) := Rat.natCast_le_natCast.2 (Nat.zero_le p)
 have hpi0 : 0 ≤ piN m := Rat.le_trans (by decide +kernel) h1.1
 unfold csY
 refine ⟨div_nn (Rat.mul_nonneg hpi0 hp0) hq', dv_le hq' ?_⟩
 have h2 : ((2 * p : Nat) : Rat) ≤ (q : Rat) := Rat.natCast_le_natCast.2 hp
 rw [Rat.natCast_mul] at h2
 have e2 : ((2 : Nat) : Rat) = 2 := rfl
 rw [e2] at h2
 have h3 := Rat.mul_le_mul_of_nonneg_right h1.2 hp0
 have h4 := Rat.mul_le_mul_of_nonneg_left (c := (8 / 5 : Rat)) h2 (by decide +kernel)
 have e3 : (8 / 5 : Rat) * (2 * (p : Rat)) = 16 / 5 * (p : Rat) := by grind
 rw [e3] at h4
 exact Rat.le_trans h3 h4
theorem CsY.of {p q w : Nat} {a b : Int} (h : PiR w a b) (hw : 16 ≤ w) (hq : 0 < q) (hp : 2 * p ≤ q) (hp1 : 1 ≤ p) : CsY p q w (a * (p : Int) / (q : Int)) (cdiv (b * (p : Int)) (q : Int)) := by
 obtain ⟨h0, h4, hab, hb1⟩ := h.bd hw
 obtain ⟨⟨N, h1⟩, h2⟩ := h
 have l8 := lin8 w hw
 have hU := u2_pos w
 have E : ∀ m, N ≤ m → Enc (u2 w) (a * (p : Int) / (q : Int)) (cdiv (b * (p : Int)) (q : Int)) (csY p q m) := fun m hm => ((h1 m hm).times (n := p)).over (d := (q : Int)) xq
 have hwd : cdiv (b * (p : Int)) (q : Int) - a * (p : Int) / (q : Int) ≤ 128 * (w : Int) + 402 := by
  have := cdw (a := a * (p : Int)) (b := b * (p : Int)) (d := (q : Int)) (W := 128 * (w : Int) + 400) xq (by
   rw [← Int.sub_mul]
   exact Int.le_trans (Int.mul_le_mul_of_nonneg_right h2 xq) (Int.mul_le_mul_of_nonneg_left (show (p : Int) ≤ (q : Int) by omega) xq))
  omega
 have hlo : 0 ≤ a * (p : Int) / (q : Int) := fl_nn (Int.mul_nonneg h0 xq) xq
 have e1 := E (N + 1) xq
 have h5 : 5 * (a * (p : Int) / (q : Int)) ≤ 8 * u2 w := by
  have h6 := csY_b (m := N + 1) hq hp xq
  have h7 := Rat.mul_le_mul_of_nonneg_right h6.2 (Rat.le_of_lt (castI_pos hU))
  have h8 := e1.1
  refine Rat.intCast_le_intCast.1 ?_
  rw [Rat.intCast_mul, Rat.intCast_mul]
  have e5 : ((5 : Int) : Rat) = 5 := rfl
  have e16 : ((8 : Int) : Rat) = 8 := rfl
  rw [e5, e16]
  grind
 have hbp : 1 ≤ b * (p : Int) := by
  have := Int.mul_le_mul hb1 (show (1 : Int) ≤ (p : Int) by omega) xw xq
  omega
 exact ⟨⟨N, E⟩, hwd, hlo, by omega, e1.le, cd_ge (c := 0) xq xq⟩
def CsQ (p q w : Nat) (lo hi : Int) : Prop := (∃ N : Nat, ∀ m, N ≤ m → Enc (u2 w) lo hi (csY p q m * csY p q m)) ∧ hi - lo ≤ 512 * (w : Int) + 1609 ∧ 0 ≤ lo ∧ hi ≤ 4 * u2 w ∧ lo ≤ hi ∧ 1 ≤ hi
theorem CsQ.of {p q w : Nat} {a b : Int} (h : CsY p q w a b) : CsQ p q w (a * a / u2 w) (cdiv (b * b) (u2 w)) := by
 obtain ⟨⟨N, h1⟩, h2, h3, h4, h5, h51⟩ := h
 have hU := u2_pos w
 have E : ∀ m, N ≤ m → Enc (u2 w) (a * a / u2 w) (cdiv (b * b) (u2 w)) (csY p q m * csY p q m) := fun m hm => (h1 m hm).prod (h1 m hm) h3 h3 hU
 refine ⟨⟨N, E⟩, ?_, fl_nn (Int.mul_nonneg h3 h3) hU, cd_le hU ?_, (E N (Nat.le_refl _)).le, cd_ge (c := 0) hU (by have := Int.mul_le_mul h51 h51 xw xq; omega)⟩
 ·have := prod_width (A := 2) (C := 2) hU h3 h3 h2 h2 xq h4 xq xq xq xq h5 h5
  omega
 ·have h6 := Int.mul_le_mul h4 h4 xq xq
  have e : 2 * u2 w * (2 * u2 w) = 4 * u2 w * u2 w := by grind
  rw [e] at h6; exact h6
def csW (w : Nat) : Int := 512 * (w : Int) + 1611
structure CsT (p q w j : Nat) (tl th : Int) : Prop where
 e : ∃ N : Nat, ∀ m, N ≤ m → Enc (u2 w) tl th (csT (csY p q m) j)
 t0 : 0 ≤ tl
 t1 : 1 ≤ th
 tt : tl ≤ th
 t2 : th ≤ 2 * u2 w
 tw : th - tl ≤ csW w
 t00 : j = 0 → tl = th ∧ th = u2 w
 fall : th * u2 j ≤ 4 * u2 w
theorem CsT.start {p q w : Nat} : CsT p q w 0 (u2 w) (u2 w) := by
 have hU := u2_pos w
 refine ⟨⟨0, fun m _ => Enc.one⟩, by omega, by omega, by omega, by omega, ?_, fun _ => ⟨rfl, rfl⟩, ?_⟩
 ·unfold csW; omega
 ·show u2 w * 1 ≤ _; omega
def coD (j : Nat) : Int := (((2 * j + 2) * (2 * j + 1) : Nat) : Int)
theorem coD_pos (j : Nat) : 2 ≤ coD j := by
 have := Nat.mul_le_mul (show 2 ≤ 2 * j + 2 by omega) (show 1 ≤ 2 * j + 1 by omega)
 unfold coD; omega
theorem coD_12 {j : Nat} (hj : 1 ≤ j) : 12 ≤ coD j := by
 have := Nat.mul_le_mul (show 4 ≤ 2 * j + 2 by omega) (show 3 ≤ 2 * j + 1 by omega)
 unfold coD; omega
def csL (w j : Nat) (tl ql : Int) : Int := tl * ql / u2 w / coD j
def csH (w j : Nat) (th qh : Int) : Int := cdiv (cdiv (th * qh) (u2 w)) (coD j)
section
variable {p q w j : Nat} {tl th ql qh : Int}
theorem CsT.jw (h : CsT p q w j tl th) : j ≤ w + 2 := by
 refine u2_le_iff (Int.le_trans ?_ (Int.le_trans h.fall (by rw [u2_add w 2]; show 4 * u2 w ≤ u2 w * 4; omega)))
 have := Int.mul_le_mul_of_nonneg_right h.t1 (Int.le_of_lt (u2_pos j))
 omega
theorem CsT.term (h : CsT p q w j tl th) (hq : CsQ p q w ql qh) : ∃ N : Nat, ∀ m, N ≤ m → Enc (u2 w) (csL w j tl ql) (csH w j th qh) (csT (csY p q m) (j + 1)) := by
 obtain ⟨N, h1⟩ := h.e
 obtain ⟨⟨M, k1⟩, k2, k3, k4, k5, k6⟩ := hq
 exact ⟨max N M, fun m hm => (((h1 m xq).prod (k1 m xq) h.t0 k3 (u2_pos w)).over (by have := coD_pos j; omega))⟩
theorem CsT.next (h : CsT p q w j tl th) (hq : CsQ p q w ql qh) (ht : j ≤ 1 ∨ 2 ≤ th) : CsT p q w (j + 1) (csL w j tl ql) (csH w j th qh) ∧ (1 ≤ j → csH w j th qh ≤ th) ∧ (1 ≤ j → 2 ≤ th → 2 * csH w j th qh ≤ th) := by
 have hE := h.term hq
 have hU := u2_pos w
 have hd := coD_pos j
 obtain ⟨N, h1⟩ := id hE
 have hle := (h1 N (Nat.le_refl _)).le
 obtain ⟨_, k2, k3, k4, k5, k6⟩ := hq
 have t0 := h.t0
 have t1 := h.t1
 have t2 := h.t2
 have tt := h.tt
 have tw := h.tw
 have hfl := h.fall
 have g0 : 0 ≤ csL w j tl ql := fl_nn (fl_nn (Int.mul_nonneg t0 k3) hU) xq
 have g1 : cdiv (th * qh) (u2 w) ≤ 4 * th := cd_le hU (by
  have := Int.mul_le_mul_of_nonneg_left k4 (show 0 ≤ th by omega)
  have e : th * (4 * u2 w) = 4 * th * u2 w := by grind
  rw [e] at this; exact this)
 have g2 : csH w j th qh ≤ 2 * th := cd_le xq (by
  have := Int.mul_le_mul_of_nonneg_left hd (show 0 ≤ 2 * th by omega); omega)
 have g3 : 1 ≤ j → csH w j th qh ≤ cdiv th 3 := fun hj => cd_le xq (by
  have h5 := (cd_mul (b := th) (d := 3) xw).1
  have h6 := Int.mul_le_mul_of_nonneg_left (coD_12 hj) (show 0 ≤ cdiv th 3 by omega)
  omega)
 have g4 : cdiv th 3 ≤ th := cd_self xq xw
 have g5 : 1 ≤ th * qh := by
  have := Int.mul_le_mul t1 k6 xw xq
  omega
 have g6 : 1 ≤ cdiv (th * qh) (u2 w) := cd_ge (c := 0) hU xq
 have g7 : 1 ≤ csH w j th qh := cd_ge (c := 0) xq xq
 have g8 : 1 ≤ j → 2 ≤ th → 2 * csH w j th qh ≤ th := fun hj h2 => by
  have h3 := g3 hj
  have h4 := cd_half (b := th) (d := 3) h2 xw
  omega
 have g9 : 1 ≤ j → csH w j th qh ≤ th := fun hj => Int.le_trans (g3 hj) g4
 have g10 : csH w j th qh ≤ 2 * u2 w := by
  by_cases hj : j = 0
  ·rw [(h.t00 hj).2] at g2 ⊢
   exact g2
  ·have := g9 xq; omega
 refine ⟨⟨hE, g0, g7, hle, g10, ?_, by omega, ?_⟩, g9, g8⟩
 ·by_cases hj : j = 0
  ·obtain ⟨e1, e2⟩ := h.t00 hj
   have := prod_width (A := 1) (C := 4) (W := 0) (V := 512 * (w : Int) + 1609) hU t0 k3 xq k2 xq k4 xq xq xq xq tt k5
   have h9 := cdw (a := tl * ql / u2 w) (b := cdiv (th * qh) (u2 w)) (d := coD j) (W := 512 * (w : Int) + 1610) xq (by
    have := Int.mul_le_mul_of_nonneg_left (show 1 ≤ coD j by omega) (show 0 ≤ 512 * (w : Int) + 1610 by omega)
    omega)
   unfold csW csL csH; omega
  ·have hj1 : 1 ≤ j := by omega
   have hd12 := coD_12 hj1
   have := prod_width (A := 2) (C := 4) (W := csW w) (V := 512 * (w : Int) + 1609) hU t0 k3 tw k2 xq k4 xq xq (by unfold csW; omega) xq tt k5
   have h9 := cdw (a := tl * ql / u2 w) (b := cdiv (th * qh) (u2 w)) (d := coD j) (W := 512 * (w : Int) + 1610) xq (by
    have := Int.mul_le_mul_of_nonneg_left hd12 (show 0 ≤ 512 * (w : Int) + 1610 by omega)
    unfold csW at *
    omega)
   unfold csW csL csH; omega
 ·have e2 : u2 (j + 1) = u2 j * 2 := u2_add j 1
  rw [e2]
  have e : csH w j th qh * (u2 j * 2) = 2 * csH w j th qh * u2 j := by grind
  rw [e]
  by_cases hj : j = 0
  ·subst hj
   show 2 * csH w 0 th qh * 1 ≤ _
   omega
  ·by_cases h2 : 2 ≤ th
   ·have h4 := g8 xq h2
    exact Int.le_trans (Int.mul_le_mul_of_nonneg_right h4 (Int.le_of_lt (u2_pos j))) hfl
   ·have h4 := g9 xq
    obtain rfl : j = 1 := by omega
    show 2 * csH w 1 th qh * 2 ≤ _
    omega
end
structure CsI (p q w j : Nat) (tl th sl sh : Int) : Prop where
 c : CsT p q w j tl th
 s : ∃ N : Nat, ∀ m, N ≤ m → Enc (u2 w) sl sh (alt (csT (csY p q m)) (j + 1))
 sw : sh - sl ≤ csW w * (j : Int)
def CsR (p q w : Nat) (lo hi : Int) : Prop := (∃ N : Nat, ∀ m, N ≤ m → Enc (u2 w) lo hi (coN p q m)) ∧ hi - lo ≤ csW w * ((w : Int) + 4) + 2
theorem CsI.start {p q w : Nat} : CsI p q w 0 (u2 w) (u2 w) (u2 w) (u2 w) := by
 refine ⟨CsT.start, ⟨0, fun m _ => ?_⟩, by omega⟩
 have : alt (csT (csY p q m)) (0 + 1) = 1 := by show 0 + (1 : Rat) * 1 = 1; decide +kernel
 rw [this]; exact Enc.one
def csM (w j : Nat) (th : Int) : Nat := if j = 0 then (4 * u2 w).toNat else th.toNat
def CsS (w j : Nat) (tl th ql qh sl sh sl' sh' : Int) : Prop := j % 2 = 0 ∧ sl' = sl - csH w j th qh ∧ sh' = sh - csL w j tl ql ∨ ¬ j % 2 = 0 ∧ sl' = sl + csL w j tl ql ∧ sh' = sh + csH w j th qh
section
variable {p q w j : Nat} {tl th sl sh ql qh sl' sh' : Int}
theorem CsI.sum (h : CsI p q w j tl th sl sh) (hq : CsQ p q w ql qh) (hs : CsS w j tl th ql qh sl sh sl' sh') : (∃ N : Nat, ∀ m, N ≤ m → Enc (u2 w) sl' sh' (alt (csT (csY p q m)) (j + 1 + 1))) ∧ sh' - sl' = sh - sl + (csH w j th qh - csL w j tl ql) := by
 obtain ⟨N, h1⟩ := h.c.term hq
 obtain ⟨M, h2⟩ := h.s
 rcases hs with ⟨e, rfl, rfl⟩ | ⟨e, rfl, rfl⟩
 ·refine ⟨⟨max N M, fun m hm => ?_⟩, by omega⟩
  have e2 : alt (csT (csY p q m)) (j + 1 + 1) = alt (csT (csY p q m)) (j + 1) - csT (csY p q m) (j + 1) := by
   rw [alt_s]; unfold sgn; rw [if_neg xq]; grind
  rw [e2]; exact (h2 m xq).sub (h1 m xq)
 ·refine ⟨⟨max N M, fun m hm => ?_⟩, by omega⟩
  have e2 : alt (csT (csY p q m)) (j + 1 + 1) = alt (csT (csY p q m)) (j + 1) + csT (csY p q m) (j + 1) := by
   rw [alt_s]; unfold sgn; rw [if_pos xq]; grind
  rw [e2]; exact (h2 m xq).add (h1 m xq)
theorem CsI.go (h : CsI p q w j tl th sl sh) (hq : CsQ p q w ql qh) (ht : j = 0 ∨ 2 ≤ csH w j th qh) (hs : CsS w j tl th ql qh sl sh sl' sh') :
  CsI p q w (j + 1) (csL w j tl ql) (csH w j th qh) sl' sh' ∧ csM w (j + 1) (csH w j th qh) < csM w j th := by
 have hT : 1 ≤ j → csH w j th qh ≤ th := fun hj => (h.c.next hq (by
  rcases Int.lt_or_le th 2 with h2 | h2
  ·exact .inl (by
    have hd := coD_12 hj
    have hU := u2_pos w
    have t1 := h.c.t1
    have k4 := hq.2.2.2.1
    have k1 : csH w j th qh ≤ 1 := cd_le xq (by
     have : cdiv (th * qh) (u2 w) ≤ 4 := cd_le hU (by
      have e : th = 1 := by omega
      rw [e, Int.one_mul]; exact k4)
     omega)
    omega)
  ·exact .inr h2)).2.1 hj
 have hN := h.c.next hq (by
  by_cases hj : j = 0
  ·exact .inl xq
  ·have := hT xq; exact .inr xq)
 obtain ⟨S1, S2⟩ := h.sum hq hs
 have hsw := h.sw
 have hU := u2_pos w
 have htw := hN.1.tw
 have e : csW w * (((j + 1 : Nat)) : Int) = csW w * (j : Int) + csW w := by rw [Int.natCast_add, Int.mul_add]; simp
 refine ⟨⟨hN.1, S1, by rw [e]; omega⟩, ?_⟩
 have ht2 := hN.1.t2
 unfold csM
 rw [if_neg xq]
 by_cases hj : j = 0
 ·rw [if_pos hj]; omega
 ·rw [if_neg hj]
  have h4 := hN.2.2 xq (by have := hT xq; omega)
  omega
theorem cs_near {x : Nat → Rat} {m : Nat} {y : Rat} {j : Nat} (hy : 0 ≤ y ∧ y ≤ 8 / 5) (hj : 1 ≤ j) (hm : j ≤ m) : alt (csT y) j - csT y j ≤ alt (csT y) m ∧ alt (csT y) m ≤ alt (csT y) j + csT y j := by
 have hyy : y * y ≤ 12 := Rat.le_trans (mulm hy.2 hy.2 hy.1 hy.1) (by decide +kernel)
 exact alt_near (j0 := 1) (csT_nn _) (csT_le hyy) hj hm
theorem CsI.out (h : CsI p q w j tl th sl sh) (hq : CsQ p q w ql qh) (h0 : 0 < q) (hp : 2 * p ≤ q) (hj : 1 ≤ j) (ht : csH w j th qh ≤ 1) (hs : CsS w j tl th ql qh sl sh sl' sh') : CsR p q w (sl' - 1) (sh' + 1) := by
 obtain ⟨S1, S2⟩ := h.sum hq hs
 obtain ⟨M, h2⟩ := S1
 obtain ⟨N, h1⟩ := h.c.term hq
 have hU := u2_pos w
 have hL : 0 ≤ csL w j tl ql := fl_nn (fl_nn (Int.mul_nonneg h.c.t0 hq.2.2.1) hU) (by have := coD_pos j; omega)
 refine ⟨⟨max (max N M) (j + 2), fun m hm => ?_⟩, ?_⟩
 ·have hy := csY_b (m := m) h0 hp xq
  have hyy : csY p q m * csY p q m ≤ 12 := Rat.le_trans (mulm hy.2 hy.2 hy.1 hy.1) (by decide +kernel)
  have h3 := cs_near (x := fun _ => 0) (m := m) (j := j + 1 + 1) hy xq xq
  have h4 := csT_le hyy (j + 1) xq
  refine (h2 m xq).near h3.1 h3.2 ?_ hU
  have h5 := Rat.mul_le_mul_of_nonneg_right h4 (Rat.le_of_lt (castI_pos hU))
  have h6 : ((csH w j th qh : Int) : Rat) ≤ ((1 : Int) : Rat) := Rat.intCast_le_intCast.2 ht
  have e : ((1 : Int) : Rat) = 1 := rfl
  rw [e] at h6
  exact Rat.le_trans h5 (Rat.le_trans (h1 m xq).2 h6)
 ·have h6 := h.sw
  have h7 := h.c.jw
  have h8 := Int.mul_le_mul_of_nonneg_left (show (j : Int) + 1 ≤ (w : Int) + 4 by omega) (show 0 ≤ csW w by unfold csW; omega)
  rw [Int.mul_add] at h8
  have : 1 ≤ csW w := by unfold csW; omega
  omega
theorem cs_bd {N : Nat} {m : Nat} (h0 : 0 < q) (hp : 2 * p ≤ q) (hm : 1 ≤ m) (hj : 1 ≤ j) (h2 : Enc (u2 w) sl sh (alt (csT (csY p q m)) j)) : sl ≤ 3 * u2 w ∧ -(3 * u2 w) ≤ sh := by
 have hy := csY_b (m := m) h0 hp hm
 have h3 := cs_near (x := fun _ => 0) (j := 1) (m := j) hy xq xq
 have hyy := mulm hy.2 hy.2 hy.1 hy.1
 have e1 : alt (csT (csY p q m)) 1 = 1 := by show 0 + (1 : Rat) * 1 = 1; decide +kernel
 have h4 : csT (csY p q m) 1 ≤ 2 := by
  show 1 * (csY p q m * csY p q m) / (((2 * 0 + 2) * (2 * 0 + 1) : Nat) : Rat) ≤ 2
  refine dv_le (cast_pos xw) ?_
  rw [Rat.one_mul]
  exact Rat.le_trans hyy (by decide +kernel)
 rw [e1] at h3
 have hU := castI_pos (u2_pos w)
 have h5 : alt (csT (csY p q m)) j * (u2 w : Rat) ≤ ((3 * u2 w : Int) : Rat) := by
  rw [Rat.intCast_mul]
  refine Rat.mul_le_mul_of_nonneg_right ?_ (Rat.le_of_lt hU)
  have e : ((3 : Int) : Rat) = 3 := rfl
  rw [e]; grind
 have h6 : ((-(3 * u2 w) : Int) : Rat) ≤ alt (csT (csY p q m)) j * (u2 w : Rat) := by
  have e : -(3 * u2 w) = (-3) * u2 w := by omega
  rw [e, Rat.intCast_mul]
  refine Rat.mul_le_mul_of_nonneg_right ?_ (Rat.le_of_lt hU)
  have e : ((-3 : Int) : Rat) = -3 := rfl
  rw [e]; grind
 exact ⟨h2.lo_le h5, h2.le_hi h6⟩
theorem CsI.bd (h : CsI p q w j tl th sl sh) (h0 : 0 < q) (hp : 2 * p ≤ q) : -(csW w * ((w : Int) + 2)) - 3 * u2 w ≤ sl ∧ sl ≤ 3 * u2 w ∧ -(3 * u2 w) ≤ sh ∧ sh ≤ 3 * u2 w + csW w * ((w : Int) + 2) := by
 obtain ⟨N, h1⟩ := h.s
 have h2 := cs_bd (N := N) (m := N + 1) h0 hp xq xq (h1 (N + 1) xq)
 have h9 := h.sw
 have h10 := h.c.jw
 have h11 := Int.mul_le_mul_of_nonneg_left (show (j : Int) ≤ (w : Int) + 2 by omega) (show 0 ≤ csW w by unfold csW; omega)
 omega
end
def FlO (X : Nat → Rat) (b : Nat) (z : Int) : Prop := ∃ N : Nat, ∀ m, N ≤ m → (z : Rat) ≤ X m * (u2 b : Rat) ∧ X m * (u2 b : Rat) < ((z + 1 : Int) : Rat)
theorem FlO.uniq {X : Nat → Rat} {b : Nat} {y z : Int} (h : FlO X b y) (k : FlO X b z) : y = z := by
 obtain ⟨N, h⟩ := h
 obtain ⟨M, k⟩ := k
 have h1 := h (max N M) xq
 have k1 := k (max N M) xq
 have a := Rat.intCast_lt_intCast.1 (Std.lt_of_le_of_lt h1.1 k1.2)
 have c := Rat.intCast_lt_intCast.1 (Std.lt_of_le_of_lt k1.1 h1.2)
 omega
theorem FlO.of {X : Nat → Rat} {b w : Nat} {lo hi z : Int} (h : ∃ N : Nat, ∀ m, N ≤ m → Enc (u2 w) lo hi (X m)) (hb : b ≤ w) (h1 : lo / u2 (w - b) = z) (h2 : hi / u2 (w - b) = z) : FlO X b z := by
 obtain ⟨N, h⟩ := h
 refine ⟨N, fun m hm => ?_⟩
 have h3 := h m hm
 have hp := u2_pos (w - b)
 have e : u2 w = u2 b * u2 (w - b) := by rw [← u2_add, show b + (w - b) = w by omega]
 have k1 := (fl_mul (a := lo) hp).1
 have k2 := Int.lt_ediv_add_one_mul_self hi hp
 rw [h1] at k1
 rw [h2] at k2
 have r1 := Rat.intCast_le_intCast.2 k1
 have r2 := Rat.intCast_lt_intCast.2 k2
 rw [Rat.intCast_mul] at r1 r2
 obtain ⟨h4, h5⟩ := h3
 rw [e, Rat.intCast_mul, ← Rat.mul_assoc] at h4 h5
 refine ⟨Rat.le_of_mul_le_mul_right (Rat.le_trans r1 h4) (castI_pos hp), ?_⟩
 by_cases h6 : X m * (u2 b : Rat) < ((z + 1 : Int) : Rat)
 ·exact h6
 ·have h7 := Rat.mul_le_mul_of_nonneg_right (Rat.not_lt.1 h6) (Rat.le_of_lt (castI_pos hp))
  exact absurd (Std.lt_of_le_of_lt (Rat.le_trans h7 h5) r2) (by grind)
def Gap (X : Nat → Rat) (b g : Nat) : Prop := b ≤ g ∧ ∃ (z : Int) (N : Nat), ∀ m, N ≤ m → ((z * u2 (g - b) + 1 : Int) : Rat) ≤ X m * (u2 g : Rat) ∧ X m * (u2 g : Rat) ≤ ((z * u2 (g - b) + u2 (g - b) - 1 : Int) : Rat)
theorem Gap.decides {X : Nat → Rat} {b g w : Nat} {lo hi : Int} (h0 : Gap X b g) (h : ∃ N : Nat, ∀ m, N ≤ m → Enc (u2 w) lo hi (X m)) (hb : g ≤ w) (hw : hi - lo < u2 (w - g)) : lo / u2 (w - b) = hi / u2 (w - b) := by
 obtain ⟨hbg, z, N, g0⟩ := h0
 obtain ⟨M, h⟩ := h
 have g1 := g0 (max N M) xq
 have h1 := h (max N M) xq
 have e : u2 w = u2 g * u2 (w - g) := by rw [← u2_add, show g + (w - g) = w by omega]
 have e2 : u2 (w - b) = u2 (g - b) * u2 (w - g) := by rw [← u2_add, show g - b + (w - g) = w - b by omega]
 have hs := u2_pos (w - g)
 have hB := u2_pos (g - b)
 generalize u2 (w - g) = s at *
 generalize u2 (g - b) = B at *
 obtain ⟨h4, h5⟩ := h1
 rw [e, Rat.intCast_mul, ← Rat.mul_assoc] at h4 h5
 have r1 := Rat.mul_le_mul_of_nonneg_right g1.1 (Rat.le_of_lt (castI_pos hs))
 have r2 := Rat.mul_le_mul_of_nonneg_right g1.2 (Rat.le_of_lt (castI_pos hs))
 rw [← Rat.intCast_mul] at r1 r2
 have k1 := Rat.intCast_le_intCast.1 (Rat.le_trans r1 h5)
 have k2 := Rat.intCast_le_intCast.1 (Rat.le_trans h4 r2)
 have hS : 0 < B * s := Int.mul_pos hB hs
 have e3 : (z * B + 1) * s = z * (B * s) + s := by grind
 have e4 : (z * B + B - 1) * s = z * (B * s) + B * s - s := by grind
 rw [e3] at k1
 rw [e4] at k2
 have f : ∀ y : Int, z * (B * s) ≤ y → y < z * (B * s) + B * s → y / u2 (w - b) = z := fun y h1 h2 => by
  rw [e2]
  have a1 := Int.le_ediv_of_mul_le hS h1
  have a2 : y / (B * s) < z + 1 := Int.ediv_lt_of_lt_mul hS (by rw [Int.add_mul, Int.one_mul]; exact h2)
  omega
 have hle : lo ≤ hi := (h (max N M) xq).le
 rw [f lo xq xq, f hi xq xq]
theorem Gap.of {X : Nat → Rat} {b g w : Nat} {lo hi : Int} (h : ∃ N : Nat, ∀ m, N ≤ m → Enc (u2 w) lo hi (X m)) (z : Int) (hb : b ≤ g) (hg : g ≤ w) (h1 : (z * u2 (g - b) + 1) * u2 (w - g) ≤ lo) (h2 : hi ≤ (z * u2 (g - b) + u2 (g - b) - 1) * u2 (w - g)) : Gap X b g := by
 obtain ⟨N, h⟩ := h
 have e : u2 w = u2 g * u2 (w - g) := by rw [← u2_add, show g + (w - g) = w by omega]
 have hs := castI_pos (u2_pos (w - g))
 refine ⟨hb, z, N, fun m hm => ?_⟩
 obtain ⟨h4, h5⟩ := h m hm
 rw [e, Rat.intCast_mul, ← Rat.mul_assoc] at h4 h5
 have k1 := Rat.le_trans (Rat.intCast_le_intCast.2 h1) h4
 have k2 := Rat.le_trans h5 (Rat.intCast_le_intCast.2 h2)
 rw [Rat.intCast_mul] at k1 k2
 exact ⟨Rat.le_of_mul_le_mul_right k1 hs, Rat.le_of_mul_le_mul_right k2 hs⟩
end Nt
end Go.Proofs.YtbolmkfphieogaaGreat
namespace Go.Proofs.YtbolmkfphieogaaGreat
set_option linter.unusedVariables false
namespace Nt
theorem flr_b (q : Rat) : ((flr q : Int) : Rat) ≤ q ∧ q < ((flr q + 1 : Int) : Rat) := by
 have hd : (0 : Int) < (q.den : Int) := by have := q.den_pos; omega
 have e : q = (q.num : Rat) / ((q.den : Int) : Rat) := by
  rw [mk_div]; exact (Rat.mkRat_self q).symm
 have h1 := (fl_mul (a := q.num) hd).1
 have h2 := Int.lt_ediv_add_one_mul_self q.num hd
 have hD := castI_pos hd
 have k1 := Rat.intCast_le_intCast.2 h1
 have k2 := Rat.intCast_lt_intCast.2 h2
 rw [Rat.intCast_mul] at k1 k2
 have e2 : (q.num : Rat) = q * ((q.den : Int) : Rat) := by
  have := div_mul_c (x := (q.num : Rat)) hD
  rw [← e] at this
  exact this.symm
 rw [e2] at k1 k2
 refine ⟨Rat.le_of_mul_le_mul_right k1 hD, ?_⟩
 by_cases h6 : q < ((flr q + 1 : Int) : Rat)
 ·exact h6
 ·have h7 := Rat.mul_le_mul_of_nonneg_right (Rat.not_lt.1 h6) (Rat.le_of_lt hD)
  exact absurd k2 (Rat.not_lt.2 h7)
def gr (w : Nat) (a : Int) : Rat := (a : Rat) / (u2 w : Rat)
theorem gr_mul (w : Nat) (a : Int) : gr w a * (u2 w : Rat) = (a : Rat) := div_mul_c (castI_pos (u2_pos w))
section
variable {n w k : Nat} {a b c d : Int}
end
section
variable {p q w k : Nat} {tl th c d ql qh c' d' : Int}
end
end Nt
end Go.Proofs.YtbolmkfphieogaaGreat
namespace Go.Proofs.YtbolmkfphieogaaGreat
open Go.RowKit
set_option linter.unusedVariables false
namespace Nt
def nrZ (q : Rat) (k : Nat) : Int := flr (q * ((2 ^ k : Nat) : Rat) + 1 / 2)
theorem nr_mk {z : Int} {D k : Nat} (hD : 0 < D) : mkRat ((z * ((2 ^ (k + 1) : Nat) : Int) + (D : Int)) / ((D * 2 ^ 1 : Nat) : Int)) (2 ^ k) = gr k (nrZ (mkRat z D) k) := by
 have e : mkRat z D * ((2 ^ k : Nat) : Rat) + 1 / 2 = mkRat (z * ((2 ^ (k + 1) : Nat) : Int) + (D : Int)) (D * 2 ^ 1) := by
  rw [shl_mk, ← mk_div, ← mk_div, Rat.intCast_add, Rat.intCast_mul, Rat.intCast_mul]
  have hd := cast_pos hD
  have h2 : (((D * 2 ^ 1 : Nat) : Int) : Rat) = 2 * (D : Rat) := by
   have : (((D * 2 ^ 1 : Nat) : Int) : Rat) = ((D * 2 : Nat) : Rat) := rfl
   rw [this, Rat.natCast_mul]
   have e2 : ((2 : Nat) : Rat) = 2 := rfl
   rw [e2]; grind
  have h3 : (((2 ^ (k + 1) : Nat) : Int) : Rat) = 2 * (((2 ^ k : Nat) : Int) : Rat) := by
   have : (((2 ^ (k + 1) : Nat) : Int) : Rat) = ((2 ^ k * 2 : Nat) : Rat) := rfl
   rw [this, Rat.natCast_mul]
   have e2 : ((2 : Nat) : Rat) = 2 := rfl
   have e3 : (((2 ^ k : Nat) : Int) : Rat) = ((2 ^ k : Nat) : Rat) := rfl
   rw [e2, e3]; grind
  have h4 : ((D : Int) : Rat) = (D : Rat) := rfl
  rw [h2, h3, h4]
  have hd' : (D : Rat) ≠ 0 := by grind
  grind
 unfold nrZ
 rw [e, flr_mk (Nat.mul_pos hD xw), ← mk_div]
 rfl
theorem flr_half (z : Int) : flr ((z : Rat) + 1 / 2) = z := by
 have h := flr_b ((z : Rat) + 1 / 2)
 obtain ⟨h1, h2⟩ := h
 have e1 : ((flr ((z : Rat) + 1 / 2) : Int) : Rat) < ((z + 1 : Int) : Rat) := by rw [Rat.intCast_add]; have : ((1 : Int) : Rat) = 1 := rfl; rw [this]; grind
 have e2 : ((z : Int) : Rat) < ((flr ((z : Rat) + 1 / 2) + 1 : Int) : Rat) := by grind
 have k1 := Rat.intCast_lt_intCast.1 e1
 have k2 := Rat.intCast_lt_intCast.1 e2
 omega
theorem nr_gr (z : Int) (k : Nat) : flr (gr k z * (((2 ^ k : Nat) : Int) : Rat) + ((1 : Int) : Rat) / ((2 : Int) : Rat)) = z := by
 have h := gr_mul k z
 have e : (u2 k : Rat) = (((2 ^ k : Nat) : Int) : Rat) := rfl
 rw [e] at h
 rw [h]
 exact flr_half z
def coZ (x y : Rat) (k : Nat) : Int := nrZ ((x + y) * (((1 : Int) : Rat) / ((2 : Int) : Rat))) k
theorem digits_small {N : Nat} (h0 : 0 < N) (h1 : N < 4294967296) : digits N = [(N : Int)] := by
 rw [digits, if_neg xq, show N / 4294967296 = 0 by omega, zxa, show N % 4294967296 = N by omega]
end Nt
theorem NatN.one_len {u : World} {x : Sl} {N K : Nat} (h : NatN u x N K) (h1 : N < 4294967296) : x.n = if N = 0 then 0 else 1 := by
 rw [h.1]
 split
 ·rename_i e; subst e; exact Nt.dl_zero
 ·rename_i e
  unfold dl
  rw [Nt.digits_small xq h1]; rfl
theorem NatN.one_cell {u : World} {x : Sl} {N K : Nat} (h : NatN u x N K) (h0 : 0 < N) (h1 : N < 4294967296) : ∃ b o, x.a = some ⟨b, o, none⟩ ∧ u.cell? ⟨b, o + 0 * 1, none⟩ = some (.int .u32 (N : Int)) := by
 have hn := h.one_len h1
 rw [if_neg xq] at hn
 have h2 := h.2.1
 rw [Nt.digits_small h0 h1] at h2
 obtain ⟨b, o, e, hc⟩ := ints_at h2 (i := 0) xq
 exact ⟨b, o, e, hc⟩
end Go.Proofs.YtbolmkfphieogaaGreat
namespace Go.Proofs.YtbolmkfphieogaaGreat
set_option linter.unusedVariables false
namespace Nt
def force {α : Type} (n : Nat) (k : Nat → α) : α := Nat.rec (k 0) (fun m _ => k (m + 1)) n
theorem force_eq {α : Type} (n : Nat) (k : Nat → α) : force n k = k n := by cases n <;> rfl
def cdn (a d : Nat) : Nat := (a + d - 1) / d
theorem cdn_cdiv {a d : Nat} (hd : 0 < d) : ((cdn a d : Nat) : Int) = cdiv (a : Int) (d : Int) := by
 have h1 := cd_mul (b := (a : Int)) (d := (d : Int)) xq
 have h2 := Nat.div_mul_le_self (a + d - 1) d
 have h3 := Nat.lt_div_mul_add (a := a + d - 1) hd
 have e : cdn a d = (a + d - 1) / d := rfl
 rw [← e] at h2 h3
 have k1 : ((cdn a d : Nat) : Int) * (d : Int) < (cdiv (a : Int) (d : Int) + 1) * (d : Int) := by
  rw [Int.add_mul, ← Int.natCast_mul]; omega
 have k2 : cdiv (a : Int) (d : Int) * (d : Int) < (((cdn a d : Nat) : Int) + 1) * (d : Int) := by
  rw [Int.add_mul, ← Int.natCast_mul]; omega
 have k3 := Int.lt_of_mul_lt_mul_right k1 xq
 have k4 := Int.lt_of_mul_lt_mul_right k2 xq
 omega
def sumAB (a : Nat → Rat) : Nat → Rat × Rat
 | 0 => (0, 0)
 | n + 1 => ((sumAB a n).2, (sumAB a n).1 + a n)
theorem alt_AB (a : Nat → Rat) (n : Nat) : alt a n = sgn n * ((sumAB a n).1 - (sumAB a n).2) := by
 induction n with
 | zero => show (0 : Rat) = 1 * (0 - 0); decide +kernel
 | succ n ih =>
  rw [alt_s, ih, sgn_s]
  show _ = -sgn n * ((sumAB a n).2 - ((sumAB a n).1 + a n))
  grind
structure EvS where
 (l h el eh ol oh : Nat)
def EvI (U : Int) (a t : Nat → Rat) (k : Nat) (s : EvS) : Prop := Enc U (s.l : Int) (s.h : Int) (t k) ∧ Enc U (s.el : Int) (s.eh : Int) (sumAB a k).1 ∧ Enc U (s.ol : Int) (s.oh : Int) (sumAB a k).2
def atEv (nn : Nat) (r : Nat) : Nat → Nat → Nat → Nat → Nat → Nat → Nat → EvS :=
 Nat.rec (fun _ l h el eh ol oh => ⟨l, h, el, eh, ol, oh⟩)
  (fun _ ih k l h el eh ol oh =>
   force (l / nn) fun l' => force (cdn h nn) fun h' => force (2 * k + 1) fun d => force (l / d) fun tl => force (cdn h d) fun th =>
   force (el + tl) fun el' => force (eh + th) fun eh' => ih (k + 1) l' h' ol oh el' eh') r
theorem Enc.overN {U : Int} {a b d : Nat} {x : Rat} (h : Enc U (a : Int) (b : Int) x) (hd : 0 < d) : Enc U ((a / d : Nat) : Int) ((cdn b d : Nat) : Int) (x / (d : Rat)) := by
 rw [cdn_cdiv hd]
 exact h.over (d := (d : Int)) xq
theorem atEv_ok {n : Nat} (hn : 0 < n) {U : Int} : ∀ r k l h el eh ol oh, EvI U (atT n) (atP n) k ⟨l, h, el, eh, ol, oh⟩ → EvI U (atT n) (atP n) (k + r) (atEv (n * n) r k l h el eh ol oh) := by
 intro r
 induction r with
 | zero => intro k l h el eh ol oh hi; exact hi
 | succ r ih =>
  intro k l h el eh ol oh hi
  obtain ⟨h1, h2, h3⟩ := hi
  have t : Enc U ((l / (2 * k + 1) : Nat) : Int) ((cdn h (2 * k + 1) : Nat) : Int) (atT n k) := h1.overN xq
  have p : Enc U ((l / (n * n) : Nat) : Int) ((cdn h (n * n) : Nat) : Int) (atP n (k + 1)) := h1.overN (Nat.mul_pos hn hn)
  have e0 : atEv (n * n) (r + 1) k l h el eh ol oh = force (l / (n * n)) fun l' => force (cdn h (n * n)) fun h' => force (2 * k + 1) fun d => force (l / d) fun tl => force (cdn h d) fun th => force (el + tl) fun el' => force (eh + th) fun eh' => atEv (n * n) r (k + 1) l' h' ol oh el' eh' := rfl
  have e : atEv (n * n) (r + 1) k l h el eh ol oh = atEv (n * n) r (k + 1) (l / (n * n)) (cdn h (n * n)) ol oh (el + l / (2 * k + 1)) (eh + cdn h (2 * k + 1)) := by
   rw [e0]; simp only [force_eq]
  rw [show k + (r + 1) = k + 1 + r by omega, e]
  exact ih (k + 1) _ _ _ _ _ _ ⟨p, h3, h2.add t⟩
theorem ev_late {U : Int} {a : Nat → Rat} {k j0 e : Nat} {s : EvS} (hU : 0 < U) (h0 : ∀ j, 0 ≤ a j) (hd : ∀ j, j0 ≤ j → a (j + 1) ≤ a j) (hk : j0 ≤ k) (hk2 : k % 2 = 0) (h1 : Enc U (s.el : Int) (s.eh : Int) (sumAB a k).1) (h2 : Enc U (s.ol : Int) (s.oh : Int) (sumAB a k).2) (he : a k * (U : Rat) ≤ (e : Rat)) : ∀ m, k ≤ m → Enc U ((s.el : Int) - (s.oh : Int) - (e : Int)) ((s.eh : Int) - (s.ol : Int) + (e : Int)) (alt a m) := by
 intro m hm
 have h3 := alt_near h0 hd hk hm
 have h4 := h1.sub h2
 have e4 : (sumAB a k).1 - (sumAB a k).2 = alt a k := by
  rw [alt_AB]; unfold sgn; rw [if_pos hk2, Rat.one_mul]
 rw [e4] at h4
 obtain ⟨g1, g2⟩ := h4
 have hUr := Rat.le_of_lt (castI_pos hU)
 have k3 := Rat.mul_le_mul_of_nonneg_right h3.1 hUr
 have k4 := Rat.mul_le_mul_of_nonneg_right h3.2 hUr
 have ee : (((e : Nat) : Int) : Rat) = (e : Rat) := rfl
 unfold Enc
 rw [Rat.intCast_sub ((s.el : Int) - (s.oh : Int)), Rat.intCast_add, ee]
 constructor <;> grind
def atB (n w r : Nat) : Int × Int :=
 let x := atEv (n * n) r 0 (2 ^ w / n) (cdn (2 ^ w) n) 0 0 0 0
 ((x.el : Int) - (x.oh : Int) - (x.h : Int), (x.eh : Int) - (x.ol : Int) + (x.h : Int))
theorem Enc.zero (U : Int) : Enc U ((0 : Nat) : Int) ((0 : Nat) : Int) 0 := by
 show ((0 : Int) : Rat) ≤ 0 * (U : Rat) ∧ (0 : Rat) * (U : Rat) ≤ ((0 : Int) : Rat)
 rw [Rat.zero_mul]
 exact ⟨Rat.le_refl, Rat.le_refl⟩
theorem atB_ok {n w r : Nat} (hn : 0 < n) (hr : r % 2 = 0) : ∀ m, r ≤ m → Enc (u2 w) (atB n w r).1 (atB n w r).2 (alt (atT n) m) := by
 have h1 : Enc (u2 w) ((2 ^ w / n : Nat) : Int) ((cdn (2 ^ w) n : Nat) : Int) (atP n 0) := Enc.overN (a := 2 ^ w) (b := 2 ^ w) Enc.one hn
 obtain ⟨e2, e3, e4⟩ := atEv_ok hn (U := u2 w) r 0 _ _ _ _ _ _ ⟨h1, Enc.zero _, Enc.zero _⟩
 rw [Nat.zero_add] at e2 e3 e4
 intro m hm
 refine ev_late (u2_pos w) (atT_nn hn) (fun j _ => atT_le hn j) (Nat.zero_le _) hr e3 e4 ?_ m hm
 have hle : atT n r ≤ atP n r := div_le_self (atP_nn hn r) (cast_one xq)
 exact Rat.le_trans (Rat.mul_le_mul_of_nonneg_right hle (Rat.le_of_lt (castI_pos (u2_pos w)))) e2.2
def piB (w r s : Nat) : Int × Int :=
 let a := atB 5 w r
 let b := atB 239 w s
 (a.1 * 16 - b.2 * 4, a.2 * 16 - b.1 * 4)
theorem piB_ok {w r s : Nat} (hr : r % 2 = 0) (hs : s % 2 = 0) : ∀ m, r + s ≤ m → Enc (u2 w) (piB w r s).1 (piB w r s).2 (piN m) := by
 intro m hm
 have e := ((atB_ok (n := 5) (w := w) xw hr m xq).times (n := 16)).sub ((atB_ok (n := 239) (w := w) xw hs m xq).times (n := 4))
 have e2 : piN m = alt (atT 5) m * ((16 : Nat) : Rat) - alt (atT 239) m * ((4 : Nat) : Rat) := by
  unfold piN
  rw [Rat.mul_comm, Rat.mul_comm 4]; rfl
 rw [e2]; exact e
def csEv (U ql qh r : Nat) : Nat → Nat → Nat → Nat → Nat → Nat → Nat → EvS :=
 Nat.rec (fun _ l h el eh ol oh => ⟨l, h, el, eh, ol, oh⟩)
  (fun _ ih k l h el eh ol oh =>
   force ((2 * k + 2) * (2 * k + 1)) fun d => force (l * ql / U / d) fun l' => force (cdn (cdn (h * qh) U) d) fun h' =>
   force (el + l) fun el' => force (eh + h) fun eh' => ih (k + 1) l' h' ol oh el' eh') r
theorem Enc.prodN {U a b c d : Nat} {x y : Rat} (hU : 0 < U) (h : Enc (U : Int) (a : Int) (b : Int) x) (k : Enc (U : Int) (c : Int) (d : Int) y) : Enc (U : Int) ((a * c / U : Nat) : Int) ((cdn (b * d) U : Nat) : Int) (x * y) := by
 rw [cdn_cdiv hU]
 exact h.prod k xq xq xq
theorem csEv_ok {U ql qh : Nat} (hU : 0 < U) {y : Rat} (hq : Enc (U : Int) (ql : Int) (qh : Int) (y * y)) : ∀ r k l h el eh ol oh, EvI (U : Int) (csT y) (csT y) k ⟨l, h, el, eh, ol, oh⟩ → EvI (U : Int) (csT y) (csT y) (k + r) (csEv U ql qh r k l h el eh ol oh) := by
 intro r
 induction r with
 | zero => intro k l h el eh ol oh hi; exact hi
 | succ r ih =>
  intro k l h el eh ol oh hi
  obtain ⟨h1, h2, h3⟩ := hi
  have p : Enc (U : Int) ((l * ql / U / ((2 * k + 2) * (2 * k + 1)) : Nat) : Int) ((cdn (cdn (h * qh) U) ((2 * k + 2) * (2 * k + 1)) : Nat) : Int) (csT y (k + 1)) := (Enc.prodN hU h1 hq).overN (Nat.mul_pos xq xq)
  have e0 : csEv U ql qh (r + 1) k l h el eh ol oh = force ((2 * k + 2) * (2 * k + 1)) fun d => force (l * ql / U / d) fun l' => force (cdn (cdn (h * qh) U) d) fun h' => force (el + l) fun el' => force (eh + h) fun eh' => csEv U ql qh r (k + 1) l' h' ol oh el' eh' := rfl
  have e : csEv U ql qh (r + 1) k l h el eh ol oh = csEv U ql qh r (k + 1) (l * ql / U / ((2 * k + 2) * (2 * k + 1))) (cdn (cdn (h * qh) U) ((2 * k + 2) * (2 * k + 1))) ol oh (el + l) (eh + h) := by
   rw [e0]; simp only [force_eq]
  rw [show k + (r + 1) = k + 1 + r by omega, e]
  exact ih (k + 1) _ _ _ _ _ _ ⟨p, h3, h2.add h1⟩
def csX (U pl ph r p q : Nat) : EvS :=
 force (pl * p / q) fun yl => force (cdn (ph * p) q) fun yh => force (yl * yl / U) fun ql => force (cdn (yh * yh) U) fun qh => csEv U ql qh r 0 U U 0 0 0 0
def xLo (x : EvS) : Int := (x.el : Int) - (x.oh : Int) - (x.h : Int)
def xHi (x : EvS) : Int := (x.eh : Int) - (x.ol : Int) + (x.h : Int)
theorem csX_ok {w pl ph r p q N : Nat} (hpi : ∀ m, N ≤ m → Enc (u2 w) (pl : Int) (ph : Int) (piN m)) (hq : 0 < q) (hp : 2 * p ≤ q) (hr : 1 ≤ r) (hr2 : r % 2 = 0) : ∀ m, max N r ≤ m → Enc (u2 w) (xLo (csX (2 ^ w) pl ph r p q)) (xHi (csX (2 ^ w) pl ph r p q)) (coN p q m) := by
 intro m hm
 have hU : 0 < 2 ^ w := Nat.pow_pos xw
 have hy := csY_b (m := m) hq hp xq
 have hyy : csY p q m * csY p q m ≤ 12 := Rat.le_trans (mulm hy.2 hy.2 hy.1 hy.1) (by decide +kernel)
 have y1 : Enc (((2 ^ w : Nat) : Nat) : Int) ((pl * p / q : Nat) : Int) ((cdn (ph * p) q : Nat) : Int) (csY p q m) := by
  have h1 := (hpi m xq).times (n := p)
  rw [← Int.natCast_mul, ← Int.natCast_mul] at h1
  exact h1.overN hq
 have q1 := Enc.prodN hU y1 y1
 have hE := csEv_ok hU q1 r 0 (2 ^ w) (2 ^ w) 0 0 0 0 ⟨Enc.one, Enc.zero _, Enc.zero _⟩
 rw [Nat.zero_add] at hE
 obtain ⟨e1, e2, e3⟩ := hE
 unfold csX
 simp only [force_eq]
 exact ev_late (u2_pos w) (csT_nn _) (csT_le hyy) hr hr2 e2 e3 e1.2 m xq
end Nt
end Go.Proofs.YtbolmkfphieogaaGreat
namespace Go.Proofs.YtbolmkfphieogaaGreat
set_option linter.unusedVariables false
set_option maxRecDepth 20000
namespace Nt
theorem pi_ev : piB 340 84 24 = (7036365627942155232378451105383714118229498621515162138157626346021022039982006998243213719805928137372, 7036365627942155232378451105383714118229498621515162138157626346021022039982006998243213719805928138852) := by decide +kernel
def pl8 : Nat := 1069028584064966747859680373161870783300
def ph8 : Nat := 1069028584064966747859680373161870783301
theorem pi_340 : ∀ m, 110 ≤ m → Enc (u2 340) 7036365627942155232378451105383714118229498621515162138157626346021022039982006998243213719805928137372 7036365627942155232378451105383714118229498621515162138157626346021022039982006998243213719805928138852 (piN m) := fun m hm => by
 have h := piB_ok (w := 340) (r := 84) (s := 24) xw xw m xq
 rw [pi_ev] at h
 exact h
theorem pi_128 : ∀ m, 110 ≤ m → Enc (u2 128) (pl8 : Int) (ph8 : Int) (piN m) := fun m hm => by
 have h := pi_340 m hm
 have hp := castI_pos (u2_pos 212)
 have e : u2 340 = u2 128 * u2 212 := by rw [← u2_add]
 obtain ⟨h1, h2⟩ := h
 rw [e, Rat.intCast_mul, ← Rat.mul_assoc] at h1 h2
 have k1 : ((pl8 : Int) * u2 212 : Int) ≤ 7036365627942155232378451105383714118229498621515162138157626346021022039982006998243213719805928137372 := by decide +kernel
 have k2 : (7036365627942155232378451105383714118229498621515162138157626346021022039982006998243213719805928138852 : Int) ≤ (ph8 : Int) * u2 212 := by decide +kernel
 have r1 := Rat.le_trans (Rat.intCast_le_intCast.2 k1) h1
 have r2 := Rat.le_trans h2 (Rat.intCast_le_intCast.2 k2)
 rw [Rat.intCast_mul] at r1 r2
 exact ⟨Rat.le_of_mul_le_mul_right r1 hp, Rat.le_of_mul_le_mul_right r2 hp⟩
def cs8 (p q : Nat) : EvS := csX (2 ^ 128) pl8 ph8 16 p q
theorem cs8_ok {p q : Nat} (hq : 0 < q) (hp : 2 * p ≤ q) : ∃ N : Nat, ∀ m, N ≤ m → Enc (u2 128) (xLo (cs8 p q)) (xHi (cs8 p q)) (coN p q m) := ⟨_, csX_ok pi_128 hq hp xw xw⟩
def gapX (B S T : Nat) (x : EvS) : Bool :=
 force (x.el - x.oh - x.h) fun lo => force (x.eh + x.h - x.ol) fun hi => force (lo / T) fun z =>
  Nat.ble 1 lo && (Nat.ble ((z * B + 1) * S) lo && Nat.ble hi ((z * B + B - 1) * S))
def gapB (p q b g : Nat) : Bool := gapX (2 ^ (g - b)) (2 ^ (128 - g)) (2 ^ (128 - b)) (cs8 p q)
theorem gapB_ok {p q b g : Nat} (h : gapB p q b g = true) (hq : 0 < q) (hp : 2 * p ≤ q) (hb : b ≤ g) (hg : g ≤ 128) : Gap (coN p q) b g := by
 unfold gapB gapX at h
 simp only [force_eq, Bool.and_eq_true, Nat.ble_eq] at h
 obtain ⟨h1, h2, h3⟩ := h
 have k := cs8_ok hq hp
 generalize cs8 p q = x at *
 have e1 : xLo x = ((x.el - x.oh - x.h : Nat) : Int) := by unfold xLo; omega
 have e2 : xHi x ≤ ((x.eh + x.h - x.ol : Nat) : Int) := by unfold xHi; omega
 generalize x.el - x.oh - x.h = lo at *
 generalize x.eh + x.h - x.ol = hi at *
 have hB := Nat.pow_pos (n := g - b) (show 0 < 2 by decide)
 refine Gap.of k ((lo / 2 ^ (128 - b) : Nat) : Int) hb hg ?_ ?_
 ·rw [e1]
  have := Int.ofNat_le.2 h2
  rw [Int.natCast_mul, Int.natCast_add, Int.natCast_mul] at this
  exact this
 ·refine Int.le_trans e2 ?_
  have := Int.ofNat_le.2 h3
  rw [Int.natCast_mul, Int.natCast_sub xq, Int.natCast_add, Int.natCast_mul] at this
  exact this
def gapP (b g q n : Nat) : Bool := Nat.rec true (fun p ih => (bif Nat.ble (2 * p + 3) q then bif Nat.beq (3 * p + 3) q then true else gapB (p + 1) q b g else true) && ih) n
def gapN (b g n : Nat) : Bool := Nat.rec true (fun q ih => gapP b g (q + 1) ((q + 1) / 2) && ih) n
theorem gapP_s (b g q n : Nat) : gapP b g q (n + 1) = ((bif Nat.ble (2 * n + 3) q then bif Nat.beq (3 * n + 3) q then true else gapB (n + 1) q b g else true) && gapP b g q n) := rfl
theorem gapN_s (b g n : Nat) : gapN b g (n + 1) = (gapP b g (n + 1) ((n + 1) / 2) && gapN b g n) := rfl
theorem gapP_ok {b g q : Nat} : ∀ n p, gapP b g q n = true → 1 ≤ p → p ≤ n → 2 * p < q → 3 * p ≠ q → gapB p q b g = true := by
 intro n
 induction n with
 | zero => intro p _ h1 h2; omega
 | succ n ih =>
  intro p h h1 h2 h3 h4
  have h' := h
  rw [gapP_s, Bool.and_eq_true] at h'
  by_cases e : p = n + 1
  ·subst e
   have h5 := h'.1
   rw [show Nat.ble (2 * n + 3) q = true by rw [Nat.ble_eq]; omega, show Nat.beq (3 * n + 3) q = false by
    cases hh : Nat.beq (3 * n + 3) q with
    | false => rfl
    | true => exact absurd (Nat.eq_of_beq_eq_true hh) xq, cond_true, cond_false] at h5
   exact h5
  ·exact ih p h'.2 h1 xq h3 h4
theorem gapN_ok {b g : Nat} : ∀ n q, gapN b g n = true → 1 ≤ q → q ≤ n → gapP b g q (q / 2) = true := by
 intro n
 induction n with
 | zero => intro q _ h1 h2; omega
 | succ n ih =>
  intro q h h1 h2
  have h' := h
  rw [gapN_s, Bool.and_eq_true] at h'
  by_cases e : q = n + 1
  ·subst e; exact h'.1
  ·exact ih q h'.2 h1 xq
def GapQ (q b : Nat) : Prop := ∃ g, g ≤ 300 ∧ ∀ p, 1 ≤ p → 2 * p < q → 3 * p ≠ q → Gap (coN p q) b g
theorem gapQ_of {b g n q : Nat} (h : gapN b g n = true) (hb : b ≤ g) (hg : g ≤ 128) (h1 : 1 ≤ q) (hq : q ≤ n) : GapQ q b :=
 ⟨g, by omega, fun p hp1 hp h3 => gapB_ok (gapP_ok _ p (gapN_ok n q h xq hq) hp1 xq hp h3) xq xq hb hg⟩
theorem gap_64 : gapN 64 80 16 = true := by decide +kernel
theorem gapQ_16 {q : Nat} (h1 : 1 ≤ q) (hq : q ≤ 16) : GapQ q 64 := gapQ_of gap_64 xw xw h1 hq
end Nt
end Go.Proofs.YtbolmkfphieogaaGreat
namespace Go.Proofs.YtbolmkfphieogaaGreat
set_option linter.unusedVariables false
namespace Nt
open Classical in
noncomputable def flo (X : Nat → Rat) (b : Nat) : Int := if h : ∃ z, FlO X b z then h.choose else 0
theorem FlO.flo {X : Nat → Rat} {b : Nat} {z : Int} (h : FlO X b z) : flo X b = z := by
 have hz : ∃ z, FlO X b z := ⟨z, h⟩
 unfold Nt.flo
 rw [dif_pos hz]
 exact hz.choose_spec.uniq h
def fold (p : Int) (q : Nat) : Nat := let r := (Int.tmod p (2 * (q : Int))).natAbs; if q < r then 2 * q - r else r
theorem fold_le (p : Int) (q : Nat) (hq : 0 < q) : fold p q ≤ q := by
 have h : (Int.tmod p (2 * (q : Int))).natAbs < 2 * q := by
  rw [Int.natAbs_tmod]
  have : (2 * (q : Int)).natAbs = 2 * q := by omega
  rw [this]
  exact Nat.mod_lt _ xq
 unfold fold
 dsimp only
 split <;> omega
noncomputable def cosA (p q b : Nat) : Rat × Rat :=
 if p = 0 then (1, 1) else if 2 * p = q then (0, 0) else if 3 * p = q then (dnQ (1 / 2) b, -dnQ (-(1 / 2)) b)
 else (gr b (flo (coN p q) b), gr b (flo (coN p q) b + 1))
noncomputable def cosF (p q b : Nat) : Rat × Rat := if q < 2 * p then (-(cosA (q - p) q b).2, -(cosA (q - p) q b).1) else cosA p q b
noncomputable def cosV (p : Int) (q b : Nat) : Rat × Rat := cosF (fold p q) q b
end Nt
end Go.Proofs.YtbolmkfphieogaaGreat
namespace Go.Proofs.YtbolmkfphieogaaGreat
open Go.RowKit
set_option linter.unusedVariables false
namespace Nt
end Nt
section
variable {P : Program} (w : World)
theorem wpList_makeKC {ops : Array Oper} {rest : List Oper} {o : Oper} {a : Act} {Q : Exit → Act → World → Prop}
  (hg : o.guard = none) (l c : Operand) (t : TypeId) (hop : o.op = Op.makeSlice t l c) (e : TypeId) (k : IntKind) (bytes : Nat) (h1 : P.underlying t = some (.slice e))
  (h2 : (P.info? e).map (fun i => (i.zero, i.size, i.bytes)) = some (some (.int k 0), 1, bytes))
  (kl kc : IntKind) (L C : Int) (n m : Nat) (hl : a.eval l = .int kl L) (hc : a.eval c = .int kc C) (hL : L = (n : Int)) (hC : C = (m : Int)) (hnm : n ≤ m) (b2 : bytes * m ≤ 281474976710656) (b3 : m ≤ maxLen)
  (hK : ∀ w', OwnK k w' w.heap.size e (some ⟨w.heap.size, 0, none⟩) n m (List.replicate n 0) → Below w.heap.size w w' → w'.heap.size = w.heap.size + 1 → wpList P ops Q rest (a.put o.dst (.slice (some ⟨w.heap.size, 0, none⟩) n m)) w') :
  wpList P ops Q (o :: rest) a w := by
 obtain ⟨i, hi, hz, hs, hb⟩ := info_parts h2
 refine wpList_plain hg fun K hK' => ?_
 subst hL hC hb
 have h63 : (m : Int) ≤ 9223372036854775807 := by have := b3; unfold maxLen at this; omega
 have hb' : (i.bytes : Int) * (m : Int) ≤ 281474976710656 := by
  have h : ((i.bytes * m : Nat) : Int) ≤ 281474976710656 := by omega
  rwa [Int.natCast_mul] at h
 have hrun := run_make (P := P) w t e i _ h1 hi hz kl kc n m xq xq hb' h63
 unfold Oper.wp
 simp [execOp, hop, hl, hc, hrun, Result.andThen]
 have hblk : KBlk k (w.alloc (.cells (madeCells (Value.int k 0).cells (m * i.size)) e)) w.heap.size e (List.replicate m 0) := by
  unfold KBlk
  rw [heap_alloc_new, hs, Nat.mul_one]
  congr 2
  apply Array.ext'
  have h3 := toList_madeCells_one (.int k 0) m
  have h4 : (Value.int k 0).cells = #[Value.int k 0] := rfl
  rw [h4, h3]
  simp
 refine hK' _ _ (hK _ ⟨by simp, by simp, .inr ⟨w.heap.size, m, _, rfl, Nat.le_refl _, hblk, hnm, b3, by simp, by simp [List.take_replicate, Nat.min_eq_left hnm]⟩⟩ ((Below.refl _ _).alloc (Nat.le_refl _) _) (by simp))
end
namespace Nt
theorem bitLen_bitl {t : Nat} (h : t < 4294967296) : Lib.bitLen t = bitl t := by
 rcases Nat.eq_zero_or_pos t with h0 | h0
 ·subst h0; rfl
 ·have hb : 1 ≤ Lib.bitLen t ∧ 2 ^ (Lib.bitLen t - 1) ≤ t ∧ t < 2 ^ Lib.bitLen t := Lib.bitLenAux_bounds 64 t xq xq
  exact (bitl_unique xq hb.2.1 hb.2.2).symm
theorem bitl_le32 {t : Nat} (h : t < 4294967296) : bitl t ≤ 32 := by
 rcases Nat.eq_zero_or_pos t with h0 | h0
 ·subst h0; decide
 ·have h1 := bitl_le h0
  have h3 : 2 ^ (bitl t - 1) < 2 ^ 32 := by omega
  have := (Nat.pow_lt_pow_iff_right (show 1 < 2 by omega)).1 h3
  omega
end Nt
set_option maxHeartbeats 1000000 in
theorem BitLen_any (A : Option Addr) (n c : Nat) (a : List Int) (w : World) (ha : SlR .u32 w A n c a) (da : Nt.Dig a) (hn : n ≤ 1000000000) :
  Calls Tryz.prog 150 #[.slice A n c] w fun e w' => e = .returned (.int .i64 (Nt.bitl (Nt.val a).toNat)) ∧ w' = w := by
 have lx : (Nt.strip a).length ≤ n := by rw [← ha.1]; exact Nt.zyh a
 have hx := ha.upto (m := (Nt.strip a).length) lx
 rw [← Nt.strip_take] at hx
 have hcut := zwj A n c a w ha
 have eN := Nt.zxs da
 rw [eN] at hx lx hcut
 generalize hX : (Nt.val a).toNat = X at *
 obtain ⟨N, hN⟩ : ∃ N, N = (Nt.digits X).length := ⟨_, rfl⟩
 rw [← hN] at hx lx hcut
 clear eN hX
 rcases N with _ | k
 ·have h0 : Hid (Nt.bitl X = 0) := by
   have : X = 0 := by
    rcases Nat.eq_zero_or_pos X with h | h
    ·exact h
    ·have := Nt.zwo h; omega
   show _ = _
   rw [this]; rfl
  clear ha da
  go_enter Tryz.func150, Tryz.ntmps150
  go_wp2_with fail
  refine hcut.mono ?_
  rintro e w1 ⟨rfl, rfl⟩
  go_wp2
  go_ret
  exact ⟨by rw [h0.out]; rfl, rfl⟩
 ·obtain ⟨b, o, rfl, _, hc⟩ := hx.pos (i := k) xq
  have hcm := hx.2.1
  have ht := (Nt.zyj X).at k
  have hne := Nt.norm_last (k := k) (Nt.zxm X) hN.symm
  obtain ⟨t, ht2⟩ : ∃ t : Nat, (Nt.digits X)[k]?.getD 0 = (t : Int) := ⟨((Nt.digits X)[k]?.getD 0).toNat, by omega⟩
  have hfin := Nt.bitl_digits hN.symm ht2 xq
  rw [ht2] at hc hne ht
  have Hfin := Lib.hid hfin
  have HN := Lib.hid hN
  have hkb : ((k : Int) + 1 == 0) = false := by rw [beq_eq_false_iff_ne]; omega
  have hb32 := Nt.bitl_le32 (t := t) xq
  have hbe := Nt.bitLen_bitl (t := t) xq
  clear hfin ht2 hx ha da hN
  go_enter Tryz.func150, Tryz.ntmps150
  go_wp2_with fail
  refine hcut.mono ?_
  rintro e w1 ⟨rfl, rfl⟩
  go_wp2_with fail
  refine (Len32_any (t : Int) _ xq xq).mono ?_
  rintro e w1 ⟨rfl, rfl⟩
  rw [Int.toNat_natCast, hbe]
  generalize Nt.bitl t = bt at *
  go_wp2
  go_ret
  exact ⟨by rw [Hfin.out]; refine congrArg (fun z : Int => Ending.returned (.int .i64 z)) ?_; omega, rfl⟩
section
variable {u u' w w' : World} {x y : Sl} {i j : IL} {r r' : RL} {N M K L S b o n : Nat} {z z' : Int} {q q' : Rat} {l m : List Rat} {cs cs' : List Value}
end
section
variable {u u' w w' : World} {x y : Sl} {i j : IL} {N M K L : Nat}
end
theorem own_strip {w0 w : World} {B : Nat} {A : Option Addr} {n c : Nat} {l : List Int} (h : OwnK .u32 w B 104 A n c l) (hd : Nt.Dig l) (hB : w0.heap.size ≤ B) : NatF w0 w A (Nt.strip l).length c (Nt.val l).toNat := by
 have e := Nt.zxs hd
 have hl := Nt.zyh l
 have h1 := h.1
 have hx := h.slr.upto (m := (Nt.strip l).length) xq
 rw [← Nt.strip_take, e] at hx
 refine ⟨by rw [e], by rw [e]; exact hx, fun hp => ?_⟩
 obtain ⟨a, ha, hb, ht⟩ := h.ty xq
 exact ⟨a, ha, by omega, ht⟩
theorem Nt.raise_val {q s : Nat} {a S : List Int} (hq : q = s / 32) (h : Nt.val S = Nt.val a * 2 ^ (s % 32)) : Nt.val (List.replicate q 0 ++ S) = Nt.val a * 2 ^ s := by
 rw [Nt.val_append, Nt.val_repl, h, Nt.p2_pw s, ← hq]
 simp
 rw [Int.mul_comm, Int.mul_assoc]
theorem Nt.bitl_le_len (l : List Int) (h : Nt.Dig l) : Nt.bitl (Nt.val l).toNat ≤ 32 * l.length := by
 rcases Nat.eq_zero_or_pos (Nt.val l).toNat with h0 | h0
 ·rw [h0]; exact Nat.zero_le _
 ·have h1 := Nt.val_lt h
  rw [Nt.pw_two] at h1
  have h2 := Nt.bitl_le h0
  have h3 : 2 ^ (Nt.bitl (Nt.val l).toNat - 1) < 2 ^ (32 * l.length) := by omega
  have := (Nat.pow_lt_pow_iff_right (show 1 < 2 by omega)).1 h3
  omega
theorem Nt.dl_shift {N K s : Nat} (h : dl N ≤ K) : dl (N * 2 ^ s) ≤ K + s / 32 + 1 := by
 apply Nt.dl_le
 have h1 := Nt.dl_lt (x := N)
 have h2 := Nt.pw_mono h
 rw [Nt.pw_two] at h1 ⊢
 rw [Nt.pw_two, Nt.pw_two] at h2
 have h3 : N < 2 ^ (32 * K) := by omega
 have h4 : N * 2 ^ s < 2 ^ (32 * K) * 2 ^ s := Nat.mul_lt_mul_of_pos_right h3 (Nat.pow_pos xq)
 rw [← Nat.pow_add] at h4
 have h5 : 2 ^ (32 * K + s) ≤ 2 ^ (32 * (K + s / 32 + 1)) := Nat.pow_le_pow_right xq xq
 have h6 := Nat.lt_of_lt_of_le h4 h5
 exact_mod_cast h6
set_option maxHeartbeats 2000000 in
theorem raise_any (A : Option Addr) (n c s : Nat) (a : List Int) (w : World) (ha : SlR .u32 w A n c a) (da : Nt.Dig a) (hn : n ≤ 1000000000) (hs : s ≤ 65536) :
  Calls Tryz.prog 151 #[.slice A n c, .int .i64 s] w fun e w' => ∃ A' n' c', e = .returned (.slice A' n' c') ∧ NatF w w' A' n' c' (Nt.val a * 2 ^ s).toNat ∧ Below w.heap.size w w' := by
 rcases Nat.eq_zero_or_pos n with h0 | h0
 ·subst h0
  have hz : Hid ((Nt.val a * 2 ^ s).toNat = 0) := by
   have e1 : a = [] := List.eq_nil_of_length_eq_zero ha.1
   show _ = _
   rw [e1]; simp [Nt.val]
  clear da ha
  go_enter Tryz.func151, Tryz.ntmps151
  go_wp2
  go_ret
  refine ⟨none, 0, 0, rfl, ?_, Below.refl _ _⟩
  rw [hz.out]
  exact ⟨by rw [Nt.zxa]; rfl, by rw [Nt.zxa]; exact SlR.nil _ _ _ (Nat.zero_le _), fun h => absurd h xq⟩
 ·have hn0 : ((n : Int) == 0) = false := by rw [beq_eq_false_iff_ne]; omega
  obtain ⟨q, hq1, hq2⟩ : ∃ q, 32 * q ≤ s ∧ s < 32 * q + 32 := ⟨s / 32, by omega, by omega⟩
  have hqs : Hid (q = s / 32) := by show _ = _; omega
  have hr32 : s % 32 < 32 := by omega
  have Hda := Lib.hid da
  clear da
  go_enter Tryz.func151, Tryz.ntmps151
  go_wp2_with (at_make; refine wpList_makeKC _ rfl (.tmp 10) (.tmp 16) _ rfl 104 .u32 4 Tryz.underlying22 zxj _ _ _ _ q (q + n + 1) rfl rfl ?L ?C ?nm ?b2 ?b3 ?_)
  case L => show _ = _; omega
  case C => show _ = _; omega
  case nm => omega
  case b2 => omega
  case b3 => unfold maxLen; omega
  intro w2 hk2 hb2 hz2
  have hx2 := ha.below hb2
  have HB2 := Lib.hid hb2
  clear hz2 hb2 ha
  go_wp2_with fail
  refine (lift_any A n c (s % 32) (n + 1) a w2 hx2 Hda.out hn hr32 (.inr rfl)).mono ?_
  rintro e w3 ⟨g, rfl, ⟨S, lo, hg, hk, hSl, hSd, hlo, hlo0, hv⟩, hb3⟩
  have hlo0 := hlo0 rfl
  rw [hlo0] at hv
  have hval := Nt.raise_val hqs.out (a := a) (S := S) xq
  have hs3 := Lib.hid (hk.slr_all (n := n + 1) (c := n + 1) hSl (Nat.le_refl _) yv)
  have hk3 := Lib.hid (hk2.below hb3)
  have Hval := Lib.hid hval
  have Hd := Lib.hid (Nt.Dig.append (Nt.Dig.repl q) hSd)
  have HB3 : Hid (Below w.heap.size w w3) := HB2.out.trans (hb3.mono HB2.out.size)
  have hw3 := HB3.out.size
  clear hval hv hk hg hk2 hlo hlo0 hSl hSd hx2 hb3
  go_wp2_with (at_builtin; refine zxh _ rfl (.tmp 18) (.tmp 26) _ rfl 104 .u32 4 Tryz.underlying22 zxj w.heap.size (some ⟨w.heap.size, 0, none⟩) q (q + n + 1) (List.replicate q 0) rfl ?own (some ⟨g, 0, none⟩) (n + 1) (n + 1) S rfl ?slr ?h63 ?hby ?hbase ?_)
  case own => exact hk3.out
  case slr => exact hs3.out
  case h63 => unfold maxLen; omega
  case hby => omega
  case hbase => omega
  intro A3 c3 w4 ho hb4
  have HO := Lib.hid ho
  have HB4 : Hid (Below w.heap.size w w4) := HB3.out.trans hb4
  clear hs3 hk3 ho hb4
  go_wp2_with fail
  refine (zwj _ _ _ _ _ HO.out.slr).mono ?_
  rintro e w5 ⟨rfl, rfl⟩
  go_wp2
  go_ret
  have hf := own_strip HO.out Hd.out (Nat.le_refl _)
  rw [Hval.out] at hf
  exact ⟨_, _, _, rfl, hf, HB4.out⟩
set_option maxHeartbeats 1000000 in
theorem Shift_pos (A : Option Addr) (n c s : Nat) (a : List Int) (w : World) (ha : SlR .u32 w A n c a) (da : Nt.Dig a) (hn : n ≤ 1000000000) (hs : s ≤ 65536) :
  Calls Tryz.prog 79 #[.slice A n c, .int .i64 s] w fun e w' => ∃ A' n' c', e = .returned (.slice A' n' c') ∧ NatF w w' A' n' c' (Nt.val a * 2 ^ s).toNat ∧ Below w.heap.size w w' := by
 have lx : (Nt.strip a).length ≤ n := by rw [← ha.1]; exact Nt.zyh a
 have hx := ha.upto (m := (Nt.strip a).length) lx
 rw [← Nt.strip_take] at hx
 have hd := Nt.strip_dig da
 have hv := Nt.zwn a
 have hsd : decide (65536 < (s : Int)) = false := by simp; omega
 have hbl := Nt.bitl_le_len (Nt.strip a) hd
 have hraise := raise_any A (Nt.strip a).length c s (Nt.strip a) w hx hd xq hs
 have hbit := BitLen_any A (Nt.strip a).length c (Nt.strip a) w hx hd xq
 rw [hv] at hraise hbit hbl
 have hz : Nt.bitl (Nt.val a).toNat = 0 → Nt.val a = 0 := fun h => by
  have h1 := Nt.bitl_lt (Nt.val a).toNat
  have h2 := Nt.zxc da
  rw [h] at h1
  simp at h1
  omega
 generalize Nt.bitl (Nt.val a).toNat = B at *
 have hcut := zwj A n c a w ha
 generalize (Nt.strip a).length = m at *
 by_cases h0 : (s : Int) ≤ -(B : Int)
 ·have hz2 : Hid ((Nt.val a * 2 ^ s).toNat = 0) := by
   show _ = _
   rw [hz xq]; simp
  have hle : decide ((s : Int) ≤ -(B : Int)) = true := decide_eq_true h0
  clear hx ha hd hv hraise hz h0
  go_enter Tryz.func79, Tryz.ntmps79
  go_wp2_with fail
  refine hcut.mono ?_
  rintro e w1 ⟨rfl, rfl⟩
  go_wp2_with fail
  refine hbit.mono ?_
  rintro e w1 ⟨rfl, rfl⟩
  go_wp2
  go_ret
  refine ⟨none, 0, 0, rfl, ?_, Below.refl _ _⟩
  rw [hz2.out]
  exact ⟨by rw [Nt.zxa]; rfl, by rw [Nt.zxa]; exact SlR.nil _ _ _ (Nat.zero_le _), fun h => absurd h xq⟩
 ·have hle : decide ((s : Int) ≤ -(B : Int)) = false := decide_eq_false h0
  clear hx ha hd hv hz
  go_enter Tryz.func79, Tryz.ntmps79
  go_wp2_with fail
  refine hcut.mono ?_
  rintro e w1 ⟨rfl, rfl⟩
  go_wp2_with fail
  refine hbit.mono ?_
  rintro e w1 ⟨rfl, rfl⟩
  go_wp2_with fail
  refine hraise.mono ?_
  rintro e w1 ⟨A1, n1, c1, rfl, f1, hb1⟩
  have F1 := Lib.hid f1
  clear f1
  go_wp2
  go_ret
  exact ⟨A1, n1, c1, rfl, F1.out, hb1⟩
theorem k_natShift {u w : World} {x : Sl} {N K s : Nat} (d : Dat u w) (h1 : NatV u x N K) (hK : K ≤ 500000000) (hs : s ≤ 65536) : Calls Tryz.prog 79 #[x.v, .int .i64 (s : Int)] w (Post u w fun v u' => ∃ x : Sl, v = x.v ∧ NatN u' x (N * 2 ^ s) (K + s / 32 + 1)) := by
 have hs1 := h1.size
 obtain ⟨a, a1, a2, a3, a4⟩ := h1
 refine (Shift_pos _ _ _ _ _ _ (a1.ext d.ext) a2 xq hs).mono fun e w' ⟨A', n', c', h⟩ => ?_
 rw [a4] at h
 exact post_nat d (nat_fits h (by simp [Int.natCast_mul, Int.natCast_pow])) (Nt.dl_shift hs1)
set_option maxHeartbeats 1000000 in
theorem k_intDivP {u w : World} {i1 : IL} {y : Sl} {zN : Int} {M K L : Nat} (d : Dat u w) (hi : IntV u i1 zN K) (hy : NatV u y M L) (hM : 0 < M) (hK : K ≤ 100000000) (hL : L ≤ 100000000) : Calls Tryz.prog 180 #[i1.v, .agg #[.bool false, y.v]] w (Post u w fun v u' => ∃ i j : IL, v = .tuple #[i.v, j.v, .int .i64 0] ∧ IntN u' i (zN / (M : Int)) (K + 1) ∧ IntN u' j (zN % (M : Int)) L) := by
 have hL1 : 1 ≤ L := by have h2 := hy.size; have h3 := Nt.dl_mono (x := M) (y := 1) xq; rw [Nt.dl_one] at h3; omega
 obtain ⟨N, hN, hzN⟩ := hi
 refine zzl (args := [i1.v, .agg #[.bool false, .slice y.a y.n y.c]]) Tryz.func180 rfl Tryz.ntmps180 (rs := [.cell 4 24, .cell 5 24, .tmp 6]) Tryz.results180 (le_b rfl) (le_b rfl) d ?_
 refine sq9 (zzj 2 ⟨24, i1.cs⟩ (zzj 3 ⟨24, [.bool false, y.v]⟩ (zzj 4 ⟨24, [.bool false, .slice none 0 0]⟩ (zzj 5 ⟨24, [.bool false, .slice none 0 0]⟩ (zza 6 (zI 0) (zzb (sq9 (zza 11 (.adr 2 1) (zzh 12 (.v i1.m.v) ty22 zzk (zza 13 (.adr 3 1) (zzh 14 (.v y.v) ty22 zzk ?_)))))))))))
 refine zzg 15 80 [i1.m.v, y.v] ?_
 intro w11 u11 e11 d11
 have k18 := k_natDivMod d11 (hN.ext e11) (hy.ext e11) hM xq xq
 with_reducible refine zPm k18 ?_
 rintro _ u16 g17 ⟨x12, x13, rfl, h14, h15⟩
 refine zza 10 (.v (.tuple #[x12.v, x13.v, .int .i64 0])) (zza 16 (.v x12.v) (zza 17 (.v x13.v) (zza 18 (zI 0) (zza 7 (.v x12.v) (zza 8 (.v x13.v) (zza 9 (zI 0) (zzb (zzd (sq9 (zza 19 (zI 0) (zza 20 (zB false) ?_)))))))))))
 refine zzb (zyr xj (zzr (zzo ?_)))
 refine zzd (sq9 (zza 24 (.adr 2 0) (zzh 25 (zB i1.s) ty4 zzk ?_)))
 rcases Bool.eq_false_or_eq_true i1.s with hs19 | hs19
 ·refine zyp 26 (x := zB i1.s) (zB true) (by rw [hs19]) (zza 27 (.v x13.v) ?_ (hw := w1 2 true 26))
  refine zza 28 (zI x13.n) ?_ (hw := w1 2 true 26)
  refine zza 29 (zB (decide ((0 : Int) < (x13.n : Int)))) ?_ (hw := w1 2 true 26)
  refine zza 30 (zB (decide ((0 : Int) < (x13.n : Int)))) (zzb (zzt (b := decide ((0 : Int) < (x13.n : Int))) xj (fun hb20 => ?_) (fun hb20 => ?_)))
  ·replace hb20 : (decide ((0 : Int) < (x13.n : Int))) = true := hb20
   have qhb20 := of_decide_eq_true hb20
   refine sq9 (zza 31 (.v x12.v) (zxw 32 ⟨104, [.int .u32 1]⟩ 1 (fun b21 u22 e23 h24 => ?_)))
   refine zzg 33 155 [x12.v, .slice (some ⟨b21, 0, none⟩) 1 1] ?_
   intro w25 u25 e25 d25
   have k30 := k_natAdd d25 (h14.ext (e23.trans e25)).raw ((one_data h24).ext e25).raw xq xq
   with_reducible refine zPm k30 ?_
   rintro _ u28 g29 ⟨x26, rfl, h27⟩
   refine zza 7 (.v x26.v) (zzb (zzf (zza 34 (.adr 3 1) (zzh 35 (.v y.v) ty22 zzk (zza 36 (.v x13.v) (zzg 37 223 [y.v, x13.v] ?_))))))
   intro w31 u31 e31 d31
   have k36 := k_natSub d31 (hy.ext (e11.trans (g17.ext.trans (e23.trans (e25.trans (g29.ext.trans e31)))))) (h15.ext (e23.trans (e25.trans (g29.ext.trans e31)))).raw xq xq
   with_reducible refine zPm k36 ?_
   rintro _ u34 g35 ⟨x32, rfl, h33⟩
   refine zza 8 (.v x32.v) (zzc 47 [(2, .adr 2 0), (3, .adr 3 0), (4, .adr 4 0), (5, .adr 5 0), (7, .v x26.v), (8, .v x32.v)] [(2, ⟨24, i1.cs⟩), (3, ⟨24, [.bool false, y.v]⟩), (4, ⟨24, [.bool false, .slice none 0 0]⟩), (5, ⟨24, [.bool false, .slice none 0 0]⟩)] (sq9 (zza 38 (.adr 2 0) (zzh 39 (zB i1.s) ty4 zzk (zza 40 (.adr 3 0) (zzh 41 (zB false) ty4 zzk (zza 42 (zB (!(i1.s == false))) (zza 43 (.v x26.v) (zzg 44 222 [.bool (!(i1.s == false)), x26.v] ?_)))))))))
   intro w37 u37 e37 d37
   have k42 := k_signed d37 (s := !(i1.s == false)) (h27.ext (e31.trans (g35.ext.trans e37)))
   with_reducible refine zPm k42 ?_
   rintro _ u40 g41 ⟨i38, rfl, h39⟩
   refine zza 45 (.v x32.v) (zzg 46 222 [.bool false, x32.v] ?_)
   intro w43 u43 e43 d43
   have k48 := k_signed d43 (s := false) (h33.ext (e37.trans (g41.ext.trans e43)))
   with_reducible refine zPm k48 ?_
   rintro _ u46 g47 ⟨i44, rfl, h45⟩
   refine zzi ⟨24, i38.cs⟩ ty24 ?_
   refine zzi ⟨24, i44.cs⟩ ty24 ?_
   refine zza 6 (zI 0) (zzb (zzn (ret0 [i38.v, i44.v, .int .i64 0] ⟨zzq ty24 zze, zzq ty24 zze, zzp, trivial⟩ fun u49 e50 => ?_)))
   have hrp := h15.pos
   have e9 := hs19
   have key := Nt.rdiv1 (N := N) hM xq
   have g1 := (h39.ext (e43.trans (g47.ext.trans e50)))
   have g2 := (h45.ext e50)
   rw [e9] at g1
   rw [e9] at hzN
   have hK1 : 1 ≤ K := by have h2 := hN.size; have h3 := (Nt.dl_pos (x := N)).2 (by rcases Nat.eq_zero_or_pos N with e | e; (rw [e, Nat.zero_mod] at hrp; omega); exact e); omega
   rw [hzN]
   refine ⟨i38, i44, rfl, IntN.more (K := (max K 1 + 1)) ?_ xq, IntN.more (K := L) ?_ xq⟩
   ·rw [key.1]; exact g1
   ·rw [key.2]; exact g2
  ·replace hb20 : (decide ((0 : Int) < (x13.n : Int))) = false := hb20
   have qhb20 := of_decide_eq_false hb20
   refine zzr (zzo ?_)
   refine sq9 (zza 38 (.adr 2 0) (zzh 39 (zB i1.s) ty4 zzk (zza 40 (.adr 3 0) (zzh 41 (zB false) ty4 zzk (zza 42 (zB (!(i1.s == false))) (zza 43 (.v x12.v) (zzg 44 222 [.bool (!(i1.s == false)), x12.v] ?_)))))))
   intro w51 u51 e51 d51
   have k56 := k_signed d51 (s := !(i1.s == false)) (h14.ext e51)
   with_reducible refine zPm k56 ?_
   rintro _ u54 g55 ⟨i52, rfl, h53⟩
   refine zza 45 (.v x13.v) (zzg 46 222 [.bool false, x13.v] ?_)
   intro w57 u57 e57 d57
   have k62 := k_signed d57 (s := false) (h15.ext (e51.trans (g55.ext.trans e57)))
   with_reducible refine zPm k62 ?_
   rintro _ u60 g61 ⟨i58, rfl, h59⟩
   refine zzi ⟨24, i52.cs⟩ ty24 ?_
   refine zzi ⟨24, i58.cs⟩ ty24 ?_
   refine zza 6 (zI 0) (zzc 47 [(4, .adr 4 0), (5, .adr 5 0), (6, zI 0)] [(4, ⟨24, i52.cs⟩), (5, ⟨24, i58.cs⟩)] (zzn (ret0 [i52.v, i58.v, .int .i64 0] ⟨zzq ty24 zze, zzq ty24 zze, zzp, trivial⟩ fun u63 e64 => ?_)))
   have hrp := h15.pos
   have key := Nt.rdiv0 (s := i1.s) (N := N) hM (by rintro ⟨k1, k2⟩; omega)
   have g1 := (h53.ext (e57.trans (g61.ext.trans e64)))
   have g2 := (h59.ext e64)
   rw [hzN]
   refine ⟨i52, i58, rfl, IntN.more (K := K) ?_ xq, IntN.more (K := L) ?_ xq⟩
   ·rw [key.1]; exact g1
   ·rw [key.2]; exact g2
 ·refine zyp 26 (x := zB i1.s) (zB false) (by rw [hs19]) (zzm 27 (uw 2 true false 26) (zzm 28 (uw 2 true false 26) (zzm 29 (uw 2 true false 26) (zza 30 (zB false) (zzb (zyr xj (zzr (zzo ?_))))))))
  refine sq9 (zza 38 (.adr 2 0) (zzh 39 (zB i1.s) ty4 zzk (zza 40 (.adr 3 0) (zzh 41 (zB false) ty4 zzk (zza 42 (zB (!(i1.s == false))) (zza 43 (.v x12.v) (zzg 44 222 [.bool (!(i1.s == false)), x12.v] ?_)))))))
  intro w65 u65 e65 d65
  have k70 := k_signed d65 (s := !(i1.s == false)) (h14.ext e65)
  with_reducible refine zPm k70 ?_
  rintro _ u68 g69 ⟨i66, rfl, h67⟩
  refine zza 45 (.v x13.v) (zzg 46 222 [.bool false, x13.v] ?_)
  intro w71 u71 e71 d71
  have k76 := k_signed d71 (s := false) (h15.ext (e65.trans (g69.ext.trans e71)))
  with_reducible refine zPm k76 ?_
  rintro _ u74 g75 ⟨i72, rfl, h73⟩
  refine zzi ⟨24, i66.cs⟩ ty24 ?_
  refine zzi ⟨24, i72.cs⟩ ty24 ?_
  refine zza 6 (zI 0) (zzc 47 [(4, .adr 4 0), (5, .adr 5 0), (6, zI 0)] [(4, ⟨24, i66.cs⟩), (5, ⟨24, i72.cs⟩)] (zzn (ret0 [i66.v, i72.v, .int .i64 0] ⟨zzq ty24 zze, zzq ty24 zze, zzp, trivial⟩ fun u77 e78 => ?_)))
  have hrp := h15.pos
  have key := Nt.rdiv0 (s := i1.s) (N := N) hM (by rintro ⟨k1, k2⟩; rw [k1] at hs19; exact absurd hs19 xw)
  have g1 := (h67.ext (e71.trans (g75.ext.trans e78)))
  have g2 := (h73.ext e78)
  rw [hzN]
  refine ⟨i66, i72, rfl, IntN.more (K := K) ?_ xq, IntN.more (K := L) ?_ xq⟩
  ·rw [key.1]; exact g1
  ·rw [key.2]; exact g2
theorem k_double {u w : World} {i : IL} {z : Int} {K s : Nat} (d : Dat u w) (hi : IntV u i z K) (hK : K ≤ 100000000) (hs : s ≤ 65536) : Calls Tryz.prog 242 #[i.v, .int .i64 (s : Int)] w (Post u w fun v u' => ∃ y : Sl, v = .agg #[.bool i.s, y.v] ∧ IntV u' ⟨i.s, y⟩ (z * ((2 ^ s : Nat) : Int)) (K + s / 32 + 1)) := by
 refine zzl (args := [i.v, .int .i64 s]) Tryz.func242 rfl Tryz.ntmps242 (rs := [.cell 4 24]) Tryz.results242 (le_b rfl) (le_b rfl) d ?_
 refine sq9 (zzj 2 ⟨24, i.cs⟩ (zzj 4 ⟨24, [.bool false, .slice none 0 0]⟩ (zzb (zzd (zzy [0, 1, 0, 4, 0, 28, 63, 127] [(0, []), (1, []), (2, []), (3, []), (4, []), (5, []), (6, []), (7, [])] xj xj (zza 5 (.adr 2 0) (zzh 6 (zB i.s) ty4 zzk (zza 7 (.adr 2 1) (zzh 8 (.v i.m.v) ty22 zzk (zza 9 (zI s) (zzg 10 79 [i.m.v, .int .i64 s] ?_)))))))))))
 intro w11 u11 e11 d11
 have k16 := k_natShift (s := s) d11 ((IntV.abs hi).ext e11) xq xq
 with_reducible refine zPm k16 ?_
 rintro _ u14 g15 ⟨x12, rfl, h13⟩
 refine zza 11 (.v (.agg #[.bool i.s, x12.v])) (zzi ⟨24, [.bool i.s, x12.v]⟩ ty24 ?_)
 refine zzb (zzn (ret0 [.agg #[.bool i.s, .slice x12.a x12.n x12.c]] ⟨zzq ty24 zze, trivial⟩ fun u17 e18 => ?_))
 obtain ⟨N9, hN9, hz9⟩ := hi
 refine ⟨x12, rfl, ?_⟩
 rw [hz9, ← Nt.sg_mulN]
 have h9 := IntV.same (s := i.s) (h13.ext e18).raw
 rw [hz9] at h9
 exact h9
theorem k_onGrid {u w : World} {i : IL} {y : Sl} {z : Int} {D K L s : Nat} (d : Dat u w) (hi : IntV u i z K) (hy : NatV u y D L) (hD : 0 < D) (hK : K ≤ 10000000) (hL : L ≤ 10000000) (hs : s ≤ 65536) : Calls Tryz.prog 243 #[i.v, y.v, .int .i64 (s : Int)] w (Post u w fun v u' => ∃ r : RL, v = r.v ∧ RatN u' r (mkRat (z / (D : Int)) (2 ^ s)) (K + s / 32 + 3)) := by
 have hp2 : 0 < 1 * 2 ^ s := by rw [Nat.one_mul]; exact Nat.pow_pos xw
 refine zzl (args := [i.v, .slice y.a y.n y.c, .int .i64 s]) Tryz.func243 rfl Tryz.ntmps243 (rs := [.cell 6 26]) Tryz.results243 (le_b rfl) (le_b rfl) d ?_
 refine sq9 (zzj 3 ⟨24, i.cs⟩ (zzj 6 ⟨26, [.bool false, .slice none 0 0, .slice none 0 0]⟩ (zzb (zzd (zzy [0, 0, 2, 7, 15, 31, 31, 31, 0, 0, 831, 1919, 4095] [(0, []), (1, []), (8, []), (9, []), (2, []), (3, []), (4, []), (5, []), (6, []), (7, []), (10, []), (11, []), (12, [])] xj xj (zzh 11 (.v (i.v)) ty24 zze (zza 12 (.v y.v) (zzj 7 ⟨24, [.bool false, .slice none 0 0]⟩ (zzj 8 ⟨24, [.bool false, .slice none 0 0]⟩ (zzg 13 195 [y.v] ?_))))))))))
 intro w11 u11 e11 d11
 have k14 := k_natural (x := y) d11
 with_reducible refine zPm k14 ?_
 rintro _ u12 g13 rfl
 refine zzg 14 180 [i.v, .agg #[.bool false, y.v]] ?_
 intro w15 u15 e15 d15
 have k22 := k_intDivP d15 (hi.ext (e11.trans (g13.ext.trans e15))) (hy.ext (e11.trans (g13.ext.trans e15))) hD xq xq
 with_reducible refine zPm k22 ?_
 rintro _ u20 g21 ⟨i16, i18, rfl, h17, h19⟩
 refine zza 10 (.v (.tuple #[i16.v, i18.v, .int .i64 0])) (zza 15 (.v (i16.v)) (zza 16 (.v (i18.v)) (zza 17 (zI 0) (zzi ⟨24, i16.cs⟩ ty24 ?_))))
 refine zzi ⟨24, i18.cs⟩ ty24 ?_
 refine zza 9 (zI 0) (zzb (zzd (zzy [0, 0, 0, 6, 15, 31, 63] [(0, []), (1, []), (2, []), (3, [19]), (4, []), (5, []), (6, [])] xj xj (zzh 18 (.v (i16.v)) ty24 zze (sy_lit 19 ⟨104, [.int .u32 1]⟩ 1 ?_)))))
 refine zza 20 (zI s) (zyn 21 79 [.slc 19 0 1 1, zI s] [19] (.inr rfl) (pub_mk xk) (k := ?_))
 intro B23 w23 u23 e23 d23 v23
 have h25 : u23.heap[B23 19]? = some (.cells #[.int .u32 1] 104 (0, 0)) := v23 19 (by simp) _ rfl
 obtain ⟨b24, hBb24⟩ : ∃ b, B23 19 = b := ⟨_, rfl⟩
 rw [hBb24] at h25
 show Calls _ _ #[.slice (some ⟨B23 19, 0, none⟩) 1 1, .int .i64 (s : Int)] _ _
 rw [hBb24]
 have k30 := k_natShift (s := s) d23 (one_data h25).raw xq xq
 with_reducible refine zPm k30 ?_
 rintro _ u28 g29 ⟨x26, rfl, h27⟩
 refine zza 22 (.v (.agg #[.bool i16.s, i16.m.v, x26.v])) (zzg 23 148 [.agg #[.bool i16.s, i16.m.v, x26.v]] ?_)
 intro w31 u31 e31 d31
 have k36 := k_lowest d31 (h17.ext (e23.trans (g29.ext.trans e31))).raw (h27.ext e31).raw hp2 xq xq
 with_reducible refine zPm k36 ?_
 rintro _ u34 g35 ⟨r32, rfl, h33⟩
 refine zzi ⟨26, r32.cs⟩ ty26 ?_
 refine zzb (zzn (ret0 [r32.v] ⟨zzq ty26 zze, trivial⟩ fun u37 e38 => ?_))
 refine ⟨r32, rfl, RatN.more (K := (max (K + 1) (1 + s / 32 + 1))) ?_ xq⟩
 have h9 := (h33.ext e38)
 rw [Nat.one_mul] at h9
 exact h9
set_option maxHeartbeats 1000000 in
theorem k_downG {u w : World} {r : RL} {q : Rat} {K : Nat} {k : Nat} (hk : k ≤ 256) (d : Dat u w) (hr : RatV u r q K) (hK : K ≤ 1000000) : Calls Tryz.prog 252 #[r.v, .int .i64 (k : Int)] w (Post u w fun v u' => ∃ p : RL, v = .tuple #[p.v, .int .i64 0] ∧ RatN u' p (Nt.dnQ q k) (K + 20)) := by
 refine zzl (args := [r.v, .int .i64 k]) Tryz.func252 rfl Tryz.ntmps252 (rs := [.cell 4 26, .tmp 5]) Tryz.results252 (le_b rfl) (le_b rfl) d ?_
 refine sq9 (zzj 2 ⟨26, r.cs⟩ (zzj 4 ⟨26, [.bool false, .slice none 0 0, .slice none 0 0]⟩ (zza 5 (zI 0) (zzb (zzd (sq9 (zza 7 (zI k) (zza 8 (zB (decide ((k : Int) < 0))) (zyp 9 (x := zB (decide ((k : Int) < 0))) (zB false) (by rw [show (decide ((k : Int) < 0)) = false from decide_eq_false xq]) (zza 10 (zI k) ?_ (hw := w1 2 false 9)))))))))))
 refine zza 11 (zB (decide ((256 : Int) < (k : Int)))) ?_ (hw := w1 2 false 9)
 refine zza 12 (zB (decide ((256 : Int) < (k : Int)))) (zzb (zzt (b := decide ((256 : Int) < (k : Int))) xj (fun hb => ?_) (fun hb => ?_)))
 ·exact absurd hb (by rw [show (decide ((256 : Int) < (k : Int))) = false from decide_eq_false xq]; decide)
 ·clear hb
  refine zzr (zzo ?_)
  refine sq9 (zzh 14 (.v (r.v)) ty26 zze (zzg 15 147 [r.v] ?_))
  intro w12 u12 e12 d12
  have k16 := k_read d12 (hr.ext e12)
  with_reducible refine zPm k16 ?_
  rintro _ u14 g15 ⟨r13, wh13, rfl, z13, D13, hi13, hd13, hp13, hq13, hw13, hk13⟩
  refine zzj 6 ⟨149, [.bool false, .slice none 0 0, .slice none 0 0, .bool false]⟩ (zzi ⟨149, r13.cs ++ [.bool wh13]⟩ ty149 ?_)
  refine zzb (zzd (zzy [0, 1, 3, 0, 15, 0, 32, 96, 0, 511, 1023, 2047] [(0, []), (1, []), (2, []), (3, []), (5, []), (6, []), (7, []), (8, []), (4, []), (9, []), (10, []), (11, [])] xj xj (zza 16 (.adr 6 0) (zza 17 (.adr 6 0) (zzh 18 (.v (.agg #[.bool r13.s, r13.m.v])) ty24 zze (zza 19 (zI k) (zza 21 (.adr 6 0) (zza 22 (.adr 6 2) (zzh 23 (.v r13.d.v) ty22 zzk (zza 24 (zI k) (zzg 20 242 [.agg #[.bool r13.s, r13.m.v], .int .i64 k] ?_)))))))))))
  intro w17 u17 e17 d17
  have k22 := k_double (s := k) d17 (hi13.ext e17) xq xq
  with_reducible refine zPm k22 ?_
  rintro _ u20 g21 ⟨y18, rfl, h19⟩
  refine zzg 25 243 [.agg #[.bool r13.s, y18.v], r13.d.v, .int .i64 k] ?_
  intro w23 u23 e23 d23
  have k28 := k_onGrid (s := k) d23 (h19.ext e23) (hd13.ext (e17.trans (g21.ext.trans e23))) hp13 xq xq xq
  with_reducible refine zPm k28 ?_
  rintro _ u26 g27 ⟨r24, rfl, h25⟩
  refine zzi ⟨26, r24.cs⟩ ty26 ?_
  refine zza 5 (zI 0) (zzb (zzn (ret0 [r24.v, .int .i64 0] ⟨zzq ty26 zze, zzp, trivial⟩ fun u29 e30 => ?_)))
  refine ⟨r24, rfl, RatN.more (K := ((K + k / 32 + 1) + k / 32 + 3)) ?_ xq⟩
  rw [hq13, Nt.dn_mk hp13]
  exact (h25.ext e30)
set_option maxHeartbeats 1000000 in
theorem k_upG {u w : World} {r : RL} {q : Rat} {K : Nat} {k : Nat} (hk : k ≤ 256) (d : Dat u w) (hr : RatV u r q K) (hK : K ≤ 1000000) : Calls Tryz.prog 253 #[r.v, .int .i64 (k : Int)] w (Post u w fun v u' => ∃ p : RL, v = .tuple #[p.v, .int .i64 0] ∧ RatN u' p (-Nt.dnQ (-q) k) (K + 20)) := by
 refine zzl (args := [r.v, .int .i64 k]) Tryz.func253 rfl Tryz.ntmps253 (rs := [.cell 4 26, .tmp 5]) Tryz.results253 (le_b rfl) (le_b rfl) d ?_
 refine sq9 (zzj 2 ⟨26, r.cs⟩ (zzj 4 ⟨26, [.bool false, .slice none 0 0, .slice none 0 0]⟩ (zza 5 (zI 0) (zzb (sq9 (zzh 9 (.v (r.v)) ty26 zze (zzg 10 226 [r.v] ?_)))))))
 intro w11 u11 e11 d11
 have k14 := k_flip (r := r) d11
 with_reducible refine zPm k14 ?_
 rintro _ u12 g13 rfl
 refine zza 11 (zI k) (zzg 12 252 [.agg #[.bool (!r.s), r.m.v, r.d.v], .int .i64 k] ?_)
 intro w15 u15 e15 d15
 have k20 := k_downG (k := k) xq d15 ((flip_rat (hr.ext (e11.trans g13.ext))).ext e15) xq
 with_reducible refine zPm k20 ?_
 rintro _ u18 g19 ⟨r16, rfl, h17⟩
 refine zza 8 (.v (.tuple #[r16.v, .int .i64 0])) (zza 13 (.v (r16.v)) (zza 14 (zI 0) (zzj 6 ⟨26, [.bool false, .slice none 0 0, .slice none 0 0]⟩ (zzi ⟨26, r16.cs⟩ ty26 ?_))))
 refine zza 7 (zI 0) (zzb (zzd (sq9 (zza 15 (zI 0) (zza 16 (zB false) (zzb (zyr xj (zzr (zzo ?_)))))))))
 refine sq9 (zzh 19 (.v (r16.v)) ty26 zze (zzg 20 176 [r16.v] ?_))
 intro w21 u21 e21 d21
 have k26 := k_ratNeg d21 (h17.ext e21).raw xq
 with_reducible refine zPm k26 ?_
 rintro _ u24 g25 ⟨r22, rfl, h23⟩
 refine zzi ⟨26, r22.cs⟩ ty26 ?_
 refine zza 5 (zI 0) (zzb (zzn (ret0 [r22.v, .int .i64 0] ⟨zzq ty26 zze, zzp, trivial⟩ fun u27 e28 => ?_)))
 refine ⟨r22, rfl, RatN.more (K := (K + 20)) ?_ xq⟩
 exact (h23.ext e28)
end Go.Proofs.YtbolmkfphieogaaGreat
