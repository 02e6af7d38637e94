/- Parts of the proof: contracts of functions, each walked once, and plain laws. -/
import Derived.Test.YtgmkhhfbckjaeaaGreatXchI
set_option linter.unusedVariables false
set_option maxHeartbeats 8000000
namespace Go.Proofs.YtgmkhhfbckjaeaaGreat
open Nt
open Go.RowKit
theorem k_r9valid {u w : World} {lo : Nat} {x : Sl} {Rs : List Sl} {Ls : List (List RL)} {M : List (List Rat)} {n m K : Nat} (d : Dat u w) (hm : MatQ 1 26 32 lo u x Rs Ls) (hN : MatN u Ls M K) (hl0 : M.length = n) (hr0 : ∀ i, i < n → (M.getD i []).length = m) (h1 : 1 ≤ n) (h2 : n ≤ 52) (h3 : 1 ≤ m) (h4 : m ≤ 52) : qyc 159 #[x.v] w (Post u w fun v _ => v = .bool true) := by
 have hLl : Ls.length = n := hN.1.trans hl0
 have hRsl := hm.len
 have hxn : x.n = n := hm.rows.trans hLl
 refine zzm Tryz.func159 rfl Tryz.ntmps159 Tryz.results159 d ?_
 refine sq9 (zza 2 (zB false) (zzb (zzd (sq9 (zza 5 (.v (x.v)) (zza 6 (zI x.n) (zza 7 (zB (decide ((x.n : Int) < 1))) (zyq 8 (x := zB (decide ((x.n : Int) < 1))) (zB false) (by rw [show (decide ((x.n : Int) < 1)) = false from decide_eq_false xq]) (zza 9 (.v (x.v)) ?_ (hw := w1 3 false 8))))))))))
 refine zza 10 (zI x.n) ?_ (hw := w1 3 false 8)
 refine zza 11 (zB (decide ((52 : Int) < (x.n : Int)))) ?_ (hw := w1 3 false 8)
 refine zza 12 (zB (decide ((52 : Int) < (x.n : Int)))) (zyq 13 (x := zB (decide ((52 : Int) < (x.n : Int)))) (zB false) (by rw [show (decide ((52 : Int) < (x.n : Int))) = false from decide_eq_false xq]) (zza 14 (.v (x.v)) ?_ (hw := w1 8 false 13)))
 obtain ⟨b13, ak, ai⟩ := MatQ.cell (i := 0) hm xq
 refine zya 15 (0 + 0 * 1) (n := x.n) (off := 0) (sz := 1) (i := 0) xq ak xq xq sl75 ?_ (hw := w1 8 false 13)
 have hrw14 := MatQ.row hm 0 xq
 have af : (Ls.getD 0 []).length = m := (MatN.rowlen hN (by rw [hl0]; omega)).trans (hr0 0 xq)
 have aq : (Rs.getD 0 sl0).n = m := (MutQ.rown hrw14).trans af
 refine zyl 16 (.slice (Rs.getD 0 sl0).a (Rs.getD 0 sl0).n (Rs.getD 0 sl0).c) ai ty26 ?_ (hw := w1 8 false 13)
 refine zza 17 (zI (((Rs.getD 0 sl0).n : Nat) : Int)) ?_ (hw := w1 8 false 13)
 refine zza 18 (zB (decide ((((Rs.getD 0 sl0).n : Nat) : Int) < 1))) ?_ (hw := w1 8 false 13)
 refine zza 19 (zB (decide ((((Rs.getD 0 sl0).n : Nat) : Int) < 1))) (zyq 20 (x := zB (decide ((((Rs.getD 0 sl0).n : Nat) : Int) < 1))) (zB false) (by rw [show (decide ((((Rs.getD 0 sl0).n : Nat) : Int) < 1)) = false from decide_eq_false xq]) (zza 21 (.v (x.v)) ?_ (hw := w1 15 false 20)))
 obtain ⟨b16, ao, al⟩ := MatQ.cell (i := 0) hm xq
 refine zya 22 (0 + 0 * 1) (n := x.n) (off := 0) (sz := 1) (i := 0) xq ao xq xq sl75 ?_ (hw := w1 15 false 20)
 have hrw17 := MatQ.row hm 0 xq
 have ad : (Ls.getD 0 []).length = m := (MatN.rowlen hN (by rw [hl0]; omega)).trans (hr0 0 xq)
 have ap : (Rs.getD 0 sl0).n = m := (MutQ.rown hrw17).trans ad
 refine zyl 23 (.slice (Rs.getD 0 sl0).a (Rs.getD 0 sl0).n (Rs.getD 0 sl0).c) al ty26 ?_ (hw := w1 15 false 20)
 refine zza 24 (zI (((Rs.getD 0 sl0).n : Nat) : Int)) ?_ (hw := w1 15 false 20)
 refine zza 25 (zB (decide ((52 : Int) < (((Rs.getD 0 sl0).n : Nat) : Int)))) ?_ (hw := w1 15 false 20)
 refine zza 26 (zB (decide ((52 : Int) < (((Rs.getD 0 sl0).n : Nat) : Int)))) (zzb (zzu (b := decide ((52 : Int) < (((Rs.getD 0 sl0).n : Nat) : Int))) xj (fun hb => ?_) (fun hb => ?_)))
 ·exact absurd hb (by rw [show (decide ((52 : Int) < (((Rs.getD 0 sl0).n : Nat) : Int))) = false from decide_eq_false xq]; decide)
 clear hb
 refine zzs (zzp ?_)
 refine zzd (sq9 (zza 27 (.v (x.v)) (zza 28 (zI x.n) (zza 29 (zI 0) (zzb (zzt (zyn (I := fun av S' u' => ∃ (i : Nat), (av = n - i) ∧ (i ≤ n) ∧ (S' = St.of 41 [(0, .v (x.v)), (27, .v (x.v)), (28, zI x.n), (29, zI i)] []) ∧ (Ext u u')) (fun m S u1 u2 e h => by obtain ⟨i, hm, p0, hS, hE⟩ := h; exact ⟨i, hm, p0, hS, hE.trans e⟩) _ yz ⟨0, rfl, by omega, rfl, (Ext.refl _)⟩ ?_)))))))
 rintro av _ u18 ⟨i, aw, hi, rfl, ac⟩
 refine sq9 (zza 30 (zB (decide ((i : Int) < (x.n : Int)))) (zzb (zzd (zzu (b := decide ((i : Int) < (x.n : Int))) xj (fun aa => ?_) (fun aa => ?_)))))
 ·have qhb19 := qyt aa
  refine zzs (zzp ?_)
  refine zzd (zzt (sq9 ?_))
  obtain ⟨b20, an, aj⟩ := MatQ.cell (i := i) (hm.ext ac) xq
  refine zya 31 (0 + i * 1) (n := x.n) (off := 0) (sz := 1) (i := (i : Int)) xq an xq xq sl75 ?_
  have hrw21 := MatQ.row (hm.ext ac) i xq
  have ae : (Ls.getD i []).length = m := (MatN.rowlen (hN.ext ac) (by rw [hl0]; omega)).trans (hr0 i xq)
  have au : (Rs.getD i sl0).n = m := (MutQ.rown hrw21).trans ae
  refine zyl 32 (.slice (Rs.getD i sl0).a (Rs.getD i sl0).n (Rs.getD i sl0).c) aj ty26 (zza 4 (.v (.slice (Rs.getD i sl0).a (Rs.getD i sl0).n (Rs.getD i sl0).c)) (zzb (sq9 (zza 33 (.v (.slice (Rs.getD i sl0).a (Rs.getD i sl0).n (Rs.getD i sl0).c)) (zza 34 (zI (((Rs.getD i sl0).n : Nat) : Int)) (zza 35 (.v (x.v)) ?_))))))
  obtain ⟨b22, am, ah⟩ := MatQ.cell (i := 0) (hm.ext ac) xq
  refine zya 36 (0 + 0 * 1) (n := x.n) (off := 0) (sz := 1) (i := 0) xq am xq xq sl75 ?_
  have hrw23 := MatQ.row (hm.ext ac) 0 xq
  have ag : (Ls.getD 0 []).length = m := (MatN.rowlen (hN.ext ac) (by rw [hl0]; omega)).trans (hr0 0 xq)
  have ar : (Rs.getD 0 sl0).n = m := (MutQ.rown hrw23).trans ag
  refine zyl 37 (.slice (Rs.getD 0 sl0).a (Rs.getD 0 sl0).n (Rs.getD 0 sl0).c) ah ty26 (zza 38 (zI (((Rs.getD 0 sl0).n : Nat) : Int)) (zza 39 (zB ((((Rs.getD i sl0).n : Nat) : Int) != (((Rs.getD 0 sl0).n : Nat) : Int))) (zzc 41 [(0, .v (x.v)), (27, .v (x.v)), (28, zI x.n), (29, zI i), (39, zB ((((Rs.getD i sl0).n : Nat) : Int) != (((Rs.getD 0 sl0).n : Nat) : Int)))] [] (zzu (b := (((Rs.getD i sl0).n : Nat) : Int) != (((Rs.getD 0 sl0).n : Nat) : Int)) xj (fun hb => ?_) (fun hb => ?_)))))
  ·exact absurd hb (by rw [show ((((Rs.getD i sl0).n : Nat) : Int) != (((Rs.getD 0 sl0).n : Nat) : Int)) = false from (by rw [bne_eq_false_iff_eq]; omega)]; decide)
  clear hb
  refine zzs (zzp ?_)
  refine zzf (qwi 40 ((i : Int) + 1) (i + 1 : Nat) xz (zza 29 (zI (i + 1 : Nat)) (zzx ?_)))
  refine ⟨_, ?_, _, by exact zzv _ _ _, i + 1, rfl, by omega, rfl, ac⟩
  omega
 have qhb19 := qyf aa
 refine zyc (zzp (sq9 (zza 2 (zB true) (zzb (zzo (ret0 [.bool true] ⟨zzq, trivial⟩ fun u24 e25 => ?_))))))
 rfl
section
variable {w lo b c i j : Nat} {tO tR : TypeId} {u u' : World} {x z : Sl} {Rs : List Sl} {Ls : List (List RL)} {cs : List Value} {k : Nat}
theorem MatQ.far (hT : tO ≠ tR) (m : MatQ w tO tR lo u x Rs Ls) (hz : MutQ k tR lo u z cs) (e : ExtX z u u') (hs : ∀ j, j < Ls.length → Sep z (Rs.getD j sl0)) : MatQ w tO tR lo u' x Rs Ls :=
 ⟨m.out.extT (e.t hz.mutL) hT, m.len, fun i hi => (m.row i hi).extS e (hs i hi), m.sep⟩
end
theorem k_r9copies {u w : World} {lo : Nat} {x : Sl} {Rs : List Sl} {Ls : List (List RL)} {M : List (List Rat)} {n m K : Nat} (d : Dat u w) (hm : MatQ 1 26 32 lo u x Rs Ls) (hN : MatN u Ls M K) (hl0 : M.length = n) (hr0 : ∀ i, i < n → (M.getD i []).length = m) (h2 : n ≤ 1000) (h4 : m ≤ 1000) (hK : K ≤ 50000000) : qyc 205 #[x.v] w (Post u w fun v u' => ∃ (y : Sl) (Rs' : List Sl) (Ls' : List (List RL)), v = y.v ∧ MatQ 1 26 32 u.heap.size u' y Rs' Ls' ∧ MatN u' Ls' M K) := by
 have hLl : Ls.length = n := hN.1.trans hl0
 have hRsl := hm.len
 have hxn : x.n = n := hm.rows.trans hLl
 refine zzm Tryz.func205 rfl Tryz.ntmps205 Tryz.results205 d ?_
 refine sq9 (zza 2 (.v (qyn)) (zzb (sq9 (zza 3 (.v (qyn)) (zzb (zzd (sq9 (zza 9 (.v (x.v)) (zza 10 (zI x.n) (zza 11 (zI 0) (zzb ?_)))))))))))
 refine zzt (zyn (I := fun aJ S' u' => ∃ (i : Nat) (y : Sl) (Rc : List Sl) (Lc : List (List RL)), (aJ = n - i) ∧ (i ≤ n) ∧ (S' = St.of 33 [(3, .v (y.v)), (9, .v (x.v)), (10, zI x.n), (11, zI i)] []) ∧ (Ext u u') ∧ (MatQ 1 26 32 u.heap.size u' y Rc Lc) ∧ (MatN u' Lc (M.take i) K)) (fun m S u1 u2 e h => by obtain ⟨i, y, Rc, Lc, hm, p0, hS, hE, f0, f1⟩ := h; exact ⟨i, y, Rc, Lc, hm, p0, hS, hE.trans e, f0.ext e, f1.ext e⟩) _ yz ⟨0, sl0, [], [], rfl, by omega, rfl, (Ext.refl _), MatQ.empty, (by rw [List.take_zero]; exact MatN.empty)⟩ ?_)
 rintro aJ _ u11 ⟨i, y, Rc, Lc, aR, hi, rfl, ap, g0, g1⟩
 refine sq9 (zza 12 (zB (decide ((i : Int) < (x.n : Int)))) (zzb (zzd (zzu (b := decide ((i : Int) < (x.n : Int))) xj (fun ah => ?_) (fun ah => ?_)))))
 ·have qhb12 := qyt ah
  refine zzs (zzp ?_)
  refine zzd (zzt (sq9 ?_))
  obtain ⟨b13, ax, av⟩ := MatQ.cell (i := i) (hm.ext ap) xq
  refine zya 13 (0 + i * 1) (n := x.n) (off := 0) (sz := 1) (i := (i : Int)) xq ax xq xq sl75 ?_
  have hrw14 := MatQ.row (hm.ext ap) i xq
  have am : (Ls.getD i []).length = m := (MatN.rowlen (hN.ext ap) (by rw [hl0]; omega)).trans (hr0 i xq)
  have aD : (Rs.getD i sl0).n = m := (MutQ.rown hrw14).trans am
  refine zyl 14 (.slice (Rs.getD i sl0).a (Rs.getD i sl0).n (Rs.getD i sl0).c) av ty26 (zza 5 (.v (.slice (Rs.getD i sl0).a (Rs.getD i sl0).n (Rs.getD i sl0).c)) (zzb (sq9 (zza 6 (.v (qyn)) (zzb (zzd (sq9 (zza 15 (.v (.slice (Rs.getD i sl0).a (Rs.getD i sl0).n (Rs.getD i sl0).c)) (zza 16 (zI (((Rs.getD i sl0).n : Nat) : Int)) (zza 17 (zI 0) (zzb ?_)))))))))))
  refine zzt (zyn (I := fun aG S' u' => ∃ (j : Nat) (z : Sl) (L : List RL), (aG = m - j) ∧ (j ≤ m) ∧ (∀ k, k < Lc.length → Sep z (Rc.getD k sl0)) ∧ (S' = St.of 33 [(3, .v (y.v)), (6, .v (z.v)), (9, .v (x.v)), (10, zI x.n), (11, zI i), (15, .v (.slice (Rs.getD i sl0).a (Rs.getD i sl0).n (Rs.getD i sl0).c)), (16, zI (((Rs.getD i sl0).n : Nat) : Int)), (17, zI j)] []) ∧ (Ext u u') ∧ (MatQ 1 26 32 u.heap.size u' y Rc Lc) ∧ (MatN u' Lc (M.take i) K) ∧ (MutQ (1 * 3) 32 u.heap.size u' z (rcs L)) ∧ (RatsN u' L ((M.getD i []).take j) K)) (fun m S u1 u2 e h => by obtain ⟨j, z, L, hm, p0, p1, hS, hE, f0, f1, f2, f3⟩ := h; exact ⟨j, z, L, hm, p0, p1, hS, hE.trans e, f0.ext e, f1.ext e, f2.ext e, f3.ext e⟩) _ yz ⟨0, sl0, [], rfl, by omega, (fun k hk => Sep.nil _), rfl, ap, g0, g1, (MutQ.nil _ _ _ _), (by rw [List.take_zero]; exact ⟨rfl, fun k hk => absurd hk (Nat.not_lt_zero k)⟩)⟩ ?_)
  rintro aG _ aS ⟨j, z, L, aK, hj, hsep, rfl, an, f0, f1, f2, f3⟩
  have hrs := MatQ.row hm i xq
  have hzL := (MutQ.rown (show MutQ (1 * 3) 32 u.heap.size aS z (rcs L) from f2))
  have hLj : L.length = j := by rw [f3.1, List.length_take, hr0 i xq]; omega
  refine sq9 (zza 18 (zB (decide ((j : Int) < (((Rs.getD i sl0).n : Nat) : Int)))) (zzb (zzd (zzu (b := decide ((j : Int) < (((Rs.getD i sl0).n : Nat) : Int))) xj (fun ae => ?_) (fun ae => ?_)))))
  ·have qhb16 := qyt ae
   refine zzs (zzp ?_)
   refine zzd (zzt (sq9 ?_))
   obtain ⟨b17, ar, aj⟩ := MutQ.el1 (j := j) (hrs.ext an) xq
   refine zya 19 (0 + j * 3) (n := (Rs.getD i sl0).n) (off := 0) (sz := 3) (i := (j : Int)) xq ar xq xq sl26 ?_
   obtain ⟨aw, al⟩ : ∃ r : RL, (Ls.getD i []).getD j rl0 = r := ⟨_, rfl⟩
   rw [al] at aj
   have hv20 := ((MatN.at (i := i) (j := j) hN xq (by rw [hr0 i xq]; omega)).ext an)
   rw [al] at hv20
   refine zym 20 (aw.cs) aj ty32 (zzk 8 ⟨32, zw3⟩ (zzj ⟨32, aw.cs⟩ ty32 ?_))
   refine zzb (zzf (zza 21 (.v (z.v)) (zzi 22 (.v (aw.v)) ty32 zze (zzg 23 80 _ fun _ _ ag aU => qym (k_rqTrim aU (hv20.ext ag).raw xq) ?_))))
   rintro _ u24 ai ⟨ac, rfl, aF⟩
   refine zxx 24 ⟨32, ac.cs⟩ 1 (fun aB aI ad aH => ?_)
   have aO : PolN aI (⟨some ⟨aB, 0, none⟩, 1, 1⟩ : Sl) [((M.getD i []).getD j 0)] K := pol_lit (L := [ac]) aH (rats1 (aF.ext ad)) rfl yv
   have hz32 := (f2.ext (ag.t (ai.t ad)))
   have hz32L := (MutQ.rown (show MutQ (1 * 3) 32 u.heap.size aI z (rcs L) from hz32))
   refine sy_appQ 25 (T := 26) (E := 32) (z := .agg #[.bool false, qyn, qyn]) (size := 3) (bytes := 56) (b2 := aB) (off := 0) (m := 1) z (rcs L) ac.cs hz32 xj xj xj yv rfl (lit_news ((Ext.refl _).cells aH)) (rl_one ac) yv yk xq (nu_rl ac) nu_zrat (fun ao aM ay aN aa az => ?_)
   have aq : MutQ (1 * 3) 32 u.heap.size aM ao (rcs (L ++ [ac])) := by rw [rcs_app, show rcs [ac] = ac.cs from by simp [rcs]]; exact ay
   have eR33 := ExtX.root aa (MutQ.mutL hz32) (an.t (ag.t (ai.t ad)))
   have aL : ao.n = L.length + 1 := by omega
   refine zza 6 (.v (ao.v)) (zzx ?_)
   refine zzp (zzf (qwi 26 ((j : Int) + 1) (j + 1 : Nat) xz (zza 17 (zI (j + 1 : Nat)) (zzx ?_))))
   refine ⟨_, ?_, _, by exact zzv _ _ _, j + 1, ao, (L ++ [ac]), rfl, by omega, (fun k hk => (Sep.step (hsep k hk).symm (MatQ.row (f0.ext (ag.t (ai.t ad))) k hk).mutL az).symm), rfl, eR33, (MatQ.ext (by exact MatQ.far yv (f0.ext (ag.t (ai.t ad))) hz32 aa (fun k hk => (hsep k hk))) (Ext.refl _)), ((MatN.keep (f1.ext (ag.t (ai.t ad))) hz32 aa).ext (Ext.refl _)), (MutQ.ext aq (Ext.refl _)), ((app_next (MutQ.keeps hz32 aa (f3.ext (ag.t (ai.t ad)))) (MutQ.keep hz32 aa (RatN.more (K := K) (aF.ext ad) xq)) (by rw [hr0 i xq]; omega) rfl).ext (Ext.refl _))⟩
   omega
  have qhb16 := qyf ae
  refine zyc (zzp ?_)
  have hfull := f3
  rw [List.take_of_length_le (by rw [hr0 i xq]; omega)] at hfull
  refine zzf (zza 27 (.v (y.v)) (zza 28 (.v (z.v)) (zxx 29 ⟨26, [z.v]⟩ 1 (fun aP u35 ak aV => ?_))))
  have hx38 := (f0.ext ak)
  have hx38l := hx38.rows
  have hx38n := (f1.ext ak)
  have hx38z := (f2.ext ak)
  have hx38r := (hfull.ext ak)
  have aC : Lc.length = i := by rw [hx38n.1, List.length_take]; omega
  refine sy_appQ 30 (T := 75) (E := 26) (z := qyn) (size := 1) (bytes := 24) (b2 := aP) (off := 0) (m := 1) y (Rc.map Sl.v) [z.v] (MatQ.out hx38) xj xj xj yv rfl (lit_news ((Ext.refl _).cells aV)) (sl_one z) yv yk xq (nu_sls [z]) nu_zsl (fun aA u39 au aT af aQ => ?_)
  have hS39 := MatQ.snoc yv yv hx38 hx38z (fun j hj => hsep j hj) (by rw [List.map_append]; exact au) af
  have hT39 := MatN.keep (MatN.snoc hx38n hx38r) (MatQ.out hx38) af
  have eR39 := ExtX.root af (MutQ.mutL (MatQ.out hx38)) (an.trans ak)
  refine zza 3 (.v (aA.v)) (zzx ?_)
  refine zzp (zzf (qwi 31 ((i : Int) + 1) (i + 1 : Nat) xz (zza 11 (zI (i + 1 : Nat)) (zzx ?_))))
  have hTi : M.take (i + 1) = M.take i ++ [M.getD i []] := by rw [List.take_succ_eq_append_getElem xq, qyg, List.getElem?_eq_getElem xq]; rfl
  refine ⟨_, ?_, _, by exact zzv _ _ _, i + 1, aA, (Rc ++ [z]), (Lc ++ [L]), rfl, by omega, rfl, eR39, (MatQ.ext hS39 (Ext.refl _)), (by rw [hTi]; exact MatN.ext hT39 (Ext.refl _))⟩
  omega
 have qhb12 := qyf ah
 refine zyc (zzp (sq9 (zza 32 (.v (y.v)) (zza 2 (.v (y.v)) (zzb (zzo (ret0 [y.v] ⟨zzq, trivial⟩ fun u40 aE => ?_)))))))
 refine ⟨y, Rc, Lc, rfl, (g0.ext aE), by have h9 := (g1.ext aE); rw [List.take_of_length_le xq] at h9; exact h9⟩
theorem k_r9reduce {u w v0 : World} {x : Sl} {Rs : List Sl} {Ls : List (List RL)} {M0 : List (List Rat)} {n m K : Nat} (d : Dat u w) (hv : Ext v0 u) (hm : MatQ 1 26 32 v0.heap.size u x Rs Ls) (hN : MatN u Ls M0 K) (hl0 : M0.length = n) (hr0 : ∀ i, i < n → (M0.getD i []).length = m) (hnm : n ≤ m) (hm9 : m ≤ 1000) (h1 : 1 ≤ n) (hI : Nt.Inj n M0) (hz : Nt.kz n K ≤ 100000000) : qyc 206 #[x.v, .int .i64 (n : Int)] w (PostF (mqB x Rs) u w fun v u' => ∃ (r : RL) (D : Rat) (Rs' : List Sl) (Ls' : List (List RL)) (M' : List (List Rat)), v = .tuple #[.int .i64 (n : Int), r.v] ∧ RatN u' r D (Nt.kz n K + 2) ∧ MatQ 1 26 32 v0.heap.size u' x Rs' Ls' ∧ MatN u' Ls' M' (Nt.kz n K) ∧ Nt.GI n m M0 M' n D) := by
 have hLl : Ls.length = n := hN.1.trans hl0
 have hxn : x.n = n := hm.rows.trans hLl
 refine calls_symF (F := mqB x Rs) (args := [x.v, .int .i64 (n : Int)]) Tryz.func206 rfl Tryz.ntmps206 (rs := [.tmp 4, .cell 5 32]) Tryz.results206 (le_b rfl) (le_b rfl) d ?_
 refine sq9 (zza 4 (zI 0) (zzk 5 ⟨32, zw3⟩ (zzb (sq9 (zzg 15 30 _ fun _ _ b3 c7 => qym (k_rqOf c7 (z := 1) xq xq) ?_)))))
 rintro _ u14 bS ⟨cB, rfl, dk⟩
 refine zzk 7 ⟨32, zw3⟩ (zza 6 (zI 0) (zzj ⟨32, cB.cs⟩ ty32 ?_))
 refine zzb (zzd (sq9 (zza 8 (zI 0) (zzb (zzt (zyn (I := fun cN S' u' => ∃ (c : Nat) (Rz : List Sl) (Lz : List (List RL)) (M1 : List (List Rat)) (rd : RL) (D : Rat), (cN = n - c) ∧ (c ≤ n) ∧ (Nt.GI n m M0 M1 c D) ∧ (RowsIn (mqB x Rs) Rz) ∧ (S' = St.of 159 [(0, .v (x.v)), (1, zI n), (5, .adr 5 0), (6, zI c), (7, .adr 7 0), (8, zI c)] [(5, ⟨32, zw3⟩), (7, ⟨32, rd.cs⟩)]) ∧ (Ext v0 u') ∧ (MatQ 1 26 32 v0.heap.size u' x Rz Lz) ∧ (MatN u' Lz M1 (Nt.kz c K)) ∧ (RatN u' rd D (Nt.kz c K + 2))) (fun m S u1 u2 e h => by obtain ⟨c, Rz, Lz, M1, rd, D, hm, p0, p1, p2, hS, hE, f0, f1, f2⟩ := h; exact ⟨c, Rz, Lz, M1, rd, D, hm, p0, p1, p2, hS, hE.trans e, f0.ext e, f1.ext e, f2.ext e⟩) _ yz ⟨0, Rs, Ls, M0, cB, 1, rfl, by omega, (Nt.GI.start hl0 hr0), RowsIn.self, rfl, (hv.t (b3.t bS.ext)), (hm.ext (b3.t bS.ext)), (hN.ext (b3.t bS.ext)), (by have h9 := dk; rw [show ((1 : Int) : Rat) = 1 from rfl] at h9; exact RatN.more h9 xq)⟩ ?_))))))
 rintro cN _ dm ⟨c, Rz, Lz, M1, rd, D, c0, hc, hg, hF, rfl, cx, z0, z1, z2⟩
 obtain ⟨kc, hkc⟩ : ∃ k, Nt.kz c K = k := ⟨_, rfl⟩
 rw [hkc] at z1 z2
 have hkz : kc ≤ 100000000 := by rw [← hkc]; exact Nat.le_trans (Nt.kz_mono hc) hz
 have hM1 := hg.len
 have hLz : Lz.length = n := z1.1.trans hM1
 have hRz := z0.len
 refine zzd (sq9 (zza 16 (zI c) (zza 17 (zI n) (zza 18 (zB (decide ((c : Int) < (n : Int)))) ?_))))
 rcases Bool.eq_false_or_eq_true (decide ((c : Int) < (n : Int))) with hs18 | hs18
 ·refine qbi 19 hs18 ?_
  have qhs18 := qyt hs18
  refine zza 20 (zI c) ?_ (hw := w1 3 true 19)
  refine zza 21 (.v (x.v)) ?_ (hw := w1 3 true 19)
  refine zza 22 (zI x.n) ?_ (hw := w1 3 true 19)
  refine zza 23 (zB (decide ((c : Int) < (x.n : Int)))) ?_ (hw := w1 3 true 19)
  refine zza 24 (zB (decide ((c : Int) < (x.n : Int)))) (zzb (zzu (b := decide ((c : Int) < (x.n : Int))) xj (fun hb => ?_) (fun hb => ?_)))
  ·clear hb
   refine zzs (zzp ?_)
   refine zzd (zzt (zzd ?_))
   have hz1 : 4 * kc + 6 ≤ 100000000 := by rw [← hkc, ← Nt.kz_s]; exact Nat.le_trans (Nt.kz_mono xq) hz
   refine zzf (zza 27 (zI c) (zza 9 (zI c) (zzb (zzd (zzt (zyn (I := fun cE S' u' => ∃ (k : Nat), (cE = n - k) ∧ (c ≤ k) ∧ (k ≤ n) ∧ (∀ i, c ≤ i → i < k → Nt.ent M1 i c = 0) ∧ (S' = St.of 159 [(0, .v (x.v)), (1, zI n), (5, .adr 5 0), (6, zI c), (7, .adr 7 0), (8, zI c), (9, zI k)] [(5, ⟨32, zw3⟩), (7, ⟨32, rd.cs⟩)]) ∧ (Ext dm u')) (fun m S u1 u2 e h => by obtain ⟨k, hm, p0, p1, p2, hS, hE⟩ := h; exact ⟨k, hm, p0, p1, p2, hS, hE.trans e⟩) _ yz ⟨c, rfl, Nat.le_refl _, by omega, (fun i h1 h2 => absurd h2 xq), rfl, (Ext.refl _)⟩ ?_))))))
   rintro cE _ u19 ⟨k, c6, hk0, hk1, hze, rfl, ad⟩
   refine zzd (sq9 (zza 28 (zI k) (zza 29 (.v (x.v)) (zza 30 (zI x.n) (zza 31 (zB (decide ((k : Int) < (x.n : Int)))) ?_)))))
   rcases Bool.eq_false_or_eq_true (decide ((k : Int) < (x.n : Int))) with hs20 | hs20
   ·refine qbi 32 hs20 ?_
    have qhs20 := qyt hs20
    refine zza 33 (.v (x.v)) ?_ (hw := w1 4 true 32)
    refine zza 34 (zI k) ?_ (hw := w1 4 true 32)
    obtain ⟨b21, bP, bD⟩ := MatQ.cell (i := k) (z0.ext ad) xq
    refine zya 35 (0 + k * 1) (n := x.n) (off := 0) (sz := 1) (i := (k : Int)) xq bP xq xq sl75 ?_ (hw := w1 4 true 32)
    have hrw22 := MatQ.row (z0.ext ad) k xq
    have ba : (Lz.getD k []).length = m := (MatN.rowlen (z1.ext ad) (by rw [hM1]; omega)).trans (hg.row k xq)
    have cw : (Rz.getD k sl0).n = m := (MutQ.rown hrw22).trans ba
    refine zyl 36 (.slice (Rz.getD k sl0).a (Rz.getD k sl0).n (Rz.getD k sl0).c) bD ty26 ?_ (hw := w1 4 true 32)
    refine zza 37 (zI c) ?_ (hw := w1 4 true 32)
    obtain ⟨b23, cd, bd⟩ := MutQ.el1 (j := c) hrw22 xq
    refine zya 38 (0 + c * 3) (n := (Rz.getD k sl0).n) (off := 0) (sz := 3) (i := (c : Int)) xq cd xq xq sl26 ?_ (hw := w1 4 true 32)
    obtain ⟨c5, a7⟩ : ∃ r : RL, (Lz.getD k []).getD c rl0 = r := ⟨_, rfl⟩
    rw [a7] at bd
    have hv26 := (MatN.at (i := k) (j := c) (z1.ext ad) (by rw [hM1]; omega) (by rw [(hg.row k xq)]; omega))
    rw [a7] at hv26
    refine zym 39 (c5.cs) bd ty32 ?_ (hw := w1 4 true 32)
    refine zzg 40 32 _ (fun _ _ af db => qym (k_rqSign db (hv26.ext af).raw xq) ?_) (hw := w1 4 true 32)
    rintro _ u28 ah rfl
    refine zza 41 (zB ((Nt.sgQ ((M1.getD k []).getD c 0)) == 0)) ?_ (hw := w1 4 true 32)
    refine zza 42 (zB ((Nt.sgQ ((M1.getD k []).getD c 0)) == 0)) (zzc 159 [(0, .v (x.v)), (1, zI n), (5, .adr 5 0), (6, zI c), (7, .adr 7 0), (8, zI c), (9, zI k), (42, zB ((Nt.sgQ ((M1.getD k []).getD c 0)) == 0))] [(5, ⟨32, zw3⟩), (7, ⟨32, rd.cs⟩)] (zzu (b := (Nt.sgQ ((M1.getD k []).getD c 0)) == 0) xj (fun aP => ?_) (fun aP => ?_)))
    ·have ak : ((M1.getD k []).getD c 0) = 0 := by have h9 := aP; rw [Nt.sgQ_eq] at h9; exact qyt h9
     refine zzs (zzp ?_)
     refine zzt (zzf (zza 43 (zI k) (qwi 44 ((k : Int) + 1) (k + 1 : Nat) xz (zza 9 (zI (k + 1 : Nat)) (zzx ?_)))))
     refine ⟨_, ?_, _, by exact zzv _ _ _, k + 1, rfl, by omega, by omega, (fun i h1 h2 => by rcases Nat.lt_or_ge i k with h3 | h3; exact hze i h1 h3; (obtain rfl : i = k := by omega); exact ak), rfl, (ad.t (af.t ah.ext))⟩
     omega
    have ak : ¬ ((M1.getD k []).getD c 0) = 0 := by have h9 := aP; rw [Nt.sgQ_eq] at h9; exact qyf h9
    refine zyc (zzp (zzd (sq9 (zza 45 (zI k) (zza 46 (.v (x.v)) (zza 47 (zI x.n) (zza 48 (zB ((k : Int) == (x.n : Int))) (zzb (zzu (b := (k : Int) == (x.n : Int)) xj (fun hb => ?_) (fun hb => ?_))))))))))
    ·exact absurd hb (by rw [show ((k : Int) == (x.n : Int)) = false from yw]; decide)
    clear hb
    refine zzs (zzp ?_)
    refine zzd (sw_joinR (I := fun S' u' => ∃ (Ry : List Sl) (Ly : List (List RL)) (M2 : List (List Rat)) (re : RL) (D2 : Rat), (Nt.GI n m M0 M2 c D2) ∧ (¬ Nt.ent M2 c c = 0) ∧ (RowsIn (mqB x Rs) Ry) ∧ (S' = St.of 159 [(0, .v (x.v)), (1, zI n), (5, .adr 5 0), (6, zI c), (7, .adr 7 0), (8, zI c)] [(5, ⟨32, zw3⟩), (7, ⟨32, re.cs⟩)]) ∧ (Ext v0 u') ∧ (MatQ 1 26 32 v0.heap.size u' x Ry Ly) ∧ (MatN u' Ly M2 kc) ∧ (RatN u' re D2 (kc + 2))) ?_ (fun av => ?_))
    ·rintro _ cr ⟨Ry, Ly, M2, re, D2, aX, hpv, bI, rfl, bO, y0, y1, y2⟩
     have hM2 := aX.len
     have hLy : Ly.length = n := y1.1.trans hM2
     have hRy := y0.len
     refine sq9 (zza 68 (.v (x.v)) (zza 69 (zI c) ?_))
     obtain ⟨b33, cn, bX⟩ := MatQ.cell (i := c) y0 xq
     refine zya 70 (0 + c * 1) (n := x.n) (off := 0) (sz := 1) (i := (c : Int)) xq cn xq xq sl75 ?_
     have hrw34 := MatQ.row y0 c xq
     have bn : (Ly.getD c []).length = m := (MatN.rowlen y1 (by rw [hM2]; omega)).trans (aX.row c xq)
     have cM : (Ry.getD c sl0).n = m := (MutQ.rown hrw34).trans bn
     refine zyl 71 (.slice (Ry.getD c sl0).a (Ry.getD c sl0).n (Ry.getD c sl0).c) bX ty26 (zza 72 (zI c) ?_)
     obtain ⟨b35, bM, bt⟩ := MutQ.el1 (j := c) hrw34 xq
     refine zya 73 (0 + c * 3) (n := (Ry.getD c sl0).n) (off := 0) (sz := 3) (i := (c : Int)) xq bM xq xq sl26 ?_
     obtain ⟨aO, bq⟩ : ∃ r : RL, (Ly.getD c []).getD c rl0 = r := ⟨_, rfl⟩
     rw [bq] at bt
     have hv38 := (MatN.at (i := c) (j := c) y1 (by rw [hM2]; omega) (by rw [(aX.row c xq)]; omega))
     rw [bq] at hv38
     refine zym 74 (aO.cs) bt ty32 (zzk 10 ⟨32, zw3⟩ (zzj ⟨32, aO.cs⟩ ty32 ?_))
     refine zzb (zzd ?_)
     obtain ⟨p, hp⟩ : ∃ p, (M2.getD c []).getD c 0 = p := ⟨_, rfl⟩
     have cZ : p ≠ 0 := by rw [← hp]; exact hpv
     have hpr : RatN cr aO p kc := by rw [← hp]; exact hv38
     obtain ⟨R, cg⟩ : ∃ R, Nt.ovR (M2.getD c []) p = R := ⟨_, rfl⟩
     have hrow2 := aX.row c xq
     have hRl : R.length = (M2.getD c []).length := by rw [← cg, Nt.ovR_len]
     have hRa : ∀ j, j < m → (M2.getD c []).getD j 0 / p = R.getD j 0 := fun j hj => by rw [← cg, Nt.ovR_at xq]
     have hMt : c < M2.length := by omega
     refine zzf (zzi 75 (.v (re.v)) ty32 zze (zzi 76 (.v (aO.v)) ty32 zze (zzg 77 91 _ fun _ _ ay dp => qym (k_rqMul dp (y2.ext ay).raw (hpr.ext ay).raw xq xq) ?_)))
     rintro _ u42 aR ⟨az, rfl, c8⟩
     refine zzj ⟨32, az.cs⟩ ty32 ?_
     refine zzb (zzd (sq9 (zza 78 (.v (x.v)) (zza 79 (zI c) ?_))))
     obtain ⟨b45, bH, bT⟩ := MatQ.cell (i := c) (y0.ext (ay.t aR.ext)) xq
     refine zya 80 (0 + c * 1) (n := x.n) (off := 0) (sz := 1) (i := (c : Int)) xq bH xq xq sl75 ?_
     have hrw46 := MatQ.row (y0.ext (ay.t aR.ext)) c xq
     have bg : (Ly.getD c []).length = m := (MatN.rowlen (y1.ext (ay.t aR.ext)) (by rw [hM2]; omega)).trans (aX.row c xq)
     have cP : (Ry.getD c sl0).n = m := (MutQ.rown hrw46).trans bg
     refine zyl 81 (.slice (Ry.getD c sl0).a (Ry.getD c sl0).n (Ry.getD c sl0).c) bT ty26 (zza 82 (zI (((Ry.getD c sl0).n : Nat) : Int)) (zza 83 (zI 0) (zzb (zzt (zyn (I := fun cG S' u' => ∃ (j : Nat) (Q : List (List RL)), (cG = m - j) ∧ (j ≤ m) ∧ (Q.length = Ly.length) ∧ (S' = St.of 159 [(0, .v (x.v)), (1, zI n), (5, .adr 5 0), (6, zI c), (7, .adr 7 0), (8, zI c), (10, .adr 10 0), (82, zI (((Ry.getD c sl0).n : Nat) : Int)), (83, zI j)] [(5, ⟨32, zw3⟩), (7, ⟨32, az.cs⟩), (10, ⟨32, aO.cs⟩)]) ∧ (Ext v0 u') ∧ (MatQ 1 26 32 v0.heap.size u' x Ry Q) ∧ (MatE u' Q (Nt.mixR M2 c R j) (Nt.kfS c j (2 * kc + 2) kc)) ∧ (RatN u' az (D2 * p) (2 * kc + 3)) ∧ (RatN u' aO p kc)) (fun m S u1 u2 e h => by obtain ⟨j, Q, hm, p0, p1, hS, hE, f0, f1, f2, f3⟩ := h; exact ⟨j, Q, hm, p0, p1, hS, hE.trans e, f0.ext e, f1.ext e, f2.ext e, f3.ext e⟩) _ yz ⟨0, Ly, rfl, by omega, rfl, rfl, (bO.t (ay.t aR.ext)), (y0.ext (ay.t aR.ext)), (by rw [Nt.mixR_0]; exact MatE.ofN (y1.ext (ay.t aR.ext)) Nt.kfS_start), (RatN.more (K := ((kc + 2) + kc + 1)) c8 xq), (hpr.ext (ay.t aR.ext))⟩ ?_)))))
     rintro cG _ u47 ⟨j, Q, dj, hj, hQy, rfl, cO, f0, f1, f2, f3⟩
     have hQn : Q.length = n := by omega
     refine sq9 (zza 84 (zB (decide ((j : Int) < (((Ry.getD c sl0).n : Nat) : Int)))) (zzb (zzd (zzu (b := decide ((j : Int) < (((Ry.getD c sl0).n : Nat) : Int))) xj (fun aJ => ?_) (fun aJ => ?_)))))
     ·have qhb48 := qyt aJ
      refine zzs (zzp ?_)
      refine zzd (zzt (sq9 (zza 85 (zI j) (zza 11 (zI j) (zzb (sw_anyC [0, 0, 3, 7, 0, 0, 0, 96, 224, 0, 992, 2016, 0, 8160, 16383, 32767] [(0, []), (1, []), (2, []), (3, []), (4, []), (5, []), (6, []), (7, []), (8, []), (9, []), (10, []), (11, []), (12, []), (13, [])] [(14, []), (15, [])] xj xj xj ?_))))))
      refine zza 86 (.v (x.v)) (zza 87 (zI c) ?_)
      obtain ⟨b49, cj, b6⟩ := MatQ.cell (i := c) f0 xq
      refine zya 88 (0 + c * 1) (n := x.n) (off := 0) (sz := 1) (i := (c : Int)) xq cj xq xq sl75 ?_
      have hrw50 := MatQ.row f0 c xq
      have br : (Q.getD c []).length = m := (MatE.rowlen f1 (by rw [(Nt.mixR_len.trans hM2)]; omega)).trans ((Nt.mixR_row hMt hRl xq).trans (hRl.trans hrow2))
      have cz : (Ry.getD c sl0).n = m := (MutQ.rown hrw50).trans br
      refine zyl 89 (.slice (Ry.getD c sl0).a (Ry.getD c sl0).n (Ry.getD c sl0).c) b6 ty26 (zza 90 (zI j) (zza 91 (.v (x.v)) (zza 92 (zI c) ?_)))
      obtain ⟨b51, ci, bR⟩ := MatQ.cell (i := c) f0 xq
      refine zya 93 (0 + c * 1) (n := x.n) (off := 0) (sz := 1) (i := (c : Int)) xq ci xq xq sl75 ?_
      have hrw52 := MatQ.row f0 c xq
      have a9 : (Q.getD c []).length = m := (MatE.rowlen f1 (by rw [(Nt.mixR_len.trans hM2)]; omega)).trans ((Nt.mixR_row hMt hRl xq).trans (hRl.trans hrow2))
      have cD : (Ry.getD c sl0).n = m := (MutQ.rown hrw52).trans a9
      refine zyl 94 (.slice (Ry.getD c sl0).a (Ry.getD c sl0).n (Ry.getD c sl0).c) bR ty26 (zza 95 (zI j) ?_)
      obtain ⟨b53, bQ, bm⟩ := MutQ.el1 (j := j) hrw52 xq
      refine zya 96 (0 + j * 3) (n := (Ry.getD c sl0).n) (off := 0) (sz := 3) (i := (j : Int)) xq bQ xq xq sl26 ?_
      obtain ⟨c4, bv⟩ : ∃ r : RL, (Q.getD c []).getD j rl0 = r := ⟨_, rfl⟩
      rw [bv] at bm
      have hv56 := (by have h9 := (MatE.at (i := c) (j := j) (K := kc) f1 (by rw [(Nt.mixR_len.trans hM2)]; omega) (by rw [((Nt.mixR_row hMt hRl xq).trans (hRl.trans hrow2))]; omega) Nt.kfS_old); rewrite [Nt.mixR_old hMt hRl xq] at h9; exact h9)
      rw [bv] at hv56
      refine zym 97 (c4.cs) bm ty32 (zzi 98 (.v (aO.v)) ty32 zze (zzg 99 97 _ fun _ _ aB dq => qym (k_rqOver dq (hv56.ext aB).raw (f3.ext aB).raw xq xq) ?_))
      rintro _ u60 aQ ⟨a1, rfl, cU⟩
      refine zzx ?_
      obtain ⟨b63, bp, cS⟩ := MutQ.el1 (j := j) (hrw52.ext (aB.t aQ.ext)) xq
      refine zya 100 (0 + j * 3) (n := (Ry.getD c sl0).n) (off := 0) (sz := 3) (i := (j : Int)) xq bp xq xq sl26 ?_
      have hq64 := (hrw52.ext (aB.t aQ.ext))
      refine sy_storeQ (v := a1.v) (off := 0 + j * 3) (n := 3) (Ry.getD c sl0) hq64 (fun a ha => .inr (bI c a ha)) bp ty32 (by rw [zyy]; have h9 : _ := xq; omega) (nu_rl a1) (fun c1 bK an => ?_)
      have b9 : MutQ (1 * 3) 32 v0.heap.size c1 (Ry.getD c sl0) (rcs ((Q.getD c []).set j a1)) := by rw [← zyx (off := 0 + j * 3) xq xq]; exact bK
      have eX64r := ExtX.root an (MutQ.mutL hq64) (cO.t (aB.t aQ.ext))
      have hM65 := MatQ.storeRow yv (f0.ext (aB.t aQ.ext)) (i := c) xq (L := ((Q.getD c []).set j a1)) b9 an
      have bW : (((M2.getD c []).getD j 0) / p) = R.getD j 0 := (hRa j xq)
      have hN65 := MatE.el (i := c) (j := j) (q := R.getD j 0) (Kg := (Nt.kfS c (j + 1) (2 * kc + 2) kc)) (MatE.keep (f1.ext (aB.t aQ.ext)) hq64 an) (by rw [(Nt.mixR_len.trans hM2)]; omega) (by rw [((Nt.mixR_row hMt hRl xq).trans (hRl.trans hrow2))]; omega) (by rw [← bW]; exact MutQ.keep hq64 an cU) (Nat.le_trans xq Nt.kfS_el) Nt.kfS_mono
      rewrite [Nt.mixR_s hMt hRl xq] at hN65
      obtain ⟨cA, bk⟩ : ∃ Q9, Q.set c ((Q.getD c []).set j a1) = Q9 := ⟨_, rfl⟩
      rewrite [bk] at hM65 hN65
      have bf : cA.length = Q.length := by rw [← bk, List.length_set]
      have hKdet65 := MutQ.keep hq64 an (f2.ext (aB.t aQ.ext))
      have hKp65 := MutQ.keep hq64 an (f3.ext (aB.t aQ.ext))
      refine zzx ?_
      refine zzp (zzf (qwi 101 ((j : Int) + 1) (j + 1 : Nat) xz (zza 83 (zI (j + 1 : Nat)) (zzx ?_))))
      refine ⟨_, ?_, _, by exact zzv _ _ _, j + 1, cA, rfl, by omega, (by rw [bf]; exact hQy), rfl, eX64r, hM65, hN65, hKdet65, hKp65⟩
      omega
     have qhb48 := qyf aJ
     refine zyc (zzp (zzd (sq9 (zza 102 (.v (x.v)) (zza 103 (zI x.n) (zza 104 (zI 0) (zzb (zzt (zyn (I := fun ct S' u' => ∃ (i : Nat) (P : List (List RL)) (M3 : List (List Rat)), (ct = n - i) ∧ (i ≤ n) ∧ (Nt.GE n m M0 M3 c (D2 * p) i) ∧ (S' = St.of 159 [(0, .v (x.v)), (1, zI n), (5, .adr 5 0), (6, zI c), (7, .adr 7 0), (8, zI c), (103, zI x.n), (104, zI i)] [(5, ⟨32, zw3⟩), (7, ⟨32, az.cs⟩)]) ∧ (Ext v0 u') ∧ (MatQ 1 26 32 v0.heap.size u' x Ry P) ∧ (MatE u' P M3 (Nt.kfE c i 0 (4 * kc + 6) (2 * kc + 2) kc)) ∧ (RatN u' az (D2 * p) (2 * kc + 3))) (fun m S u1 u2 e h => by obtain ⟨i, P, M3, hm, p0, p1, hS, hE, f0, f1, f2⟩ := h; exact ⟨i, P, M3, hm, p0, p1, hS, hE.trans e, f0.ext e, f1.ext e, f2.ext e⟩) _ yz ⟨0, Q, (M2.set c R), rfl, by omega, (by rw [← cg]; exact Nt.GI.scale aX xq xq hp cZ), rfl, cO, f0, (by rw [← Nt.mixR_n hRl (show j = R.length by omega)]; exact MatE.more f1 Nt.kfS_E), f2⟩ ?_)))))))))
     rintro ct _ da ⟨i, P, M3, cV, hi, hge, rfl, bA, e0, e1, e2⟩
     have ax : M3.length = n := hge.len
     have hPn : P.length = n := e1.1.trans ax
     obtain ⟨kf, cb, c2, bY⟩ := Nt.kfE_two (c := c) (i := i) (k := kc) (y := c)
     refine sq9 (zza 105 (zB (decide ((i : Int) < (x.n : Int)))) (zzb (zzd (zzu (b := decide ((i : Int) < (x.n : Int))) xj (fun aS => ?_) (fun aS => ?_)))))
     ·have qhb67 := qyt aS
      refine zzs (zzp ?_)
      refine zzd (zzt (sq9 (zza 106 (zI i) (zza 12 (zI i) (zzb (sq9 (zza 107 (.v (x.v)) (zza 108 (zI i) ?_))))))))
      obtain ⟨b68, ca, bC⟩ := MatQ.cell (i := i) e0 xq
      refine zya 109 (0 + i * 1) (n := x.n) (off := 0) (sz := 1) (i := (i : Int)) xq ca xq xq sl75 ?_
      have hrw69 := MatQ.row e0 i xq
      have a8 : (P.getD i []).length = m := (MatE.rowlen e1 (by rw [ax]; omega)).trans (hge.row i xq)
      have cK : (Ry.getD i sl0).n = m := (MutQ.rown hrw69).trans a8
      refine zyl 110 (.slice (Ry.getD i sl0).a (Ry.getD i sl0).n (Ry.getD i sl0).c) bC ty26 (zza 111 (zI c) ?_)
      obtain ⟨b70, bU, aY⟩ := MutQ.el1 (j := c) hrw69 xq
      refine zya 112 (0 + c * 3) (n := (Ry.getD i sl0).n) (off := 0) (sz := 3) (i := (c : Int)) xq bU xq xq sl26 ?_
      obtain ⟨aD, bo⟩ : ∃ r : RL, (P.getD i []).getD c rl0 = r := ⟨_, rfl⟩
      rw [bo] at aY
      have hv73 := (MatE.at (i := i) (j := c) (K := kf) e1 (by rw [ax]; omega) (by rw [(hge.row i xq)]; omega) cb)
      rw [bo] at hv73
      refine zym 113 (aD.cs) aY ty32 (zzk 13 ⟨32, zw3⟩ (zzj ⟨32, aD.cs⟩ ty32 ?_))
      refine zzc 159 [(0, .v (x.v)), (1, zI n), (5, .adr 5 0), (6, zI c), (7, .adr 7 0), (8, zI c), (12, zI i), (13, .adr 13 0), (103, zI x.n), (104, zI i)] [(5, ⟨32, zw3⟩), (7, ⟨32, az.cs⟩), (13, ⟨32, aD.cs⟩)] (zzd (zzd ?_))
      obtain ⟨f, hf⟩ : ∃ f, (M3.getD i []).getD c 0 = f := ⟨_, rfl⟩
      have hfr : RatN da aD f kf := by rw [← hf]; exact hv73
      refine zzf (zza 114 (zI i) (zza 115 (zI c) (zza 116 (zB ((i : Int) == (c : Int))) ?_)))
      rcases Bool.eq_false_or_eq_true ((i : Int) == (c : Int)) with hs74 | hs74
      ·refine qbi 117 hs74 ?_
       have al : i = c := by have h9 := hs74; simp at h9; omega
       refine zzn 118 (uw 3 false true 117) (zzn 119 (uw 3 false true 117) (zzn 120 (uw 3 false true 117) (zza 121 (zB true) (zzb (zyr xj (zyc (zzp (zzf (qwi 154 ((i : Int) + 1) (i + 1 : Nat) xz (zza 104 (zI (i + 1 : Nat)) (zzx ?_)))))))))))
       refine ⟨_, ?_, _, by exact zzv _ _ _, i + 1, P, M3, rfl, by omega, (hge.skip (.inl al)), rfl, bA, e0, (MatE.more e1 Nt.kfE_next), e2⟩
       omega
      refine qbi 117 hs74 ?_
      have al : i ≠ c := by have h9 := hs74; simp at h9; omega
      refine zzi 118 (.v (aD.v)) ty32 zze ?_ (hw := w1 3 false 117)
      refine zzg 119 32 _ (fun _ _ ao c9 => qym (k_rqSign c9 (hfr.ext ao).raw xq) ?_) (hw := w1 3 false 117)
      rintro _ u76 ap rfl
      refine zza 120 (zB ((Nt.sgQ f) == 0)) ?_ (hw := w1 3 false 117)
      refine zza 121 (zB ((Nt.sgQ f) == 0)) (zzb (zzu (b := (Nt.sgQ f) == 0) xj (fun aW => ?_) (fun aW => ?_)))
      ·have aG : f = 0 := by have h9 := aW; rw [Nt.sgQ_eq] at h9; exact qyt h9
       refine zyc (zzp (zzf (qwi 154 ((i : Int) + 1) (i + 1 : Nat) xz (zza 104 (zI (i + 1 : Nat)) (zzx ?_)))))
       refine ⟨_, ?_, _, by exact zzv _ _ _, i + 1, P, M3, rfl, by omega, (hge.skip (.inr (by unfold Nt.ent; rw [hf]; exact aG))), rfl, (bA.t (ao.t ap.ext)), (e0.ext (ao.t ap.ext)), (MatE.more (e1.ext (ao.t ap.ext)) Nt.kfE_next), (e2.ext (ao.t ap.ext))⟩
       omega
      have aG : ¬ f = 0 := by have h9 := aW; rw [Nt.sgQ_eq] at h9; exact qyf h9
      refine zzs (zzp ?_)
      refine zzd ?_
      have hicc : i ≠ c := al
      have hkf3 : kf ≤ kc := bY hicc
      obtain ⟨R4, b7⟩ : ∃ R, Nt.rowA (M3.getD i []) (M3.getD c []) (-f) = R := ⟨_, rfl⟩
      have hrow4 := hge.row i xq
      have aa : R4.length = (M3.getD i []).length := by rw [← b7, Nt.rowA_len]
      have bJ : ∀ j, j < m → (M3.getD i []).getD j 0 - f * (M3.getD c []).getD j 0 = R4.getD j 0 := fun j hj => by rw [← b7, Nt.rowA_at xq]; grind
      have hMi : i < M3.length := by omega
      refine zzf (zza 122 (.v (x.v)) (zza 123 (zI i) ?_))
      obtain ⟨b80, bL, b8⟩ := MatQ.cell (i := i) (e0.ext (ao.t ap.ext)) xq
      refine zya 124 (0 + i * 1) (n := x.n) (off := 0) (sz := 1) (i := (i : Int)) xq bL xq xq sl75 ?_
      have hrw81 := MatQ.row (e0.ext (ao.t ap.ext)) i xq
      have bc : (P.getD i []).length = m := (MatE.rowlen (e1.ext (ao.t ap.ext)) (by rw [ax]; omega)).trans (hge.row i xq)
      have cH : (Ry.getD i sl0).n = m := (MutQ.rown hrw81).trans bc
      refine zyl 125 (.slice (Ry.getD i sl0).a (Ry.getD i sl0).n (Ry.getD i sl0).c) b8 ty26 (zza 126 (zI (((Ry.getD i sl0).n : Nat) : Int)) (zza 127 (zI 0) (zzb (zzt (zyn (I := fun cu S' u' => ∃ (j : Nat) (Q4 : List (List RL)), (cu = m - j) ∧ (j ≤ m) ∧ (Q4.length = n) ∧ (S' = St.of 159 [(0, .v (x.v)), (1, zI n), (5, .adr 5 0), (6, zI c), (7, .adr 7 0), (8, zI c), (12, zI i), (13, .adr 13 0), (103, zI x.n), (104, zI i), (126, zI (((Ry.getD i sl0).n : Nat) : Int)), (127, zI j)] [(5, ⟨32, zw3⟩), (7, ⟨32, az.cs⟩), (13, ⟨32, aD.cs⟩)]) ∧ (Ext v0 u') ∧ (MatQ 1 26 32 v0.heap.size u' x Ry Q4) ∧ (MatE u' Q4 (Nt.mixR M3 i R4 j) (Nt.kfE c i j (4 * kc + 6) (2 * kc + 2) kc)) ∧ (RatN u' az (D2 * p) (2 * kc + 3)) ∧ (RatN u' aD f kf)) (fun m S u1 u2 e h => by obtain ⟨j, Q4, hm, p0, p1, hS, hE, f0, f1, f2, f3⟩ := h; exact ⟨j, Q4, hm, p0, p1, hS, hE.trans e, f0.ext e, f1.ext e, f2.ext e, f3.ext e⟩) _ yz ⟨0, P, rfl, by omega, hPn, rfl, (bA.t (ao.t ap.ext)), (e0.ext (ao.t ap.ext)), (by rw [Nt.mixR_0]; exact (e1.ext (ao.t ap.ext))), (e2.ext (ao.t ap.ext)), (hfr.ext (ao.t ap.ext))⟩ ?_)))))
      rintro cu _ u82 ⟨j, Q4, cR, hj, cf, rfl, cF, g0, g1, g2, g3⟩
      refine sq9 (zza 128 (zB (decide ((j : Int) < (((Ry.getD i sl0).n : Nat) : Int)))) (zzb (zzd (zzu (b := decide ((j : Int) < (((Ry.getD i sl0).n : Nat) : Int))) xj (fun aM => ?_) (fun aM => ?_)))))
      ·have qhb83 := qyt aM
       refine zzs (zzp ?_)
       refine zzd (zzt (sq9 (zza 129 (zI j) (zza 14 (zI j) (zzb (sw_anyC [0, 0, 3, 7, 0, 0, 0, 96, 224, 0, 992, 2016, 0, 0, 0, 24576, 57344, 0, 253952, 516096, 1044480, 2097120, 4194303, 8388607] [(0, []), (1, []), (2, []), (3, []), (4, []), (5, []), (6, []), (7, []), (8, []), (9, []), (10, []), (11, []), (12, []), (13, []), (14, []), (15, []), (16, []), (17, []), (18, []), (19, []), (20, []), (21, [])] [(22, []), (23, [])] xj xj xj ?_))))))
       refine zza 130 (.v (x.v)) (zza 131 (zI i) ?_)
       obtain ⟨b84, cq, ce⟩ := MatQ.cell (i := i) g0 xq
       refine zya 132 (0 + i * 1) (n := x.n) (off := 0) (sz := 1) (i := (i : Int)) xq cq xq xq sl75 ?_
       have hrw85 := MatQ.row g0 i xq
       have a3 : (Q4.getD i []).length = m := (MatE.rowlen g1 (by rw [(Nt.mixR_len.trans ax)]; omega)).trans ((Nt.mixR_row hMi aa xq).trans (aa.trans hrow4))
       have cv : (Ry.getD i sl0).n = m := (MutQ.rown hrw85).trans a3
       refine zyl 133 (.slice (Ry.getD i sl0).a (Ry.getD i sl0).n (Ry.getD i sl0).c) ce ty26 (zza 134 (zI j) (zza 135 (.v (x.v)) (zza 136 (zI i) ?_)))
       obtain ⟨b86, cc, cl⟩ := MatQ.cell (i := i) g0 xq
       refine zya 137 (0 + i * 1) (n := x.n) (off := 0) (sz := 1) (i := (i : Int)) xq cc xq xq sl75 ?_
       have hrw87 := MatQ.row g0 i xq
       have bi : (Q4.getD i []).length = m := (MatE.rowlen g1 (by rw [(Nt.mixR_len.trans ax)]; omega)).trans ((Nt.mixR_row hMi aa xq).trans (aa.trans hrow4))
       have cI : (Ry.getD i sl0).n = m := (MutQ.rown hrw87).trans bi
       refine zyl 138 (.slice (Ry.getD i sl0).a (Ry.getD i sl0).n (Ry.getD i sl0).c) cl ty26 (zza 139 (zI j) ?_)
       obtain ⟨b88, b2, aZ⟩ := MutQ.el1 (j := j) hrw87 xq
       refine zya 140 (0 + j * 3) (n := (Ry.getD i sl0).n) (off := 0) (sz := 3) (i := (j : Int)) xq b2 xq xq sl26 ?_
       obtain ⟨c3, bl⟩ : ∃ r : RL, (Q4.getD i []).getD j rl0 = r := ⟨_, rfl⟩
       rw [bl] at aZ
       have hv91 := (by have h9 := (MatE.at (i := i) (j := j) (K := kc) g1 (by rw [(Nt.mixR_len.trans ax)]; omega) (by rw [((Nt.mixR_row hMi aa xq).trans (aa.trans hrow4))]; omega) (Nt.kfE_o hicc xq)); rewrite [Nt.mixR_old hMi aa xq] at h9; exact h9)
       rw [bl] at hv91
       refine zym 141 (c3.cs) aZ ty32 (zzi 142 (.v (aD.v)) ty32 zze (zza 143 (.v (x.v)) (zza 144 (zI c) ?_)))
       obtain ⟨b92, bF, cp⟩ := MatQ.cell (i := c) g0 xq
       refine zya 145 (0 + c * 1) (n := x.n) (off := 0) (sz := 1) (i := (c : Int)) xq bF xq xq sl75 ?_
       have hrw93 := MatQ.row g0 c xq
       have bz : (Q4.getD c []).length = m := (MatE.rowlen g1 (by rw [(Nt.mixR_len.trans ax)]; omega)).trans ((congrArg List.length (Nt.mixR_other (M := M3) (t := i) (i := c) (j := j) (R := R4) xq)).trans (hge.row c xq))
       have cy : (Ry.getD c sl0).n = m := (MutQ.rown hrw93).trans bz
       refine zyl 146 (.slice (Ry.getD c sl0).a (Ry.getD c sl0).n (Ry.getD c sl0).c) cp ty26 (zza 147 (zI j) ?_)
       obtain ⟨b94, bV, be⟩ := MutQ.el1 (j := j) hrw93 xq
       refine zya 148 (0 + j * 3) (n := (Ry.getD c sl0).n) (off := 0) (sz := 3) (i := (j : Int)) xq bV xq xq sl26 ?_
       obtain ⟨cT, bw⟩ : ∃ r : RL, (Q4.getD c []).getD j rl0 = r := ⟨_, rfl⟩
       rw [bw] at be
       have hv97 := (by have h9 := (MatE.at (i := c) (j := j) (K := (2 * kc + 2)) g1 (by rw [(Nt.mixR_len.trans ax)]; omega) (by rw [((congrArg List.length (Nt.mixR_other (M := M3) (t := i) (i := c) (j := j) (R := R4) xq)).trans (hge.row c xq))]; omega) Nt.kfE_c); rewrite [Nt.mixR_other xq] at h9; exact h9)
       rw [bw] at hv97
       refine zym 149 (cT.cs) be ty32 (zzg 150 91 _ fun _ _ aw df => qym (k_rqMul df (g3.ext aw).raw (hv97.ext aw).raw xq xq) ?_)
       rintro _ dc ag ⟨r99, rfl, b1⟩
       refine zzg 151 93 _ fun _ _ ae b4 => qym (k_rqSub b4 (hv91.ext (aw.t (ag.t ae))).raw (b1.ext ae).raw xq xq) ?_
       rintro _ di ai ⟨au, rfl, bG⟩
       refine zzx ?_
       obtain ⟨cW, aE, cJ⟩ := MutQ.el1 (j := j) (hrw87.ext (aw.t (ag.t (ae.t ai.ext)))) xq
       refine zya 152 (0 + j * 3) (n := (Ry.getD i sl0).n) (off := 0) (sz := 3) (i := (j : Int)) xq aE xq xq sl26 ?_
       have hq111 := (hrw87.ext (aw.t (ag.t (ae.t ai.ext))))
       refine sy_storeQ (v := au.v) (off := 0 + j * 3) (n := 3) (Ry.getD i sl0) hq111 (fun a ha => .inr (bI i a ha)) aE ty32 (by rw [zyy]; have h9 : _ := xq; omega) (nu_rl au) (fun b0 a0 ac => ?_)
       have a5 : MutQ (1 * 3) 32 v0.heap.size b0 (Ry.getD i sl0) (rcs ((Q4.getD i []).set j au)) := by rw [← zyx (off := 0 + j * 3) xq xq]; exact a0
       have eX111r := ExtX.root ac (MutQ.mutL hq111) (cF.t (aw.t (ag.t (ae.t ai.ext))))
       have hM112 := MatQ.storeRow yv (g0.ext (aw.t (ag.t (ae.t ai.ext)))) (i := i) xq (L := ((Q4.getD i []).set j au)) a5 ac
       have a4 : (((M3.getD i []).getD j 0) - (f * ((M3.getD c []).getD j 0))) = R4.getD j 0 := (bJ j xq)
       have hN112 := MatE.el (i := i) (j := j) (q := R4.getD j 0) (Kg := (Nt.kfE c i (j + 1) (4 * kc + 6) (2 * kc + 2) kc)) (MatE.keep (g1.ext (aw.t (ag.t (ae.t ai.ext)))) hq111 ac) (by rw [(Nt.mixR_len.trans ax)]; omega) (by rw [((Nt.mixR_row hMi aa xq).trans (aa.trans hrow4))]; omega) (by rw [← a4]; exact MutQ.keep hq111 ac bG) (Nat.le_trans xq (Nt.kfE_el hicc)) Nt.kfE_mono
       rewrite [Nt.mixR_s hMi aa xq] at hN112
       obtain ⟨a2, aC⟩ : ∃ Q9, Q4.set i ((Q4.getD i []).set j au) = Q9 := ⟨_, rfl⟩
       rewrite [aC] at hM112 hN112
       have aT : a2.length = Q4.length := by rw [← aC, List.length_set]
       have hKdet112 := MutQ.keep hq111 ac (g2.ext (aw.t (ag.t (ae.t ai.ext))))
       have hKf112 := MutQ.keep hq111 ac (g3.ext (aw.t (ag.t (ae.t ai.ext))))
       refine zzx ?_
       refine zzp (zzf (qwi 153 ((j : Int) + 1) (j + 1 : Nat) xz (zza 127 (zI (j + 1 : Nat)) (zzx ?_))))
       refine ⟨_, ?_, _, by exact zzv _ _ _, j + 1, a2, rfl, by omega, (by rw [aT]; exact cf), rfl, eX111r, hM112, hN112, hKdet112, hKf112⟩
       omega
      have qhb83 := qyf aM
      refine zyc (zzp (zzf (qwi 154 ((i : Int) + 1) (i + 1 : Nat) xz (zza 104 (zI (i + 1 : Nat)) (zzx ?_)))))
      refine ⟨_, ?_, _, by exact zzv _ _ _, i + 1, Q4, (M3.set i R4), rfl, by omega, (by rw [← b7]; exact hge.step xq xq xq al hf), rfl, cF, g0, (by rw [← Nt.mixR_n aa (show j = R4.length by omega)]; exact MatE.more g1 Nt.kfE_next), g2⟩
      omega
     have qhb67 := qyf aS
     refine zyc (zzp (zzf (zza 155 (zI c) (qwi 156 ((c : Int) + 1) (c + 1 : Nat) xz (zza 6 (zI (c + 1 : Nat)) (zzx ?_))))))
     refine zzp (zzf (zza 25 (zI c) (qwi 26 ((c : Int) + 1) (c + 1 : Nat) xz (zza 8 (zI (c + 1 : Nat)) (zzx ?_)))))
     have bE : Nt.GE n m M0 M3 c (D2 * p) n := by have h9 := hge; rw [show i = n by omega] at h9; exact h9
     have hN9 := MatE.toN (K := 4 * kc + 6) e1 (fun a b _ _ => Nt.kfE_top)
     rw [← hkc, ← Nt.kz_s] at hN9
     refine ⟨_, ?_, _, by exact zzv _ _ _, c + 1, Ry, P, M3, az, (D2 * p), rfl, by omega, (bE.next xq), bI, rfl, bA, e0, hN9, (RatN.more (K := 2 * kc + 3) e2 (by rw [Nt.kz_s, hkc]; omega))⟩
     omega
    refine sq9 (zza 49 (zI k) (zza 50 (zI c) (zza 51 (zB ((k : Int) != (c : Int))) (zzb (zzu (b := (k : Int) != (c : Int)) xj (fun ar => ?_) (fun ar => ?_))))))
    ·have aq : k ≠ c := by have h9 := ar; simp at h9; omega
     refine zzd (sw_anyX xj 16 rfl ?_)
     refine takeX 2 54 15 (.v (x.v)) #[false, false, true, false, false, false, false, false, false, false, false, false, false, false, false, false] ?_
     refine takeX 3 55 14 (.v (.int .i64 (c : Int))) #[false, false, true, true, false, false, false, false, false, false, false, false, false, false, false, false] ?_
     refine restX [0, 0, 0, 0, 0, 0, 48, 112, 0, 0, 768, 1792, 4083, 8179, 16383, 32767] [(0, []), (1, []), (4, []), (5, []), (6, []), (7, []), (8, []), (9, []), (10, []), (11, []), (12, [])] [] (13, []) [(14, []), (15, [])] xj ?_
     refine zza 52 (.v (x.v)) (zza 53 (zI k) (zza 56 (.v (x.v)) (zza 57 (zI c) ?_)))
     obtain ⟨cX, bj, bu⟩ := MatQ.cell (i := c) (z0.ext (ad.t (af.t ah.ext))) xq
     refine zya 58 (0 + c * 1) (n := x.n) (off := 0) (sz := 1) (i := (c : Int)) xq bj xq xq sl75 ?_
     have hrw115 := MatQ.row (z0.ext (ad.t (af.t ah.ext))) c xq
     have aK : (Lz.getD c []).length = m := (MatN.rowlen (z1.ext (ad.t (af.t ah.ext))) (by rw [hM1]; omega)).trans (hg.row c xq)
     have b5 : (Rz.getD c sl0).n = m := (MutQ.rown hrw115).trans aK
     refine zyl 59 (.slice (Rz.getD c sl0).a (Rz.getD c sl0).n (Rz.getD c sl0).c) bu ty26 (zza 60 (.v (x.v)) (zza 61 (zI k) ?_))
     obtain ⟨cQ, bs, a6⟩ := MatQ.cell (i := k) (z0.ext (ad.t (af.t ah.ext))) xq
     refine zya 62 (0 + k * 1) (n := x.n) (off := 0) (sz := 1) (i := (k : Int)) xq bs xq xq sl75 ?_
     have hrw117 := MatQ.row (z0.ext (ad.t (af.t ah.ext))) k xq
     have aU : (Lz.getD k []).length = m := (MatN.rowlen (z1.ext (ad.t (af.t ah.ext))) (by rw [hM1]; omega)).trans (hg.row k xq)
     have cm : (Rz.getD k sl0).n = m := (MutQ.rown hrw117).trans aU
     refine zyl 63 (.slice (Rz.getD k sl0).a (Rz.getD k sl0).n (Rz.getD k sl0).c) a6 ty26 ?_
     obtain ⟨cY, aH, cC⟩ := MatQ.cell (i := k) (z0.ext (ad.t (af.t ah.ext))) xq
     refine zya 64 (0 + k * 1) (n := x.n) (off := 0) (sz := 1) (i := (k : Int)) xq aH xq xq sl75 (zzx ?_)
     refine exitsK_last ?_
     have hq119 := (z0.ext (ad.t (af.t ah.ext)))
     refine sy_storeQ (v := .slice (Rz.getD c sl0).a (Rz.getD c sl0).n (Rz.getD c sl0).c) (off := 0 + k * 1) (n := 1) x (MatQ.out hq119) (fun a ha => .inr (mqB_x ha)) aH ty26 (by rw [List.length_map, MatQ.len hq119]; omega) (nu_sls [(Rz.getD c sl0)]) (fun bN bb aj => ?_)
     have aI : MutQ 1 26 v0.heap.size bN x ((Rz.set k (Rz.getD c sl0)).map Sl.v) := by rw [← setL_map (y := (Rz.getD c sl0)) (i := k) (by rw [MatQ.len hq119]; omega)]; exact bb
     have eX119r := ExtX.root aj (MutQ.mutL (MatQ.out hq119)) (cx.t (ad.t (af.t ah.ext)))
     obtain ⟨dn, aF, _⟩ := MatQ.cell (i := c) hq119 xq
     refine zya 65 (0 + c * 1) (n := x.n) (off := 0) (sz := 1) (i := (c : Int)) xq aF xq xq sl75 (sy_storeQ (v := .slice (Rz.getD k sl0).a (Rz.getD k sl0).n (Rz.getD k sl0).c) (off := 0 + c * 1) (n := 1) x aI (fun a ha => .inr (mqB_x ha)) aF ty26 (by rw [List.length_map, List.length_set, MatQ.len hq119]; omega) (nu_sls [(Rz.getD k sl0)]) (fun ck bh am => ?_))
     have bx : MutQ 1 26 v0.heap.size ck x (((Rz.set k (Rz.getD c sl0)).set c (Rz.getD k sl0)).map Sl.v) := by rw [← setL_map (y := (Rz.getD k sl0)) (i := c) (by rw [List.length_set, MatQ.len hq119]; omega)]; exact bh
     have eX121r := ExtX.root am (MutQ.mutL aI) eX119r
     have hW121 := MatQ.swap (p := k) (t := c) yv hq119 xq xq bx (ExtX.trans aj am)
     have hV121 := MatN.keep (MatN.swap (t := k) (f := c) (z1.ext (ad.t (af.t ah.ext))) (by rw [hM1]; omega) (by rw [hM1]; omega)) (MatQ.out hq119) (ExtX.trans aj am)
     have hKdet121 := MutQ.keep (MatQ.out hq119) (ExtX.trans aj am) (z2.ext (ad.t (af.t ah.ext)))
     refine zzb (zzf (zzi 66 (.v (rd.v)) ty32 zze (zzg 67 21 _ fun _ _ aA bB => qym (k_rqNeg bB (hKdet121.ext aA).raw xq) ?_)))
     rintro _ de aV ⟨aN, rfl, ch⟩
     refine zzj ⟨32, aN.cs⟩ ty32 ?_
     refine zzc 159 [(0, .v (x.v)), (1, zI n), (5, .adr 5 0), (6, zI c), (7, .adr 7 0), (8, zI c)] [(5, ⟨32, zw3⟩), (7, ⟨32, aN.cs⟩)] ?_
     exact av _ _ ⟨((Rz.set k (Rz.getD c sl0)).set c (Rz.getD k sl0)), ((Lz.set k (Lz.getD c [])).set c (Lz.getD k [])), (Nt.swL M1 k c []), aN, (-D), (Nt.GI.swap hg xq xq xq), (by unfold Nt.ent; rw [Nt.swL_t xq xq xq]; exact ak), (RowsIn.swap hF xq xq), rfl, (eX121r.t (aA.t aV.ext)), (hW121.ext (aA.t aV.ext)), (hV121.ext (aA.t aV.ext)), ch⟩
    have aq : k = c := by have h9 := ar; simp at h9; omega
    refine zzs (zzp ?_)
    refine sw_weak (T := St.of 159 [(0, .v (x.v)), (1, zI n), (5, .adr 5 0), (6, zI c), (7, .adr 7 0), (8, zI c)] [(5, ⟨32, zw3⟩), (7, ⟨32, rd.cs⟩)]) yz ?_
    exact av _ _ ⟨Rz, Lz, M1, rd, D, hg, (by have h9 := ak; rw [aq] at h9; exact h9), hF, rfl, (cx.t (ad.t (af.t ah.ext))), (z0.ext (ad.t (af.t ah.ext))), (z1.ext (ad.t (af.t ah.ext))), (z2.ext (ad.t (af.t ah.ext)))⟩
   refine qbi 32 hs20 ?_
   have qhs20 := qyf hs20
   refine zzn 33 (uw 4 true false 32) (zzn 34 (uw 4 true false 32) (zzn 35 (uw 4 true false 32) (zzn 36 (uw 4 true false 32) (zzn 37 (uw 4 true false 32) (zzn 38 (uw 4 true false 32) (zzn 39 (uw 4 true false 32) (zzn 40 (uw 4 true false 32) (zzn 41 (uw 4 true false 32) (zza 42 (zB false) (zzc 159 [(0, .v (x.v)), (1, zI n), (5, .adr 5 0), (6, zI c), (7, .adr 7 0), (8, zI c), (9, zI k), (42, zB false)] [(5, ⟨32, zw3⟩), (7, ⟨32, rd.cs⟩)] (zys xj ?_)))))))))))
   refine zyc (zzp (zzd (zzd ?_)))
   exact (Nt.GI.pivot hg xq hnm hI (fun i h1 h2 => hze i h1 xq)).elim
  exact absurd hb (by rw [show (decide ((c : Int) < (x.n : Int))) = true from decide_eq_true xq]; decide)
 refine qbi 19 hs18 ?_
 have qhs18 := qyf hs18
 refine zzn 20 (uw 3 true false 19) (zzn 21 (uw 3 true false 19) (zzn 22 (uw 3 true false 19) (zzn 23 (uw 3 true false 19) (zza 24 (zB false) (zzb (zys xj (zyc (zzp (zzd (zzz [0, 0, 1, 7] [(0, []), (1, []), (2, []), (3, [])] xj xj (zza 157 (zI c) ?_)))))))))))
 refine zzi 158 (.v (rd.v)) ty32 zze (zza 4 (zI c) (zzj ⟨32, rd.cs⟩ ty32 ?_))
 refine zzb (zzo (ret0 [.int .i64 c, rd.v] ⟨zzq, zzr ty32 zze, trivial⟩ fun dh aL => ?_))
 obtain rfl : c = n := by omega
 subst hkc
 exact ⟨rd, D, Rz, Lz, M1, rfl, (z2.ext aL), (z0.ext aL), (z1.ext aL), hg⟩
end Go.Proofs.YtgmkhhfbckjaeaaGreat
