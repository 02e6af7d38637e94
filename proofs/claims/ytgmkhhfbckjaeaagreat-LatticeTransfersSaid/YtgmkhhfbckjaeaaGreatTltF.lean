/- Parts of the proof: contracts of functions, each walked once, and plain laws. -/
import Derived.Test.YtgmkhhfbckjaeaaGreatTltE
set_option linter.unusedVariables false
namespace Go.Proofs.YtgmkhhfbckjaeaaGreat
open Go.RowKit
namespace Nt
theorem z_lw {n : Nat} {LB LC : List RL} (a : Nat) (h : a < (List.replicate n ([] : List RL) ++ [LB] ++ [LC]).length) : up1 (up1 (fun _ => 0) (List.replicate n ([] : List RL)).length (List.replicate n (0 : Rat)).length) (List.replicate n ([] : List RL) ++ [LB]).length (List.replicate n (0 : Rat)).length a = if a < n then 0 else n := by
 have h2 : a < n + 2 := by simpa using h
 unfold up1
 simp only [List.length_append, List.length_replicate, List.length_singleton]
 split
 ·rw [if_neg xq]
 split
 ·rw [if_neg xq]
 rw [if_pos xq]
theorem z_val {n : Nat} {LB LC : List RL} (a b : Nat) (q : Rat) (h : a < (List.replicate n ([] : List RL) ++ [LB] ++ [LC]).length) (hv : (if a < n then none else some (0 : Rat)) = some q) : upr (upr (fun _ _ => none) (List.replicate n ([] : List RL)).length (fun b => some ((List.replicate n (0 : Rat)).getD b 0))) (List.replicate n ([] : List RL) ++ [LB]).length (fun b => some ((List.replicate n (0 : Rat)).getD b 0)) a b = some q := by
 have h2 : a < n + 2 := by simpa using h
 have hn9 : ¬ a < n := fun h => by rw [if_pos h] at hv; cases hv
 rw [if_neg hn9] at hv
 unfold upr
 simp only [List.length_append, List.length_replicate, List.length_singleton, rep_at]
 split
 ·exact hv
 rw [if_pos xq]; exact hv
end Nt
theorem Nt.zf_lw {n a : Nat} : (if a < n then n else if a < n then 0 else n) = n := by
 split
 ·rfl
 rfl
theorem Nt.zf_val {n a : Nat} {q : Rat} (hv : some (0 : Rat) = some q) : (if a < n then some (0 : Rat) else if a < n then none else some 0) = some q := by
 split
 ·exact hv
 exact hv
theorem rep_get0 {n : Nat} {y z : Sl} : (List.replicate n sl0 ++ [y] ++ [z]).getD n sl0 = y := by rw [List.append_assoc, List.getD_eq_getElem?_getD, List.getElem?_append_right zz, List.length_replicate, Nat.sub_self]; rfl
theorem rep_get1 {n : Nat} {y z : Sl} : (List.replicate n sl0 ++ [y] ++ [z]).getD (n + 1) sl0 = z := by rw [List.append_assoc, List.getD_eq_getElem?_getD, List.getElem?_append_right zz, List.length_replicate, Nat.add_sub_cancel_left]; rfl
theorem sep_blk {b b' n n' c c' : Nat} (h : b ≠ b') : Sep ⟨some ⟨b, 0, none⟩, n, c⟩ ⟨some ⟨b', 0, none⟩, n', c'⟩ := fun a a' h1 h2 hc => by
 injection h1 with h1; injection h2 with h2; subst h1 h2; exact h hc
theorem SysE.zero2 {tO tR : TypeId} {lo b b' n K : Nat} {u : World} {x : Sl} {LB LC : List RL} (hm : MutQ 1 tO lo u x ((List.replicate n sl0).map Sl.v)) (hB : u.heap[b]? = some (.cells (rcs LB).toArray tR (0, 0))) (hC : u.heap[b']? = some (.cells (rcs LC).toArray tR (0, 0))) (hbc : b' ≠ b) (h1 : lo ≤ b) (h2 : lo ≤ b') (hn : n ≤ 100) (rB : RatsN u LB (List.replicate n 0) K) (rC : RatsN u LC (List.replicate n 0) K) :
  SysE tO tR lo u x n (List.replicate n sl0 ++ [⟨some ⟨b, 0, none⟩, n, n⟩] ++ [⟨some ⟨b', 0, none⟩, n, n⟩]) (List.replicate n [] ++ [LB] ++ [LC]) (fun a => if a < n then 0 else n) (fun a b => if a < n then none else some 0) K := by
 have lB : LB.length = n := rB.1.trans zz
 have lC : LC.length = n := rC.1.trans zz
 have s0 : SysE tO tR lo u x n (List.replicate n sl0) (List.replicate n []) (fun _ => 0) (fun _ _ => none) K := SysE.nil n hm
 have e : ∀ i, (List.replicate n sl0).getD i sl0 = sl0 := fun i => by
  rw [List.getD_eq_getElem?_getD, List.getElem?_replicate]; split <;> rfl
 have s1 := SysE.add (w := (List.replicate n (0 : Rat)).length) (g := fun b => some ((List.replicate n (0 : Rat)).getD b 0)) s0 (MutQ.lit (n := n) hB (by rw [zyy, lB] <;> omega) yv h1 (nu_rcs _)) (fun j _ => by rw [e]; exact fun a a' _ h => by cases h) rB.1 (rats_fn rB)
 have s2 := SysE.add (w := (List.replicate n (0 : Rat)).length) (g := fun b => some ((List.replicate n (0 : Rat)).getD b 0)) s1 (MutQ.lit (n := n) hC (by rw [zyy, lC] <;> omega) yv h2 (nu_rcs _)) (fun j hj => by
  rcases Nat.lt_or_ge j n with h | h
  ·rw [List.getD_eq_getElem?_getD, List.getElem?_append_left (by simpa using h), ← List.getD_eq_getElem?_getD, e]; exact fun a a' _ h => by cases h
  have hj2 : j < n + 1 := by simpa using hj
  rw [show j = n by omega, List.getD_eq_getElem?_getD, List.getElem?_append_right zz, List.length_replicate, Nat.sub_self]; exact sep_blk hbc) rC.1 (rats_fn rC)
 exact SysE.congr s2 Nt.z_lw (fun a b q ha _ hv => Nt.z_val a b q ha hv)
namespace Nt
theorem zi_lw {n i : Nat} (hi : i < n) (a : Nat) : up1 (fun a => if a < i then n else if a < n then 0 else n) i (List.replicate n (0 : Rat)).length a = if a < i + 1 then n else if a < n then 0 else n := by
 unfold up1
 dsimp only
 rw [List.length_replicate]
 by_cases h : a = i
 ·rw [if_pos h, if_pos xq]
 rw [if_neg h]
 by_cases h2 : a < i
 ·rw [if_pos h2, if_pos xq]
 rw [if_neg h2, if_neg (show ¬ a < i + 1 by omega)]
theorem zi_val {n i : Nat} (a b : Nat) (q : Rat) (hv : (if a < i + 1 then some (0 : Rat) else if a < n then none else some 0) = some q) : upr (fun a b => if a < i then some (0 : Rat) else if a < n then none else some 0) i (fun b => some ((List.replicate n (0 : Rat)).getD b 0)) a b = some q := by
 unfold upr
 dsimp only
 rw [rep_at]
 by_cases h1 : a = i
 ·rw [if_pos h1]; rw [if_pos xq] at hv; exact hv
 rw [if_neg h1]
 by_cases h2 : a < i
 ·rw [if_pos h2]; rw [if_pos xq] at hv; exact hv
 rw [if_neg h2]; rw [if_neg (show ¬ a < i + 1 by omega)] at hv; exact hv
end Nt
set_option maxHeartbeats 4000000 in
theorem k_nZero {u w : World} {n : Nat} (d : Dat u w) (hn : n ≤ 100) : Calls Tryz.prog 107 #[.int .i64 (n : Int)] w (Post u w fun v u' => ∃ (x y z : Sl) (r : RL) (Rs : List Sl) (Ls : List (List RL)), v = .agg #[x.v, y.v, z.v, .bool r.s, .slice r.m.a r.m.n r.m.c, .slice r.d.a r.d.n r.d.c] ∧ SysE 26 32 u.heap.size u' x n Rs Ls (fun _ => n) (fun _ _ => some 0) 2 ∧ Ls.length = n + 2 ∧ Rs.getD n sl0 = y ∧ Rs.getD (n + 1) sl0 = z ∧ RatN u' r ((0 : Int) : Rat) 2) := by
 refine zzm (args := [.int .i64 n]) Tryz.func107 rfl Tryz.ntmps107 (rs := [.cell 2 77]) Tryz.results107 (le_b rfl) (le_b rfl) d ?_
 refine sq9 (zzk 2 ⟨77, [.slice none 0 0, .slice none 0 0, .slice none 0 0, .bool false, .slice none 0 0, .slice none 0 0]⟩ (zzb (zzd (sw_anyC [0, 1, 0, 4, 0, 28, 60, 127, 0, 511] [(0, []), (1, []), (2, []), (4, []), (8, []), (3, []), (5, []), (6, []), (7, [])] [(9, [])] xj xj xj ?_))))
 refine zza 5 (zI n) (sy_make 6 (T := 75) (E := 26) (z := .slice none 0 0) (size := 1) (bytes := 24) n ((List.replicate n sl0).map Sl.v) xj xj rfl rfl xq yv (made_sls _) ?_)
 refine zza 7 (zI n) (zza 9 (zI n) (zzk 3 ⟨77, [.slice none 0 0, .slice none 0 0, .slice none 0 0, .bool false, .slice none 0 0, .slice none 0 0]⟩ (zzg 8 163 _ fun _ _ aI aZ => Post.mono (k_nZeros (n := n) aZ xq) ?_)))
 rintro _ u18 aN ⟨aa, aX, rfl, aE, am, aW, aJ⟩
 refine zzg 10 163 _ fun _ _ an a6 => Post.mono (k_nZeros (n := n) a6 xq) ?_
 rintro _ u28 aH ⟨ab, aV, rfl, aK, au, aT, ax⟩
 refine zzg 11 109 _ fun _ _ ao a3 => Post.mono (k_ratOf a3 (z := 0) xq xq) ?_
 rintro _ u34 aj ⟨ac, rfl, a0⟩
 refine zza 12 (.agm [] 6 0 n n ([.slice (some ⟨aa, 0, none⟩) n n, .slice (some ⟨ab, 0, none⟩) n n] ++ ac.cs)) (zzx ?_)
 refine sy_pubM (r := 12) (t := 6) [6, 12] (MP.mono _ _) xw xj zk zk xj (fun ad a1 ah aA av => ?_)
 have aw : MutQ 1 26 u.heap.size a1 (⟨some ⟨ad, 0, none⟩, n, n⟩ : Sl) ((List.replicate n sl0).map Sl.v) := MutQ.lit av (by rw [List.length_map, List.length_replicate, Nat.mul_one]) yv aA (nu_sls _)
 refine zzj ⟨77, [.slice (some ⟨ad, 0, none⟩) n n, .slice (some ⟨aa, 0, none⟩) n n, .slice (some ⟨ab, 0, none⟩) n n] ++ ac.cs⟩ ty77 ?_
 refine zzb (zzd (zzd ?_))
 have hlt9 := zxa am
 have hsz9 := Ext.size an
 have s3 := SysE.zero2 (tR := 32) aw ((an.t (aH.t (ao.t (aj.t ah)))).cells am) ((ao.t (aj.t ah)).cells au) (show ab ≠ aa by omega) (Nat.le_trans (Ext.size aI) aE) (Nat.le_trans (Ext.size (aI.t (aN.t an))) aK) hn (RatsN.ext aJ (an.t (aH.t (ao.t (aj.t ah))))) (RatsN.ext ax (ao.t (aj.t ah)))
 have hRB : (List.replicate n sl0 ++ [(⟨some ⟨aa, 0, none⟩, n, n⟩ : Sl)] ++ [(⟨some ⟨ab, 0, none⟩, n, n⟩ : Sl)]).getD n sl0 = (⟨some ⟨aa, 0, none⟩, n, n⟩ : Sl) := rep_get0
 have hRC : (List.replicate n sl0 ++ [(⟨some ⟨aa, 0, none⟩, n, n⟩ : Sl)] ++ [(⟨some ⟨ab, 0, none⟩, n, n⟩ : Sl)]).getD (n + 1) sl0 = (⟨some ⟨ab, 0, none⟩, n, n⟩ : Sl) := rep_get1
 have aO : (List.replicate n ([] : List RL) ++ [aX] ++ [aV]).length = n + 2 := by simp
 generalize (List.replicate n sl0 ++ [(⟨some ⟨aa, 0, none⟩, n, n⟩ : Sl)] ++ [(⟨some ⟨ab, 0, none⟩, n, n⟩ : Sl)]) = R0 at s3 hRB hRC
 generalize (List.replicate n ([] : List RL) ++ [aX] ++ [aV]) = L0 at s3 aO
 refine zzf (zza 13 (.adr 3 0) (zzi 14 (.v (.slice (some ⟨ad, 0, none⟩) n n)) ty75 zzl (zza 15 (zI n) (zza 16 (zI 0) (zzb (zzt (zyn (I := fun aL S' u' => ∃ (i : Nat) (Rs : List Sl) (Ls : List (List RL)), (aL = n - i) ∧ (i ≤ n) ∧ (Ls.length = n + 2) ∧ (Rs.getD n sl0 = (⟨some ⟨aa, 0, none⟩, n, n⟩ : Sl)) ∧ (Rs.getD (n + 1) sl0 = (⟨some ⟨ab, 0, none⟩, n, n⟩ : Sl)) ∧ (S' = St.of 27 [(0, zI n), (2, .adr 2 0), (3, .adr 3 0), (15, zI n), (16, zI i)] [(2, ⟨77, [.slice none 0 0, .slice none 0 0, .slice none 0 0, .bool false, .slice none 0 0, .slice none 0 0]⟩), (3, ⟨77, [.slice (some ⟨ad, 0, none⟩) n n, .slice (some ⟨aa, 0, none⟩) n n, .slice (some ⟨ab, 0, none⟩) n n] ++ ac.cs⟩)]) ∧ (Ext u u') ∧ (SysE 26 32 u.heap.size u' (⟨some ⟨ad, 0, none⟩, n, n⟩ : Sl) n Rs Ls (fun a => if a < i then n else if a < n then 0 else n) (fun a b => if a < i then some 0 else if a < n then none else some 0) 2) ∧ (RatN u' ac ((0 : Int) : Rat) 2)) (fun m S u1 u2 e h => by obtain ⟨i, Rs, Ls, hm, p0, p1, p2, p3, hS, hE, f0, f1⟩ := h; exact ⟨i, Rs, Ls, hm, p0, p1, p2, p3, hS, hE.trans e, f0.ext e, f1.ext e⟩) _ yw ⟨0, R0, L0, rfl, Nat.zero_le _, aO, hRB, hRC, rfl, (aI.t (aN.t (an.t (aH.t (ao.t (aj.t ah)))))), (SysE.congr s3 (fun a ha => by simp) (fun a b q ha hb hv => by simpa using hv)), (a0.ext ah)⟩ ?_)))))))
 rintro aL _ u43 ⟨i, Rs, Ls, a8, hi, hLl, hB, hC, rfl, aP, f0, f1⟩
 refine sq9 (zza 17 (zB (decide ((i : Int) < (n : Int)))) (zzb (zzd (zzu (b := decide ((i : Int) < (n : Int))) xj (fun af => ?_) (fun af => ?_)))))
 ·have qhb44 := of_decide_eq_true af
  refine zzs (zzp ?_)
  refine zzd (zzt (sq9 (zza 18 (zI i) (zza 4 (zI i) (zzb (sw_anyC [0, 1, 0, 0, 8, 31, 63] [(0, []), (1, []), (2, []), (3, []), (4, [])] [(5, []), (6, [])] xj xj xj ?_))))))
  refine zza 19 (.adr 3 0) (zzi 20 (.v (.slice (some ⟨ad, 0, none⟩) n n)) ty75 zzl (zza 21 (zI i) (zza 22 (zI n) (zzg 23 163 _ fun _ _ ai a4 => Post.mono (k_nZeros (n := n) a4 xq) ?_))))
  rintro _ a5 ar ⟨ag, aR, rfl, ak, aG, ap, az⟩
  refine zzx ?_
  have hq55 := (SysE.ext f0 (ai.t ar.ext))
  obtain ⟨b55, aq, a2⟩ := SysE.cell (i := i) hq55 xq
  have hn55 := SysE.xn hq55
  change n = _ at hn55
  refine zya 24 (0 + i * 1) (n := n) (off := 0) (sz := 1) (i := (i : Int)) xq aq xq xq sl75 ?_
  have ho56 := (SysE.ext f0 (ai.t ar.ext))
  have hR56 := az
  have aF : MutQ (1 * 3) 32 u.heap.size a5 (⟨some ⟨ag, 0, none⟩, n, n⟩ : Sl) (rcs aR) := MutQ.lit (aG) (by rw [zyy, ap] <;> omega) yv (Nat.le_trans (Ext.size (aP.trans ai)) ak) (nu_rcs _)
  have aD : ∀ j, j < Ls.length → j ≠ i → Sep (⟨some ⟨ag, 0, none⟩, n, n⟩ : Sl) (Rs.getD j sl0) := fun j hj _ => SysE.fresh (SysE.ext f0 ai) ak j hj
  refine sy_storeQ (v := .slice (some ⟨ag, 0, none⟩) n n) (off := 0 + i * 1) (n := 1) (⟨some ⟨ad, 0, none⟩, n, n⟩ : Sl) (SysE.out ho56) (MutQ.mayA (SysE.out ho56) (Ext.size (Ext.refl _))) aq ty26 (by have h9 := SysE.hn ho56; rw [List.length_map, List.length_take]; omega) (nu_sls [(⟨some ⟨ag, 0, none⟩, n, n⟩ : Sl)]) (fun a7 aB ae => ?_)
  have ay : MutQ 1 26 u.heap.size a7 (⟨some ⟨ad, 0, none⟩, n, n⟩ : Sl) (((Rs.take n).set i (⟨some ⟨ag, 0, none⟩, n, n⟩ : Sl)).map Sl.v) := by rw [← setL_map (y := (⟨some ⟨ag, 0, none⟩, n, n⟩ : Sl)) (i := i) (by have h9 := SysE.hn ho56; rw [List.length_take]; omega)]; exact aB
  have eX56r := ExtX.root ae (MutQ.mutL (SysE.out ho56)) (aP.t (ai.t ar.ext))
  have hS56 := SysE.put (i := i) (w := (List.replicate n (0 : Rat)).length) (g := (fun b => some ((List.replicate n (0 : Rat)).getD b 0))) yz ho56 xq ay ae aF aD hR56.1 (rats_fn hR56)
  obtain ⟨aQ, hR56⟩ : ∃ Z9, Rs.set i (⟨some ⟨ag, 0, none⟩, n, n⟩ : Sl) = Z9 := ⟨_, rfl⟩
  rewrite [hR56] at hS56
  obtain ⟨aM, al⟩ : ∃ Z9, Ls.set i aR = Z9 := ⟨_, rfl⟩
  rewrite [al] at hS56
  have aC : aM.length = n + 2 := by rw [← al, List.length_set]; exact hLl
  have hkr3256 := MutQ.keep (SysE.out ho56) ae (f1.ext (ai.t ar.ext))
  refine zzx ?_
  refine zzp (zzf (zyq 25 (x := zI (IntKind.i64.wrap ((i : Int) + 1))) (zI (i + 1 : Nat)) (eqI yq) (zza 16 (zI (i + 1 : Nat)) (zzx ?_))))
  have hgn : ∀ j, n ≤ j → aQ.getD j sl0 = Rs.getD j sl0 := fun j hj => by rw [← hR56]; exact getD_set_other xq
  refine ⟨_, ?_, _, by exact zzv _ _ _, i + 1, aQ, aM, rfl, by omega, aC, (by rw [hgn n (Nat.le_refl n)]; exact hB), (by rw [hgn (n + 1) xq]; exact hC), rfl, eX56r, (SysE.congr hS56 (fun a ha => Nt.zi_lw xq a) (fun a b q ha hb hv => Nt.zi_val a b q hv)), hkr3256⟩
  omega
 have qhb44 := of_decide_eq_false af
 refine zyc (zzp (sq9 (zzi 26 (.v (.agg #[.slice (some ⟨ad, 0, none⟩) n n, .slice (some ⟨aa, 0, none⟩) n n, .slice (some ⟨ab, 0, none⟩) n n, .bool ac.s, ac.m.v, ac.d.v])) ty77 zze (zzj ⟨77, [.slice (some ⟨ad, 0, none⟩) n n, .slice (some ⟨aa, 0, none⟩) n n, .slice (some ⟨ab, 0, none⟩) n n] ++ ac.cs⟩ ty77 ?_))))
 refine zzb (zzo (ret0 [.agg #[.slice (some ⟨ad, 0, none⟩) n n, .slice (some ⟨aa, 0, none⟩) n n, .slice (some ⟨ab, 0, none⟩) n n, .bool ac.s, ac.m.v, ac.d.v]] ⟨zzr ty77 zze, trivial⟩ fun u57 aU => ?_))
 have aY : n = i := by omega
 subst aY
 exact ⟨(⟨some ⟨ad, 0, none⟩, n, n⟩ : Sl), (⟨some ⟨aa, 0, none⟩, n, n⟩ : Sl), (⟨some ⟨ab, 0, none⟩, n, n⟩ : Sl), ac, Rs, Ls, rfl, SysE.congr (SysE.ext f0 aU) (fun a ha => Nt.zf_lw) (fun a b q ha hb hv => Nt.zf_val hv), hLl, hB, hC, (f1.ext aU)⟩
theorem SysE.front {tO tR : TypeId} {lo n K : Nat} {u : World} {x : Sl} {Rs : List Sl} {Ls : List (List RL)} {lw : Nat → Nat} {val : Nat → Nat → Option Rat} (m : SysE tO tR lo u x n Rs Ls lw val K) : SysE tO tR lo u x n (Rs.take n) (Ls.take n) lw val K := by
 have hn := m.hn
 have hl := m.len
 have e1 : ∀ i, i < n → (Rs.take n).getD i sl0 = Rs.getD i sl0 := fun i hi => by rw [List.getD_eq_getElem?_getD, List.getElem?_take_of_lt hi, ← List.getD_eq_getElem?_getD]
 have e2 : ∀ i, i < n → (Ls.take n).getD i [] = Ls.getD i [] := fun i hi => by rw [List.getD_eq_getElem?_getD, List.getElem?_take_of_lt hi, ← List.getD_eq_getElem?_getD]
 have e3 : ∀ {i : Nat}, i < (Ls.take n).length → i < n ∧ i < Ls.length := fun h => by rw [List.length_take] at h; omega
 refine ⟨by rw [List.take_take, Nat.min_self]; exact m.out, by rw [List.length_take]; omega, by rw [List.length_take, List.length_take]; omega, fun i hi => ?_, fun i j hi hj hij => ?_, fun i hi => ?_, fun i j q hi hj hv => ?_⟩
 ·rw [e1 i (e3 hi).1, e2 i (e3 hi).1]; exact m.row i (e3 hi).2
 ·rw [e1 i (e3 hi).1, e1 j (e3 hj).1]; exact m.sep i j (e3 hi).2 (e3 hj).2 hij
 ·rw [e2 i (e3 hi).1]; exact m.wid i (e3 hi).2
 rw [e2 i (e3 hi).1]; exact m.num i j q (e3 hi).2 hj hv
theorem Nt.dot_row {n k : Nat} {f g : Nat → Rat} (hk : k ≤ n) : Nt.dotQ (rowL n f) (rowL n g) k = Nt.su (fun l => f l * g l) k := Nt.su_congr (fun i hi => by rw [rowL_at xq, rowL_at xq])
theorem Nt.dot_rows {n : Nat} {f g : Nat → Rat} : Nt.dotQ (rowL n f) (rowL n g) (rowL n f).length = Nt.su (fun l => f l * g l) n := by rw [rowL_len]; exact Nt.dot_row (Nat.le_refl n)
theorem rep_sl {n i : Nat} : (List.replicate n sl0).getD i sl0 = sl0 := by rw [List.getD_eq_getElem?_getD, List.getElem?_replicate]; split <;> rfl
theorem rep_getN {n : Nat} {y : Sl} : (List.replicate n sl0 ++ [y]).getD n sl0 = y := by rw [List.getD_eq_getElem?_getD, List.getElem?_append_right zz, List.length_replicate, Nat.sub_self]; rfl
namespace Nt
theorem c_lw {n : Nat} (a : Nat) (h : a < (List.replicate n ([] : List RL) ++ [List.replicate n rl0]).length) : up1 (fun _ => 0) (List.replicate n ([] : List RL)).length n a = if a < n then 0 else n := by
 have h2 : a < n + 1 := by simpa using h
 unfold up1
 rw [List.length_replicate]
 by_cases e : a = n
 ·rw [if_pos e, if_neg xq]
 rw [if_neg e, if_pos xq]
theorem ci_lw {n i : Nat} (hi : i < n) (a : Nat) : up1 (fun a => if a < i then n else if a < n then 0 else n) i n a = if a < i + 1 then n else if a < n then 0 else n := by
 unfold up1
 dsimp only
 by_cases h : a = i
 ·rw [if_pos h, if_pos xq]
 rw [if_neg h]
 by_cases h2 : a < i
 ·rw [if_pos h2, if_pos xq]
 rw [if_neg h2, if_neg (show ¬ a < i + 1 by omega)]
theorem c_end {n i a : Nat} (h : i = n) : (if a < i then n else if a < n then 0 else n) = n := by
 subst h; split <;> rfl
section
variable {n i j a b : Nat} {q : Rat} {A M : Nat → Nat → Rat}
theorem c00 {x y : Option Rat} (h : (if a < n ∧ b < 0 then y else none) = some q) : x = some q := by rw [if_neg xq] at h; cases h
theorem c12 (hv : (if a < n then (if b < j then some (mM n A M a b) else none) else if b < 0 then some (M b j) else none) = some q) : (if a < n ∧ b < j then some (mM n A M a b) else none) = some q := by
 by_cases h1 : a < n
 ·rw [if_pos h1] at hv
  by_cases h2 : b < j
  ·rw [if_pos h2] at hv; rw [if_pos ⟨h1, h2⟩]; exact hv
  rw [if_neg h2] at hv; cases hv
 rw [if_neg h1, if_neg (Nat.not_lt_zero b)] at hv; cases hv
theorem c22 (ha : a < n + 1) (hv : (if a < n then (if b < j then some (mM n A M a b) else none) else if b < i + 1 then some (M b j) else none) = some q) : up2 (fun a b => if a < n then (if b < j then some (mM n A M a b) else none) else if b < i then some (M b j) else none) n i (M i j) a b = some q := by
 unfold up2
 dsimp only
 by_cases h1 : a < n
 ·rw [if_neg xq, if_pos h1]; rw [if_pos h1] at hv; exact hv
 rw [if_neg h1] at hv
 by_cases h2 : b = i
 ·rw [if_pos ⟨by omega, h2⟩]; rw [if_pos xq, h2] at hv; exact hv
 rw [if_neg xq, if_neg h1]
 by_cases h3 : b < i
 ·rw [if_pos h3]; rw [if_pos xq] at hv; exact hv
 rw [if_neg xq] at hv; cases hv
theorem c23 (hb : b < i) (hv : (if a < n then (if b < j ∨ b = j ∧ a < 0 then some (mM n A M a b) else none) else some (M b j)) = some q) : (if a < n then (if b < j then some (mM n A M a b) else none) else if b < i then some (M b j) else none) = some q := by
 by_cases h1 : a < n
 ·rw [if_pos h1] at hv ⊢
  by_cases h2 : b < j
  ·rw [if_pos (.inl h2)] at hv; rw [if_pos h2]; exact hv
  rw [if_neg xq] at hv; cases hv
 rw [if_neg h1] at hv ⊢; rw [if_pos hb]; exact hv
theorem c33 (ha : i < n) (hv : (if a < n then (if b < j ∨ b = j ∧ a < i + 1 then some (mM n A M a b) else none) else some (M b j)) = some q) : up2 (fun a b => if a < n then (if b < j ∨ b = j ∧ a < i then some (mM n A M a b) else none) else some (M b j)) i j (mM n A M i j) a b = some q := by
 unfold up2
 dsimp only
 by_cases h1 : a = i ∧ b = j
 ·rw [if_pos h1]
  rw [if_pos xq, if_pos xq, h1.1, h1.2] at hv; exact hv
 rw [if_neg h1]
 by_cases h2 : a < n
 ·rw [if_pos h2] at hv ⊢
  by_cases h3 : b < j ∨ b = j ∧ a < i
  ·rw [if_pos h3]; rw [if_pos xq] at hv; exact hv
  rw [if_neg xq] at hv; cases hv
 rw [if_neg h2] at hv ⊢; exact hv
theorem c31 (hi : i = n) (hv : (if a < n ∧ b < j + 1 then some (mM n A M a b) else none) = some q) : (if a < n then (if b < j ∨ b = j ∧ a < i then some (mM n A M a b) else none) else some (M b j)) = some q := by
 by_cases h1 : a < n ∧ b < j + 1
 ·rw [if_pos h1] at hv; rw [if_pos h1.1, if_pos xq]; exact hv
 rw [if_neg h1] at hv; cases hv
end
end Nt
set_option maxHeartbeats 8000000 in
theorem k_nTimes {u w : World} {x y : Sl} {n K M9 : Nat} {Ra Rb : List Sl} {A M : Nat → Nat → Rat} (d : Dat u w) (hA : MatV u x n Ra (fun i => rowL n (A i)) K) (hB : MatV u y n Rb (fun i => rowL n (M i)) K) (hn : n ≤ 100) (hK : K ≤ M9) (h2 : 2 ≤ M9) (hM9 : M9 ≤ 20000000) (hM : ∀ i j k, i < n → j < n → k ≤ n → Nt.rs (Nt.su (fun l => A i l * M l j) k) ≤ M9) : Calls Tryz.prog 111 #[x.v, y.v] w (Post u w fun v u' => ∃ (z : Sl) (Rs : List Sl) (Ls : List (List RL)), v = z.v ∧ SysE 26 32 u.heap.size u' z n Rs Ls (fun _ => n) (fun i j => some (Nt.mM n A M i j)) M9 ∧ Ls.length = n) := by
 obtain ⟨xa, xn, xc⟩ := x
 obtain ⟨ya, yn, yc⟩ := y
 obtain rfl : n = xn := hA.1.symm
 obtain rfl : n = yn := hB.1.symm
 refine zzm (args := [.slice xa n xc, .slice ya n yc]) Tryz.func111 rfl Tryz.ntmps111 (rs := [.tmp 4]) Tryz.results111 (le_b rfl) (le_b rfl) d ?_
 refine sq9 (zza 4 (.v (.slice none 0 0)) (zzb (sq9 (zza 11 (.v (.slice xa n xc)) (zza 12 (zI n) (sy_makeF 13 (T := 75) (E := 26) (z := .slice none 0 0) (size := 1) (bytes := 24) n ((List.replicate n sl0).map Sl.v) xj xj rfl rfl xq yv (made_sls _) (fun aa bo bl bD f11 br => ?_)))))))
 have aU : MutQ 1 26 u.heap.size bo (⟨some ⟨aa, 0, none⟩, n, n⟩ : Sl) ((List.replicate n sl0).map Sl.v) := MutQ.lit bD (by rw [List.length_map, List.length_replicate, Nat.mul_one]) yv br (nu_sls _)
 refine zza 5 (.v (.slice (some ⟨aa, 0, none⟩) n n)) (zzb (sq9 (zza 14 (.v (.slice xa n xc)) (zza 15 (zI n) (sy_makeF 16 (T := 26) (E := 32) (z := .agg #[.bool false, .slice none 0 0, .slice none 0 0]) (size := 3) (bytes := 56) n (rcs (List.replicate n rl0)) xj xj rfl rfl xq yv (made_rcs _) (fun ab bG a9 bq f13 bw => ?_))))))
 have aH : MutQ (1 * 3) 32 bo.heap.size bG (⟨some ⟨ab, 0, none⟩, n, n⟩ : Sl) (rcs (List.replicate n rl0)) := MutQ.lit bq (by rw [zyy, List.length_replicate]) yv bw (nu_rcs _)
 refine zza 6 (.v (.slice (some ⟨ab, 0, none⟩) n n)) (zzb (zzd (zzd ?_)))
 have s0 := SysE.nil (tR := 32) (val := fun _ _ => none) (K := M9) n (MutQ.low (MutQ.ext aU a9) (Ext.size (Ext.refl _)))
 have s1 := SysE.add (w := n) (g := fun _ => none) s0 (MutQ.low aH (Ext.size bl)) (fun j _ => by rw [rep_sl]; exact fun a a' _ h => by cases h) (List.length_replicate ..) (fun b q _ h => by cases h)
 have s3 := SysE.congr (lw' := fun a => if a < n then 0 else n) (val' := fun _ _ => none) s1 (fun a ha => Nt.c_lw a ha) (fun a b q _ _ h => by cases h)
 have hRC : (List.replicate n sl0 ++ [(⟨some ⟨ab, 0, none⟩, n, n⟩ : Sl)]).getD n sl0 = (⟨some ⟨ab, 0, none⟩, n, n⟩ : Sl) := rep_getN
 have be : (List.replicate n ([] : List RL) ++ [List.replicate n rl0]).length = n + 1 := by simp
 generalize (List.replicate n sl0 ++ [(⟨some ⟨ab, 0, none⟩, n, n⟩ : Sl)]) = R0 at s3 hRC
 generalize (List.replicate n ([] : List RL) ++ [List.replicate n rl0]) = L0 at s3 be
 refine zzf (zza 17 (.v (.slice xa n xc)) (zza 18 (zI n) (zza 19 (zI 0) (zzb (zzt (zyn (I := fun bh S' u' => ∃ (i : Nat) (Rs : List Sl) (Ls : List (List RL)), (bh = n - i) ∧ (i ≤ n) ∧ (Ls.length = n + 1) ∧ (Rs.getD n sl0 = (⟨some ⟨ab, 0, none⟩, n, n⟩ : Sl)) ∧ (S' = St.of 70 [(0, .v (.slice xa n xc)), (1, .v (.slice ya n yc)), (5, .v (.slice (some ⟨aa, 0, none⟩) n n)), (6, .v (.slice (some ⟨ab, 0, none⟩) n n)), (18, zI n), (19, zI i)] []) ∧ (Ext u u') ∧ (SysE 26 32 u.heap.size u' (⟨some ⟨aa, 0, none⟩, n, n⟩ : Sl) n Rs Ls (fun a => if a < i then n else if a < n then 0 else n) (fun _ _ => none) M9)) (fun m S u1 u2 e h => by obtain ⟨i, Rs, Ls, hm, p0, p1, p2, hS, hE, f0⟩ := h; exact ⟨i, Rs, Ls, hm, p0, p1, p2, hS, hE.trans e, f0.ext e⟩) _ yw ⟨0, R0, L0, rfl, Nat.zero_le _, be, hRC, rfl, (bl.trans a9), (SysE.congr s3 (fun a ha => by simp) (fun a b q _ _ h => by cases h))⟩ ?_))))))
 rintro bh _ bL ⟨i, Rs, Ls, bA, hi, hLl, hC, rfl, a7, f0⟩
 have hxn := SysE.xn f0
 refine sq9 (zza 20 (zB (decide ((i : Int) < (n : Int)))) (zzb (zzd (zzu (b := decide ((i : Int) < (n : Int))) xj (fun ae => ?_) (fun ae => ?_)))))
 ·have qhb16 := of_decide_eq_true ae
  refine zzs (zzp ?_)
  refine zzd (zzt (sq9 (zza 21 (zI i) (zza 7 (zI i) (zzb (zzf (zza 22 (.v (.slice (some ⟨aa, 0, none⟩) n n)) (zza 23 (zI i) (zza 24 (.v (.slice xa n xc)) (zza 25 (zI n) (sy_makeF 26 (T := 26) (E := 32) (z := .agg #[.bool false, .slice none 0 0, .slice none 0 0]) (size := 3) (bytes := 56) n (rcs (List.replicate n rl0)) xj xj rfl rfl xq yv (made_rcs _) (fun ac bn a2 bj f17 aQ => ?_))))))))))))
  have bx : MutQ (1 * 3) 32 bL.heap.size bn (⟨some ⟨ac, 0, none⟩, n, n⟩ : Sl) (rcs (List.replicate n rl0)) := MutQ.lit bj (by rw [zyy, List.length_replicate]) yv aQ (nu_rcs _)
  have hq19 := (SysE.ext f0 a2)
  obtain ⟨b19, av, bB⟩ := SysE.cell (i := i) hq19 xq
  have hn19 := SysE.xn hq19
  change n = _ at hn19
  refine zya 27 (0 + i * 1) (n := n) (off := 0) (sz := 1) (i := (i : Int)) xq av xq xq sl75 ?_
  have ho20 := (SysE.ext f0 a2)
  have aZ : MutQ (1 * 3) 32 u.heap.size bn (⟨some ⟨ac, 0, none⟩, n, n⟩ : Sl) (rcs (List.replicate n rl0)) := MutQ.lit (bj) (by rw [zyy, List.length_replicate] <;> omega) yv (Nat.le_trans (Ext.size a7) aQ) (nu_rcs _)
  have aL : ∀ j, j < Ls.length → j ≠ i → Sep (⟨some ⟨ac, 0, none⟩, n, n⟩ : Sl) (Rs.getD j sl0) := fun j hj _ => SysE.fresh (f0) aQ j hj
  refine sy_storeQ (v := .slice (some ⟨ac, 0, none⟩) n n) (off := 0 + i * 1) (n := 1) (⟨some ⟨aa, 0, none⟩, n, n⟩ : Sl) (SysE.out ho20) (MutQ.mayA (SysE.out ho20) (Ext.size (Ext.refl _))) av ty26 (by have h9 := SysE.hn ho20; rw [List.length_map, List.length_take]; omega) (nu_sls [(⟨some ⟨ac, 0, none⟩, n, n⟩ : Sl)]) (fun bM a5 ay => ?_)
  have aI : MutQ 1 26 u.heap.size bM (⟨some ⟨aa, 0, none⟩, n, n⟩ : Sl) (((Rs.take n).set i (⟨some ⟨ac, 0, none⟩, n, n⟩ : Sl)).map Sl.v) := by rw [← setL_map (y := (⟨some ⟨ac, 0, none⟩, n, n⟩ : Sl)) (i := i) (by have h9 := SysE.hn ho20; rw [List.length_take]; omega)]; exact a5
  have eX20r := ExtX.root ay (MutQ.mutL (SysE.out ho20)) (a7.trans a2)
  have hS20 := SysE.put (i := i) (w := n) (g := (fun _ => none)) yz ho20 xq aI ay aZ aL List.length_replicate (fun b q _ h => by cases h)
  obtain ⟨bf, au⟩ : ∃ Z9, Rs.set i (⟨some ⟨ac, 0, none⟩, n, n⟩ : Sl) = Z9 := ⟨_, rfl⟩
  rewrite [au] at hS20
  obtain ⟨bb, ao⟩ : ∃ Z9, Ls.set i (List.replicate n rl0) = Z9 := ⟨_, rfl⟩
  rewrite [ao] at hS20
  have aC : bb.length = n + 1 := by rw [← ao, List.length_set]; exact hLl
  refine zzx ?_
  refine zzp (zzf (zyq 28 (x := zI (IntKind.i64.wrap ((i : Int) + 1))) (zI (i + 1 : Nat)) (eqI yq) (zza 19 (zI (i + 1 : Nat)) (zzx ?_))))
  have hgn : ∀ j, n ≤ j → bf.getD j sl0 = Rs.getD j sl0 := fun j hj => by rw [← au]; exact getD_set_other xq
  refine ⟨_, ?_, _, by exact zzv _ _ _, i + 1, bf, bb, rfl, by omega, aC, (by rw [hgn n (Nat.le_refl n)]; exact hC), rfl, eX20r, (SysE.congr hS20 (fun a ha => Nt.ci_lw xq a) (fun a b q _ _ h => by cases h))⟩
  omega
 have qhb16 := of_decide_eq_false ae
 refine zyc (zzp (zzd (sq9 (zza 29 (.v (.slice xa n xc)) (zza 30 (zI n) (zza 31 (zI 0) (zzb (zzt (zyn (I := fun bd S' u' => ∃ (j : Nat) (Rt : List Sl) (Lt : List (List RL)), (bd = n - j) ∧ (j ≤ n) ∧ (Lt.length = n + 1) ∧ (Rt.getD n sl0 = (⟨some ⟨ab, 0, none⟩, n, n⟩ : Sl)) ∧ (S' = St.of 70 [(0, .v (.slice xa n xc)), (1, .v (.slice ya n yc)), (5, .v (.slice (some ⟨aa, 0, none⟩) n n)), (6, .v (.slice (some ⟨ab, 0, none⟩) n n)), (30, zI n), (31, zI j)] []) ∧ (Ext u u') ∧ (SysE 26 32 u.heap.size u' (⟨some ⟨aa, 0, none⟩, n, n⟩ : Sl) n Rt Lt (fun _ => n) (fun a b => if a < n ∧ b < j then some (Nt.mM n A M a b) else none) M9)) (fun m S u1 u2 e h => by obtain ⟨j, Rt, Lt, hm, p0, p1, p2, hS, hE, f0⟩ := h; exact ⟨j, Rt, Lt, hm, p0, p1, p2, hS, hE.trans e, f0.ext e⟩) _ yw ⟨0, Rs, Ls, rfl, Nat.zero_le _, hLl, hC, rfl, a7, (SysE.congr f0 (fun a ha => Nt.c_end xq) (fun a b q _ _ h => Nt.c00 h))⟩ ?_)))))))))
 rintro bd _ u21 ⟨j, Rt, Lt, bE, hj, hLt, hCt, rfl, bu, g0⟩
 refine sq9 (zza 32 (zB (decide ((j : Int) < (n : Int)))) (zzb (zzd (zzu (b := decide ((j : Int) < (n : Int))) xj (fun ad => ?_) (fun ad => ?_)))))
 ·have qhb22 := of_decide_eq_true ad
  refine zzs (zzp ?_)
  refine zzd (zzt (sq9 (zza 33 (zI j) (zza 8 (zI j) (zzb (zzd (sq9 (zza 34 (.v (.slice xa n xc)) (zza 35 (zI n) (zza 36 (zI 0) (zzb ?_)))))))))))
  refine zzt (zyn (I := fun bc S' u' => ∃ (i : Nat) (La : List (List RL)), (bc = n - i) ∧ (i ≤ n) ∧ (La.length = n + 1) ∧ (S' = St.of 70 [(0, .v (.slice xa n xc)), (1, .v (.slice ya n yc)), (5, .v (.slice (some ⟨aa, 0, none⟩) n n)), (6, .v (.slice (some ⟨ab, 0, none⟩) n n)), (8, zI j), (30, zI n), (31, zI j), (35, zI n), (36, zI i)] []) ∧ (Ext u u') ∧ (SysE 26 32 u.heap.size u' (⟨some ⟨aa, 0, none⟩, n, n⟩ : Sl) n Rt La (fun _ => n) (fun a b => if a < n then (if b < j then some (Nt.mM n A M a b) else none) else if b < i then some (M b j) else none) M9)) (fun m S u1 u2 e h => by obtain ⟨i, La, hm, p0, p1, hS, hE, f0⟩ := h; exact ⟨i, La, hm, p0, p1, hS, hE.trans e, f0.ext e⟩) _ yw ⟨0, Lt, rfl, Nat.zero_le _, hLt, rfl, bu, (SysE.congr g0 (fun a ha => rfl) (fun a b q _ _ hv => Nt.c12 hv))⟩ ?_)
  rintro bc _ bK ⟨i, La, bF, hi, hLa, rfl, ax, a0⟩
  refine sq9 (zza 37 (zB (decide ((i : Int) < (n : Int)))) (zzb (zzd (zzu (b := decide ((i : Int) < (n : Int))) xj (fun ag => ?_) (fun ag => ?_)))))
  ·have qhb24 := of_decide_eq_true ag
   refine zzs (zzp ?_)
   refine zzd (zzt (sq9 (zza 38 (zI i) (zza 9 (zI i) (zzb ?_)))))
   have hrl := rowL_len (w := n) (f := M i)
   refine zzf (zza 39 (.v (.slice (some ⟨ab, 0, none⟩) n n)) (zza 40 (zI i) (zza 41 (.v (.slice ya n yc)) (zza 42 (zI i) ?_))))
   have hn25 := ((hB.ext ax)).1
   obtain ⟨b25, aR, aN⟩ := ((hB.ext ax)).2.1 i xq
   refine zya 43 (0 + i * 1) (n := n) (off := 0) (sz := 1) (i := (i : Int)) xq aR xq yy sl75 ?_
   have aB : PolN bK (Rb.getD i sl0) (rowL n (M i)) K := ((hB.ext ax)).2.2 i xq
   refine zyl 44 (.slice (Rb.getD i sl0).a (Rb.getD i sl0).n (Rb.getD i sl0).c) aN ty26 (zza 45 (zI j) ?_)
   have hl27 := aB.len
   obtain ⟨ai, b27, ba, aF, aK, aV⟩ := pol_atN aB (i := j) xq
   refine zya 46 (ba + j * 3) (n := (Rb.getD i sl0).n) (off := ba) (sz := 3) (i := (j : Int)) xq aF xq xq sl26 (zym 47 ai.cs aK ty32 ?_)
   have hq28 := a0
   have a3 : (La.getD n []).length = n := (SysE.wid hq28 n (by rw [hLa]; omega)).trans rfl
   have hr28 := SysE.row hq28 n (by rw [hLa]; omega)
   rw [hCt] at hr28
   have hz28 := MutQ.rown hr28
   change n = _ at hz28
   obtain ⟨b28, an, bz⟩ := MutQ.el1 (j := i) hr28 (by rw [a3]; omega)
   refine zya 48 (0 + i * 3) (n := n) (off := 0) (sz := 3) (i := (i : Int)) xq an xq xq sl26 ?_
   have ho29 := a0
   have ak : (La.getD n []).length = n := (SysE.wid ho29 n (by rw [hLa]; omega)).trans rfl
   have hy29 := SysE.row ho29 n (by rw [hLa]; omega)
   rw [hCt] at hy29
   refine sy_storeQ (v := ai.v) (off := 0 + i * 3) (n := 3) (⟨some ⟨ab, 0, none⟩, n, n⟩ : Sl) hy29 (MutQ.mayA hy29 (Ext.size (Ext.refl _))) an ty32 (by rw [zyy, ak]; omega) (nu_rl ai) (fun bH aG aA => ?_)
   have aJ : MutQ (1 * 3) 32 u.heap.size bH (⟨some ⟨ab, 0, none⟩, n, n⟩ : Sl) (rcs ((La.getD n []).set i ai)) := by rw [← zyx (off := 0 + i * 3) (by rw [ak]; omega) xq]; exact aG
   have eX29r := ExtX.root aA (MutQ.mutL hy29) ax
   have hS29 := SysE.store (i := n) (j := i) (r := ai) (q := ((rowL n (M i)).getD j 0)) yz ho29 (by rw [hLa]; omega) (Nat.lt_of_lt_of_eq (show i < n by omega) (Eq.symm rfl)) (by rw [hCt]; exact aJ) (by rw [hCt]; exact aA) (RatN.more (K := K) aV xq)
   obtain ⟨bg, aq⟩ : ∃ Q9, La.set n ((La.getD n []).set i ai) = Q9 := ⟨_, rfl⟩
   rewrite [aq] at hS29
   have aD : bg.length = n + 1 := by rw [← aq, List.length_set]; exact hLa
   refine zzx ?_
   refine zzp (zzf (zyq 49 (x := zI (IntKind.i64.wrap ((i : Int) + 1))) (zI (i + 1 : Nat)) (eqI yq) (zza 36 (zI (i + 1 : Nat)) (zzx ?_))))
   refine ⟨_, ?_, _, by exact zzv _ _ _, i + 1, bg, rfl, by omega, aD, rfl, eX29r, (SysE.congr hS29 (fun a ha => rfl) (fun a b q ha _ hv => by rw [rowL_at (w := n) (f := M i) (j := j) xq]; exact Nt.c22 xq hv))⟩
   omega
  have qhb24 := of_decide_eq_false ag
  refine zyc (zzp (sq9 (zza 50 (.v (.slice xa n xc)) (zza 51 (zI n) (zza 52 (zI 0) (zzb (zzt (zyn (I := fun bm S' u' => ∃ (i : Nat) (Lb : List (List RL)), (bm = n - i) ∧ (i ≤ n) ∧ (Lb.length = n + 1) ∧ (S' = St.of 70 [(0, .v (.slice xa n xc)), (1, .v (.slice ya n yc)), (5, .v (.slice (some ⟨aa, 0, none⟩) n n)), (6, .v (.slice (some ⟨ab, 0, none⟩) n n)), (8, zI j), (30, zI n), (31, zI j), (51, zI n), (52, zI i)] []) ∧ (Ext u u') ∧ (SysE 26 32 u.heap.size u' (⟨some ⟨aa, 0, none⟩, n, n⟩ : Sl) n Rt Lb (fun _ => n) (fun a b => if a < n then (if b < j ∨ b = j ∧ a < i then some (Nt.mM n A M a b) else none) else some (M b j)) M9)) (fun m S u1 u2 e h => by obtain ⟨i, Lb, hm, p0, p1, hS, hE, f0⟩ := h; exact ⟨i, Lb, hm, p0, p1, hS, hE.trans e, f0.ext e⟩) _ yw ⟨0, La, rfl, Nat.zero_le _, hLa, rfl, ax, (SysE.congr a0 (fun a ha => rfl) (fun a b q _ hb hv => Nt.c23 xq hv))⟩ ?_))))))))
  rintro bm _ bi ⟨i, Lb, bI, hi, hLb, rfl, am, b0⟩
  refine sq9 (zza 53 (zB (decide ((i : Int) < (n : Int)))) (zzb (zzd (zzu (b := decide ((i : Int) < (n : Int))) xj (fun af => ?_) (fun af => ?_)))))
  ·have qhb31 := of_decide_eq_true af
   refine zzs (zzp ?_)
   refine zzd (zzt (sq9 (zza 54 (zI i) (zza 10 (zI i) (zzb ?_)))))
   have ar : PolN bi (⟨some ⟨ab, 0, none⟩, n, n⟩ : Sl) (rowL n (fun b => M b j)) M9 := by have h9 := SysE.pol (i := n) (f := fun _ b => M b j) b0 xq (fun b hb => if_neg (Nat.lt_irrefl n)); rw [hCt] at h9; exact h9
   refine sw_anyC [0, 0, 3, 7, 0, 0, 0, 96, 224, 0, 992, 2047, 4095] [(0, []), (1, []), (2, []), (3, []), (4, []), (5, []), (6, []), (7, []), (8, []), (9, []), (10, [])] [(11, []), (12, [])] xj xj xj ?_
   refine zza 55 (.v (.slice (some ⟨aa, 0, none⟩) n n)) (zza 56 (zI i) ?_)
   have hq33 := b0
   obtain ⟨b33, a4, a8⟩ := SysE.cell (i := i) hq33 xq
   have hn33 := SysE.xn hq33
   change n = _ at hn33
   refine zya 57 (0 + i * 1) (n := n) (off := 0) (sz := 1) (i := (i : Int)) xq a4 xq xq sl75 (zyl 58 (.slice (Rt.getD i sl0).a (Rt.getD i sl0).n (Rt.getD i sl0).c) a8 ty26 (zza 59 (zI j) (zza 60 (.v (.slice xa n xc)) (zza 61 (zI i) ?_))))
   have hn34 := ((hA.ext am)).1
   obtain ⟨b34, a6, a1⟩ := ((hA.ext am)).2.1 i xq
   refine zya 62 (0 + i * 1) (n := n) (off := 0) (sz := 1) (i := (i : Int)) xq a6 xq yy sl75 ?_
   have aM : PolN bi (Ra.getD i sl0) (rowL n (A i)) K := ((hA.ext am)).2.2 i xq
   refine zyl 63 (.slice (Ra.getD i sl0).a (Ra.getD i sl0).n (Ra.getD i sl0).c) a1 ty26 (zza 64 (.v (.slice (some ⟨ab, 0, none⟩) n n)) (zzg 65 110 _ fun _ _ aj bJ => Post.mono (k_nProduct (M := M9) bJ (PolN.more (K' := (max K M9)) (aM.ext aj) xq) (PolN.more (K' := (max K M9)) (ar.ext aj) xq) (by simp [rowL_len]) (by rw [rowL_len]; omega) xq xq xq (fun k hk => by rw [rowL_len] at hk; rw [Nt.dot_row hk]; exact hM i j k xq xq hk)) ?_))
   rintro _ bv aX ⟨ah, rfl, aO⟩
   have aT : RatN bv ah (Nt.mM n A M i j) M9 := by have h9 := aO; rewrite [Nt.dot_rows] at h9; exact h9
   refine zzx ?_
   have hq43 := (SysE.ext b0 (aj.t aX.ext))
   have aW : (Lb.getD i []).length = n := (SysE.wid hq43 i (by rw [hLb]; omega)).trans rfl
   have hr43 := SysE.row hq43 i (by rw [hLb]; omega)
   have hz43 := MutQ.rown hr43
   obtain ⟨b43, aw, bs⟩ := MutQ.el1 (j := j) hr43 (by rw [aW]; omega)
   refine zya 66 (0 + j * 3) (n := (Rt.getD i sl0).n) (off := 0) (sz := 3) (i := (j : Int)) xq aw xq xq sl26 ?_
   have ho44 := (SysE.ext b0 (aj.t aX.ext))
   have az : (Lb.getD i []).length = n := (SysE.wid ho44 i (by rw [hLb]; omega)).trans rfl
   have hy44 := SysE.row ho44 i (by rw [hLb]; omega)
   refine sy_storeQ (v := ah.v) (off := 0 + j * 3) (n := 3) (Rt.getD i sl0) hy44 (MutQ.mayA hy44 (Ext.size (Ext.refl _))) aw ty32 (by rw [zyy, az]; omega) (nu_rl ah) (fun bt aP al => ?_)
   have aE : MutQ (1 * 3) 32 u.heap.size bt (Rt.getD i sl0) (rcs ((Lb.getD i []).set j ah)) := by rw [← zyx (off := 0 + j * 3) (by rw [az]; omega) xq]; exact aP
   have eX44r := ExtX.root al (MutQ.mutL hy44) (am.t (aj.t aX.ext))
   have hS44 := SysE.store (i := i) (j := j) (r := ah) (q := (Nt.mM n A M i j)) yz ho44 (by rw [hLb]; omega) (Nat.lt_of_lt_of_eq (show j < n by omega) (Eq.symm rfl)) aE al aT
   obtain ⟨bk, ap⟩ : ∃ Q9, Lb.set i ((Lb.getD i []).set j ah) = Q9 := ⟨_, rfl⟩
   rewrite [ap] at hS44
   have aY : bk.length = n + 1 := by rw [← ap, List.length_set]; exact hLb
   refine zzx ?_
   refine zzp (zzf (zyq 67 (x := zI (IntKind.i64.wrap ((i : Int) + 1))) (zI (i + 1 : Nat)) (eqI yq) (zza 52 (zI (i + 1 : Nat)) (zzx ?_))))
   refine ⟨_, ?_, _, by exact zzv _ _ _, i + 1, bk, rfl, by omega, aY, rfl, eX44r, (SysE.congr hS44 (fun a ha => rfl) (fun a b q ha _ hv => Nt.c33 xq hv))⟩
   omega
  have qhb31 := of_decide_eq_false af
  refine zyc (zzp (zzf (zyq 68 (x := zI (IntKind.i64.wrap ((j : Int) + 1))) (zI (j + 1 : Nat)) (eqI yq) (zza 31 (zI (j + 1 : Nat)) (zzx ?_)))))
  refine ⟨_, ?_, _, by exact zzv _ _ _, j + 1, Rt, Lb, rfl, by omega, hLb, hCt, rfl, am, (SysE.congr b0 (fun a ha => rfl) (fun a b q _ _ hv => Nt.c31 xq hv))⟩
  omega
 have qhb22 := of_decide_eq_false ad
 refine zyc (zzp (sq9 (zza 69 (.v (.slice (some ⟨aa, 0, none⟩) n n)) (zza 4 (.v (.slice (some ⟨aa, 0, none⟩) n n)) (zzb (zzo (ret0 [.slice (some ⟨aa, 0, none⟩) n n] ⟨zzq, trivial⟩ fun u45 bC => ?_)))))))
 have bp : n = j := by omega
 subst bp
 exact ⟨(⟨some ⟨aa, 0, none⟩, n, n⟩ : Sl), _, _, rfl, SysE.congr (SysE.front (SysE.ext g0 bC)) (fun a ha => rfl) (fun a b q ha hb hv => by rw [List.length_take] at ha; rw [if_pos ⟨by omega, hb⟩]; exact hv), by rw [List.length_take]; omega⟩
section
variable {k lo b n m i j : Nat} {ty tO : TypeId} {u u' v : World} {x y : Sl} {cs : List Value} {L : List RL} {l : List Rat} {K : Nat} {Rs : List Sl} {T : Nat → List Rat}
theorem ExtX.cell (e : ExtX x u u') {b o : Nat} {v : Value} (hb : offB x b) (hc : u.cell? ⟨b, o, none⟩ = some v) : u'.cell? ⟨b, o, none⟩ = some v := by
 unfold World.cell? at hc ⊢
 cases h1 : u.heap[b]? with
 | none => dsimp only at hc; rw [h1] at hc; cases hc
 | some ob =>
  dsimp only at hc ⊢
  rw [h1] at hc
  cases ob with
  | cells c t fr => rw [e.vis _ _ hb h1 (by unfold hidO; exact fun e => by cases e)]; exact hc
  | _ => cases hc
theorem PolN.keepX (h : PolN u y l K) (m : MutQ k ty lo u x cs) (e : ExtX x u u') (hs : Sep x y) : PolN u' y l K := by
 obtain ⟨L, ⟨h1, h2, h3, h4⟩, h5⟩ := h
 refine ⟨L, ⟨h1, h2, h3, fun hp => ?_⟩, m.keeps e h5⟩
 obtain ⟨b, o, ha, hc⟩ := h4 hp
 refine ⟨b, o, ha, fun j hj => ?_⟩
 have hcj := hc j hj
 rw [List.getElem?_eq_getElem hj] at hcj ⊢
 exact e.cell (fun a hx hb => hs a ⟨b, o, none⟩ hx ha hb) hcj
structure ColQ (tO : TypeId) (lo : Nat) (u : World) (x : Sl) (n : Nat) (Rs : List Sl) (T : Nat → List Rat) (m K : Nat) : Prop where
 out : MutQ 1 tO lo u x (Rs.map Sl.v)
 len : Rs.length = n
 row : ∀ i, i < m → PolN u (Rs.getD i sl0) (T i) K ∧ Sep x (Rs.getD i sl0)
theorem ColQ.ext (h : ColQ tO lo u x n Rs T m K) (e : Ext u u') : ColQ tO lo u' x n Rs T m K := ⟨h.out.ext e, h.len, fun i hi => ⟨(h.row i hi).1.ext e, (h.row i hi).2⟩⟩
theorem ColQ.start (ho : MutQ 1 tO lo u x ((List.replicate n sl0).map Sl.v)) : ColQ tO lo u x n (List.replicate n sl0) T 0 K := ⟨ho, by simp, fun i hi => absurd hi (Nat.not_lt_zero i)⟩
theorem ColQ.next (h : ColQ tO lo u x n Rs T m K) (ho : MutQ 1 tO lo u' x ((Rs.set m y).map Sl.v)) (e : ExtX x u u') (hm : m < n) (hy : PolN u y (T m) K) (hs : Sep x y) : ColQ tO lo u' x n (Rs.set m y) T (m + 1) K := by
 refine ⟨ho, by rw [List.length_set]; exact h.len, fun i hi => ?_⟩
 by_cases e1 : m = i
 ·subst e1; rw [getD_set_same (by rw [h.len]; exact hm)]; exact ⟨hy.keepX h.out e hs, hs⟩
 rw [getD_set_other e1]
 obtain ⟨r1, r2⟩ := h.row i xq
 exact ⟨r1.keepX h.out e r2, r2⟩
theorem ColQ.xn (h : ColQ tO lo u x n Rs T m K) : x.n = n := by
 have h1 := h.out.1
 rw [List.length_map, h.len] at h1
 omega
theorem ColQ.cell (h : ColQ tO lo u x n Rs T m K) (hi : i < n) : ∃ b, x.a = some ⟨b, 0, none⟩ ∧ u.cell? ⟨b, 0 + i * 1, none⟩ = some (Rs.getD i sl0).v := by
 have hl := h.len
 obtain ⟨b, h1, h2⟩ := h.out.mutL.cell (j := i) (by rw [List.length_map]; omega)
 refine ⟨b, h1, ?_⟩
 rw [Nat.mul_one, h2, List.getElem?_map, List.getD_eq_getElem?_getD, List.getElem?_eq_getElem xq]; rfl
theorem ColQ.matV (h : ColQ tO lo u x n Rs T n K) : MatV u x n Rs T K := ⟨h.xn, fun i hi => h.cell hi, fun i hi => (h.row i hi).1⟩
theorem sep_new {b c : Nat} (h : b < lo) (hy : ∀ a, y.a = some a → lo ≤ a.block) : Sep ⟨some ⟨b, 0, none⟩, n, c⟩ y := fun a a' h1 h2 hc => by
 injection h1 with h1; subst h1
 have h3 := hy a' h2
 have hc : b = a'.block := hc
 omega
end
set_option maxHeartbeats 4000000 in
theorem k_netValid {u w : World} {D W : WL} {s : Nat} {X Y : Sl} {h lo : Nat} {N : List (List TL)} {nx : List Int} {q : Int} (d : Dat u w) (hN : NodesB lo h u X N) (hY : MutL 1 3 lo u Y (ics nx)) (hok : Nt.NetOK D W s N nx q) : Calls Tryz.prog 105 #[.agg #[.int .i64 D.b, .int .i64 D.f, .int .i64 D.r, .int .i64 D.o, .int .i64 W.b, .int .i64 W.f, .int .i64 W.r, .int .i64 W.o, .int .i64 (s : Int), X.v, Y.v, .int .i64 q]] w (Post u w fun y _ => y = .bool true) := by
 obtain ⟨La, gA, gB, gC⟩ := id hN
 have hNl := hN.len
 have hD := hok.hd
 have hWc := hok.hw
 have hs64 := hok.hs
 have hn64 := hok.hn
 have hxs := hok.hx
 have hYr := MutL.slr hY
 have hYl : nx.length = Y.n := hYr.1
 have hqq := hok.hq
 have hbx : ∀ z ∈ nx, -9223372036854775808 ≤ z ∧ z ≤ 9223372036854775807 := fun z hz => by
  obtain ⟨j, hj, rfl⟩ := Nt.mem_getD hz
  have h9 := hok.hr j hj
  omega
 have aE : ∀ i, i < N.length → (La.getD i sl0).n = (N.getD i []).length ∧ (N.getD i []).length ≤ 64 := fun i hi => ⟨tms_len (gC i hi).1, (hok.ht i hi).1⟩
 obtain ⟨hd1, hd2, hd3, hd4, hd5, hd6, hd7, hd8⟩ := id hD
 obtain ⟨hw1, hw2, hw3, hw4, hw5, hw6, hw7, hw8⟩ := id hWc
 have hpw1 := Nt.zxp W.f
 have hpw2 := Nt.p2i_24 (n := W.f) xq
 have hpd1 := Nt.zxp (D.b - 1)
 have az : Nt.p2i (D.b - 1) ≤ 8388608 := Nt.zwe (b := 23) xq
 refine zzm (args := [.agg #[.int .i64 D.b, .int .i64 D.f, .int .i64 D.r, .int .i64 D.o, .int .i64 W.b, .int .i64 W.f, .int .i64 W.r, .int .i64 W.o, .int .i64 s, X.v, Y.v, .int .i64 q]]) Tryz.func105 rfl Tryz.ntmps105 (rs := [.tmp 2]) Tryz.results105 (le_b rfl) (le_b rfl) d ?_
 refine sq9 (zzk 1 ⟨72, [.int .i64 D.b, .int .i64 D.f, .int .i64 D.r, .int .i64 D.o, .int .i64 W.b, .int .i64 W.f, .int .i64 W.r, .int .i64 W.o, .int .i64 s, X.v, Y.v, .int .i64 q]⟩ (zza 2 (zB false) (zzb (zzd (sq9 (zza 10 (.adr 1 0) (zzi 11 (.v (D.v)) ty66 zze (zzg 12 103 _ fun _ _ ai ay => Post.mono (k_fxValid (W := D) ay hD) ?_))))))))
 rintro _ u12 ae rfl
 refine zza 13 (zB false) (zza 14 (zB false) (zza 15 (.adr 1 4) ?_ (hw := w1 4 false 14)))
 refine zzi 16 (.v (W.v)) ty66 zze ?_ (hw := w1 4 false 14)
 refine zzg 17 103 _ (fun _ _ ag aC => Post.mono (k_fxValid (W := W) aC hWc) ?_) (hw := w1 4 false 14)
 rintro _ ax af rfl
 refine zza 18 (zB false) ?_ (hw := w1 4 false 14)
 refine zza 19 (zB false) (zzb (zys xj (zzs (zzp ?_))))
 refine zzd (sq9 (zza 20 (.adr 1 8) (zzi 21 (zI s) ty3 zzl (zza 22 (zB (decide ((s : Int) < 0))) (zyq 23 (x := zB (decide ((s : Int) < 0))) (zB false) (by rw [show (decide ((s : Int) < 0)) = false from decide_eq_false xq]) (zza 24 (.adr 1 8) ?_ (hw := w1 3 false 23)))))))
 refine zzi 25 (zI s) ty3 zzl ?_ (hw := w1 3 false 23)
 refine zza 26 (zB (decide ((64 : Int) < (s : Int)))) ?_ (hw := w1 3 false 23)
 refine zza 27 (zB (decide ((64 : Int) < (s : Int)))) (zyq 28 (x := zB (decide ((64 : Int) < (s : Int)))) (zB false) (by rw [show (decide ((64 : Int) < (s : Int))) = false from decide_eq_false xq]) (zza 29 (.adr 1 9) ?_ (hw := w1 8 false 28)))
 refine zzi 30 (.v (X.v)) ty70 zzl ?_ (hw := w1 8 false 28)
 refine zza 31 (zI X.n) ?_ (hw := w1 8 false 28)
 refine zza 32 (zB (decide ((64 : Int) < (X.n : Int)))) ?_ (hw := w1 8 false 28)
 refine zza 33 (zB (decide ((64 : Int) < (X.n : Int)))) (zyq 34 (x := zB (decide ((64 : Int) < (X.n : Int)))) (zB false) (by rw [show (decide ((64 : Int) < (X.n : Int))) = false from decide_eq_false xq]) (zza 35 (.adr 1 10) ?_ (hw := w1 14 false 34)))
 refine zzi 36 (.v (Y.v)) ty22 zzl ?_ (hw := w1 14 false 34)
 refine zza 37 (zI Y.n) ?_ (hw := w1 14 false 34)
 refine zza 38 (.adr 1 8) ?_ (hw := w1 14 false 34)
 refine zzi 39 (zI s) ty3 zzl ?_ (hw := w1 14 false 34)
 refine zza 40 (zB ((Y.n : Int) != (s : Int))) ?_ (hw := w1 14 false 34)
 refine zza 41 (zB ((Y.n : Int) != (s : Int))) (zzc 120 [(1, .adr 1 0), (41, zB ((Y.n : Int) != (s : Int)))] [(1, ⟨72, [.int .i64 D.b, .int .i64 D.f, .int .i64 D.r, .int .i64 D.o, .int .i64 W.b, .int .i64 W.f, .int .i64 W.r, .int .i64 W.o, .int .i64 s, X.v, Y.v, .int .i64 q]⟩)] (zzu (b := (Y.n : Int) != (s : Int)) xj (fun hb => ?_) (fun hb => ?_)))
 ·exact absurd hb (by rw [show ((Y.n : Int) != (s : Int)) = false from (by first | (simp; done) | (simp; omega))]; decide)
 clear hb
 refine zzs (zzp ?_)
 refine zzd (sq9 (zza 42 (.adr 1 9) (zzi 43 (.v (X.v)) ty70 zzl (zza 44 (zI X.n) (zza 45 (zI 0) (zzb (zzt (zyn (I := fun aw S' u' => ∃ (i : Nat), (aw = X.n - i) ∧ (i ≤ X.n) ∧ (S' = St.of 120 [(1, .adr 1 0), (43, .v (X.v)), (44, zI X.n), (45, zI i)] [(1, ⟨72, [.int .i64 D.b, .int .i64 D.f, .int .i64 D.r, .int .i64 D.o, .int .i64 W.b, .int .i64 W.f, .int .i64 W.r, .int .i64 W.o, .int .i64 s, X.v, Y.v, .int .i64 q]⟩)]) ∧ (Ext ax u')) (fun m S u1 u2 e h => by obtain ⟨i, hm, p0, hS, hE⟩ := h; exact ⟨i, hm, p0, hS, hE.trans e⟩) _ yw ⟨0, rfl, Nat.zero_le _, rfl, (Ext.refl _)⟩ ?_))))))))
 rintro aw _ au ⟨i, aB, hi, rfl, ad⟩
 refine sq9 (zza 46 (zB (decide ((i : Int) < (X.n : Int)))) (zzb (zzd (zzu (b := decide ((i : Int) < (X.n : Int))) xj (fun ac => ?_) (fun ac => ?_)))))
 ·have qhb23 := of_decide_eq_true ac
  refine zzs (zzp ?_)
  refine zzd (zzt (sq9 (zza 47 (zI i) ?_)))
  obtain ⟨b24, al, ao⟩ := nodes_at (i := i) gA xq
  refine zya 48 (0 + i * 1) (n := X.n) (off := 0) (sz := 1) (i := (i : Int)) xq al xq xq sl70 (zym 49 [.slice (La.getD i sl0).a (La.getD i sl0).n (La.getD i sl0).c] (fun j hj => by cases j with | zero => exact ((ai.t (ae.t (ag.t (af.t ad)))).cell ao) | succ j => exact absurd hj zz) ty150 (zzk 4 ⟨150, [.slice none 0 0]⟩ (zza 3 (zI i) (zzj ⟨150, [.slice (La.getD i sl0).a (La.getD i sl0).n (La.getD i sl0).c]⟩ ty150 ?_))))
  refine zzb (zzd (zzd ?_))
  have hTi := aE i xq
  refine zzf (zza 50 (.adr 4 0) (zzi 51 (.v (.slice (La.getD i sl0).a (La.getD i sl0).n (La.getD i sl0).c)) ty148 zzl (zza 52 (zI (((La.getD i sl0).n : Nat) : Int)) (zza 53 (zB (decide ((64 : Int) < (((La.getD i sl0).n : Nat) : Int)))) (zzb (zzu (b := decide ((64 : Int) < (((La.getD i sl0).n : Nat) : Int))) xj (fun hb => ?_) (fun hb => ?_)))))))
  ·exact absurd hb (by rw [show (decide ((64 : Int) < (((La.getD i sl0).n : Nat) : Int))) = false from decide_eq_false xq]; decide)
  clear hb
  refine zzs (zzp ?_)
  refine sq9 (zza 54 (.adr 4 0) (zzi 55 (.v (.slice (La.getD i sl0).a (La.getD i sl0).n (La.getD i sl0).c)) ty148 zzl (zza 56 (zI (((La.getD i sl0).n : Nat) : Int)) (zza 57 (zI 0) (zzb (zzt (zyn (I := fun av S' u' => ∃ (j : Nat), (av = (La.getD i sl0).n - j) ∧ (j ≤ (La.getD i sl0).n) ∧ (S' = St.of 120 [(1, .adr 1 0), (3, zI i), (43, .v (X.v)), (44, zI X.n), (45, zI i), (55, .v (.slice (La.getD i sl0).a (La.getD i sl0).n (La.getD i sl0).c)), (56, zI (((La.getD i sl0).n : Nat) : Int)), (57, zI j)] [(1, ⟨72, [.int .i64 D.b, .int .i64 D.f, .int .i64 D.r, .int .i64 D.o, .int .i64 W.b, .int .i64 W.f, .int .i64 W.r, .int .i64 W.o, .int .i64 s, X.v, Y.v, .int .i64 q]⟩)]) ∧ (Ext au u')) (fun m S u1 u2 e h => by obtain ⟨j, hm, p0, hS, hE⟩ := h; exact ⟨j, hm, p0, hS, hE.trans e⟩) _ yw ⟨0, rfl, Nat.zero_le _, rfl, (Ext.refl _)⟩ ?_)))))))
  rintro av _ u25 ⟨j, aD, hj, rfl, ah⟩
  refine sq9 (zza 58 (zB (decide ((j : Int) < (((La.getD i sl0).n : Nat) : Int)))) (zzb (zzd (zzu (b := decide ((j : Int) < (((La.getD i sl0).n : Nat) : Int))) xj (fun aa => ?_) (fun aa => ?_)))))
  ·have qhb26 := of_decide_eq_true aa
   refine zzs (zzp ?_)
   refine zzd (zzt (sq9 ?_))
   obtain ⟨b27, ak, aj⟩ := terms_at (i := j) (T := (N.getD i [])) (gC i xq).1 xq
   refine zya 59 (0 + j * 2) (n := (La.getD i sl0).n) (off := 0) (sz := 2) (i := (j : Int)) xq ak xq xq sl148 (zym 60 ((N.getD i []).getD j tl0).cs (fun j hj => by have h9 := aj j hj; rw [List.getElem?_eq_getElem hj] at h9 ⊢; exact (ai.t (ae.t (ag.t (af.t (ad.trans ah))))).cell h9) ty147 ?_)
   refine zzk 6 ⟨147, [.int .i64 0, .int .i64 0]⟩ (zzj ⟨147, [.int .i64 (((N.getD i []).getD j tl0).f), .int .i64 (((N.getD i []).getD j tl0).c)]⟩ ty147 ?_)
   refine zzb (zzd (zzd ?_))
   have htj := (hok.ht i xq).2 j xq
   refine zzf (zza 61 (.adr 6 0) (zzi 62 (zI (((N.getD i []).getD j tl0).f)) ty3 zzl (zza 63 (zB (decide ((((N.getD i []).getD j tl0).f) < 0))) (zyq 64 (x := zB (decide ((((N.getD i []).getD j tl0).f) < 0))) (zB false) (by rw [show (decide ((((N.getD i []).getD j tl0).f) < 0)) = false from decide_eq_false xq]) (zza 65 (.adr 6 0) ?_ (hw := w1 3 false 64))))))
   refine zzi 66 (zI (((N.getD i []).getD j tl0).f)) ty3 zzl ?_ (hw := w1 3 false 64)
   refine zza 67 (.adr 1 8) ?_ (hw := w1 3 false 64)
   refine zzi 68 (zI s) ty3 zzl ?_ (hw := w1 3 false 64)
   refine zza 69 (zI i) ?_ (hw := w1 3 false 64)
   refine zyq 70 (x := zI (IntKind.i64.wrap ((s : Int) + (i : Int)))) (zI (s + i : Nat)) (eqI yq) ?_ (hw := w1 3 false 64)
   refine zza 71 (zB (decide (((s + i : Nat) : Int) < (((N.getD i []).getD j tl0).f)))) ?_ (hw := w1 3 false 64)
   refine zza 72 (zB (decide (((s + i : Nat) : Int) < (((N.getD i []).getD j tl0).f)))) (zzc 120 [(1, .adr 1 0), (3, zI i), (6, .adr 6 0), (43, .v (X.v)), (44, zI X.n), (45, zI i), (55, .v (.slice (La.getD i sl0).a (La.getD i sl0).n (La.getD i sl0).c)), (56, zI (((La.getD i sl0).n : Nat) : Int)), (57, zI j), (72, zB (decide (((s + i : Nat) : Int) < (((N.getD i []).getD j tl0).f))))] [(1, ⟨72, [.int .i64 D.b, .int .i64 D.f, .int .i64 D.r, .int .i64 D.o, .int .i64 W.b, .int .i64 W.f, .int .i64 W.r, .int .i64 W.o, .int .i64 s, X.v, Y.v, .int .i64 q]⟩), (6, ⟨147, [.int .i64 (((N.getD i []).getD j tl0).f), .int .i64 (((N.getD i []).getD j tl0).c)]⟩)] (zzu (b := decide (((s + i : Nat) : Int) < (((N.getD i []).getD j tl0).f))) xj (fun hb => ?_) (fun hb => ?_)))
   ·exact absurd hb (by rw [show (decide (((s + i : Nat) : Int) < (((N.getD i []).getD j tl0).f))) = false from decide_eq_false xq]; decide)
   clear hb
   refine zzs (zzp ?_)
   refine zzd (zzz [0, 1, 0, 4, 12, 28, 63, 127, 255, 511, 255, 1279, 4095, 8191, 16383] [(0, []), (1, []), (2, []), (3, []), (4, []), (5, []), (6, []), (7, []), (8, []), (9, []), (10, []), (11, []), (12, []), (13, []), (14, [])] xj xj (zza 73 (.adr 6 1) (zzi 74 (zI (((N.getD i []).getD j tl0).c)) ty3 zzl (zza 75 (.adr 1 4) (zza 76 (.adr 1 5) (zzi 77 (zI W.f) ty3 zzl (sy_shl 78 (k := .i64) (s := W.f) (Nt.p2i W.f) xq zw (shl_one xq xq) ?_)))))))
   refine zza 79 (zB ((((N.getD i []).getD j tl0).c) != (Nt.p2i W.f))) ?_
   rcases Bool.eq_false_or_eq_true ((((N.getD i []).getD j tl0).c) != (Nt.p2i W.f)) with hs29 | hs29
   ·refine zyq 80 (x := zB ((((N.getD i []).getD j tl0).c) != (Nt.p2i W.f))) (zB true) (by rw [hs29]) ?_
    have qhs29 := hs29
    simp at qhs29
    refine zza 81 (.adr 1 4) ?_ (hw := w1 7 true 80)
    refine zzi 82 (.v (W.v)) ty66 zze ?_ (hw := w1 7 true 80)
    refine zza 83 (.adr 6 1) ?_ (hw := w1 7 true 80)
    refine zzi 84 (zI (((N.getD i []).getD j tl0).c)) ty3 zzl ?_ (hw := w1 7 true 80)
    refine zzg 85 162 _ (fun _ _ aF aG => Post.mono (k_fxFitsG (W := W) (z := ((N.getD i []).getD j tl0).c) aG hWc) ?_) (hw := w1 7 true 80)
    rintro _ u31 aA rfl
    refine zza 86 (zB (!(Nt.fitB W (((N.getD i []).getD j tl0).c)))) ?_ (hw := w1 7 true 80)
    refine zza 87 (zB (!(Nt.fitB W (((N.getD i []).getD j tl0).c)))) (zzb (zzu (b := !(Nt.fitB W (((N.getD i []).getD j tl0).c))) xj (fun hb => ?_) (fun hb => ?_)))
    ·exact absurd hb (by rw [show (!(Nt.fitB W (((N.getD i []).getD j tl0).c))) = false from (by rw [(htj.2.2.resolve_left qhs29)]; rfl)]; decide)
    clear hb
    refine zzs (zzp ?_)
    refine zzf (zyq 88 (x := zI (IntKind.i64.wrap ((j : Int) + 1))) (zI (j + 1 : Nat)) (eqI yq) (zza 57 (zI (j + 1 : Nat)) (zzx ?_)))
    refine ⟨_, ?_, _, by exact zzv _ _ _, j + 1, rfl, by omega, rfl, (ah.t (aF.t aA.ext))⟩
    omega
   refine zyq 80 (x := zB ((((N.getD i []).getD j tl0).c) != (Nt.p2i W.f))) (zB false) (by rw [hs29]) ?_
   have qhs29 := hs29
   simp at qhs29
   refine zzn 81 (uw 7 true false 80) (zzn 82 (uw 7 true false 80) (zzn 83 (uw 7 true false 80) (zzn 84 (uw 7 true false 80) (zzn 85 (uw 7 true false 80) (zzn 86 (uw 7 true false 80) (zza 87 (zB false) (zzb (zys xj (zzs (zzp ?_))))))))))
   refine zzf (zyq 88 (x := zI (IntKind.i64.wrap ((j : Int) + 1))) (zI (j + 1 : Nat)) (eqI yq) (zza 57 (zI (j + 1 : Nat)) (zzx ?_)))
   refine ⟨_, ?_, _, by exact zzv _ _ _, j + 1, rfl, by omega, rfl, ah⟩
   omega
  have qhb26 := of_decide_eq_false aa
  refine zyc (zzp (zzf (zyq 89 (x := zI (IntKind.i64.wrap ((i : Int) + 1))) (zI (i + 1 : Nat)) (eqI yq) (zza 45 (zI (i + 1 : Nat)) (zzx ?_)))))
  refine ⟨_, ?_, _, by exact zzv _ _ _, i + 1, rfl, by omega, rfl, (ad.trans ah)⟩
  omega
 have qhb23 := of_decide_eq_false ac
 refine zyc (zzp (sq9 (zza 90 (.adr 1 8) (zzi 91 (zI s) ty3 zzl (zza 92 (.adr 1 9) (zzi 93 (.v (X.v)) ty70 zzl (zza 94 (zI X.n) (zyq 95 (x := zI (IntKind.i64.wrap ((s : Int) + (X.n : Int)))) (zI (s + X.n : Nat)) (eqI yq) (zza 7 (zI (s + X.n : Nat)) (zzb (zzd ?_)))))))))))
 refine sq9 (zza 96 (.adr 1 10) (zzi 97 (.v (Y.v)) ty22 zzl (zza 98 (zI Y.n) (zza 99 (zI 0) (zzb (zzt (zyn (I := fun aq S' u' => ∃ (k : Nat), (aq = Y.n - k) ∧ (k ≤ Y.n) ∧ (S' = St.of 120 [(1, .adr 1 0), (7, zI (s + X.n : Nat)), (97, .v (Y.v)), (98, zI Y.n), (99, zI k)] [(1, ⟨72, [.int .i64 D.b, .int .i64 D.f, .int .i64 D.r, .int .i64 D.o, .int .i64 W.b, .int .i64 W.f, .int .i64 W.r, .int .i64 W.o, .int .i64 s, X.v, Y.v, .int .i64 q]⟩)]) ∧ (Ext au u')) (fun m S u1 u2 e h => by obtain ⟨k, hm, p0, hS, hE⟩ := h; exact ⟨k, hm, p0, hS, hE.trans e⟩) _ yw ⟨0, rfl, Nat.zero_le _, rfl, (Ext.refl _)⟩ ?_)))))))
 rintro aq _ u34 ⟨k, aH, hk, rfl, am⟩
 refine sq9 (zza 100 (zB (decide ((k : Int) < (Y.n : Int)))) (zzb (zzd (zzu (b := decide ((k : Int) < (Y.n : Int))) xj (fun ab => ?_) (fun ab => ?_)))))
 ·have qhb35 := of_decide_eq_true ab
  refine zzs (zzp ?_)
  refine zzd (zzt (sq9 ?_))
  have hl36 := ((hYr.ext (ai.t (ae.t (ag.t (af.t (ad.trans am))))))).1
  obtain ⟨b36, ar, ap, an⟩ := ints_at (hYr.ext (ai.t (ae.t (ag.t (af.t (ad.trans am)))))) (i := k) xq
  have hz36 := ints_bd hbx xq k
  refine zya 101 (ar + k * 1) (n := Y.n) (off := ar) (sz := 1) (i := (k : Int)) xq ap xq xq sl22 (zyl 102 (.int .i64 (nx.getD k 0)) an ty3 (zza 9 (zI (nx.getD k 0)) (zzb (zzd ?_))))
  have hrj := hok.hr k xq
  refine zzf (zza 103 (zI (nx.getD k 0)) (zza 104 (zB (decide ((nx.getD k 0) < 0))) (zyq 105 (x := zB (decide ((nx.getD k 0) < 0))) (zB false) (by rw [show (decide ((nx.getD k 0) < 0)) = false from decide_eq_false xq]) (zza 106 (zI (nx.getD k 0)) ?_ (hw := w1 2 false 105)))))
  refine zza 107 (zI (s + X.n : Nat)) ?_ (hw := w1 2 false 105)
  refine zza 108 (zB (decide (((s + X.n : Nat) : Int) < (nx.getD k 0)))) ?_ (hw := w1 2 false 105)
  refine zza 109 (zB (decide (((s + X.n : Nat) : Int) < (nx.getD k 0)))) (zzb (zzu (b := decide (((s + X.n : Nat) : Int) < (nx.getD k 0))) xj (fun hb => ?_) (fun hb => ?_)))
  ·exact absurd hb (by rw [show (decide (((s + X.n : Nat) : Int) < (nx.getD k 0))) = false from decide_eq_false xq]; decide)
  clear hb
  refine zzs (zzp ?_)
  refine zzf (zyq 110 (x := zI (IntKind.i64.wrap ((k : Int) + 1))) (zI (k + 1 : Nat)) (eqI yq) (zza 99 (zI (k + 1 : Nat)) (zzx ?_)))
  refine ⟨_, ?_, _, by exact zzv _ _ _, k + 1, rfl, by omega, rfl, am⟩
  omega
 have qhb35 := of_decide_eq_false ab
 refine zyc (zzp (sq9 (zza 111 (.adr 1 11) (zzi 112 (zI q) ty3 zzl (zza 113 (zB (decide ((0 : Int) ≤ q))) (zyq 114 (x := zB (decide ((0 : Int) ≤ q))) (zB true) (by rw [show (decide ((0 : Int) ≤ q)) = true from decide_eq_true xq]) (zza 115 (.adr 1 11) ?_ (hw := w1 3 true 114))))))))
 refine zzi 116 (zI q) ty3 zzl ?_ (hw := w1 3 true 114)
 refine zza 117 (zI (s + X.n : Nat)) ?_ (hw := w1 3 true 114)
 refine zza 118 (zB (decide (q ≤ ((s + X.n : Nat) : Int)))) ?_ (hw := w1 3 true 114)
 refine zza 119 (zB (decide (q ≤ ((s + X.n : Nat) : Int)))) (zza 2 (zB (decide (q ≤ ((s + X.n : Nat) : Int)))) (zzb (zzo (ret0 [.bool (decide (q ≤ ((s + X.n : Nat) : Int)))] ⟨zzq, trivial⟩ fun u39 e40 => ?_))))
 show Value.bool _ = Value.bool _
 congr 1
 exact decide_eq_true xq
theorem take_rcsY {L : List RL} {X : List Value} {n : Nat} (h : L.length = n) : (rcs L ++ X).take (n * 3) = rcs L := by
 rw [List.take_append_of_le_length (by rw [zyy, h]; exact Nat.le_refl _), List.take_of_length_le (by rw [zyy, h]; exact Nat.le_refl _)]
namespace Nt
def flBl (n : Nat) (A : Nat → Nat → Rat) : List Rat := (List.range (n + 1)).map (flC n A)
def flAt (n : Nat) (A : Nat → Nat → Rat) (B C : Nat → Rat) (k : Nat) : Rat := if k = 0 then 0 else su (fun i => C i * su (fun j => flM n A (k - 1) i j * B j) n) n
def flAl (n : Nat) (A : Nat → Nat → Rat) (B C : Nat → Rat) : List Rat := (List.range (n + 1)).map (flAt n A B C)
theorem flR_len {n : Nat} {f : Nat → Rat} : ((List.range n).map f).length = n := by simp
theorem flR_at {n k : Nat} {f : Nat → Rat} (h : k < n) : ((List.range n).map f).getD k 0 = f k := by
 rw [List.getD_eq_getElem?_getD, List.getElem?_map, List.getElem?_range h]; rfl
theorem flBl_len {n : Nat} {A : Nat → Nat → Rat} : (flBl n A).length = n + 1 := flR_len
theorem flAl_len {n : Nat} {A : Nat → Nat → Rat} {B C : Nat → Rat} : (flAl n A B C).length = n + 1 := flR_len
section
variable {n i a b : Nat} {q : Rat} {A : Nat → Nat → Rat} {T : Nat → Nat → Rat} {c : Rat}
theorem d0 (hv : (if a = b ∧ a < i + 1 then some (1 : Rat) else some 0) = some q) : up2 (fun a b => if a = b ∧ a < i then some (1 : Rat) else some 0) i i ((1 : Int) : Rat) a b = some q := by
 unfold up2
 dsimp only
 by_cases h0 : a = i ∧ b = i
 ·rw [if_pos h0]; rw [if_pos xq] at hv; exact hv
 rw [if_neg h0]
 by_cases h1 : a = b ∧ a < i
 ·rw [if_pos h1]; rw [if_pos xq] at hv; exact hv
 rw [if_neg h1]; rw [if_neg xq] at hv; exact hv
theorem d1 (ha : a < i) (hv : some (mI a b) = some q) : (if a = b ∧ a < i then some (1 : Rat) else some 0) = some q := by
 unfold mI at hv
 by_cases h : a = b
 ·rw [if_pos ⟨h, ha⟩]; rw [if_pos h] at hv; exact hv
 rw [if_neg (fun e => h e.1)]; rw [if_neg h] at hv; exact hv
theorem d2 (hv : some (T a b + if a = b ∧ a < i + 1 then c else 0) = some q) : up2 (fun a b => some (T a b + if a = b ∧ a < i then c else 0)) i i (T i i + c) a b = some q := by
 unfold up2
 dsimp only
 by_cases h0 : a = i ∧ b = i
 ·rw [if_pos h0]; rw [if_pos xq, h0.1, h0.2] at hv; exact hv
 rw [if_neg h0]
 by_cases h1 : a = b ∧ a < i
 ·rw [if_pos h1]; rw [if_pos xq] at hv; exact hv
 rw [if_neg h1]; rw [if_neg xq] at hv; exact hv
theorem d3 (ha : a < n) (hi : i = n) {k : Nat} (hv : some (flM n A (k + 1) a b) = some q) : some (mM n A (flM n A k) a b + if a = b ∧ a < i then flN n (mM n A (flM n A k)) k else 0) = some q := by
 rw [← hv]
 show _ = some (mM n A (flM n A k) a b + if a = b then flN n (mM n A (flM n A k)) k else 0)
 by_cases h : a = b
 ·rw [if_pos h, if_pos ⟨h, by omega⟩]
 rw [if_neg h, if_neg (fun e => h e.1)]
end
end Nt
set_option maxHeartbeats 2000000 in
theorem k_nSound {u w : World} {x y z : Sl} {r : RL} {n K : Nat} {Ra : List Sl} {A : Nat → Nat → Rat} {B C : Nat → Rat} {D0 : Rat} (d : Dat u w) (hA : MatV u x n Ra (fun i => rowL n (A i)) K) (hB : PolN u y (rowL n B) K) (hC : PolN u z (rowL n C) K) (hr : RatN u r D0 K) (hn : n ≤ 16) : Calls Tryz.prog 108 #[.agg #[x.v, y.v, z.v, .bool r.s, .slice r.m.a r.m.n r.m.c, .slice r.d.a r.d.n r.d.c]] w (Post u w fun v _ => v = .bool true) := by
 obtain ⟨xa, xn, xc⟩ := x
 obtain rfl : n = xn := hA.1.symm
 have hly : y.n = n := hB.len.trans rowL_len
 have hlz : z.n = n := hC.len.trans rowL_len
 refine zzm (args := [.agg #[.slice xa n xc, y.v, z.v, .bool r.s, r.m.v, r.d.v]]) Tryz.func108 rfl Tryz.ntmps108 (rs := [.tmp 2]) Tryz.results108 (le_b rfl) (le_b rfl) d ?_
 refine sq9 (zzk 1 ⟨77, [.slice xa n xc, y.v, z.v] ++ r.cs⟩ (zza 2 (zB false) (zzb (sq9 (zza 6 (.adr 1 0) (zzi 7 (.v (.slice xa n xc)) ty75 zzl (zza 8 (zI n) (zza 3 (zI n) (zzb (zzd (sq9 ?_)))))))))))
 refine zza 9 (zI n) (zza 10 (zB (decide ((64 : Int) < (n : Int)))) (zyq 11 (x := zB (decide ((64 : Int) < (n : Int)))) (zB false) (by rw [show (decide ((64 : Int) < (n : Int))) = false from decide_eq_false xq]) (zza 12 (.adr 1 1) ?_ (hw := w1 2 false 11))))
 refine zzi 13 (.v (y.v)) ty26 zzl ?_ (hw := w1 2 false 11)
 refine zza 14 (zI y.n) ?_ (hw := w1 2 false 11)
 refine zza 15 (zI n) ?_ (hw := w1 2 false 11)
 refine zza 16 (zB ((y.n : Int) != (n : Int))) ?_ (hw := w1 2 false 11)
 refine zza 17 (zB ((y.n : Int) != (n : Int))) (zyq 18 (x := zB ((y.n : Int) != (n : Int))) (zB false) (by rw [show ((y.n : Int) != (n : Int)) = false from (by first | (rw [hly]; exact bne_self_eq_false _) | (rw [hlz]; exact bne_self_eq_false _) | (rw [hlR]; exact bne_self_eq_false _))]) (zza 19 (.adr 1 2) ?_ (hw := w1 9 false 18)))
 refine zzi 20 (.v (z.v)) ty26 zzl ?_ (hw := w1 9 false 18)
 refine zza 21 (zI z.n) ?_ (hw := w1 9 false 18)
 refine zza 22 (zI n) ?_ (hw := w1 9 false 18)
 refine zza 23 (zB ((z.n : Int) != (n : Int))) ?_ (hw := w1 9 false 18)
 refine zza 24 (zB ((z.n : Int) != (n : Int))) (zzb (zzu (b := (z.n : Int) != (n : Int)) xj (fun hb => ?_) (fun hb => ?_)))
 ·exact absurd hb (by rw [show ((z.n : Int) != (n : Int)) = false from (by first | (rw [hly]; exact bne_self_eq_false _) | (rw [hlz]; exact bne_self_eq_false _) | (rw [hlR]; exact bne_self_eq_false _))]; decide)
 clear hb
 refine zzs (zzp ?_)
 refine zzd (sq9 (zza 25 (.adr 1 0) (zzi 26 (.v (.slice xa n xc)) ty75 zzl (zza 27 (zI n) (zza 28 (zI 0) (zzb (zzt (zyn (I := fun ae S' u' => ∃ (i : Nat), (ae = n - i) ∧ (i ≤ n) ∧ (S' = St.of 37 [(3, zI n), (26, .v (.slice xa n xc)), (27, zI n), (28, zI i)] []) ∧ (Ext u u')) (fun m S u1 u2 e h => by obtain ⟨i, hm, p0, hS, hE⟩ := h; exact ⟨i, hm, p0, hS, hE.trans e⟩) _ yw ⟨0, rfl, Nat.zero_le _, rfl, (Ext.refl _)⟩ ?_))))))))
 rintro ae _ af ⟨i, ag, hi, rfl, ab⟩
 refine sq9 (zza 29 (zB (decide ((i : Int) < (n : Int)))) (zzb (zzd (zzu (b := decide ((i : Int) < (n : Int))) xj (fun aa => ?_) (fun aa => ?_)))))
 ·have qhb14 := of_decide_eq_true aa
  refine zzs (zzp ?_)
  refine zzd (zzt (sq9 ?_))
  have hn15 := ((hA.ext ab)).1
  obtain ⟨b15, ac, ad⟩ := ((hA.ext ab)).2.1 i xq
  refine zya 30 (0 + i * 1) (n := n) (off := 0) (sz := 1) (i := (i : Int)) xq ac xq yy sl75 ?_
  have ah : PolN af (Ra.getD i sl0) (rowL n (A i)) K := ((hA.ext ab)).2.2 i xq
  refine zyl 31 (.slice (Ra.getD i sl0).a (Ra.getD i sl0).n (Ra.getD i sl0).c) ad ty26 (zza 5 (.v (.slice (Ra.getD i sl0).a (Ra.getD i sl0).n (Ra.getD i sl0).c)) (zzb (zzd ?_)))
  have hlR : (Ra.getD i sl0).n = n := (hA.2.2 i xq).len.trans rowL_len
  refine zzf (zza 32 (.v (.slice (Ra.getD i sl0).a (Ra.getD i sl0).n (Ra.getD i sl0).c)) (zza 33 (zI (((Ra.getD i sl0).n : Nat) : Int)) (zza 34 (zI n) (zza 35 (zB ((((Ra.getD i sl0).n : Nat) : Int) != (n : Int))) (zzc 37 [(3, zI n), (26, .v (.slice xa n xc)), (27, zI n), (28, zI i), (35, zB ((((Ra.getD i sl0).n : Nat) : Int) != (n : Int)))] [] (zzu (b := (((Ra.getD i sl0).n : Nat) : Int) != (n : Int)) xj (fun hb => ?_) (fun hb => ?_)))))))
  ·exact absurd hb (by rw [show ((((Ra.getD i sl0).n : Nat) : Int) != (n : Int)) = false from (by first | (rw [hly]; exact bne_self_eq_false _) | (rw [hlz]; exact bne_self_eq_false _) | (rw [hlR]; exact bne_self_eq_false _))]; decide)
  clear hb
  refine zzs (zzp ?_)
  refine zzf (zyq 36 (x := zI (IntKind.i64.wrap ((i : Int) + 1))) (zI (i + 1 : Nat)) (eqI yq) (zza 28 (zI (i + 1 : Nat)) (zzx ?_)))
  refine ⟨_, ?_, _, by exact zzv _ _ _, i + 1, rfl, by omega, rfl, ab⟩
  omega
 have qhb14 := of_decide_eq_false aa
 refine zyc (zzp (sq9 (zza 2 (zB true) (zzb (zzo (ret0 [.bool true] ⟨zzq, trivial⟩ fun u17 e18 => ?_))))))
 rfl
set_option maxHeartbeats 16000000 in
theorem k_nTransfer {u w : World} {x y z : Sl} {r : RL} {n K : Nat} {Ra : List Sl} {A : Nat → Nat → Rat} {B C : Nat → Rat} {D0 : Rat} {Dd a : Nat} (d : Dat u w) (hA : MatV u x n Ra (fun i => rowL n (A i)) K) (hB : PolN u y (rowL n B) K) (hC : PolN u z (rowL n C) K) (hr : RatN u r D0 K) (hK : K ≤ 2000) (hF : Nt.FlB n A B C Dd a) (ha : a ≤ 1920) : Calls Tryz.prog 43 #[.agg #[x.v, y.v, z.v, .bool r.s, .slice r.m.a r.m.n r.m.c, .slice r.d.a r.d.n r.d.c]] w (Post u w fun v u' => ∃ p q : Sl, v = .tuple #[.agg #[p.v, q.v], .int .i64 0] ∧ PolN u' p (Nt.trimQ (Nt.addQ (Nt.flAl n A B C) (Nt.trimQ ((Nt.flBl n A).map (· * D0))))) 10000 ∧ PolN u' q (Nt.trimQ (Nt.flBl n A)) 10000) := by
 obtain ⟨xa, xn, xc⟩ := x
 obtain rfl : n = xn := hA.1.symm
 have hly : y.n = n := hB.len.trans rowL_len
 have hlz : z.n = n := hC.len.trans rowL_len
 have hn16 := hF.hn
 refine zzm (args := [.agg #[.slice xa n xc, y.v, z.v, .bool r.s, r.m.v, r.d.v]]) Tryz.func43 rfl Tryz.ntmps43 (rs := [.cell 2 81, .tmp 3]) Tryz.results43 (le_b rfl) (le_b rfl) d ?_
 refine sq9 (zzk 1 ⟨77, [.slice xa n xc, y.v, z.v] ++ r.cs⟩ (zzk 2 ⟨81, [.slice none 0 0, .slice none 0 0]⟩ (zza 3 (zI 0) (zzb (zzd (sq9 (zzi 16 (.v (.agg #[.slice xa n xc, y.v, z.v, .bool r.s, r.m.v, r.d.v])) ty77 zze (zzg 17 108 _ fun _ _ aR dr => Post.mono ((show Calls _ _ #[_] _ _ from k_nSound (x := ⟨xa, n, xc⟩) dr (hA.ext aR) (hB.ext aR) (hC.ext aR) (hr.ext aR) xq)) ?_))))))))
 rintro _ u12 cU rfl
 refine zza 18 (zB false) (zzb (zys xj (zzs (zzp ?_))))
 refine sq9 (zza 20 (.adr 1 0) (zzi 21 (.v (.slice xa n xc)) ty75 zzl (zza 22 (zI n) (zza 4 (zI n) (zzb (zzd (sq9 (zza 23 (zI n) (zza 24 (zB (decide ((16 : Int) < (n : Int)))) (zzb (zzu (b := decide ((16 : Int) < (n : Int))) xj (fun hb => ?_) (fun hb => ?_))))))))))))
 ·exact absurd hb (by rw [show (decide ((16 : Int) < (n : Int))) = false from decide_eq_false xq]; decide)
 clear hb
 refine zzs (zzp ?_)
 refine sq9 (zzg 26 109 _ fun _ _ c4 dG => Post.mono (k_ratOf dG (z := 1) xq xq) ?_)
 rintro _ u18 cN ⟨bM, rfl, dH⟩
 refine sy_lit 27 ⟨32, bM.cs⟩ 1 ?_
 refine zza 5 (.slc 27 0 1 1) (zzb (sq9 (zzg 28 109 _ fun _ _ bY dA => Post.mono (k_ratOf dA (z := 0) xq xq) ?_)))
 rintro _ u24 cK ⟨bL, rfl, dD⟩
 refine sy_lit 29 ⟨32, bL.cs⟩ 1 ?_
 refine zza 6 (.slc 29 0 1 1) (zzb (sq9 (zza 30 (zI n) (zzg 31 107 _ fun _ _ bN dE => Post.mono (k_nZero (n := n) dE xq) ?_))))
 rintro _ c9 cE ⟨xz, yB, yC, rz, R0, L0, rfl, cW, dk, dP, dB, hr0⟩
 have hSf := SysE.front cW
 have hLf : (L0.take n).length = n := by rw [List.length_take]; omega
 have hxz := SysE.xn cW
 refine zza 32 (.v (xz.v)) (zza 7 (.v (xz.v)) (zzb (zzd (zzd ?_))))
 have hSz : SysE 26 32 u.heap.size c9 xz n (R0.take n) (L0.take n) (fun _ => n) (fun a b => if a = b ∧ a < 0 then some (1 : Rat) else some 0) 2000 := SysE.congr (SysE.more (SysE.low hSf (Ext.size (aR.t (cU.t (c4.t (cN.t (bY.t (cK.t bN)))))))) xq) (fun a ha => rfl) (fun a b q ha hb hv => by rw [if_neg xq] at hv; exact hv)
 refine zzf (zza 33 (zI n) (zza 34 (zI 0) (zzb (zzt (zyn (I := fun cB S' u' => ∃ (i : Nat) (Lz : List (List RL)), (cB = n - i) ∧ (i ≤ n) ∧ (Lz.length = n) ∧ (S' = St.of 130 [(1, .adr 1 0), (2, .adr 2 0), (4, zI n), (5, .slc 27 0 1 1), (6, .slc 29 0 1 1), (7, .v (xz.v)), (33, zI n), (34, zI i)] [(1, ⟨77, [.slice xa n xc, y.v, z.v] ++ r.cs⟩), (2, ⟨81, [.slice none 0 0, .slice none 0 0]⟩), (27, ⟨32, bM.cs⟩), (29, ⟨32, bL.cs⟩)]) ∧ (Ext u u') ∧ (SysE 26 32 u.heap.size u' xz n (R0.take n) Lz (fun _ => n) (fun a b => if a = b ∧ a < i then some (1 : Rat) else some 0) 2000) ∧ (RatN u' bM ((1 : Int) : Rat) 2) ∧ (RatN u' bL ((0 : Int) : Rat) 2)) (fun m S u1 u2 e h => by obtain ⟨i, Lz, hm, p0, p1, hS, hE, f0, f1, f2⟩ := h; exact ⟨i, Lz, hm, p0, p1, hS, hE.trans e, f0.ext e, f1.ext e, f2.ext e⟩) _ yw ⟨0, (L0.take n), rfl, Nat.zero_le _, hLf, rfl, (aR.t (cU.t (c4.t (cN.t (bY.t (cK.t (bN.t cE.ext))))))), hSz, (dH.ext (bY.t (cK.t (bN.t cE.ext)))), (dD.ext (bN.t cE.ext))⟩ ?_)))))
 rintro cB _ u31 ⟨i, Lz, bw, hi, hLz, rfl, c5, z0, z1, z2⟩
 replace bw : cB + i = n := by omega
 refine sq9 (zza 35 (zB (decide ((i : Int) < (n : Int)))) (zzb (zzd (zzu (b := decide ((i : Int) < (n : Int))) xj (fun aO => ?_) (fun aO => ?_)))))
 ·have qhb32 := of_decide_eq_true aO
  refine zzs (zzp ?_)
  refine zzd (zzt (sq9 (zza 36 (zI i) (zza 8 (zI i) (zzb (sw_anyC [0, 0, 3, 7, 0, 0, 63, 127] [(0, []), (1, []), (2, []), (3, []), (4, []), (5, [])] [(6, []), (7, [])] xj xj xj ?_))))))
  refine zza 37 (.v (xz.v)) (zza 38 (zI i) ?_)
  have hq33 := z0
  obtain ⟨b33, cy, cF⟩ := SysE.cell (i := i) hq33 xq
  have hn33 := SysE.xn hq33
  refine zya 39 (0 + i * 1) (n := xz.n) (off := 0) (sz := 1) (i := (i : Int)) xq cy xq xq sl75 (zyl 40 (.slice ((R0.take n).getD i sl0).a ((R0.take n).getD i sl0).n ((R0.take n).getD i sl0).c) cF ty26 (zza 41 (zI i) (zzg 42 109 _ fun _ _ aY dx => Post.mono (k_ratOf dx (z := 1) xq xq) ?_)))
  rintro _ u37 be ⟨bo, rfl, dd⟩
  refine zzx ?_
  have hq40 := (SysE.ext z0 (aY.t be.ext))
  have cm : (Lz.getD i []).length = n := (SysE.wid hq40 i (by rw [hLz]; omega)).trans rfl
  have hr40 := SysE.row hq40 i (by rw [hLz]; omega)
  have hz40 := MutQ.rown hr40
  obtain ⟨b40, bC, dF⟩ := MutQ.el1 (j := i) hr40 (by rw [cm]; omega)
  refine zya 43 (0 + i * 3) (n := ((R0.take n).getD i sl0).n) (off := 0) (sz := 3) (i := (i : Int)) xq bC xq xq sl26 ?_
  have ho41 := (SysE.ext z0 (aY.t be.ext))
  have bG : (Lz.getD i []).length = n := (SysE.wid ho41 i (by rw [hLz]; omega)).trans rfl
  have hy41 := SysE.row ho41 i (by rw [hLz]; omega)
  refine sy_storeQ (v := bo.v) (off := 0 + i * 3) (n := 3) ((R0.take n).getD i sl0) hy41 (MutQ.mayA hy41 (Ext.size (Ext.refl _))) bC ty32 (by rw [zyy, bG]; omega) (nu_rl bo) (fun dt bW ap => ?_)
  have b3 : MutQ (1 * 3) 32 u.heap.size dt ((R0.take n).getD i sl0) (rcs ((Lz.getD i []).set i bo)) := by rw [← zyx (off := 0 + i * 3) (by rw [bG]; omega) xq]; exact bW
  have eX41r := ExtX.root ap (MutQ.mutL hy41) (c5.t (aY.t be.ext))
  have hS41 := SysE.store (i := i) (j := i) (r := bo) (q := ((1 : Int) : Rat)) yz ho41 (by rw [hLz]; omega) (Nat.lt_of_lt_of_eq (show i < n by omega) (Eq.symm rfl)) b3 ap (RatN.more (K := 2) dd xq)
  obtain ⟨c0, bf⟩ : ∃ Q9, Lz.set i ((Lz.getD i []).set i bo) = Q9 := ⟨_, rfl⟩
  rewrite [bf] at hS41
  have cj : c0.length = n := by rw [← bf, List.length_set]; exact hLz
  have hkr1641 := MutQ.keep hy41 ap (z1.ext (aY.t be.ext))
  have hkr2241 := MutQ.keep hy41 ap (z2.ext (aY.t be.ext))
  refine zzx ?_
  refine zzp (zzf (zyq 44 (x := zI (IntKind.i64.wrap ((i : Int) + 1))) (zI (i + 1 : Nat)) (eqI yq) (zza 34 (zI (i + 1 : Nat)) (zzx ?_))))
  refine ⟨_, ?_, _, by exact zzv _ _ _, i + 1, c0, rfl, by omega, cj, rfl, eX41r, (SysE.congr hS41 (fun a ha => rfl) (fun a b q _ _ hv => Nt.d0 hv)), hkr1641, hkr2241⟩
  omega
 have qhb32 := of_decide_eq_false aO
 refine zyc ?_
 clear bw
 refine zzp (zzd (zzd ?_))
 have hin : n = i := by omega
 subst hin
 refine sw_ren (r := 5) (t := 27) 120 [5, 27] xw xj zk zk xj xj ?_
 refine sw_ren (r := 6) (t := 29) 73 [6, 29] xw xj zk zk xj xj ?_
 refine zzf (zza 9 (zI 1) (zzb (zzt (zyn (I := fun bQ S' u' => ∃ (k : Nat) (xm : Sl) (Rm : List Sl) (Lm : List (List RL)) (Lb : List RL) (Xb : List Value) (cb : Nat) (La : List RL) (Xa : List Value) (ca : Nat), (bQ = n - k) ∧ (k ≤ n) ∧ (Lm.length = n) ∧ (Lb.length = k + 1) ∧ ((rcs Lb ++ Xb).length = cb * 3) ∧ (k + 1 ≤ cb) ∧ (cb ≤ maxLen) ∧ (La.length = k + 1) ∧ ((rcs La ++ Xa).length = ca * 3) ∧ (k + 1 ≤ ca) ∧ (ca ≤ maxLen) ∧ (S' = St.of 130 [(1, .adr 1 0), (2, .adr 2 0), (4, zI n), (5, .slc 120 0 (k + 1) cb), (6, .slc 73 0 (k + 1) ca), (7, .v (xm.v)), (9, zI (k + 1 : Nat))] [(1, ⟨77, [.slice xa n xc, y.v, z.v] ++ r.cs⟩), (2, ⟨81, [.slice none 0 0, .slice none 0 0]⟩), (73, ⟨32, rcs La ++ Xa⟩), (120, ⟨32, rcs Lb ++ Xb⟩)]) ∧ (Ext u u') ∧ (SysE 26 32 u.heap.size u' xm n Rm Lm (fun _ => n) (fun a b => some (Nt.flM n A k a b)) 2000) ∧ (RatsN u' Lb ((Nt.flBl n A).take (k + 1)) 2000) ∧ (RatsN u' La ((Nt.flAl n A B C).take (k + 1)) 2000)) (fun m S u1 u2 e h => by obtain ⟨k, xm, Rm, Lm, Lb, Xb, cb, La, Xa, ca, hm, p0, p1, p2, p3, p4, p5, p6, p7, p8, p9, hS, hE, f0, f1, f2⟩ := h; exact ⟨k, xm, Rm, Lm, Lb, Xb, cb, La, Xa, ca, hm, p0, p1, p2, p3, p4, p5, p6, p7, p8, p9, hS, hE.trans e, f0.ext e, f1.ext e, f2.ext e⟩) _ yw ⟨0, xz, (R0.take n), Lz, [bM], [], 1, [bL], [], 1, rfl, Nat.zero_le _, hLz, rfl, rfl, (Nat.le_refl _), yv, rfl, rfl, (Nat.le_refl _), yv, rfl, c5, (SysE.congr z0 (fun a ha => rfl) (fun a b q ha hb hv => Nt.d1 xq hv)), (app_first (RatN.more (K := 2) z1 xq) (by rw [Nt.flBl_len]; omega) (by unfold Nt.flBl; rw [Nt.flR_at xq]; rfl)), (app_first (RatN.more (K := 2) z2 xq) (by rw [Nt.flAl_len]; omega) (by unfold Nt.flAl; rw [Nt.flR_at xq]; rfl))⟩ ?_))))
 rintro bQ _ cS ⟨k, xm, Rm, Lm, Lb, Xb, cb, La, Xa, ca, a7, hk, hLm, hLb, hcb, hleb, hmxb, hLa, hca, hlea, hmxa, rfl, aQ, o0, o1, o2⟩
 replace a7 : bQ + k = n := by omega
 (try clear dk); (try clear dP); (try clear dB); (try clear hLf); (try clear hxz); (try clear hLz)
 have hxm := SysE.xn o0
 have hMv : MatV cS xm n Rm (fun i => rowL n (Nt.flM n A k i)) 2000 := SysE.matV (f := Nt.flM n A k) o0 (fun i j _ _ => rfl)
 refine zzd (sq9 (zza 45 (zI (k + 1 : Nat)) (zza 46 (zI n) (zza 47 (zB (decide (((k + 1 : Nat) : Int) ≤ (n : Int)))) (zzb (zzu (b := decide (((k + 1 : Nat) : Int) ≤ (n : Int))) xj (fun aK => ?_) (fun aK => ?_)))))))
 ·have qhb43 := of_decide_eq_true aK
  refine zzs (zzp ?_)
  refine zzd (zzt (sq9 (zza 50 (zI n) (sy_make 51 (T := 26) (E := 32) (z := .agg #[.bool false, .slice none 0 0, .slice none 0 0]) (size := 3) (bytes := 56) n (rcs (List.replicate n rl0)) xj xj rfl rfl xq yv (made_rcs _) ?_))))
  refine zza 10 (.slc 51 0 n n) (zzc 130 [(1, .adr 1 0), (2, .adr 2 0), (4, zI n), (5, .slc 120 0 (k + 1) cb), (6, .slc 73 0 (k + 1) ca), (7, .v (xm.v)), (9, zI (k + 1 : Nat)), (10, .slc 51 0 n n)] [(1, ⟨77, [.slice xa n xc, y.v, z.v] ++ r.cs⟩), (2, ⟨81, [.slice none 0 0, .slice none 0 0]⟩), (51, ⟨32, rcs (List.replicate n rl0)⟩), (73, ⟨32, rcs La ++ Xa⟩), (120, ⟨32, rcs Lb ++ Xb⟩)] (zzd (sq9 (zza 52 (zI n) (zza 53 (zI 0) (zzb (zzt (zyn (I := fun b7 S' u' => ∃ (i : Nat) (L : List RL), (b7 = n - i) ∧ (i ≤ n) ∧ (L.length = n) ∧ (S' = St.of 130 [(1, .adr 1 0), (2, .adr 2 0), (4, zI n), (5, .slc 120 0 (k + 1) cb), (6, .slc 73 0 (k + 1) ca), (7, .v (xm.v)), (9, zI (k + 1 : Nat)), (10, .slc 51 0 n n), (52, zI n), (53, zI i)] [(1, ⟨77, [.slice xa n xc, y.v, z.v] ++ r.cs⟩), (2, ⟨81, [.slice none 0 0, .slice none 0 0]⟩), (51, ⟨32, rcs L⟩), (73, ⟨32, rcs La ++ Xa⟩), (120, ⟨32, rcs Lb ++ Xb⟩)]) ∧ (Ext cS u') ∧ (RatsN u' (L.take i) ((rowL n (fun i => Nt.su (fun l => Nt.flM n A k i l * B l) n)).take i) 2000)) (fun m S u1 u2 e h => by obtain ⟨i, L, hm, p0, p1, hS, hE, f0⟩ := h; exact ⟨i, L, hm, p0, p1, hS, hE.trans e, f0.ext e⟩) _ yw ⟨0, List.replicate n rl0, rfl, by omega, by simp, rfl, (Ext.refl _), RatsN.tnil _ _ _ _⟩ ?_))))))))
  rintro b7 _ da ⟨i, L, bc, hi, hL, rfl, ah, hR⟩
  replace bc : b7 + i = n := by omega
  refine sq9 (zza 54 (zB (decide ((i : Int) < (n : Int)))) (zzb (zzd (zzu (b := decide ((i : Int) < (n : Int))) xj (fun aD => ?_) (fun aD => ?_)))))
  ·have qhb45 := of_decide_eq_true aD
   refine zzs (zzp ?_)
   refine zzd (zzt (sq9 (zza 55 (zI i) (zza 11 (zI i) (zzb (zzz [0, 0, 0, 0, 12, 28, 0, 64, 252, 511, 1023] [(0, []), (1, []), (2, []), (3, []), (4, []), (5, []), (6, []), (7, []), (8, []), (9, []), (10, [])] xj xj (zza 56 (.slc 51 0 n n) (zza 57 (zI i) (zza 58 (.v (xm.v)) (zza 59 (zI i) ?_))))))))))
   have hn46 := ((hMv.ext ah)).1
   obtain ⟨b46, b6, cJ⟩ := ((hMv.ext ah)).2.1 i xq
   refine zya 60 (0 + i * 1) (n := xm.n) (off := 0) (sz := 1) (i := (i : Int)) xq b6 xq yy sl75 ?_
   have cD : PolN da (Rm.getD i sl0) (rowL n (Nt.flM n A k i)) 2000 := ((hMv.ext ah)).2.2 i xq
   refine zyl 61 (.slice (Rm.getD i sl0).a (Rm.getD i sl0).n (Rm.getD i sl0).c) cJ ty26 (zza 62 (.adr 1 1) (zzi 63 (.v (y.v)) ty26 zzl (zzg 64 110 _ fun _ _ bO dh => Post.mono (k_nProduct (M := 2000) dh (PolN.more (K' := (max 2000 K)) (cD.ext bO) xq) (PolN.more (K' := (max 2000 K)) (hB.ext (aQ.trans (ah.trans bO))) xq) (by simp [rowL_len]) (by rw [rowL_len]; omega) xq xq xq (fun kk hkk => by rw [rowL_len] at hkk; rw [Nt.dot_row hkk]; exact (hF.rs ha (k := k) (i := i) (j := 0) xq hkk xq xq).2.2.1)) ?_)))
   rintro _ di cQ ⟨bK, rfl, b4⟩
   have ch : RatN di bK (Nt.su (fun l => Nt.flM n A k i l * B l) n) 2000 := by have h9 := b4; rewrite [Nt.dot_rows] at h9; exact h9
   refine zyw 65 (off' := i * 3) (n := n) (off := 0) (sz := 3) (i := (i : Int)) sl26 xq xq xq ?_
   refine zyv (V := ⟨32, rcs L⟩) (off := i * 3) (rcs ((L).set i bK)) ty32 zv (zyx (r := bK) (i := i) yy rfl) ?_
   refine zzx ?_
   refine zzp (zzf (zyq 66 (x := zI (IntKind.i64.wrap ((i : Int) + 1))) (zI (i + 1 : Nat)) (eqI yq) (zza 53 (zI (i + 1 : Nat)) (zzx ?_))))
   have bS : i < (rowL n (fun i => Nt.su (fun l => Nt.flM n A k i l * B l) n)).length := by rw [rowL_len]; omega
   refine ⟨_, ?_, _, by exact zzv _ _ _, i + 1, (L).set i bK, rfl, by omega, by simpa using hL, rfl, (ah.t (bO.t cQ.ext)), RatsN.tstep (hR.ext (bO.t cQ.ext)) xq bS (RatN.more (K := 2000) ch xq) (by rw [rowL_at xq])⟩
   omega
  have qhb45 := of_decide_eq_false aD
  refine zyc ?_
  clear bc
  refine zzp (zzd (zyp (r := 10) (t := 51) [10, 51] xw xj zk zk xj (fun cO dT au de bT => ?_)))
  have cx : PolN dT ⟨some ⟨cO, 0, none⟩, n, n⟩ (rowL n (fun i => Nt.su (fun l => Nt.flM n A k i l * B l) n)) 2000 := pol_data1 bT yv (RatsN.tdone (hR.ext au) xq (by rw [rowL_len]; omega)) xq
  refine zzf (zza 67 (.slc 73 0 (k + 1) ca) (zza 68 (.adr 1 2) (zzi 69 (.v (z.v)) ty26 zzl (zza 70 (.v (.slice (some ⟨cO, 0, none⟩) n n)) (zzg 71 110 _ fun _ _ ay dm => Post.mono (k_nProduct (M := 2000) dm (PolN.more (K' := (max K 2000)) (hC.ext (aQ.trans (ah.trans (au.trans ay)))) xq) (PolN.more (K' := (max K 2000)) (cx.ext ay) xq) (by simp [rowL_len]) (by rw [rowL_len]; omega) xq xq xq (fun kk hkk => by rw [rowL_len] at hkk; rw [Nt.dot_row hkk]; exact (hF.rs ha (k := k) (i := 0) (j := 0) xq hkk xq xq).2.2.2.1)) ?_)))))
  rintro _ dR aU ⟨ag, rfl, cd⟩
  have bx : RatN dR ag (Nt.su (fun l => C l * Nt.su (fun r => Nt.flM n A k l r * B r) n) n) 2000 := by have h9 := cd; rewrite [Nt.dot_rows] at h9; exact h9
  refine zxx 72 ⟨32, ag.cs⟩ 1 (fun c3 cR aB c6 => ?_)
  have df : PolN cR (⟨some ⟨c3, 0, none⟩, 1, 1⟩ : Sl) [(Nt.su (fun l => C l * Nt.su (fun r => Nt.flM n A k l r * B r) n) n)] 2000 := pol_lit (L := [ag]) c6 (rats1 (bx.ext aB)) rfl yz
  have a1 : (rcs La ++ Xa).take ((k + 1) * 3) = rcs La := take_rcsY hLa
  refine sy_app1 73 (T := 27) (E := 32) (z := .agg #[.bool false, .slice none 0 0, .slice none 0 0]) (size := 3) (bytes := 56) (b := c3) (off := 0) (m := 1) (n := k + 1) (cap := ca) (t := 73) (cs0 := (rcs La ++ Xa)) [6, 67, 73] ag.cs xj xj xj yz rfl (lit_news ((Ext.refl _).cells c6)) (rl_one ag) yz yv xq xq xq xq xw ?_
  intro bb bH dS cC cf b0
  have bs : bH.take ((k + 1 + 1) * 3) = rcs (La ++ [ag]) := by rw [b0, a1, rcs_app]; rfl
  refine zza 6 (.slc 73 0 (k + 1 + 1) bb) (zzc 130 [(1, .adr 1 0), (2, .adr 2 0), (4, zI n), (5, .slc 120 0 (k + 1) cb), (6, .slc 73 0 (k + 1 + 1) bb), (7, .v (xm.v)), (9, zI (k + 1 : Nat))] [(1, ⟨77, [.slice xa n xc, y.v, z.v] ++ r.cs⟩), (2, ⟨81, [.slice none 0 0, .slice none 0 0]⟩), (73, ⟨32, bH⟩), (120, ⟨32, rcs Lb ++ Xb⟩)] (zzd ?_))
  obtain ⟨bZ, bR⟩ := spare_of (n := k + 1 + 1) bs
  subst bR
  have ct : RatsN cR (La ++ [ag]) ((Nt.flAl n A B C).take (k + 1 + 1)) 2000 := app_next (o2.ext (ah.t (au.t (ay.t (aU.t aB))))) (RatN.more (K := 2000) (bx.ext aB) xq) (by rw [Nt.flAl_len]; omega) (by unfold Nt.flAl; rw [Nt.flR_at xq]; unfold Nt.flAt; rw [if_neg xq, Nat.add_sub_cancel])
  have ci : (La ++ [ag]).length = k + 1 + 1 := by rw [List.length_append, hLa]; rfl
  (try clear hca); (try clear hlea); (try clear hmxa); (try clear hL)
  refine zzf (zza 74 (.adr 1 0) (zzi 75 (.v (.slice xa n xc)) ty75 zzl (zza 76 (.v (xm.v)) (zzg 77 111 _ fun _ _ aT dL => Post.mono ((show Calls _ _ #[_, _] _ _ from k_nTimes (x := ⟨xa, n, xc⟩) (y := xm) (M9 := 2000) (K := 2000) (A := A) (M := Nt.flM n A k) dL (MatV.more (hA.ext (aQ.t (ah.t (au.t (ay.t (aU.t (aB.trans aT))))))) xq) (hMv.ext (ah.t (au.t (ay.t (aU.t (aB.trans aT)))))) xq xq xq xq (fun i j m hi hj hm => (hF.rs ha (k := k) xq hm hi hj).2.1))) ?_))))
  rintro _ dc b9 ⟨xt, Rt, Lt, rfl, hSt, hLt⟩
  have hxt := SysE.xn hSt
  refine zza 7 (.v (xt.v)) (zzb (zzd ?_))
  have hTv : MatV dc xt n Rt (fun i => rowL n ((Nt.mM n A (Nt.flM n A k)) i)) 2000 := SysE.matV (f := (Nt.mM n A (Nt.flM n A k))) hSt (fun i j _ _ => rfl)
  refine zzf (zzg 78 109 _ fun _ _ aE dK => Post.mono (k_ratOf dK (z := 0) xq xq) ?_)
  rintro _ dy aF ⟨cM, rfl, dI⟩
  refine zzk 12 ⟨32, zw3⟩ (zzj ⟨32, cM.cs⟩ ty32 ?_)
  refine zzb (zzd (sq9 (zza 79 (zI n) (zza 80 (zI 0) (zzb (zzt (zyn (I := fun b2 S' u' => ∃ (i : Nat) (rs : RL), (b2 = n - i) ∧ (i ≤ n) ∧ (S' = St.of 130 [(1, .adr 1 0), (2, .adr 2 0), (4, zI n), (5, .slc 120 0 (k + 1) cb), (6, .slc 73 0 (k + 1 + 1) bb), (7, .v (xt.v)), (9, zI (k + 1 : Nat)), (12, .adr 12 0), (79, zI n), (80, zI i)] [(1, ⟨77, [.slice xa n xc, y.v, z.v] ++ r.cs⟩), (2, ⟨81, [.slice none 0 0, .slice none 0 0]⟩), (12, ⟨32, rs.cs⟩), (73, ⟨32, rcs (La ++ [ag]) ++ bZ⟩), (120, ⟨32, rcs Lb ++ Xb⟩)]) ∧ (Ext dy u') ∧ (RatN u' rs (Nt.su (fun l => (Nt.mM n A (Nt.flM n A k)) l l) i) 2000)) (fun m S u1 u2 e h => by obtain ⟨i, rs, hm, p0, hS, hE, f0⟩ := h; exact ⟨i, rs, hm, p0, hS, hE.trans e, f0.ext e⟩) _ yw ⟨0, cM, rfl, Nat.zero_le _, rfl, (Ext.refl _), (show RatN _ _ (Nt.su (fun l => (Nt.mM n A (Nt.flM n A k)) l l) 0) 2000 from RatN.more (K := 2) dI xq)⟩ ?_)))))))
  rintro b2 _ c1 ⟨i, rs, br, hi, rfl, az, hrs⟩
  replace br : b2 + i = n := by omega
  have hrl := rowL_len (w := n) (f := (Nt.mM n A (Nt.flM n A k)) i)
  refine sq9 (zza 81 (zB (decide ((i : Int) < (n : Int)))) (zzb (zzd (zzu (b := decide ((i : Int) < (n : Int))) xj (fun aN => ?_) (fun aN => ?_)))))
  ·have qhb89 := of_decide_eq_true aN
   refine zzs (zzp ?_)
   refine zzd (zzt (sq9 (zza 82 (zI i) (zza 13 (zI i) (zzb (zzz [0, 0, 0, 6, 14, 0, 62, 126, 255, 511] [(0, []), (1, []), (2, []), (3, []), (4, []), (5, []), (6, []), (7, []), (8, []), (9, [])] xj xj (zzi 83 (.v (rs.v)) ty32 zze (zza 84 (.v (xt.v)) (zza 85 (zI i) ?_)))))))))
   have hn90 := ((hTv.ext (aE.t (aF.t az)))).1
   obtain ⟨b90, cp, cq⟩ := ((hTv.ext (aE.t (aF.t az)))).2.1 i xq
   refine zya 86 (0 + i * 1) (n := xt.n) (off := 0) (sz := 1) (i := (i : Int)) xq cp xq yy sl75 ?_
   have a4 : PolN c1 (Rt.getD i sl0) (rowL n ((Nt.mM n A (Nt.flM n A k)) i)) 2000 := ((hTv.ext (aE.t (aF.t az)))).2.2 i xq
   refine zyl 87 (.slice (Rt.getD i sl0).a (Rt.getD i sl0).n (Rt.getD i sl0).c) cq ty26 (zza 88 (zI i) ?_)
   have hl92 := a4.len
   obtain ⟨ds, b92, cX, b8, cL, cz⟩ := pol_atN a4 (i := i) xq
   refine zya 89 (cX + i * 3) (n := (Rt.getD i sl0).n) (off := cX) (sz := 3) (i := (i : Int)) xq b8 xq xq sl26 (zym 90 ds.cs cL ty32 (zzg 91 112 _ fun _ _ cA dp => Post.mono (k_ratAdd dp (hrs.ext cA).raw (cz.ext cA).raw xq xq) ?_))
   rintro _ u96 dU ⟨cY, rfl, dj⟩
   refine zzj ⟨32, cY.cs⟩ ty32 ?_
   refine zzx ?_
   refine zzp (zzf (zyq 92 (x := zI (IntKind.i64.wrap ((i : Int) + 1))) (zI (i + 1 : Nat)) (eqI yq) (zza 80 (zI (i + 1 : Nat)) (zzx ?_))))
   refine ⟨_, ?_, _, by exact zzv _ _ _, i + 1, cY, rfl, by omega, rfl, (az.t (cA.t dU.ext)), (show RatN _ _ (Nt.su (fun l => (Nt.mM n A (Nt.flM n A k)) l l) (i + 1)) 2000 from RatN.fit (L := 2000) (by have h9 := dj; rw [rowL_at xq] at h9; exact h9) (hF.rs ha (k := k) (m := i + 1) (i := 0) (j := 0) xq xq xq xq).2.2.2.2)⟩
   omega
  have qhb89 := of_decide_eq_false aN
  refine zyc ?_
  clear br
  refine zzp (zzd ?_)
  have hin : n = i := by omega
  subst hin
  have hrt : RatN c1 rs (Nt.mT n (Nt.mM n A (Nt.flM n A k))) 2000 := hrs
  refine zzz [0, 0, 2, 7, 0, 31] [(0, []), (1, []), (4, []), (2, []), (3, []), (5, [])] xj xj (zzi 93 (.v (rs.v)) ty32 zze (zza 94 (zI (k + 1 : Nat)) (zzk 14 ⟨32, zw3⟩ (zzg 95 114 _ fun _ _ bl dV => Post.mono (k_ratFrac dV (a := (-1)) (b := ((k + 1 : Nat) : Int)) xq xq xq xq) ?_))))
  rintro _ dJ ak ⟨dn, rfl, bX⟩
  refine zzg 96 113 _ fun _ _ ae cg => Post.mono (k_ratMul cg (hrt.ext (bl.t (ak.t ae))).raw (bX.ext ae).raw xq xq) ?_
  rintro _ cc ao ⟨aa, rfl, b5⟩
  refine zzj ⟨32, aa.cs⟩ ty32 ?_
  refine zzb (zzd (zzd ?_))
  have hcc : RatN cc aa (Nt.flN n (Nt.mM n A (Nt.flM n A k)) k) 2000 := RatN.fit (L := 2000) (show RatN _ _ (Nt.flN n (Nt.mM n A (Nt.flM n A k)) k) _ from b5) (hF.c_rs ha (k := k) xq)
  refine zzf (zza 97 (zI n) (zza 98 (zI 0) (zzb (zzt (zyn (I := fun aG S' u' => ∃ (i : Nat) (Lq : List (List RL)), (aG = n - i) ∧ (i ≤ n) ∧ (Lq.length = n) ∧ (S' = St.of 130 [(1, .adr 1 0), (2, .adr 2 0), (4, zI n), (5, .slc 120 0 (k + 1) cb), (6, .slc 73 0 (k + 1 + 1) bb), (7, .v (xt.v)), (9, zI (k + 1 : Nat)), (14, .adr 14 0), (97, zI n), (98, zI i)] [(1, ⟨77, [.slice xa n xc, y.v, z.v] ++ r.cs⟩), (2, ⟨81, [.slice none 0 0, .slice none 0 0]⟩), (14, ⟨32, aa.cs⟩), (73, ⟨32, rcs (La ++ [ag]) ++ bZ⟩), (120, ⟨32, rcs Lb ++ Xb⟩)]) ∧ (Ext u u') ∧ (SysE 26 32 u.heap.size u' xt n Rt Lq (fun _ => n) (fun a b => some ((Nt.mM n A (Nt.flM n A k)) a b + if a = b ∧ a < i then (Nt.flN n (Nt.mM n A (Nt.flM n A k)) k) else 0)) 2000) ∧ (RatN u' aa (Nt.flN n (Nt.mM n A (Nt.flM n A k)) k) 2000) ∧ (RatsN u' Lb ((Nt.flBl n A).take (k + 1)) 2000) ∧ (RatsN u' (La ++ [ag]) ((Nt.flAl n A B C).take (k + 1 + 1)) 2000)) (fun m S u1 u2 e h => by obtain ⟨i, Lq, hm, p0, p1, hS, hE, f0, f1, f2, f3⟩ := h; exact ⟨i, Lq, hm, p0, p1, hS, hE.trans e, f0.ext e, f1.ext e, f2.ext e, f3.ext e⟩) _ yw ⟨0, Lt, rfl, Nat.zero_le _, hLt, rfl, (aQ.t (ah.t (au.t (ay.t (aU.t (aB.t (aT.t (b9.t (aE.t (aF.t (az.t (bl.t (ak.t (ae.t ao.ext)))))))))))))), (SysE.congr (SysE.low (SysE.ext hSt (aE.t (aF.t (az.t (bl.t (ak.t (ae.t ao.ext))))))) (Ext.size (aQ.t (ah.t (au.t (ay.t (aU.t (aB.trans aT)))))))) (fun a ha => rfl) (fun a b q _ _ hv => by rw [if_neg xq, Rat.add_zero] at hv; exact hv)), hcc, (o1.ext (ah.t (au.t (ay.t (aU.t (aB.t (aT.t (b9.t (aE.t (aF.t (az.t (bl.t (ak.t (ae.t ao.ext)))))))))))))), (ct.ext (aT.t (b9.t (aE.t (aF.t (az.t (bl.t (ak.t (ae.t ao.ext)))))))))⟩ ?_)))))
  rintro aG _ db ⟨i, Lq, aw, hi, hLq, rfl, ba, q0, q1, q2, q3⟩
  replace aw : aG + i = n := by omega
  (try clear hLt); (try clear hxt); (try clear hrl); (try clear hL); (try clear hLm); (try clear hxm)
  refine sq9 (zza 99 (zB (decide ((i : Int) < (n : Int)))) (zzb (zzd (zzu (b := decide ((i : Int) < (n : Int))) xj (fun al => ?_) (fun al => ?_)))))
  ·have qhb112 := of_decide_eq_true al
   refine zzs (zzp ?_)
   refine zzd (zzt (sq9 (zza 100 (zI i) (zza 15 (zI i) (zzb (sw_anyC [0, 0, 3, 7, 0, 0, 0, 96, 224, 0, 992, 2016, 0, 8160, 16383, 32767] [(0, []), (1, []), (2, []), (3, []), (4, []), (5, []), (6, []), (7, []), (8, []), (9, []), (10, []), (11, []), (12, []), (13, [])] [(14, []), (15, [])] xj xj xj ?_))))))
   refine zza 101 (.v (xt.v)) (zza 102 (zI i) ?_)
   have hq113 := q0
   obtain ⟨dO, bF, bI⟩ := SysE.cell (i := i) hq113 xq
   have hn113 := SysE.xn hq113
   refine zya 103 (0 + i * 1) (n := xt.n) (off := 0) (sz := 1) (i := (i : Int)) xq bF xq xq sl75 (zyl 104 (.slice (Rt.getD i sl0).a (Rt.getD i sl0).n (Rt.getD i sl0).c) bI ty26 (zza 105 (zI i) (zza 106 (.v (xt.v)) (zza 107 (zI i) ?_))))
   have hq114 := q0
   obtain ⟨c8, a3, aW⟩ := SysE.cell (i := i) hq114 xq
   have hn114 := SysE.xn hq114
   refine zya 108 (0 + i * 1) (n := xt.n) (off := 0) (sz := 1) (i := (i : Int)) xq a3 xq xq sl75 (zyl 109 (.slice (Rt.getD i sl0).a (Rt.getD i sl0).n (Rt.getD i sl0).c) aW ty26 (zza 110 (zI i) ?_))
   have hq115 := q0
   have aV : (Lq.getD i []).length = n := (SysE.wid hq115 i (by rw [hLq]; omega)).trans rfl
   have hr115 := SysE.row hq115 i (by rw [hLq]; omega)
   have hz115 := MutQ.rown hr115
   obtain ⟨du, bv, aC⟩ := MutQ.el1 (j := i) hr115 (by rw [aV]; omega)
   refine zya 111 (0 + i * 3) (n := (Rt.getD i sl0).n) (off := 0) (sz := 3) (i := (i : Int)) xq bv xq xq sl26 ?_
   obtain ⟨cl, aq⟩ : ∃ r : RL, (Lq.getD i []).getD i rl0 = r := ⟨_, rfl⟩
   rw [aq] at aC
   have hv118 := SysE.num hq115 i i ((Nt.mM n A (Nt.flM n A k)) i i) (by rw [hLq]; omega) (Nat.lt_of_lt_of_eq (show i < n by omega) (Eq.symm rfl)) (by show some ((Nt.mM n A (Nt.flM n A k)) i i + if i = i ∧ i < i then (Nt.flN n (Nt.mM n A (Nt.flM n A k)) k) else 0) = _; rw [if_neg xq, Rat.add_zero])
   rewrite [aq] at hv118
   refine zym 112 cl.cs aC ty32 (zzi 113 (.v (aa.v)) ty32 zze (zzg 114 112 _ fun _ _ ab bP => Post.mono (k_ratAdd bP (hv118.ext ab).raw (q1.ext ab).raw xq xq) ?_))
   rintro _ dN ad ⟨aj, rfl, cG⟩
   refine zzx ?_
   have hq125 := (SysE.ext q0 (ab.t ad.ext))
   have bq : (Lq.getD i []).length = n := (SysE.wid hq125 i (by rw [hLq]; omega)).trans rfl
   have hr125 := SysE.row hq125 i (by rw [hLq]; omega)
   have hz125 := MutQ.rown hr125
   obtain ⟨dM, aA, c2⟩ := MutQ.el1 (j := i) hr125 (by rw [bq]; omega)
   refine zya 115 (0 + i * 3) (n := (Rt.getD i sl0).n) (off := 0) (sz := 3) (i := (i : Int)) xq aA xq xq sl26 ?_
   have ho126 := (SysE.ext q0 (ab.t ad.ext))
   have ax : (Lq.getD i []).length = n := (SysE.wid ho126 i (by rw [hLq]; omega)).trans rfl
   have hy126 := SysE.row ho126 i (by rw [hLq]; omega)
   refine sy_storeQ (v := aj.v) (off := 0 + i * 3) (n := 3) (Rt.getD i sl0) hy126 (MutQ.mayA hy126 (Ext.size (Ext.refl _))) aA ty32 (by rw [zyy, ax]; omega) (nu_rl aj) (fun bV bu ac => ?_)
   have bh : MutQ (1 * 3) 32 u.heap.size bV (Rt.getD i sl0) (rcs ((Lq.getD i []).set i aj)) := by rw [← zyx (off := 0 + i * 3) (by rw [ax]; omega) xq]; exact bu
   have eX126r := ExtX.root ac (MutQ.mutL hy126) (ba.t (ab.t ad.ext))
   have hS126 := SysE.store (i := i) (j := i) (r := aj) (q := (((Nt.mM n A (Nt.flM n A k)) i i) + (Nt.flN n (Nt.mM n A (Nt.flM n A k)) k))) yz ho126 (by rw [hLq]; omega) (Nat.lt_of_lt_of_eq (show i < n by omega) (Eq.symm rfl)) bh ac (RatN.fit (L := 2000) cG ((by have h9 := (hF.rs ha (k := k + 1) (m := 0) (i := i) (j := i) xq xq xq xq).1; rw [show Nt.flM n A (k + 1) i i = (Nt.mM n A (Nt.flM n A k)) i i + if i = i then (Nt.flN n (Nt.mM n A (Nt.flM n A k)) k) else 0 from rfl, if_pos rfl] at h9; exact h9)))
   obtain ⟨aZ, ar⟩ : ∃ Q9, Lq.set i ((Lq.getD i []).set i aj) = Q9 := ⟨_, rfl⟩
   rewrite [ar] at hS126
   have bd : aZ.length = n := by rw [← ar, List.length_set]; exact hLq
   have hkr106126 := MutQ.keep hy126 ac (q1.ext (ab.t ad.ext))
   have hklrb126 := MutQ.keeps hy126 ac (q2.ext (ab.t ad.ext))
   have hklra126 := MutQ.keeps hy126 ac (q3.ext (ab.t ad.ext))
   refine zzx ?_
   refine zzp (zzf (zyq 116 (x := zI (IntKind.i64.wrap ((i : Int) + 1))) (zI (i + 1 : Nat)) (eqI yq) (zza 98 (zI (i + 1 : Nat)) (zzx ?_))))
   refine ⟨_, ?_, _, by exact zzv _ _ _, i + 1, aZ, rfl, by omega, bd, rfl, eX126r, (SysE.congr hS126 (fun a ha => rfl) (fun a b q _ _ hv => Nt.d2 hv)), hkr106126, hklrb126, hklra126⟩
   omega
  have qhb112 := of_decide_eq_false al
  refine zyc ?_
  clear aw
  refine zzp (zzf (zza 117 (.slc 120 0 (k + 1) cb) (zzi 118 (.v (aa.v)) ty32 zze (zxx 119 ⟨32, aa.cs⟩ 1 (fun bp bJ af bn => ?_)))))
  have cP : PolN bJ (⟨some ⟨bp, 0, none⟩, 1, 1⟩ : Sl) [(Nt.flN n (Nt.mM n A (Nt.flM n A k)) k)] 2000 := pol_lit (L := [aa]) bn (rats1 (q1.ext af)) rfl yz
  have aL : (rcs Lb ++ Xb).take ((k + 1) * 3) = rcs Lb := take_rcsY hLb
  refine sy_app1 120 (T := 27) (E := 32) (z := .agg #[.bool false, .slice none 0 0, .slice none 0 0]) (size := 3) (bytes := 56) (b := bp) (off := 0) (m := 1) (n := k + 1) (cap := cb) (t := 120) (cs0 := (rcs Lb ++ Xb)) [5, 117, 120] aa.cs xj xj xj yz rfl (lit_news ((Ext.refl _).cells bn)) (rl_one aa) yz yv xq xq xq xq xw ?_
  intro aX a2 cZ bA bk bg
  have aJ : a2.take ((k + 1 + 1) * 3) = rcs (Lb ++ [aa]) := by rw [bg, aL, rcs_app]; rfl
  refine zza 5 (.slc 120 0 (k + 1 + 1) aX) (zzx ?_)
  refine zzp ?_
  obtain ⟨cI, bt⟩ := spare_of (n := k + 1 + 1) aJ
  subst bt
  have bj : RatsN bJ (Lb ++ [aa]) ((Nt.flBl n A).take (k + 1 + 1)) 2000 := app_next (q2.ext af) (RatN.more (K := 2000) (q1.ext af) xq) (by rw [Nt.flBl_len]; omega) (by unfold Nt.flBl; rw [Nt.flR_at xq]; rfl)
  have a6 : (Lb ++ [aa]).length = k + 1 + 1 := by rw [List.length_append, hLb]; rfl
  refine zzf (zza 48 (zI (k + 1 : Nat)) (zyq 49 (x := zI (IntKind.i64.wrap (((k + 1 : Nat) : Int) + 1))) (zI (((k + 1) + 1 : Nat) : Int)) (eqI yq) (zza 9 (zI (((k + 1) + 1 : Nat) : Int)) (zzx ?_))))
  refine ⟨_, ?_, _, by exact zzv _ _ _, k + 1, xt, Rt, Lq, (Lb ++ [aa]), cI, aX, (La ++ [ag]), bZ, bb, rfl, by omega, hLq, a6, bk, xq, bA, ci, cf, xq, cC, rfl, (ba.trans af), (SysE.congr (SysE.ext q0 af) (fun a ha => rfl) (fun a b q ha _ hv => Nt.d3 xq xq hv)), bj, (q3.ext af)⟩
  omega
 have qhb43 := of_decide_eq_false aK
 refine zyc ?_
 clear a7
 refine zzp (zzd ?_)
 have hlB := Nt.flBl_len (n := n) (A := A)
 have hlA := Nt.flAl_len (n := n) (A := A) (B := B) (C := C)
 refine zyp (r := 6) (t := 73) [6, 73] xw xj zk zk xj (fun a0 ck aM cT bB => ?_)
 have bm : PolN ck (⟨some ⟨a0, 0, none⟩, k + 1, ca⟩ : Sl) (Nt.flAl n A B C) 2000 := by have h9 := pol_data bB (take_rcsY hLa) hca hlea hmxa (o2.ext aM); rw [List.take_of_length_le (by rw [Nt.flAl_len]; omega)] at h9; exact h9
 refine zyp (r := 5) (t := 120) [5, 120] xw xj zk zk xj (fun aH b1 aP cV a5 => ?_)
 have av : PolN b1 (⟨some ⟨aH, 0, none⟩, k + 1, cb⟩ : Sl) (Nt.flBl n A) 2000 := by have h9 := pol_data a5 (take_rcsY hLb) hcb hleb hmxb (o1.ext (aM.trans aP)); rw [List.take_of_length_le (by rw [Nt.flBl_len]; omega)] at h9; exact h9
 refine zzf (zza 121 (.v (.slice (some ⟨a0, 0, none⟩) (k + 1) ca)) (zza 122 (.v (.slice (some ⟨aH, 0, none⟩) (k + 1) cb)) (zza 123 (.adr 1 3) (zzi 124 (.v (r.v)) ty32 zze (zzg 125 116 _ fun _ _ an ce => Post.mono (k_poScale ce (av.ext an).raw (hr.ext (aQ.trans (aM.trans (aP.trans an)))).raw xq xk xq) ?_)))))
 rintro _ dC bz ⟨dQ, rfl, bE⟩
 have hly150 := bE.len
 refine zzg 126 115 _ fun _ _ aI cn => Post.mono (k_poAdd cn (bm.ext (aP.t (an.t (bz.t aI)))).raw (bE.ext aI).raw xq xq xk xk) ?_
 rintro _ dw cw ⟨ai, rfl, a8⟩
 have hly156 := a8.len
 refine zza 127 (.v (.slice (some ⟨aH, 0, none⟩) (k + 1) cb)) (zzg 128 117 _ fun _ _ a9 bU => Post.mono (k_poTrim bU (av.ext (an.t (bz.t (aI.t (cw.t a9))))).raw xq xk) ?_)
 rintro _ c7 cH ⟨am, rfl, bD⟩
 have hly162 := bD.len
 refine zza 129 (.v (.agg #[ai.v, am.v])) (zzj ⟨81, [ai.v, am.v]⟩ ty81 ?_)
 refine zza 3 (zI 0) (zzc 130 [(2, .adr 2 0), (3, zI 0)] [(2, ⟨81, [ai.v, am.v]⟩)] (zzo (ret0 [.agg #[ai.v, am.v], .int .i64 0] ⟨zzr ty81 zze, zzq, trivial⟩ fun dq bi => ?_)))
 exact ⟨ai, am, rfl, PolN.more (K := (2000 + (2000 + K) + 1)) (a8.ext (a9.t (cH.t bi))) xq, PolN.more (K := 2000) (bD.ext bi) xq⟩
namespace Nt
theorem unQ_set {m j : Nat} (hj : j < m) : (List.replicate m (0 : Rat)).set j ((1 : Int) : Rat) = unQ m j := by
 refine List.ext_getElem (by simp [unQ_len]) fun i h1 h2 => ?_
 have e := unQ_at (j := j) (show i < m by simpa [unQ_len] using h2)
 rw [List.getD_eq_getElem?_getD, List.getElem?_eq_getElem h2] at e
 have e2 : (unQ m j)[i] = if i = j then 1 else 0 := e
 rw [e2, List.getElem_set]
 by_cases h : j = i
 ·rw [if_pos h, if_pos h.symm]; rfl
 rw [if_neg h, if_neg (Ne.symm h)]; exact List.getElem_replicate _
theorem sumQ_s {v : List Rat} {T : List TL} {k : Nat} : sumQ v T (k + 1) = sumQ v T k + (((T.getD k tl0).c : Int) : Rat) * v.getD (T.getD k tl0).f.toNat 0 := rfl
theorem sumQ_skip {v : List Rat} {T : List TL} {k : Nat} (h : (T.getD k tl0).c = 0 ∨ v.getD (T.getD k tl0).f.toNat 0 = 0) : sumQ v T k = sumQ v T (k + 1) := by
 rw [sumQ_s]
 rcases h with h | h
 ·rw [h]; show _ = _ + (0 : Rat) * _; grind
 rw [h]; grind
theorem ne_0 {z : Int} (h : (z != 0) = false) : z = 0 := by simpa using h
theorem colQ_len {U : Rat} {N : List (List TL)} {s j : Nat} : (colQ U N s j).length = 1 + s + N.length := by unfold colQ; rw [valQ_len, unQ_len]
end Nt
theorem take_rcsX {L : List RL} {X : List Value} {n : Nat} (h : L.length = n) : (rcs L ++ X).take (n * 3) = rcs L := by
 rw [List.take_append_of_le_length (by rw [zyy, h]; exact Nat.le_refl _), List.take_of_length_le (by rw [zyy, h]; exact Nat.le_refl _)]
set_option maxHeartbeats 8000000 in
theorem k_nSpread {u w : World} {D W : WL} {s : Nat} {X Y : Sl} {h lo : Nat} {N : List (List TL)} {nx : List Int} {q : Nat} {j : Nat} (d : Dat u w) (hN : NodesB lo h u X N) (hY : MutL 1 3 lo u Y (ics nx)) (hok : Nt.NetOK D W s N nx ((q : Nat) : Int)) (hj : j ≤ s) : Calls Tryz.prog 106 #[.agg #[.int .i64 D.b, .int .i64 D.f, .int .i64 D.r, .int .i64 D.o, .int .i64 W.b, .int .i64 W.f, .int .i64 W.r, .int .i64 W.o, .int .i64 (s : Int), X.v, Y.v, .int .i64 ((q : Nat) : Int)], .int .i64 (j : Int), .int .i64 (-1)] w (Post u w fun v u' => ∃ y : Sl, v = y.v ∧ PolN u' y (Nt.colQ (Nt.UQ W.f) N s j) 100 ∧ ∀ a, y.a = some a → u.heap.size ≤ a.block) := by
 obtain ⟨La, gA, gB, gC⟩ := id hN
 have hNl := hN.len
 have hD := hok.hd
 have hWc := hok.hw
 have hs64 := hok.hs
 have hn64 := hok.hn
 have hxs := hok.hx
 have hYr := MutL.slr hY
 have hYl : nx.length = Y.n := hYr.1
 have hqq := hok.hq
 have hbx : ∀ z ∈ nx, -9223372036854775808 ≤ z ∧ z ≤ 9223372036854775807 := fun z hz => by
  obtain ⟨j, hj, rfl⟩ := Nt.mem_getD hz
  have h9 := hok.hr j hj
  omega
 have bi : ∀ i, i < N.length → (La.getD i sl0).n = (N.getD i []).length ∧ (N.getD i []).length ≤ 64 := fun i hi => ⟨tms_len (gC i hi).1, (hok.ht i hi).1⟩
 obtain ⟨hd1, hd2, hd3, hd4, hd5, hd6, hd7, hd8⟩ := id hD
 obtain ⟨hw1, hw2, hw3, hw4, hw5, hw6, hw7, hw8⟩ := id hWc
 have hpw1 := Nt.zxp W.f
 have hpw2 := Nt.p2i_24 (n := W.f) xq
 have hpd1 := Nt.zxp (D.b - 1)
 have bs : Nt.p2i (D.b - 1) ≤ 8388608 := Nt.zwe (b := 23) xq
 refine zzm (args := [.agg #[.int .i64 D.b, .int .i64 D.f, .int .i64 D.r, .int .i64 D.o, .int .i64 W.b, .int .i64 W.f, .int .i64 W.r, .int .i64 W.o, .int .i64 s, X.v, Y.v, .int .i64 q], .int .i64 j, .int .i64 (-1)]) Tryz.func106 rfl Tryz.ntmps106 (rs := [.tmp 6]) Tryz.results106 (le_b rfl) (le_b rfl) d ?_
 refine sq9 (zzk 3 ⟨72, [.int .i64 D.b, .int .i64 D.f, .int .i64 D.r, .int .i64 D.o, .int .i64 W.b, .int .i64 W.f, .int .i64 W.r, .int .i64 W.o, .int .i64 s, X.v, Y.v, .int .i64 q]⟩ (zza 6 (.v (.slice none 0 0)) (zzb (sq9 (zza 16 (.adr 3 8) (zzi 17 (zI s) ty3 zzl (zyq 18 (x := zI (IntKind.i64.wrap ((1 : Int) + (s : Int)))) (zI (1 + s : Nat)) (eqI yq) (zzg 19 163 _ fun _ _ aT bo => Post.mono (k_nZeros (n := 1 + s) bo xq) ?_))))))))
 rintro _ u18 aY ⟨bj, ai, rfl, af, av, a1, hR17⟩
 refine zza 7 (.v (.slice (some ⟨bj, 0, none⟩) (1 + s) (1 + s))) (zzb (zzd (zzd (sw_adopt (r := 7) (k := 86) (cs := rcs ai ++ []) zk (by rw [List.append_nil]; exact ((Ext.refl _).cells av)) (Nat.le_trans (aT.size) af) xj (fun u21 ag => ?_)))))
 replace hR17 := (hR17.ext (Ext.refl _)).extB ((Ext.refl _).cells av) ag
 refine zzf (zza 20 (zI j) (zza 21 (zB (decide ((0 : Int) ≤ (j : Int)))) (zzb (zzu (b := decide ((0 : Int) ≤ (j : Int))) xj (fun hb => ?_) (fun hb => ?_)))))
 ·clear hb
  refine zzf (zza 22 (.slc 86 0 (1 + s) (1 + s)) (zza 23 (zI j) (zzg 24 109 _ fun _ _ aV bF => Post.mono (k_ratOf bF (z := 1) xq xq) ?_)))
  rintro _ bB aN ⟨am, rfl, bq⟩
  refine zyw 25 (off' := j * 3) (n := 1 + s) (off := 0) (sz := 3) (i := (j : Int)) sl26 xq xq xq ?_
  refine zyv (V := ⟨32, rcs ai ++ []⟩) (off := j * 3) (rcs ((ai).set j am) ++ []) ty32 (by rw [List.length_append, zyy]; first | omega | (rw [hLl]; omega)) (setL_rcsX (r := am) (i := j) (by first | omega | (rw [hLl]; omega)) rfl) ?_
  refine zzc 89 [(2, zI (-1)), (3, .adr 3 0), (7, .slc 86 0 (1 + s) (1 + s))] [(3, ⟨72, [.int .i64 D.b, .int .i64 D.f, .int .i64 D.r, .int .i64 D.o, .int .i64 W.b, .int .i64 W.f, .int .i64 W.r, .int .i64 W.o, .int .i64 s, X.v, Y.v, .int .i64 q]⟩), (86, ⟨32, rcs ((ai).set j am) ++ []⟩)] (zzd ?_)
  have aq : RatsN bB ((ai).set j am) (Nt.unQ (1 + s) j) 2 := by rw [← Nt.unQ_set xq]; exact rats_set (hR17.ext (aV.t aN.ext)) (by rw [List.length_replicate]; omega) bq
  have a9 : ((ai).set j am).length = 1 + s := aq.1.trans (Nt.unQ_len _ _)
  refine zzf (zza 26 (.adr 3 4) (zza 27 (.adr 3 5) (zzi 28 (zI W.f) ty3 zzl (sy_shl 29 (k := .i64) (s := W.f) (Nt.p2i W.f) xq zw (shl_one xq xq) ?_))))
  refine zzg 30 109 _ fun _ _ aE bl => Post.mono (k_ratOf bl (z := Nt.p2i W.f) xq xq) ?_
  rintro _ bw aO ⟨ae, rfl, bK⟩
  refine zzk 8 ⟨32, zw3⟩ (zzj ⟨32, ae.cs⟩ ty32 ?_)
  refine zzb (zzd (sq9 (zza 31 (.adr 3 9) (zzi 32 (.v (X.v)) ty70 zzl (zza 33 (zI X.n) (zza 34 (zI 0) (zzb (zzt (zyn (I := fun a3 S' u' => ∃ (i : Nat) (Lv : List RL) (Xv : List Value) (cp : Nat), (a3 = X.n - i) ∧ (i ≤ X.n) ∧ (Lv.length = 1 + s + i) ∧ ((rcs Lv ++ Xv).length = cp * 3) ∧ (1 + s + i ≤ cp) ∧ (cp ≤ maxLen) ∧ (S' = St.of 89 [(2, zI (-1)), (7, .slc 86 0 (1 + s + i) cp), (8, .adr 8 0), (32, .v (X.v)), (33, zI X.n), (34, zI i)] [(8, ⟨32, ae.cs⟩), (86, ⟨32, rcs Lv ++ Xv⟩)]) ∧ (Ext bw u') ∧ (RatsN u' Lv (Nt.valQ (Nt.UQ W.f) N (Nt.unQ (1 + s) j) i) 100)) (fun m S u1 u2 e h => by obtain ⟨i, Lv, Xv, cp, hm, p0, p1, p2, p3, p4, hS, hE, f0⟩ := h; exact ⟨i, Lv, Xv, cp, hm, p0, p1, p2, p3, p4, hS, hE.trans e, f0.ext e⟩) _ yw ⟨0, (ai).set j am, [], 1 + s, rfl, Nat.zero_le _, a9, (by rw [List.append_nil, zyy, a9] <;> omega), xq, yv, rfl, (Ext.refl _), (RatsN.more (aq.ext (aE.t aO.ext)) xq)⟩ ?_)))))))))
  rintro a3 _ u36 ⟨i, Lv, Xv, cp, bc, hi, hLl, bH, hle, hmx, rfl, ax, hV⟩
  have hvl : (Nt.valQ (Nt.UQ W.f) N (Nt.unQ (1 + s) j) i).length = 1 + s + i := by rw [Nt.valQ_len, Nt.unQ_len]
  refine sq9 (zza 35 (zB (decide ((i : Int) < (X.n : Int)))) (zzb (zzd (zzu (b := decide ((i : Int) < (X.n : Int))) xj (fun ah => ?_) (fun ah => ?_)))))
  ·have qhb37 := of_decide_eq_true ah
   refine zzs (zzp ?_)
   refine zzd (zzt (sq9 (zza 36 (zI i) ?_)))
   obtain ⟨b38, aR, aD⟩ := nodes_at (i := i) gA xq
   refine zya 37 (0 + i * 1) (n := X.n) (off := 0) (sz := 1) (i := (i : Int)) xq aR xq xq sl70 (zym 38 [.slice (La.getD i sl0).a (La.getD i sl0).n (La.getD i sl0).c] (fun j hj => by cases j with | zero => exact ((aT.trans ((ExtB.old ag aY.ext af).trans (aV.t (aN.t (aE.t (aO.t ax)))))).cell aD) | succ j => exact absurd hj zz) ty150 (zzk 10 ⟨150, [.slice none 0 0]⟩ (zza 9 (zI i) (zzj ⟨150, [.slice (La.getD i sl0).a (La.getD i sl0).n (La.getD i sl0).c]⟩ ty150 ?_))))
   refine zzb (sq9 (zzg 39 109 _ fun _ _ an bz => Post.mono (k_ratOf bz (z := 0) xq xq) ?_))
   rintro _ bm ak ⟨aZ, rfl, bJ⟩
   refine zzk 11 ⟨32, zw3⟩ (zzj ⟨32, aZ.cs⟩ ty32 ?_)
   refine zzb (zzd (zzd ?_))
   have hTi := bi i xq
   refine zzf (zza 40 (.adr 10 0) (zzi 41 (.v (.slice (La.getD i sl0).a (La.getD i sl0).n (La.getD i sl0).c)) ty148 zzl (zza 42 (zI (((La.getD i sl0).n : Nat) : Int)) (zza 43 (zI 0) (zzb (zzt (zyn (I := fun a8 S' u' => ∃ (k : Nat) (r9 : RL), (a8 = (La.getD i sl0).n - k) ∧ (k ≤ (La.getD i sl0).n) ∧ (S' = St.of 89 [(2, zI (-1)), (7, .slc 86 0 (1 + s + i) cp), (8, .adr 8 0), (9, zI i), (11, .adr 11 0), (32, .v (X.v)), (33, zI X.n), (34, zI i), (41, .v (.slice (La.getD i sl0).a (La.getD i sl0).n (La.getD i sl0).c)), (42, zI (((La.getD i sl0).n : Nat) : Int)), (43, zI k)] [(8, ⟨32, ae.cs⟩), (11, ⟨32, r9.cs⟩), (86, ⟨32, rcs Lv ++ Xv⟩)]) ∧ (Ext bm u') ∧ (RatN u' r9 (Nt.sumQ (Nt.valQ (Nt.UQ W.f) N (Nt.unQ (1 + s) j) i) (N.getD i []) k) 100)) (fun m S u1 u2 e h => by obtain ⟨k, r9, hm, p0, hS, hE, f0⟩ := h; exact ⟨k, r9, hm, p0, hS, hE.trans e, f0.ext e⟩) _ yw ⟨0, aZ, rfl, Nat.zero_le _, rfl, (Ext.refl _), (show RatN _ _ (Nt.sumQ (Nt.valQ (Nt.UQ W.f) N (Nt.unQ (1 + s) j) i) (N.getD i []) 0) 100 from RatN.more (K := 2) bJ xq)⟩ ?_)))))))
   rintro a8 _ bv ⟨k, r9, bu, hk, rfl, ab, aA⟩
   refine sq9 (zza 44 (zB (decide ((k : Int) < (((La.getD i sl0).n : Nat) : Int)))) (zzb (zzd (zzu (b := decide ((k : Int) < (((La.getD i sl0).n : Nat) : Int))) xj (fun aj => ?_) (fun aj => ?_)))))
   ·have qhb46 := of_decide_eq_true aj
    refine zzs (zzp ?_)
    refine zzd (zzt (sq9 ?_))
    obtain ⟨b47, aK, aP⟩ := terms_at (i := k) (T := (N.getD i [])) (gC i xq).1 xq
    refine zya 45 (0 + k * 2) (n := (La.getD i sl0).n) (off := 0) (sz := 2) (i := (k : Int)) xq aK xq xq sl148 (zym 46 ((N.getD i []).getD k tl0).cs (fun j hj => by have h9 := aP j hj; rw [List.getElem?_eq_getElem hj] at h9 ⊢; exact (aT.trans ((ExtB.old ag aY.ext af).trans (aV.t (aN.t (aE.t (aO.t (ax.t (an.t (ak.t ab))))))))).cell h9) ty147 ?_)
    refine zzk 13 ⟨147, [.int .i64 0, .int .i64 0]⟩ (zzj ⟨147, [.int .i64 (((N.getD i []).getD k tl0).f), .int .i64 (((N.getD i []).getD k tl0).c)]⟩ ty147 ?_)
    refine zzb (zzd ?_)
    have htj := (hok.ht i xq).2 k xq
    have hcb : -16777216 ≤ ((N.getD i []).getD k tl0).c ∧ ((N.getD i []).getD k tl0).c ≤ 16777216 := by rcases htj.2.2 with h | h; (rw [h]; omega); (have h9 := Nt.fit_iff.1 h; have h8 : Nt.p2i (W.b - 1) ≤ 8388608 := Nt.zwe (b := 23) xq; omega)
    refine zzf (zza 47 (.adr 13 1) (zzi 48 (zI (((N.getD i []).getD k tl0).c)) ty3 zzl (zza 49 (zB ((((N.getD i []).getD k tl0).c) != 0)) ?_)))
    rcases Bool.eq_false_or_eq_true ((((N.getD i []).getD k tl0).c) != 0) with hs48 | hs48
    ·refine zyq 50 (x := zB ((((N.getD i []).getD k tl0).c) != 0)) (zB true) (by rw [hs48]) (zza 51 (.slc 86 0 (1 + s + i) cp) ?_ (hw := w1 3 true 50))
     refine zza 52 (.adr 13 0) ?_ (hw := w1 3 true 50)
     refine zzi 53 (zI (((N.getD i []).getD k tl0).f)) ty3 zzl ?_ (hw := w1 3 true 50)
     refine zyw 54 (off' := (((N.getD i []).getD k tl0).f).toNat * 3) (n := (1 + s + i)) (off := 0) (sz := 3) (i := ((N.getD i []).getD k tl0).f) sl26 xq xq xq ?_ (hw := w1 3 true 50)
     obtain ⟨be, ad⟩ : ∃ r : RL, (Lv).getD ((((N.getD i []).getD k tl0).f).toNat) rl0 = r := ⟨_, rfl⟩
     refine zzi 55 (V := ⟨32, rcs Lv ++ Xv⟩) (off := (((N.getD i []).getD k tl0).f).toNat * 3) (.v be.v) ty32 (by have h9 := part_rcsX (X := Xv) (L := Lv) (i := (((N.getD i []).getD k tl0).f).toNat) (off := (((N.getD i []).getD k tl0).f).toNat * 3) (by first | omega | (rw [hLl]; omega)) rfl; rw [ad] at h9; exact h9) ?_ (hw := w1 3 true 50)
     have h50 := (hV.ext (an.t (ak.t ab))).2 ((((N.getD i []).getD k tl0).f).toNat) (by rw [hvl]; omega)
     rw [ad] at h50
     refine zzg 56 66 _ (fun _ _ al bG => Post.mono (k_ratSign bG (h50.ext al).raw) ?_) (hw := w1 3 true 50)
     rintro _ u52 ap rfl
     refine zza 57 (zB ((Nt.sgQ ((Nt.valQ (Nt.UQ W.f) N (Nt.unQ (1 + s) j) i).getD ((((N.getD i []).getD k tl0).f).toNat) 0)) != 0)) ?_ (hw := w1 3 true 50)
     refine zza 58 (zB ((Nt.sgQ ((Nt.valQ (Nt.UQ W.f) N (Nt.unQ (1 + s) j) i).getD ((((N.getD i []).getD k tl0).f).toNat) 0)) != 0)) (zzc 89 [(2, zI (-1)), (7, .slc 86 0 (1 + s + i) cp), (8, .adr 8 0), (9, zI i), (11, .adr 11 0), (13, .adr 13 0), (32, .v (X.v)), (33, zI X.n), (34, zI i), (41, .v (.slice (La.getD i sl0).a (La.getD i sl0).n (La.getD i sl0).c)), (42, zI (((La.getD i sl0).n : Nat) : Int)), (43, zI k), (58, zB ((Nt.sgQ ((Nt.valQ (Nt.UQ W.f) N (Nt.unQ (1 + s) j) i).getD ((((N.getD i []).getD k tl0).f).toNat) 0)) != 0))] [(8, ⟨32, ae.cs⟩), (11, ⟨32, r9.cs⟩), (13, ⟨147, [.int .i64 (((N.getD i []).getD k tl0).f), .int .i64 (((N.getD i []).getD k tl0).c)]⟩), (86, ⟨32, rcs Lv ++ Xv⟩)] (zzu (b := (Nt.sgQ ((Nt.valQ (Nt.UQ W.f) N (Nt.unQ (1 + s) j) i).getD ((((N.getD i []).getD k tl0).f).toNat) 0)) != 0) xj (fun au => ?_) (fun au => ?_)))
     ·refine zzz [0, 0, 2, 6, 0, 0, 32, 112, 240, 510, 1023, 2047] [(0, []), (1, []), (2, []), (4, []), (5, []), (6, []), (7, []), (8, []), (3, []), (9, []), (10, []), (11, [])] xj xj (zzi 59 (.v (r9.v)) ty32 zze (zza 60 (.adr 13 1) (zzi 61 (zI (((N.getD i []).getD k tl0).c)) ty3 zzl (zza 63 (.slc 86 0 (1 + s + i) cp) (zza 64 (.adr 13 0) (zzi 65 (zI (((N.getD i []).getD k tl0).f)) ty3 zzl (zyw 66 (off' := (((N.getD i []).getD k tl0).f).toNat * 3) (n := (1 + s + i)) (off := 0) (sz := 3) (i := ((N.getD i []).getD k tl0).f) sl26 xq xq xq ?_)))))))
      obtain ⟨bg, ac⟩ : ∃ r : RL, (Lv).getD ((((N.getD i []).getD k tl0).f).toNat) rl0 = r := ⟨_, rfl⟩
      refine zzi 67 (V := ⟨32, rcs Lv ++ Xv⟩) (off := (((N.getD i []).getD k tl0).f).toNat * 3) (.v bg.v) ty32 (by have h9 := part_rcsX (X := Xv) (L := Lv) (i := (((N.getD i []).getD k tl0).f).toNat) (off := (((N.getD i []).getD k tl0).f).toNat * 3) (by first | omega | (rw [hLl]; omega)) rfl; rw [ac] at h9; exact h9) ?_
      have h57 := (hV.ext (an.t (ak.t (ab.t (al.t ap.ext))))).2 ((((N.getD i []).getD k tl0).f).toNat) (by rw [hvl]; omega)
      rw [ac] at h57
      refine zzg 62 109 _ fun _ _ aF bA => Post.mono (k_ratOf bA (z := ((N.getD i []).getD k tl0).c) xq xq) ?_
      rintro _ u61 aW ⟨r59, rfl, bh⟩
      refine zzg 68 113 _ fun _ _ ay bx => Post.mono (k_ratMul bx (bh.ext ay).raw (h57.ext (aF.t (aW.t ay))).raw xq xq) ?_
      rintro _ u67 a2 ⟨r65, rfl, bD⟩
      refine zzg 69 112 _ fun _ _ aC bC => Post.mono (k_ratAdd bC (aA.ext (al.t (ap.t (aF.t (aW.t (ay.t (a2.t aC))))))).raw (bD.ext aC).raw xq xq) ?_
      rintro _ u73 bf ⟨a6, rfl, bL⟩
      refine zzj ⟨32, a6.cs⟩ ty32 ?_
      refine zzx ?_
      refine zzp (zzf (zyq 70 (x := zI (IntKind.i64.wrap ((k : Int) + 1))) (zI (k + 1 : Nat)) (eqI yq) (zza 43 (zI (k + 1 : Nat)) (zzx ?_))))
      refine ⟨_, ?_, _, by exact zzv _ _ _, k + 1, a6, rfl, by omega, rfl, (ab.t (al.t (ap.t (aF.t (aW.t (ay.t (a2.t (aC.t bf.ext)))))))), (show RatN _ _ (Nt.sumQ (Nt.valQ (Nt.UQ W.f) N (Nt.unQ (1 + s) j) i) (N.getD i []) (k + 1)) 100 from RatN.fit (L := 100) bL (Nt.sum_rs (D := D) (W := W) hok j (k := i) xq xq))⟩
      omega
     refine zzs (zzp ?_)
     refine zzf (zyq 70 (x := zI (IntKind.i64.wrap ((k : Int) + 1))) (zI (k + 1 : Nat)) (eqI yq) (zza 43 (zI (k + 1 : Nat)) (zzx ?_)))
     refine ⟨_, ?_, _, by exact zzv _ _ _, k + 1, r9, rfl, by omega, rfl, (ab.t (al.t ap.ext)), (by rw [← Nt.sumQ_skip (.inr (Nt.sgQ_0 au))]; exact (aA.ext (al.t ap.ext)))⟩
     omega
    refine zyq 50 (x := zB ((((N.getD i []).getD k tl0).c) != 0)) (zB false) (by rw [hs48]) (zzn 51 (uw 3 true false 50) (zzn 52 (uw 3 true false 50) (zzn 53 (uw 3 true false 50) (zzn 54 (uw 3 true false 50) (zzn 55 (uw 3 true false 50) (zzn 56 (uw 3 true false 50) (zzn 57 (uw 3 true false 50) (zza 58 (zB false) (zzc 89 [(2, zI (-1)), (7, .slc 86 0 (1 + s + i) cp), (8, .adr 8 0), (9, zI i), (11, .adr 11 0), (13, .adr 13 0), (32, .v (X.v)), (33, zI X.n), (34, zI i), (41, .v (.slice (La.getD i sl0).a (La.getD i sl0).n (La.getD i sl0).c)), (42, zI (((La.getD i sl0).n : Nat) : Int)), (43, zI k), (58, zB false)] [(8, ⟨32, ae.cs⟩), (11, ⟨32, r9.cs⟩), (13, ⟨147, [.int .i64 (((N.getD i []).getD k tl0).f), .int .i64 (((N.getD i []).getD k tl0).c)]⟩), (86, ⟨32, rcs Lv ++ Xv⟩)] (zys xj (zzs (zzp ?_))))))))))))
    refine zzf (zyq 70 (x := zI (IntKind.i64.wrap ((k : Int) + 1))) (zI (k + 1 : Nat)) (eqI yq) (zza 43 (zI (k + 1 : Nat)) (zzx ?_)))
    refine ⟨_, ?_, _, by exact zzv _ _ _, k + 1, r9, rfl, by omega, rfl, ab, (by rw [← Nt.sumQ_skip (.inl (Nt.ne_0 hs48))]; exact aA)⟩
    omega
   have qhb46 := of_decide_eq_false aj
   refine zyc (zzp (zzd ?_))
   have hkl : k = (N.getD i []).length := by omega
   have aM : RatN bv r9 (Nt.sumQ (Nt.valQ (Nt.UQ W.f) N (Nt.unQ (1 + s) j) i) (N.getD i []) (N.getD i []).length) 100 := by rw [← hkl]; exact aA
   refine zzf (zzi 72 (.v (r9.v)) ty32 zze (zzi 73 (.v (ae.v)) ty32 zze (zzg 74 138 _ fun _ _ az bt => Post.mono (k_ratDiv1 bt (aM.ext az).raw (bK.ext (ax.t (an.t (ak.t (ab.trans az))))).raw (Nt.UQ_ne W.f) xq xq) ?_)))
   rintro _ u80 a4 ⟨aa, rfl, ba⟩
   refine zza 71 (.v (.tuple #[aa.v, .int .i64 0])) (zza 75 (.v (aa.v)) (zza 76 (zI 0) (zzk 14 ⟨32, zw3⟩ (zzj ⟨32, aa.cs⟩ ty32 ?_))))
   refine zza 15 (zI 0) (zzc 89 [(2, zI (-1)), (7, .slc 86 0 (1 + s + i) cp), (8, .adr 8 0), (9, zI i), (14, .adr 14 0), (32, .v (X.v)), (33, zI X.n), (34, zI i)] [(8, ⟨32, ae.cs⟩), (14, ⟨32, aa.cs⟩), (86, ⟨32, rcs Lv ++ Xv⟩)] (zzd (sq9 (zza 77 (zI i) (zza 78 (zI (-1)) (zza 79 (zB ((i : Int) == (-1))) (zzb (zzu (b := (i : Int) == (-1)) xj (fun hb => ?_) (fun hb => ?_)))))))))
   ·exact absurd hb (by rw [show ((i : Int) == (-1)) = false from (by first | (simp; done) | (simp; omega))]; decide)
   clear hb
   refine zzs (zzp ?_)
   refine zzf (zza 83 (.slc 86 0 (1 + s + i) cp) (zzi 84 (.v (aa.v)) ty32 zze (zxx 85 ⟨32, aa.cs⟩ 1 (fun a5 bk aB a7 => ?_))))
   have bE : PolN bk (⟨some ⟨a5, 0, none⟩, 1, 1⟩ : Sl) [((Nt.sumQ (Nt.valQ (Nt.UQ W.f) N (Nt.unQ (1 + s) j) i) (N.getD i []) (N.getD i []).length) / ((Nt.p2i W.f : Int) : Rat))] (100 + 2) := pol_lit (L := [aa]) a7 (rats1 (ba.ext aB)) rfl yz
   have ao : (rcs Lv ++ Xv).take ((1 + s + i) * 3) = rcs Lv := take_rcsX hLl
   refine sy_app1 86 (T := 26) (E := 32) (z := .agg #[.bool false, .slice none 0 0, .slice none 0 0]) (size := 3) (bytes := 56) (b := a5) (off := 0) (m := 1) (n := 1 + s + i) (cap := cp) (t := 86) (cs0 := (rcs Lv ++ Xv)) [7, 83, 86] aa.cs xj xj xj yz rfl (lit_news ((Ext.refl _).cells a7)) (rl_one aa) yz yv xq xq xq xq xw ?_
   intro a0 aX bn aU aQ aI
   have aw : aX.take ((1 + s + i + 1) * 3) = rcs (Lv ++ [aa]) := by rw [aI, ao, rcs_app]; rfl
   refine zza 7 (.slc 86 0 (1 + s + i + 1) a0) (zzx ?_)
   refine zzp (zzf (zyq 87 (x := zI (IntKind.i64.wrap ((i : Int) + 1))) (zI (i + 1 : Nat)) (eqI yq) (zza 34 (zI (i + 1 : Nat)) (zzx ?_))))
   obtain ⟨br, aH⟩ := spare_of (n := 1 + s + i + 1) aw
   subst aH
   refine ⟨_, ?_, _, by exact zzv _ _ _, i + 1, Lv ++ [aa], br, a0, rfl, by omega, (by rw [List.length_append, hLl]; rfl), aQ, xq, aU, rfl, (ax.t (an.t (ak.t (ab.t (az.t (a4.t aB)))))), (RatsN.snoc (hV.ext (an.t (ak.t (ab.t (az.t (a4.t aB)))))) (RatN.fit (L := 100) (ba.ext aB) (by have h9 := Nt.val_rs (D := D) (W := W) hok j (k := i + 1) xq (1 + s + i); rw [show (Nt.valQ (Nt.UQ W.f) N (Nt.unQ (1 + s) j) (i + 1)) = (Nt.valQ (Nt.UQ W.f) N (Nt.unQ (1 + s) j) i) ++ [((Nt.sumQ (Nt.valQ (Nt.UQ W.f) N (Nt.unQ (1 + s) j) i) (N.getD i []) (N.getD i []).length) / ((Nt.p2i W.f : Int) : Rat))] from rfl, Nt.getD_appr (by rw [hvl])] at h9; exact h9)))⟩
   omega
  have qhb37 := of_decide_eq_false ah
  refine zyc (zzp (zzd (zyp (r := 7) (t := 86) [7, 86] xw xj zk zk xj (fun ar bp bI aJ aG => ?_))))
  have aL : PolN bp (⟨some ⟨ar, 0, none⟩, 1 + s + i, cp⟩ : Sl) (Nt.valQ (Nt.UQ W.f) N (Nt.unQ (1 + s) j) i) 100 := pol_data aG (take_rcsX hLl) bH hle hmx (hV.ext bI)
  refine zzf (zza 88 (.v (.slice (some ⟨ar, 0, none⟩) (1 + s + i) cp)) (zza 6 (.v (.slice (some ⟨ar, 0, none⟩) (1 + s + i) cp)) (zzb (zzo (ret0 [.slice (some ⟨ar, 0, none⟩) (1 + s + i) cp] ⟨zzq, trivial⟩ fun u97 bd => ?_)))))
  have bb : i = N.length := by omega
  subst bb
  exact ⟨(⟨some ⟨ar, 0, none⟩, 1 + s + N.length, cp⟩ : Sl), rfl, (aL.ext bd), fun a ha => by injection ha with ha; subst ha; exact aJ⟩
 exact absurd hb (by rw [show (decide ((0 : Int) ≤ (j : Int))) = true from decide_eq_true xq]; decide)
namespace Nt
section
variable {s i j k a b : Nat} {q : Rat} {f : Nat → Nat → Rat} {g h : Nat → Rat}
theorem l0 {x : Option Rat} (hv : (if a < s then (if a < 0 then some (f a b) else none) else if a = s then (if b < 0 then some (g b) else none) else none) = some q) : x = some q := by
 by_cases h1 : a < s
 ·rw [if_pos h1, if_neg (Nat.not_lt_zero a)] at hv; cases hv
 rw [if_neg h1] at hv
 by_cases h2 : a = s
 ·rw [if_pos h2, if_neg (Nat.not_lt_zero b)] at hv; cases hv
 rw [if_neg h2] at hv; cases hv
theorem l1 (hv : (if a < s then (if a < i ∨ a = i ∧ b < 0 then some (f a b) else none) else if a = s then (if b < i then some (g b) else none) else none) = some q) : (if a < s then (if a < i then some (f a b) else none) else if a = s then (if b < i then some (g b) else none) else none) = some q := by
 by_cases h1 : a < s
 ·rw [if_pos h1] at hv ⊢
  by_cases h2 : a < i
  ·rw [if_pos (.inl h2)] at hv; rw [if_pos h2]; exact hv
  rw [if_neg xq] at hv; cases hv
 rw [if_neg h1] at hv ⊢; exact hv
theorem l2 (hi : i < s) (hv : (if a < s then (if a < i ∨ a = i ∧ b < j + 1 then some (f a b) else none) else if a = s then (if b < i then some (g b) else none) else none) = some q) : up2 (fun a b => if a < s then (if a < i ∨ a = i ∧ b < j then some (f a b) else none) else if a = s then (if b < i then some (g b) else none) else none) i j (f i j) a b = some q := by
 unfold up2
 dsimp only
 by_cases h0 : a = i ∧ b = j
 ·rw [if_pos h0]
  rw [if_pos xq, if_pos xq, h0.1, h0.2] at hv; exact hv
 rw [if_neg h0]
 by_cases h1 : a < s
 ·rw [if_pos h1] at hv ⊢
  by_cases h2 : a < i ∨ a = i ∧ b < j
  ·rw [if_pos h2]; rw [if_pos xq] at hv; exact hv
  rw [if_neg xq] at hv; cases hv
 rw [if_neg h1] at hv ⊢; exact hv
theorem l3 (hb : b < s) (hj : j = s) (hv : (if a < s then (if a < i + 1 then some (f a b) else none) else if a = s then (if b < i + 1 then some (g b) else none) else none) = some q) : up2 (fun a b => if a < s then (if a < i ∨ a = i ∧ b < j then some (f a b) else none) else if a = s then (if b < i then some (g b) else none) else none) s i (g i) a b = some q := by
 unfold up2
 dsimp only
 by_cases h0 : a = s ∧ b = i
 ·rw [if_pos h0]
  rw [if_neg xq, if_pos h0.1, if_pos xq, h0.2] at hv; exact hv
 rw [if_neg h0]
 by_cases h1 : a < s
 ·rw [if_pos h1] at hv ⊢
  by_cases h2 : a < i + 1
  ·rw [if_pos h2] at hv; rw [if_pos xq]; exact hv
  rw [if_neg h2] at hv; cases hv
 rw [if_neg h1] at hv ⊢
 by_cases h2 : a = s
 ·rw [if_pos h2] at hv ⊢
  by_cases h3 : b < i
  ·rw [if_pos h3]; rw [if_pos xq] at hv; exact hv
  rw [if_neg xq] at hv; cases hv
 rw [if_neg h2] at hv; cases hv
theorem l4 (hb : b < s) (hi : i = s) (hv : (if a < s then some (f a b) else if a = s then some (g b) else if b < 0 then some (h b) else none) = some q) : (if a < s then (if a < i then some (f a b) else none) else if a = s then (if b < i then some (g b) else none) else none) = some q := by
 by_cases h1 : a < s
 ·rw [if_pos h1] at hv ⊢; rw [if_pos xq]; exact hv
 rw [if_neg h1] at hv ⊢
 by_cases h2 : a = s
 ·rw [if_pos h2] at hv ⊢; rw [if_pos xq]; exact hv
 rw [if_neg h2, if_neg (Nat.not_lt_zero b)] at hv; cases hv
theorem l5 (ha : a < s + 2) (hv : (if a < s then some (f a b) else if a = s then some (g b) else if b < k + 1 then some (h b) else none) = some q) : up2 (fun a b => if a < s then some (f a b) else if a = s then some (g b) else if b < k then some (h b) else none) (s + 1) k (h k) a b = some q := by
 unfold up2
 dsimp only
 by_cases h0 : a = s + 1 ∧ b = k
 ·rw [if_pos h0]
  rw [if_neg xq, if_neg xq, if_pos xq, h0.2] at hv; exact hv
 rw [if_neg h0]
 by_cases h1 : a < s
 ·rw [if_pos h1] at hv ⊢; exact hv
 rw [if_neg h1] at hv ⊢
 by_cases h2 : a = s
 ·rw [if_pos h2] at hv ⊢; exact hv
 rw [if_neg h2] at hv ⊢
 by_cases h3 : b < k
 ·rw [if_pos h3]; rw [if_pos xq] at hv; exact hv
 rw [if_neg xq] at hv; cases hv
end
end Nt
set_option maxHeartbeats 8000000 in
theorem k_nLinear {u w : World} {D W : WL} {s : Nat} {X Y : Sl} {h lo : Nat} {N : List (List TL)} {nx : List Int} {q : Nat} (d : Dat u w) (hN : NodesB lo h u X N) (hY : MutL 1 3 lo u Y (ics nx)) (hok : Nt.NetOK D W s N nx ((q : Nat) : Int)) : Calls Tryz.prog 42 #[.agg #[.int .i64 D.b, .int .i64 D.f, .int .i64 D.r, .int .i64 D.o, .int .i64 W.b, .int .i64 W.f, .int .i64 W.r, .int .i64 W.o, .int .i64 (s : Int), X.v, Y.v, .int .i64 ((q : Nat) : Int)]] w (Post u w fun v u' => ∃ (x y z : Sl) (r : RL) (Rs : List Sl), v = .tuple #[.agg #[x.v, y.v, z.v, .bool r.s, .slice r.m.a r.m.n r.m.c, .slice r.d.a r.d.n r.d.c], .int .i64 0] ∧ MatV u' x s Rs (fun i => rowL s ((Nt.lnA (Nt.UQ W.f) N s nx) i)) 100 ∧ PolN u' y (rowL s (Nt.lnB (Nt.UQ W.f) N s nx)) 100 ∧ PolN u' z (rowL s (Nt.lnC (Nt.UQ W.f) N s ((q : Nat) : Int))) 100 ∧ RatN u' r (Nt.lnD (Nt.UQ W.f) N s ((q : Nat) : Int)) 100) := by
 obtain ⟨La, gA, gB, gC⟩ := id hN
 have hNl := hN.len
 have hD := hok.hd
 have hWc := hok.hw
 have hs64 := hok.hs
 have hn64 := hok.hn
 have hxs := hok.hx
 have hYr := MutL.slr hY
 have hYl : nx.length = Y.n := hYr.1
 have hqq := hok.hq
 have hbx : ∀ z ∈ nx, -9223372036854775808 ≤ z ∧ z ≤ 9223372036854775807 := fun z hz => by
  obtain ⟨j, hj, rfl⟩ := Nt.mem_getD hz
  have h9 := hok.hr j hj
  omega
 have hT1 : ∀ i, i < N.length → (La.getD i sl0).n = (N.getD i []).length ∧ (N.getD i []).length ≤ 64 := fun i hi => ⟨tms_len (gC i hi).1, (hok.ht i hi).1⟩
 obtain ⟨hd1, hd2, hd3, hd4, hd5, hd6, hd7, hd8⟩ := id hD
 obtain ⟨hw1, hw2, hw3, hw4, hw5, hw6, hw7, hw8⟩ := id hWc
 have hpw1 := Nt.zxp W.f
 have hpw2 := Nt.p2i_24 (n := W.f) xq
 have hpd1 := Nt.zxp (D.b - 1)
 have b8 : Nt.p2i (D.b - 1) ≤ 8388608 := Nt.zwe (b := 23) xq
 refine zzm (args := [.agg #[.int .i64 D.b, .int .i64 D.f, .int .i64 D.r, .int .i64 D.o, .int .i64 W.b, .int .i64 W.f, .int .i64 W.r, .int .i64 W.o, .int .i64 s, X.v, Y.v, .int .i64 q]]) Tryz.func42 rfl Tryz.ntmps42 (rs := [.cell 2 77, .tmp 3]) Tryz.results42 (le_b rfl) (le_b rfl) d ?_
 refine sq9 (zzk 1 ⟨72, [.int .i64 D.b, .int .i64 D.f, .int .i64 D.r, .int .i64 D.o, .int .i64 W.b, .int .i64 W.f, .int .i64 W.r, .int .i64 W.o, .int .i64 s, X.v, Y.v, .int .i64 q]⟩ (zzk 2 ⟨77, [.slice none 0 0, .slice none 0 0, .slice none 0 0, .bool false, .slice none 0 0, .slice none 0 0]⟩ (zza 3 (zI 0) (zzb (zzd (sq9 (zzi 11 (.v (.agg #[.int .i64 D.b, .int .i64 D.f, .int .i64 D.r, .int .i64 D.o, .int .i64 W.b, .int .i64 W.f, .int .i64 W.r, .int .i64 W.o, .int .i64 s, X.v, Y.v, .int .i64 q])) ty72 zze (zzg 12 105 _ fun _ _ aT b6 => Post.mono (k_netValid b6 (hN.ext aT) (hY.ext aT) hok) ?_))))))))
 rintro _ cD bI rfl
 refine zza 13 (zB false) (zzb (zys xj (zzs (zzp ?_))))
 refine sq9 (zza 15 (.adr 1 8) (zzi 16 (zI s) ty3 zzl (zyq 17 (x := zI (IntKind.i64.wrap ((s : Int) + 1))) (zI (s + 1 : Nat)) (eqI yq) (sy_makeF 18 (T := 75) (E := 26) (z := .slice none 0 0) (size := 1) (bytes := 24) (s + 1) ((List.replicate (s + 1) sl0).map Sl.v) xj xj rfl rfl xq yv (made_sls _) (fun aa cy cz cd f15 cb => ?_)))))
 have bu : MutQ 1 26 cD.heap.size cy (⟨some ⟨aa, 0, none⟩, s + 1, s + 1⟩ : Sl) ((List.replicate (s + 1) sl0).map Sl.v) := MutQ.lit cd (by rw [List.length_map, List.length_replicate, Nat.mul_one]) yv cb (nu_sls _)
 refine zza 4 (.v (.slice (some ⟨aa, 0, none⟩) (s + 1) (s + 1))) (zzb (zzd (sq9 (zza 19 (.v (.slice (some ⟨aa, 0, none⟩) (s + 1) (s + 1))) (zza 20 (zI (s + 1 : Nat)) (zza 21 (zI 0) (zzb (zzt (zyn (I := fun bF S' u' => ∃ (i : Nat) (Rc : List Sl), (bF = s + 1 - i) ∧ (i ≤ s + 1) ∧ (S' = St.of 106 [(1, .adr 1 0), (2, .adr 2 0), (4, .v (.slice (some ⟨aa, 0, none⟩) (s + 1) (s + 1))), (20, zI (s + 1 : Nat)), (21, zI i)] [(1, ⟨72, [.int .i64 D.b, .int .i64 D.f, .int .i64 D.r, .int .i64 D.o, .int .i64 W.b, .int .i64 W.f, .int .i64 W.r, .int .i64 W.o, .int .i64 s, X.v, Y.v, .int .i64 q]⟩), (2, ⟨77, [.slice none 0 0, .slice none 0 0, .slice none 0 0, .bool false, .slice none 0 0, .slice none 0 0]⟩)]) ∧ (Ext u u') ∧ (ColQ 26 u.heap.size u' (⟨some ⟨aa, 0, none⟩, s + 1, s + 1⟩ : Sl) (s + 1) Rc (fun j => Nt.colQ (Nt.UQ W.f) N s j) i 100)) (fun m S u1 u2 e h => by obtain ⟨i, Rc, hm, p0, hS, hE, f0⟩ := h; exact ⟨i, Rc, hm, p0, hS, hE.trans e, f0.ext e⟩) _ yw ⟨0, (List.replicate (s + 1) sl0), rfl, Nat.zero_le _, rfl, (aT.t (bI.t cz)), (ColQ.start (MutQ.ext (MutQ.low bu (Ext.size (aT.t bI.ext))) (Ext.refl _)))⟩ ?_)))))))))
 rintro bF _ cq ⟨i, Rc, b1, hi, rfl, af, cf⟩
 have hxc := ColQ.xn cf
 refine sq9 (zza 22 (zB (decide ((i : Int) < ((s + 1 : Nat) : Int)))) (zzb (zzd (zzu (b := decide ((i : Int) < ((s + 1 : Nat) : Int))) xj (fun ao => ?_) (fun ao => ?_)))))
 ·have qhb18 := of_decide_eq_true ao
  refine zzs (zzp ?_)
  refine zzd (zzt (sq9 (zza 23 (zI i) (zza 5 (zI i) (zzb (zzf (zza 24 (.v (.slice (some ⟨aa, 0, none⟩) (s + 1) (s + 1))) (zza 25 (zI i) (zzi 26 (.v (.agg #[.int .i64 D.b, .int .i64 D.f, .int .i64 D.r, .int .i64 D.o, .int .i64 W.b, .int .i64 W.f, .int .i64 W.r, .int .i64 W.o, .int .i64 s, X.v, Y.v, .int .i64 q])) ty72 zze (zza 27 (zI i) (zzg 28 106 _ fun _ ca ap b4 => Post.mono (k_nSpread (j := i) b4 (hN.ext (af.trans ap)) (hY.ext (af.trans ap)) hok xq) ?_)))))))))))
  rintro _ u23 bB ⟨y20, rfl, a5, bz⟩
  have ho26 := (cf.ext (ap.t bB.ext))
  obtain ⟨b26, aq, bX⟩ := ColQ.cell (i := i) ho26 xq
  refine zya 29 (0 + i * 1) (n := s + 1) (off := 0) (sz := 1) (i := (i : Int)) xq aq xq xq sl75 ?_
  have ho27 := (cf.ext (ap.t bB.ext))
  have aW : Sep (⟨some ⟨aa, 0, none⟩, s + 1, s + 1⟩ : Sl) y20 := sep_new (lo := ca.heap.size) ((MutQ.mutL (ColQ.out (ColQ.ext cf ap))).lt rfl) bz
  refine sy_storeQ (v := y20.v) (off := 0 + i * 1) (n := 1) (⟨some ⟨aa, 0, none⟩, s + 1, s + 1⟩ : Sl) (ColQ.out ho27) (MutQ.mayA (ColQ.out ho27) (Nat.le_refl _)) aq ty26 (by rw [List.length_map, ColQ.len ho27]; omega) (nu_sls [y20]) (fun cB br aw => ?_)
  have bq : MutQ 1 26 u.heap.size cB (⟨some ⟨aa, 0, none⟩, s + 1, s + 1⟩ : Sl) ((Rc.set i y20).map Sl.v) := by rw [← setL_map (y := y20) (i := i) (by rw [ColQ.len ho27]; omega)]; exact br
  have eX27r := ExtX.root aw (MutQ.mutL (ColQ.out ho27)) (af.t (ap.t bB.ext))
  have hC27 := ColQ.next ho27 bq aw xq a5 aW
  refine zzx ?_
  refine zzp (zzf (zyq 30 (x := zI (IntKind.i64.wrap ((i : Int) + 1))) (zI (i + 1 : Nat)) (eqI yq) (zza 21 (zI (i + 1 : Nat)) (zzx ?_))))
  refine ⟨_, ?_, _, by exact zzv _ _ _, i + 1, (Rc.set i y20), rfl, by omega, rfl, eX27r, hC27⟩
  omega
 have qhb18 := of_decide_eq_false ao
 refine zyc (zzp (zzd ?_))
 have hMc : MatV cq (⟨some ⟨aa, 0, none⟩, s + 1, s + 1⟩ : Sl) (s + 1) Rc (fun j => Nt.colQ (Nt.UQ W.f) N s j) 100 := ColQ.matV (by have h9 := cf; rw [show i = s + 1 by omega] at h9; exact h9)
 refine zzf (zza 31 (.adr 1 8) (zzi 32 (zI s) ty3 zzl (zzg 33 107 _ fun _ ad ab ce => Post.mono (k_nZero (n := s) ce xq) ?_)))
 rintro _ u29 bY ⟨xz, yB, yC, rz, R0, L0, rfl, bJ, b2, aL, aC, cn⟩
 have hxz := SysE.xn bJ
 refine zzk 6 ⟨77, [.slice none 0 0, .slice none 0 0, .slice none 0 0, .bool false, .slice none 0 0, .slice none 0 0]⟩ (zzj ⟨77, [xz.v, yB.v, yC.v] ++ rz.cs⟩ ty77 ?_)
 refine zzb (zzd (sq9 (zza 34 (.adr 1 10) (zzi 35 (.v (Y.v)) ty22 zzl (zza 36 (zI Y.n) (zza 37 (zI 0) (zzb (zzt (zyn (I := fun bK S' u' => ∃ (i2 : Nat) (La : List (List RL)), (bK = Y.n - i2) ∧ (i2 ≤ Y.n) ∧ (La.length = s + 2) ∧ (S' = St.of 106 [(1, .adr 1 0), (2, .adr 2 0), (4, .v (.slice (some ⟨aa, 0, none⟩) (s + 1) (s + 1))), (6, .adr 6 0), (35, .v (Y.v)), (36, zI Y.n), (37, zI i2)] [(1, ⟨72, [.int .i64 D.b, .int .i64 D.f, .int .i64 D.r, .int .i64 D.o, .int .i64 W.b, .int .i64 W.f, .int .i64 W.r, .int .i64 W.o, .int .i64 s, X.v, Y.v, .int .i64 q]⟩), (2, ⟨77, [.slice none 0 0, .slice none 0 0, .slice none 0 0, .bool false, .slice none 0 0, .slice none 0 0]⟩), (6, ⟨77, [xz.v, yB.v, yC.v] ++ rz.cs⟩)]) ∧ (Ext ad u') ∧ (SysE 26 32 ad.heap.size u' xz s R0 La (fun _ => s) (fun a b => if a < s then (if a < i2 then some ((Nt.lnA (Nt.UQ W.f) N s nx) a b) else none) else if a = s then (if b < i2 then some ((Nt.lnB (Nt.UQ W.f) N s nx) b) else none) else none) 100) ∧ (RatN u' rz ((0 : Int) : Rat) 2)) (fun m S u1 u2 e h => by obtain ⟨i2, La, hm, p0, p1, hS, hE, f0, f1⟩ := h; exact ⟨i2, La, hm, p0, p1, hS, hE.trans e, f0.ext e, f1.ext e⟩) _ yw ⟨0, L0, rfl, Nat.zero_le _, b2, rfl, bY.ext, (SysE.congr (SysE.more bJ xq) (fun a ha => rfl) (fun a b q _ _ hv => Nt.l0 hv)), cn⟩ ?_)))))))))
 rintro bK _ u32 ⟨i2, La, ct, hi2, hLa, rfl, aQ, g0, al⟩
 refine sq9 (zza 38 (zB (decide ((i2 : Int) < (Y.n : Int)))) (zzb (zzd (zzu (b := decide ((i2 : Int) < (Y.n : Int))) xj (fun ah => ?_) (fun ah => ?_)))))
 ·have qhb33 := of_decide_eq_true ah
  refine zzs (zzp ?_)
  refine zzd (zzt (sq9 (zza 39 (zI i2) ?_)))
  have hl34 := ((hYr.ext (af.trans (ab.trans aQ)))).1
  obtain ⟨b34, bQ, bA, bm⟩ := ints_at (hYr.ext (af.trans (ab.trans aQ))) (i := i2) xq
  have hz34 := ints_bd hbx xq i2
  refine zya 40 (bQ + i2 * 1) (n := Y.n) (off := bQ) (sz := 1) (i := (i2 : Int)) xq bA xq xq sl22 (zyl 41 (.int .i64 (nx.getD i2 0)) bm ty3 (zza 7 (zI i2) (zza 8 (zI (nx.getD i2 0)) (zzb (zzd (zzd ?_))))))
  have hrj := hok.hr i2 xq
  obtain ⟨kz, hkz⟩ : ∃ k : Nat, nx.getD i2 0 = (k : Int) := ⟨(nx.getD i2 0).toNat, by omega⟩
  rw [hkz]
  rw [hkz] at hrj
  refine zzf (zza 42 (.adr 1 8) (zzi 43 (zI s) ty3 zzl (zza 44 (zI 0) (zzc 106 [(1, .adr 1 0), (2, .adr 2 0), (4, .v (.slice (some ⟨aa, 0, none⟩) (s + 1) (s + 1))), (6, .adr 6 0), (7, zI i2), (8, zI kz), (35, .v (Y.v)), (36, zI Y.n), (37, zI i2), (43, zI s), (44, zI 0)] [(1, ⟨72, [.int .i64 D.b, .int .i64 D.f, .int .i64 D.r, .int .i64 D.o, .int .i64 W.b, .int .i64 W.f, .int .i64 W.r, .int .i64 W.o, .int .i64 s, X.v, Y.v, .int .i64 q]⟩), (2, ⟨77, [.slice none 0 0, .slice none 0 0, .slice none 0 0, .bool false, .slice none 0 0, .slice none 0 0]⟩), (6, ⟨77, [xz.v, yB.v, yC.v] ++ rz.cs⟩)] (zzt (zyn (I := fun bT S' u' => ∃ (j2 : Nat) (Lb : List (List RL)), (bT = s - j2) ∧ (j2 ≤ s) ∧ (Lb.length = s + 2) ∧ (S' = St.of 106 [(1, .adr 1 0), (2, .adr 2 0), (4, .v (.slice (some ⟨aa, 0, none⟩) (s + 1) (s + 1))), (6, .adr 6 0), (7, zI i2), (8, zI kz), (35, .v (Y.v)), (36, zI Y.n), (37, zI i2), (43, zI s), (44, zI j2)] [(1, ⟨72, [.int .i64 D.b, .int .i64 D.f, .int .i64 D.r, .int .i64 D.o, .int .i64 W.b, .int .i64 W.f, .int .i64 W.r, .int .i64 W.o, .int .i64 s, X.v, Y.v, .int .i64 q]⟩), (2, ⟨77, [.slice none 0 0, .slice none 0 0, .slice none 0 0, .bool false, .slice none 0 0, .slice none 0 0]⟩), (6, ⟨77, [xz.v, yB.v, yC.v] ++ rz.cs⟩)]) ∧ (Ext ad u') ∧ (SysE 26 32 ad.heap.size u' xz s R0 Lb (fun _ => s) (fun a b => if a < s then (if a < i2 ∨ a = i2 ∧ b < j2 then some ((Nt.lnA (Nt.UQ W.f) N s nx) a b) else none) else if a = s then (if b < i2 then some ((Nt.lnB (Nt.UQ W.f) N s nx) b) else none) else none) 100) ∧ (RatN u' rz ((0 : Int) : Rat) 2)) (fun m S u1 u2 e h => by obtain ⟨j2, Lb, hm, p0, p1, hS, hE, f0, f1⟩ := h; exact ⟨j2, Lb, hm, p0, p1, hS, hE.trans e, f0.ext e, f1.ext e⟩) _ yw ⟨0, La, rfl, Nat.zero_le _, hLa, rfl, aQ, (SysE.congr g0 (fun a ha => rfl) (fun a b q _ _ hv => Nt.l1 hv)), al⟩ ?_))))))
  rintro bT _ bN ⟨j2, Lb, b9, hj2, hLb, rfl, ae, j0, al⟩
  have hcl := Nt.colQ_len (U := (Nt.UQ W.f)) (N := N) (s := s) (j := j2 + 1)
  refine sq9 (zza 45 (zB (decide ((j2 : Int) < (s : Int)))) (zzb (zzd (zzu (b := decide ((j2 : Int) < (s : Int))) xj (fun ak => ?_) (fun ak => ?_)))))
  ·have qhb36 := of_decide_eq_true ak
   refine zzs (zzp ?_)
   refine zzd (zzt (sq9 (zza 46 (zI j2) (zza 9 (zI j2) (zzb (sw_anyC [0, 1, 0, 7, 15, 0, 0, 0, 128, 448, 960, 0, 4032, 8128, 16320, 32767, 65535] [(0, []), (1, []), (2, []), (3, []), (4, []), (5, []), (6, []), (7, []), (8, []), (9, []), (10, []), (11, []), (12, []), (13, []), (14, [])] [(15, []), (16, [])] xj xj xj ?_))))))
   refine zza 47 (.adr 6 0) (zzi 48 (.v (xz.v)) ty75 zzl (zza 49 (zI i2) ?_))
   have hq37 := j0
   obtain ⟨b37, bk, aX⟩ := SysE.cell (i := i2) hq37 xq
   have hn37 := SysE.xn hq37
   refine zya 50 (0 + i2 * 1) (n := xz.n) (off := 0) (sz := 1) (i := (i2 : Int)) xq bk xq xq sl75 (zyl 51 (.slice (R0.getD i2 sl0).a (R0.getD i2 sl0).n (R0.getD i2 sl0).c) aX ty26 (zza 52 (zI j2) (zza 53 (.v (.slice (some ⟨aa, 0, none⟩) (s + 1) (s + 1))) (zza 54 (zI j2) (zyq 55 (x := zI (IntKind.i64.wrap ((j2 : Int) + 1))) (zI (j2 + 1 : Nat)) (eqI yq) ?_)))))
   have hn38 := ((hMc.ext (ab.trans ae))).1
   obtain ⟨b38, bo, a0⟩ := ((hMc.ext (ab.trans ae))).2.1 (j2 + 1) xq
   refine zya 56 (0 + (j2 + 1) * 1) (n := s + 1) (off := 0) (sz := 1) (i := ((j2 + 1 : Nat) : Int)) xq bo xq yy sl75 ?_
   have aM : PolN bN (Rc.getD (j2 + 1) sl0) (Nt.colQ (Nt.UQ W.f) N s (j2 + 1)) 100 := ((hMc.ext (ab.trans ae))).2.2 (j2 + 1) xq
   refine zyl 57 (.slice (Rc.getD (j2 + 1) sl0).a (Rc.getD (j2 + 1) sl0).n (Rc.getD (j2 + 1) sl0).c) a0 ty26 (zza 58 (zI kz) ?_)
   have hl40 := aM.len
   obtain ⟨bW, b40, bO, bw, bj, aZ⟩ := pol_atN aM (i := kz) xq
   refine zya 59 (bO + kz * 3) (n := (Rc.getD (j2 + 1) sl0).n) (off := bO) (sz := 3) (i := (kz : Int)) xq bw xq xq sl26 (zym 60 bW.cs bj ty32 (zzg 61 68 _ fun _ _ az cl => Post.mono (k_ratTrim cl (aZ.ext az).raw xq) ?_))
   rintro _ u44 aP ⟨av, rfl, bZ⟩
   refine zzx ?_
   have hq47 := (SysE.ext j0 (az.t aP.ext))
   have bd : (Lb.getD i2 []).length = s := (SysE.wid hq47 i2 (by rw [hLb]; omega)).trans rfl
   have hr47 := SysE.row hq47 i2 (by rw [hLb]; omega)
   have hz47 := MutQ.rown hr47
   obtain ⟨b47, aA, cg⟩ := MutQ.el1 (j := j2) hr47 (by rw [bd]; omega)
   refine zya 62 (0 + j2 * 3) (n := (R0.getD i2 sl0).n) (off := 0) (sz := 3) (i := (j2 : Int)) xq aA xq xq sl26 ?_
   have ho48 := (SysE.ext j0 (az.t aP.ext))
   have ar : (Lb.getD i2 []).length = s := (SysE.wid ho48 i2 (by rw [hLb]; omega)).trans rfl
   have hy48 := SysE.row ho48 i2 (by rw [hLb]; omega)
   refine sy_storeQ (v := av.v) (off := 0 + j2 * 3) (n := 3) (R0.getD i2 sl0) hy48 (MutQ.mayA hy48 (Ext.size (af.trans ab))) aA ty32 (by rw [zyy, ar]; omega) (nu_rl av) (fun bV a7 ai => ?_)
   have bl : MutQ (1 * 3) 32 ad.heap.size bV (R0.getD i2 sl0) (rcs ((Lb.getD i2 []).set j2 av)) := by rw [← zyx (off := 0 + j2 * 3) (by rw [ar]; omega) xq]; exact a7
   have eX48r := ExtX.root ai (MutQ.mutL hy48) (ae.t (az.t aP.ext))
   have hS48 := SysE.store (i := i2) (j := j2) (r := av) (q := ((Nt.colQ (Nt.UQ W.f) N s (j2 + 1)).getD kz 0)) yz ho48 (by rw [hLb]; omega) (Nat.lt_of_lt_of_eq (show j2 < s by omega) (Eq.symm rfl)) bl ai bZ
   obtain ⟨bG, ay⟩ : ∃ Q9, Lb.set i2 ((Lb.getD i2 []).set j2 av) = Q9 := ⟨_, rfl⟩
   rewrite [ay] at hS48
   have bh : bG.length = s + 2 := by rw [← ay, List.length_set]; exact hLb
   have hkrz48 := MutQ.keep hy48 ai (al.ext (az.t aP.ext))
   refine zzx ?_
   refine zzp (zzf (zyq 63 (x := zI (IntKind.i64.wrap ((j2 : Int) + 1))) (zI (j2 + 1 : Nat)) (eqI yq) (zza 44 (zI (j2 + 1 : Nat)) (zzx ?_))))
   refine ⟨_, ?_, _, by exact zzv _ _ _, j2 + 1, bG, rfl, by omega, bh, rfl, eX48r, (SysE.congr hS48 (fun a ha => rfl) (fun a b q _ hb hv => by rw [show (Nt.colQ (Nt.UQ W.f) N s (j2 + 1)).getD kz 0 = (Nt.lnA (Nt.UQ W.f) N s nx) i2 j2 from by unfold Nt.lnA; rw [hkz]; rfl]; exact Nt.l2 xq hv)), hkrz48⟩
   omega
  have qhb36 := of_decide_eq_false ak
  refine zyc (zzp ?_)
  have hcl0 := Nt.colQ_len (U := (Nt.UQ W.f)) (N := N) (s := s) (j := 0)
  refine sw_anyC [0, 1, 0, 0, 8, 24, 0, 120, 248, 504, 1023, 2047] [(0, []), (1, []), (2, []), (3, []), (4, []), (5, []), (6, []), (7, []), (8, []), (9, [])] [(10, []), (11, [])] xj xj xj ?_
  refine zza 64 (.adr 6 1) (zzi 65 (.v (yB.v)) ty26 zzl (zza 66 (zI i2) (zza 67 (.v (.slice (some ⟨aa, 0, none⟩) (s + 1) (s + 1))) ?_)))
  have hn49 := ((hMc.ext (ab.trans ae))).1
  obtain ⟨b49, bf, a3⟩ := ((hMc.ext (ab.trans ae))).2.1 0 xq
  refine zya 68 (0 + 0 * 1) (n := s + 1) (off := 0) (sz := 1) (i := 0) xq bf xq yy sl75 ?_
  have aG : PolN bN (Rc.getD 0 sl0) (Nt.colQ (Nt.UQ W.f) N s 0) 100 := ((hMc.ext (ab.trans ae))).2.2 0 xq
  refine zyl 69 (.slice (Rc.getD 0 sl0).a (Rc.getD 0 sl0).n (Rc.getD 0 sl0).c) a3 ty26 (zza 70 (zI kz) ?_)
  have hl51 := aG.len
  obtain ⟨cA, b51, bS, a8, be, bC⟩ := pol_atN aG (i := kz) xq
  refine zya 71 (bS + kz * 3) (n := (Rc.getD 0 sl0).n) (off := bS) (sz := 3) (i := (kz : Int)) xq a8 xq xq sl26 (zym 72 cA.cs be ty32 (zzg 73 68 _ fun _ _ aJ cp => Post.mono (k_ratTrim cp (bC.ext aJ).raw xq) ?_))
  rintro _ u55 aU ⟨aH, rfl, cx⟩
  refine zzx ?_
  have hq58 := (SysE.ext j0 (aJ.t aU.ext))
  have bn : (Lb.getD s []).length = s := (SysE.wid hq58 s (by rw [hLb]; omega)).trans rfl
  have hr58 := SysE.row hq58 s (by rw [hLb]; omega)
  rw [aL] at hr58
  have hz58 := MutQ.rown hr58
  obtain ⟨b58, aK, b0⟩ := MutQ.el1 (j := i2) hr58 (by rw [bn]; omega)
  refine zya 74 (0 + i2 * 3) (n := yB.n) (off := 0) (sz := 3) (i := (i2 : Int)) xq aK xq xq sl26 ?_
  have ho59 := (SysE.ext j0 (aJ.t aU.ext))
  have aF : (Lb.getD s []).length = s := (SysE.wid ho59 s (by rw [hLb]; omega)).trans rfl
  have hy59 := SysE.row ho59 s (by rw [hLb]; omega)
  rw [aL] at hy59
  refine sy_storeQ (v := aH.v) (off := 0 + i2 * 3) (n := 3) yB hy59 (MutQ.mayA hy59 (Ext.size (af.trans ab))) aK ty32 (by rw [zyy, aF]; omega) (nu_rl aH) (fun b3 a6 am => ?_)
  have bb : MutQ (1 * 3) 32 ad.heap.size b3 yB (rcs ((Lb.getD s []).set i2 aH)) := by rw [← zyx (off := 0 + i2 * 3) (by rw [aF]; omega) xq]; exact a6
  have eX59r := ExtX.root am (MutQ.mutL hy59) (ae.t (aJ.t aU.ext))
  have hS59 := SysE.store (i := s) (j := i2) (r := aH) (q := ((Nt.colQ (Nt.UQ W.f) N s 0).getD kz 0)) yz ho59 (by rw [hLb]; omega) (Nat.lt_of_lt_of_eq (show i2 < s by omega) (Eq.symm rfl)) (by rw [aL]; exact bb) (by rw [aL]; exact am) cx
  obtain ⟨bP, aD⟩ : ∃ Q9, Lb.set s ((Lb.getD s []).set i2 aH) = Q9 := ⟨_, rfl⟩
  rewrite [aD] at hS59
  have bc : bP.length = s + 2 := by rw [← aD, List.length_set]; exact hLb
  have hkrz59 := MutQ.keep hy59 am (al.ext (aJ.t aU.ext))
  refine zzx ?_
  refine zzp (zzf (zyq 75 (x := zI (IntKind.i64.wrap ((i2 : Int) + 1))) (zI (i2 + 1 : Nat)) (eqI yq) (zza 37 (zI (i2 + 1 : Nat)) (zzx ?_))))
  refine ⟨_, ?_, _, by exact zzv _ _ _, i2 + 1, bP, rfl, by omega, bc, rfl, eX59r, (SysE.congr hS59 (fun a ha => rfl) (fun a b q _ hb hv => by rw [show (Nt.colQ (Nt.UQ W.f) N s 0).getD kz 0 = (Nt.lnB (Nt.UQ W.f) N s nx) i2 from by unfold Nt.lnB; rw [hkz]; rfl]; exact Nt.l3 hb xq hv)), hkrz59⟩
  omega
 have qhb33 := of_decide_eq_false ah
 refine zyc (zzp (zzd (sq9 (zza 76 (.adr 1 8) (zzi 77 (zI s) ty3 zzl (zza 78 (zI 0) (zzb (zzt (zyn (I := fun bH S' u' => ∃ (k : Nat) (Lc : List (List RL)), (bH = s - k) ∧ (k ≤ s) ∧ (Lc.length = s + 2) ∧ (S' = St.of 106 [(1, .adr 1 0), (2, .adr 2 0), (4, .v (.slice (some ⟨aa, 0, none⟩) (s + 1) (s + 1))), (6, .adr 6 0), (77, zI s), (78, zI k)] [(1, ⟨72, [.int .i64 D.b, .int .i64 D.f, .int .i64 D.r, .int .i64 D.o, .int .i64 W.b, .int .i64 W.f, .int .i64 W.r, .int .i64 W.o, .int .i64 s, X.v, Y.v, .int .i64 q]⟩), (2, ⟨77, [.slice none 0 0, .slice none 0 0, .slice none 0 0, .bool false, .slice none 0 0, .slice none 0 0]⟩), (6, ⟨77, [xz.v, yB.v, yC.v] ++ rz.cs⟩)]) ∧ (Ext ad u') ∧ (SysE 26 32 ad.heap.size u' xz s R0 Lc (fun _ => s) (fun a b => if a < s then some ((Nt.lnA (Nt.UQ W.f) N s nx) a b) else if a = s then some ((Nt.lnB (Nt.UQ W.f) N s nx) b) else if b < k then some ((Nt.lnC (Nt.UQ W.f) N s ((q : Nat) : Int)) b) else none) 100) ∧ (RatN u' rz ((0 : Int) : Rat) 2)) (fun m S u1 u2 e h => by obtain ⟨k, Lc, hm, p0, p1, hS, hE, f0, f1⟩ := h; exact ⟨k, Lc, hm, p0, p1, hS, hE.trans e, f0.ext e, f1.ext e⟩) _ yw ⟨0, La, rfl, Nat.zero_le _, hLa, rfl, aQ, (SysE.congr g0 (fun a ha => rfl) (fun a b q _ hb hv => Nt.l4 hb xq hv)), al⟩ ?_)))))))))
 rintro bH _ bL ⟨k, Lc, cc, hk, hLc, rfl, an, k0, al⟩
 have hcl := Nt.colQ_len (U := (Nt.UQ W.f)) (N := N) (s := s) (j := k + 1)
 refine sq9 (zza 79 (zB (decide ((k : Int) < (s : Int)))) (zzb (zzd (zzu (b := decide ((k : Int) < (s : Int))) xj (fun aj => ?_) (fun aj => ?_)))))
 ·have qhb61 := of_decide_eq_true aj
  refine zzs (zzp ?_)
  refine zzd (zzt (sq9 (zza 80 (zI k) (zza 10 (zI k) (zzc 106 [(1, .adr 1 0), (2, .adr 2 0), (4, .v (.slice (some ⟨aa, 0, none⟩) (s + 1) (s + 1))), (6, .adr 6 0), (10, zI k), (77, zI s), (78, zI k)] [(1, ⟨72, [.int .i64 D.b, .int .i64 D.f, .int .i64 D.r, .int .i64 D.o, .int .i64 W.b, .int .i64 W.f, .int .i64 W.r, .int .i64 W.o, .int .i64 s, X.v, Y.v, .int .i64 q]⟩), (2, ⟨77, [.slice none 0 0, .slice none 0 0, .slice none 0 0, .bool false, .slice none 0 0, .slice none 0 0]⟩), (6, ⟨77, [xz.v, yB.v, yC.v] ++ rz.cs⟩)] (sw_anyC [0, 1, 0, 0, 0, 16, 56, 120, 0, 256, 1016, 2040, 4088, 8191, 16383] [(0, []), (1, []), (2, []), (3, []), (4, []), (5, []), (6, []), (7, []), (8, []), (9, []), (10, []), (11, []), (12, [])] [(13, []), (14, [])] xj xj xj ?_))))))
  refine zza 81 (.adr 6 2) (zzi 82 (.v (yC.v)) ty26 zzl (zza 83 (zI k) (zza 84 (.v (.slice (some ⟨aa, 0, none⟩) (s + 1) (s + 1))) (zza 85 (zI k) (zyq 86 (x := zI (IntKind.i64.wrap ((k : Int) + 1))) (zI (k + 1 : Nat)) (eqI yq) ?_)))))
  have hn62 := ((hMc.ext (ab.trans an))).1
  obtain ⟨b62, a4, aV⟩ := ((hMc.ext (ab.trans an))).2.1 (k + 1) xq
  refine zya 87 (0 + (k + 1) * 1) (n := s + 1) (off := 0) (sz := 1) (i := ((k + 1 : Nat) : Int)) xq a4 xq yy sl75 ?_
  have aN : PolN bL (Rc.getD (k + 1) sl0) (Nt.colQ (Nt.UQ W.f) N s (k + 1)) 100 := ((hMc.ext (ab.trans an))).2.2 (k + 1) xq
  refine zyl 88 (.slice (Rc.getD (k + 1) sl0).a (Rc.getD (k + 1) sl0).n (Rc.getD (k + 1) sl0).c) aV ty26 (zza 89 (.adr 1 11) (zzi 90 (zI q) ty3 zzl ?_))
  have hl64 := aN.len
  obtain ⟨cm, b64, bD, bx, bs, bp⟩ := pol_atN aN (i := q) xq
  refine zya 91 (bD + q * 3) (n := (Rc.getD (k + 1) sl0).n) (off := bD) (sz := 3) (i := (q : Int)) xq bx xq xq sl26 (zym 92 cm.cs bs ty32 (zzg 93 68 _ fun _ _ aE ck => Post.mono (k_ratTrim ck (bp.ext aE).raw xq) ?_))
  rintro _ u68 aR ⟨aI, rfl, cw⟩
  refine zzx ?_
  have hq71 := (SysE.ext k0 (aE.t aR.ext))
  have aY : (Lc.getD (s + 1) []).length = s := (SysE.wid hq71 (s + 1) (by rw [hLc]; omega)).trans rfl
  have hr71 := SysE.row hq71 (s + 1) (by rw [hLc]; omega)
  rw [aC] at hr71
  have hz71 := MutQ.rown hr71
  obtain ⟨b71, aO, cj⟩ := MutQ.el1 (j := k) hr71 (by rw [aY]; omega)
  refine zya 94 (0 + k * 3) (n := yC.n) (off := 0) (sz := 3) (i := (k : Int)) xq aO xq xq sl26 ?_
  have ho72 := (SysE.ext k0 (aE.t aR.ext))
  have ax : (Lc.getD (s + 1) []).length = s := (SysE.wid ho72 (s + 1) (by rw [hLc]; omega)).trans rfl
  have hy72 := SysE.row ho72 (s + 1) (by rw [hLc]; omega)
  rw [aC] at hy72
  refine sy_storeQ (v := aI.v) (off := 0 + k * 3) (n := 3) yC hy72 (MutQ.mayA hy72 (Ext.size (af.trans ab))) aO ty32 (by rw [zyy, ax]; omega) (nu_rl aI) (fun b5 a2 ag => ?_)
  have a1 : MutQ (1 * 3) 32 ad.heap.size b5 yC (rcs ((Lc.getD (s + 1) []).set k aI)) := by rw [← zyx (off := 0 + k * 3) (by rw [ax]; omega) xq]; exact a2
  have eX72r := ExtX.root ag (MutQ.mutL hy72) (an.t (aE.t aR.ext))
  have hS72 := SysE.store (i := s + 1) (j := k) (r := aI) (q := ((Nt.colQ (Nt.UQ W.f) N s (k + 1)).getD q 0)) yz ho72 (by rw [hLc]; omega) (Nat.lt_of_lt_of_eq (show k < s by omega) (Eq.symm rfl)) (by rw [aC]; exact a1) (by rw [aC]; exact ag) cw
  obtain ⟨bR, au⟩ : ∃ Q9, Lc.set (s + 1) ((Lc.getD (s + 1) []).set k aI) = Q9 := ⟨_, rfl⟩
  rewrite [au] at hS72
  have bv : bR.length = s + 2 := by rw [← au, List.length_set]; exact hLc
  have hkrz72 := MutQ.keep hy72 ag (al.ext (aE.t aR.ext))
  refine zzx ?_
  refine zzp (zzf (zyq 95 (x := zI (IntKind.i64.wrap ((k : Int) + 1))) (zI (k + 1 : Nat)) (eqI yq) (zza 78 (zI (k + 1 : Nat)) (zzx ?_))))
  refine ⟨_, ?_, _, by exact zzv _ _ _, k + 1, bR, rfl, by omega, bv, rfl, eX72r, (SysE.congr hS72 (fun a ha => rfl) (fun a b q9 ha hb hv => by rw [show (Nt.colQ (Nt.UQ W.f) N s (k + 1)).getD q 0 = (Nt.lnC (Nt.UQ W.f) N s ((q : Nat) : Int)) k from rfl]; exact Nt.l5 xq hv)), hkrz72⟩
  omega
 have qhb61 := of_decide_eq_false aj
 refine zyc (zzp (zzd ?_))
 have hcl0 := Nt.colQ_len (U := (Nt.UQ W.f)) (N := N) (s := s) (j := 0)
 refine zzz [0, 1, 3, 0, 8, 31, 63, 127, 255, 511] [(0, []), (1, []), (2, []), (3, []), (4, []), (5, []), (6, []), (7, []), (8, []), (9, [])] xj xj (zza 96 (.v (.slice (some ⟨aa, 0, none⟩) (s + 1) (s + 1))) ?_)
 have hn73 := ((hMc.ext (ab.trans an))).1
 obtain ⟨b73, a9, ba⟩ := ((hMc.ext (ab.trans an))).2.1 0 xq
 refine zya 97 (0 + 0 * 1) (n := s + 1) (off := 0) (sz := 1) (i := 0) xq a9 xq yy sl75 ?_
 have aB : PolN bL (Rc.getD 0 sl0) (Nt.colQ (Nt.UQ W.f) N s 0) 100 := ((hMc.ext (ab.trans an))).2.2 0 xq
 refine zyl 98 (.slice (Rc.getD 0 sl0).a (Rc.getD 0 sl0).n (Rc.getD 0 sl0).c) ba ty26 (zza 99 (.adr 1 11) (zzi 100 (zI q) ty3 zzl ?_))
 have hl75 := aB.len
 obtain ⟨cC, b75, bE, bg, bi, bt⟩ := pol_atN aB (i := q) xq
 refine zya 101 (bE + q * 3) (n := (Rc.getD 0 sl0).n) (off := bE) (sz := 3) (i := (q : Int)) xq bg xq xq sl26 (zym 102 cC.cs bi ty32 (zzg 103 68 _ fun _ _ bU ci => Post.mono (k_ratTrim ci (bt.ext bU).raw xq) ?_))
 rintro _ u79 ch ⟨ac, rfl, b7⟩
 refine zza 104 (.adr 6 3) (zzj ⟨77, [xz.v, yB.v, yC.v] ++ ac.cs⟩ ty32 ?_)
 refine zzc 106 [(2, .adr 2 0), (6, .adr 6 0)] [(2, ⟨77, [.slice none 0 0, .slice none 0 0, .slice none 0 0, .bool false, .slice none 0 0, .slice none 0 0]⟩), (6, ⟨77, [xz.v, yB.v, yC.v] ++ ac.cs⟩)] (sq9 (zzi 105 (.v (.agg #[xz.v, yB.v, yC.v, .bool ac.s, ac.m.v, ac.d.v])) ty77 zze (zzj ⟨77, [xz.v, yB.v, yC.v] ++ ac.cs⟩ ty77 ?_)))
 refine zza 3 (zI 0) (zzb (zzo (ret0 [.agg #[xz.v, yB.v, yC.v, .bool ac.s, ac.m.v, ac.d.v], .int .i64 0] ⟨zzr ty77 zze, zzq, trivial⟩ fun u82 bM => ?_)))
 have hk9 : s = k := by omega
 have hQ := (SysE.ext k0 (bU.t (ch.t bM)))
 refine ⟨xz, yB, yC, ac, R0, rfl, SysE.matV (f := (Nt.lnA (Nt.UQ W.f) N s nx)) hQ (fun a b ha hb => if_pos ha), ?_, ?_, (b7.ext bM)⟩
 ·have h9 := SysE.pol (i := s) (f := fun _ b => (Nt.lnB (Nt.UQ W.f) N s nx) b) hQ xq (fun b hb => by rw [if_neg (Nat.lt_irrefl s), if_pos rfl])
  rw [aL] at h9; exact h9
 have h9 := SysE.pol (i := s + 1) (f := fun _ b => (Nt.lnC (Nt.UQ W.f) N s ((q : Nat) : Int)) b) hQ xq (fun b hb => by have hb : b < s := hb; rw [if_neg xq, if_neg xq, if_pos xq])
 rw [aC] at h9; exact h9
end Go.Proofs.YtgmkhhfbckjaeaaGreat
namespace Go.Proofs.YtgmkhhfbckjaeaaGreat
namespace Nt
section
variable {a b y z x : Nat → Rat} {n m N M i j d : Nat} {k C : Rat}
def sf (i : Nat) (y : Nat → Rat) (n : Nat) : Rat := if n < i then 0 else y (n - i)
theorem cv_fin (ha : ∀ i, M < i → a i = 0) : cv a y n = su (fun i => a i * sf i y n) (M + 1) := by
 have h1 : su (fun i => a i * sf i y n) (n + 1 + M) = cv a y n := by
  rw [su_split, su_0 (f := fun i => a (n + 1 + i) * sf (n + 1 + i) y n) (fun i _ => by unfold sf; rw [if_pos xq]; grind)]
  have : su (fun i => a i * sf i y n) (n + 1) = cv a y n := su_congr (fun i hi => by unfold sf; rw [if_neg xq])
  rw [this]; grind
 have h2 : su (fun i => a i * sf i y n) (M + 1 + n) = su (fun i => a i * sf i y n) (M + 1) := by
  rw [su_split (f := fun i => a i * sf i y n), su_0 (f := fun i => a (M + 1 + i) * sf (M + 1 + i) y n) (fun i _ => by rw [ha _ xq]; grind)]
  grind
 rw [← h1, ← h2]; congr 1; omega
def cr (y : Nat → Rat) (T i j : Nat) : Rat := su (fun n => sf i y n * sf j y n) T
theorem cr_comm (T : Nat) : cr y T i j = cr y T j i := su_congr (fun n _ => Rat.mul_comm _ _)
theorem cr_le (hy : ∀ n, N ≤ n → y n = 0) (hij : i ≤ j) (hj : j ≤ M) : cr y (N + M) i j = su (fun n => y (n + (j - i)) * y n) N := by
 unfold cr
 obtain ⟨e, rfl⟩ : ∃ e, M = j + e := ⟨M - j, by omega⟩
 rw [show N + (j + e) = j + (N + e) by omega, su_split, su_0 (n := j) (fun n hn => by unfold sf; rw [if_pos hn]; grind), su_split N e]
 rw [su_0 (f := fun n => sf i y (j + (N + n)) * sf j y (j + (N + n))) (fun n _ => by
  have : sf j y (j + (N + n)) = 0 := by unfold sf; rw [if_neg xq]; exact hy _ xq
  rw [this]; grind)]
 have e9 : su (fun n => sf i y (j + n) * sf j y (j + n)) N = su (fun n => y (n + (j - i)) * y n) N := su_congr (fun n _ => by
  unfold sf; rw [if_neg xq, if_neg xq, show j + n - i = n + (j - i) by omega, Nat.add_sub_cancel_left])
 rw [e9]; grind
theorem cr_rev (hy : ∀ n, N ≤ n → y n = 0) (hi : i ≤ M) (hj : j ≤ M) : cr y (N + M) (M - i) (M - j) = cr y (N + M) i j := by
 rcases Nat.le_total i j with h | h
 ·rw [cr_le hy h hj, cr_comm, cr_le hy (show M - j ≤ M - i by omega) xq]
  congr 1; funext n; rw [show M - i - (M - j) = j - i by omega]
 rw [cr_comm (i := i), cr_le hy h hi, cr_le hy (show M - i ≤ M - j by omega) xq]
 congr 1; funext n; rw [show M - j - (M - i) = i - j by omega]
theorem en_cr {T : Nat} (ha : ∀ i, M < i → a i = 0) : en (cv a y) T = su (fun i => su (fun j => a i * a j * cr y T i j) (M + 1)) (M + 1) := by
 have e1 : en (cv a y) T = su (fun n => su (fun i => su (fun j => a i * a j * (sf i y n * sf j y n)) (M + 1)) (M + 1)) T := su_congr (fun n _ => by
  rw [cv_fin ha, ← su_mul]
  refine su_congr (fun i _ => ?_)
  rw [Rat.mul_comm, ← su_mul]
  exact su_congr (fun j _ => by grind))
 rw [e1, su_swap]
 refine su_congr (fun i _ => ?_)
 rw [su_swap]
 refine su_congr (fun j _ => ?_)
 rw [su_mul]; rfl
theorem rv_fin (i : Nat) (h : M < i) : rv M a i = 0 := if_neg xq
theorem iso (hy : ∀ n, N ≤ n → y n = 0) (ha : ∀ i, M < i → a i = 0) : en (cv (rv M a) y) (N + M) = en (cv a y) (N + M) := by
 rw [en_cr ha, en_cr (a := rv M a) (M := M) (fun i h => rv_fin i h), ← su_rev (n := M)]
 refine su_congr (fun i hi => ?_)
 rw [← su_rev (n := M)]
 refine su_congr (fun j hj => ?_)
 rw [cr_rev hy xq xq]
 unfold rv
 rw [if_pos xq, if_pos xq, show M - (M - i) = i by omega, show M - (M - j) = j by omega]
def sol (a x : Nat → Rat) : Nat → List Rat
 | 0 => []
 | n + 1 => sol a x n ++ [x n - su (fun i => a (i + 1) * (sol a x n).getD (n - 1 - i) 0) n]
theorem sol_len : (sol a x n).length = n := by
 induction n with
 | zero => rfl
 | succ n ih => unfold sol; rw [List.length_append, ih]; rfl
theorem sol_get (h : j < n) : (sol a x n).getD j 0 = (sol a x (j + 1)).getD j 0 := by
 induction n with
 | zero => omega
 | succ n ih =>
  by_cases e : j = n
  ·rw [e]
  rw [← ih xq]
  rw [sol, List.getD_eq_getElem?_getD, List.getElem?_append_left (by rw [sol_len]; omega), ← List.getD_eq_getElem?_getD]
def so (a x : Nat → Rat) (n : Nat) : Rat := (sol a x (n + 1)).getD n 0
theorem so_eq : so a x n = x n - su (fun i => a (i + 1) * so a x (n - 1 - i)) n := by
 unfold so
 rw [sol, List.getD_eq_getElem?_getD, List.getElem?_append_right (by rw [sol_len]; exact Nat.le_refl _), sol_len, Nat.sub_self]
 show x n - su _ n = _
 rw [su_congr (fun i hi => by rw [sol_get (j := n - 1 - i) (n := n) xq])]
theorem so_cv (h0 : a 0 = 1) : cv a (so a x) n = x n := by
 unfold cv
 rw [su_head, h0, Nat.sub_zero, so_eq, su_congr (f := fun i => a (i + 1) * so a x (n - (i + 1))) (g := fun i => a (i + 1) * so a x (n - 1 - i)) (fun i _ => by rw [show n - (i + 1) = n - 1 - i by omega])]
 grind
theorem cv_uniq (h0 : a 0 = 1) (h : ∀ i, i < N → cv a y i = cv a z i) : ∀ i, i < N → y i = z i := by
 intro i
 induction i using Nat.strongRecOn with
 | ind i ih =>
  intro hi
  have h1 := h i hi
  unfold cv at h1
  rw [su_head, su_head, h0, Nat.sub_zero] at h1
  rw [su_congr (f := fun j => a (j + 1) * y (i - (j + 1))) (g := fun j => a (j + 1) * z (i - (j + 1))) (fun j hj => by rw [ih (i - (j + 1)) xq xq])] at h1
  grind
theorem cv_left0 (hy : y 0 = 1) (h : ∀ n, cv a y n = 0) : ∀ i, a i = 0 := by
 intro i
 induction i using Nat.strongRecOn with
 | ind i ih =>
  have h1 := h i
  unfold cv at h1
  rw [su_s, su_0 (fun j hj => by rw [ih j hj]; grind), Nat.sub_self, hy] at h1
  grind
theorem arch {e E : Rat} (he : 0 < e) : ∃ k : Nat, E < ((k : Int) : Rat) * e := by
 refine ⟨((E / e).floor + 1).toNat, ?_⟩
 have h1 : E / e < (((E / e).floor + 1 : Int) : Rat) := Rat.lt_floor_add_one _
 have h2 : (((E / e).floor + 1 : Int) : Rat) ≤ ((((E / e).floor + 1).toNat : Int) : Rat) := Rat.intCast_le_intCast.2 (Int.self_le_toNat _)
 have h3 : E / e < ((((E / e).floor + 1).toNat : Int) : Rat) := Std.lt_of_lt_of_le h1 h2
 exact (Rat.div_lt_iff he).1 h3
theorem tail {f : Nat → Rat} {E e : Rat} (hf : ∀ i, 0 ≤ f i) (hE : ∀ n, su f n ≤ E) (he : 0 < e) (N0 M : Nat) : ∃ T, N0 ≤ T ∧ su (fun i => f (T + i)) M ≤ e := by
 apply Classical.byContradiction
 intro hn
 have h1 : ∀ T, N0 ≤ T → e < su (fun i => f (T + i)) M := fun T hT => by
  apply Classical.byContradiction
  intro h2
  exact hn ⟨T, hT, Rat.not_lt.1 h2⟩
 have h2 : ∀ k : Nat, ((k : Int) : Rat) * e ≤ su f (N0 + k * M) := fun k => by
  induction k with
  | zero => have := su_nn (f := f) (n := N0 + 0 * M) (fun i _ => hf i); grind
  | succ k ih =>
   have h3 := h1 (N0 + k * M) xq
   rw [Nat.succ_mul, ← Nat.add_assoc, su_split]
   have e1 : (((k + 1 : Nat) : Int) : Rat) = ((k : Int) : Rat) + 1 := by rw [Int.natCast_add, Rat.intCast_add]; rfl
   rw [e1]; grind
 obtain ⟨k, hk⟩ := arch (E := E) he
 have h3 := h2 k
 have h4 := hE (N0 + k * M)
 grind
def cu (N : Nat) (y : Nat → Rat) (n : Nat) : Rat := if n < N then y n else 0
theorem cu_lt (h : n < N) : cu N y n = y n := if_pos h
theorem cu_ge (h : N ≤ n) : cu N y n = 0 := if_neg xq
theorem cut_small {B : Rat} (ha : ∀ i, M < i → a i = 0) (hB : ∀ y N, en (cv a y) N ≤ B * en y N) (T : Nat) : su (fun n => cv a (cu (T + M) y) (T + M + n) * cv a (cu (T + M) y) (T + M + n)) M ≤ B * su (fun i => y (T + i) * y (T + i)) M := by
 have h1 := hB (fun n => cu (T + M) y (T + n)) (M + M)
 have h2 : en (fun n => cu (T + M) y (T + n)) (M + M) = su (fun i => y (T + i) * y (T + i)) M := by
  unfold en
  rw [su_split, su_0 (f := fun n => cu (T + M) y (T + (M + n)) * cu (T + M) y (T + (M + n))) (fun n _ => by rw [cu_ge xq]; grind), su_congr (f := fun n => cu (T + M) y (T + n) * cu (T + M) y (T + n)) (g := fun i => y (T + i) * y (T + i)) (fun n hn => by rw [cu_lt xq])]
  grind
 have h3 : en (cv a fun n => cu (T + M) y (T + n)) (M + M) = su (fun i => cv a (fun n => cu (T + M) y (T + n)) i * cv a (fun n => cu (T + M) y (T + n)) i) M + su (fun n => cv a (cu (T + M) y) (T + M + n) * cv a (cu (T + M) y) (T + M + n)) M := by
  unfold en
  rw [su_split]
  congr 1
  refine su_congr (fun n hn => ?_)
  have e : cv a (fun n => cu (T + M) y (T + n)) (M + n) = cv a (cu (T + M) y) (T + M + n) := by
   rw [cv_fin ha, cv_fin ha]
   refine su_congr (fun i hi => ?_)
   unfold sf
   rw [if_neg xq, if_neg xq]
   show a i * cu (T + M) y (T + (M + n - i)) = _
   rw [show T + (M + n - i) = T + M + n - i by omega]
  rw [e]
 have h4 : 0 ≤ su (fun i => cv a (fun n => cu (T + M) y (T + n)) i * cv a (fun n => cu (T + M) y (T + n)) i) M := su_nn (fun i _ => sq0 _)
 rw [h2, h3] at h1
 grind
theorem rat_le_of {p q c : Rat} (hc : 0 ≤ c) (h : ∀ e, 0 < e → p ≤ q + c * e) : p ≤ q := by
 apply Classical.byContradiction
 intro hn
 have hd : 0 < p - q := by grind
 have hc1 : 0 < 2 * (c + 1) := by grind
 have h1 := h ((p - q) * (2 * (c + 1))⁻¹) (Rat.mul_pos hd (Rat.inv_pos.2 hc1))
 have h2 : (2 * (c + 1))⁻¹ * (2 * (c + 1)) = 1 := Rat.inv_mul_cancel _ (by grind)
 have h3 : 0 < (2 * (c + 1))⁻¹ := Rat.inv_pos.2 hc1
 have h4 : 0 < (p - q) * (2 * (c + 1))⁻¹ := Rat.mul_pos hd h3
 have h5 : c * ((p - q) * (2 * (c + 1))⁻¹) * 2 ≤ p - q := by
  have : (p - q) * ((2 * (c + 1))⁻¹ * (2 * (c + 1))) = p - q := by rw [h2]; grind
  grind
 grind
theorem OB.pa (h0 : a 0 = 1) (ha : ∀ i, M < i → a i = 0) (h : OB a) : PA M a := fun y N => by
 obtain ⟨C, hC, h⟩ := h
 obtain ⟨B, hB, hb⟩ := cv_bd (M + 1) a (fun i hi => ha i xq)
 have hx : ∀ T, en (cu N (cv a y)) T ≤ en (cv a y) N := fun T => by
  have e1 : en (cu N (cv a y)) N = en (cv a y) N := en_congr (fun i hi => cu_lt hi)
  rcases Nat.le_total T N with h1 | h1
  ·exact Rat.le_trans (en_mono h1) (by rw [e1]; exact Rat.le_refl)
  obtain ⟨e, rfl⟩ : ∃ e, T = N + e := ⟨T - N, by omega⟩
  have : en (cu N (cv a y)) (N + e) = en (cu N (cv a y)) N := by
   unfold en
   rw [su_split, su_0 (f := fun i => cu N (cv a y) (N + i) * cu N (cv a y) (N + i)) (fun i _ => by rw [cu_ge xq]; grind)]; grind
  rw [this, e1]; exact Rat.le_refl
 have hy : ∀ i, i < N → so a (cu N (cv a y)) i = y i := cv_uniq h0 (fun i hi => by rw [so_cv h0, cu_lt hi])
 have hz : ∀ T, en (so a (cu N (cv a y))) T ≤ C * en (cv a y) N := fun T => by
  refine Rat.le_trans (h _ T) (Rat.mul_le_mul_of_nonneg_left ?_ hC)
  rw [en_congr (y := cv a (so a (cu N (cv a y)))) (z := cu N (cv a y)) (fun i _ => so_cv h0)]
  exact hx T
 have e1 : en (cv (rv M a) y) N = en (cv (rv M a) (so a (cu N (cv a y)))) N := en_congr (fun i hi => cv_congr (fun _ _ => rfl) (fun j hj => (hy j xq).symm))
 rw [e1]
 generalize hZ : so a (cu N (cv a y)) = Z at *
 refine rat_le_of hB (fun e he => ?_)
 obtain ⟨T, hT, ht⟩ := tail (f := fun i => Z i * Z i) (fun i => sq0 _) hz he N M
 have g1 := cut_small (y := Z) ha hb T
 have g2 := iso (a := a) (y := cu (T + M) Z) (N := T + M) (M := M) (fun n hn => cu_ge hn) ha
 have g3 : en (cv (rv M a) Z) N ≤ en (cv (rv M a) (cu (T + M) Z)) (T + M + M) := by
  rw [en_congr (y := cv (rv M a) Z) (z := cv (rv M a) (cu (T + M) Z)) (fun i hi => cv_congr (fun _ _ => rfl) (fun j hj => (cu_lt xq).symm))]
  exact en_mono xq
 have g4 : en (cv a (cu (T + M) Z)) (T + M + M) = en (cv a (cu (T + M) Z)) (T + M) + su (fun n => cv a (cu (T + M) Z) (T + M + n) * cv a (cu (T + M) Z) (T + M + n)) M := su_split _ _
 have g5 : en (cv a (cu (T + M) Z)) (T + M) ≤ en (cv a y) N := by
  rw [en_congr (y := cv a (cu (T + M) Z)) (z := cu N (cv a y)) (fun i hi => by rw [cv_congr (a := a) (b := a) (y := cu (T + M) Z) (z := Z) (fun _ _ => rfl) (fun j hj => cu_lt xq), ← hZ, so_cv h0])]
  exact hx _
 have g6 := Rat.mul_le_mul_of_nonneg_left ht hB
 grind
theorem Step.down (s : Step m a b k) (h0 : a 0 = 1) (ha : ∀ i, m + 1 < i → a i = 0) (hk : k * k < 1) (h : OB a) : OB b := by
 have hp := h.pa h0 ha
 obtain ⟨C, hC, h⟩ := h
 refine ⟨4 * C, by grind, fun y N => ?_⟩
 have h1 := s.en (y := y) N
 have h2 := hp y N
 have h3 : Nt.en (sh (cv (rv m b) y)) N ≤ Nt.en (cv b y) N := by
  apply Classical.byContradiction
  intro hn
  have := Rat.mul_pos (show 0 < 1 - k * k by grind) (show 0 < Nt.en (sh (cv (rv m b) y)) N - Nt.en (cv b y) N by grind)
  grind
 have h4 : Nt.en (cv a y) N ≤ su (fun i => 2 * (cv b y i * cv b y i) + 2 * (k * k) * (sh (cv (rv m b) y) i * sh (cv (rv m b) y) i)) N := su_le (fun i _ => by
  rw [s.u i]
  have := sq0 (cv b y i - k * sh (cv (rv m b) y) i)
  grind)
 rw [su_add, su_mul, su_mul] at h4
 have h5 : 0 ≤ (1 - k * k) * Nt.en (sh (cv (rv m b) y)) N := Rat.mul_nonneg (by grind) en_nn
 have h6 : Nt.en (cv a y) N ≤ 4 * Nt.en (cv b y) N := by unfold Nt.en at *; grind
 have h7 := Rat.mul_le_mul_of_nonneg_left h6 hC
 have h8 := h y N
 grind
theorem OB.last (h0 : a 0 = 1) (ha : ∀ i, m + 1 < i → a i = 0) (h : OB a) : a (m + 1) * a (m + 1) < 1 := by
 have hp := h.pa h0 ha
 have r0 : rv (m + 1) a 0 = a (m + 1) := by unfold rv; rw [if_pos (Nat.zero_le _)]; rfl
 have hD : ∀ n, cv a (so a fun n => if n = 0 then 1 else 0) n = if n = 0 then 1 else 0 := fun n => so_cv h0
 obtain ⟨C, hC, h⟩ := h
 generalize hY : (so a fun n => if n = 0 then 1 else 0) = Y at hD
 have y0 : Y 0 = 1 := by have := hD 0; rw [cv_0, h0] at this; simpa using this
 have eD : ∀ N, en (cv a Y) (N + 1) = 1 := fun N => by
  unfold en
  rw [su_head, su_0 (fun i _ => by rw [hD]; simp), hD]; simp; grind
 apply Classical.byContradiction
 intro hk
 have v0 : cv (rv (m + 1) a) Y 0 = a (m + 1) := by rw [cv_0, r0, y0, Rat.mul_one]
 have hz : ∀ n, cv (rv (m + 1) a) Y (n + 1) = 0 := fun n => by
  have h1 := hp Y (n + 2)
  rw [eD] at h1
  unfold en at h1
  rw [su_s, su_head, v0] at h1
  have h2 : 0 ≤ su (fun i => cv (rv (m + 1) a) Y (i + 1) * cv (rv (m + 1) a) Y (i + 1)) n := su_nn (fun i _ => sq0 _)
  have h3 := sq0 (cv (rv (m + 1) a) Y (n + 1))
  have h4 : cv (rv (m + 1) a) Y (n + 1) * cv (rv (m + 1) a) Y (n + 1) = 0 := by grind
  exact (Rat.mul_eq_zero.1 h4).elim id id
 have hk1 : a (m + 1) * a (m + 1) = 1 := by
  have h1 := hp Y 1
  rw [eD 0] at h1
  unfold en at h1
  rw [su_head, v0] at h1
  have : su (fun i => cv (rv (m + 1) a) Y (i + 1) * cv (rv (m + 1) a) Y (i + 1)) 0 = 0 := rfl
  grind
 have hr : ∀ i, rv (m + 1) a i = a (m + 1) * a i := by
  have h1 : ∀ i, (fun i => -a (m + 1) * a i + rv (m + 1) a i) i = 0 := cv_left0 (y := Y) y0 (fun n => by
   rw [cv_lin, hD]
   cases n with
   | zero => rw [v0]; simp; grind
   | succ n => rw [hz]; simp; grind)
  intro i
  have := h1 i
  grind
 obtain ⟨B, hB, hb⟩ := cv_bd (m + 2) a (fun i hi => ha i xq)
 have hE : ∀ n, su (fun i => Y i * Y i) n ≤ C := fun n => by
  have h1 := h Y (n + 1)
  rw [eD, Rat.mul_one] at h1
  exact Rat.le_trans (en_mono (Nat.le_succ n)) h1
 obtain ⟨T, hT, ht⟩ := tail (f := fun i => Y i * Y i) (fun i => sq0 _) hE (show 0 < (2 * (B + 1))⁻¹ from Rat.inv_pos.2 (by grind)) 1 (m + 1)
 have g1 := cut_small (y := Y) ha hb T
 have gB := Rat.mul_le_mul_of_nonneg_left ht hB
 have gi : (2 * (B + 1))⁻¹ * (2 * (B + 1)) = 1 := Rat.inv_mul_cancel _ (by grind)
 generalize hc : cu (T + (m + 1)) Y = y at *
 have hy : ∀ n, T + (m + 1) ≤ n → y n = 0 := fun n hn => by rw [← hc]; exact cu_ge hn
 have hyl : ∀ n, n < T + (m + 1) → y n = Y n := fun n hn => by rw [← hc]; exact cu_lt hn
 have hcv : ∀ n, n < T + (m + 1) → cv a y n = if n = 0 then 1 else 0 := fun n hn => by
  rw [← hD n]; exact cv_congr (fun _ _ => rfl) (fun j hj => hyl j xq)
 -- the two correlations
 have cG : ∀ j, su (fun n => cv a y n * sf j y n) (T + (m + 1) + (m + 1)) = su (fun i => a i * cr y (T + (m + 1) + (m + 1)) i j) (m + 1 + 1) := fun j => by
  have e1 : su (fun n => cv a y n * sf j y n) (T + (m + 1) + (m + 1)) = su (fun n => su (fun i => a i * (sf i y n * sf j y n)) (m + 1 + 1)) (T + (m + 1) + (m + 1)) := su_congr (fun n _ => by
   rw [cv_fin ha, Rat.mul_comm, ← su_mul]
   exact su_congr (fun i _ => by grind))
  rw [e1, su_swap]
  exact su_congr (fun i _ => by rw [su_mul]; rfl)
 have cGr : su (fun i => a i * cr y (T + (m + 1) + (m + 1)) i (m + 1)) (m + 1 + 1) = a (m + 1) * su (fun i => a i * cr y (T + (m + 1) + (m + 1)) i 0) (m + 1 + 1) := by
  rw [← su_rev, ← su_mul]
  refine su_congr (fun i hi => ?_)
  have h1 := hr i
  unfold rv at h1
  rw [if_pos xq] at h1
  have h2 := cr_rev (N := T + (m + 1)) (M := m + 1) (i := i) (j := 0) hy xq (Nat.zero_le _)
  rw [Nat.sub_zero] at h2
  rw [h1, h2]; grind
 have G0 : su (fun n => cv a y n * sf 0 y n) (T + (m + 1) + (m + 1)) = 1 := by
  rw [su_split, su_0 (f := fun i => cv a y (T + (m + 1) + i) * sf 0 y (T + (m + 1) + i)) (fun i _ => by
   have : sf 0 y (T + (m + 1) + i) = 0 := by unfold sf; rw [if_neg xq]; exact hy _ xq
   rw [this]; grind)]
  obtain ⟨t, rfl⟩ : ∃ t, T = t + 1 := ⟨T - 1, by omega⟩
  rw [show t + 1 + (m + 1) = (t + (m + 1)) + 1 by omega, su_head, su_0 (fun i hi => by rw [hcv _ xq]; simp)]
  have e1 : sf 0 y 0 = 1 := by unfold sf; rw [if_neg xq, hyl _ xq]; exact y0
  rw [e1, hcv 0 xq]; simp; grind
 have Gm : su (fun n => cv a y n * sf (m + 1) y n) (T + (m + 1) + (m + 1)) = su (fun n => cv a y (T + (m + 1) + n) * Y (T + n)) (m + 1) := by
  rw [su_split, su_0 (n := T + (m + 1)) (fun i hi => by
   rw [hcv i hi]
   by_cases e : i = 0
   ·have : sf (m + 1) y i = 0 := by unfold sf; rw [if_pos xq]
    rw [this]; grind
   rw [if_neg e]; grind)]
  have e1 : su (fun i => cv a y (T + (m + 1) + i) * sf (m + 1) y (T + (m + 1) + i)) (m + 1) = su (fun n => cv a y (T + (m + 1) + n) * Y (T + n)) (m + 1) := su_congr (fun i hi => by
   have : sf (m + 1) y (T + (m + 1) + i) = Y (T + i) := by unfold sf; rw [if_neg xq, hyl _ xq]; congr 1; omega
   rw [this])
  rw [e1]; grind
 rw [← cG, ← cG, G0, Gm, Rat.mul_one] at cGr
 have b1 : su (fun n => cv a y (T + (m + 1) + n) * Y (T + n)) (m + 1) * 2 ≤ su (fun n => cv a y (T + (m + 1) + n) * cv a y (T + (m + 1) + n)) (m + 1) + su (fun i => Y (T + i) * Y (T + i)) (m + 1) := by
  rw [← su_add, Rat.mul_comm, ← su_mul]
  exact su_le (fun i _ => by have := sq0 (cv a y (T + (m + 1) + i) - Y (T + i)); grind)
 have b2 : su (fun n => cv a y (T + (m + 1) + n) * Y (T + n)) (m + 1) * (-2) ≤ su (fun n => cv a y (T + (m + 1) + n) * cv a y (T + (m + 1) + n)) (m + 1) + su (fun i => Y (T + i) * Y (T + i)) (m + 1) := by
  rw [← su_add, Rat.mul_comm, ← su_mul]
  exact su_le (fun i _ => by have := sq0 (cv a y (T + (m + 1) + i) + Y (T + i)); grind)
 rw [cGr] at b1 b2
 have b3 : B * (2 * (B + 1))⁻¹ + (2 * (B + 1))⁻¹ = 1 / 2 := by grind
 have h1 : a (m + 1) = 1 ∨ a (m + 1) = -1 := by
  have : (a (m + 1) - 1) * (a (m + 1) + 1) = 0 := by grind
  rcases Rat.mul_eq_zero.1 this with h | h
  ·exact .inl (by grind)
  exact .inr (by grind)
 rcases h1 with h1 | h1 <;> rw [h1] at b1 b2 <;> grind
end
end Nt
open Go.RowKit
namespace Nt
structure DownX (l : List Rat) (D : Nat → List Rat) (n t S : Nat) : Prop where
 len : l.length = n + 1
 nz : l.getD 0 0 ≠ 0
 top : D n = divS l (l.getD 0 0)
 dlen : ∀ m, m ≤ n → (D m).length = m + 1
 step : ∀ m, m < n → D m = dnS (D (m + 1)) (m + 1)
 small : ∀ m, t < m → m ≤ n → smallQ ((D m).getD m 0) = true
 bad : 1 ≤ t → smallQ ((D t).getD t 0) = false
 tn : t ≤ n
 sm : ∀ m, t ≤ m → m ≤ n → ∃ E A, Sm (D m) E A ∧ E ≤ 2 ^ A ∧ dg A ≤ S
theorem small_sq {q : Rat} (h : smallQ q = true) : q * q < 1 := by
 obtain ⟨h1, h2⟩ := small_iff.1 h
 have := Rat.mul_pos (show 0 < 1 - q by grind) (show 0 < 1 + q by grind)
 grind
section
variable {l : List Rat} {D : Nat → List Rat} {n t S m : Nat}
theorem DownX.d0 (h : DownX l D n t S) (h1 : t ≤ m) (h2 : m ≤ n) (hl : l.getD 0 0 = 1) : co (D m) 0 = 1 := by
 obtain ⟨j, rfl⟩ : ∃ j, m = n - j := ⟨n - m, by omega⟩
 clear h2
 induction j with
 | zero =>
  show (D n).getD 0 0 = 1
  rw [h.top, divS_at _ _ (by rw [h.len]; omega), hl]; grind
 | succ j ih =>
  by_cases e : n ≤ j
  ·rw [show n - (j + 1) = n - j by omega]; exact ih xq
  have h1' : t < n - j := by omega
  have h3 := small_sq (h.small (n - j) h1' xq)
  rw [h.step _ xq, show n - (j + 1) + 1 = n - j by omega]
  show (dnS _ _).getD 0 0 = 1
  rw [dnS_at _ xq, show (D (n - j)).getD 0 0 = 1 from ih xq, Nat.sub_zero]
  have e1 : ((1 : Int) : Rat) = 1 := rfl
  rw [e1, Rat.div_def, Rat.mul_inv_cancel _ (by grind)]
theorem DownX.st (h : DownX l D n t S) (h1 : t ≤ m) (h2 : m < n) (hl : l.getD 0 0 = 1) : Step m (co (D (m + 1))) (co (D m)) (co (D (m + 1)) (m + 1)) := by
 have h3 := small_sq (h.small (m + 1) xq xq)
 have ha0 := h.d0 (m := m + 1) xq xq hl
 have hb : ∀ i, i ≤ m + 1 → co (D m) i * (1 - co (D (m + 1)) (m + 1) * co (D (m + 1)) (m + 1)) = co (D (m + 1)) i - co (D (m + 1)) (m + 1) * co (D (m + 1)) (m + 1 - i) := fun i hi => by
  by_cases e : i = m + 1
  ·rw [e, Nat.sub_self, ha0, co_ge (l := D m) (by rw [h.dlen m xq]; omega)]; grind
  have e1 : co (D m) i = _ := (congrArg (co · i) (h.step m h2)).trans (dnS_at (D (m + 1)) xq)
  have e2 : ((1 : Int) : Rat) = 1 := rfl
  rw [e1, e2]
  exact Rat.div_mul_cancel (by show (1 - co (D (m + 1)) (m + 1) * co (D (m + 1)) (m + 1) : Rat) ≠ 0; unfold co; grind)
 have hsh : ∀ i, i ≤ m + 1 → sh (rv m (co (D m))) i = co (D m) (m + 1 - i) := fun i hi => by
  cases i with
  | zero => rw [sh_0, co_ge (by rw [h.dlen m xq]; omega)]
  | succ i => rw [sh_s]; unfold rv; rw [if_pos xq, Nat.add_sub_add_right]
 have hsh' : ∀ i, m + 1 < i → sh (rv m (co (D m))) i = 0 := fun i hi => by
  cases i with
  | zero => omega
  | succ i => rw [sh_s]; exact if_neg xq
 have hh : ∀ i, m + 1 < i → co (D m) i = 0 ∧ co (D (m + 1)) i = 0 := fun i hi => ⟨co_ge (by rw [h.dlen m xq]; omega), co_ge (by rw [h.dlen (m + 1) xq]; omega)⟩
 have h3' : co (D (m + 1)) (m + 1) * co (D (m + 1)) (m + 1) < 1 := h3
 generalize hk : co (D (m + 1)) (m + 1) = k at *
 have hne : (1 - k * k : Rat) ≠ 0 := by grind
 have canc : ∀ x y : Rat, x * (1 - k * k) = y * (1 - k * k) → x = y := fun x y e => by
  have : (x - y) * (1 - k * k) = 0 := by grind
  rcases Rat.mul_eq_zero.1 this with h | h
  ·grind
  exact absurd h hne
 refine ⟨fun i => ?_, fun i => ?_⟩
 ·by_cases hi : i ≤ m + 1
  ·rw [hsh i hi]
   have g1 := hb i hi
   have g2 := hb (m + 1 - i) xq
   rw [show m + 1 - (m + 1 - i) = i by omega] at g2
   exact canc _ _ (by grind)
  rw [hsh' i xq, (hh i xq).1, (hh i xq).2]; grind
 by_cases hi : i ≤ m + 1
 ·rw [hsh i hi]
  have g1 := hb i hi
  have g2 := hb (m + 1 - i) xq
  rw [show m + 1 - (m + 1 - i) = i by omega] at g2
  unfold rv
  rw [if_pos hi]
  exact canc _ _ (by grind)
 rw [hsh' i xq, (hh i xq).1, rv_fin i xq]; grind
theorem DownX.lt (h : DownX l D n t S) (h1 : t ≤ m) (ht : 1 ≤ t) (hs : smallQ ((D m).getD m 0) = true) : t < m := by
 rcases Nat.lt_or_eq_of_le h1 with h2 | h2
 ·exact h2
 subst h2
 rw [h.bad ht] at hs; cases hs
theorem DownX.down (h : DownX l D n t S) (ht : t = 0) : Down l D n S := by
 subst ht
 exact ⟨h.len, h.nz, h.top, h.dlen, h.step, fun m h1 h2 => h.small m xq h2, fun m hm => h.sm m (Nat.zero_le _) hm⟩
theorem DownX.fit {K : Nat} {u : World} {x : Sl} (h : DownX l D n t S) (ht : t ≤ m) (hm : m ≤ n) (hx : PolN u x (D m) K) : PolN u x (D m) S := by
 obtain ⟨E, A, h1, h2, h3⟩ := h.sm m ht hm
 exact (hx.fitS h1 h2).more h3
end
end Nt
namespace Nt
section
variable {a b y z : Nat → Rat} {t n : Nat}
theorem cv_h (t : Nat) : cv a y t = a 0 * y t + sh (cv (fun i => a (i + 1)) y) t := by
 cases t with
 | zero => rw [cv_0, sh_0]; grind
 | succ t => rw [cv_s, sh_s]
theorem cv_nul (h : ∀ i, a i = 0) (t : Nat) : cv a y t = 0 := su_0 (fun i _ => by rw [h]; grind)
theorem sh_eq (h : ∀ t, y t = z t) : sh y = sh z := by rw [show y = z from funext h]
theorem cv3 (h : ∀ i, 3 ≤ i → a i = 0) (t : Nat) : cv a y t = a 0 * y t + a 1 * sh y t + a 2 * sh (sh y) t := by
 have e3 : ∀ t, cv (fun i => a (i + 1 + 1 + 1)) y t = 0 := cv_nul (fun i => h _ xq)
 have e2 : ∀ t, cv (fun i => a (i + 1 + 1)) y t = a 2 * y t := fun t => by
  rw [cv_h, sh_eq (z := fun _ => 0) e3]
  cases t with
  | zero => rw [sh_0]; grind
  | succ t => rw [sh_s]; grind
 have e1 : ∀ t, cv (fun i => a (i + 1)) y t = a 1 * y t + a 2 * sh y t := fun t => by
  rw [cv_h, sh_eq (z := fun t => a 2 * y t) e2]
  cases t with
  | zero => rw [sh_0, sh_0]; grind
  | succ t => rw [sh_s, sh_s]
 rw [cv_h, sh_eq (z := fun t => a 1 * y t + a 2 * sh y t) e1]
 cases t with
 | zero => rw [sh_0, sh_0, sh_0]; grind
 | succ t => rw [sh_s, sh_s, sh_s]; grind
theorem cv_one (t : Nat) (h : ∀ t, y t = if t = 0 then 1 else 0) : cv a y t = a t := by
 unfold cv
 rw [su_s, Nat.sub_self, h 0, if_pos rfl, su_0 (fun i hi => by rw [h, if_neg xq]; grind)]; grind
end
end Nt
namespace Nt
section
variable {f : Int} {k v : List Int} {m i j t : Nat} {V : Nat → Rat} {W : Nat → Nat → Rat} {y z : Nat → Rat} {q : List Rat}
theorem ndB_a (U : Int) (k : List Int) (m n : Nat) (h : t < m) : (ndB U k m n).getD t [] = nd1 U k m t := by
 unfold ndB ndA
 rw [List.getD_eq_getElem?_getD, List.getElem?_append_left (by simp; exact h), List.getElem?_map, List.getElem?_range h]; rfl
theorem ndB_b (U : Int) (k : List Int) (m n : Nat) (h : t < n) : (ndB U k m n).getD (m + t) [] = nd2 U k m t := by
 unfold ndB
 rw [List.getD_eq_getElem?_getD, List.getElem?_append_right (by rw [ndA_len]; omega), ndA_len, Nat.add_sub_cancel_left, List.getElem?_map, List.getElem?_range h]; rfl
theorem latNd_len (U : Int) (k v : List Int) (m : Nat) : (latNd U k v m).length = 2 * m + 1 := by unfold latNd; rw [List.length_append, ndB_len]; simp; omega
theorem latNd_a (U : Int) (k v : List Int) (h : t < m) : (latNd U k v m).getD t [] = nd1 U k m t := by
 unfold latNd
 rw [getD_appl (by rw [ndB_len]; omega), ndB_a _ _ _ _ h]
theorem latNd_b (U : Int) (k v : List Int) (h : t < m) : (latNd U k v m).getD (m + t) [] = nd2 U k m t := by
 unfold latNd
 rw [getD_appl (by rw [ndB_len]; omega), ndB_b _ _ _ _ h]
theorem latNd_c (U : Int) (k v : List Int) (m : Nat) : (latNd U k v m).getD (2 * m) [] = lasN v m (m + 1) := by
 unfold latNd
 exact getD_appr (by rw [ndB_len]; omega)
def Vf (V : Nat → Rat) (m i : Nat) : Rat := V (fwdN m i).toNat
def Vg (V : Nat → Rat) (m i : Nat) : Rat := V (bakN m i).toNat
theorem fwd_nat (h : i < m) : (fwdN m i).toNat = 2 * m - i := by unfold fwdN; rw [if_neg xq, Int.toNat_natCast]
theorem bak_nat (h : 0 < i) : (bakN m i).toNat = 2 * m + i := by unfold bakN; rw [if_neg xq, Int.toNat_natCast]
theorem UQ_one (f : Int) : UQ f * (UQ f)⁻¹ = 1 := Rat.mul_inv_cancel _ (UQ_ne f)
theorem wq_d (z f : Int) : wq z f = (z : Rat) * (UQ f)⁻¹ := Rat.div_def _ _
theorem lat_f (hV : VE (UQ f) (latNd (p2i f) k v m) m V) (h : i < m) : Vf V m i = Vf V m (i + 1) - wq (k.getD i 0) f * V (i + 1) := by
 have e := hV (m - 1 - i) (by rw [latNd_len]; omega)
 rw [latNd_a _ _ _ xq] at e
 have e2 : V (1 + m + (m - 1 - i)) = (0 + UQ f * V (fwdN m (m - (m - 1 - i))).toNat + ((-k.getD (m - (m - 1 - i) - 1) 0 : Int) : Rat) * V (((m - (m - 1 - i) : Nat) : Int)).toNat) / UQ f := e
 rw [show m - (m - 1 - i) = i + 1 by omega, Int.toNat_natCast, Nat.add_sub_cancel, show 1 + m + (m - 1 - i) = 2 * m - i by omega, Rat.div_def, Rat.intCast_neg] at e2
 unfold Vf
 rw [fwd_nat h, e2, wq_d]
 have := UQ_one f
 grind
theorem lat_g (hV : VE (UQ f) (latNd (p2i f) k v m) m V) (h : i < m) : Vg V m (i + 1) = wq (k.getD i 0) f * Vf V m i + V (i + 1) := by
 have e := hV (m + i) (by rw [latNd_len]; omega)
 rw [latNd_b _ _ _ h] at e
 have e2 : V (1 + m + (m + i)) = (0 + ((k.getD i 0 : Int) : Rat) * V (fwdN m i).toNat + UQ f * V (((i + 1 : Nat) : Int)).toNat) / UQ f := e
 rw [Int.toNat_natCast, show 1 + m + (m + i) = 2 * m + (i + 1) by omega, Rat.div_def] at e2
 unfold Vg Vf
 rw [bak_nat xq, e2, wq_d]
 have := UQ_one f
 grind
theorem lat_q (hV : VE (UQ f) (latNd (p2i f) k v m) m V) : V (3 * m + 1) = su (fun i => wq (v.getD i 0) f * Vg V m i) (m + 1) := by
 have e := hV (2 * m) (by rw [latNd_len]; omega)
 rw [latNd_c, show 1 + m + 2 * m = 3 * m + 1 by omega] at e
 rw [e, Rat.div_def, ← su_mulr]
 have hl : (lasN v m (m + 1)).length = m + 1 := by unfold lasN; simp
 rw [hl]
 refine su_congr (fun i hi => ?_)
 have e2 : (lasN v m (m + 1)).getD i tl0 = ⟨bakN m i, v.getD i 0⟩ := by
  unfold lasN
  rw [List.getD_eq_getElem?_getD, List.getElem?_map, List.getElem?_range hi]; rfl
 rw [e2, wq_d]
 unfold Vg
 grind
def aS (q : List Rat) (i : Nat) : Nat → Rat := co (upL q i)
def rS (q : List Rat) (i : Nat) : Nat → Rat := co (revL q i)
theorem aS_ge (h : i < t) : aS q i t = 0 := co_ge (by rw [upL_len]; omega)
theorem rS_at (h : t ≤ i) : rS q i t = aS q i (i - t) := revL_at q h
theorem rS_ge (h : i < t) : rS q i t = 0 := co_ge (by rw [revL_len]; omega)
theorem aS_s (t : Nat) : aS q (i + 1) t = aS q i t + q.getD i 0 * sh (rS q i) t := by
 by_cases h : t ≤ i + 1
 ·have e : aS q (i + 1) t = aS q i t + q.getD i 0 * aS q i (i + 1 - t) := upL_at q xq
  rw [e]
  cases t with
  | zero => rw [sh_0, aS_ge (t := i + 1 - 0) xq]
  | succ t => rw [sh_s, rS_at xq, show i + 1 - (t + 1) = i - t by omega]
 obtain ⟨t, rfl⟩ : ∃ s, t = s + 1 := ⟨t - 1, by omega⟩
 rw [aS_ge xq, aS_ge xq, sh_s, rS_ge xq]; grind
theorem rS_s (t : Nat) : rS q (i + 1) t = sh (rS q i) t + q.getD i 0 * aS q i t := by
 by_cases h : t ≤ i + 1
 ·rw [rS_at h]
  have e : aS q (i + 1) (i + 1 - t) = aS q i (i + 1 - t) + q.getD i 0 * aS q i (i + 1 - (i + 1 - t)) := upL_at q xq
  rw [e, show i + 1 - (i + 1 - t) = t by omega]
  cases t with
  | zero => rw [sh_0, aS_ge (t := i + 1 - 0) xq]
  | succ t => rw [sh_s, rS_at xq, show i + 1 - (t + 1) = i - t by omega]
 obtain ⟨t, rfl⟩ : ∃ s, t = s + 1 := ⟨t - 1, by omega⟩
 rw [rS_ge xq, aS_ge xq, sh_s, rS_ge xq]; grind
theorem cv_sh1 (a y : Nat → Rat) (t : Nat) : cv (sh a) y t = sh (cv a y) t := cv_sh
theorem lat_st (hV : Imp (UQ f) (latNd (p2i f) k v m) m (nexN m m) W) (h : i < m) (t : Nat) : W t (i + 1) = sh (fun t => Vg (W t) m i) t := by
 cases t with
 | zero => rw [Nat.add_comm i 1, hV.st0 i h, sh_0]
 | succ t => rw [Nat.add_comm i 1, hV.st t i h, nexN_at _ _ h, if_pos h, sh_s]; rfl
theorem lat_seq (hV : Imp (UQ f) (latNd (p2i f) k v m) m (nexN m m) W) (hk : k.length = m) : ∀ i, i ≤ m → (∀ t, cv (aS (wqL f k) i) (fun t => Vf (W t) m 0) t = Vf (W t) m i) ∧ ∀ t, cv (rS (wqL f k) i) (fun t => Vf (W t) m 0) t = Vg (W t) m i := by
 have one : ∀ (y : Nat → Rat) t, cv (co [((1 : Int) : Rat)]) y t = y t := fun y t => by
  rw [cv3 (fun i hi => co_ge (by show 1 ≤ i; omega))]
  have c0 : co [((1 : Int) : Rat)] 0 = 1 := rfl
  have c1 : co [((1 : Int) : Rat)] 1 = 0 := rfl
  have c2 : co [((1 : Int) : Rat)] 2 = 0 := rfl
  rw [c0, c1, c2]; grind
 intro i
 induction i with
 | zero => exact fun _ => ⟨fun t => one _ t, fun t => one _ t⟩
 | succ i ih =>
  intro hi
  obtain ⟨i1, i2⟩ := ih xq
  have hq : (wqL f k).getD i 0 = wq (k.getD i 0) f := wqL_at f k xq
  have s1 : ∀ t, W t (i + 1) = sh (cv (rS (wqL f k) i) (fun t => Vf (W t) m 0)) t := fun t => by
   rw [lat_st hV xq, show (fun t => Vg (W t) m i) = cv (rS (wqL f k) i) (fun t => Vf (W t) m 0) from funext fun t => (i2 t).symm]
  refine ⟨fun t => ?_, fun t => ?_⟩
  ·have e : aS (wqL f k) (i + 1) = fun t => wq (k.getD i 0) f * sh (rS (wqL f k) i) t + aS (wqL f k) i t := funext fun t => by rw [aS_s, hq]; grind
   rw [e, cv_lin, cv_sh1, ← s1, i1, lat_f (hV.ve t) xq]; grind
  have e : rS (wqL f k) (i + 1) = fun t => wq (k.getD i 0) f * aS (wqL f k) i t + sh (rS (wqL f k) i) t := funext fun t => by rw [rS_s, hq]; grind
  rw [e, cv_lin, cv_sh1, ← s1, i1, lat_g (hV.ve t) xq]
theorem liS_co (n t : Nat) : co (liS f k v n) t = su (fun i => wq (v.getD i 0) f * rS (wqL f k) i t) n := by
 induction n with
 | zero => exact co_nil t
 | succ n ih =>
  show co (trimQ (addQ _ _)) t = _
  rw [trim_co, su_s]
  have e : co (addQ (liS f k v n) (trimQ ((revL (wqL f k) n).map (· * wq (v.getD n 0) f)))) t = co (liS f k v n) t + co (trimQ ((revL (wqL f k) n).map (· * wq (v.getD n 0) f))) t := addQ_co _ _ t
  rw [e, ih, trim_co]
  have e2 : co ((revL (wqL f k) n).map (· * wq (v.getD n 0) f)) t = co (revL (wqL f k) n) t * wq (v.getD n 0) f := co_map (· * wq (v.getD n 0) f) (Rat.zero_mul _) _ t
  rw [e2]
  show _ + rS (wqL f k) n t * _ = _
  grind
theorem lat_run (hV : Imp (UQ f) (latNd (p2i f) k v m) m (nexN m m) W) (hk : k.length = m) (t : Nat) : cv (aS (wqL f k) m) (fun t => W t (3 * m + 1)) t = co (liS f k v (m + 1)) t := by
 have out : (fun t => W t (3 * m + 1)) = fun t => su (fun i => wq (v.getD i 0) f * cv (rS (wqL f k) i) (fun t => Vf (W t) m 0) t) (m + 1) := funext fun t => by
  rw [lat_q (hV.ve t)]
  exact su_congr (fun i hi => by rw [(lat_seq hV hk i xq).2])
 have top : cv (aS (wqL f k) m) (fun t => Vf (W t) m 0) = fun t => if t = 0 then 1 else 0 := funext fun t => by
  rw [(lat_seq hV hk m (Nat.le_refl _)).1]
  unfold Vf fwdN
  rw [if_pos rfl]; exact hV.inp t
 have lin : ∀ n t, cv (aS (wqL f k) m) (fun t => su (fun i => wq (v.getD i 0) f * cv (rS (wqL f k) i) (fun t => Vf (W t) m 0) t) n) t = su (fun i => wq (v.getD i 0) f * rS (wqL f k) i t) n := by
  intro n
  induction n with
  | zero => intro t; rw [cv_comm]; exact cv_nul (fun i => rfl) t
  | succ n ih =>
   intro t
   have e : (fun t => su (fun i => wq (v.getD i 0) f * cv (rS (wqL f k) i) (fun t => Vf (W t) m 0) t) (n + 1)) = fun t => wq (v.getD n 0) f * cv (rS (wqL f k) n) (fun t => Vf (W t) m 0) t + su (fun i => wq (v.getD i 0) f * cv (rS (wqL f k) i) (fun t => Vf (W t) m 0) t) n := funext fun t => by rw [su_s]; grind
   have c1 : cv (cv (rS (wqL f k) n) (fun t => Vf (W t) m 0)) (aS (wqL f k) m) t = rS (wqL f k) n t := by
    rw [cv_assoc, cv_comm (fun t => Vf (W t) m 0), top]
    exact cv_one t (fun t => rfl)
   rw [e, cv_comm, cv_lin, c1, cv_comm, ih, su_s]
   have e9 : (fun t => cv (rS (wqL f k) n) (fun t => Vf (W t) m 0) t) = cv (rS (wqL f k) n) (fun t => Vf (W t) m 0) := rfl
   grind
 rw [out, lin, liS_co]
theorem lat_A (hb : Back (latNd (p2i f) k v m) m) (hj : j < m) : lnA (UQ f) (latNd (p2i f) k v m) m (nexN m m) 0 j = -wq (k.getD j 0) f ∧ ∀ i, i + 1 < m → lnA (UQ f) (latNd (p2i f) k v m) m (nexN m m) (i + 1) j = (if i ≤ j then -(wq (k.getD i 0) f * wq (k.getD j 0) f) else 0) + if i = j then 1 else 0 := by
 obtain ⟨V, hV, z, s, l⟩ := lnA_col (U := UQ f) (nx := nexN m m) hb j
 have s' : ∀ i, i < m → V (i + 1) = if i = j then 1 else 0 := fun i hi => by rw [Nat.add_comm i 1]; exact s i hi
 have ff : ∀ d i, i + d = m → Vf V m i = if i ≤ j then -wq (k.getD j 0) f else 0 := by
  intro d
  induction d with
  | zero =>
   intro i hi
   obtain rfl : i = m := by omega
   rw [if_neg xq]
   unfold Vf fwdN
   rw [if_pos rfl]; exact z
  | succ d ih =>
   intro i hi
   rw [lat_f hV xq, ih (i + 1) xq, s' i xq]
   by_cases e : i = j
   ·subst e
    rw [if_neg xq, if_pos rfl, if_pos (Nat.le_refl _)]; grind
   rw [if_neg e]
   by_cases e2 : i ≤ j
   ·rw [if_pos xq, if_pos e2]; grind
   rw [if_neg xq, if_neg e2]; grind
 have hm : 0 < m := by omega
 refine ⟨?_, fun i hi => ?_⟩
 ·rw [l, nexN_at _ _ hm, if_pos hm]
  have := ff m 0 xq
  rw [if_pos (Nat.zero_le _)] at this
  exact this
 rw [l, nexN_at _ _ hi, if_pos hi]
 have := lat_g hV (i := i) xq
 rw [ff (m - i) i xq, s' i xq] at this
 show Vg V m (i + 1) = _
 rw [this]
 by_cases e : i ≤ j
 ·rw [if_pos e, if_pos e]; grind
 rw [if_neg e, if_neg e]; grind
end
section
variable {A : Nat → Nat → Rat} {n k m : Nat} {p : Nat → Rat}
theorem flC_le (h0 : p 0 = 1) (h : ∀ k, k < n → (((k + 1 : Nat) : Int) : Rat) * p (k + 1) = -su (fun l => p l * mp m A (k + 1 - l)) (k + 1)) : ∀ k, k ≤ n → flC m A k = p k := by
 intro k
 induction k using Nat.strongRecOn with
 | ind k ih =>
  intro hk
  cases k with
  | zero => exact h0.symm
  | succ k =>
   show mT m (mM m A (flM m A k)) * (((-1 : Int) : Rat) / (((k + 1 : Nat) : Int) : Rat)) = _
   rw [flM_tr, su_congr (g := fun l => p l * mp m A (k + 1 - l)) (fun l hl => by rw [ih l xq xq])]
   have h1 := h k xq
   have h2 := castS_ne k
   generalize su (fun l => p l * mp m A (k + 1 - l)) (k + 1) = s at *
   generalize (((k + 1 : Nat) : Int) : Rat) = z at *
   have h3 : ((-1 : Int) : Rat) = -1 := rfl
   rw [h3]
   have h4 : z * (z⁻¹) = 1 := Rat.mul_inv_cancel _ h2
   rw [Rat.div_def]
   grind
theorem mM_3 {M : Nat → Nat → Rat} (i j : Nat) : mM 3 A M i j = A i 0 * M 0 j + A i 1 * M 1 j + A i 2 * M 2 j := by
 show 0 + A i 0 * M 0 j + A i 1 * M 1 j + A i 2 * M 2 j = _; grind
theorem mP_31 (i j : Nat) (hi : i < 3) (hj : j < 3) : mP 3 A 1 i j = A i j := by
 show mM 3 A mI i j = _
 rw [mM_3]
 unfold mI
 obtain rfl | rfl | rfl : j = 0 ∨ j = 1 ∨ j = 2 := by omega
 ·rw [if_pos rfl, if_neg yz, if_neg yz]; grind
 ·rw [if_neg yz, if_pos rfl, if_neg yz]; grind
 rw [if_neg yz, if_neg yz, if_pos rfl]; grind
theorem mP_3s (k i j : Nat) : mP 3 A (k + 1) i j = A i 0 * mP 3 A k 0 j + A i 1 * mP 3 A k 1 j + A i 2 * mP 3 A k 2 j := mM_3 i j
theorem mp_3 (k : Nat) : mp 3 A k = mP 3 A k 0 0 + mP 3 A k 1 1 + mP 3 A k 2 2 := by
 show 0 + mP 3 A k 0 0 + mP 3 A k 1 1 + mP 3 A k 2 2 = _; grind
end
section
variable {f : Int} {k v : List Int} {m j : Nat} {q : List Rat}
theorem aS_0 (q : List Rat) (i : Nat) : aS q i 0 = 1 := upL_zero q i
theorem aS_at {i t : Nat} (h : t ≤ i + 1) : aS q (i + 1) t = aS q i t + q.getD i 0 * aS q i (i + 1 - t) := upL_at q xq
theorem lat_fl (hb : Back (latNd (p2i f) k v m) m) (hk : k.length = m) (hm : m ≤ 3) : ∀ j, j ≤ m → flC m (lnA (UQ f) (latNd (p2i f) k v m) m (nexN m m)) j = aS (wqL f k) m j := by
 have hA := fun j (hj : j < m) => lat_A (f := f) (k := k) (v := v) hb hj
 have hq : ∀ i, i < m → (wqL f k).getD i 0 = wq (k.getD i 0) f := fun i hi => wqL_at f k xq
 generalize lnA (UQ f) (latNd (p2i f) k v m) m (nexN m m) = A at *
 generalize wqL f k = q at *
 have c1 : ((1 : Int) : Rat) = 1 := rfl
 have c2 : ((2 : Int) : Rat) = 2 := rfl
 have c3 : ((3 : Int) : Rat) = 3 := rfl
 have ad : aS q 1 1 = q.getD 0 0 := by
  rw [aS_at (i := 0) xq, aS_ge xq, Nat.sub_self, aS_0]; grind
 have aa : aS q 2 1 = q.getD 0 0 + q.getD 1 0 * q.getD 0 0 := by
  rw [aS_at (i := 1) xq, ad]
 have ac : aS q 2 2 = q.getD 1 0 := by
  rw [aS_at (i := 1) xq, aS_ge xq, show 1 + 1 - 2 = 0 from rfl, aS_0]; grind
 have ab : aS q 3 1 = q.getD 0 0 + q.getD 1 0 * q.getD 0 0 + q.getD 2 0 * q.getD 1 0 := by
  rw [aS_at (i := 2) xq, aa]; show _ + _ * aS q 2 2 = _; rw [ac]
 have ae : aS q 3 2 = q.getD 1 0 + q.getD 2 0 * (q.getD 0 0 + q.getD 1 0 * q.getD 0 0) := by
  rw [aS_at (i := 2) xq, ac]; show _ + _ * aS q 2 1 = _; rw [aa]
 have af : aS q 3 3 = q.getD 2 0 := by
  rw [aS_at (i := 2) xq, aS_ge xq, show 2 + 1 - 3 = 0 from rfl, aS_0]; grind
 obtain rfl | rfl | rfl | rfl : m = 0 ∨ m = 1 ∨ m = 2 ∨ m = 3 := by omega
 ·intro j hj
  obtain rfl : j = 0 := by omega
  rw [aS_0]; rfl
 ·have h0 := hA 0 xq
  refine flC_le (aS_0 _ _) (fun k hk => ?_)
  obtain rfl : k = 0 := by omega
  show ((1 : Int) : Rat) * aS q 1 1 = -(0 + aS q 1 0 * mp 1 A 1)
  have e1 : mp 1 A 1 = A 0 0 * mp 1 A 0 := mp_1 0
  rw [ad, aS_0, e1, mp_10, h0.1, hq 0 xq, c1]; grind
 ·have h0 := hA 0 xq
  have h1 := hA 1 xq
  have b0 := h0.2 0 xq
  have b1 := h1.2 0 xq
  rw [if_pos xq, if_pos rfl] at b0
  rw [if_pos xq, if_neg xq] at b1
  have h00 := h0.1
  have h01 := h1.1
  rw [← hq 0 xq] at h00 b0 b1
  rw [← hq 1 xq] at h01 b1
  have m2 : mp 2 A 2 = (A 0 0 + A 1 1) * mp 2 A 1 - (A 0 0 * A 1 1 - A 0 1 * A 1 0) * mp 2 A 0 := mp_2 0
  refine flC_le (aS_0 _ _) (fun k hk => ?_)
  obtain rfl | rfl : k = 0 ∨ k = 1 := by omega
  ·show ((1 : Int) : Rat) * aS q 2 1 = -(0 + aS q 2 0 * mp 2 A 1)
   rw [aa, aS_0, mp_21, h00, b1, c1]; grind
  show ((2 : Int) : Rat) * aS q 2 2 = -(0 + aS q 2 0 * mp 2 A 2 + aS q 2 1 * mp 2 A 1)
  rw [ac, aa, aS_0, m2, mp_21, mp_20, h00, h01, b0, b1, c2]; grind
 have h0 := hA 0 xq
 have h1 := hA 1 xq
 have h2 := hA 2 xq
 have b00 := h0.2 0 xq
 have b01 := h1.2 0 xq
 have b02 := h2.2 0 xq
 have b10 := h0.2 1 xq
 have b11 := h1.2 1 xq
 have b12 := h2.2 1 xq
 rw [if_pos xq, if_pos rfl] at b00
 rw [if_pos xq, if_neg xq] at b01
 rw [if_pos xq, if_neg xq] at b02
 rw [if_neg xq, if_neg xq] at b10
 rw [if_pos xq, if_pos rfl] at b11
 rw [if_pos xq, if_neg xq] at b12
 have h00 := h0.1
 have h01 := h1.1
 have h02 := h2.1
 rw [← hq 0 xq] at h00 b00 b01 b02
 rw [← hq 1 xq] at h01 b01 b11 b12
 rw [← hq 2 xq] at h02 b02 b12
 have t1 : mp 3 A 1 = A 0 0 + A 1 1 + A 2 2 := by rw [mp_3, mP_31 0 0 xq xq, mP_31 1 1 xq xq, mP_31 2 2 xq xq]
 have p2 : ∀ i j, i < 3 → j < 3 → mP 3 A 2 i j = A i 0 * A 0 j + A i 1 * A 1 j + A i 2 * A 2 j := fun i j hi hj => by
  rw [mP_3s, mP_31 0 j xq hj, mP_31 1 j xq hj, mP_31 2 j xq hj]
 have t2 : mp 3 A 2 = A 0 0 * A 0 0 + A 1 1 * A 1 1 + A 2 2 * A 2 2 + 2 * (A 0 1 * A 1 0) + 2 * (A 0 2 * A 2 0) + 2 * (A 1 2 * A 2 1) := by
  rw [mp_3, p2 0 0 xq xq, p2 1 1 xq xq, p2 2 2 xq xq]; grind
 have t3 : mp 3 A 3 = A 0 0 * (A 0 0 * A 0 0 + A 0 1 * A 1 0 + A 0 2 * A 2 0) + A 0 1 * (A 1 0 * A 0 0 + A 1 1 * A 1 0 + A 1 2 * A 2 0) + A 0 2 * (A 2 0 * A 0 0 + A 2 1 * A 1 0 + A 2 2 * A 2 0) + (A 1 0 * (A 0 0 * A 0 1 + A 0 1 * A 1 1 + A 0 2 * A 2 1) + A 1 1 * (A 1 0 * A 0 1 + A 1 1 * A 1 1 + A 1 2 * A 2 1) + A 1 2 * (A 2 0 * A 0 1 + A 2 1 * A 1 1 + A 2 2 * A 2 1)) + (A 2 0 * (A 0 0 * A 0 2 + A 0 1 * A 1 2 + A 0 2 * A 2 2) + A 2 1 * (A 1 0 * A 0 2 + A 1 1 * A 1 2 + A 1 2 * A 2 2) + A 2 2 * (A 2 0 * A 0 2 + A 2 1 * A 1 2 + A 2 2 * A 2 2)) := by
  rw [mp_3, mP_3s 2 0 0, mP_3s 2 1 1, mP_3s 2 2 2, p2 0 0 xq xq, p2 1 0 xq xq, p2 2 0 xq xq, p2 0 1 xq xq, p2 1 1 xq xq, p2 2 1 xq xq, p2 0 2 xq xq, p2 1 2 xq xq, p2 2 2 xq xq]
 refine flC_le (aS_0 _ _) (fun k hk => ?_)
 obtain rfl | rfl | rfl : k = 0 ∨ k = 1 ∨ k = 2 := by omega
 ·show ((1 : Int) : Rat) * aS q 3 1 = -(0 + aS q 3 0 * mp 3 A 1)
  rw [ab, aS_0, t1, h00, b01, b12, c1]; grind
 ·show ((2 : Int) : Rat) * aS q 3 2 = -(0 + aS q 3 0 * mp 3 A 2 + aS q 3 1 * mp 3 A 1)
  rw [ae, ab, aS_0, t1, t2, h00, h01, h02, b00, b01, b02, b10, b11, b12, c2]; grind
 show ((3 : Int) : Rat) * aS q 3 3 = -(0 + aS q 3 0 * mp 3 A 3 + aS q 3 1 * mp 3 A 2 + aS q 3 2 * mp 3 A 1)
 rw [af, ae, ab, aS_0, t1, t2, t3, h00, h01, h02, b00, b01, b02, b10, b11, b12, c3]; grind
end
end Nt
structure BL where
 D : WL
 W : WL
 n : Nat
 X : Sl
 Y : Sl
 o : Int
 t : Int
 f : Nat
def BL.cs (r : BL) : List Value := [.int .i64 r.D.b, .int .i64 r.D.f, .int .i64 r.D.r, .int .i64 r.D.o, .int .i64 r.W.b, .int .i64 r.W.f, .int .i64 r.W.r, .int .i64 r.W.o, .int .i64 (r.n : Int), .slice r.X.a r.X.n r.X.c, .slice r.Y.a r.Y.n r.Y.c, .int .i64 r.o, .int .i64 r.t, .int .i64 (r.f : Int)]
def FmOK (W : WL) : Prop := WdOK W ∧ 1 ≤ W.f
instance fmDec (W : WL) : Decidable (FmOK W) := by unfold FmOK; exact inferInstance
instance pasDec (f : Int) (p : PL) : Decidable (PasOK f p) := by unfold PasOK; exact inferInstance
def WvOK (W : WL) (L M : List PL) : Prop := FmOK W ∧ L.length ≤ 4 ∧ M.length ≤ 4 ∧ (∀ i, i < L.length → PasOK W.f (L.getD i pl0)) ∧ ∀ i, i < M.length → PasOK W.f (M.getD i pl0)
instance wvDec (W : WL) (L M : List PL) : Decidable (WvOK W L M) := by unfold WvOK; exact inferInstance
end Go.Proofs.YtgmkhhfbckjaeaaGreat
