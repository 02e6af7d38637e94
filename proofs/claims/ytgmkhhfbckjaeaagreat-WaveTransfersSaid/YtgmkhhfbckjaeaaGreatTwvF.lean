/- Parts of the proof: contracts of functions, each walked once, and plain laws. -/
import Derived.Test.YtgmkhhfbckjaeaaGreatTwvE
set_option linter.unusedVariables false
namespace Go.Proofs.YtgmkhhfbckjaeaaGreat
open Go.RowKit
theorem take_rcsY {L : List RL} {X : List Value} {n : Nat} (h : L.length = n) : (rcs L ++ X).take (n * 3) = rcs L := by
 rw [List.take_append_of_le_length (by rw [zyy, h]; exact Nat.le_refl _), List.take_of_length_le (by rw [zyy, h]; exact Nat.le_refl _)]
namespace Nt
def flBl (n : Nat) (A : Nat → Nat → Rat) : List Rat := (List.range (n + 1)).map (flC n A)
def flAt (n : Nat) (A : Nat → Nat → Rat) (B C : Nat → Rat) (k : Nat) : Rat := if k = 0 then 0 else su (fun i => C i * su (fun j => flM n A (k - 1) i j * B j) n) n
def flAl (n : Nat) (A : Nat → Nat → Rat) (B C : Nat → Rat) : List Rat := (List.range (n + 1)).map (flAt n A B C)
theorem flR_len {n : Nat} {f : Nat → Rat} : ((List.range n).map f).length = n := by simp
theorem flR_at {n k : Nat} {f : Nat → Rat} (h : k < n) : ((List.range n).map f).getD k 0 = f k := by
 rw [List.getD_eq_getElem?_getD, List.getElem?_map, List.getElem?_range h]; rfl
theorem flBl_len {n : Nat} {A : Nat → Nat → Rat} : (flBl n A).length = n + 1 := flR_len
theorem flAl_len {n : Nat} {A : Nat → Nat → Rat} {B C : Nat → Rat} : (flAl n A B C).length = n + 1 := flR_len
section
variable {n i a b : Nat} {q : Rat} {A : Nat → Nat → Rat} {T : Nat → Nat → Rat} {c : Rat}
theorem d0 (hv : (if a = b ∧ a < i + 1 then some (1 : Rat) else some 0) = some q) : up2 (fun a b => if a = b ∧ a < i then some (1 : Rat) else some 0) i i ((1 : Int) : Rat) a b = some q := by
 unfold up2
 dsimp only
 by_cases h0 : a = i ∧ b = i
 ·rw [if_pos h0]; rw [if_pos xq] at hv; exact hv
 rw [if_neg h0]
 by_cases h1 : a = b ∧ a < i
 ·rw [if_pos h1]; rw [if_pos xq] at hv; exact hv
 rw [if_neg h1]; rw [if_neg xq] at hv; exact hv
theorem d1 (ha : a < i) (hv : some (mI a b) = some q) : (if a = b ∧ a < i then some (1 : Rat) else some 0) = some q := by
 unfold mI at hv
 by_cases h : a = b
 ·rw [if_pos ⟨h, ha⟩]; rw [if_pos h] at hv; exact hv
 rw [if_neg (fun e => h e.1)]; rw [if_neg h] at hv; exact hv
theorem d2 (hv : some (T a b + if a = b ∧ a < i + 1 then c else 0) = some q) : up2 (fun a b => some (T a b + if a = b ∧ a < i then c else 0)) i i (T i i + c) a b = some q := by
 unfold up2
 dsimp only
 by_cases h0 : a = i ∧ b = i
 ·rw [if_pos h0]; rw [if_pos xq, h0.1, h0.2] at hv; exact hv
 rw [if_neg h0]
 by_cases h1 : a = b ∧ a < i
 ·rw [if_pos h1]; rw [if_pos xq] at hv; exact hv
 rw [if_neg h1]; rw [if_neg xq] at hv; exact hv
theorem d3 (ha : a < n) (hi : i = n) {k : Nat} (hv : some (flM n A (k + 1) a b) = some q) : some (mM n A (flM n A k) a b + if a = b ∧ a < i then flN n (mM n A (flM n A k)) k else 0) = some q := by
 rw [← hv]
 show _ = some (mM n A (flM n A k) a b + if a = b then flN n (mM n A (flM n A k)) k else 0)
 by_cases h : a = b
 ·rw [if_pos h, if_pos ⟨h, by omega⟩]
 rw [if_neg h, if_neg (fun e => h e.1)]
end
end Nt
set_option maxHeartbeats 2000000 in
theorem k_nSound {u w : World} {x y z : Sl} {r : RL} {n K : Nat} {Ra : List Sl} {A : Nat → Nat → Rat} {B C : Nat → Rat} {D0 : Rat} (d : Dat u w) (hA : MatV u x n Ra (fun i => rowL n (A i)) K) (hB : PolN u y (rowL n B) K) (hC : PolN u z (rowL n C) K) (hr : RatN u r D0 K) (hn : n ≤ 16) : Calls Tryz.prog 108 #[.agg #[x.v, y.v, z.v, .bool r.s, .slice r.m.a r.m.n r.m.c, .slice r.d.a r.d.n r.d.c]] w (Post u w fun v _ => v = .bool true) := by
 obtain ⟨xa, xn, xc⟩ := x
 obtain rfl : n = xn := hA.1.symm
 have hly : y.n = n := hB.len.trans rowL_len
 have hlz : z.n = n := hC.len.trans rowL_len
 refine zzm (args := [.agg #[.slice xa n xc, y.v, z.v, .bool r.s, r.m.v, r.d.v]]) Tryz.func108 rfl Tryz.ntmps108 (rs := [.tmp 2]) Tryz.results108 (le_b rfl) (le_b rfl) d ?_
 refine sq9 (zzk 1 ⟨77, [.slice xa n xc, y.v, z.v] ++ r.cs⟩ (zza 2 (zB false) (zzb (sq9 (zza 6 (.adr 1 0) (zzi 7 (.v (.slice xa n xc)) ty75 zzl (zza 8 (zI n) (zza 3 (zI n) (zzb (zzd (sq9 ?_)))))))))))
 refine zza 9 (zI n) (zza 10 (zB (decide ((64 : Int) < (n : Int)))) (zyq 11 (x := zB (decide ((64 : Int) < (n : Int)))) (zB false) (by rw [show (decide ((64 : Int) < (n : Int))) = false from decide_eq_false xq]) (zza 12 (.adr 1 1) ?_ (hw := w1 2 false 11))))
 refine zzi 13 (.v (y.v)) ty26 zzl ?_ (hw := w1 2 false 11)
 refine zza 14 (zI y.n) ?_ (hw := w1 2 false 11)
 refine zza 15 (zI n) ?_ (hw := w1 2 false 11)
 refine zza 16 (zB ((y.n : Int) != (n : Int))) ?_ (hw := w1 2 false 11)
 refine zza 17 (zB ((y.n : Int) != (n : Int))) (zyq 18 (x := zB ((y.n : Int) != (n : Int))) (zB false) (by rw [show ((y.n : Int) != (n : Int)) = false from (by first | (rw [hly]; exact bne_self_eq_false _) | (rw [hlz]; exact bne_self_eq_false _) | (rw [hlR]; exact bne_self_eq_false _))]) (zza 19 (.adr 1 2) ?_ (hw := w1 9 false 18)))
 refine zzi 20 (.v (z.v)) ty26 zzl ?_ (hw := w1 9 false 18)
 refine zza 21 (zI z.n) ?_ (hw := w1 9 false 18)
 refine zza 22 (zI n) ?_ (hw := w1 9 false 18)
 refine zza 23 (zB ((z.n : Int) != (n : Int))) ?_ (hw := w1 9 false 18)
 refine zza 24 (zB ((z.n : Int) != (n : Int))) (zzb (zzu (b := (z.n : Int) != (n : Int)) xj (fun hb => ?_) (fun hb => ?_)))
 ·exact absurd hb (by rw [show ((z.n : Int) != (n : Int)) = false from (by first | (rw [hly]; exact bne_self_eq_false _) | (rw [hlz]; exact bne_self_eq_false _) | (rw [hlR]; exact bne_self_eq_false _))]; decide)
 clear hb
 refine zzs (zzp ?_)
 refine zzd (sq9 (zza 25 (.adr 1 0) (zzi 26 (.v (.slice xa n xc)) ty75 zzl (zza 27 (zI n) (zza 28 (zI 0) (zzb (zzt (zyn (I := fun ae S' u' => ∃ (i : Nat), (ae = n - i) ∧ (i ≤ n) ∧ (S' = St.of 37 [(3, zI n), (26, .v (.slice xa n xc)), (27, zI n), (28, zI i)] []) ∧ (Ext u u')) (fun m S u1 u2 e h => by obtain ⟨i, hm, p0, hS, hE⟩ := h; exact ⟨i, hm, p0, hS, hE.trans e⟩) _ yz ⟨0, rfl, Nat.zero_le _, rfl, (Ext.refl _)⟩ ?_))))))))
 rintro ae _ af ⟨i, ag, hi, rfl, ab⟩
 refine sq9 (zza 29 (zB (decide ((i : Int) < (n : Int)))) (zzb (zzd (zzu (b := decide ((i : Int) < (n : Int))) xj (fun aa => ?_) (fun aa => ?_)))))
 ·have qhb14 := of_decide_eq_true aa
  refine zzs (zzp ?_)
  refine zzd (zzt (sq9 ?_))
  have hn15 := ((hA.ext ab)).1
  obtain ⟨b15, ac, ad⟩ := ((hA.ext ab)).2.1 i xq
  refine zya 30 (0 + i * 1) (n := n) (off := 0) (sz := 1) (i := (i : Int)) xq ac xq yy sl75 ?_
  have ah : PolN af (Ra.getD i sl0) (rowL n (A i)) K := ((hA.ext ab)).2.2 i xq
  refine zyl 31 (.slice (Ra.getD i sl0).a (Ra.getD i sl0).n (Ra.getD i sl0).c) ad ty26 (zza 5 (.v (.slice (Ra.getD i sl0).a (Ra.getD i sl0).n (Ra.getD i sl0).c)) (zzb (zzd ?_)))
  have hlR : (Ra.getD i sl0).n = n := (hA.2.2 i xq).len.trans rowL_len
  refine zzf (zza 32 (.v (.slice (Ra.getD i sl0).a (Ra.getD i sl0).n (Ra.getD i sl0).c)) (zza 33 (zI (((Ra.getD i sl0).n : Nat) : Int)) (zza 34 (zI n) (zza 35 (zB ((((Ra.getD i sl0).n : Nat) : Int) != (n : Int))) (zzc 37 [(3, zI n), (26, .v (.slice xa n xc)), (27, zI n), (28, zI i), (35, zB ((((Ra.getD i sl0).n : Nat) : Int) != (n : Int)))] [] (zzu (b := (((Ra.getD i sl0).n : Nat) : Int) != (n : Int)) xj (fun hb => ?_) (fun hb => ?_)))))))
  ·exact absurd hb (by rw [show ((((Ra.getD i sl0).n : Nat) : Int) != (n : Int)) = false from (by first | (rw [hly]; exact bne_self_eq_false _) | (rw [hlz]; exact bne_self_eq_false _) | (rw [hlR]; exact bne_self_eq_false _))]; decide)
  clear hb
  refine zzs (zzp ?_)
  refine zzf (zyq 36 (x := zI (IntKind.i64.wrap ((i : Int) + 1))) (zI (i + 1 : Nat)) (eqI yq) (zza 28 (zI (i + 1 : Nat)) (zzx ?_)))
  refine ⟨_, ?_, _, by exact zzv _ _ _, i + 1, rfl, by omega, rfl, ab⟩
  omega
 have qhb14 := of_decide_eq_false aa
 refine zyc (zzp (sq9 (zza 2 (zB true) (zzb (zzo (ret0 [.bool true] ⟨zzq, trivial⟩ fun u17 e18 => ?_))))))
 rfl
set_option maxHeartbeats 16000000 in
theorem k_nTransfer {u w : World} {x y z : Sl} {r : RL} {n K : Nat} {Ra : List Sl} {A : Nat → Nat → Rat} {B C : Nat → Rat} {D0 : Rat} {Dd a : Nat} (d : Dat u w) (hA : MatV u x n Ra (fun i => rowL n (A i)) K) (hB : PolN u y (rowL n B) K) (hC : PolN u z (rowL n C) K) (hr : RatN u r D0 K) (hK : K ≤ 2000) (hF : Nt.FlB n A B C Dd a) (ha : a ≤ 1920) : Calls Tryz.prog 43 #[.agg #[x.v, y.v, z.v, .bool r.s, .slice r.m.a r.m.n r.m.c, .slice r.d.a r.d.n r.d.c]] w (Post u w fun v u' => ∃ p q : Sl, v = .tuple #[.agg #[p.v, q.v], .int .i64 0] ∧ PolN u' p (Nt.trimQ (Nt.addQ (Nt.flAl n A B C) (Nt.trimQ ((Nt.flBl n A).map (· * D0))))) 10000 ∧ PolN u' q (Nt.trimQ (Nt.flBl n A)) 10000) := by
 obtain ⟨xa, xn, xc⟩ := x
 obtain rfl : n = xn := hA.1.symm
 have hly : y.n = n := hB.len.trans rowL_len
 have hlz : z.n = n := hC.len.trans rowL_len
 have hn16 := hF.hn
 refine zzm (args := [.agg #[.slice xa n xc, y.v, z.v, .bool r.s, r.m.v, r.d.v]]) Tryz.func43 rfl Tryz.ntmps43 (rs := [.cell 2 81, .tmp 3]) Tryz.results43 (le_b rfl) (le_b rfl) d ?_
 refine sq9 (zzk 1 ⟨77, [.slice xa n xc, y.v, z.v] ++ r.cs⟩ (zzk 2 ⟨81, [.slice none 0 0, .slice none 0 0]⟩ (zza 3 (zI 0) (zzb (zzd (sq9 (zzi 16 (.v (.agg #[.slice xa n xc, y.v, z.v, .bool r.s, r.m.v, r.d.v])) ty77 zze (zzg 17 108 _ fun _ _ aQ dk => Post.mono ((show Calls _ _ #[_] _ _ from k_nSound (x := ⟨xa, n, xc⟩) dk (hA.ext aQ) (hB.ext aQ) (hC.ext aQ) (hr.ext aQ) xq)) ?_))))))))
 rintro _ u12 c2 rfl
 refine zza 18 (zB false) (zzb (zys xj (zzs (zzp ?_))))
 refine sq9 (zza 20 (.adr 1 0) (zzi 21 (.v (.slice xa n xc)) ty75 zzl (zza 22 (zI n) (zza 4 (zI n) (zzb (zzd (sq9 (zza 23 (zI n) (zza 24 (zB (decide ((16 : Int) < (n : Int)))) (zzb (zzu (b := decide ((16 : Int) < (n : Int))) xj (fun hb => ?_) (fun hb => ?_))))))))))))
 ·exact absurd hb (by rw [show (decide ((16 : Int) < (n : Int))) = false from decide_eq_false xq]; decide)
 clear hb
 refine zzs (zzp ?_)
 refine sq9 (zzg 26 109 _ fun _ _ c4 dQ => Post.mono (k_ratOf dQ (z := 1) xq xq) ?_)
 rintro _ u18 cR ⟨bJ, rfl, db⟩
 refine sy_lit 27 ⟨32, bJ.cs⟩ 1 ?_
 refine zza 5 (.slc 27 0 1 1) (zzb (sq9 (zzg 28 109 _ fun _ _ cJ c9 => Post.mono (k_ratOf c9 (z := 0) xq xq) ?_)))
 rintro _ u24 cG ⟨bN, rfl, c8⟩
 refine sy_lit 29 ⟨32, bN.cs⟩ 1 ?_
 refine zza 6 (.slc 29 0 1 1) (zzb (sq9 (zza 30 (zI n) (zzg 31 107 _ fun _ _ bM c7 => Post.mono (k_nZero (n := n) c7 xq) ?_))))
 rintro _ da bZ ⟨xz, yB, yC, rz, R0, L0, rfl, cL, dt, dU, dd, hr0⟩
 have hSf := SysE.front cL
 have hLf : (L0.take n).length = n := by rw [List.length_take]; omega
 have hxz := SysE.xn cL
 refine zza 32 (.v (xz.v)) (zza 7 (.v (xz.v)) (zzb (zzd (zzd ?_))))
 have hSz : SysE 26 32 u.heap.size da xz n (R0.take n) (L0.take n) (fun _ => n) (fun a b => if a = b ∧ a < 0 then some (1 : Rat) else some 0) 2000 := SysE.congr (SysE.more (SysE.low hSf (Ext.size (aQ.t (c2.t (c4.t (cR.t (cJ.t (cG.t bM)))))))) xq) (fun a ha => rfl) (fun a b q ha hb hv => by rw [if_neg xq] at hv; exact hv)
 refine zzf (zza 33 (zI n) (zza 34 (zI 0) (zzb (zzt (zyn (I := fun cn S' u' => ∃ (i : Nat) (Lz : List (List RL)), (cn = n - i) ∧ (i ≤ n) ∧ (Lz.length = n) ∧ (S' = St.of 130 [(1, .adr 1 0), (2, .adr 2 0), (4, zI n), (5, .slc 27 0 1 1), (6, .slc 29 0 1 1), (7, .v (xz.v)), (33, zI n), (34, zI i)] [(1, ⟨77, [.slice xa n xc, y.v, z.v] ++ r.cs⟩), (2, ⟨81, [.slice none 0 0, .slice none 0 0]⟩), (27, ⟨32, bJ.cs⟩), (29, ⟨32, bN.cs⟩)]) ∧ (Ext u u') ∧ (SysE 26 32 u.heap.size u' xz n (R0.take n) Lz (fun _ => n) (fun a b => if a = b ∧ a < i then some (1 : Rat) else some 0) 2000) ∧ (RatN u' bJ ((1 : Int) : Rat) 2) ∧ (RatN u' bN ((0 : Int) : Rat) 2)) (fun m S u1 u2 e h => by obtain ⟨i, Lz, hm, p0, p1, hS, hE, f0, f1, f2⟩ := h; exact ⟨i, Lz, hm, p0, p1, hS, hE.trans e, f0.ext e, f1.ext e, f2.ext e⟩) _ yz ⟨0, (L0.take n), rfl, Nat.zero_le _, hLf, rfl, (aQ.t (c2.t (c4.t (cR.t (cJ.t (cG.t (bM.t bZ.ext))))))), hSz, (db.ext (cJ.t (cG.t (bM.t bZ.ext)))), (c8.ext (bM.t bZ.ext))⟩ ?_)))))
 rintro cn _ u31 ⟨i, Lz, bf, hi, hLz, rfl, c0, z0, z1, z2⟩
 replace bf : cn + i = n := by omega
 refine sq9 (zza 35 (zB (decide ((i : Int) < (n : Int)))) (zzb (zzd (zzu (b := decide ((i : Int) < (n : Int))) xj (fun aO => ?_) (fun aO => ?_)))))
 ·have qhb32 := of_decide_eq_true aO
  refine zzs (zzp ?_)
  refine zzd (zzt (sq9 (zza 36 (zI i) (zza 8 (zI i) (zzb (sw_anyC [0, 0, 3, 7, 0, 0, 63, 127] [(0, []), (1, []), (2, []), (3, []), (4, []), (5, [])] [(6, []), (7, [])] xj xj xj ?_))))))
  refine zza 37 (.v (xz.v)) (zza 38 (zI i) ?_)
  have hq33 := z0
  obtain ⟨b33, b6, bV⟩ := SysE.cell (i := i) hq33 xq
  have hn33 := SysE.xn hq33
  refine zya 39 (0 + i * 1) (n := xz.n) (off := 0) (sz := 1) (i := (i : Int)) xq b6 xq xq sl75 (zyl 40 (.slice ((R0.take n).getD i sl0).a ((R0.take n).getD i sl0).n ((R0.take n).getD i sl0).c) bV ty26 (zza 41 (zI i) (zzg 42 109 _ fun _ _ ba dE => Post.mono (k_ratOf dE (z := 1) xq xq) ?_)))
  rintro _ u37 bl ⟨a9, rfl, dr⟩
  refine zzx ?_
  have hq40 := (SysE.ext z0 (ba.t bl.ext))
  have cj : (Lz.getD i []).length = n := (SysE.wid hq40 i (by rw [hLz]; omega)).trans rfl
  have hr40 := SysE.row hq40 i (by rw [hLz]; omega)
  have hz40 := MutQ.rown hr40
  obtain ⟨b40, a8, dq⟩ := MutQ.el1 (j := i) hr40 (by rw [cj]; omega)
  refine zya 43 (0 + i * 3) (n := ((R0.take n).getD i sl0).n) (off := 0) (sz := 3) (i := (i : Int)) xq a8 xq xq sl26 ?_
  have ho41 := (SysE.ext z0 (ba.t bl.ext))
  have bh : (Lz.getD i []).length = n := (SysE.wid ho41 i (by rw [hLz]; omega)).trans rfl
  have hy41 := SysE.row ho41 i (by rw [hLz]; omega)
  refine sy_storeQ (v := a9.v) (off := 0 + i * 3) (n := 3) ((R0.take n).getD i sl0) hy41 (MutQ.mayA hy41 (Ext.size (Ext.refl _))) a8 ty32 (by rw [zyy, bh]; omega) (nu_rl a9) (fun dJ cm ao => ?_)
  have bS : MutQ (1 * 3) 32 u.heap.size dJ ((R0.take n).getD i sl0) (rcs ((Lz.getD i []).set i a9)) := by rw [← zyx (off := 0 + i * 3) (by rw [bh]; omega) xq]; exact cm
  have eX41r := ExtX.root ao (MutQ.mutL hy41) (c0.t (ba.t bl.ext))
  have hS41 := SysE.store (i := i) (j := i) (r := a9) (q := ((1 : Int) : Rat)) yj ho41 (by rw [hLz]; omega) (Nat.lt_of_lt_of_eq (show i < n by omega) (Eq.symm rfl)) bS ao (RatN.more (K := 2) dr xq)
  obtain ⟨cO, bE⟩ : ∃ Q9, Lz.set i ((Lz.getD i []).set i a9) = Q9 := ⟨_, rfl⟩
  rewrite [bE] at hS41
  have cH : cO.length = n := by rw [← bE, List.length_set]; exact hLz
  have hkr1641 := MutQ.keep hy41 ao (z1.ext (ba.t bl.ext))
  have hkr2241 := MutQ.keep hy41 ao (z2.ext (ba.t bl.ext))
  refine zzx ?_
  refine zzp (zzf (zyq 44 (x := zI (IntKind.i64.wrap ((i : Int) + 1))) (zI (i + 1 : Nat)) (eqI yq) (zza 34 (zI (i + 1 : Nat)) (zzx ?_))))
  refine ⟨_, ?_, _, by exact zzv _ _ _, i + 1, cO, rfl, by omega, cH, rfl, eX41r, (SysE.congr hS41 (fun a ha => rfl) (fun a b q _ _ hv => Nt.d0 hv)), hkr1641, hkr2241⟩
  omega
 have qhb32 := of_decide_eq_false aO
 refine zyc ?_
 clear bf
 refine zzp (zzd (zzd ?_))
 have hin : n = i := by omega
 subst hin
 refine sw_ren (r := 5) (t := 27) 120 [5, 27] xk xj zk zk xj xj ?_
 refine sw_ren (r := 6) (t := 29) 73 [6, 29] xk xj zk zk xj xj ?_
 refine zzf (zza 9 (zI 1) (zzb (zzt (zyn (I := fun bW S' u' => ∃ (k : Nat) (xm : Sl) (Rm : List Sl) (Lm : List (List RL)) (Lb : List RL) (Xb : List Value) (cb : Nat) (La : List RL) (Xa : List Value) (ca : Nat), (bW = n - k) ∧ (k ≤ n) ∧ (Lm.length = n) ∧ (Lb.length = k + 1) ∧ ((rcs Lb ++ Xb).length = cb * 3) ∧ (k + 1 ≤ cb) ∧ (cb ≤ maxLen) ∧ (La.length = k + 1) ∧ ((rcs La ++ Xa).length = ca * 3) ∧ (k + 1 ≤ ca) ∧ (ca ≤ maxLen) ∧ (S' = St.of 130 [(1, .adr 1 0), (2, .adr 2 0), (4, zI n), (5, .slc 120 0 (k + 1) cb), (6, .slc 73 0 (k + 1) ca), (7, .v (xm.v)), (9, zI (k + 1 : Nat))] [(1, ⟨77, [.slice xa n xc, y.v, z.v] ++ r.cs⟩), (2, ⟨81, [.slice none 0 0, .slice none 0 0]⟩), (73, ⟨32, rcs La ++ Xa⟩), (120, ⟨32, rcs Lb ++ Xb⟩)]) ∧ (Ext u u') ∧ (SysE 26 32 u.heap.size u' xm n Rm Lm (fun _ => n) (fun a b => some (Nt.flM n A k a b)) 2000) ∧ (RatsN u' Lb ((Nt.flBl n A).take (k + 1)) 2000) ∧ (RatsN u' La ((Nt.flAl n A B C).take (k + 1)) 2000)) (fun m S u1 u2 e h => by obtain ⟨k, xm, Rm, Lm, Lb, Xb, cb, La, Xa, ca, hm, p0, p1, p2, p3, p4, p5, p6, p7, p8, p9, hS, hE, f0, f1, f2⟩ := h; exact ⟨k, xm, Rm, Lm, Lb, Xb, cb, La, Xa, ca, hm, p0, p1, p2, p3, p4, p5, p6, p7, p8, p9, hS, hE.trans e, f0.ext e, f1.ext e, f2.ext e⟩) _ yz ⟨0, xz, (R0.take n), Lz, [bJ], [], 1, [bN], [], 1, rfl, Nat.zero_le _, hLz, rfl, rfl, (Nat.le_refl _), yv, rfl, rfl, (Nat.le_refl _), yv, rfl, c0, (SysE.congr z0 (fun a ha => rfl) (fun a b q ha hb hv => Nt.d1 xq hv)), (app_first (RatN.more (K := 2) z1 xq) (by rw [Nt.flBl_len]; omega) (by unfold Nt.flBl; rw [Nt.flR_at xq]; rfl)), (app_first (RatN.more (K := 2) z2 xq) (by rw [Nt.flAl_len]; omega) (by unfold Nt.flAl; rw [Nt.flR_at xq]; rfl))⟩ ?_))))
 rintro bW _ cW ⟨k, xm, Rm, Lm, Lb, Xb, cb, La, Xa, ca, a3, hk, hLm, hLb, hcb, hleb, hmxb, hLa, hca, hlea, hmxa, rfl, aR, o0, o1, o2⟩
 replace a3 : bW + k = n := by omega
 (try clear dt); (try clear dU); (try clear dd); (try clear hLf); (try clear hxz); (try clear hLz)
 have hxm := SysE.xn o0
 have hMv : MatV cW xm n Rm (fun i => rowL n (Nt.flM n A k i)) 2000 := SysE.matV (f := Nt.flM n A k) o0 (fun i j _ _ => rfl)
 refine zzd (sq9 (zza 45 (zI (k + 1 : Nat)) (zza 46 (zI n) (zza 47 (zB (decide (((k + 1 : Nat) : Int) ≤ (n : Int)))) (zzb (zzu (b := decide (((k + 1 : Nat) : Int) ≤ (n : Int))) xj (fun aM => ?_) (fun aM => ?_)))))))
 ·have qhb43 := of_decide_eq_true aM
  refine zzs (zzp ?_)
  refine zzd (zzt (sq9 (zza 50 (zI n) (sy_make 51 (T := 26) (E := 32) (z := .agg #[.bool false, .slice none 0 0, .slice none 0 0]) (size := 3) (bytes := 56) n (rcs (List.replicate n rl0)) xj xj rfl rfl xq yv (made_rcs _) ?_))))
  refine zza 10 (.slc 51 0 n n) (zzc 130 [(1, .adr 1 0), (2, .adr 2 0), (4, zI n), (5, .slc 120 0 (k + 1) cb), (6, .slc 73 0 (k + 1) ca), (7, .v (xm.v)), (9, zI (k + 1 : Nat)), (10, .slc 51 0 n n)] [(1, ⟨77, [.slice xa n xc, y.v, z.v] ++ r.cs⟩), (2, ⟨81, [.slice none 0 0, .slice none 0 0]⟩), (51, ⟨32, rcs (List.replicate n rl0)⟩), (73, ⟨32, rcs La ++ Xa⟩), (120, ⟨32, rcs Lb ++ Xb⟩)] (zzd (sq9 (zza 52 (zI n) (zza 53 (zI 0) (zzb (zzt (zyn (I := fun bX S' u' => ∃ (i : Nat) (L : List RL), (bX = n - i) ∧ (i ≤ n) ∧ (L.length = n) ∧ (S' = St.of 130 [(1, .adr 1 0), (2, .adr 2 0), (4, zI n), (5, .slc 120 0 (k + 1) cb), (6, .slc 73 0 (k + 1) ca), (7, .v (xm.v)), (9, zI (k + 1 : Nat)), (10, .slc 51 0 n n), (52, zI n), (53, zI i)] [(1, ⟨77, [.slice xa n xc, y.v, z.v] ++ r.cs⟩), (2, ⟨81, [.slice none 0 0, .slice none 0 0]⟩), (51, ⟨32, rcs L⟩), (73, ⟨32, rcs La ++ Xa⟩), (120, ⟨32, rcs Lb ++ Xb⟩)]) ∧ (Ext cW u') ∧ (RatsN u' (L.take i) ((rowL n (fun i => Nt.su (fun l => Nt.flM n A k i l * B l) n)).take i) 2000)) (fun m S u1 u2 e h => by obtain ⟨i, L, hm, p0, p1, hS, hE, f0⟩ := h; exact ⟨i, L, hm, p0, p1, hS, hE.trans e, f0.ext e⟩) _ yz ⟨0, List.replicate n rl0, rfl, by omega, by simp, rfl, (Ext.refl _), RatsN.tnil _ _ _ _⟩ ?_))))))))
  rintro bX _ di ⟨i, L, aX, hi, hL, rfl, ag, hR⟩
  replace aX : bX + i = n := by omega
  refine sq9 (zza 54 (zB (decide ((i : Int) < (n : Int)))) (zzb (zzd (zzu (b := decide ((i : Int) < (n : Int))) xj (fun aD => ?_) (fun aD => ?_)))))
  ·have qhb45 := of_decide_eq_true aD
   refine zzs (zzp ?_)
   refine zzd (zzt (sq9 (zza 55 (zI i) (zza 11 (zI i) (zzb (zzz [0, 0, 0, 0, 12, 28, 0, 64, 252, 511, 1023] [(0, []), (1, []), (2, []), (3, []), (4, []), (5, []), (6, []), (7, []), (8, []), (9, []), (10, [])] xj xj (zza 56 (.slc 51 0 n n) (zza 57 (zI i) (zza 58 (.v (xm.v)) (zza 59 (zI i) ?_))))))))))
   have hn46 := ((hMv.ext ag)).1
   obtain ⟨b46, b2, bR⟩ := ((hMv.ext ag)).2.1 i xq
   refine zya 60 (0 + i * 1) (n := xm.n) (off := 0) (sz := 1) (i := (i : Int)) xq b2 xq yy sl75 ?_
   have b8 : PolN di (Rm.getD i sl0) (rowL n (Nt.flM n A k i)) 2000 := ((hMv.ext ag)).2.2 i xq
   refine zyl 61 (.slice (Rm.getD i sl0).a (Rm.getD i sl0).n (Rm.getD i sl0).c) bR ty26 (zza 62 (.adr 1 1) (zzi 63 (.v (y.v)) ty26 zzl (zzg 64 110 _ fun _ _ bK dm => Post.mono (k_nProduct (M := 2000) dm (PolN.more (K' := (max 2000 K)) (b8.ext bK) xq) (PolN.more (K' := (max 2000 K)) (hB.ext (aR.trans (ag.trans bK))) xq) (by simp [rowL_len]) (by rw [rowL_len]; omega) xq xq xq (fun kk hkk => by rw [rowL_len] at hkk; rw [Nt.dot_row hkk]; exact (hF.rs ha (k := k) (i := i) (j := 0) xq hkk xq xq).2.2.1)) ?_)))
   rintro _ dx cM ⟨bL, rfl, b5⟩
   have ci : RatN dx bL (Nt.su (fun l => Nt.flM n A k i l * B l) n) 2000 := by have h9 := b5; rewrite [Nt.dot_rows] at h9; exact h9
   refine zyw 65 (off' := i * 3) (n := n) (off := 0) (sz := 3) (i := (i : Int)) sl26 xq xq xq ?_
   refine zyv (V := ⟨32, rcs L⟩) (off := i * 3) (rcs ((L).set i bL)) ty32 zv (zyx (r := bL) (i := i) yy rfl) ?_
   refine zzx ?_
   refine zzp (zzf (zyq 66 (x := zI (IntKind.i64.wrap ((i : Int) + 1))) (zI (i + 1 : Nat)) (eqI yq) (zza 53 (zI (i + 1 : Nat)) (zzx ?_))))
   have cB : i < (rowL n (fun i => Nt.su (fun l => Nt.flM n A k i l * B l) n)).length := by rw [rowL_len]; omega
   refine ⟨_, ?_, _, by exact zzv _ _ _, i + 1, (L).set i bL, rfl, by omega, by simpa using hL, rfl, (ag.t (bK.t cM.ext)), RatsN.tstep (hR.ext (bK.t cM.ext)) xq cB (RatN.more (K := 2000) ci xq) (by rw [rowL_at xq])⟩
   omega
  have qhb45 := of_decide_eq_false aD
  refine zyc ?_
  clear aX
  refine zzp (zzd (zyp (r := 10) (t := 51) [10, 51] xk xj zk zk xj (fun cX dF aq dI cw => ?_)))
  have cx : PolN dF ⟨some ⟨cX, 0, none⟩, n, n⟩ (rowL n (fun i => Nt.su (fun l => Nt.flM n A k i l * B l) n)) 2000 := pol_data1 cw yv (RatsN.tdone (hR.ext aq) xq (by rw [rowL_len]; omega)) xq
  refine zzf (zza 67 (.slc 73 0 (k + 1) ca) (zza 68 (.adr 1 2) (zzi 69 (.v (z.v)) ty26 zzl (zza 70 (.v (.slice (some ⟨cX, 0, none⟩) n n)) (zzg 71 110 _ fun _ _ ax dh => Post.mono (k_nProduct (M := 2000) dh (PolN.more (K' := (max K 2000)) (hC.ext (aR.trans (ag.trans (aq.trans ax)))) xq) (PolN.more (K' := (max K 2000)) (cx.ext ax) xq) (by simp [rowL_len]) (by rw [rowL_len]; omega) xq xq xq (fun kk hkk => by rw [rowL_len] at hkk; rw [Nt.dot_row hkk]; exact (hF.rs ha (k := k) (i := 0) (j := 0) xq hkk xq xq).2.2.2.1)) ?_)))))
  rintro _ dP aS ⟨ah, rfl, ct⟩
  have bc : RatN dP ah (Nt.su (fun l => C l * Nt.su (fun r => Nt.flM n A k l r * B r) n) n) 2000 := by have h9 := ct; rewrite [Nt.dot_rows] at h9; exact h9
  refine zxz 72 ⟨32, ah.cs⟩ 1 (fun cN cS aA cY => ?_)
  have dT : PolN cS (⟨some ⟨cN, 0, none⟩, 1, 1⟩ : Sl) [(Nt.su (fun l => C l * Nt.su (fun r => Nt.flM n A k l r * B r) n) n)] 2000 := pol_lit (L := [ah]) cY (rats1 (bc.ext aA)) rfl yj
  have bx : (rcs La ++ Xa).take ((k + 1) * 3) = rcs La := take_rcsY hLa
  refine sy_app1 73 (T := 27) (E := 32) (z := .agg #[.bool false, .slice none 0 0, .slice none 0 0]) (size := 3) (bytes := 56) (b := cN) (off := 0) (m := 1) (n := k + 1) (cap := ca) (t := 73) (cs0 := (rcs La ++ Xa)) [6, 67, 73] ah.cs xj xj xj yj rfl (lit_news ((Ext.refl _).cells cY)) (rl_one ah) yj yv xq xq xq xq xk ?_
  intro bu bF ds cp bQ cC
  have bt : bF.take ((k + 1 + 1) * 3) = rcs (La ++ [ah]) := by rw [cC, bx, rcs_app]; rfl
  refine zza 6 (.slc 73 0 (k + 1 + 1) bu) (zzc 130 [(1, .adr 1 0), (2, .adr 2 0), (4, zI n), (5, .slc 120 0 (k + 1) cb), (6, .slc 73 0 (k + 1 + 1) bu), (7, .v (xm.v)), (9, zI (k + 1 : Nat))] [(1, ⟨77, [.slice xa n xc, y.v, z.v] ++ r.cs⟩), (2, ⟨81, [.slice none 0 0, .slice none 0 0]⟩), (73, ⟨32, bF⟩), (120, ⟨32, rcs Lb ++ Xb⟩)] (zzd ?_))
  obtain ⟨ch, cq⟩ := spare_of (n := k + 1 + 1) bt
  subst cq
  have cy : RatsN cS (La ++ [ah]) ((Nt.flAl n A B C).take (k + 1 + 1)) 2000 := app_next (o2.ext (ag.t (aq.t (ax.t (aS.t aA))))) (RatN.more (K := 2000) (bc.ext aA) xq) (by rw [Nt.flAl_len]; omega) (by unfold Nt.flAl; rw [Nt.flR_at xq]; unfold Nt.flAt; rw [if_neg xq, Nat.add_sub_cancel])
  have b0 : (La ++ [ah]).length = k + 1 + 1 := by rw [List.length_append, hLa]; rfl
  (try clear hca); (try clear hlea); (try clear hmxa); (try clear hL)
  refine zzf (zza 74 (.adr 1 0) (zzi 75 (.v (.slice xa n xc)) ty75 zzl (zza 76 (.v (xm.v)) (zzg 77 111 _ fun _ _ aT dc => Post.mono ((show Calls _ _ #[_, _] _ _ from k_nTimes (x := ⟨xa, n, xc⟩) (y := xm) (M9 := 2000) (K := 2000) (A := A) (M := Nt.flM n A k) dc (MatV.more (hA.ext (aR.t (ag.t (aq.t (ax.t (aS.t (aA.trans aT))))))) xq) (hMv.ext (ag.t (aq.t (ax.t (aS.t (aA.trans aT)))))) xq xq xq xq (fun i j m hi hj hm => (hF.rs ha (k := k) xq hm hi hj).2.1))) ?_))))
  rintro _ dC bY ⟨xt, Rt, Lt, rfl, hSt, hLt⟩
  have hxt := SysE.xn hSt
  refine zza 7 (.v (xt.v)) (zzb (zzd ?_))
  have hTv : MatV dC xt n Rt (fun i => rowL n ((Nt.mM n A (Nt.flM n A k)) i)) 2000 := SysE.matV (f := (Nt.mM n A (Nt.flM n A k))) hSt (fun i j _ _ => rfl)
  refine zzf (zzg 78 109 _ fun _ _ aJ dy => Post.mono (k_ratOf dy (z := 0) xq xq) ?_)
  rintro _ dK aI ⟨cV, rfl, dp⟩
  refine zzk 12 ⟨32, zw3⟩ (zzj ⟨32, cV.cs⟩ ty32 ?_)
  refine zzb (zzd (sq9 (zza 79 (zI n) (zza 80 (zI 0) (zzb (zzt (zyn (I := fun b7 S' u' => ∃ (i : Nat) (rs : RL), (b7 = n - i) ∧ (i ≤ n) ∧ (S' = St.of 130 [(1, .adr 1 0), (2, .adr 2 0), (4, zI n), (5, .slc 120 0 (k + 1) cb), (6, .slc 73 0 (k + 1 + 1) bu), (7, .v (xt.v)), (9, zI (k + 1 : Nat)), (12, .adr 12 0), (79, zI n), (80, zI i)] [(1, ⟨77, [.slice xa n xc, y.v, z.v] ++ r.cs⟩), (2, ⟨81, [.slice none 0 0, .slice none 0 0]⟩), (12, ⟨32, rs.cs⟩), (73, ⟨32, rcs (La ++ [ah]) ++ ch⟩), (120, ⟨32, rcs Lb ++ Xb⟩)]) ∧ (Ext dK u') ∧ (RatN u' rs (Nt.su (fun l => (Nt.mM n A (Nt.flM n A k)) l l) i) 2000)) (fun m S u1 u2 e h => by obtain ⟨i, rs, hm, p0, hS, hE, f0⟩ := h; exact ⟨i, rs, hm, p0, hS, hE.trans e, f0.ext e⟩) _ yz ⟨0, cV, rfl, Nat.zero_le _, rfl, (Ext.refl _), (show RatN _ _ (Nt.su (fun l => (Nt.mM n A (Nt.flM n A k)) l l) 0) 2000 from RatN.more (K := 2) dp xq)⟩ ?_)))))))
  rintro b7 _ c5 ⟨i, rs, bH, hi, rfl, az, hrs⟩
  replace bH : b7 + i = n := by omega
  have hrl := rowL_len (w := n) (f := (Nt.mM n A (Nt.flM n A k)) i)
  refine sq9 (zza 81 (zB (decide ((i : Int) < (n : Int)))) (zzb (zzd (zzu (b := decide ((i : Int) < (n : Int))) xj (fun aE => ?_) (fun aE => ?_)))))
  ·have qhb89 := of_decide_eq_true aE
   refine zzs (zzp ?_)
   refine zzd (zzt (sq9 (zza 82 (zI i) (zza 13 (zI i) (zzb (zzz [0, 0, 0, 6, 14, 0, 62, 126, 255, 511] [(0, []), (1, []), (2, []), (3, []), (4, []), (5, []), (6, []), (7, []), (8, []), (9, [])] xj xj (zzi 83 (.v (rs.v)) ty32 zze (zza 84 (.v (xt.v)) (zza 85 (zI i) ?_)))))))))
   have hn90 := ((hTv.ext (aJ.t (aI.t az)))).1
   obtain ⟨b90, b3, bP⟩ := ((hTv.ext (aJ.t (aI.t az)))).2.1 i xq
   refine zya 86 (0 + i * 1) (n := xt.n) (off := 0) (sz := 1) (i := (i : Int)) xq b3 xq yy sl75 ?_
   have a1 : PolN c5 (Rt.getD i sl0) (rowL n ((Nt.mM n A (Nt.flM n A k)) i)) 2000 := ((hTv.ext (aJ.t (aI.t az)))).2.2 i xq
   refine zyl 87 (.slice (Rt.getD i sl0).a (Rt.getD i sl0).n (Rt.getD i sl0).c) bP ty26 (zza 88 (zI i) ?_)
   have hl92 := a1.len
   obtain ⟨de, b92, cQ, ce, b1, cz⟩ := pol_atN a1 (i := i) xq
   refine zya 89 (cQ + i * 3) (n := (Rt.getD i sl0).n) (off := cQ) (sz := 3) (i := (i : Int)) xq ce xq xq sl26 (zym 90 de.cs b1 ty32 (zzg 91 112 _ fun _ _ cd du => Post.mono (k_ratAdd du (hrs.ext cd).raw (cz.ext cd).raw xq xq) ?_))
   rintro _ u96 df ⟨c1, rfl, dL⟩
   refine zzj ⟨32, c1.cs⟩ ty32 ?_
   refine zzx ?_
   refine zzp (zzf (zyq 92 (x := zI (IntKind.i64.wrap ((i : Int) + 1))) (zI (i + 1 : Nat)) (eqI yq) (zza 80 (zI (i + 1 : Nat)) (zzx ?_))))
   refine ⟨_, ?_, _, by exact zzv _ _ _, i + 1, c1, rfl, by omega, rfl, (az.t (cd.t df.ext)), (show RatN _ _ (Nt.su (fun l => (Nt.mM n A (Nt.flM n A k)) l l) (i + 1)) 2000 from RatN.fit (L := 2000) (by have h9 := dL; rw [rowL_at xq] at h9; exact h9) (hF.rs ha (k := k) (m := i + 1) (i := 0) (j := 0) xq xq xq xq).2.2.2.2)⟩
   omega
  have qhb89 := of_decide_eq_false aE
  refine zyc ?_
  clear bH
  refine zzp (zzd ?_)
  have hin : n = i := by omega
  subst hin
  have hrt : RatN c5 rs (Nt.mT n (Nt.mM n A (Nt.flM n A k))) 2000 := hrs
  refine zzz [0, 0, 2, 7, 0, 31] [(0, []), (1, []), (4, []), (2, []), (3, []), (5, [])] xj xj (zzi 93 (.v (rs.v)) ty32 zze (zza 94 (zI (k + 1 : Nat)) (zzk 14 ⟨32, zw3⟩ (zzg 95 114 _ fun _ _ a2 dS => Post.mono (k_ratFrac dS (a := (-1)) (b := ((k + 1 : Nat) : Int)) xq xq xq xq) ?_))))
  rintro _ dR aj ⟨dB, rfl, cg⟩
  refine zzg 96 113 _ fun _ _ af bO => Post.mono (k_ratMul bO (hrt.ext (a2.t (aj.t af))).raw (cg.ext af).raw xq xq) ?_
  rintro _ cl ap ⟨aa, rfl, cE⟩
  refine zzj ⟨32, aa.cs⟩ ty32 ?_
  refine zzb (zzd (zzd ?_))
  have hcc : RatN cl aa (Nt.flN n (Nt.mM n A (Nt.flM n A k)) k) 2000 := RatN.fit (L := 2000) (show RatN _ _ (Nt.flN n (Nt.mM n A (Nt.flM n A k)) k) _ from cE) (hF.c_rs ha (k := k) xq)
  refine zzf (zza 97 (zI n) (zza 98 (zI 0) (zzb (zzt (zyn (I := fun aF S' u' => ∃ (i : Nat) (Lq : List (List RL)), (aF = n - i) ∧ (i ≤ n) ∧ (Lq.length = n) ∧ (S' = St.of 130 [(1, .adr 1 0), (2, .adr 2 0), (4, zI n), (5, .slc 120 0 (k + 1) cb), (6, .slc 73 0 (k + 1 + 1) bu), (7, .v (xt.v)), (9, zI (k + 1 : Nat)), (14, .adr 14 0), (97, zI n), (98, zI i)] [(1, ⟨77, [.slice xa n xc, y.v, z.v] ++ r.cs⟩), (2, ⟨81, [.slice none 0 0, .slice none 0 0]⟩), (14, ⟨32, aa.cs⟩), (73, ⟨32, rcs (La ++ [ah]) ++ ch⟩), (120, ⟨32, rcs Lb ++ Xb⟩)]) ∧ (Ext u u') ∧ (SysE 26 32 u.heap.size u' xt n Rt Lq (fun _ => n) (fun a b => some ((Nt.mM n A (Nt.flM n A k)) a b + if a = b ∧ a < i then (Nt.flN n (Nt.mM n A (Nt.flM n A k)) k) else 0)) 2000) ∧ (RatN u' aa (Nt.flN n (Nt.mM n A (Nt.flM n A k)) k) 2000) ∧ (RatsN u' Lb ((Nt.flBl n A).take (k + 1)) 2000) ∧ (RatsN u' (La ++ [ah]) ((Nt.flAl n A B C).take (k + 1 + 1)) 2000)) (fun m S u1 u2 e h => by obtain ⟨i, Lq, hm, p0, p1, hS, hE, f0, f1, f2, f3⟩ := h; exact ⟨i, Lq, hm, p0, p1, hS, hE.trans e, f0.ext e, f1.ext e, f2.ext e, f3.ext e⟩) _ yz ⟨0, Lt, rfl, Nat.zero_le _, hLt, rfl, (aR.t (ag.t (aq.t (ax.t (aS.t (aA.t (aT.t (bY.t (aJ.t (aI.t (az.t (a2.t (aj.t (af.t ap.ext)))))))))))))), (SysE.congr (SysE.low (SysE.ext hSt (aJ.t (aI.t (az.t (a2.t (aj.t (af.t ap.ext))))))) (Ext.size (aR.t (ag.t (aq.t (ax.t (aS.t (aA.trans aT)))))))) (fun a ha => rfl) (fun a b q _ _ hv => by rw [if_neg xq, Rat.add_zero] at hv; exact hv)), hcc, (o1.ext (ag.t (aq.t (ax.t (aS.t (aA.t (aT.t (bY.t (aJ.t (aI.t (az.t (a2.t (aj.t (af.t ap.ext)))))))))))))), (cy.ext (aT.t (bY.t (aJ.t (aI.t (az.t (a2.t (aj.t (af.t ap.ext)))))))))⟩ ?_)))))
  rintro aF _ dH ⟨i, Lq, aB, hi, hLq, rfl, aV, q0, q1, q2, q3⟩
  replace aB : aF + i = n := by omega
  (try clear hLt); (try clear hxt); (try clear hrl); (try clear hL); (try clear hLm); (try clear hxm)
  refine sq9 (zza 99 (zB (decide ((i : Int) < (n : Int)))) (zzb (zzd (zzu (b := decide ((i : Int) < (n : Int))) xj (fun ak => ?_) (fun ak => ?_)))))
  ·have qhb112 := of_decide_eq_true ak
   refine zzs (zzp ?_)
   refine zzd (zzt (sq9 (zza 100 (zI i) (zza 15 (zI i) (zzb (sw_anyC [0, 0, 3, 7, 0, 0, 0, 96, 224, 0, 992, 2016, 0, 8160, 16383, 32767] [(0, []), (1, []), (2, []), (3, []), (4, []), (5, []), (6, []), (7, []), (8, []), (9, []), (10, []), (11, []), (12, []), (13, [])] [(14, []), (15, [])] xj xj xj ?_))))))
   refine zza 101 (.v (xt.v)) (zza 102 (zI i) ?_)
   have hq113 := q0
   obtain ⟨dO, a6, bw⟩ := SysE.cell (i := i) hq113 xq
   have hn113 := SysE.xn hq113
   refine zya 103 (0 + i * 1) (n := xt.n) (off := 0) (sz := 1) (i := (i : Int)) xq a6 xq xq sl75 (zyl 104 (.slice (Rt.getD i sl0).a (Rt.getD i sl0).n (Rt.getD i sl0).c) bw ty26 (zza 105 (zI i) (zza 106 (.v (xt.v)) (zza 107 (zI i) ?_))))
   have hq114 := q0
   obtain ⟨dM, bb, bq⟩ := SysE.cell (i := i) hq114 xq
   have hn114 := SysE.xn hq114
   refine zya 108 (0 + i * 1) (n := xt.n) (off := 0) (sz := 1) (i := (i : Int)) xq bb xq xq sl75 (zyl 109 (.slice (Rt.getD i sl0).a (Rt.getD i sl0).n (Rt.getD i sl0).c) bq ty26 (zza 110 (zI i) ?_))
   have hq115 := q0
   have bv : (Lq.getD i []).length = n := (SysE.wid hq115 i (by rw [hLq]; omega)).trans rfl
   have hr115 := SysE.row hq115 i (by rw [hLq]; omega)
   have hz115 := MutQ.rown hr115
   obtain ⟨c6, a5, aw⟩ := MutQ.el1 (j := i) hr115 (by rw [bv]; omega)
   refine zya 111 (0 + i * 3) (n := (Rt.getD i sl0).n) (off := 0) (sz := 3) (i := (i : Int)) xq a5 xq xq sl26 ?_
   obtain ⟨cF, ar⟩ : ∃ r : RL, (Lq.getD i []).getD i rl0 = r := ⟨_, rfl⟩
   rw [ar] at aw
   have hv118 := SysE.num hq115 i i ((Nt.mM n A (Nt.flM n A k)) i i) (by rw [hLq]; omega) (Nat.lt_of_lt_of_eq (show i < n by omega) (Eq.symm rfl)) (by show some ((Nt.mM n A (Nt.flM n A k)) i i + if i = i ∧ i < i then (Nt.flN n (Nt.mM n A (Nt.flM n A k)) k) else 0) = _; rw [if_neg xq, Rat.add_zero])
   rewrite [ar] at hv118
   refine zym 112 cF.cs aw ty32 (zzi 113 (.v (aa.v)) ty32 zze (zzg 114 112 _ fun _ _ ab cc => Post.mono (k_ratAdd cc (hv118.ext ab).raw (q1.ext ab).raw xq xq) ?_))
   rintro _ dw ae ⟨ai, rfl, cD⟩
   refine zzx ?_
   have hq125 := (SysE.ext q0 (ab.t ae.ext))
   have a7 : (Lq.getD i []).length = n := (SysE.wid hq125 i (by rw [hLq]; omega)).trans rfl
   have hr125 := SysE.row hq125 i (by rw [hLq]; omega)
   have hz125 := MutQ.rown hr125
   obtain ⟨dN, av, cU⟩ := MutQ.el1 (j := i) hr125 (by rw [a7]; omega)
   refine zya 115 (0 + i * 3) (n := (Rt.getD i sl0).n) (off := 0) (sz := 3) (i := (i : Int)) xq av xq xq sl26 ?_
   have ho126 := (SysE.ext q0 (ab.t ae.ext))
   have ay : (Lq.getD i []).length = n := (SysE.wid ho126 i (by rw [hLq]; omega)).trans rfl
   have hy126 := SysE.row ho126 i (by rw [hLq]; omega)
   refine sy_storeQ (v := ai.v) (off := 0 + i * 3) (n := 3) (Rt.getD i sl0) hy126 (MutQ.mayA hy126 (Ext.size (Ext.refl _))) av ty32 (by rw [zyy, ay]; omega) (nu_rl ai) (fun cK bI ac => ?_)
   have bs : MutQ (1 * 3) 32 u.heap.size cK (Rt.getD i sl0) (rcs ((Lq.getD i []).set i ai)) := by rw [← zyx (off := 0 + i * 3) (by rw [ay]; omega) xq]; exact bI
   have eX126r := ExtX.root ac (MutQ.mutL hy126) (aV.t (ab.t ae.ext))
   have hS126 := SysE.store (i := i) (j := i) (r := ai) (q := (((Nt.mM n A (Nt.flM n A k)) i i) + (Nt.flN n (Nt.mM n A (Nt.flM n A k)) k))) yj ho126 (by rw [hLq]; omega) (Nat.lt_of_lt_of_eq (show i < n by omega) (Eq.symm rfl)) bs ac (RatN.fit (L := 2000) cD ((by have h9 := (hF.rs ha (k := k + 1) (m := 0) (i := i) (j := i) xq xq xq xq).1; rw [show Nt.flM n A (k + 1) i i = (Nt.mM n A (Nt.flM n A k)) i i + if i = i then (Nt.flN n (Nt.mM n A (Nt.flM n A k)) k) else 0 from rfl, if_pos rfl] at h9; exact h9)))
   obtain ⟨aU, aC⟩ : ∃ Q9, Lq.set i ((Lq.getD i []).set i ai) = Q9 := ⟨_, rfl⟩
   rewrite [aC] at hS126
   have bC : aU.length = n := by rw [← aC, List.length_set]; exact hLq
   have hkr106126 := MutQ.keep hy126 ac (q1.ext (ab.t ae.ext))
   have hklrb126 := MutQ.keeps hy126 ac (q2.ext (ab.t ae.ext))
   have hklra126 := MutQ.keeps hy126 ac (q3.ext (ab.t ae.ext))
   refine zzx ?_
   refine zzp (zzf (zyq 116 (x := zI (IntKind.i64.wrap ((i : Int) + 1))) (zI (i + 1 : Nat)) (eqI yq) (zza 98 (zI (i + 1 : Nat)) (zzx ?_))))
   refine ⟨_, ?_, _, by exact zzv _ _ _, i + 1, aU, rfl, by omega, bC, rfl, eX126r, (SysE.congr hS126 (fun a ha => rfl) (fun a b q _ _ hv => Nt.d2 hv)), hkr106126, hklrb126, hklra126⟩
   omega
  have qhb112 := of_decide_eq_false ak
  refine zyc ?_
  clear aB
  refine zzp (zzf (zza 117 (.slc 120 0 (k + 1) cb) (zzi 118 (.v (aa.v)) ty32 zze (zxz 119 ⟨32, aa.cs⟩ 1 (fun bG bB ad aY => ?_)))))
  have c3 : PolN bB (⟨some ⟨bG, 0, none⟩, 1, 1⟩ : Sl) [(Nt.flN n (Nt.mM n A (Nt.flM n A k)) k)] 2000 := pol_lit (L := [aa]) aY (rats1 (q1.ext ad)) rfl yj
  have aK : (rcs Lb ++ Xb).take ((k + 1) * 3) = rcs Lb := take_rcsY hLb
  refine sy_app1 120 (T := 27) (E := 32) (z := .agg #[.bool false, .slice none 0 0, .slice none 0 0]) (size := 3) (bytes := 56) (b := bG) (off := 0) (m := 1) (n := k + 1) (cap := cb) (t := 120) (cs0 := (rcs Lb ++ Xb)) [5, 117, 120] aa.cs xj xj xj yj rfl (lit_news ((Ext.refl _).cells aY)) (rl_one aa) yj yv xq xq xq xq xk ?_
  intro aZ bD cZ bm bA bz
  have aH : bD.take ((k + 1 + 1) * 3) = rcs (Lb ++ [aa]) := by rw [bz, aK, rcs_app]; rfl
  refine zza 5 (.slc 120 0 (k + 1 + 1) aZ) (zzx ?_)
  refine zzp ?_
  obtain ⟨bT, bd⟩ := spare_of (n := k + 1 + 1) aH
  subst bd
  have bj : RatsN bB (Lb ++ [aa]) ((Nt.flBl n A).take (k + 1 + 1)) 2000 := app_next (q2.ext ad) (RatN.more (K := 2000) (q1.ext ad) xq) (by rw [Nt.flBl_len]; omega) (by unfold Nt.flBl; rw [Nt.flR_at xq]; rfl)
  have bg : (Lb ++ [aa]).length = k + 1 + 1 := by rw [List.length_append, hLb]; rfl
  refine zzf (zza 48 (zI (k + 1 : Nat)) (zyq 49 (x := zI (IntKind.i64.wrap (((k + 1 : Nat) : Int) + 1))) (zI (((k + 1) + 1 : Nat) : Int)) (eqI yq) (zza 9 (zI (((k + 1) + 1 : Nat) : Int)) (zzx ?_))))
  refine ⟨_, ?_, _, by exact zzv _ _ _, k + 1, xt, Rt, Lq, (Lb ++ [aa]), bT, aZ, (La ++ [ah]), ch, bu, rfl, by omega, hLq, bg, bA, xq, bm, b0, bQ, xq, cp, rfl, (aV.trans ad), (SysE.congr (SysE.ext q0 ad) (fun a ha => rfl) (fun a b q ha _ hv => Nt.d3 xq xq hv)), bj, (q3.ext ad)⟩
  omega
 have qhb43 := of_decide_eq_false aM
 refine zyc ?_
 clear a3
 refine zzp (zzd ?_)
 have hlB := Nt.flBl_len (n := n) (A := A)
 have hlA := Nt.flAl_len (n := n) (A := A) (B := B) (C := C)
 refine zyp (r := 6) (t := 73) [6, 73] xk xj zk zk xj (fun bp ck aL cP be => ?_)
 have br : PolN ck (⟨some ⟨bp, 0, none⟩, k + 1, ca⟩ : Sl) (Nt.flAl n A B C) 2000 := by have h9 := pol_data be (take_rcsY hLa) hca hlea hmxa (o2.ext aL); rw [List.take_of_length_le (by rw [Nt.flAl_len]; omega)] at h9; exact h9
 refine zyp (r := 5) (t := 120) [5, 120] xk xj zk zk xj (fun aN b4 aP cT bk => ?_)
 have au : PolN b4 (⟨some ⟨aN, 0, none⟩, k + 1, cb⟩ : Sl) (Nt.flBl n A) 2000 := by have h9 := pol_data bk (take_rcsY hLb) hcb hleb hmxb (o1.ext (aL.trans aP)); rw [List.take_of_length_le (by rw [Nt.flBl_len]; omega)] at h9; exact h9
 refine zzf (zza 121 (.v (.slice (some ⟨bp, 0, none⟩) (k + 1) ca)) (zza 122 (.v (.slice (some ⟨aN, 0, none⟩) (k + 1) cb)) (zza 123 (.adr 1 3) (zzi 124 (.v (r.v)) ty32 zze (zzg 125 116 _ fun _ _ an cf => Post.mono (k_poScale cf (au.ext an).raw (hr.ext (aR.trans (aL.trans (aP.trans an)))).raw xq xw xq) ?_)))))
 rintro _ dj bo ⟨dG, rfl, a4⟩
 have hly150 := a4.len
 refine zzg 126 115 _ fun _ _ aG cA => Post.mono (k_poAdd cA (br.ext (aP.t (an.t (bo.t aG)))).raw (a4.ext aG).raw xq xq xw xw) ?_
 rintro _ dA bU ⟨am, rfl, bn⟩
 have hly156 := bn.len
 refine zza 127 (.v (.slice (some ⟨aN, 0, none⟩) (k + 1) cb)) (zzg 128 117 _ fun _ _ aW cI => Post.mono (k_poTrim cI (au.ext (an.t (bo.t (aG.t (bU.t aW))))).raw xq xw) ?_)
 rintro _ dD b9 ⟨al, rfl, a0⟩
 have hly162 := a0.len
 refine zza 129 (.v (.agg #[am.v, al.v])) (zzj ⟨81, [am.v, al.v]⟩ ty81 ?_)
 refine zza 3 (zI 0) (zzc 130 [(2, .adr 2 0), (3, zI 0)] [(2, ⟨81, [am.v, al.v]⟩)] (zzo (ret0 [.agg #[am.v, al.v], .int .i64 0] ⟨zzr ty81 zze, zzq, trivial⟩ fun dn bi => ?_)))
 exact ⟨am, al, rfl, PolN.more (K := (2000 + (2000 + K) + 1)) (bn.ext (aW.t (b9.t bi))) xq, PolN.more (K := 2000) (a0.ext bi) xq⟩
namespace Nt
theorem unQ_set {m j : Nat} (hj : j < m) : (List.replicate m (0 : Rat)).set j ((1 : Int) : Rat) = unQ m j := by
 refine List.ext_getElem (by simp [unQ_len]) fun i h1 h2 => ?_
 have e := unQ_at (j := j) (show i < m by simpa [unQ_len] using h2)
 rw [List.getD_eq_getElem?_getD, List.getElem?_eq_getElem h2] at e
 have e2 : (unQ m j)[i] = if i = j then 1 else 0 := e
 rw [e2, List.getElem_set]
 by_cases h : j = i
 ·rw [if_pos h, if_pos h.symm]; rfl
 rw [if_neg h, if_neg (Ne.symm h)]; exact List.getElem_replicate _
theorem sumQ_s {v : List Rat} {T : List TL} {k : Nat} : sumQ v T (k + 1) = sumQ v T k + (((T.getD k tl0).c : Int) : Rat) * v.getD (T.getD k tl0).f.toNat 0 := rfl
theorem sumQ_skip {v : List Rat} {T : List TL} {k : Nat} (h : (T.getD k tl0).c = 0 ∨ v.getD (T.getD k tl0).f.toNat 0 = 0) : sumQ v T k = sumQ v T (k + 1) := by
 rw [sumQ_s]
 rcases h with h | h
 ·rw [h]; show _ = _ + (0 : Rat) * _; grind
 rw [h]; grind
theorem ne_0 {z : Int} (h : (z != 0) = false) : z = 0 := by simpa using h
theorem colQ_len {U : Rat} {N : List (List TL)} {s j : Nat} : (colQ U N s j).length = 1 + s + N.length := by unfold colQ; rw [valQ_len, unQ_len]
end Nt
theorem take_rcsX {L : List RL} {X : List Value} {n : Nat} (h : L.length = n) : (rcs L ++ X).take (n * 3) = rcs L := by
 rw [List.take_append_of_le_length (by rw [zyy, h]; exact Nat.le_refl _), List.take_of_length_le (by rw [zyy, h]; exact Nat.le_refl _)]
set_option maxHeartbeats 8000000 in
theorem k_nSpread {u w : World} {D W : WL} {s : Nat} {X Y : Sl} {h lo : Nat} {N : List (List TL)} {nx : List Int} {q : Nat} {j : Nat} (d : Dat u w) (hN : NodesB lo h u X N) (hY : MutL 1 3 lo u Y (ics nx)) (hok : Nt.NetOK D W s N nx ((q : Nat) : Int)) (hj : j ≤ s) : Calls Tryz.prog 106 #[.agg #[.int .i64 D.b, .int .i64 D.f, .int .i64 D.r, .int .i64 D.o, .int .i64 W.b, .int .i64 W.f, .int .i64 W.r, .int .i64 W.o, .int .i64 (s : Int), X.v, Y.v, .int .i64 ((q : Nat) : Int)], .int .i64 (j : Int), .int .i64 (-1)] w (Post u w fun v u' => ∃ y : Sl, v = y.v ∧ PolN u' y (Nt.colQ (Nt.UQ W.f) N s j) 100 ∧ ∀ a, y.a = some a → u.heap.size ≤ a.block) := by
 obtain ⟨La, gA, gB, gC⟩ := id hN
 have hNl := hN.len
 have hD := hok.hd
 have hWc := hok.hw
 have hs64 := hok.hs
 have hn64 := hok.hn
 have hxs := hok.hx
 have hYr := MutL.slr hY
 have hYl : nx.length = Y.n := hYr.1
 have hqq := hok.hq
 have hbx : ∀ z ∈ nx, -9223372036854775808 ≤ z ∧ z ≤ 9223372036854775807 := fun z hz => by
  obtain ⟨j, hj, rfl⟩ := Nt.mem_getD hz
  have h9 := hok.hr j hj
  omega
 have bj : ∀ i, i < N.length → (La.getD i sl0).n = (N.getD i []).length ∧ (N.getD i []).length ≤ 64 := fun i hi => ⟨tms_len (gC i hi).1, (hok.ht i hi).1⟩
 obtain ⟨hd1, hd2, hd3, hd4, hd5, hd6, hd7, hd8⟩ := id hD
 obtain ⟨hw1, hw2, hw3, hw4, hw5, hw6, hw7, hw8⟩ := id hWc
 have hpw1 := Nt.zxq W.f
 have hpw2 := Nt.p2i_24 (n := W.f) xq
 have hpd1 := Nt.zxq (D.b - 1)
 have bE : Nt.p2i (D.b - 1) ≤ 8388608 := Nt.zwh (b := 23) xq
 refine zzm (args := [.agg #[.int .i64 D.b, .int .i64 D.f, .int .i64 D.r, .int .i64 D.o, .int .i64 W.b, .int .i64 W.f, .int .i64 W.r, .int .i64 W.o, .int .i64 s, X.v, Y.v, .int .i64 q], .int .i64 j, .int .i64 (-1)]) Tryz.func106 rfl Tryz.ntmps106 (rs := [.tmp 6]) Tryz.results106 (le_b rfl) (le_b rfl) d ?_
 refine sq9 (zzk 3 ⟨72, [.int .i64 D.b, .int .i64 D.f, .int .i64 D.r, .int .i64 D.o, .int .i64 W.b, .int .i64 W.f, .int .i64 W.r, .int .i64 W.o, .int .i64 s, X.v, Y.v, .int .i64 q]⟩ (zza 6 (.v (.slice none 0 0)) (zzb (sq9 (zza 16 (.adr 3 8) (zzi 17 (zI s) ty3 zzl (zyq 18 (x := zI (IntKind.i64.wrap ((1 : Int) + (s : Int)))) (zI (1 + s : Nat)) (eqI yq) (zzg 19 163 _ fun _ _ aJ bg => Post.mono (k_nZeros (n := 1 + s) bg xq) ?_))))))))
 rintro _ u18 aZ ⟨bB, ae, rfl, ai, ao, aY, hR17⟩
 refine zza 7 (.v (.slice (some ⟨bB, 0, none⟩) (1 + s) (1 + s))) (zzb (zzd (zzd (sw_adopt (r := 7) (k := 86) (cs := rcs ae ++ []) zk (by rw [List.append_nil]; exact ((Ext.refl _).cells ao)) (Nat.le_trans (aJ.size) ai) xj (fun u21 af => ?_)))))
 replace hR17 := (hR17.ext (Ext.refl _)).extB ((Ext.refl _).cells ao) af
 refine zzf (zza 20 (zI j) (zza 21 (zB (decide ((0 : Int) ≤ (j : Int)))) (zzb (zzu (b := decide ((0 : Int) ≤ (j : Int))) xj (fun hb => ?_) (fun hb => ?_)))))
 ·clear hb
  refine zzf (zza 22 (.slc 86 0 (1 + s) (1 + s)) (zza 23 (zI j) (zzg 24 109 _ fun _ _ aS bA => Post.mono (k_ratOf bA (z := 1) xq xq) ?_)))
  rintro _ bq aN ⟨an, rfl, bx⟩
  refine zyw 25 (off' := j * 3) (n := 1 + s) (off := 0) (sz := 3) (i := (j : Int)) sl26 xq xq xq ?_
  refine zyv (V := ⟨32, rcs ae ++ []⟩) (off := j * 3) (rcs ((ae).set j an) ++ []) ty32 (by rw [List.length_append, zyy]; first | omega | (rw [hLl]; omega)) (setL_rcsX (r := an) (i := j) (by first | omega | (rw [hLl]; omega)) rfl) ?_
  refine zzc 89 [(2, zI (-1)), (3, .adr 3 0), (7, .slc 86 0 (1 + s) (1 + s))] [(3, ⟨72, [.int .i64 D.b, .int .i64 D.f, .int .i64 D.r, .int .i64 D.o, .int .i64 W.b, .int .i64 W.f, .int .i64 W.r, .int .i64 W.o, .int .i64 s, X.v, Y.v, .int .i64 q]⟩), (86, ⟨32, rcs ((ae).set j an) ++ []⟩)] (zzd ?_)
  have aq : RatsN bq ((ae).set j an) (Nt.unQ (1 + s) j) 2 := by rw [← Nt.unQ_set xq]; exact rats_set (hR17.ext (aS.t aN.ext)) (by rw [List.length_replicate]; omega) bx
  have a7 : ((ae).set j an).length = 1 + s := aq.1.trans (Nt.unQ_len _ _)
  refine zzf (zza 26 (.adr 3 4) (zza 27 (.adr 3 5) (zzi 28 (zI W.f) ty3 zzl (sy_shl 29 (k := .i64) (s := W.f) (Nt.p2i W.f) xq zx (shl_one xq xq) ?_))))
  refine zzg 30 109 _ fun _ _ aK bz => Post.mono (k_ratOf bz (z := Nt.p2i W.f) xq xq) ?_
  rintro _ bF aM ⟨ah, rfl, bK⟩
  refine zzk 8 ⟨32, zw3⟩ (zzj ⟨32, ah.cs⟩ ty32 ?_)
  refine zzb (zzd (sq9 (zza 31 (.adr 3 9) (zzi 32 (.v (X.v)) ty70 zzl (zza 33 (zI X.n) (zza 34 (zI 0) (zzb (zzt (zyn (I := fun a0 S' u' => ∃ (i : Nat) (Lv : List RL) (Xv : List Value) (cp : Nat), (a0 = X.n - i) ∧ (i ≤ X.n) ∧ (Lv.length = 1 + s + i) ∧ ((rcs Lv ++ Xv).length = cp * 3) ∧ (1 + s + i ≤ cp) ∧ (cp ≤ maxLen) ∧ (S' = St.of 89 [(2, zI (-1)), (7, .slc 86 0 (1 + s + i) cp), (8, .adr 8 0), (32, .v (X.v)), (33, zI X.n), (34, zI i)] [(8, ⟨32, ah.cs⟩), (86, ⟨32, rcs Lv ++ Xv⟩)]) ∧ (Ext bF u') ∧ (RatsN u' Lv (Nt.valQ (Nt.UQ W.f) N (Nt.unQ (1 + s) j) i) 100)) (fun m S u1 u2 e h => by obtain ⟨i, Lv, Xv, cp, hm, p0, p1, p2, p3, p4, hS, hE, f0⟩ := h; exact ⟨i, Lv, Xv, cp, hm, p0, p1, p2, p3, p4, hS, hE.trans e, f0.ext e⟩) _ yz ⟨0, (ae).set j an, [], 1 + s, rfl, Nat.zero_le _, a7, (by rw [List.append_nil, zyy, a7] <;> omega), xq, yv, rfl, (Ext.refl _), (RatsN.more (aq.ext (aK.t aM.ext)) xq)⟩ ?_)))))))))
  rintro a0 _ u36 ⟨i, Lv, Xv, cp, bs, hi, hLl, ba, hle, hmx, rfl, aB, hV⟩
  have hvl : (Nt.valQ (Nt.UQ W.f) N (Nt.unQ (1 + s) j) i).length = 1 + s + i := by rw [Nt.valQ_len, Nt.unQ_len]
  refine sq9 (zza 35 (zB (decide ((i : Int) < (X.n : Int)))) (zzb (zzd (zzu (b := decide ((i : Int) < (X.n : Int))) xj (fun ag => ?_) (fun ag => ?_)))))
  ·have qhb37 := of_decide_eq_true ag
   refine zzs (zzp ?_)
   refine zzd (zzt (sq9 (zza 36 (zI i) ?_)))
   obtain ⟨b38, aT, aQ⟩ := nodes_at (i := i) gA xq
   refine zya 37 (0 + i * 1) (n := X.n) (off := 0) (sz := 1) (i := (i : Int)) xq aT xq xq sl70 (zym 38 [.slice (La.getD i sl0).a (La.getD i sl0).n (La.getD i sl0).c] (fun j hj => by cases j with | zero => exact ((aJ.trans ((ExtB.old af aZ.ext ai).trans (aS.t (aN.t (aK.t (aM.t aB)))))).cell aQ) | succ j => exact absurd hj zj) ty150 (zzk 10 ⟨150, [.slice none 0 0]⟩ (zza 9 (zI i) (zzj ⟨150, [.slice (La.getD i sl0).a (La.getD i sl0).n (La.getD i sl0).c]⟩ ty150 ?_))))
   refine zzb (sq9 (zzg 39 109 _ fun _ _ am bu => Post.mono (k_ratOf bu (z := 0) xq xq) ?_))
   rintro _ br ak ⟨a5, rfl, bC⟩
   refine zzk 11 ⟨32, zw3⟩ (zzj ⟨32, a5.cs⟩ ty32 ?_)
   refine zzb (zzd (zzd ?_))
   have hTi := bj i xq
   refine zzf (zza 40 (.adr 10 0) (zzi 41 (.v (.slice (La.getD i sl0).a (La.getD i sl0).n (La.getD i sl0).c)) ty148 zzl (zza 42 (zI (((La.getD i sl0).n : Nat) : Int)) (zza 43 (zI 0) (zzb (zzt (zyn (I := fun a2 S' u' => ∃ (k : Nat) (r9 : RL), (a2 = (La.getD i sl0).n - k) ∧ (k ≤ (La.getD i sl0).n) ∧ (S' = St.of 89 [(2, zI (-1)), (7, .slc 86 0 (1 + s + i) cp), (8, .adr 8 0), (9, zI i), (11, .adr 11 0), (32, .v (X.v)), (33, zI X.n), (34, zI i), (41, .v (.slice (La.getD i sl0).a (La.getD i sl0).n (La.getD i sl0).c)), (42, zI (((La.getD i sl0).n : Nat) : Int)), (43, zI k)] [(8, ⟨32, ah.cs⟩), (11, ⟨32, r9.cs⟩), (86, ⟨32, rcs Lv ++ Xv⟩)]) ∧ (Ext br u') ∧ (RatN u' r9 (Nt.sumQ (Nt.valQ (Nt.UQ W.f) N (Nt.unQ (1 + s) j) i) (N.getD i []) k) 100)) (fun m S u1 u2 e h => by obtain ⟨k, r9, hm, p0, hS, hE, f0⟩ := h; exact ⟨k, r9, hm, p0, hS, hE.trans e, f0.ext e⟩) _ yz ⟨0, a5, rfl, Nat.zero_le _, rfl, (Ext.refl _), (show RatN _ _ (Nt.sumQ (Nt.valQ (Nt.UQ W.f) N (Nt.unQ (1 + s) j) i) (N.getD i []) 0) 100 from RatN.more (K := 2) bC xq)⟩ ?_)))))))
   rintro a2 _ bG ⟨k, r9, bJ, hk, rfl, ab, aA⟩
   refine sq9 (zza 44 (zB (decide ((k : Int) < (((La.getD i sl0).n : Nat) : Int)))) (zzb (zzd (zzu (b := decide ((k : Int) < (((La.getD i sl0).n : Nat) : Int))) xj (fun aj => ?_) (fun aj => ?_)))))
   ·have qhb46 := of_decide_eq_true aj
    refine zzs (zzp ?_)
    refine zzd (zzt (sq9 ?_))
    obtain ⟨b47, aU, aF⟩ := terms_at (i := k) (T := (N.getD i [])) (gC i xq).1 xq
    refine zya 45 (0 + k * 2) (n := (La.getD i sl0).n) (off := 0) (sz := 2) (i := (k : Int)) xq aU xq xq sl148 (zym 46 ((N.getD i []).getD k tl0).cs (fun j hj => by have h9 := aF j hj; rw [List.getElem?_eq_getElem hj] at h9 ⊢; exact (aJ.trans ((ExtB.old af aZ.ext ai).trans (aS.t (aN.t (aK.t (aM.t (aB.t (am.t (ak.t ab))))))))).cell h9) ty147 ?_)
    refine zzk 13 ⟨147, [.int .i64 0, .int .i64 0]⟩ (zzj ⟨147, [.int .i64 (((N.getD i []).getD k tl0).f), .int .i64 (((N.getD i []).getD k tl0).c)]⟩ ty147 ?_)
    refine zzb (zzd ?_)
    have htj := (hok.ht i xq).2 k xq
    have hcb : -16777216 ≤ ((N.getD i []).getD k tl0).c ∧ ((N.getD i []).getD k tl0).c ≤ 16777216 := by rcases htj.2.2 with h | h; (rw [h]; omega); (have h9 := Nt.fit_iff.1 h; have h8 : Nt.p2i (W.b - 1) ≤ 8388608 := Nt.zwh (b := 23) xq; omega)
    refine zzf (zza 47 (.adr 13 1) (zzi 48 (zI (((N.getD i []).getD k tl0).c)) ty3 zzl (zza 49 (zB ((((N.getD i []).getD k tl0).c) != 0)) ?_)))
    rcases Bool.eq_false_or_eq_true ((((N.getD i []).getD k tl0).c) != 0) with hs48 | hs48
    ·refine zyq 50 (x := zB ((((N.getD i []).getD k tl0).c) != 0)) (zB true) (by rw [hs48]) (zza 51 (.slc 86 0 (1 + s + i) cp) ?_ (hw := w1 3 true 50))
     refine zza 52 (.adr 13 0) ?_ (hw := w1 3 true 50)
     refine zzi 53 (zI (((N.getD i []).getD k tl0).f)) ty3 zzl ?_ (hw := w1 3 true 50)
     refine zyw 54 (off' := (((N.getD i []).getD k tl0).f).toNat * 3) (n := (1 + s + i)) (off := 0) (sz := 3) (i := ((N.getD i []).getD k tl0).f) sl26 xq xq xq ?_ (hw := w1 3 true 50)
     obtain ⟨bd, ac⟩ : ∃ r : RL, (Lv).getD ((((N.getD i []).getD k tl0).f).toNat) rl0 = r := ⟨_, rfl⟩
     refine zzi 55 (V := ⟨32, rcs Lv ++ Xv⟩) (off := (((N.getD i []).getD k tl0).f).toNat * 3) (.v bd.v) ty32 (by have h9 := part_rcsX (X := Xv) (L := Lv) (i := (((N.getD i []).getD k tl0).f).toNat) (off := (((N.getD i []).getD k tl0).f).toNat * 3) (by first | omega | (rw [hLl]; omega)) rfl; rw [ac] at h9; exact h9) ?_ (hw := w1 3 true 50)
     have h50 := (hV.ext (am.t (ak.t ab))).2 ((((N.getD i []).getD k tl0).f).toNat) (by rw [hvl]; omega)
     rw [ac] at h50
     refine zzg 56 66 _ (fun _ _ al bo => Post.mono (k_ratSign bo (h50.ext al).raw) ?_) (hw := w1 3 true 50)
     rintro _ u52 ap rfl
     refine zza 57 (zB ((Nt.sgQ ((Nt.valQ (Nt.UQ W.f) N (Nt.unQ (1 + s) j) i).getD ((((N.getD i []).getD k tl0).f).toNat) 0)) != 0)) ?_ (hw := w1 3 true 50)
     refine zza 58 (zB ((Nt.sgQ ((Nt.valQ (Nt.UQ W.f) N (Nt.unQ (1 + s) j) i).getD ((((N.getD i []).getD k tl0).f).toNat) 0)) != 0)) (zzc 89 [(2, zI (-1)), (7, .slc 86 0 (1 + s + i) cp), (8, .adr 8 0), (9, zI i), (11, .adr 11 0), (13, .adr 13 0), (32, .v (X.v)), (33, zI X.n), (34, zI i), (41, .v (.slice (La.getD i sl0).a (La.getD i sl0).n (La.getD i sl0).c)), (42, zI (((La.getD i sl0).n : Nat) : Int)), (43, zI k), (58, zB ((Nt.sgQ ((Nt.valQ (Nt.UQ W.f) N (Nt.unQ (1 + s) j) i).getD ((((N.getD i []).getD k tl0).f).toNat) 0)) != 0))] [(8, ⟨32, ah.cs⟩), (11, ⟨32, r9.cs⟩), (13, ⟨147, [.int .i64 (((N.getD i []).getD k tl0).f), .int .i64 (((N.getD i []).getD k tl0).c)]⟩), (86, ⟨32, rcs Lv ++ Xv⟩)] (zzu (b := (Nt.sgQ ((Nt.valQ (Nt.UQ W.f) N (Nt.unQ (1 + s) j) i).getD ((((N.getD i []).getD k tl0).f).toNat) 0)) != 0) xj (fun aw => ?_) (fun aw => ?_)))
     ·refine zzz [0, 0, 2, 6, 0, 0, 32, 112, 240, 510, 1023, 2047] [(0, []), (1, []), (2, []), (4, []), (5, []), (6, []), (7, []), (8, []), (3, []), (9, []), (10, []), (11, [])] xj xj (zzi 59 (.v (r9.v)) ty32 zze (zza 60 (.adr 13 1) (zzi 61 (zI (((N.getD i []).getD k tl0).c)) ty3 zzl (zza 63 (.slc 86 0 (1 + s + i) cp) (zza 64 (.adr 13 0) (zzi 65 (zI (((N.getD i []).getD k tl0).f)) ty3 zzl (zyw 66 (off' := (((N.getD i []).getD k tl0).f).toNat * 3) (n := (1 + s + i)) (off := 0) (sz := 3) (i := ((N.getD i []).getD k tl0).f) sl26 xq xq xq ?_)))))))
      obtain ⟨bI, ad⟩ : ∃ r : RL, (Lv).getD ((((N.getD i []).getD k tl0).f).toNat) rl0 = r := ⟨_, rfl⟩
      refine zzi 67 (V := ⟨32, rcs Lv ++ Xv⟩) (off := (((N.getD i []).getD k tl0).f).toNat * 3) (.v bI.v) ty32 (by have h9 := part_rcsX (X := Xv) (L := Lv) (i := (((N.getD i []).getD k tl0).f).toNat) (off := (((N.getD i []).getD k tl0).f).toNat * 3) (by first | omega | (rw [hLl]; omega)) rfl; rw [ad] at h9; exact h9) ?_
      have h57 := (hV.ext (am.t (ak.t (ab.t (al.t ap.ext))))).2 ((((N.getD i []).getD k tl0).f).toNat) (by rw [hvl]; omega)
      rw [ad] at h57
      refine zzg 62 109 _ fun _ _ aD bc => Post.mono (k_ratOf bc (z := ((N.getD i []).getD k tl0).c) xq xq) ?_
      rintro _ u61 aI ⟨r59, rfl, bm⟩
      refine zzg 68 113 _ fun _ _ ax bD => Post.mono (k_ratMul bD (bm.ext ax).raw (h57.ext (aD.t (aI.t ax))).raw xq xq) ?_
      rintro _ u67 a9 ⟨r65, rfl, be⟩
      refine zzg 69 112 _ fun _ _ aV bb => Post.mono (k_ratAdd bb (aA.ext (al.t (ap.t (aD.t (aI.t (ax.t (a9.t aV))))))).raw (be.ext aV).raw xq xq) ?_
      rintro _ u73 bp ⟨a1, rfl, bw⟩
      refine zzj ⟨32, a1.cs⟩ ty32 ?_
      refine zzx ?_
      refine zzp (zzf (zyq 70 (x := zI (IntKind.i64.wrap ((k : Int) + 1))) (zI (k + 1 : Nat)) (eqI yq) (zza 43 (zI (k + 1 : Nat)) (zzx ?_))))
      refine ⟨_, ?_, _, by exact zzv _ _ _, k + 1, a1, rfl, by omega, rfl, (ab.t (al.t (ap.t (aD.t (aI.t (ax.t (a9.t (aV.t bp.ext)))))))), (show RatN _ _ (Nt.sumQ (Nt.valQ (Nt.UQ W.f) N (Nt.unQ (1 + s) j) i) (N.getD i []) (k + 1)) 100 from RatN.fit (L := 100) bw (Nt.sum_rs (D := D) (W := W) hok j (k := i) xq xq))⟩
      omega
     refine zzs (zzp ?_)
     refine zzf (zyq 70 (x := zI (IntKind.i64.wrap ((k : Int) + 1))) (zI (k + 1 : Nat)) (eqI yq) (zza 43 (zI (k + 1 : Nat)) (zzx ?_)))
     refine ⟨_, ?_, _, by exact zzv _ _ _, k + 1, r9, rfl, by omega, rfl, (ab.t (al.t ap.ext)), (by rw [← Nt.sumQ_skip (.inr (Nt.sgQ_0 aw))]; exact (aA.ext (al.t ap.ext)))⟩
     omega
    refine zyq 50 (x := zB ((((N.getD i []).getD k tl0).c) != 0)) (zB false) (by rw [hs48]) (zzn 51 (uw 3 true false 50) (zzn 52 (uw 3 true false 50) (zzn 53 (uw 3 true false 50) (zzn 54 (uw 3 true false 50) (zzn 55 (uw 3 true false 50) (zzn 56 (uw 3 true false 50) (zzn 57 (uw 3 true false 50) (zza 58 (zB false) (zzc 89 [(2, zI (-1)), (7, .slc 86 0 (1 + s + i) cp), (8, .adr 8 0), (9, zI i), (11, .adr 11 0), (13, .adr 13 0), (32, .v (X.v)), (33, zI X.n), (34, zI i), (41, .v (.slice (La.getD i sl0).a (La.getD i sl0).n (La.getD i sl0).c)), (42, zI (((La.getD i sl0).n : Nat) : Int)), (43, zI k), (58, zB false)] [(8, ⟨32, ah.cs⟩), (11, ⟨32, r9.cs⟩), (13, ⟨147, [.int .i64 (((N.getD i []).getD k tl0).f), .int .i64 (((N.getD i []).getD k tl0).c)]⟩), (86, ⟨32, rcs Lv ++ Xv⟩)] (zys xj (zzs (zzp ?_))))))))))))
    refine zzf (zyq 70 (x := zI (IntKind.i64.wrap ((k : Int) + 1))) (zI (k + 1 : Nat)) (eqI yq) (zza 43 (zI (k + 1 : Nat)) (zzx ?_)))
    refine ⟨_, ?_, _, by exact zzv _ _ _, k + 1, r9, rfl, by omega, rfl, ab, (by rw [← Nt.sumQ_skip (.inl (Nt.ne_0 hs48))]; exact aA)⟩
    omega
   have qhb46 := of_decide_eq_false aj
   refine zyc (zzp (zzd ?_))
   have hkl : k = (N.getD i []).length := by omega
   have aO : RatN bG r9 (Nt.sumQ (Nt.valQ (Nt.UQ W.f) N (Nt.unQ (1 + s) j) i) (N.getD i []) (N.getD i []).length) 100 := by rw [← hkl]; exact aA
   refine zzf (zzi 72 (.v (r9.v)) ty32 zze (zzi 73 (.v (ah.v)) ty32 zze (zzg 74 138 _ fun _ _ az bh => Post.mono (k_ratDiv1 bh (aO.ext az).raw (bK.ext (aB.t (am.t (ak.t (ab.trans az))))).raw (Nt.UQ_ne W.f) xq xq) ?_)))
   rintro _ u80 a8 ⟨aa, rfl, a4⟩
   refine zza 71 (.v (.tuple #[aa.v, .int .i64 0])) (zza 75 (.v (aa.v)) (zza 76 (zI 0) (zzk 14 ⟨32, zw3⟩ (zzj ⟨32, aa.cs⟩ ty32 ?_))))
   refine zza 15 (zI 0) (zzc 89 [(2, zI (-1)), (7, .slc 86 0 (1 + s + i) cp), (8, .adr 8 0), (9, zI i), (14, .adr 14 0), (32, .v (X.v)), (33, zI X.n), (34, zI i)] [(8, ⟨32, ah.cs⟩), (14, ⟨32, aa.cs⟩), (86, ⟨32, rcs Lv ++ Xv⟩)] (zzd (sq9 (zza 77 (zI i) (zza 78 (zI (-1)) (zza 79 (zB ((i : Int) == (-1))) (zzb (zzu (b := (i : Int) == (-1)) xj (fun hb => ?_) (fun hb => ?_)))))))))
   ·exact absurd hb (by rw [show ((i : Int) == (-1)) = false from (by first | (simp; done) | (simp; omega))]; decide)
   clear hb
   refine zzs (zzp ?_)
   refine zzf (zza 83 (.slc 86 0 (1 + s + i) cp) (zzi 84 (.v (aa.v)) ty32 zze (zxz 85 ⟨32, aa.cs⟩ 1 (fun aX bl ay a3 => ?_))))
   have bi : PolN bl (⟨some ⟨aX, 0, none⟩, 1, 1⟩ : Sl) [((Nt.sumQ (Nt.valQ (Nt.UQ W.f) N (Nt.unQ (1 + s) j) i) (N.getD i []) (N.getD i []).length) / ((Nt.p2i W.f : Int) : Rat))] (100 + 2) := pol_lit (L := [aa]) a3 (rats1 (a4.ext ay)) rfl yj
   have ar : (rcs Lv ++ Xv).take ((1 + s + i) * 3) = rcs Lv := take_rcsX hLl
   refine sy_app1 86 (T := 26) (E := 32) (z := .agg #[.bool false, .slice none 0 0, .slice none 0 0]) (size := 3) (bytes := 56) (b := aX) (off := 0) (m := 1) (n := 1 + s + i) (cap := cp) (t := 86) (cs0 := (rcs Lv ++ Xv)) [7, 83, 86] aa.cs xj xj xj yj rfl (lit_news ((Ext.refl _).cells a3)) (rl_one aa) yj yv xq xq xq xq xk ?_
   intro a6 aW bn aH aL aR
   have av : aW.take ((1 + s + i + 1) * 3) = rcs (Lv ++ [aa]) := by rw [aR, ar, rcs_app]; rfl
   refine zza 7 (.slc 86 0 (1 + s + i + 1) a6) (zzx ?_)
   refine zzp (zzf (zyq 87 (x := zI (IntKind.i64.wrap ((i : Int) + 1))) (zI (i + 1 : Nat)) (eqI yq) (zza 34 (zI (i + 1 : Nat)) (zzx ?_))))
   obtain ⟨bf, aC⟩ := spare_of (n := 1 + s + i + 1) av
   subst aC
   refine ⟨_, ?_, _, by exact zzv _ _ _, i + 1, Lv ++ [aa], bf, a6, rfl, by omega, (by rw [List.length_append, hLl]; rfl), aL, xq, aH, rfl, (aB.t (am.t (ak.t (ab.t (az.t (a8.t ay)))))), (RatsN.snoc (hV.ext (am.t (ak.t (ab.t (az.t (a8.t ay)))))) (RatN.fit (L := 100) (a4.ext ay) (by have h9 := Nt.val_rs (D := D) (W := W) hok j (k := i + 1) xq (1 + s + i); rw [show (Nt.valQ (Nt.UQ W.f) N (Nt.unQ (1 + s) j) (i + 1)) = (Nt.valQ (Nt.UQ W.f) N (Nt.unQ (1 + s) j) i) ++ [((Nt.sumQ (Nt.valQ (Nt.UQ W.f) N (Nt.unQ (1 + s) j) i) (N.getD i []) (N.getD i []).length) / ((Nt.p2i W.f : Int) : Rat))] from rfl, Nt.getD_appr (by rw [hvl])] at h9; exact h9)))⟩
   omega
  have qhb37 := of_decide_eq_false ag
  refine zyc (zzp (zzd (zyp (r := 7) (t := 86) [7, 86] xk xj zk zk xj (fun au bk bv aP aG => ?_))))
  have aE : PolN bk (⟨some ⟨au, 0, none⟩, 1 + s + i, cp⟩ : Sl) (Nt.valQ (Nt.UQ W.f) N (Nt.unQ (1 + s) j) i) 100 := pol_data aG (take_rcsX hLl) ba hle hmx (hV.ext bv)
  refine zzf (zza 88 (.v (.slice (some ⟨au, 0, none⟩) (1 + s + i) cp)) (zza 6 (.v (.slice (some ⟨au, 0, none⟩) (1 + s + i) cp)) (zzb (zzo (ret0 [.slice (some ⟨au, 0, none⟩) (1 + s + i) cp] ⟨zzq, trivial⟩ fun u97 bt => ?_)))))
  have bH : i = N.length := by omega
  subst bH
  exact ⟨(⟨some ⟨au, 0, none⟩, 1 + s + N.length, cp⟩ : Sl), rfl, (aE.ext bt), fun a ha => by injection ha with ha; subst ha; exact aP⟩
 exact absurd hb (by rw [show (decide ((0 : Int) ≤ (j : Int))) = true from decide_eq_true xq]; decide)
namespace Nt
section
variable {s i j k a b : Nat} {q : Rat} {f : Nat → Nat → Rat} {g h : Nat → Rat}
theorem l0 {x : Option Rat} (hv : (if a < s then (if a < 0 then some (f a b) else none) else if a = s then (if b < 0 then some (g b) else none) else none) = some q) : x = some q := by
 by_cases h1 : a < s
 ·rw [if_pos h1, if_neg (Nat.not_lt_zero a)] at hv; cases hv
 rw [if_neg h1] at hv
 by_cases h2 : a = s
 ·rw [if_pos h2, if_neg (Nat.not_lt_zero b)] at hv; cases hv
 rw [if_neg h2] at hv; cases hv
theorem l1 (hv : (if a < s then (if a < i ∨ a = i ∧ b < 0 then some (f a b) else none) else if a = s then (if b < i then some (g b) else none) else none) = some q) : (if a < s then (if a < i then some (f a b) else none) else if a = s then (if b < i then some (g b) else none) else none) = some q := by
 by_cases h1 : a < s
 ·rw [if_pos h1] at hv ⊢
  by_cases h2 : a < i
  ·rw [if_pos (.inl h2)] at hv; rw [if_pos h2]; exact hv
  rw [if_neg xq] at hv; cases hv
 rw [if_neg h1] at hv ⊢; exact hv
theorem l2 (hi : i < s) (hv : (if a < s then (if a < i ∨ a = i ∧ b < j + 1 then some (f a b) else none) else if a = s then (if b < i then some (g b) else none) else none) = some q) : up2 (fun a b => if a < s then (if a < i ∨ a = i ∧ b < j then some (f a b) else none) else if a = s then (if b < i then some (g b) else none) else none) i j (f i j) a b = some q := by
 unfold up2
 dsimp only
 by_cases h0 : a = i ∧ b = j
 ·rw [if_pos h0]
  rw [if_pos xq, if_pos xq, h0.1, h0.2] at hv; exact hv
 rw [if_neg h0]
 by_cases h1 : a < s
 ·rw [if_pos h1] at hv ⊢
  by_cases h2 : a < i ∨ a = i ∧ b < j
  ·rw [if_pos h2]; rw [if_pos xq] at hv; exact hv
  rw [if_neg xq] at hv; cases hv
 rw [if_neg h1] at hv ⊢; exact hv
theorem l3 (hb : b < s) (hj : j = s) (hv : (if a < s then (if a < i + 1 then some (f a b) else none) else if a = s then (if b < i + 1 then some (g b) else none) else none) = some q) : up2 (fun a b => if a < s then (if a < i ∨ a = i ∧ b < j then some (f a b) else none) else if a = s then (if b < i then some (g b) else none) else none) s i (g i) a b = some q := by
 unfold up2
 dsimp only
 by_cases h0 : a = s ∧ b = i
 ·rw [if_pos h0]
  rw [if_neg xq, if_pos h0.1, if_pos xq, h0.2] at hv; exact hv
 rw [if_neg h0]
 by_cases h1 : a < s
 ·rw [if_pos h1] at hv ⊢
  by_cases h2 : a < i + 1
  ·rw [if_pos h2] at hv; rw [if_pos xq]; exact hv
  rw [if_neg h2] at hv; cases hv
 rw [if_neg h1] at hv ⊢
 by_cases h2 : a = s
 ·rw [if_pos h2] at hv ⊢
  by_cases h3 : b < i
  ·rw [if_pos h3]; rw [if_pos xq] at hv; exact hv
  rw [if_neg xq] at hv; cases hv
 rw [if_neg h2] at hv; cases hv
theorem l4 (hb : b < s) (hi : i = s) (hv : (if a < s then some (f a b) else if a = s then some (g b) else if b < 0 then some (h b) else none) = some q) : (if a < s then (if a < i then some (f a b) else none) else if a = s then (if b < i then some (g b) else none) else none) = some q := by
 by_cases h1 : a < s
 ·rw [if_pos h1] at hv ⊢; rw [if_pos xq]; exact hv
 rw [if_neg h1] at hv ⊢
 by_cases h2 : a = s
 ·rw [if_pos h2] at hv ⊢; rw [if_pos xq]; exact hv
 rw [if_neg h2, if_neg (Nat.not_lt_zero b)] at hv; cases hv
theorem l5 (ha : a < s + 2) (hv : (if a < s then some (f a b) else if a = s then some (g b) else if b < k + 1 then some (h b) else none) = some q) : up2 (fun a b => if a < s then some (f a b) else if a = s then some (g b) else if b < k then some (h b) else none) (s + 1) k (h k) a b = some q := by
 unfold up2
 dsimp only
 by_cases h0 : a = s + 1 ∧ b = k
 ·rw [if_pos h0]
  rw [if_neg xq, if_neg xq, if_pos xq, h0.2] at hv; exact hv
 rw [if_neg h0]
 by_cases h1 : a < s
 ·rw [if_pos h1] at hv ⊢; exact hv
 rw [if_neg h1] at hv ⊢
 by_cases h2 : a = s
 ·rw [if_pos h2] at hv ⊢; exact hv
 rw [if_neg h2] at hv ⊢
 by_cases h3 : b < k
 ·rw [if_pos h3]; rw [if_pos xq] at hv; exact hv
 rw [if_neg xq] at hv; cases hv
end
end Nt
set_option maxHeartbeats 8000000 in
theorem k_nLinear {u w : World} {D W : WL} {s : Nat} {X Y : Sl} {h lo : Nat} {N : List (List TL)} {nx : List Int} {q : Nat} (d : Dat u w) (hN : NodesB lo h u X N) (hY : MutL 1 3 lo u Y (ics nx)) (hok : Nt.NetOK D W s N nx ((q : Nat) : Int)) : Calls Tryz.prog 42 #[.agg #[.int .i64 D.b, .int .i64 D.f, .int .i64 D.r, .int .i64 D.o, .int .i64 W.b, .int .i64 W.f, .int .i64 W.r, .int .i64 W.o, .int .i64 (s : Int), X.v, Y.v, .int .i64 ((q : Nat) : Int)]] w (Post u w fun v u' => ∃ (x y z : Sl) (r : RL) (Rs : List Sl), v = .tuple #[.agg #[x.v, y.v, z.v, .bool r.s, .slice r.m.a r.m.n r.m.c, .slice r.d.a r.d.n r.d.c], .int .i64 0] ∧ MatV u' x s Rs (fun i => rowL s ((Nt.lnA (Nt.UQ W.f) N s nx) i)) 100 ∧ PolN u' y (rowL s (Nt.lnB (Nt.UQ W.f) N s nx)) 100 ∧ PolN u' z (rowL s (Nt.lnC (Nt.UQ W.f) N s ((q : Nat) : Int))) 100 ∧ RatN u' r (Nt.lnD (Nt.UQ W.f) N s ((q : Nat) : Int)) 100) := by
 obtain ⟨La, gA, gB, gC⟩ := id hN
 have hNl := hN.len
 have hD := hok.hd
 have hWc := hok.hw
 have hs64 := hok.hs
 have hn64 := hok.hn
 have hxs := hok.hx
 have hYr := MutL.slr hY
 have hYl : nx.length = Y.n := hYr.1
 have hqq := hok.hq
 have hbx : ∀ z ∈ nx, -9223372036854775808 ≤ z ∧ z ≤ 9223372036854775807 := fun z hz => by
  obtain ⟨j, hj, rfl⟩ := Nt.mem_getD hz
  have h9 := hok.hr j hj
  omega
 have hT1 : ∀ i, i < N.length → (La.getD i sl0).n = (N.getD i []).length ∧ (N.getD i []).length ≤ 64 := fun i hi => ⟨tms_len (gC i hi).1, (hok.ht i hi).1⟩
 obtain ⟨hd1, hd2, hd3, hd4, hd5, hd6, hd7, hd8⟩ := id hD
 obtain ⟨hw1, hw2, hw3, hw4, hw5, hw6, hw7, hw8⟩ := id hWc
 have hpw1 := Nt.zxq W.f
 have hpw2 := Nt.p2i_24 (n := W.f) xq
 have hpd1 := Nt.zxq (D.b - 1)
 have ct : Nt.p2i (D.b - 1) ≤ 8388608 := Nt.zwh (b := 23) xq
 refine zzm (args := [.agg #[.int .i64 D.b, .int .i64 D.f, .int .i64 D.r, .int .i64 D.o, .int .i64 W.b, .int .i64 W.f, .int .i64 W.r, .int .i64 W.o, .int .i64 s, X.v, Y.v, .int .i64 q]]) Tryz.func42 rfl Tryz.ntmps42 (rs := [.cell 2 77, .tmp 3]) Tryz.results42 (le_b rfl) (le_b rfl) d ?_
 refine sq9 (zzk 1 ⟨72, [.int .i64 D.b, .int .i64 D.f, .int .i64 D.r, .int .i64 D.o, .int .i64 W.b, .int .i64 W.f, .int .i64 W.r, .int .i64 W.o, .int .i64 s, X.v, Y.v, .int .i64 q]⟩ (zzk 2 ⟨77, [.slice none 0 0, .slice none 0 0, .slice none 0 0, .bool false, .slice none 0 0, .slice none 0 0]⟩ (zza 3 (zI 0) (zzb (zzd (sq9 (zzi 11 (.v (.agg #[.int .i64 D.b, .int .i64 D.f, .int .i64 D.r, .int .i64 D.o, .int .i64 W.b, .int .i64 W.f, .int .i64 W.r, .int .i64 W.o, .int .i64 s, X.v, Y.v, .int .i64 q])) ty72 zze (zzg 12 105 _ fun _ _ aR bZ => Post.mono (k_netValid bZ (hN.ext aR) (hY.ext aR) hok) ?_))))))))
 rintro _ b6 bM rfl
 refine zza 13 (zB false) (zzb (zys xj (zzs (zzp ?_))))
 refine sq9 (zza 15 (.adr 1 8) (zzi 16 (zI s) ty3 zzl (zyq 17 (x := zI (IntKind.i64.wrap ((s : Int) + 1))) (zI (s + 1 : Nat)) (eqI yq) (sy_makeF 18 (T := 75) (E := 26) (z := .slice none 0 0) (size := 1) (bytes := 24) (s + 1) ((List.replicate (s + 1) sl0).map Sl.v) xj xj rfl rfl xq yv (made_sls _) (fun aa cl cz cd f15 b0 => ?_)))))
 have be : MutQ 1 26 b6.heap.size cl (⟨some ⟨aa, 0, none⟩, s + 1, s + 1⟩ : Sl) ((List.replicate (s + 1) sl0).map Sl.v) := MutQ.lit cd (by rw [List.length_map, List.length_replicate, Nat.mul_one]) yv b0 (nu_sls _)
 refine zza 4 (.v (.slice (some ⟨aa, 0, none⟩) (s + 1) (s + 1))) (zzb (zzd (sq9 (zza 19 (.v (.slice (some ⟨aa, 0, none⟩) (s + 1) (s + 1))) (zza 20 (zI (s + 1 : Nat)) (zza 21 (zI 0) (zzb (zzt (zyn (I := fun bL S' u' => ∃ (i : Nat) (Rc : List Sl), (bL = s + 1 - i) ∧ (i ≤ s + 1) ∧ (S' = St.of 106 [(1, .adr 1 0), (2, .adr 2 0), (4, .v (.slice (some ⟨aa, 0, none⟩) (s + 1) (s + 1))), (20, zI (s + 1 : Nat)), (21, zI i)] [(1, ⟨72, [.int .i64 D.b, .int .i64 D.f, .int .i64 D.r, .int .i64 D.o, .int .i64 W.b, .int .i64 W.f, .int .i64 W.r, .int .i64 W.o, .int .i64 s, X.v, Y.v, .int .i64 q]⟩), (2, ⟨77, [.slice none 0 0, .slice none 0 0, .slice none 0 0, .bool false, .slice none 0 0, .slice none 0 0]⟩)]) ∧ (Ext u u') ∧ (ColQ 26 u.heap.size u' (⟨some ⟨aa, 0, none⟩, s + 1, s + 1⟩ : Sl) (s + 1) Rc (fun j => Nt.colQ (Nt.UQ W.f) N s j) i 100)) (fun m S u1 u2 e h => by obtain ⟨i, Rc, hm, p0, hS, hE, f0⟩ := h; exact ⟨i, Rc, hm, p0, hS, hE.trans e, f0.ext e⟩) _ yz ⟨0, (List.replicate (s + 1) sl0), rfl, Nat.zero_le _, rfl, (aR.t (bM.t cz)), (ColQ.start (MutQ.ext (MutQ.low be (Ext.size (aR.t bM.ext))) (Ext.refl _)))⟩ ?_)))))))))
 rintro bL _ b9 ⟨i, Rc, ch, hi, rfl, ae, cf⟩
 have hxc := ColQ.xn cf
 refine sq9 (zza 22 (zB (decide ((i : Int) < ((s + 1 : Nat) : Int)))) (zzb (zzd (zzu (b := decide ((i : Int) < ((s + 1 : Nat) : Int))) xj (fun an => ?_) (fun an => ?_)))))
 ·have qhb18 := of_decide_eq_true an
  refine zzs (zzp ?_)
  refine zzd (zzt (sq9 (zza 23 (zI i) (zza 5 (zI i) (zzb (zzf (zza 24 (.v (.slice (some ⟨aa, 0, none⟩) (s + 1) (s + 1))) (zza 25 (zI i) (zzi 26 (.v (.agg #[.int .i64 D.b, .int .i64 D.f, .int .i64 D.r, .int .i64 D.o, .int .i64 W.b, .int .i64 W.f, .int .i64 W.r, .int .i64 W.o, .int .i64 s, X.v, Y.v, .int .i64 q])) ty72 zze (zza 27 (zI i) (zzg 28 106 _ fun _ b1 ap ck => Post.mono (k_nSpread (j := i) ck (hN.ext (ae.trans ap)) (hY.ext (ae.trans ap)) hok xq) ?_)))))))))))
  rintro _ u23 bs ⟨y20, rfl, bi, bx⟩
  have ho26 := (cf.ext (ap.t bs.ext))
  obtain ⟨b26, aD, cg⟩ := ColQ.cell (i := i) ho26 xq
  refine zya 29 (0 + i * 1) (n := s + 1) (off := 0) (sz := 1) (i := (i : Int)) xq aD xq xq sl75 ?_
  have ho27 := (cf.ext (ap.t bs.ext))
  have bq : Sep (⟨some ⟨aa, 0, none⟩, s + 1, s + 1⟩ : Sl) y20 := sep_new (lo := b1.heap.size) ((MutQ.mutL (ColQ.out (ColQ.ext cf ap))).lt rfl) bx
  refine sy_storeQ (v := y20.v) (off := 0 + i * 1) (n := 1) (⟨some ⟨aa, 0, none⟩, s + 1, s + 1⟩ : Sl) (ColQ.out ho27) (MutQ.mayA (ColQ.out ho27) (Nat.le_refl _)) aD ty26 (by rw [List.length_map, ColQ.len ho27]; omega) (nu_sls [y20]) (fun b4 bj aE => ?_)
  have bw : MutQ 1 26 u.heap.size b4 (⟨some ⟨aa, 0, none⟩, s + 1, s + 1⟩ : Sl) ((Rc.set i y20).map Sl.v) := by rw [← setL_map (y := y20) (i := i) (by rw [ColQ.len ho27]; omega)]; exact bj
  have eX27r := ExtX.root aE (MutQ.mutL (ColQ.out ho27)) (ae.t (ap.t bs.ext))
  have hC27 := ColQ.next ho27 bw aE xq bi bq
  refine zzx ?_
  refine zzp (zzf (zyq 30 (x := zI (IntKind.i64.wrap ((i : Int) + 1))) (zI (i + 1 : Nat)) (eqI yq) (zza 21 (zI (i + 1 : Nat)) (zzx ?_))))
  refine ⟨_, ?_, _, by exact zzv _ _ _, i + 1, (Rc.set i y20), rfl, by omega, rfl, eX27r, hC27⟩
  omega
 have qhb18 := of_decide_eq_false an
 refine zyc (zzp (zzd ?_))
 have hMc : MatV b9 (⟨some ⟨aa, 0, none⟩, s + 1, s + 1⟩ : Sl) (s + 1) Rc (fun j => Nt.colQ (Nt.UQ W.f) N s j) 100 := ColQ.matV (by have h9 := cf; rw [show i = s + 1 by omega] at h9; exact h9)
 refine zzf (zza 31 (.adr 1 8) (zzi 32 (zI s) ty3 zzl (zzg 33 107 _ fun _ ad ab cn => Post.mono (k_nZero (n := s) cn xq) ?_)))
 rintro _ u29 b7 ⟨xz, yB, yC, rz, R0, L0, rfl, bD, ca, aM, ar, cw⟩
 have hxz := SysE.xn bD
 refine zzk 6 ⟨77, [.slice none 0 0, .slice none 0 0, .slice none 0 0, .bool false, .slice none 0 0, .slice none 0 0]⟩ (zzj ⟨77, [xz.v, yB.v, yC.v] ++ rz.cs⟩ ty77 ?_)
 refine zzb (zzd (sq9 (zza 34 (.adr 1 10) (zzi 35 (.v (Y.v)) ty22 zzl (zza 36 (zI Y.n) (zza 37 (zI 0) (zzb (zzt (zyn (I := fun bF S' u' => ∃ (i2 : Nat) (La : List (List RL)), (bF = Y.n - i2) ∧ (i2 ≤ Y.n) ∧ (La.length = s + 2) ∧ (S' = St.of 106 [(1, .adr 1 0), (2, .adr 2 0), (4, .v (.slice (some ⟨aa, 0, none⟩) (s + 1) (s + 1))), (6, .adr 6 0), (35, .v (Y.v)), (36, zI Y.n), (37, zI i2)] [(1, ⟨72, [.int .i64 D.b, .int .i64 D.f, .int .i64 D.r, .int .i64 D.o, .int .i64 W.b, .int .i64 W.f, .int .i64 W.r, .int .i64 W.o, .int .i64 s, X.v, Y.v, .int .i64 q]⟩), (2, ⟨77, [.slice none 0 0, .slice none 0 0, .slice none 0 0, .bool false, .slice none 0 0, .slice none 0 0]⟩), (6, ⟨77, [xz.v, yB.v, yC.v] ++ rz.cs⟩)]) ∧ (Ext ad u') ∧ (SysE 26 32 ad.heap.size u' xz s R0 La (fun _ => s) (fun a b => if a < s then (if a < i2 then some ((Nt.lnA (Nt.UQ W.f) N s nx) a b) else none) else if a = s then (if b < i2 then some ((Nt.lnB (Nt.UQ W.f) N s nx) b) else none) else none) 100) ∧ (RatN u' rz ((0 : Int) : Rat) 2)) (fun m S u1 u2 e h => by obtain ⟨i2, La, hm, p0, p1, hS, hE, f0, f1⟩ := h; exact ⟨i2, La, hm, p0, p1, hS, hE.trans e, f0.ext e, f1.ext e⟩) _ yz ⟨0, L0, rfl, Nat.zero_le _, ca, rfl, b7.ext, (SysE.congr (SysE.more bD xq) (fun a ha => rfl) (fun a b q _ _ hv => Nt.l0 hv)), cw⟩ ?_)))))))))
 rintro bF _ u32 ⟨i2, La, b3, hi2, hLa, rfl, aT, g0, al⟩
 refine sq9 (zza 38 (zB (decide ((i2 : Int) < (Y.n : Int)))) (zzb (zzd (zzu (b := decide ((i2 : Int) < (Y.n : Int))) xj (fun ai => ?_) (fun ai => ?_)))))
 ·have qhb33 := of_decide_eq_true ai
  refine zzs (zzp ?_)
  refine zzd (zzt (sq9 (zza 39 (zI i2) ?_)))
  have hl34 := ((hYr.ext (ae.trans (ab.trans aT)))).1
  obtain ⟨b34, bC, bm, bz⟩ := ints_at (hYr.ext (ae.trans (ab.trans aT))) (i := i2) xq
  have hz34 := ints_bd hbx xq i2
  refine zya 40 (bC + i2 * 1) (n := Y.n) (off := bC) (sz := 1) (i := (i2 : Int)) xq bm xq xq sl22 (zyl 41 (.int .i64 (nx.getD i2 0)) bz ty3 (zza 7 (zI i2) (zza 8 (zI (nx.getD i2 0)) (zzb (zzd (zzd ?_))))))
  have hrj := hok.hr i2 xq
  obtain ⟨kz, hkz⟩ : ∃ k : Nat, nx.getD i2 0 = (k : Int) := ⟨(nx.getD i2 0).toNat, by omega⟩
  rw [hkz]
  rw [hkz] at hrj
  refine zzf (zza 42 (.adr 1 8) (zzi 43 (zI s) ty3 zzl (zza 44 (zI 0) (zzc 106 [(1, .adr 1 0), (2, .adr 2 0), (4, .v (.slice (some ⟨aa, 0, none⟩) (s + 1) (s + 1))), (6, .adr 6 0), (7, zI i2), (8, zI kz), (35, .v (Y.v)), (36, zI Y.n), (37, zI i2), (43, zI s), (44, zI 0)] [(1, ⟨72, [.int .i64 D.b, .int .i64 D.f, .int .i64 D.r, .int .i64 D.o, .int .i64 W.b, .int .i64 W.f, .int .i64 W.r, .int .i64 W.o, .int .i64 s, X.v, Y.v, .int .i64 q]⟩), (2, ⟨77, [.slice none 0 0, .slice none 0 0, .slice none 0 0, .bool false, .slice none 0 0, .slice none 0 0]⟩), (6, ⟨77, [xz.v, yB.v, yC.v] ++ rz.cs⟩)] (zzt (zyn (I := fun bP S' u' => ∃ (j2 : Nat) (Lb : List (List RL)), (bP = s - j2) ∧ (j2 ≤ s) ∧ (Lb.length = s + 2) ∧ (S' = St.of 106 [(1, .adr 1 0), (2, .adr 2 0), (4, .v (.slice (some ⟨aa, 0, none⟩) (s + 1) (s + 1))), (6, .adr 6 0), (7, zI i2), (8, zI kz), (35, .v (Y.v)), (36, zI Y.n), (37, zI i2), (43, zI s), (44, zI j2)] [(1, ⟨72, [.int .i64 D.b, .int .i64 D.f, .int .i64 D.r, .int .i64 D.o, .int .i64 W.b, .int .i64 W.f, .int .i64 W.r, .int .i64 W.o, .int .i64 s, X.v, Y.v, .int .i64 q]⟩), (2, ⟨77, [.slice none 0 0, .slice none 0 0, .slice none 0 0, .bool false, .slice none 0 0, .slice none 0 0]⟩), (6, ⟨77, [xz.v, yB.v, yC.v] ++ rz.cs⟩)]) ∧ (Ext ad u') ∧ (SysE 26 32 ad.heap.size u' xz s R0 Lb (fun _ => s) (fun a b => if a < s then (if a < i2 ∨ a = i2 ∧ b < j2 then some ((Nt.lnA (Nt.UQ W.f) N s nx) a b) else none) else if a = s then (if b < i2 then some ((Nt.lnB (Nt.UQ W.f) N s nx) b) else none) else none) 100) ∧ (RatN u' rz ((0 : Int) : Rat) 2)) (fun m S u1 u2 e h => by obtain ⟨j2, Lb, hm, p0, p1, hS, hE, f0, f1⟩ := h; exact ⟨j2, Lb, hm, p0, p1, hS, hE.trans e, f0.ext e, f1.ext e⟩) _ yz ⟨0, La, rfl, Nat.zero_le _, hLa, rfl, aT, (SysE.congr g0 (fun a ha => rfl) (fun a b q _ _ hv => Nt.l1 hv)), al⟩ ?_))))))
  rintro bP _ bR ⟨j2, Lb, cq, hj2, hLb, rfl, af, j0, al⟩
  have hcl := Nt.colQ_len (U := (Nt.UQ W.f)) (N := N) (s := s) (j := j2 + 1)
  refine sq9 (zza 45 (zB (decide ((j2 : Int) < (s : Int)))) (zzb (zzd (zzu (b := decide ((j2 : Int) < (s : Int))) xj (fun aj => ?_) (fun aj => ?_)))))
  ·have qhb36 := of_decide_eq_true aj
   refine zzs (zzp ?_)
   refine zzd (zzt (sq9 (zza 46 (zI j2) (zza 9 (zI j2) (zzb (sw_anyC [0, 1, 0, 7, 15, 0, 0, 0, 128, 448, 960, 0, 4032, 8128, 16320, 32767, 65535] [(0, []), (1, []), (2, []), (3, []), (4, []), (5, []), (6, []), (7, []), (8, []), (9, []), (10, []), (11, []), (12, []), (13, []), (14, [])] [(15, []), (16, [])] xj xj xj ?_))))))
   refine zza 47 (.adr 6 0) (zzi 48 (.v (xz.v)) ty75 zzl (zza 49 (zI i2) ?_))
   have hq37 := j0
   obtain ⟨b37, bf, aU⟩ := SysE.cell (i := i2) hq37 xq
   have hn37 := SysE.xn hq37
   refine zya 50 (0 + i2 * 1) (n := xz.n) (off := 0) (sz := 1) (i := (i2 : Int)) xq bf xq xq sl75 (zyl 51 (.slice (R0.getD i2 sl0).a (R0.getD i2 sl0).n (R0.getD i2 sl0).c) aU ty26 (zza 52 (zI j2) (zza 53 (.v (.slice (some ⟨aa, 0, none⟩) (s + 1) (s + 1))) (zza 54 (zI j2) (zyq 55 (x := zI (IntKind.i64.wrap ((j2 : Int) + 1))) (zI (j2 + 1 : Nat)) (eqI yq) ?_)))))
   have hn38 := ((hMc.ext (ab.trans af))).1
   obtain ⟨b38, bt, bg⟩ := ((hMc.ext (ab.trans af))).2.1 (j2 + 1) xq
   refine zya 56 (0 + (j2 + 1) * 1) (n := s + 1) (off := 0) (sz := 1) (i := ((j2 + 1 : Nat) : Int)) xq bt xq yy sl75 ?_
   have aB : PolN bR (Rc.getD (j2 + 1) sl0) (Nt.colQ (Nt.UQ W.f) N s (j2 + 1)) 100 := ((hMc.ext (ab.trans af))).2.2 (j2 + 1) xq
   refine zyl 57 (.slice (Rc.getD (j2 + 1) sl0).a (Rc.getD (j2 + 1) sl0).n (Rc.getD (j2 + 1) sl0).c) bg ty26 (zza 58 (zI kz) ?_)
   have hl40 := aB.len
   obtain ⟨cm, b40, bJ, ba, a7, bc⟩ := pol_atN aB (i := kz) xq
   refine zya 59 (bJ + kz * 3) (n := (Rc.getD (j2 + 1) sl0).n) (off := bJ) (sz := 3) (i := (kz : Int)) xq ba xq xq sl26 (zym 60 cm.cs a7 ty32 (zzg 61 68 _ fun _ _ aC b8 => Post.mono (k_ratTrim b8 (bc.ext aC).raw xq) ?_))
   rintro _ u44 aS ⟨az, rfl, cx⟩
   refine zzx ?_
   have hq47 := (SysE.ext j0 (aC.t aS.ext))
   have bp : (Lb.getD i2 []).length = s := (SysE.wid hq47 i2 (by rw [hLb]; omega)).trans rfl
   have hr47 := SysE.row hq47 i2 (by rw [hLb]; omega)
   have hz47 := MutQ.rown hr47
   obtain ⟨b47, aL, bY⟩ := MutQ.el1 (j := j2) hr47 (by rw [bp]; omega)
   refine zya 62 (0 + j2 * 3) (n := (R0.getD i2 sl0).n) (off := 0) (sz := 3) (i := (j2 : Int)) xq aL xq xq sl26 ?_
   have ho48 := (SysE.ext j0 (aC.t aS.ext))
   have aw : (Lb.getD i2 []).length = s := (SysE.wid ho48 i2 (by rw [hLb]; omega)).trans rfl
   have hy48 := SysE.row ho48 i2 (by rw [hLb]; omega)
   refine sy_storeQ (v := az.v) (off := 0 + j2 * 3) (n := 3) (R0.getD i2 sl0) hy48 (MutQ.mayA hy48 (Ext.size (ae.trans ab))) aL ty32 (by rw [zyy, aw]; omega) (nu_rl az) (fun ce aW ah => ?_)
   have br : MutQ (1 * 3) 32 ad.heap.size ce (R0.getD i2 sl0) (rcs ((Lb.getD i2 []).set j2 az)) := by rw [← zyx (off := 0 + j2 * 3) (by rw [aw]; omega) xq]; exact aW
   have eX48r := ExtX.root ah (MutQ.mutL hy48) (af.t (aC.t aS.ext))
   have hS48 := SysE.store (i := i2) (j := j2) (r := az) (q := ((Nt.colQ (Nt.UQ W.f) N s (j2 + 1)).getD kz 0)) yj ho48 (by rw [hLb]; omega) (Nat.lt_of_lt_of_eq (show j2 < s by omega) (Eq.symm rfl)) br ah cx
   obtain ⟨bQ, aF⟩ : ∃ Q9, Lb.set i2 ((Lb.getD i2 []).set j2 az) = Q9 := ⟨_, rfl⟩
   rewrite [aF] at hS48
   have bb : bQ.length = s + 2 := by rw [← aF, List.length_set]; exact hLb
   have hkrz48 := MutQ.keep hy48 ah (al.ext (aC.t aS.ext))
   refine zzx ?_
   refine zzp (zzf (zyq 63 (x := zI (IntKind.i64.wrap ((j2 : Int) + 1))) (zI (j2 + 1 : Nat)) (eqI yq) (zza 44 (zI (j2 + 1 : Nat)) (zzx ?_))))
   refine ⟨_, ?_, _, by exact zzv _ _ _, j2 + 1, bQ, rfl, by omega, bb, rfl, eX48r, (SysE.congr hS48 (fun a ha => rfl) (fun a b q _ hb hv => by rw [show (Nt.colQ (Nt.UQ W.f) N s (j2 + 1)).getD kz 0 = (Nt.lnA (Nt.UQ W.f) N s nx) i2 j2 from by unfold Nt.lnA; rw [hkz]; rfl]; exact Nt.l2 xq hv)), hkrz48⟩
   omega
  have qhb36 := of_decide_eq_false aj
  refine zyc (zzp ?_)
  have hcl0 := Nt.colQ_len (U := (Nt.UQ W.f)) (N := N) (s := s) (j := 0)
  refine sw_anyC [0, 1, 0, 0, 8, 24, 0, 120, 248, 504, 1023, 2047] [(0, []), (1, []), (2, []), (3, []), (4, []), (5, []), (6, []), (7, []), (8, []), (9, [])] [(10, []), (11, [])] xj xj xj ?_
  refine zza 64 (.adr 6 1) (zzi 65 (.v (yB.v)) ty26 zzl (zza 66 (zI i2) (zza 67 (.v (.slice (some ⟨aa, 0, none⟩) (s + 1) (s + 1))) ?_)))
  have hn49 := ((hMc.ext (ab.trans af))).1
  obtain ⟨b49, bv, a1⟩ := ((hMc.ext (ab.trans af))).2.1 0 xq
  refine zya 68 (0 + 0 * 1) (n := s + 1) (off := 0) (sz := 1) (i := 0) xq bv xq yy sl75 ?_
  have av : PolN bR (Rc.getD 0 sl0) (Nt.colQ (Nt.UQ W.f) N s 0) 100 := ((hMc.ext (ab.trans af))).2.2 0 xq
  refine zyl 69 (.slice (Rc.getD 0 sl0).a (Rc.getD 0 sl0).n (Rc.getD 0 sl0).c) a1 ty26 (zza 70 (zI kz) ?_)
  have hl51 := av.len
  obtain ⟨bU, b51, bT, aX, a9, bk⟩ := pol_atN av (i := kz) xq
  refine zya 71 (bT + kz * 3) (n := (Rc.getD 0 sl0).n) (off := bT) (sz := 3) (i := (kz : Int)) xq aX xq xq sl26 (zym 72 bU.cs a9 ty32 (zzg 73 68 _ fun _ _ aN cj => Post.mono (k_ratTrim cj (bk.ext aN).raw xq) ?_))
  rintro _ u55 aQ ⟨aJ, rfl, cp⟩
  refine zzx ?_
  have hq58 := (SysE.ext j0 (aN.t aQ.ext))
  have bn : (Lb.getD s []).length = s := (SysE.wid hq58 s (by rw [hLb]; omega)).trans rfl
  have hr58 := SysE.row hq58 s (by rw [hLb]; omega)
  rw [aM] at hr58
  have hz58 := MutQ.rown hr58
  obtain ⟨b58, aH, cB⟩ := MutQ.el1 (j := i2) hr58 (by rw [bn]; omega)
  refine zya 74 (0 + i2 * 3) (n := yB.n) (off := 0) (sz := 3) (i := (i2 : Int)) xq aH xq xq sl26 ?_
  have ho59 := (SysE.ext j0 (aN.t aQ.ext))
  have aO : (Lb.getD s []).length = s := (SysE.wid ho59 s (by rw [hLb]; omega)).trans rfl
  have hy59 := SysE.row ho59 s (by rw [hLb]; omega)
  rw [aM] at hy59
  refine sy_storeQ (v := aJ.v) (off := 0 + i2 * 3) (n := 3) yB hy59 (MutQ.mayA hy59 (Ext.size (ae.trans ab))) aH ty32 (by rw [zyy, aO]; omega) (nu_rl aJ) (fun ci a8 ao => ?_)
  have a3 : MutQ (1 * 3) 32 ad.heap.size ci yB (rcs ((Lb.getD s []).set i2 aJ)) := by rw [← zyx (off := 0 + i2 * 3) (by rw [aO]; omega) xq]; exact a8
  have eX59r := ExtX.root ao (MutQ.mutL hy59) (af.t (aN.t aQ.ext))
  have hS59 := SysE.store (i := s) (j := i2) (r := aJ) (q := ((Nt.colQ (Nt.UQ W.f) N s 0).getD kz 0)) yj ho59 (by rw [hLb]; omega) (Nat.lt_of_lt_of_eq (show i2 < s by omega) (Eq.symm rfl)) (by rw [aM]; exact a3) (by rw [aM]; exact ao) cp
  obtain ⟨bN, ay⟩ : ∃ Q9, Lb.set s ((Lb.getD s []).set i2 aJ) = Q9 := ⟨_, rfl⟩
  rewrite [ay] at hS59
  have bu : bN.length = s + 2 := by rw [← ay, List.length_set]; exact hLb
  have hkrz59 := MutQ.keep hy59 ao (al.ext (aN.t aQ.ext))
  refine zzx ?_
  refine zzp (zzf (zyq 75 (x := zI (IntKind.i64.wrap ((i2 : Int) + 1))) (zI (i2 + 1 : Nat)) (eqI yq) (zza 37 (zI (i2 + 1 : Nat)) (zzx ?_))))
  refine ⟨_, ?_, _, by exact zzv _ _ _, i2 + 1, bN, rfl, by omega, bu, rfl, eX59r, (SysE.congr hS59 (fun a ha => rfl) (fun a b q _ hb hv => by rw [show (Nt.colQ (Nt.UQ W.f) N s 0).getD kz 0 = (Nt.lnB (Nt.UQ W.f) N s nx) i2 from by unfold Nt.lnB; rw [hkz]; rfl]; exact Nt.l3 hb xq hv)), hkrz59⟩
  omega
 have qhb33 := of_decide_eq_false ai
 refine zyc (zzp (zzd (sq9 (zza 76 (.adr 1 8) (zzi 77 (zI s) ty3 zzl (zza 78 (zI 0) (zzb (zzt (zyn (I := fun bE S' u' => ∃ (k : Nat) (Lc : List (List RL)), (bE = s - k) ∧ (k ≤ s) ∧ (Lc.length = s + 2) ∧ (S' = St.of 106 [(1, .adr 1 0), (2, .adr 2 0), (4, .v (.slice (some ⟨aa, 0, none⟩) (s + 1) (s + 1))), (6, .adr 6 0), (77, zI s), (78, zI k)] [(1, ⟨72, [.int .i64 D.b, .int .i64 D.f, .int .i64 D.r, .int .i64 D.o, .int .i64 W.b, .int .i64 W.f, .int .i64 W.r, .int .i64 W.o, .int .i64 s, X.v, Y.v, .int .i64 q]⟩), (2, ⟨77, [.slice none 0 0, .slice none 0 0, .slice none 0 0, .bool false, .slice none 0 0, .slice none 0 0]⟩), (6, ⟨77, [xz.v, yB.v, yC.v] ++ rz.cs⟩)]) ∧ (Ext ad u') ∧ (SysE 26 32 ad.heap.size u' xz s R0 Lc (fun _ => s) (fun a b => if a < s then some ((Nt.lnA (Nt.UQ W.f) N s nx) a b) else if a = s then some ((Nt.lnB (Nt.UQ W.f) N s nx) b) else if b < k then some ((Nt.lnC (Nt.UQ W.f) N s ((q : Nat) : Int)) b) else none) 100) ∧ (RatN u' rz ((0 : Int) : Rat) 2)) (fun m S u1 u2 e h => by obtain ⟨k, Lc, hm, p0, p1, hS, hE, f0, f1⟩ := h; exact ⟨k, Lc, hm, p0, p1, hS, hE.trans e, f0.ext e, f1.ext e⟩) _ yz ⟨0, La, rfl, Nat.zero_le _, hLa, rfl, aT, (SysE.congr g0 (fun a ha => rfl) (fun a b q _ hb hv => Nt.l4 hb xq hv)), al⟩ ?_)))))))))
 rintro bE _ bH ⟨k, Lc, cy, hk, hLc, rfl, am, k0, al⟩
 have hcl := Nt.colQ_len (U := (Nt.UQ W.f)) (N := N) (s := s) (j := k + 1)
 refine sq9 (zza 79 (zB (decide ((k : Int) < (s : Int)))) (zzb (zzd (zzu (b := decide ((k : Int) < (s : Int))) xj (fun ag => ?_) (fun ag => ?_)))))
 ·have qhb61 := of_decide_eq_true ag
  refine zzs (zzp ?_)
  refine zzd (zzt (sq9 (zza 80 (zI k) (zza 10 (zI k) (zzc 106 [(1, .adr 1 0), (2, .adr 2 0), (4, .v (.slice (some ⟨aa, 0, none⟩) (s + 1) (s + 1))), (6, .adr 6 0), (10, zI k), (77, zI s), (78, zI k)] [(1, ⟨72, [.int .i64 D.b, .int .i64 D.f, .int .i64 D.r, .int .i64 D.o, .int .i64 W.b, .int .i64 W.f, .int .i64 W.r, .int .i64 W.o, .int .i64 s, X.v, Y.v, .int .i64 q]⟩), (2, ⟨77, [.slice none 0 0, .slice none 0 0, .slice none 0 0, .bool false, .slice none 0 0, .slice none 0 0]⟩), (6, ⟨77, [xz.v, yB.v, yC.v] ++ rz.cs⟩)] (sw_anyC [0, 1, 0, 0, 0, 16, 56, 120, 0, 256, 1016, 2040, 4088, 8191, 16383] [(0, []), (1, []), (2, []), (3, []), (4, []), (5, []), (6, []), (7, []), (8, []), (9, []), (10, []), (11, []), (12, [])] [(13, []), (14, [])] xj xj xj ?_))))))
  refine zza 81 (.adr 6 2) (zzi 82 (.v (yC.v)) ty26 zzl (zza 83 (zI k) (zza 84 (.v (.slice (some ⟨aa, 0, none⟩) (s + 1) (s + 1))) (zza 85 (zI k) (zyq 86 (x := zI (IntKind.i64.wrap ((k : Int) + 1))) (zI (k + 1 : Nat)) (eqI yq) ?_)))))
  have hn62 := ((hMc.ext (ab.trans am))).1
  obtain ⟨b62, bA, bd⟩ := ((hMc.ext (ab.trans am))).2.1 (k + 1) xq
  refine zya 87 (0 + (k + 1) * 1) (n := s + 1) (off := 0) (sz := 1) (i := ((k + 1 : Nat) : Int)) xq bA xq yy sl75 ?_
  have aA : PolN bH (Rc.getD (k + 1) sl0) (Nt.colQ (Nt.UQ W.f) N s (k + 1)) 100 := ((hMc.ext (ab.trans am))).2.2 (k + 1) xq
  refine zyl 88 (.slice (Rc.getD (k + 1) sl0).a (Rc.getD (k + 1) sl0).n (Rc.getD (k + 1) sl0).c) bd ty26 (zza 89 (.adr 1 11) (zzi 90 (zI q) ty3 zzl ?_))
  have hl64 := aA.len
  obtain ⟨cb, b64, bO, bh, aV, a4⟩ := pol_atN aA (i := q) xq
  refine zya 91 (bO + q * 3) (n := (Rc.getD (k + 1) sl0).n) (off := bO) (sz := 3) (i := (q : Int)) xq bh xq xq sl26 (zym 92 cb.cs aV ty32 (zzg 93 68 _ fun _ _ ax cc => Post.mono (k_ratTrim cc (a4.ext ax).raw xq) ?_))
  rintro _ u68 aP ⟨aq, rfl, bV⟩
  refine zzx ?_
  have hq71 := (SysE.ext k0 (ax.t aP.ext))
  have a2 : (Lc.getD (s + 1) []).length = s := (SysE.wid hq71 (s + 1) (by rw [hLc]; omega)).trans rfl
  have hr71 := SysE.row hq71 (s + 1) (by rw [hLc]; omega)
  rw [ar] at hr71
  have hz71 := MutQ.rown hr71
  obtain ⟨b71, aI, cC⟩ := MutQ.el1 (j := k) hr71 (by rw [a2]; omega)
  refine zya 94 (0 + k * 3) (n := yC.n) (off := 0) (sz := 3) (i := (k : Int)) xq aI xq xq sl26 ?_
  have ho72 := (SysE.ext k0 (ax.t aP.ext))
  have aG : (Lc.getD (s + 1) []).length = s := (SysE.wid ho72 (s + 1) (by rw [hLc]; omega)).trans rfl
  have hy72 := SysE.row ho72 (s + 1) (by rw [hLc]; omega)
  rw [ar] at hy72
  refine sy_storeQ (v := aq.v) (off := 0 + k * 3) (n := 3) yC hy72 (MutQ.mayA hy72 (Ext.size (ae.trans ab))) aI ty32 (by rw [zyy, aG]; omega) (nu_rl aq) (fun cA a6 ak => ?_)
  have aZ : MutQ (1 * 3) 32 ad.heap.size cA yC (rcs ((Lc.getD (s + 1) []).set k aq)) := by rw [← zyx (off := 0 + k * 3) (by rw [aG]; omega) xq]; exact a6
  have eX72r := ExtX.root ak (MutQ.mutL hy72) (am.t (ax.t aP.ext))
  have hS72 := SysE.store (i := s + 1) (j := k) (r := aq) (q := ((Nt.colQ (Nt.UQ W.f) N s (k + 1)).getD q 0)) yj ho72 (by rw [hLc]; omega) (Nat.lt_of_lt_of_eq (show k < s by omega) (Eq.symm rfl)) (by rw [ar]; exact aZ) (by rw [ar]; exact ak) bV
  obtain ⟨bI, au⟩ : ∃ Q9, Lc.set (s + 1) ((Lc.getD (s + 1) []).set k aq) = Q9 := ⟨_, rfl⟩
  rewrite [au] at hS72
  have bo : bI.length = s + 2 := by rw [← au, List.length_set]; exact hLc
  have hkrz72 := MutQ.keep hy72 ak (al.ext (ax.t aP.ext))
  refine zzx ?_
  refine zzp (zzf (zyq 95 (x := zI (IntKind.i64.wrap ((k : Int) + 1))) (zI (k + 1 : Nat)) (eqI yq) (zza 78 (zI (k + 1 : Nat)) (zzx ?_))))
  refine ⟨_, ?_, _, by exact zzv _ _ _, k + 1, bI, rfl, by omega, bo, rfl, eX72r, (SysE.congr hS72 (fun a ha => rfl) (fun a b q9 ha hb hv => by rw [show (Nt.colQ (Nt.UQ W.f) N s (k + 1)).getD q 0 = (Nt.lnC (Nt.UQ W.f) N s ((q : Nat) : Int)) k from rfl]; exact Nt.l5 xq hv)), hkrz72⟩
  omega
 have qhb61 := of_decide_eq_false ag
 refine zyc (zzp (zzd ?_))
 have hcl0 := Nt.colQ_len (U := (Nt.UQ W.f)) (N := N) (s := s) (j := 0)
 refine zzz [0, 1, 3, 0, 8, 31, 63, 127, 255, 511] [(0, []), (1, []), (2, []), (3, []), (4, []), (5, []), (6, []), (7, []), (8, []), (9, [])] xj xj (zza 96 (.v (.slice (some ⟨aa, 0, none⟩) (s + 1) (s + 1))) ?_)
 have hn73 := ((hMc.ext (ab.trans am))).1
 obtain ⟨b73, bB, aY⟩ := ((hMc.ext (ab.trans am))).2.1 0 xq
 refine zya 97 (0 + 0 * 1) (n := s + 1) (off := 0) (sz := 1) (i := 0) xq bB xq yy sl75 ?_
 have aK : PolN bH (Rc.getD 0 sl0) (Nt.colQ (Nt.UQ W.f) N s 0) 100 := ((hMc.ext (ab.trans am))).2.2 0 xq
 refine zyl 98 (.slice (Rc.getD 0 sl0).a (Rc.getD 0 sl0).n (Rc.getD 0 sl0).c) aY ty26 (zza 99 (.adr 1 11) (zzi 100 (zI q) ty3 zzl ?_))
 have hl75 := aK.len
 obtain ⟨bW, b75, bG, bl, a0, a5⟩ := pol_atN aK (i := q) xq
 refine zya 101 (bG + q * 3) (n := (Rc.getD 0 sl0).n) (off := bG) (sz := 3) (i := (q : Int)) xq bl xq xq sl26 (zym 102 bW.cs a0 ty32 (zzg 103 68 _ fun _ _ bS b5 => Post.mono (k_ratTrim b5 (a5.ext bS).raw xq) ?_))
 rintro _ u79 b2 ⟨ac, rfl, bX⟩
 refine zza 104 (.adr 6 3) (zzj ⟨77, [xz.v, yB.v, yC.v] ++ ac.cs⟩ ty32 ?_)
 refine zzc 106 [(2, .adr 2 0), (6, .adr 6 0)] [(2, ⟨77, [.slice none 0 0, .slice none 0 0, .slice none 0 0, .bool false, .slice none 0 0, .slice none 0 0]⟩), (6, ⟨77, [xz.v, yB.v, yC.v] ++ ac.cs⟩)] (sq9 (zzi 105 (.v (.agg #[xz.v, yB.v, yC.v, .bool ac.s, ac.m.v, ac.d.v])) ty77 zze (zzj ⟨77, [xz.v, yB.v, yC.v] ++ ac.cs⟩ ty77 ?_)))
 refine zza 3 (zI 0) (zzb (zzo (ret0 [.agg #[xz.v, yB.v, yC.v, .bool ac.s, ac.m.v, ac.d.v], .int .i64 0] ⟨zzr ty77 zze, zzq, trivial⟩ fun u82 bK => ?_)))
 have hk9 : s = k := by omega
 have hQ := (SysE.ext k0 (bS.t (b2.t bK)))
 refine ⟨xz, yB, yC, ac, R0, rfl, SysE.matV (f := (Nt.lnA (Nt.UQ W.f) N s nx)) hQ (fun a b ha hb => if_pos ha), ?_, ?_, (bX.ext bK)⟩
 ·have h9 := SysE.pol (i := s) (f := fun _ b => (Nt.lnB (Nt.UQ W.f) N s nx) b) hQ xq (fun b hb => by rw [if_neg (Nat.lt_irrefl s), if_pos rfl])
  rw [aM] at h9; exact h9
 have h9 := SysE.pol (i := s + 1) (f := fun _ b => (Nt.lnC (Nt.UQ W.f) N s ((q : Nat) : Int)) b) hQ xq (fun b hb => by have hb : b < s := hb; rw [if_neg xq, if_neg xq, if_pos xq])
 rw [ar] at h9; exact h9
end Go.Proofs.YtgmkhhfbckjaeaaGreat
namespace Go.Proofs.YtgmkhhfbckjaeaaGreat
namespace Nt
section
variable {a b y z x : Nat → Rat} {n m N M i j d : Nat} {k C : Rat}
def sf (i : Nat) (y : Nat → Rat) (n : Nat) : Rat := if n < i then 0 else y (n - i)
def cr (y : Nat → Rat) (T i j : Nat) : Rat := su (fun n => sf i y n * sf j y n) T
def sol (a x : Nat → Rat) : Nat → List Rat
 | 0 => []
 | n + 1 => sol a x n ++ [x n - su (fun i => a (i + 1) * (sol a x n).getD (n - 1 - i) 0) n]
def so (a x : Nat → Rat) (n : Nat) : Rat := (sol a x (n + 1)).getD n 0
def cu (N : Nat) (y : Nat → Rat) (n : Nat) : Rat := if n < N then y n else 0
end
end Nt
namespace Nt
theorem mul_cv (l m : List Rat) (n : Nat) : co (mulQ l m) n = cv (co l) (co m) n := by
 induction l generalizing n with
 | nil => rw [mulQ_nil]; exact (su_0 (fun i _ => by rw [co_nil]; grind)).symm
 | cons a l ih =>
  rw [zxf]
  cases n with
  | zero => rw [cv_0, sh_0, co_zero]; grind
  | succ n => rw [cv_s, sh_s, ih, co_zero]; rfl
end Nt
open Go.RowKit
namespace Nt
section
variable {a b y z : Nat → Rat} {t n : Nat}
theorem cv_h (t : Nat) : cv a y t = a 0 * y t + sh (cv (fun i => a (i + 1)) y) t := by
 cases t with
 | zero => rw [cv_0, sh_0]; grind
 | succ t => rw [cv_s, sh_s]
theorem cv_nul (h : ∀ i, a i = 0) (t : Nat) : cv a y t = 0 := su_0 (fun i _ => by rw [h]; grind)
theorem sh_eq (h : ∀ t, y t = z t) : sh y = sh z := by rw [show y = z from funext h]
theorem cv3 (h : ∀ i, 3 ≤ i → a i = 0) (t : Nat) : cv a y t = a 0 * y t + a 1 * sh y t + a 2 * sh (sh y) t := by
 have e3 : ∀ t, cv (fun i => a (i + 1 + 1 + 1)) y t = 0 := cv_nul (fun i => h _ xq)
 have e2 : ∀ t, cv (fun i => a (i + 1 + 1)) y t = a 2 * y t := fun t => by
  rw [cv_h, sh_eq (z := fun _ => 0) e3]
  cases t with
  | zero => rw [sh_0]; grind
  | succ t => rw [sh_s]; grind
 have e1 : ∀ t, cv (fun i => a (i + 1)) y t = a 1 * y t + a 2 * sh y t := fun t => by
  rw [cv_h, sh_eq (z := fun t => a 2 * y t) e2]
  cases t with
  | zero => rw [sh_0, sh_0]; grind
  | succ t => rw [sh_s, sh_s]
 rw [cv_h, sh_eq (z := fun t => a 1 * y t + a 2 * sh y t) e1]
 cases t with
 | zero => rw [sh_0, sh_0, sh_0]; grind
 | succ t => rw [sh_s, sh_s, sh_s]; grind
theorem cv_one (t : Nat) (h : ∀ t, y t = if t = 0 then 1 else 0) : cv a y t = a t := by
 unfold cv
 rw [su_s, Nat.sub_self, h 0, if_pos rfl, su_0 (fun i hi => by rw [h, if_neg xq]; grind)]; grind
end
end Nt
def MutM (k : Nat) (ty : TypeId) (mb : Nat → Prop) (u : World) (x : Sl) (cs : List Value) : Prop :=
 cs.length = x.n * k ∧ x.n ≤ x.c ∧ x.c ≤ maxLen ∧ (x = ⟨none, 0, 0⟩ ∨ ∃ b all, x.a = some ⟨b, 0, none⟩ ∧ u.heap[b]? = some (.cells (List.toArray all) ty (0, 0)) ∧ all.length = x.c * k ∧ all.take (x.n * k) = cs ∧ mb b)
def NodesM (mb : Nat → Prop) (u : World) (x : Sl) (N : List (List TL)) : Prop :=
 ∃ Ls : List Sl, MutM 1 150 mb u x (Ls.map Sl.v) ∧ Ls.length = N.length ∧ ∀ i, i < N.length → MutM 2 147 (fun _ => True) u (Ls.getD i sl0) (tcs (N.getD i []))
section
variable {k c n i b : Nat} {ty t2 : TypeId} {mb mb' : Nat → Prop} {u u' u'' : World} {x y z : Sl} {cs : List Value} {N : List (List TL)} {ts : List TL} {F : List Nat}
theorem MutM.mono (m : MutM k ty mb u x cs) (h : ∀ b, b < u.heap.size → mb b → mb' b) : MutM k ty mb' u x cs :=
 ⟨m.1, m.2.1, m.2.2.1, m.2.2.2.imp id fun ⟨b, all, h1, h2, h3, h4, h5⟩ => ⟨b, all, h1, h2, h3, h4, h _ (zxa h2) h5⟩⟩
theorem MutM.ext (m : MutM k ty mb u x cs) (e : Ext u u') : MutM k ty mb u' x cs :=
 ⟨m.1, m.2.1, m.2.2.1, m.2.2.2.imp id fun ⟨b, all, h1, h2, h3⟩ => ⟨b, all, h1, e.cells h2, h3⟩⟩
theorem MutM.extB {cs' : Array Value} (m : MutM k ty mb u x cs) (e : ExtB b u u') (hb : u.heap[b]? = some (.cells cs' t2 (0, 0))) (ht : ty ≠ t2) : MutM k ty mb u' x cs :=
 ⟨m.1, m.2.1, m.2.2.1, m.2.2.2.imp id fun ⟨b', all, h1, h2, h3⟩ => ⟨b', all, h1, e.cells (ne_of_ty h2 hb ht) h2, h3⟩⟩
theorem MutM.nil (k : Nat) (ty : TypeId) (mb : Nat → Prop) (u : World) : MutM k ty mb u ⟨none, 0, 0⟩ [] := ⟨by simp, Nat.le_refl _, Nat.zero_le _, .inl rfl⟩
theorem MutM.lit {cs : List Value} (hu : u.heap[b]? = some (.cells cs.toArray ty (0, 0))) (hl : cs.length = n * k) (hn : n ≤ maxLen) (hb : mb b) : MutM k ty mb u ⟨some ⟨b, 0, none⟩, n, n⟩ cs :=
 ⟨hl, Nat.le_refl _, hn, .inr ⟨b, cs, rfl, hu, hl, by rw [List.take_of_length_le (by show _ ≤ n * k; omega)], hb⟩⟩
theorem MutM.toL (m : MutM k ty mb u x cs) : MutL k ty 0 u x cs :=
 ⟨m.1, m.2.1, m.2.2.1, m.2.2.2.imp id fun ⟨b, all, h1, h2, h3, h4, _⟩ => ⟨b, all, h1, h2, h3, h4, Nat.zero_le _⟩⟩
theorem MutL.toM {w0 : Base} {u0 : World} (m : MutL k ty u0.heap.size u x cs) : MutM k ty (MayB w0 u0) u x cs :=
 ⟨m.1, m.2.1, m.2.2.1, m.2.2.2.imp id fun ⟨b, all, h1, h2, h3, h4, h5⟩ => ⟨b, all, h1, h2, h3, h4, .inl h5⟩⟩
theorem NodesM.toB (m : NodesM mb u x N) : NodesB 0 u.heap.size u x N := by
 obtain ⟨Ls, g1, g2, g3⟩ := m
 exact ⟨Ls, g1.toL, g2, fun i hi => ⟨(g3 i hi).toL, (g3 i hi).toL.off (Nat.le_refl _)⟩⟩
theorem NodesM.nil (mb : Nat → Prop) (u : World) : NodesM mb u ⟨none, 0, 0⟩ [] := ⟨[], .nil _ _ _ _, rfl, fun i hi => by simp at hi⟩
theorem NodesM.len (m : NodesM mb u x N) : x.n = N.length := by
 obtain ⟨Ls, h1, h2, _⟩ := m
 have := h1.1
 rw [List.length_map, Nat.mul_one] at this
 omega
theorem NodesM.mono (m : NodesM mb u x N) (h : ∀ b, b < u.heap.size → mb b → mb' b) : NodesM mb' u x N := by
 obtain ⟨Ls, g1, g2, g3⟩ := m
 exact ⟨Ls, g1.mono h, g2, g3⟩
theorem NodesM.ext (m : NodesM mb u x N) (e : Ext u u') : NodesM mb u' x N := by
 obtain ⟨Ls, g1, g2, g3⟩ := m
 exact ⟨Ls, g1.ext e, g2, fun i hi => (g3 i hi).ext e⟩
theorem NodesM.extB {cs' : Array Value} (m : NodesM mb u x N) (e : ExtB b u u') (hb : u.heap[b]? = some (.cells cs' t2 (0, 0))) (h1 : 150 ≠ t2) (h2 : 147 ≠ t2) : NodesM mb u' x N := by
 obtain ⟨Ls, g1, g2, g3⟩ := m
 exact ⟨Ls, g1.extB e hb h1, g2, fun i hi => (g3 i hi).extB e hb h2⟩
end
section
variable {P : Program} {ops : Array Oper} {w0 : Base} {u0 : World} {S T : St} {B : Tmp → Nat} {a : Act} {w w' u u' u'' v : World} {o : Oper} {p : List Tmp} {rest : List (Oper × List Tmp)} {K : St → World → Prop} {mb : Nat → Prop}
theorem sy_appX (d : Tmp) {T E : TypeId} {s src : Operand} {z : Value} {size bytes : Nat} {b2 off m c : Nat} (x : Sl) (cs news : List Value) (hsz0 : u0.heap.size ≤ u.heap.size) (hm0 : MutM size E (MayB w0 u0) u x cs) (hT : P.underlying T = some (.slice E)) (hi : (P.info? E).map (fun i => (i.zero, i.size, i.bytes)) = some (some z, size, bytes)) (hzs : z.cells.size = size) (hsz : 0 < size)
  (hl : news.length = m * size) (hnews : ∀ j v, news[j]? = some v → u.cell? ⟨b2, off + j, none⟩ = some v) (h1 : ∀ v ∈ news, v.oneCell' = true) (hm : 0 < m) (h63 : x.n + m ≤ maxLen) (hbytes : (x.n + m) * bytes ≤ 140737488355328)
  (k : ∀ (y : Sl) (u1 : World), MutM size E (MayB w0 u0) u1 y (cs ++ news) → y.n = x.n + m → u.heap.size ≤ u1.heap.size → (∀ (t2 : TypeId) (cs' : Array Value) (b : Nat), t2 ≠ E → u.heap[b]? = some (.cells cs' t2 (0, 0)) → u1.heap[b]? = some (.cells cs' t2 (0, 0))) → sym P ops w0 u0 true rest (S.set d (.v y.v)) u1 K)
  (hw : Wants ops o S := by exact zwj xj) (hd : o.dst = some d := by kernel_rfl) (hop : o.op = .call { callee := .builtin .append, args := #[s, src], argTypes := #[T, T] } := by rfl) (hf : freeB S d = true := by kernel_rfl)
  (hs : evO S s = some (.v x.v) := by rfl) (hx : evO S src = some (.v (.slice (some ⟨b2, off, none⟩) m c)) := by rfl) : sym P ops w0 u0 true ((o, p) :: rest) S u K := by
 obtain ⟨q1, q2, q3, q4⟩ := id hm0
 rcases q4 with q4 | ⟨b, all, g1, g2, g3, g4, g5⟩
 ·subst q4
  have hcs : cs = [] := List.eq_nil_of_length_eq_zero (by rw [q1]; simp)
  subst hcs
  have h63' : m ≤ maxLen := by have h9 : 0 + m ≤ maxLen := h63; omega
  have hby' : m * bytes ≤ 140737488355328 := by have h9 : (0 + m) * bytes ≤ _ := hbytes; rwa [Nat.zero_add] at h9
  refine sy_appD0 d (E := E) (z := z) news hT hi hzs hsz hl hnews h1 hm h63' hby' (fun g c1 cs1 u1 k1 k2 k3 k4 k5 k6 k7 k8 => ?_) hw hd hop hf hs hx
  exact k ⟨some ⟨g, 0, none⟩, m, c1⟩ u1 ⟨by simpa using hl, k1, k2, .inr ⟨g, cs1, rfl, k5, k3, by simpa using k4, .inl k7⟩⟩ (by show m = 0 + m; omega) k8.size (fun t2 cs' b' _ h => k8.cells h)
 have hs' : evO S s = some (.v (.slice (some ⟨b, 0, none⟩) x.n x.c)) := by rw [hs, ← g1]
 refine sy_appD d (E := E) (z := z) (n := x.n) (cap := x.c) (cs0 := all) (b := b) news hT hi hzs hsz hl hnews h1 hm h63 hbytes q2 q3 g3 g2 g5 (fun g c1 cs1 u1 k1 k2 k3 k4 k5 k6 k7 => ?_) hw hd hop hf hs' hx
 refine k ⟨some ⟨g, 0, none⟩, x.n + m, c1⟩ u1 ⟨by rw [List.length_append, q1, hl, Nat.add_mul], k1, k2, .inr ⟨g, cs1, rfl, k5, k3, by rw [k4, g4], ?_⟩⟩ rfl k7.size (fun t2 cs' b' ht h => k7.cells (ne_of_ty h g2 ht) h)
 rcases k6 with k6 | k6
 ·rw [k6]; exact g5
 exact .inl xq
theorem sy_storeX {T ty : TypeId} {r : Tmp} {zo : Operand} {z : Int} {i b : Nat} {l : List Int} (x : Sl) (hm0 : MutM 1 ty (MayB w0 u0) u x (ics l)) (hb : x.a = some ⟨b, 0, none⟩) (hT : TyIs P T false 1) (hi : i < l.length)
  (k : ∀ (u1 : World), MutM 1 ty (MayB w0 u0) u1 x (ics (l.set i z)) → u.heap.size ≤ u1.heap.size → (∀ (t2 : TypeId) (cs' : Array Value) (b : Nat), t2 ≠ ty → u.heap[b]? = some (.cells cs' t2 (0, 0)) → u1.heap[b]? = some (.cells cs' t2 (0, 0))) → sym P ops w0 u0 true rest S u1 K)
  (hw : Wants ops o S := by exact zwj xj) (hd : o.dst = none := by kernel_rfl) (hop : o.op = .store T (.tmp r) zo := by rfl) (hr : S.reg r = some (.v (.pointer (some ⟨b, 0 + i * 1, none⟩))) := by rfl) (hz : evO S zo = some (.v (.int .i64 z)) := by rfl) : sym P ops w0 u0 true ((o, p) :: rest) S u K := by
 obtain ⟨q1, q2, q3, q4⟩ := id hm0
 rcases q4 with q4 | ⟨b', all, g1, g2, g3, g4, g5⟩
 ·subst q4; cases hb
 rw [hb] at g1; injection g1 with g1; injection g1 with g1 _ _; subst g1
 rw [Nat.zero_add, Nat.mul_one] at hr
 rw [zwm] at q1
 refine sy_storeD (b := b) (off := i) (cs := all) (n := 1) g2 g5 hT xq (fun u1 k1 k2 => ?_) hw hd hop hr hz
 refine k u1 ⟨by rw [zwm, List.length_set]; exact q1, q2, q3, .inr ⟨b, _, hb, k1, ?_, ?_, g5⟩⟩ k2.size (fun t2 cs' b' ht h => k2.cells (ne_of_ty h g2 ht) h)
 ·rw [setL_length (by show i + 1 ≤ _; omega)]; exact g3
 have e : setL all i (Value.int .i64 z).cells.toList = all.set i (.int .i64 z) := by
  have := setL_cons (cs := all) (off := i) (v := .int .i64 z) (vs := []) xq
  rw [setL_nil] at this
  exact this.symm
 rw [e, ← ics_set, ← g4, List.take_set]
end
section
variable {k c n i b : Nat} {ty t2 E : TypeId} {mb mb' : Nat → Prop} {u u' u'' : World} {x y z : Sl} {cs : List Value} {N : List (List TL)} {ts : List TL} {F : List Nat}
def KeepT (E : TypeId) (u u' : World) : Prop := ∀ (t2 : TypeId) (cs' : Array Value) (b : Nat), t2 ≠ E → u.heap[b]? = some (.cells cs' t2 (0, 0)) → u'.heap[b]? = some (.cells cs' t2 (0, 0))
theorem MutM.keep (m : MutM k ty mb u x cs) (h : KeepT E u u') (ht : ty ≠ E) : MutM k ty mb u' x cs :=
 ⟨m.1, m.2.1, m.2.2.1, m.2.2.2.imp id fun ⟨b, all, h1, h2, h3⟩ => ⟨b, all, h1, h _ _ _ ht h2, h3⟩⟩
theorem NodesM.keep (m : NodesM mb u x N) (h : KeepT E u u') (h1 : 150 ≠ E) (h2 : 147 ≠ E) : NodesM mb u' x N := by
 obtain ⟨Ls, g1, g2, g3⟩ := m
 exact ⟨Ls, g1.keep h h1, g2, fun i hi => (g3 i hi).keep h h2⟩
theorem NodesM.snoc {Ls : List Sl} (h2 : Ls.length = N.length) (h3 : ∀ i, i < N.length → MutM 2 147 (fun _ => True) u (Ls.getD i sl0) (tcs (N.getD i []))) (my : MutM 2 147 (fun _ => True) u y (tcs ts)) (e : KeepT 150 u u') (hm : MutM 1 150 mb u' z (Ls.map Sl.v ++ [y.v])) : NodesM mb u' z (N ++ [ts]) := by
 refine ⟨Ls ++ [y], by rw [List.map_append]; exact hm, by simp [h2], fun i hi => ?_⟩
 rw [getD_snoc, getD_snoc, h2]
 by_cases hl : i < N.length
 ·rw [if_pos hl, if_pos hl]
  exact (h3 i hl).keep e yj
 simp at hi
 rw [if_neg hl, if_neg hl, if_pos xq, if_pos xq]
 exact my.keep e yj
theorem zxc {cs : List Value} {v : Value} {j : Nat} (h : u.heap[b]? = some (.cells cs.toArray ty (0, 0))) (hj : cs[j]? = some v) : u.cell? ⟨b, j, none⟩ = some v := by
 rw [cells_at h]; simpa using hj
end
structure BL where
 D : WL
 W : WL
 n : Nat
 X : Sl
 Y : Sl
 o : Int
 t : Int
 f : Nat
def BL.cs (r : BL) : List Value := [.int .i64 r.D.b, .int .i64 r.D.f, .int .i64 r.D.r, .int .i64 r.D.o, .int .i64 r.W.b, .int .i64 r.W.f, .int .i64 r.W.r, .int .i64 r.W.o, .int .i64 (r.n : Int), .slice r.X.a r.X.n r.X.c, .slice r.Y.a r.Y.n r.Y.c, .int .i64 r.o, .int .i64 r.t, .int .i64 (r.f : Int)]
def BldR (TB : TypeId) (mb : Nat → Prop) (u : World) (bb : Nat) (r : BL) (N : List (List TL)) (s : List Int) : Prop :=
 u.heap[bb]? = some (.cells r.cs.toArray TB (0, 0)) ∧ mb bb ∧ NodesM mb u r.X N ∧ MutM 1 3 mb u r.Y (ics s)
def blks (bb : Nat) (r : BL) : List Nat := bb :: ((r.X.a.toList ++ r.Y.a.toList).map (·.block))
section
variable {TB : TypeId} {mb mb' : Nat → Prop} {u u' : World} {bb : Nat} {r : BL} {N : List (List TL)} {s : List Int} {w0 : Base} {u0 : World}
theorem BldR.mono (h : BldR TB mb u bb r N s) (k : ∀ b, b < u.heap.size → mb b → mb' b) : BldR TB mb' u bb r N s :=
 ⟨h.1, k _ (zxa h.1) h.2.1, h.2.2.1.mono k, h.2.2.2.mono k⟩
theorem BldR.ext (h : BldR TB mb u bb r N s) (e : Ext u u') : BldR TB mb u' bb r N s := ⟨e.cells h.1, h.2.1, h.2.2.1.ext e, h.2.2.2.ext e⟩
theorem BldR.own (h : BldR TB mb u bb r N s) : BldR TB (· ∈ blks bb r) u bb r N s := by
 obtain ⟨h1, h2, ⟨Ls, g1, g2, g3⟩, h4⟩ := h
 refine ⟨h1, List.mem_cons_self .., ⟨Ls, ⟨g1.1, g1.2.1, g1.2.2.1, g1.2.2.2.imp id fun ⟨b, all, k1, k2, k3, k4, _⟩ => ⟨b, all, k1, k2, k3, k4, ?_⟩⟩, g2, g3⟩, ⟨h4.1, h4.2.1, h4.2.2.1, h4.2.2.2.imp id fun ⟨b, all, k1, k2, k3, k4, _⟩ => ⟨b, all, k1, k2, k3, k4, ?_⟩⟩⟩
 ·exact List.mem_cons_of_mem _ (List.mem_map.2 ⟨⟨b, 0, none⟩, by rw [k1]; simp, rfl⟩)
 exact List.mem_cons_of_mem _ (List.mem_map.2 ⟨⟨b, 0, none⟩, by rw [k1]; simp, rfl⟩)
theorem BldR.may (h : BldR TB (MayB w0 u0) u bb r N s) : ∀ b ∈ blks bb r, MayB w0 u0 b ∧ ∃ ob, u.heap[b]? = some ob ∧ ob ≠ hidO := by
 obtain ⟨h1, h2, ⟨Ls, g1, g2, g3⟩, h4⟩ := h
 have nh : ∀ (cs : Array Value) (t : TypeId), Obj.cells cs t (0, 0) ≠ hidO := fun cs t => cells_not_hid
 intro b hb
 rcases List.mem_cons.1 hb with rfl | hb
 ·exact ⟨h2, _, h1, nh _ _⟩
 obtain ⟨a, ha, rfl⟩ := List.mem_map.1 hb
 rcases List.mem_append.1 ha with ha | ha
 ·rcases g1.2.2.2 with e | ⟨b', all, k1, k2, _, _, k5⟩
  ·rw [e] at ha; simp at ha
  rw [k1] at ha; simp at ha; subst ha; exact ⟨k5, _, k2, nh _ _⟩
 rcases h4.2.2.2 with e | ⟨b', all, k1, k2, _, _, k5⟩
 ·rw [e] at ha; simp at ha
 rw [k1] at ha; simp at ha; subst ha; exact ⟨k5, _, k2, nh _ _⟩
theorem ExtF.root {w : World} {r : BL} {bb : Nat} {N : List (List TL)} {s : List Int} {u1 u2 : World} (h : ExtF (blks bb r) u1 u2) (hA : BldR TB (MayB ⟨w, none, []⟩ u0) u1 bb r N s) (e : Ext u0 u1) : Ext u0 u2 :=
 h.old e fun b hb ob ho => by
  rcases (hA.may b hb).1 with h9 | h9
  ·have := zxa ho
   omega
  cases h9
theorem BldR.back {F : List Nat} {u1 : World} (h : BldR TB (fun b => b ∈ F ∨ u1.heap.size ≤ b) u bb r N s) (hF : ∀ b ∈ F, MayB w0 u0 b) (hs : u0.heap.size ≤ u1.heap.size) : BldR TB (MayB w0 u0) u bb r N s :=
 h.mono fun b _ hb => hb.elim (hF b) fun h => .inl (Nat.le_trans hs h)
theorem BldR.free {F : List Nat} {w : World} (h : BldR TB (· ∈ F) u bb r N s) : BldR TB (MayB ⟨w, none, F⟩ u0) u bb r N s := h.mono fun b _ hb => .inr hb
end
def FmOK (W : WL) : Prop := WdOK W ∧ 1 ≤ W.f
instance fmDec (W : WL) : Decidable (FmOK W) := by unfold FmOK; exact inferInstance
instance pasDec (f : Int) (p : PL) : Decidable (PasOK f p) := by unfold PasOK; exact inferInstance
def WvOK (W : WL) (L M : List PL) : Prop := FmOK W ∧ L.length ≤ 4 ∧ M.length ≤ 4 ∧ (∀ i, i < L.length → PasOK W.f (L.getD i pl0)) ∧ ∀ i, i < M.length → PasOK W.f (M.getD i pl0)
instance wvDec (W : WL) (L M : List PL) : Decidable (WvOK W L M) := by unfold WvOK; exact inferInstance
theorem k_suitableG {u w : World} {W : WL} (d : Dat u w) : Calls Tryz.prog 175 #[W.v] w (Post u w fun v _ => v = .bool (decide (FmOK W))) := by
 refine zzm (args := [.agg #[.int .i64 W.b, .int .i64 W.f, .int .i64 W.r, .int .i64 W.o]]) Tryz.func175 rfl Tryz.ntmps175 (rs := [.tmp 2]) Tryz.results175 (le_b rfl) (le_b rfl) d ?_
 refine sq9 (zzk 1 ⟨66, W.cs⟩ (zza 2 (zB false) (zzb (sq9 (zzi 3 (.v (W.v)) ty66 zze (zzg 4 103 _ fun _ _ _ aa => Post.mono (k_fxValidG (W := W) aa) ?_))))))
 rintro _ u12 g13 rfl
 rcases Bool.eq_false_or_eq_true (decide (WdOK W)) with hs15 | hs15
 ·refine zyq 5 (x := zB (decide (WdOK W))) (zB true) (by rw [hs15]) ?_
  have qhs15 := of_decide_eq_true hs15
  have hW : WdOK W := by simpa using hs15
  have hu0 := Nt.zxq W.f
  have hw9 := hW
  unfold WdOK at hw9
  have hu1 := Nt.p2i_24 (n := W.f) xq
  have hu2 := Nt.zwh (a := W.f) (b := W.b - 1) xq
  have hu3 := Nt.p2i_24 (n := W.b - 1) xq
  refine zza 6 (.adr 1 1) ?_ (hw := w1 2 true 5)
  refine zzi 7 (zI W.f) ty3 zzl ?_ (hw := w1 2 true 5)
  refine zza 8 (zB (decide ((1 : Int) ≤ W.f))) ?_ (hw := w1 2 true 5)
  refine zza 9 (zB (decide ((1 : Int) ≤ W.f))) (zza 2 (zB (decide ((1 : Int) ≤ W.f))) (zzb (zzo (ret0 [.bool (decide ((1 : Int) ≤ W.f))] ⟨zzq, trivial⟩ fun u16 e17 => ?_))))
  show Value.bool _ = Value.bool _
  congr 1
  rw [Bool.eq_iff_iff]
  simp [FmOK, hW]
 refine zyq 5 (x := zB (decide (WdOK W))) (zB false) (by rw [hs15]) ?_
 have qhs15 := of_decide_eq_false hs15
 have nhW : ¬ WdOK W := by simpa using hs15
 refine zzn 6 (uw 2 true false 5) (zzn 7 (uw 2 true false 5) (zzn 8 (uw 2 true false 5) (zza 9 (zB false) (zza 2 (zB false) (zzb (zzo (ret0 [.bool false] ⟨zzq, trivial⟩ fun u18 e19 => ?_)))))))
 show Value.bool _ = Value.bool _
 congr 1
 exact (decide_eq_false (fun h => nhW h.1)).symm
set_option maxHeartbeats 4000000 in
theorem k_permittedG {u w : World} {W : WL} {p : PL} (d : Dat u w) (hW : WdOK W) (hf : 1 ≤ W.f) : Calls Tryz.prog 176 #[p.v, W.v] w (Post u w fun v _ => v = .bool (decide (PasOK W.f p))) := by
 obtain ⟨hw1, hw2, hw3, hw4, hw5, hw6, hw7, hw8⟩ := id hW
 have hu0 := Nt.zxq W.f
 have hu1 := Nt.p2i_24 (n := W.f) xq
 have hu2 := Nt.zwh (a := W.f) (b := W.b - 1) xq
 have hu3 := Nt.p2i_24 (n := W.b - 1) xq
 refine zzm (args := [.agg #[.int .i64 p.o, .int .i64 p.g, .int .i64 p.h], .agg #[.int .i64 W.b, .int .i64 W.f, .int .i64 W.r, .int .i64 W.o]]) Tryz.func176 rfl Tryz.ntmps176 (rs := [.tmp 4]) Tryz.results176 (le_b rfl) (le_b rfl) d ?_
 refine sq9 (zzk 2 ⟨168, [.int .i64 p.o, .int .i64 p.g, .int .i64 p.h]⟩ (zzk 3 ⟨66, W.cs⟩ (zza 4 (zB false) (zzb (zzd (sq9 (zza 8 (.adr 2 0) (zzi 9 (zI p.o) ty3 zzl (zza 10 (zB (p.o != 1)) ?_)))))))))
 rcases Bool.eq_false_or_eq_true (p.o != 1) with hs11 | hs11
 ·refine zyq 11 (x := zB (p.o != 1)) (zB true) (by rw [hs11]) ?_
  have qhs11 := hs11
  simp at qhs11
  refine zza 12 (.adr 2 0) ?_ (hw := w1 3 true 11)
  refine zzi 13 (zI p.o) ty3 zzl ?_ (hw := w1 3 true 11)
  refine zza 14 (zB (p.o != 2)) ?_ (hw := w1 3 true 11)
  refine zza 15 (zB (p.o != 2)) (zzb (zzu (b := p.o != 2) xj (fun af => ?_) (fun af => ?_)))
  ·have qhb12 := af
   simp at qhb12
   refine sq9 (zza 4 (zB false) (zzb (zzo (zzw (ret0 [.bool false] ⟨zzq, trivial⟩ fun u13 e14 => ?_)))))
   show Value.bool _ = Value.bool _
   congr 1
   exact (decide_eq_false (by unfold PasOK; omega)).symm
  have qhb12 := af
  simp at qhb12
  refine zzs (zzp ?_)
  refine zzd (sq9 (zza 16 (.adr 2 0) (zzi 17 (zI p.o) ty3 zzl (zza 18 (zB (p.o == 1)) (zyq 19 (x := zB (p.o == 1)) (zB false) (by rw [show (p.o == 1) = false from zq]) (zzn 20 (uw 3 true false 19) (zzn 21 (uw 3 true false 19) (zzn 22 (uw 3 true false 19) (zzn 23 (uw 3 true false 19) (zza 24 (zB false) (zzb ?_)))))))))))
  refine zys xj (zzs (zzp ?_))
  refine sq9 (zza 25 (.adr 3 1) (zzi 26 (zI W.f) ty3 zzl (sy_shl 27 (k := .i64) (s := W.f) (Nt.p2i W.f) xq zx (shl_one xq xq) ?_)))
  refine zza 5 (zI (Nt.p2i W.f)) (zzb (zzd (sq9 (zza 28 (.adr 2 1) (zzi 29 (.v (.agg #[.int .i64 p.g, .int .i64 p.h])) ty166 zze (zza 30 (zI 0) (zzb (zzt (sw_rounds 2 ?_)))))))))
  refine sq9 (zza 31 (zB true) (zzb (zzd (zyr xj (zzs (zzp ?_))))))
  refine zzd (zzt (sq9 (zza 32 (zI p.g) (zza 7 (zI p.g) (zzb (zzd (sq9 (zza 33 (zI p.g) (zza 34 (zI (Nt.p2i W.f)) (zyq 35 (x := zI (IntKind.i64.wrap (0 - (Nt.p2i W.f)))) (zI (-(Nt.p2i W.f))) (eqI yq) (zza 36 (zB (decide (p.g ≤ (-(Nt.p2i W.f))))) ?_)))))))))))
  rcases Bool.eq_false_or_eq_true (decide (p.g ≤ (-(Nt.p2i W.f)))) with hs16 | hs16
  ·refine zyq 37 (x := zB (decide (p.g ≤ (-(Nt.p2i W.f))))) (zB true) (by rw [hs16]) ?_
   have qhs16 := of_decide_eq_true hs16
   refine zzn 38 (uw 4 false true 37) (zzn 39 (uw 4 false true 37) (zzn 40 (uw 4 false true 37) (zza 41 (zB true) (zzc 54 [(3, .adr 3 0), (5, zI (Nt.p2i W.f)), (7, zI p.g), (29, .v (.agg #[.int .i64 p.g, .int .i64 p.h])), (30, zI 0), (41, zB true)] [(3, ⟨66, W.cs⟩)] (zyr xj (sq9 (zza 4 (zB false) (zzb (zzo (zzw (zyu (zzw (mpr_rn (zyu (zzw (ret0 [.bool false] ⟨zzq, trivial⟩ fun u17 e18 => ?_))))))))))))))))
   show Value.bool _ = Value.bool _
   congr 1
   exact (decide_eq_false (by unfold PasOK; omega)).symm
  refine zyq 37 (x := zB (decide (p.g ≤ (-(Nt.p2i W.f))))) (zB false) (by rw [hs16]) ?_
  have qhs16 := of_decide_eq_false hs16
  refine zza 38 (zI p.g) ?_ (hw := w1 4 false 37)
  refine zza 39 (zI (Nt.p2i W.f)) ?_ (hw := w1 4 false 37)
  refine zza 40 (zB (decide ((Nt.p2i W.f) ≤ p.g))) ?_ (hw := w1 4 false 37)
  refine zza 41 (zB (decide ((Nt.p2i W.f) ≤ p.g))) (zzc 54 [(3, .adr 3 0), (5, zI (Nt.p2i W.f)), (7, zI p.g), (29, .v (.agg #[.int .i64 p.g, .int .i64 p.h])), (30, zI 0), (41, zB (decide ((Nt.p2i W.f) ≤ p.g)))] [(3, ⟨66, W.cs⟩)] (zzu (b := decide ((Nt.p2i W.f) ≤ p.g)) xj (fun ab => ?_) (fun ab => ?_)))
  ·have qhb19 := of_decide_eq_true ab
   refine sq9 (zza 4 (zB false) (zzb (zzo (zzw (zyu (zzw (mpr_rn (zyu (zzw (ret0 [.bool false] ⟨zzq, trivial⟩ fun u20 e21 => ?_))))))))))
   show Value.bool _ = Value.bool _
   congr 1
   exact (decide_eq_false (by unfold PasOK; omega)).symm
  have qhb19 := of_decide_eq_false ab
  refine zzs (zzp ?_)
  refine sq9 (zzi 42 (.v (W.v)) ty66 zze (zza 43 (zI p.g) (zzg 44 162 _ fun _ _ _ ah => Post.mono (k_fxFits (W := W) (z := p.g) ah hW xq xq) ?_)))
  rintro _ u23 g24 rfl
  refine zza 45 (zB false) (zza 46 (zB false) (zzi 47 (.v (W.v)) ty66 zze ?_ (hw := w1 4 false 46)))
  refine zza 48 (zI p.g) ?_ (hw := w1 4 false 46)
  refine zyq 49 (x := zI (IntKind.i64.wrap (0 - p.g))) (zI (-p.g)) (eqI yq) ?_ (hw := w1 4 false 46)
  refine zzg 50 162 _ (fun _ _ _ an => Post.mono (k_fxFits (W := W) (z := -p.g) an hW xq xq) ?_) (hw := w1 4 false 46)
  rintro _ u27 g28 rfl
  refine zza 51 (zB false) ?_ (hw := w1 4 false 46)
  refine zza 52 (zB false) (zzb (zys xj (zzs (zzp ?_))))
  refine zzf (zza 53 (zI 1) (zza 30 (zI 1) (zzx ?_)))
  refine rn_next ?_
  refine sw_weak (T := St.of 54 [(3, .adr 3 0), (5, zI (Nt.p2i W.f)), (29, .v (.agg #[.int .i64 p.g, .int .i64 p.h])), (30, zI 1)] [(3, ⟨66, [.int .i64 W.b, .int .i64 W.f, .int .i64 W.r, .int .i64 W.o]⟩)]) yz ?_
  refine sq9 (zza 31 (zB true) (zzb (zzd (zyr xj (zzs (zzp ?_))))))
  refine zzd (zzt (sq9 (zza 32 (zI p.h) (zza 7 (zI p.h) (zzb (zzd (sq9 (zza 33 (zI p.h) (zza 34 (zI (Nt.p2i W.f)) (zyq 35 (x := zI (IntKind.i64.wrap (0 - (Nt.p2i W.f)))) (zI (-(Nt.p2i W.f))) (eqI yq) (zza 36 (zB (decide (p.h ≤ (-(Nt.p2i W.f))))) ?_)))))))))))
  rcases Bool.eq_false_or_eq_true (decide (p.h ≤ (-(Nt.p2i W.f)))) with hs30 | hs30
  ·refine zyq 37 (x := zB (decide (p.h ≤ (-(Nt.p2i W.f))))) (zB true) (by rw [hs30]) ?_
   have qhs30 := of_decide_eq_true hs30
   refine zzn 38 (uw 4 false true 37) (zzn 39 (uw 4 false true 37) (zzn 40 (uw 4 false true 37) (zza 41 (zB true) (zzb (zyr xj (sq9 (zza 4 (zB false) (zzb (zzo (zzw (zyu (zzw (mpr_rn (zyu (zzw (ret0 [.bool false] ⟨zzq, trivial⟩ fun u31 e32 => ?_))))))))))))))))
   show Value.bool _ = Value.bool _
   congr 1
   exact (decide_eq_false (by unfold PasOK; omega)).symm
  refine zyq 37 (x := zB (decide (p.h ≤ (-(Nt.p2i W.f))))) (zB false) (by rw [hs30]) ?_
  have qhs30 := of_decide_eq_false hs30
  refine zza 38 (zI p.h) ?_ (hw := w1 4 false 37)
  refine zza 39 (zI (Nt.p2i W.f)) ?_ (hw := w1 4 false 37)
  refine zza 40 (zB (decide ((Nt.p2i W.f) ≤ p.h))) ?_ (hw := w1 4 false 37)
  refine zza 41 (zB (decide ((Nt.p2i W.f) ≤ p.h))) (zzb (zzu (b := decide ((Nt.p2i W.f) ≤ p.h)) xj (fun aa => ?_) (fun aa => ?_)))
  ·have qhb33 := of_decide_eq_true aa
   refine sq9 (zza 4 (zB false) (zzb (zzo (zzw (zyu (zzw (mpr_rn (zyu (zzw (ret0 [.bool false] ⟨zzq, trivial⟩ fun u34 e35 => ?_))))))))))
   show Value.bool _ = Value.bool _
   congr 1
   exact (decide_eq_false (by unfold PasOK; omega)).symm
  have qhb33 := of_decide_eq_false aa
  refine zzs (zzp ?_)
  refine sq9 (zzi 42 (.v (W.v)) ty66 zze (zza 43 (zI p.h) (zzg 44 162 _ fun _ _ _ ak => Post.mono (k_fxFits (W := W) (z := p.h) ak hW xq xq) ?_)))
  rintro _ u37 g38 rfl
  refine zza 45 (zB false) (zza 46 (zB false) (zzi 47 (.v (W.v)) ty66 zze ?_ (hw := w1 4 false 46)))
  refine zza 48 (zI p.h) ?_ (hw := w1 4 false 46)
  refine zyq 49 (x := zI (IntKind.i64.wrap (0 - p.h))) (zI (-p.h)) (eqI yq) ?_ (hw := w1 4 false 46)
  refine zzg 50 162 _ (fun _ _ _ al => Post.mono (k_fxFits (W := W) (z := -p.h) al hW xq xq) ?_) (hw := w1 4 false 46)
  rintro _ u41 g42 rfl
  refine zza 51 (zB false) ?_ (hw := w1 4 false 46)
  refine zza 52 (zB false) (zzc 54 [(3, .adr 3 0), (5, zI (Nt.p2i W.f)), (29, .v (.agg #[.int .i64 p.g, .int .i64 p.h])), (30, zI 1), (52, zB false)] [(3, ⟨66, W.cs⟩)] (zys xj (zzs (zzp ?_))))
  refine zzf (zza 53 (zI 2) (zza 30 (zI 2) (zzx ?_)))
  refine rn_next ?_
  refine sw_weak (T := St.of 54 [(3, .adr 3 0), (5, zI (Nt.p2i W.f)), (29, .v (.agg #[.int .i64 p.g, .int .i64 p.h])), (30, zI 2)] [(3, ⟨66, [.int .i64 W.b, .int .i64 W.f, .int .i64 W.r, .int .i64 W.o]⟩)]) yz ?_
  refine sq9 (zza 31 (zB false) (zzb (zzd (zys xj (zyc (zzp (sq9 (zza 4 (zB true) (zzb (zzo (ret0 [.bool true] ⟨zzq, trivial⟩ fun u44 e45 => ?_)))))))))))
  show Value.bool _ = Value.bool _
  congr 1
  exact (decide_eq_true (by unfold PasOK; omega)).symm
 refine zyq 11 (x := zB (p.o != 1)) (zB false) (by rw [hs11]) ?_
 have qhs11 := hs11
 simp at qhs11
 refine zzn 12 (uw 3 true false 11) (zzn 13 (uw 3 true false 11) (zzn 14 (uw 3 true false 11) (zza 15 (zB false) (zzb (zys xj (zzs (zzp ?_)))))))
 refine zzd (sq9 (zza 16 (.adr 2 0) (zzi 17 (zI p.o) ty3 zzl (zza 18 (zB (p.o == 1)) (zyq 19 (x := zB (p.o == 1)) (zB true) (by rw [show (p.o == 1) = true from zq]) (zza 20 (.adr 2 1) ?_ (hw := w1 3 true 19)))))))
 refine zza 21 (.adr 2 2) ?_ (hw := w1 3 true 19)
 refine zzi 22 (zI p.h) ty3 zzl ?_ (hw := w1 3 true 19)
 refine zza 23 (zB (p.h != 0)) ?_ (hw := w1 3 true 19)
 refine zza 24 (zB (p.h != 0)) (zzb (zzu (b := p.h != 0) xj (fun ae => ?_) (fun ae => ?_)))
 ·have qhb47 := ae
  simp at qhb47
  refine sq9 (zza 4 (zB false) (zzb (zzo (zzw (ret0 [.bool false] ⟨zzq, trivial⟩ fun u48 e49 => ?_)))))
  show Value.bool _ = Value.bool _
  congr 1
  exact (decide_eq_false (by unfold PasOK; omega)).symm
 have qhb47 := ae
 simp at qhb47
 refine zzs (zzp ?_)
 refine sq9 (zza 25 (.adr 3 1) (zzi 26 (zI W.f) ty3 zzl (sy_shl 27 (k := .i64) (s := W.f) (Nt.p2i W.f) xq zx (shl_one xq xq) ?_)))
 refine zza 5 (zI (Nt.p2i W.f)) (zzb (zzd (sq9 (zza 28 (.adr 2 1) (zzi 29 (.v (.agg #[.int .i64 p.g, .int .i64 p.h])) ty166 zze (zza 30 (zI 0) (zzb (zzt (sw_rounds 2 ?_)))))))))
 refine sq9 (zza 31 (zB true) (zzb (zzd (zyr xj (zzs (zzp ?_))))))
 refine zzd (zzt (sq9 (zza 32 (zI p.g) (zza 7 (zI p.g) (zzb (zzd (sq9 (zza 33 (zI p.g) (zza 34 (zI (Nt.p2i W.f)) (zyq 35 (x := zI (IntKind.i64.wrap (0 - (Nt.p2i W.f)))) (zI (-(Nt.p2i W.f))) (eqI yq) (zza 36 (zB (decide (p.g ≤ (-(Nt.p2i W.f))))) ?_)))))))))))
 rcases Bool.eq_false_or_eq_true (decide (p.g ≤ (-(Nt.p2i W.f)))) with hs50 | hs50
 ·refine zyq 37 (x := zB (decide (p.g ≤ (-(Nt.p2i W.f))))) (zB true) (by rw [hs50]) ?_
  have qhs50 := of_decide_eq_true hs50
  refine zzn 38 (uw 4 false true 37) (zzn 39 (uw 4 false true 37) (zzn 40 (uw 4 false true 37) (zza 41 (zB true) (zzc 54 [(3, .adr 3 0), (5, zI (Nt.p2i W.f)), (7, zI p.g), (29, .v (.agg #[.int .i64 p.g, .int .i64 p.h])), (30, zI 0), (41, zB true)] [(3, ⟨66, W.cs⟩)] (zyr xj (sq9 (zza 4 (zB false) (zzb (zzo (zzw (zyu (zzw (mpr_rn (zyu (zzw (ret0 [.bool false] ⟨zzq, trivial⟩ fun u51 e52 => ?_))))))))))))))))
  show Value.bool _ = Value.bool _
  congr 1
  exact (decide_eq_false (by unfold PasOK; omega)).symm
 refine zyq 37 (x := zB (decide (p.g ≤ (-(Nt.p2i W.f))))) (zB false) (by rw [hs50]) ?_
 have qhs50 := of_decide_eq_false hs50
 refine zza 38 (zI p.g) ?_ (hw := w1 4 false 37)
 refine zza 39 (zI (Nt.p2i W.f)) ?_ (hw := w1 4 false 37)
 refine zza 40 (zB (decide ((Nt.p2i W.f) ≤ p.g))) ?_ (hw := w1 4 false 37)
 refine zza 41 (zB (decide ((Nt.p2i W.f) ≤ p.g))) (zzc 54 [(3, .adr 3 0), (5, zI (Nt.p2i W.f)), (7, zI p.g), (29, .v (.agg #[.int .i64 p.g, .int .i64 p.h])), (30, zI 0), (41, zB (decide ((Nt.p2i W.f) ≤ p.g)))] [(3, ⟨66, W.cs⟩)] (zzu (b := decide ((Nt.p2i W.f) ≤ p.g)) xj (fun ad => ?_) (fun ad => ?_)))
 ·have qhb53 := of_decide_eq_true ad
  refine sq9 (zza 4 (zB false) (zzb (zzo (zzw (zyu (zzw (mpr_rn (zyu (zzw (ret0 [.bool false] ⟨zzq, trivial⟩ fun u54 e55 => ?_))))))))))
  show Value.bool _ = Value.bool _
  congr 1
  exact (decide_eq_false (by unfold PasOK; omega)).symm
 have qhb53 := of_decide_eq_false ad
 refine zzs (zzp ?_)
 refine sq9 (zzi 42 (.v (W.v)) ty66 zze (zza 43 (zI p.g) (zzg 44 162 _ fun _ _ _ ai => Post.mono (k_fxFits (W := W) (z := p.g) ai hW xq xq) ?_)))
 rintro _ u57 g58 rfl
 refine zza 45 (zB false) (zza 46 (zB false) (zzi 47 (.v (W.v)) ty66 zze ?_ (hw := w1 4 false 46)))
 refine zza 48 (zI p.g) ?_ (hw := w1 4 false 46)
 refine zyq 49 (x := zI (IntKind.i64.wrap (0 - p.g))) (zI (-p.g)) (eqI yq) ?_ (hw := w1 4 false 46)
 refine zzg 50 162 _ (fun _ _ _ am => Post.mono (k_fxFits (W := W) (z := -p.g) am hW xq xq) ?_) (hw := w1 4 false 46)
 rintro _ u61 g62 rfl
 refine zza 51 (zB false) ?_ (hw := w1 4 false 46)
 refine zza 52 (zB false) (zzb (zys xj (zzs (zzp ?_))))
 refine zzf (zza 53 (zI 1) (zza 30 (zI 1) (zzx ?_)))
 refine rn_next ?_
 refine sw_weak (T := St.of 54 [(3, .adr 3 0), (5, zI (Nt.p2i W.f)), (29, .v (.agg #[.int .i64 p.g, .int .i64 p.h])), (30, zI 1)] [(3, ⟨66, [.int .i64 W.b, .int .i64 W.f, .int .i64 W.r, .int .i64 W.o]⟩)]) yz ?_
 refine sq9 (zza 31 (zB true) (zzb (zzd (zyr xj (zzs (zzp ?_))))))
 refine zzd (zzt (sq9 (zza 32 (zI p.h) (zza 7 (zI p.h) (zzb (zzd (sq9 (zza 33 (zI p.h) (zza 34 (zI (Nt.p2i W.f)) (zyq 35 (x := zI (IntKind.i64.wrap (0 - (Nt.p2i W.f)))) (zI (-(Nt.p2i W.f))) (eqI yq) (zza 36 (zB (decide (p.h ≤ (-(Nt.p2i W.f))))) ?_)))))))))))
 rcases Bool.eq_false_or_eq_true (decide (p.h ≤ (-(Nt.p2i W.f)))) with hs64 | hs64
 ·refine zyq 37 (x := zB (decide (p.h ≤ (-(Nt.p2i W.f))))) (zB true) (by rw [hs64]) ?_
  have qhs64 := of_decide_eq_true hs64
  refine zzn 38 (uw 4 false true 37) (zzn 39 (uw 4 false true 37) (zzn 40 (uw 4 false true 37) (zza 41 (zB true) (zzb (zyr xj (sq9 (zza 4 (zB false) (zzb (zzo (zzw (zyu (zzw (mpr_rn (zyu (zzw (ret0 [.bool false] ⟨zzq, trivial⟩ fun u65 e66 => ?_))))))))))))))))
  show Value.bool _ = Value.bool _
  congr 1
  exact (decide_eq_false (by unfold PasOK; omega)).symm
 refine zyq 37 (x := zB (decide (p.h ≤ (-(Nt.p2i W.f))))) (zB false) (by rw [hs64]) ?_
 have qhs64 := of_decide_eq_false hs64
 refine zza 38 (zI p.h) ?_ (hw := w1 4 false 37)
 refine zza 39 (zI (Nt.p2i W.f)) ?_ (hw := w1 4 false 37)
 refine zza 40 (zB (decide ((Nt.p2i W.f) ≤ p.h))) ?_ (hw := w1 4 false 37)
 refine zza 41 (zB (decide ((Nt.p2i W.f) ≤ p.h))) (zzb (zzu (b := decide ((Nt.p2i W.f) ≤ p.h)) xj (fun ac => ?_) (fun ac => ?_)))
 ·have qhb67 := of_decide_eq_true ac
  refine sq9 (zza 4 (zB false) (zzb (zzo (zzw (zyu (zzw (mpr_rn (zyu (zzw (ret0 [.bool false] ⟨zzq, trivial⟩ fun u68 e69 => ?_))))))))))
  show Value.bool _ = Value.bool _
  congr 1
  exact (decide_eq_false (by unfold PasOK; omega)).symm
 have qhb67 := of_decide_eq_false ac
 refine zzs (zzp ?_)
 refine sq9 (zzi 42 (.v (W.v)) ty66 zze (zza 43 (zI p.h) (zzg 44 162 _ fun _ _ _ ag => Post.mono (k_fxFits (W := W) (z := p.h) ag hW xq xq) ?_)))
 rintro _ u71 g72 rfl
 refine zza 45 (zB false) (zza 46 (zB false) (zzi 47 (.v (W.v)) ty66 zze ?_ (hw := w1 4 false 46)))
 refine zza 48 (zI p.h) ?_ (hw := w1 4 false 46)
 refine zyq 49 (x := zI (IntKind.i64.wrap (0 - p.h))) (zI (-p.h)) (eqI yq) ?_ (hw := w1 4 false 46)
 refine zzg 50 162 _ (fun _ _ _ aj => Post.mono (k_fxFits (W := W) (z := -p.h) aj hW xq xq) ?_) (hw := w1 4 false 46)
 rintro _ u75 g76 rfl
 refine zza 51 (zB false) ?_ (hw := w1 4 false 46)
 refine zza 52 (zB false) (zzc 54 [(3, .adr 3 0), (5, zI (Nt.p2i W.f)), (29, .v (.agg #[.int .i64 p.g, .int .i64 p.h])), (30, zI 1), (52, zB false)] [(3, ⟨66, W.cs⟩)] (zys xj (zzs (zzp ?_))))
 refine zzf (zza 53 (zI 2) (zza 30 (zI 2) (zzx ?_)))
 refine rn_next ?_
 refine sw_weak (T := St.of 54 [(3, .adr 3 0), (5, zI (Nt.p2i W.f)), (29, .v (.agg #[.int .i64 p.g, .int .i64 p.h])), (30, zI 2)] [(3, ⟨66, [.int .i64 W.b, .int .i64 W.f, .int .i64 W.r, .int .i64 W.o]⟩)]) yz ?_
 refine sq9 (zza 31 (zB false) (zzb (zzd (zys xj (zyc (zzp (sq9 (zza 4 (zB true) (zzb (zzo (ret0 [.bool true] ⟨zzq, trivial⟩ fun u78 e79 => ?_)))))))))))
 show Value.bool _ = Value.bool _
 congr 1
 exact (decide_eq_true (by unfold PasOK; omega)).symm
set_option maxHeartbeats 4000000 in
theorem k_wvValidG {u w : World} {W : WL} {x y : Sl} {L M : List PL} (d : Dat u w) (hx : PasV u x L) (hy : PasV u y M) : Calls Tryz.prog 125 #[.agg #[x.v, y.v], W.v] w (Post u w fun v _ => v = .bool (decide (WvOK W L M))) := by
 have hlx := hx.len
 have hly := hy.len
 refine zzm (args := [.agg #[x.v, y.v], .agg #[.int .i64 W.b, .int .i64 W.f, .int .i64 W.r, .int .i64 W.o]]) Tryz.func125 rfl Tryz.ntmps125 (rs := [.tmp 4]) Tryz.results125 (le_b rfl) (le_b rfl) d ?_
 refine sq9 (zzk 2 ⟨93, [x.v, y.v]⟩ (zzk 3 ⟨66, W.cs⟩ (zza 4 (zB false) (zzb (zzd (sq9 (zzi 9 (.v (W.v)) ty66 zze (zzg 10 175 _ fun _ _ ai aN => Post.mono (k_suitableG (W := W) aN) ?_))))))))
 rintro _ u12 ak rfl
 refine zza 11 (zB (!(decide (FmOK W)))) (zzb (zzu (b := !(decide (FmOK W))) xj (fun ab => ?_) (fun ab => ?_)))
 ·have nhF : ¬ FmOK W := by simpa using ab
  refine sq9 (zza 4 (zB false) (zzb (zzo (zzw (ret0 [.bool false] ⟨zzq, trivial⟩ fun u16 e17 => ?_)))))
  show Value.bool _ = Value.bool _
  congr 1
  exact (decide_eq_false (fun k => nhF k.1)).symm
 have hF : FmOK W := by simpa using ab
 have hW := hF.1
 have hf := hF.2
 obtain ⟨hw1, hw2, hw3, hw4, hw5, hw6, hw7, hw8⟩ := id hW
 have hu0 := Nt.zxq W.f
 have hu1 := Nt.p2i_24 (n := W.f) xq
 have hu2 := Nt.zwh (a := W.f) (b := W.b - 1) xq
 have hu3 := Nt.p2i_24 (n := W.b - 1) xq
 refine zzs (zzp ?_)
 refine zzd (sq9 (zza 12 (zI 0) (zzb (zzt (sw_rounds 2 ?_)))))
 refine sq9 (zza 13 (zB true) (zzb (zzd (zyr xj (zzs (zzp ?_))))))
 refine zzd (zzt (sq9 (zza 14 (zI 0) (zza 5 (zI 0) (zzb (sq9 (zzi 15 (.v (.agg #[x.v, y.v])) ty93 zze (zza 16 (zI 0) (zzg 17 126 _ fun _ _ ah aI => Post.mono (k_branch0 (x := x) (y := y) aI) ?_)))))))))
 rintro _ aF al rfl
 refine zza 6 (.v (x.v)) (zzb (zzd (sq9 (zza 18 (.v (x.v)) (zza 19 (zI x.n) (zza 20 (zB (decide ((4 : Int) < (x.n : Int)))) (zzb (zzu (b := decide ((4 : Int) < (x.n : Int))) xj (fun aa => ?_) (fun aa => ?_)))))))))
 ·have qhb22 := of_decide_eq_true aa
  refine sq9 (zza 4 (zB false) (zzb (zzo (zzw (zyu (zzw (mpr_rn (zyu (zzw (ret0 [.bool false] ⟨zzq, trivial⟩ fun u23 e24 => ?_))))))))))
  show Value.bool _ = Value.bool _
  congr 1
  exact (decide_eq_false (fun k => by have h1 := k.2.1; have h2 := k.2.2.1; omega)).symm
 have qhb22 := of_decide_eq_false aa
 refine zzs (zzp ?_)
 refine sq9 (zza 21 (.v (x.v)) (zza 22 (zI x.n) (zza 23 (zI 0) (zzb (zzt ?_)))))
 have hlxL := ((hx.ext (ai.t (ak.t (ah.t al.ext))))).len
 refine zyn (I := fun aC S' u' => ∃ (i : Nat), (aC = L.length - i) ∧ (i ≤ L.length) ∧ (∀ j, j < i → PasOK W.f (L.getD j pl0)) ∧ (S' = St.of 33 [(2, .adr 2 0), (3, .adr 3 0), (12, zI 0), (21, .v (x.v)), (22, zI x.n), (23, zI i)] [(2, ⟨93, [x.v, y.v]⟩), (3, ⟨66, [.int .i64 W.b, .int .i64 W.f, .int .i64 W.r, .int .i64 W.o]⟩)]) ∧ (Ext aF u')) (fun m S u1 u2 e h => by obtain ⟨i, hm, p0, p1, hS, hE⟩ := h; exact ⟨i, hm, p0, p1, hS, hE.trans e⟩) _ yz ⟨0, rfl, Nat.zero_le _, fun j hj => absurd hj (Nat.not_lt_zero j), rfl, (Ext.refl _)⟩ ?_
 rintro aC _ u25 ⟨i, aQ, hi, hz, rfl, aj⟩
 refine sq9 (zza 24 (zB (decide ((i : Int) < (x.n : Int)))) (zzb (zzd (zzu (b := decide ((i : Int) < (x.n : Int))) xj (fun ag => ?_) (fun ag => ?_)))))
 ·have qhb26 := of_decide_eq_true ag
  refine zzs (zzp ?_)
  refine zzd (zzt (sq9 ?_))
  have hl27 := ((hx.ext (ai.t (ak.t (ah.t (al.t aj)))))).len
  obtain ⟨p27, b27, aD, au, aA, ap⟩ := pas_at ((hx.ext (ai.t (ak.t (ah.t (al.t aj)))))) (i := i) xq
  refine zya 25 (aD + i * 3) (n := x.n) (off := aD) (sz := 3) (i := (i : Int)) xq au xq xq sl91 (zym 26 p27.cs aA ty168 (zzk 8 ⟨168, [.int .i64 0, .int .i64 0, .int .i64 0]⟩ (zzj ⟨168, [.int .i64 p27.o, .int .i64 p27.g, .int .i64 p27.h]⟩ ty168 ?_)))
  refine zzb (sq9 (zzi 27 (.v (.agg #[.int .i64 p27.o, .int .i64 p27.g, .int .i64 p27.h])) ty168 zze (zzi 28 (.v (W.v)) ty66 zze (zzg 29 176 _ fun _ _ aK aM => Post.mono (k_permittedG (p := p27) (W := W) aM hW hf) ?_))))
  rintro _ u29 aH rfl
  refine zza 30 (zB (!(decide (PasOK W.f p27)))) (zzb (zzu (b := !(decide (PasOK W.f p27))) xj (fun ad => ?_) (fun ad => ?_)))
  ·have an : ¬ PasOK W.f p27 := by simpa using ad
   refine sq9 (zza 4 (zB false) (zzb (zzo (zyu (zzw (zyt (zyu (zyu (zzw (mpr_rn (zyu (zzw (ret0 [.bool false] ⟨zzq, trivial⟩ fun u33 e34 => ?_)))))))))))))
   show Value.bool _ = Value.bool _
   congr 1
   exact (decide_eq_false (fun k => an (by rw [ap]; exact k.2.2.2.1 _ xq))).symm
  have am : PasOK W.f p27 := by simpa using ad
  refine zzs (zzp ?_)
  refine zzf (zyq 31 (x := zI (IntKind.i64.wrap ((i : Int) + 1))) (zI (i + 1 : Nat)) (eqI yq) (zza 23 (zI (i + 1 : Nat)) (zzx ?_)))
  refine ⟨_, ?_, _, by exact zzv _ _ _, i + 1, rfl, by omega, (fun j hj => by by_cases e : j = i; (rw [e, ← ap]; exact am); exact hz j xq), rfl, (aj.t (aK.t aH.ext))⟩
  omega
 have qhb26 := of_decide_eq_false ag
 refine zyc (zzp ?_)
 have hzL : ∀ j, j < L.length → PasOK W.f (L.getD j pl0) := fun j hj => hz j xq
 refine zzf (zza 32 (zI 1) (zza 12 (zI 1) (zzx ?_)))
 refine rn_next ?_
 refine sw_weak (T := St.of 33 [(2, .adr 2 0), (3, .adr 3 0), (12, zI 1)] [(2, ⟨93, [x.v, y.v]⟩), (3, ⟨66, [.int .i64 W.b, .int .i64 W.f, .int .i64 W.r, .int .i64 W.o]⟩)]) yz ?_
 refine sq9 (zza 13 (zB true) (zzb (zzd (zyr xj (zzs (zzp ?_))))))
 refine zzd (zzt (sq9 (zza 14 (zI 1) (zza 5 (zI 1) (zzb (sq9 (zzi 15 (.v (.agg #[x.v, y.v])) ty93 zze (zza 16 (zI 1) (zzg 17 126 _ fun _ _ av aJ => Post.mono (k_branch1 (x := x) (y := y) aJ) ?_)))))))))
 rintro _ aL aw rfl
 refine zza 6 (.v (y.v)) (zzb (zzd (sq9 (zza 18 (.v (y.v)) (zza 19 (zI y.n) (zza 20 (zB (decide ((4 : Int) < (y.n : Int)))) (zzc 33 [(2, .adr 2 0), (3, .adr 3 0), (6, .v (y.v)), (12, zI 1), (20, zB (decide ((4 : Int) < (y.n : Int))))] [(2, ⟨93, [x.v, y.v]⟩), (3, ⟨66, W.cs⟩)] (zzu (b := decide ((4 : Int) < (y.n : Int))) xj (fun af => ?_) (fun af => ?_)))))))))
 ·have qhb39 := of_decide_eq_true af
  refine sq9 (zza 4 (zB false) (zzb (zzo (zzw (zyu (zzw (mpr_rn (zyu (zzw (ret0 [.bool false] ⟨zzq, trivial⟩ fun u40 e41 => ?_))))))))))
  show Value.bool _ = Value.bool _
  congr 1
  exact (decide_eq_false (fun k => by have h1 := k.2.1; have h2 := k.2.2.1; omega)).symm
 have qhb39 := of_decide_eq_false af
 refine zzs (zzp ?_)
 refine sq9 (zza 21 (.v (y.v)) (zza 22 (zI y.n) (zza 23 (zI 0) (zzb (zzt ?_)))))
 have hlxM := ((hy.ext (ai.t (ak.t (ah.t (al.t (aj.t (av.t aw.ext)))))))).len
 refine zyn (I := fun aE S' u' => ∃ (i : Nat), (aE = M.length - i) ∧ (i ≤ M.length) ∧ (∀ j, j < i → PasOK W.f (M.getD j pl0)) ∧ (S' = St.of 33 [(2, .adr 2 0), (3, .adr 3 0), (12, zI 1), (21, .v (y.v)), (22, zI y.n), (23, zI i)] [(2, ⟨93, [x.v, y.v]⟩), (3, ⟨66, [.int .i64 W.b, .int .i64 W.f, .int .i64 W.r, .int .i64 W.o]⟩)]) ∧ (Ext aL u')) (fun m S u1 u2 e h => by obtain ⟨i, hm, p0, p1, hS, hE⟩ := h; exact ⟨i, hm, p0, p1, hS, hE.trans e⟩) _ yz ⟨0, rfl, Nat.zero_le _, fun j hj => absurd hj (Nat.not_lt_zero j), rfl, (Ext.refl _)⟩ ?_
 rintro aE _ u42 ⟨i, aG, hi, hz, rfl, ay⟩
 refine sq9 (zza 24 (zB (decide ((i : Int) < (y.n : Int)))) (zzb (zzd (zzu (b := decide ((i : Int) < (y.n : Int))) xj (fun ae => ?_) (fun ae => ?_)))))
 ·have qhb43 := of_decide_eq_true ae
  refine zzs (zzp ?_)
  refine zzd (zzt (sq9 ?_))
  have hl44 := ((hy.ext (ai.t (ak.t (ah.t (al.t (aj.t (av.t (aw.t ay))))))))).len
  obtain ⟨p44, b44, aB, ax, az, ar⟩ := pas_at ((hy.ext (ai.t (ak.t (ah.t (al.t (aj.t (av.t (aw.t ay))))))))) (i := i) xq
  refine zya 25 (aB + i * 3) (n := y.n) (off := aB) (sz := 3) (i := (i : Int)) xq ax xq xq sl91 (zym 26 p44.cs az ty168 (zzk 8 ⟨168, [.int .i64 0, .int .i64 0, .int .i64 0]⟩ (zzj ⟨168, [.int .i64 p44.o, .int .i64 p44.g, .int .i64 p44.h]⟩ ty168 ?_)))
  refine zzb (sq9 (zzi 27 (.v (.agg #[.int .i64 p44.o, .int .i64 p44.g, .int .i64 p44.h])) ty168 zze (zzi 28 (.v (W.v)) ty66 zze (zzg 29 176 _ fun _ _ aR aO => Post.mono (k_permittedG (p := p44) (W := W) aO hW hf) ?_))))
  rintro _ u46 aP rfl
  refine zza 30 (zB (!(decide (PasOK W.f p44)))) (zzb (zzu (b := !(decide (PasOK W.f p44))) xj (fun ac => ?_) (fun ac => ?_)))
  ·have ao : ¬ PasOK W.f p44 := by simpa using ac
   refine sq9 (zza 4 (zB false) (zzb (zzo (zyu (zzw (zyt (zyu (zyu (zzw (mpr_rn (zyu (zzw (ret0 [.bool false] ⟨zzq, trivial⟩ fun u50 e51 => ?_)))))))))))))
   show Value.bool _ = Value.bool _
   congr 1
   exact (decide_eq_false (fun k => ao (by rw [ar]; exact k.2.2.2.2 _ xq))).symm
  have aq : PasOK W.f p44 := by simpa using ac
  refine zzs (zzp ?_)
  refine zzf (zyq 31 (x := zI (IntKind.i64.wrap ((i : Int) + 1))) (zI (i + 1 : Nat)) (eqI yq) (zza 23 (zI (i + 1 : Nat)) (zzx ?_)))
  refine ⟨_, ?_, _, by exact zzv _ _ _, i + 1, rfl, by omega, (fun j hj => by by_cases e : j = i; (rw [e, ← ar]; exact aq); exact hz j xq), rfl, (ay.t (aR.t aP.ext))⟩
  omega
 have qhb43 := of_decide_eq_false ae
 refine zyc (zzp ?_)
 have hzM : ∀ j, j < M.length → PasOK W.f (M.getD j pl0) := fun j hj => hz j xq
 refine zzf (zza 32 (zI 2) (zza 12 (zI 2) (zzx ?_)))
 refine rn_next ?_
 refine sw_weak (T := St.of 33 [(2, .adr 2 0), (3, .adr 3 0), (12, zI 2)] [(2, ⟨93, [x.v, y.v]⟩), (3, ⟨66, [.int .i64 W.b, .int .i64 W.f, .int .i64 W.r, .int .i64 W.o]⟩)]) yz ?_
 refine sq9 (zza 13 (zB false) (zzb (zzd (zys xj (zyc (zzp (sq9 (zza 4 (zB true) (zzb (zzo (ret0 [.bool true] ⟨zzq, trivial⟩ fun u52 e53 => ?_)))))))))))
 show Value.bool _ = Value.bool _
 congr 1
 exact (decide_eq_true ⟨hF, by omega, by omega, hzL, hzM⟩).symm
set_option maxHeartbeats 1000000 in
theorem k_sameFilt {u w : World} {x1 y1 x2 y2 : Sl} {l m : List Rat} {K : Nat} (d : Dat u w) (hx1 : PolN u x1 l K) (hy1 : PolN u y1 m K) (hx2 : PolN u x2 l K) (hy2 : PolN u y2 m K) (hK : K ≤ 1000000) (h8 : l.length ≤ 1000) (h9 : m.length ≤ 1000) : Calls Tryz.prog 47 #[.agg #[x1.v, y1.v], .agg #[x2.v, y2.v]] w (Post u w fun v u' => v = .bool true) := by
 have hl1 := hx1.len
 have hl2 := hx2.len
 have hl3 := hy1.len
 have hl4 := hy2.len
 refine zzm (args := [.agg #[x1.v, y1.v], .agg #[x2.v, y2.v]]) Tryz.func47 rfl Tryz.ntmps47 (rs := [.tmp 4]) Tryz.results47 (le_b rfl) (le_b rfl) d ?_
 refine sq9 (zzk 2 ⟨81, [x1.v, y1.v]⟩ (zzk 3 ⟨81, [x2.v, y2.v]⟩ (zza 4 (zB false) (zzb (sq9 (zza 5 (.adr 2 0) (zzi 6 (.v (x1.v)) ty27 zzl (zza 7 (.adr 3 0) (zzi 8 (.v (x2.v)) ty27 zzl (zzg 9 37 _ fun _ _ aa ad => Post.mono (k_r5Same ad (hx1.ext aa).raw (hx2.ext aa).raw xq xq xw xw) ?_))))))))))
 rintro _ u12 ab rfl
 refine zyq 10 (x := zB (decide (Nt.trimQ l = Nt.trimQ l))) (zB true) (by rw [show (decide (Nt.trimQ l = Nt.trimQ l)) = true from decide_eq_true rfl]) (zza 11 (.adr 2 1) ?_ (hw := w1 5 true 10))
 refine zzi 12 (.v (y1.v)) ty27 zzl ?_ (hw := w1 5 true 10)
 refine zza 13 (.adr 3 1) ?_ (hw := w1 5 true 10)
 refine zzi 14 (.v (y2.v)) ty27 zzl ?_ (hw := w1 5 true 10)
 refine zzg 15 37 _ (fun _ _ ac ae => Post.mono (k_r5Same ae (hy1.ext (aa.t (ab.t ac))).raw (hy2.ext (aa.t (ab.t ac))).raw xq xq xw xw) ?_) (hw := w1 5 true 10)
 rintro _ u17 g18 rfl
 refine zza 16 (zB (decide (Nt.trimQ m = Nt.trimQ m))) (zza 4 (zB (decide (Nt.trimQ m = Nt.trimQ m))) (zzb (zzo (ret0 [.bool (decide (Nt.trimQ m = Nt.trimQ m))] ⟨zzq, trivial⟩ fun u20 e21 => ?_))))
 show Value.bool _ = Value.bool _
 rw [show (decide (Nt.trimQ m = Nt.trimQ m)) = true from decide_eq_true rfl]
theorem all_mem {f : Int} {L : List PL} (h : ∀ i, i < L.length → PasOK f (L.getD i pl0)) : ∀ p ∈ L, PasOK f p := fun p hp => by
 obtain ⟨i, hi, e⟩ := List.mem_iff_getElem.1 hp
 have := h i hi
 rw [List.getD_eq_getElem?_getD, List.getElem?_eq_getElem hi] at this
 rw [← e]; exact this
theorem blk_cells {u : World} {b off : Nat} {ty : TypeId} {cs l : List Value} (h : u.heap[b]? = some (.cells cs.toArray ty (0, 0))) (hl : (cs.drop off).take l.length = l) : ∀ i, i < l.length → u.cell? ⟨b, off + i, none⟩ = l[i]? := fun i hi => by
 rw [cells_at h]
 have : l[i]? = ((cs.drop off).take l.length)[i]? := by rw [hl]
 rw [this, List.getElem?_take_of_lt hi, List.getElem?_drop]; simp
set_option maxHeartbeats 2000000 in
theorem k_pnode {u w : World} {F : List Nat} {bb lo : Nat} {r : BL} {N : List (List TL)} {s : List Int} {x c y e : Int} (d : Dat u w) (h : BldR 170 (· ∈ F) u bb r N s) (hlo : lo ≤ u.heap.size) (hn : r.n ≤ 100) (hN : N.length ≤ 200) : Calls Tryz.prog 128 #[.pointer (some ⟨bb, 0, none⟩), .int .i64 x, .int .i64 c, .int .i64 y, .int .i64 e] w (PostF F u w fun v u' => v = .int .i64 ((r.n + N.length + 1 : Nat) : Int) ∧ ∃ X' : Sl, BldR 170 (fun b => b ∈ F ∨ lo ≤ b) u' bb { r with X := X' } (N ++ [[⟨x, c⟩, ⟨y, e⟩]]) s) := by
 obtain ⟨aC, au, ar, aE⟩ := BldR.free (u0 := u) (w := w) h
 have aB : u.heap.size ≤ u.heap.size := Nat.le_refl _
 have hl0 := NodesM.len ar
 refine calls_symF (F := F) (args := [.pointer (some ⟨bb, 0, none⟩), .int .i64 x, .int .i64 c, .int .i64 y, .int .i64 e]) Tryz.func128 rfl Tryz.ntmps128 (rs := [.tmp 10]) Tryz.results128 (le_b rfl) (le_b rfl) d ?_
 refine sq9 (zza 10 (zI 0) (zzb (sq9 (zza 12 (zI x) (zza 13 (zI c) (zza 14 (.v (.agg #[.int .i64 x, .int .i64 c])) (zza 15 (zI y) (zza 16 (zI e) (zza 17 (.v (.agg #[.int .i64 y, .int .i64 e])) (sy_dataF 18 ⟨147, [.int .i64 x, .int .i64 c, .int .i64 y, .int .i64 e]⟩ 2 (fun ad aF ag ax f11 g11 => ?_)))))))))))
 have al : MutM 2 147 (fun _ => True) aF (⟨some ⟨ad, 0, none⟩, 2, 2⟩ : Sl) (tcs [(⟨x, c⟩ : TL), (⟨y, e⟩ : TL)]) := MutM.lit ax rfl yv trivial
 refine zza 11 (.v (.slice (some ⟨ad, 0, none⟩) 2 2)) (zzb (sq9 (zza 19 (.v (.pointer (some ⟨bb, 0, none⟩))) (zza 20 (.v (.pointer (some ⟨bb, 0, none⟩))) (zza 21 (.v (.pointer (some ⟨bb, 0, none⟩))) (zza 22 (.v (.pointer (some ⟨bb, 0, none⟩))) (zza 23 (.v (.pointer (some ⟨bb, 9, none⟩))) ?_)))))))
 have hB12 := ag.cells aC
 have hX12 := ar.ext ag
 have hY12 := aE.ext ag
 have hz12 := Nat.le_trans aB ag.size
 refine zyl 24 (r.X.v) (zxc (j := 9) hB12 rfl) ty70 (zza 25 (.v (.slice (some ⟨ad, 0, none⟩) 2 2)) (zza 26 (.v (.agg #[.slice (some ⟨ad, 0, none⟩) 2 2])) (sy_dataF 27 ⟨150, [.slice (some ⟨ad, 0, none⟩) 2 2]⟩ 1 (fun az u13 af aw f13 g13 => ?_))))
 have hB14 := af.cells hB12
 have hX14 := hX12.ext af
 have hY14 := hY12.ext af
 have hz14 := Nat.le_trans hz12 af.size
 obtain ⟨aj, am, an, ak⟩ := id hX14
 have hl15 := NodesM.len hX14
 refine sy_appX 28 (T := 70) (E := 150) (z := .agg #[.slice none 0 0]) (size := 1) (bytes := 24) (b2 := az) (off := 0) (m := 1) r.X (aj.map Sl.v) [.slice (some ⟨ad, 0, none⟩) 2 2] hz14 am xj xj xj yj rfl (lit_news ((Ext.refl _).cells aw)) (sl_one (⟨some ⟨ad, 0, none⟩, 2, 2⟩ : Sl)) yj yv xq (fun aa ay ap aD aq ae => ?_)
 have ao : NodesM _ ay aa (N ++ [[(⟨x, c⟩ : TL), (⟨y, e⟩ : TL)]]) := NodesM.snoc an ak (al.ext af) ae ap
 have hB15 := ae _ _ _ yj hB14
 have hY15 := hY14.keep ae yj
 have hz15 := Nat.le_trans hz14 aq
 refine zza 29 (.v (.pointer (some ⟨bb, 0, none⟩))) (zza 30 (.v (.pointer (some ⟨bb, 0, none⟩))) (zza 31 (.v (.pointer (some ⟨bb, 9, none⟩))) (sy_storeD (b := bb) (off := 9) hB15 au ty70 (show 9 + 1 ≤ 14 by decide) (fun av ai ac => ?_))))
 have ab : av.heap[bb]? = some (.cells (⟨⟨r.D.b, r.D.f, r.D.r, r.D.o⟩, ⟨r.W.b, r.W.f, r.W.r, r.W.o⟩, r.n, aa, r.Y, r.o, r.t, r.f⟩ : BL).cs.toArray 170 (0, 0)) := ai
 have hX16 := ao.extB ac hB15 yj yj
 have hY16 := hY15.extB ac hB15 yj
 have hz16 := Nat.le_trans hz15 ac.size
 refine zzb (zzd (zzz [0, 1, 3, 7, 15, 0, 32, 96, 224, 480, 992, 2047, 4095] [(0, []), (1, []), (2, []), (3, []), (4, []), (5, []), (6, []), (7, []), (8, []), (9, []), (10, []), (11, []), (12, [])] xj xj (zza 32 (.v (.pointer (some ⟨bb, 0, none⟩))) (zza 33 (.v (.pointer (some ⟨bb, 0, none⟩))) (zza 34 (.v (.pointer (some ⟨bb, 0, none⟩))) (zza 35 (.v (.pointer (some ⟨bb, 8, none⟩))) (zyl 36 (.int .i64 r.n) (zxc (j := 8) ab rfl) ty3 (zza 37 (.v (.pointer (some ⟨bb, 0, none⟩))) (zza 38 (.v (.pointer (some ⟨bb, 0, none⟩))) (zza 39 (.v (.pointer (some ⟨bb, 0, none⟩))) (zza 40 (.v (.pointer (some ⟨bb, 9, none⟩))) ?_)))))))))))
 refine zyl 41 (aa.v) (zxc (j := 9) ab rfl) ty70 (zza 42 (zI aa.n) (zyq 43 (x := zI (IntKind.i64.wrap ((r.n : Int) + (aa.n : Int)))) (zI (r.n + aa.n : Nat)) (eqI yq) (zza 10 (zI (r.n + aa.n : Nat)) (zzc 44 [(10, zI (r.n + aa.n : Nat))] [] (zzo (ret0 [.int .i64 (r.n + aa.n : Nat)] ⟨zzq, trivial⟩ fun aA ah => ?_))))))
 have hB19 := ah.cells ab
 have hX19 := hX16.ext ah
 have hY19 := hY16.ext ah
 have hz19 := Nat.le_trans hz16 ah.size
 refine ⟨?_, aa, ?_⟩
 ·show Value.int _ _ = Value.int _ _
  congr 1
  omega
 have hG : BldR 170 (MayB ⟨w, none, F⟩ u) aA bb (⟨⟨r.D.b, r.D.f, r.D.r, r.D.o⟩, ⟨r.W.b, r.W.f, r.W.r, r.W.o⟩, r.n, aa, r.Y, r.o, r.t, r.f⟩ : BL) (N ++ [[(⟨x, c⟩ : TL), (⟨y, e⟩ : TL)]]) s := ⟨hB19, au, hX19, hY19⟩
 exact hG.mono fun b _ hb => hb.elim (fun h9 => .inr (Nat.le_trans hlo h9)) .inl
namespace Nt
def adN (U g u s : Int) (m : Nat) : List (List TL) := [[⟨u, -g⟩, ⟨s, g⟩], [⟨(m : Int), U⟩, ⟨s, U⟩], [⟨(m : Int), U⟩, ⟨u, U⟩]]
def secN (U : Int) (p : PL) (f : Nat) (u : Int) (m : Nat) : List (List TL) := if p.o = 1 then adN U p.g u (f : Int) m else adN U p.h (f : Int) ((f + 1 : Nat) : Int) m ++ adN U p.g u ((m + 1 : Nat) : Int) (m + 3)
def secX (p : PL) (f m : Nat) (s : List Int) : List Int := if p.o = 1 then s.set (f - 1) ((m + 2 : Nat) : Int) else (s.set (f - 1) ((m + 5 : Nat) : Int)).set f ((m + 2 : Nat) : Int)
def secO (p : PL) (m : Nat) : Nat := if p.o = 1 then m + 1 else m + 4
def secF (p : PL) (f : Nat) : Nat := if p.o = 1 then f + 1 else f + 2
end Nt
set_option maxHeartbeats 4000000 in
theorem k_padaptor {u w : World} {F : List Nat} {bb lo : Nat} {r : BL} {N : List (List TL)} {s : List Int} {g x y : Int} (d : Dat u w) (h : BldR 170 (· ∈ F) u bb r N s) (hlo : lo ≤ u.heap.size) (hg0 : -16777216 ≤ g) (hg1 : g ≤ 16777216) (hn : r.n ≤ 100) (hN : N.length ≤ 190) : Calls Tryz.prog 177 #[.pointer (some ⟨bb, 0, none⟩), .int .i64 g, .int .i64 x, .int .i64 y] w (PostF F u w fun v u' => v = .tuple #[.int .i64 ((r.n + N.length + 1 + 1 : Nat) : Int), .int .i64 ((r.n + N.length + 1 + 2 : Nat) : Int)] ∧ ∃ X' : Sl, BldR 170 (fun b => b ∈ F ∨ lo ≤ b) u' bb { r with X := X' } (N ++ Nt.adN r.t g x y (r.n + N.length + 1)) s) := by
 obtain ⟨aP, aN, ao, aS⟩ := BldR.free (u0 := u) (w := w) h
 have aH : u.heap.size ≤ u.heap.size := Nat.le_refl _
 have hl0 := NodesM.len ao
 refine calls_symF (F := F) (args := [.pointer (some ⟨bb, 0, none⟩), .int .i64 g, .int .i64 x, .int .i64 y]) Tryz.func177 rfl Tryz.ntmps177 (rs := [.tmp 8, .tmp 9]) Tryz.results177 (le_b rfl) (le_b rfl) d ?_
 refine sq9 (zza 8 (zI 0) (zza 9 (zI 0) (zzb (sq9 (zza 13 (.v (.pointer (some ⟨bb, 0, none⟩))) (zza 14 (zI x) (zza 15 (zI g) (zyq 16 (x := zI (IntKind.i64.wrap (0 - g))) (zI (-g)) (eqI yq) (zza 17 (zI y) (zza 18 (zI g) ?_))))))))))
 have ae : BldR 170 (MayB ⟨w, none, F⟩ u) u bb (⟨⟨r.D.b, r.D.f, r.D.r, r.D.o⟩, ⟨r.W.b, r.W.f, r.W.r, r.W.o⟩, r.n, r.X, r.Y, r.o, r.t, r.f⟩ : BL) N s := ⟨aP, aN, ao, aS⟩
 have hl11 := NodesM.len ao
 refine zwo (blks bb (⟨⟨r.D.b, r.D.f, r.D.r, r.D.o⟩, ⟨r.W.b, r.W.f, r.W.r, r.W.o⟩, r.n, r.X, r.Y, r.o, r.t, r.f⟩ : BL)) 19 128 [.pointer (some ⟨bb, 0, none⟩), .int .i64 x, .int .i64 (-g), .int .i64 y, .int .i64 g] (BldR.may ae) (fun w11 u11 aE aO => k_pnode (lo := u.heap.size) aO (ae.own.ext aE) aE.size xq (by first|omega|(simp;omega) | (simp [Nt.adN]; omega))) (fun v11 ah aq ar => ?_)
 obtain ⟨rfl, aI, aC⟩ := ar
 obtain ⟨af, av, ag, ay⟩ := aC.back (fun b hb => (BldR.may ae b hb).1) aH
 have hz11 := Nat.le_trans aH aq.size
 have hl11b := NodesM.len ag
 refine zza 10 (zI (r.n + N.length + 1 : Nat)) (zzb (zzd (sw_anyC [0, 0, 0, 4, 12, 28, 0, 0, 128, 384, 896, 2047, 4095] [(0, []), (1, []), (2, []), (3, []), (4, []), (5, []), (6, []), (7, []), (8, []), (9, []), (10, [])] [(11, []), (12, [])] xj xj xj ?_)))
 refine zza 20 (.v (.pointer (some ⟨bb, 0, none⟩))) (zza 21 (zI (r.n + N.length + 1 : Nat)) (zza 22 (.v (.pointer (some ⟨bb, 0, none⟩))) (zza 23 (.v (.pointer (some ⟨bb, 0, none⟩))) (zza 24 (.v (.pointer (some ⟨bb, 12, none⟩))) (zyl 25 (.int .i64 r.t) (zxc (j := 12) af rfl) ty3 (zza 26 (zI y) (zza 27 (.v (.pointer (some ⟨bb, 0, none⟩))) (zza 28 (.v (.pointer (some ⟨bb, 0, none⟩))) (zza 29 (.v (.pointer (some ⟨bb, 12, none⟩))) (zyl 30 (.int .i64 r.t) (zxc (j := 12) af rfl) ty3 (zzx ?_)))))))))))
 have ac : BldR 170 (MayB ⟨w, none, F⟩ u) ah bb (⟨⟨r.D.b, r.D.f, r.D.r, r.D.o⟩, ⟨r.W.b, r.W.f, r.W.r, r.W.o⟩, r.n, aI, r.Y, r.o, r.t, r.f⟩ : BL) (N ++ [[(⟨x, -g⟩ : TL), (⟨y, g⟩ : TL)]]) s := ⟨af, av, ag, ay⟩
 have hl12 := NodesM.len ag
 refine zwo (blks bb (⟨⟨r.D.b, r.D.f, r.D.r, r.D.o⟩, ⟨r.W.b, r.W.f, r.W.r, r.W.o⟩, r.n, aI, r.Y, r.o, r.t, r.f⟩ : BL)) 31 128 [.pointer (some ⟨bb, 0, none⟩), .int .i64 (r.n + N.length + 1 : Nat), .int .i64 r.t, .int .i64 y, .int .i64 r.t] (BldR.may ac) (fun w12 u12 aK aL => k_pnode (lo := ah.heap.size) aL (ac.own.ext aK) aK.size xq (by first|omega|(simp;omega) | (simp [Nt.adN]; omega))) (fun v12 ai aw ax => ?_)
 obtain ⟨rfl, aG, az⟩ := ax
 obtain ⟨aa, aD, ad, aA⟩ := az.back (fun b hb => (BldR.may ac b hb).1) hz11
 have hz12 := Nat.le_trans hz11 aw.size
 have hl12b := NodesM.len ad
 refine zza 11 (zI ((r.n + (N ++ [[(⟨x, -g⟩ : TL), (⟨y, g⟩ : TL)]]).length + 1 : Nat) : Int)) (zzb (zzd (sw_anyC [0, 0, 0, 4, 12, 28, 0, 0, 128, 384, 896, 2047, 4095] [(0, []), (1, []), (2, []), (3, []), (4, []), (5, []), (6, []), (7, []), (8, []), (9, []), (10, [])] [(11, []), (12, [])] xj xj xj ?_)))
 refine zza 32 (.v (.pointer (some ⟨bb, 0, none⟩))) (zza 33 (zI (r.n + N.length + 1 : Nat)) (zza 34 (.v (.pointer (some ⟨bb, 0, none⟩))) (zza 35 (.v (.pointer (some ⟨bb, 0, none⟩))) (zza 36 (.v (.pointer (some ⟨bb, 12, none⟩))) (zyl 37 (.int .i64 r.t) (zxc (j := 12) aa rfl) ty3 (zza 38 (zI x) (zza 39 (.v (.pointer (some ⟨bb, 0, none⟩))) (zza 40 (.v (.pointer (some ⟨bb, 0, none⟩))) (zza 41 (.v (.pointer (some ⟨bb, 12, none⟩))) (zyl 42 (.int .i64 r.t) (zxc (j := 12) aa rfl) ty3 (zzx ?_)))))))))))
 have ab : BldR 170 (MayB ⟨w, none, F⟩ u) ai bb (⟨⟨r.D.b, r.D.f, r.D.r, r.D.o⟩, ⟨r.W.b, r.W.f, r.W.r, r.W.o⟩, r.n, aG, r.Y, r.o, r.t, r.f⟩ : BL) ((N ++ [[(⟨x, -g⟩ : TL), (⟨y, g⟩ : TL)]]) ++ [[(⟨((r.n + N.length + 1 : Nat) : Int), r.t⟩ : TL), (⟨y, r.t⟩ : TL)]]) s := ⟨aa, aD, ad, aA⟩
 have hl13 := NodesM.len ad
 refine zwo (blks bb (⟨⟨r.D.b, r.D.f, r.D.r, r.D.o⟩, ⟨r.W.b, r.W.f, r.W.r, r.W.o⟩, r.n, aG, r.Y, r.o, r.t, r.f⟩ : BL)) 43 128 [.pointer (some ⟨bb, 0, none⟩), .int .i64 (r.n + N.length + 1 : Nat), .int .i64 r.t, .int .i64 x, .int .i64 r.t] (BldR.may ab) (fun w13 u13 aF aM => k_pnode (lo := ai.heap.size) aM (ab.own.ext aF) aF.size xq (by first|omega|(simp;omega) | (simp [Nt.adN]; omega))) (fun v13 aQ al au => ?_)
 obtain ⟨rfl, aJ, ap⟩ := au
 obtain ⟨an, aB, aj, am⟩ := ap.back (fun b hb => (BldR.may ab b hb).1) hz12
 have hz13 := Nat.le_trans hz12 al.size
 have hl13b := NodesM.len aj
 refine zza 12 (zI ((r.n + ((N ++ [[(⟨x, -g⟩ : TL), (⟨y, g⟩ : TL)]]) ++ [[(⟨((r.n + N.length + 1 : Nat) : Int), r.t⟩ : TL), (⟨y, r.t⟩ : TL)]]).length + 1 : Nat) : Int)) (zzc 46 [(11, zI ((r.n + (N ++ [[(⟨x, -g⟩ : TL), (⟨y, g⟩ : TL)]]).length + 1 : Nat) : Int)), (12, zI ((r.n + ((N ++ [[(⟨x, -g⟩ : TL), (⟨y, g⟩ : TL)]]) ++ [[(⟨((r.n + N.length + 1 : Nat) : Int), r.t⟩ : TL), (⟨y, r.t⟩ : TL)]]).length + 1 : Nat) : Int))] [] (sq9 (zza 44 (zI ((r.n + (N ++ [[(⟨x, -g⟩ : TL), (⟨y, g⟩ : TL)]]).length + 1 : Nat) : Int)) (zza 45 (zI ((r.n + ((N ++ [[(⟨x, -g⟩ : TL), (⟨y, g⟩ : TL)]]) ++ [[(⟨((r.n + N.length + 1 : Nat) : Int), r.t⟩ : TL), (⟨y, r.t⟩ : TL)]]).length + 1 : Nat) : Int)) (zza 8 (zI ((r.n + (N ++ [[(⟨x, -g⟩ : TL), (⟨y, g⟩ : TL)]]).length + 1 : Nat) : Int)) (zza 9 (zI ((r.n + ((N ++ [[(⟨x, -g⟩ : TL), (⟨y, g⟩ : TL)]]) ++ [[(⟨((r.n + N.length + 1 : Nat) : Int), r.t⟩ : TL), (⟨y, r.t⟩ : TL)]]).length + 1 : Nat) : Int)) (zzb (zzo (ret0 [.int .i64 ((r.n + (N ++ [[(⟨x, -g⟩ : TL), (⟨y, g⟩ : TL)]]).length + 1 : Nat) : Int), .int .i64 ((r.n + ((N ++ [[(⟨x, -g⟩ : TL), (⟨y, g⟩ : TL)]]) ++ [[(⟨((r.n + N.length + 1 : Nat) : Int), r.t⟩ : TL), (⟨y, r.t⟩ : TL)]]).length + 1 : Nat) : Int)] ⟨zzq, zzq, trivial⟩ fun aR ak => ?_)))))))))
 have hB16 := ak.cells an
 have hX16 := aj.ext ak
 have hY16 := am.ext ak
 have hz16 := Nat.le_trans hz13 ak.size
 have eN : (((N ++ [[(⟨x, -g⟩ : TL), (⟨y, g⟩ : TL)]]) ++ [[(⟨((r.n + N.length + 1 : Nat) : Int), r.t⟩ : TL), (⟨y, r.t⟩ : TL)]]) ++ [[(⟨((r.n + N.length + 1 : Nat) : Int), r.t⟩ : TL), (⟨x, r.t⟩ : TL)]]) = (N ++ Nt.adN r.t g x y (r.n + N.length + 1)) := by simp [Nt.adN]
 have hXe := hX16
 rw [eN] at hXe
 refine ⟨?_, aJ, ?_⟩
 ·show Value.tuple _ = Value.tuple _
  simp
  omega
 have hG : BldR 170 (MayB ⟨w, none, F⟩ u) aR bb (⟨⟨r.D.b, r.D.f, r.D.r, r.D.o⟩, ⟨r.W.b, r.W.f, r.W.r, r.W.o⟩, r.n, aJ, r.Y, r.o, r.t, r.f⟩ : BL) (N ++ Nt.adN r.t g x y (r.n + N.length + 1)) s := ⟨hB16, aB, hXe, hY16⟩
 exact hG.mono fun b _ hb => hb.elim (fun h9 => .inr (Nat.le_trans hlo h9)) .inl
namespace Nt
theorem adN_len (U g u s : Int) (m : Nat) : (adN U g u s m).length = 3 := rfl
end Nt
set_option maxHeartbeats 4000000 in
theorem k_psection1 {u w : World} {F : List Nat} {bb lo : Nat} {r : BL} {N : List (List TL)} {s : List Int} {q z : Int} {g : Int} (hg0 : -16777216 ≤ g) (hg1 : g ≤ 16777216) (d : Dat u w) (h9 : BldR 170 (· ∈ F) u bb r N s) (hlo : lo ≤ u.heap.size) (hf1 : 1 ≤ r.f) (hfs : r.f + 0 ≤ s.length) (hs : s.length ≤ 100) (hn : r.n ≤ 100) (hN : N.length ≤ 150) (ht : r.t = Nt.p2i z) (hz : z ≤ 23) : Calls Tryz.prog 127 #[.pointer (some ⟨bb, 0, none⟩), (⟨1, g, 0⟩ : PL).v, .int .i64 q] w (PostF F u w fun v u' => v = .int .i64 ((Nt.secO (⟨1, g, 0⟩ : PL) (r.n + N.length + 1) : Nat) : Int) ∧ ∃ X' : Sl, BldR 170 (fun b => b ∈ F ∨ lo ≤ b) u' bb { r with X := X', f := Nt.secF (⟨1, g, 0⟩ : PL) r.f } (N ++ Nt.secN r.t (⟨1, g, 0⟩ : PL) r.f q (r.n + N.length + 1)) (Nt.secX (⟨1, g, 0⟩ : PL) r.f (r.n + N.length + 1) s)) := by
 obtain ⟨ah, av, au, aC⟩ := BldR.free (u0 := u) (w := w) h9
 have aB : u.heap.size ≤ u.heap.size := Nat.le_refl _
 have hl0 := NodesM.len au
 refine calls_symF (F := F) (args := [.pointer (some ⟨bb, 0, none⟩), .agg #[.int .i64 1, .int .i64 g, .int .i64 0], .int .i64 q]) Tryz.func127 rfl Tryz.ntmps127 (rs := [.tmp 6]) Tryz.results127 (le_b rfl) (le_b rfl) d ?_
 refine sq9 (zzk 4 ⟨168, [.int .i64 1, .int .i64 g, .int .i64 0]⟩ (zza 6 (zI 0) (zzb (sq9 (zza 15 (.v (.pointer (some ⟨bb, 0, none⟩))) (zza 16 (.v (.pointer (some ⟨bb, 0, none⟩))) (zza 17 (.v (.pointer (some ⟨bb, 13, none⟩))) (zyl 18 (.int .i64 r.f) (zxc (j := 13) ah rfl) ty3 (zza 7 (zI r.f) (zzb (zzd ?_)))))))))))
 refine sq9 (zza 19 (.adr 4 0) (zzi 20 (zI 1) ty3 zzl (zza 21 (zB true) (zzb (zyr xj (sq9 (zza 22 (.v (.pointer (some ⟨bb, 0, none⟩))) (zza 23 (.v (.pointer (some ⟨bb, 0, none⟩))) (zza 24 (.v (.pointer (some ⟨bb, 13, none⟩))) (zyl 25 (.int .i64 r.f) (zxc (j := 13) ah rfl) ty3 (zyq 26 (x := zI (IntKind.i64.wrap ((r.f : Int) + 1))) (zI (r.f + 1 : Nat)) (eqI yq) ?_)))))))))))
 refine zza 27 (.v (.pointer (some ⟨bb, 0, none⟩))) (zza 28 (.v (.pointer (some ⟨bb, 13, none⟩))) (sy_storeD (b := bb) (off := 13) ah av ty3 (show 13 + 1 ≤ 14 by decide) (fun ar ak ac => ?_)))
 have ao : ar.heap[bb]? = some (.cells (⟨⟨r.D.b, r.D.f, r.D.r, r.D.o⟩, ⟨r.W.b, r.W.f, r.W.r, r.W.o⟩, r.n, r.X, r.Y, r.o, r.t, r.f + 1⟩ : BL).cs.toArray 170 (0, 0)) := ak
 have hX11 := au.extB ac ah yj yj
 have hY11 := aC.extB ac ah yj
 have hz11 := Nat.le_trans aB ac.size
 refine zzb (sq9 (zza 30 (.v (.pointer (some ⟨bb, 0, none⟩))) (zza 31 (.adr 4 1) (zza 32 (.adr 4 1) (zzi 33 (zI g) ty3 zzl (zza 34 (zI q) (zza 35 (zI r.f) ?_)))))))
 have aa : BldR 170 (MayB ⟨w, none, F⟩ u) ar bb (⟨⟨r.D.b, r.D.f, r.D.r, r.D.o⟩, ⟨r.W.b, r.W.f, r.W.r, r.W.o⟩, r.n, r.X, r.Y, r.o, r.t, r.f + 1⟩ : BL) N s := ⟨ao, av, hX11, hY11⟩
 have hl12 := NodesM.len hX11
 refine zwo (blks bb (⟨⟨r.D.b, r.D.f, r.D.r, r.D.o⟩, ⟨r.W.b, r.W.f, r.W.r, r.W.o⟩, r.n, r.X, r.Y, r.o, r.t, r.f + 1⟩ : BL)) 36 177 [.pointer (some ⟨bb, 0, none⟩), .int .i64 g, .int .i64 q, .int .i64 r.f] (BldR.may aa) (fun w12 u12 ax ay => k_padaptor (lo := ar.heap.size) ay (aa.own.ext ax) ax.size xq xq xq (by first|omega|(simp;omega) | (simp [Nt.adN]; omega))) (fun v12 aD al am => ?_)
 obtain ⟨rfl, aw, an⟩ := am
 obtain ⟨ad, aq, af, ab⟩ := an.back (fun b hb => (BldR.may aa b hb).1) hz11
 have hz12 := Nat.le_trans hz11 al.size
 have hl12b := NodesM.len af
 refine zza 29 (.v (.tuple #[.int .i64 (r.n + N.length + 1 + 1 : Nat), .int .i64 (r.n + N.length + 1 + 2 : Nat)])) (zza 37 (zI (r.n + N.length + 1 + 1 : Nat)) (zza 38 (zI (r.n + N.length + 1 + 2 : Nat)) (zza 8 (zI (r.n + N.length + 1 + 1 : Nat)) (zza 9 (zI (r.n + N.length + 1 + 2 : Nat)) (zzb (sq9 (zza 39 (.v (.pointer (some ⟨bb, 0, none⟩))) (zza 40 (.v (.pointer (some ⟨bb, 0, none⟩))) (zza 41 (.v (.pointer (some ⟨bb, 0, none⟩))) (zza 42 (.v (.pointer (some ⟨bb, 10, none⟩))) (zyl 43 (r.Y.v) (zxc (j := 10) ad rfl) ty22 ?_)))))))))))
 refine zza 44 (zI r.f) (zyq 45 (x := zI (IntKind.i64.wrap ((r.f : Int) - 1))) (zI (r.f - 1 : Nat)) (eqI yq) (zza 46 (zI (r.n + N.length + 1 + 2 : Nat)) ?_))
 obtain ⟨b13, ae, az⟩ := MutL.cell (j := r.f - 1) ab.toL (by rw [zwm]; first | omega | (simp only [List.length_set]; omega))
 refine zya 47 (0 + (r.f - 1) * 1) (n := r.Y.n) (off := 0) (sz := 1) (i := ((r.f - 1 : Nat) : Int)) xq ae xq (by have h9 : (ics s).length = r.Y.n * 1 := ab.1; rw [zwm] at h9; have h8 : r.f - 1 < s.length := (by first | omega | (simp only [List.length_set]; omega)); omega) sl22 (sy_storeX (z := ((r.n + N.length + 1 + 2 : Nat) : Int)) (i := r.f - 1) (l := s) r.Y ab ae ty3 (by first | omega | (simp only [List.length_set]; omega)) (fun u14 aj ap ag => ?_))
 have hB14 := ag _ _ _ yj ad
 have hX14 := af.keep ag yj yj
 have hz14 := Nat.le_trans hz12 ap
 refine zzc 97 [(8, zI (r.n + N.length + 1 + 1 : Nat))] [] (sq9 (zza 48 (zI (r.n + N.length + 1 + 1 : Nat)) (zza 6 (zI (r.n + N.length + 1 + 1 : Nat)) (zzb (zzo (zzw (ret0 [.int .i64 (r.n + N.length + 1 + 1 : Nat)] ⟨zzq, trivial⟩ fun aA ai => ?_)))))))
 have hB17 := ai.cells hB14
 have hX17 := hX14.ext ai
 have hY17 := aj.ext ai
 have hz17 := Nat.le_trans hz14 ai.size
 have eN : (N ++ Nt.adN r.t g q (r.f : Int) (r.n + N.length + 1)) = (N ++ Nt.secN r.t (⟨1, g, 0⟩ : PL) r.f q (r.n + N.length + 1)) := by simp [Nt.secN]
 have hXe := hX17
 rw [eN] at hXe
 have eS : (s.set (r.f - 1) ((r.n + N.length + 1 + 2 : Nat) : Int)) = (Nt.secX (⟨1, g, 0⟩ : PL) r.f (r.n + N.length + 1) s) := by simp [Nt.secX]
 have hYe := hY17
 rw [eS] at hYe
 refine ⟨?_, aw, ?_⟩
 ·show Value.int _ _ = Value.int _ _
  first | rfl | (congr 1; simp [Nt.secO, Nt.adN]; omega) | (congr 1; simp [Nt.secO]; omega)
 have hG : BldR 170 (MayB ⟨w, none, F⟩ u) aA bb (⟨⟨r.D.b, r.D.f, r.D.r, r.D.o⟩, ⟨r.W.b, r.W.f, r.W.r, r.W.o⟩, r.n, aw, r.Y, r.o, r.t, r.f + 1⟩ : BL) (N ++ Nt.secN r.t (⟨1, g, 0⟩ : PL) r.f q (r.n + N.length + 1)) (Nt.secX (⟨1, g, 0⟩ : PL) r.f (r.n + N.length + 1) s) := ⟨hB17, aq, hXe, hYe⟩
 exact hG.mono fun b _ hb => hb.elim (fun h9 => .inr (Nat.le_trans hlo h9)) .inl
set_option maxHeartbeats 4000000 in
theorem k_psection2 {u w : World} {F : List Nat} {bb lo : Nat} {r : BL} {N : List (List TL)} {s : List Int} {q z : Int} {g h : Int} (hg0 : -16777216 ≤ g) (hg1 : g ≤ 16777216) (hh0 : -16777216 ≤ h) (hh1 : h ≤ 16777216) (d : Dat u w) (h9 : BldR 170 (· ∈ F) u bb r N s) (hlo : lo ≤ u.heap.size) (hf1 : 1 ≤ r.f) (hfs : r.f + 1 ≤ s.length) (hs : s.length ≤ 100) (hn : r.n ≤ 100) (hN : N.length ≤ 150) (ht : r.t = Nt.p2i z) (hz : z ≤ 23) : Calls Tryz.prog 127 #[.pointer (some ⟨bb, 0, none⟩), (⟨2, g, h⟩ : PL).v, .int .i64 q] w (PostF F u w fun v u' => v = .int .i64 ((Nt.secO (⟨2, g, h⟩ : PL) (r.n + N.length + 1) : Nat) : Int) ∧ ∃ X' : Sl, BldR 170 (fun b => b ∈ F ∨ lo ≤ b) u' bb { r with X := X', f := Nt.secF (⟨2, g, h⟩ : PL) r.f } (N ++ Nt.secN r.t (⟨2, g, h⟩ : PL) r.f q (r.n + N.length + 1)) (Nt.secX (⟨2, g, h⟩ : PL) r.f (r.n + N.length + 1) s)) := by
 obtain ⟨ai, aI, aH, aU⟩ := BldR.free (u0 := u) (w := w) h9
 have aQ : u.heap.size ≤ u.heap.size := Nat.le_refl _
 have hl0 := NodesM.len aH
 refine calls_symF (F := F) (args := [.pointer (some ⟨bb, 0, none⟩), .agg #[.int .i64 2, .int .i64 g, .int .i64 h], .int .i64 q]) Tryz.func127 rfl Tryz.ntmps127 (rs := [.tmp 6]) Tryz.results127 (le_b rfl) (le_b rfl) d ?_
 refine sq9 (zzk 4 ⟨168, [.int .i64 2, .int .i64 g, .int .i64 h]⟩ (zza 6 (zI 0) (zzb (sq9 (zza 15 (.v (.pointer (some ⟨bb, 0, none⟩))) (zza 16 (.v (.pointer (some ⟨bb, 0, none⟩))) (zza 17 (.v (.pointer (some ⟨bb, 13, none⟩))) (zyl 18 (.int .i64 r.f) (zxc (j := 13) ai rfl) ty3 (zza 7 (zI r.f) (zzb (zzd ?_)))))))))))
 refine sq9 (zza 19 (.adr 4 0) (zzi 20 (zI 2) ty3 zzl (zza 21 (zB false) (zzb (zys xj (zzs (zzp ?_)))))))
 refine sq9 (zza 49 (zI r.f) (zyq 50 (x := zI (IntKind.i64.wrap ((r.f : Int) + 1))) (zI (r.f + 1 : Nat)) (eqI yq) (zza 10 (zI (r.f + 1 : Nat)) (zzb (sq9 (zza 51 (.v (.pointer (some ⟨bb, 0, none⟩))) (zza 52 (.v (.pointer (some ⟨bb, 0, none⟩))) (zza 53 (.v (.pointer (some ⟨bb, 13, none⟩))) (zyl 54 (.int .i64 r.f) (zxc (j := 13) ai rfl) ty3 (zyq 55 (x := zI (IntKind.i64.wrap ((r.f : Int) + 2))) (zI (r.f + 2 : Nat)) (eqI yq) (zza 56 (.v (.pointer (some ⟨bb, 0, none⟩))) ?_)))))))))))
 refine zza 57 (.v (.pointer (some ⟨bb, 13, none⟩))) (sy_storeD (b := bb) (off := 13) ai aI ty3 (show 13 + 1 ≤ 14 by decide) (fun aG ay af => ?_))
 have aC : aG.heap[bb]? = some (.cells (⟨⟨r.D.b, r.D.f, r.D.r, r.D.o⟩, ⟨r.W.b, r.W.f, r.W.r, r.W.o⟩, r.n, r.X, r.Y, r.o, r.t, r.f + 2⟩ : BL).cs.toArray 170 (0, 0)) := ay
 have hX11 := aH.extB af ai yj yj
 have hY11 := aU.extB af ai yj
 have hz11 := Nat.le_trans aQ af.size
 refine zzb (sq9 (zza 59 (.v (.pointer (some ⟨bb, 0, none⟩))) (zza 60 (.adr 4 1) (zza 61 (.adr 4 2) (zzi 62 (zI h) ty3 zzl (zza 63 (zI r.f) (zza 64 (zI (r.f + 1 : Nat)) ?_)))))))
 have ac : BldR 170 (MayB ⟨w, none, F⟩ u) aG bb (⟨⟨r.D.b, r.D.f, r.D.r, r.D.o⟩, ⟨r.W.b, r.W.f, r.W.r, r.W.o⟩, r.n, r.X, r.Y, r.o, r.t, r.f + 2⟩ : BL) N s := ⟨aC, aI, hX11, hY11⟩
 have hl12 := NodesM.len hX11
 refine zwo (blks bb (⟨⟨r.D.b, r.D.f, r.D.r, r.D.o⟩, ⟨r.W.b, r.W.f, r.W.r, r.W.o⟩, r.n, r.X, r.Y, r.o, r.t, r.f + 2⟩ : BL)) 65 177 [.pointer (some ⟨bb, 0, none⟩), .int .i64 h, .int .i64 r.f, .int .i64 (r.f + 1 : Nat)] (BldR.may ac) (fun w12 u12 aM aN => k_padaptor (lo := aG.heap.size) aN (ac.own.ext aM) aM.size xq xq xq (by first|omega|(simp;omega) | (simp [Nt.adN]; omega))) (fun v12 am az aA => ?_)
 obtain ⟨rfl, aK, aB⟩ := aA
 obtain ⟨aq, au, ad, aD⟩ := aB.back (fun b hb => (BldR.may ac b hb).1) hz11
 have hz12 := Nat.le_trans hz11 az.size
 have hl12b := NodesM.len ad
 refine zza 58 (.v (.tuple #[.int .i64 (r.n + N.length + 1 + 1 : Nat), .int .i64 (r.n + N.length + 1 + 2 : Nat)])) (zza 66 (zI (r.n + N.length + 1 + 1 : Nat)) (zza 67 (zI (r.n + N.length + 1 + 2 : Nat)) (zza 11 (zI (r.n + N.length + 1 + 1 : Nat)) (zza 12 (zI (r.n + N.length + 1 + 2 : Nat)) (zzc 97 [(0, .v (.pointer (some ⟨bb, 0, none⟩))), (2, zI q), (4, .adr 4 0), (7, zI r.f), (10, zI (r.f + 1 : Nat)), (11, zI (r.n + N.length + 1 + 1 : Nat)), (12, zI (r.n + N.length + 1 + 2 : Nat))] [(4, ⟨168, [.int .i64 2, .int .i64 g, .int .i64 h]⟩)] (sq9 (zza 69 (.v (.pointer (some ⟨bb, 0, none⟩))) (zza 70 (.adr 4 1) (zza 71 (.adr 4 1) (zzi 72 (zI g) ty3 zzl (zza 73 (zI q) ?_)))))))))))
 refine zza 74 (zI (r.n + N.length + 1 + 1 : Nat)) ?_
 have ab : BldR 170 (MayB ⟨w, none, F⟩ u) am bb (⟨⟨r.D.b, r.D.f, r.D.r, r.D.o⟩, ⟨r.W.b, r.W.f, r.W.r, r.W.o⟩, r.n, aK, r.Y, r.o, r.t, r.f + 2⟩ : BL) (N ++ Nt.adN r.t h (r.f : Int) ((r.f + 1 : Nat) : Int) (r.n + N.length + 1)) s := ⟨aq, au, ad, aD⟩
 have hl13 := NodesM.len ad
 refine zwo (blks bb (⟨⟨r.D.b, r.D.f, r.D.r, r.D.o⟩, ⟨r.W.b, r.W.f, r.W.r, r.W.o⟩, r.n, aK, r.Y, r.o, r.t, r.f + 2⟩ : BL)) 75 177 [.pointer (some ⟨bb, 0, none⟩), .int .i64 g, .int .i64 q, .int .i64 (r.n + N.length + 1 + 1 : Nat)] (BldR.may ab) (fun w13 u13 aJ aP => k_padaptor (lo := am.heap.size) aP (ab.own.ext aJ) aJ.size xq xq xq (by first|omega|(simp;omega) | (simp [Nt.adN]; omega))) (fun v13 aS ap ax => ?_)
 obtain ⟨rfl, aL, av⟩ := ax
 obtain ⟨ag, aE, an, aa⟩ := av.back (fun b hb => (BldR.may ab b hb).1) hz12
 have hz13 := Nat.le_trans hz12 ap.size
 have hl13b := NodesM.len an
 refine zza 68 (.v (.tuple #[.int .i64 ((r.n + (N ++ Nt.adN r.t h (r.f : Int) ((r.f + 1 : Nat) : Int) (r.n + N.length + 1)).length + 1 + 1 : Nat) : Int), .int .i64 ((r.n + (N ++ Nt.adN r.t h (r.f : Int) ((r.f + 1 : Nat) : Int) (r.n + N.length + 1)).length + 1 + 2 : Nat) : Int)])) (zza 76 (zI ((r.n + (N ++ Nt.adN r.t h (r.f : Int) ((r.f + 1 : Nat) : Int) (r.n + N.length + 1)).length + 1 + 1 : Nat) : Int)) (zza 77 (zI ((r.n + (N ++ Nt.adN r.t h (r.f : Int) ((r.f + 1 : Nat) : Int) (r.n + N.length + 1)).length + 1 + 2 : Nat) : Int)) (zza 13 (zI ((r.n + (N ++ Nt.adN r.t h (r.f : Int) ((r.f + 1 : Nat) : Int) (r.n + N.length + 1)).length + 1 + 1 : Nat) : Int)) (zza 14 (zI ((r.n + (N ++ Nt.adN r.t h (r.f : Int) ((r.f + 1 : Nat) : Int) (r.n + N.length + 1)).length + 1 + 2 : Nat) : Int)) (zzb (sq9 (zza 78 (.v (.pointer (some ⟨bb, 0, none⟩))) (zza 79 (.v (.pointer (some ⟨bb, 0, none⟩))) (zza 80 (.v (.pointer (some ⟨bb, 0, none⟩))) (zza 81 (.v (.pointer (some ⟨bb, 10, none⟩))) (zyl 82 (r.Y.v) (zxc (j := 10) ag rfl) ty22 ?_)))))))))))
 refine zza 83 (zI r.f) (zyq 84 (x := zI (IntKind.i64.wrap ((r.f : Int) - 1))) (zI (r.f - 1 : Nat)) (eqI yq) (zza 85 (zI ((r.n + (N ++ Nt.adN r.t h (r.f : Int) ((r.f + 1 : Nat) : Int) (r.n + N.length + 1)).length + 1 + 2 : Nat) : Int)) ?_))
 obtain ⟨b14, ah, aO⟩ := MutL.cell (j := r.f - 1) aa.toL (by rw [zwm]; first | omega | (simp only [List.length_set]; omega))
 refine zya 86 (0 + (r.f - 1) * 1) (n := r.Y.n) (off := 0) (sz := 1) (i := ((r.f - 1 : Nat) : Int)) xq ah xq (by have h9 : (ics s).length = r.Y.n * 1 := aa.1; rw [zwm] at h9; have h8 : r.f - 1 < s.length := (by first | omega | (simp only [List.length_set]; omega)); omega) sl22 (sy_storeX (z := ((r.n + (N ++ Nt.adN r.t h (r.f : Int) ((r.f + 1 : Nat) : Int) (r.n + N.length + 1)).length + 1 + 2 : Nat) : Int)) (i := r.f - 1) (l := s) r.Y aa ah ty3 (by first | omega | (simp only [List.length_set]; omega)) (fun u15 ae aF aj => ?_))
 have hB15 := aj _ _ _ yj ag
 have hX15 := an.keep aj yj yj
 have hz15 := Nat.le_trans hz13 aF
 refine zzb (sq9 (zza 87 (.v (.pointer (some ⟨bb, 0, none⟩))) (zza 88 (.v (.pointer (some ⟨bb, 0, none⟩))) (zza 89 (.v (.pointer (some ⟨bb, 0, none⟩))) (zza 90 (.v (.pointer (some ⟨bb, 10, none⟩))) (zyl 91 (r.Y.v) (zxc (j := 10) hB15 rfl) ty22 (zza 92 (zI (r.f + 1 : Nat)) (zyq 93 (x := zI (IntKind.i64.wrap (((r.f + 1 : Nat) : Int) - 1))) (zI (((r.f + 1) - 1 : Nat) : Int)) (eqI yq) (zza 94 (zI (r.n + N.length + 1 + 2 : Nat)) ?_)))))))))
 obtain ⟨b16, al, aT⟩ := MutL.cell (j := (r.f + 1) - 1) ae.toL (by rw [zwm]; first | omega | (simp only [List.length_set]; omega))
 refine zya 95 (0 + ((r.f + 1) - 1) * 1) (n := r.Y.n) (off := 0) (sz := 1) (i := (((r.f + 1) - 1 : Nat) : Int)) xq al xq (by have h9 : (ics (s.set (r.f - 1) ((r.n + (N ++ Nt.adN r.t h (r.f : Int) ((r.f + 1 : Nat) : Int) (r.n + N.length + 1)).length + 1 + 2 : Nat) : Int))).length = r.Y.n * 1 := ae.1; rw [zwm] at h9; have h8 : (r.f + 1) - 1 < (s.set (r.f - 1) ((r.n + (N ++ Nt.adN r.t h (r.f : Int) ((r.f + 1 : Nat) : Int) (r.n + N.length + 1)).length + 1 + 2 : Nat) : Int)).length := (by first | omega | (simp only [List.length_set]; omega)); omega) sl22 (sy_storeX (z := ((r.n + N.length + 1 + 2 : Nat) : Int)) (i := (r.f + 1) - 1) (l := (s.set (r.f - 1) ((r.n + (N ++ Nt.adN r.t h (r.f : Int) ((r.f + 1 : Nat) : Int) (r.n + N.length + 1)).length + 1 + 2 : Nat) : Int))) r.Y ae al ty3 (by first | omega | (simp only [List.length_set]; omega)) (fun u17 aw ar ak => ?_))
 have hB17 := ak _ _ _ yj hB15
 have hX17 := hX15.keep ak yj yj
 have hz17 := Nat.le_trans hz15 ar
 refine zzc 97 [(13, zI ((r.n + (N ++ Nt.adN r.t h (r.f : Int) ((r.f + 1 : Nat) : Int) (r.n + N.length + 1)).length + 1 + 1 : Nat) : Int))] [] (sq9 (zza 96 (zI ((r.n + (N ++ Nt.adN r.t h (r.f : Int) ((r.f + 1 : Nat) : Int) (r.n + N.length + 1)).length + 1 + 1 : Nat) : Int)) (zza 6 (zI ((r.n + (N ++ Nt.adN r.t h (r.f : Int) ((r.f + 1 : Nat) : Int) (r.n + N.length + 1)).length + 1 + 1 : Nat) : Int)) (zzb (zzo (ret0 [.int .i64 ((r.n + (N ++ Nt.adN r.t h (r.f : Int) ((r.f + 1 : Nat) : Int) (r.n + N.length + 1)).length + 1 + 1 : Nat) : Int)] ⟨zzq, trivial⟩ fun aR ao => ?_))))))
 have hB20 := ao.cells hB17
 have hX20 := hX17.ext ao
 have hY20 := aw.ext ao
 have hz20 := Nat.le_trans hz17 ao.size
 have eN : ((N ++ Nt.adN r.t h (r.f : Int) ((r.f + 1 : Nat) : Int) (r.n + N.length + 1)) ++ Nt.adN r.t g q ((r.n + N.length + 1 + 1 : Nat) : Int) (r.n + (N ++ Nt.adN r.t h (r.f : Int) ((r.f + 1 : Nat) : Int) (r.n + N.length + 1)).length + 1)) = (N ++ Nt.secN r.t (⟨2, g, h⟩ : PL) r.f q (r.n + N.length + 1)) := by (rw [show r.n + (N ++ Nt.adN r.t h (r.f : Int) ((r.f + 1 : Nat) : Int) (r.n + N.length + 1)).length + 1 = r.n + N.length + 1 + 3 by rw [List.length_append, Nt.adN_len]; omega]; simp [Nt.secN, Nt.adN])
 have hXe := hX20
 rw [eN] at hXe
 have eS : ((s.set (r.f - 1) ((r.n + (N ++ Nt.adN r.t h (r.f : Int) ((r.f + 1 : Nat) : Int) (r.n + N.length + 1)).length + 1 + 2 : Nat) : Int)).set ((r.f + 1) - 1) ((r.n + N.length + 1 + 2 : Nat) : Int)) = (Nt.secX (⟨2, g, h⟩ : PL) r.f (r.n + N.length + 1) s) := by (rw [show r.n + (N ++ Nt.adN r.t h (r.f : Int) ((r.f + 1 : Nat) : Int) (r.n + N.length + 1)).length + 1 = r.n + N.length + 1 + 3 by rw [List.length_append, Nt.adN_len]; omega]; unfold Nt.secX; rw [if_neg (show ¬ ((2 : Int) = 1) by decide)]; rfl)
 have hYe := hY20
 rw [eS] at hYe
 refine ⟨?_, aL, ?_⟩
 ·show Value.int _ _ = Value.int _ _
  first | rfl | (congr 1; simp [Nt.secO, Nt.adN]; omega) | (congr 1; simp [Nt.secO]; omega)
 have hG : BldR 170 (MayB ⟨w, none, F⟩ u) aR bb (⟨⟨r.D.b, r.D.f, r.D.r, r.D.o⟩, ⟨r.W.b, r.W.f, r.W.r, r.W.o⟩, r.n, aL, r.Y, r.o, r.t, r.f + 2⟩ : BL) (N ++ Nt.secN r.t (⟨2, g, h⟩ : PL) r.f q (r.n + N.length + 1)) (Nt.secX (⟨2, g, h⟩ : PL) r.f (r.n + N.length + 1) s) := ⟨hB20, aE, hXe, hYe⟩
 exact hG.mono fun b _ hb => hb.elim (fun h9 => .inr (Nat.le_trans hlo h9)) .inl
namespace Nt
def ordN (p : PL) : Nat := if p.o = 1 then 1 else 2
end Nt
theorem pas_b24 {f g : Int} (hf : f ≤ 24) (h0 : -Nt.p2i f < g) (h1 : g < Nt.p2i f) : -16777216 ≤ g ∧ g ≤ 16777216 := by
 have := Nt.p2i_24 hf
 omega
theorem k_psection {u w : World} {F : List Nat} {bb lo : Nat} {r : BL} {N : List (List TL)} {s : List Int} {q f : Int} {p : PL} (hp : PasOK f p) (hf : f ≤ 23) (ht : r.t = Nt.p2i f) (d : Dat u w) (h : BldR 170 (· ∈ F) u bb r N s) (hlo : lo ≤ u.heap.size) (hf1 : 1 ≤ r.f) (hfs : r.f + Nt.ordN p ≤ s.length + 1) (hs : s.length ≤ 100) (hn : r.n ≤ 100) (hN : N.length ≤ 150) : Calls Tryz.prog 127 #[.pointer (some ⟨bb, 0, none⟩), p.v, .int .i64 q] w (PostF F u w fun v u' => v = .int .i64 ((Nt.secO p (r.n + N.length + 1) : Nat) : Int) ∧ ∃ X' : Sl, BldR 170 (fun b => b ∈ F ∨ lo ≤ b) u' bb { r with X := X', f := Nt.secF p r.f } (N ++ Nt.secN r.t p r.f q (r.n + N.length + 1)) (Nt.secX p r.f (r.n + N.length + 1) s)) := by
 rcases pas_split hp with ⟨g, rfl, h1, h2⟩ | ⟨g, h', rfl, h1, h2, h3, h4⟩
 ·have hb := pas_b24 xq h1 h2
  exact k_psection1 hb.1 hb.2 d h hlo hf1 (by have h8 : r.f + 1 ≤ s.length + 1 := hfs; omega) hs hn hN ht hf
 have hb := pas_b24 xq h1 h2
 have hc := pas_b24 xq h3 h4
 exact k_psection2 hb.1 hb.2 hc.1 hc.2 d h hlo hf1 (by have h8 : r.f + 2 ≤ s.length + 1 := hfs; omega) hs hn hN ht hf
namespace Nt
structure WS where
 N : List (List TL)
 s : List Int
 f : Nat
 u : Int
def wsS (n : Nat) (U : Int) (L : List PL) (st : WS) : Nat → WS
 | 0 => st
 | i + 1 => ⟨(wsS n U L st i).N ++ secN U (L.getD i pl0) (wsS n U L st i).f (wsS n U L st i).u (n + (wsS n U L st i).N.length + 1), secX (L.getD i pl0) (wsS n U L st i).f (n + (wsS n U L st i).N.length + 1) (wsS n U L st i).s, secF (L.getD i pl0) (wsS n U L st i).f, ((secO (L.getD i pl0) (n + (wsS n U L st i).N.length + 1) : Nat) : Int)⟩
def ordS (L : List PL) : Nat → Nat
 | 0 => 0
 | i + 1 => ordS L i + ordN (L.getD i pl0)
variable {n : Nat} {U : Int} {L : List PL} {st : WS}
theorem ordN_le (p : PL) : 1 ≤ ordN p ∧ ordN p ≤ 2 := by unfold ordN; split <;> omega
theorem ordS_le (L : List PL) (i : Nat) : ordS L i ≤ 2 * i := by
 induction i with
 | zero => exact Nat.le_refl _
 | succ i ih => have := ordN_le (L.getD i pl0); show ordS L i + _ ≤ _; omega
theorem ordS_mono (L : List PL) {i j : Nat} (h : i ≤ j) : ordS L i ≤ ordS L j := by
 induction j with
 | zero => obtain rfl : i = 0 := by omega
           exact Nat.le_refl _
 | succ j ih =>
  rcases Nat.lt_or_ge j i with h9 | h9
  ·obtain rfl : i = j + 1 := by omega
   exact Nat.le_refl _
  exact Nat.le_trans (ih h9) (Nat.le_add_right _ _)
theorem ws_f (i : Nat) : (wsS n U L st i).f = st.f + ordS L i := by
 induction i with
 | zero => rfl
 | succ i ih =>
  show secF _ (wsS n U L st i).f = st.f + (ordS L i + ordN _)
  unfold secF ordN
  split <;> omega
theorem ws_s (i : Nat) : (wsS n U L st i).s.length = st.s.length := by
 induction i with
 | zero => rfl
 | succ i ih =>
  show (secX _ _ _ (wsS n U L st i).s).length = _
  unfold secX
  split <;> simp [ih]
theorem secN_len (U : Int) (p : PL) (f : Nat) (u : Int) (m : Nat) : (secN U p f u m).length ≤ 6 := by
 unfold secN
 split <;> simp [adN]
theorem ws_N (i : Nat) : (wsS n U L st i).N.length ≤ st.N.length + 6 * i := by
 induction i with
 | zero => exact Nat.le_refl _
 | succ i ih =>
  show ((wsS n U L st i).N ++ secN _ _ _ _ _).length ≤ _
  rw [List.length_append]
  have := secN_len U (L.getD i pl0) (wsS n U L st i).f (wsS n U L st i).u (n + (wsS n U L st i).N.length + 1)
  omega
end Nt
def wvN (L M : List PL) : Nat := Nt.ordS L L.length + Nt.ordS M M.length
def wvT (U : Int) (L M : List PL) : Nt.WS := Nt.wsS (wvN L M) U L ⟨[], List.replicate (wvN L M) 0, 1, 0⟩ L.length
def wvB (U : Int) (L M : List PL) : Nt.WS := Nt.wsS (wvN L M) U M ⟨(wvT U L M).N, (wvT U L M).s, (wvT U L M).f, 0⟩ M.length
def wvO (U : Int) (L M : List PL) (c : Bool) : List (List TL) := (wvB U L M).N ++ [[⟨(wvT U L M).u, U.tdiv 2⟩, ⟨(wvB U L M).u, if c then -(U.tdiv 2) else U.tdiv 2⟩]]
namespace Nt
def SecV (V : Nat → Rat) (F : Int) (p : PL) (f u m : Nat) : Prop :=
 (p.o = 1 → V m = wq p.g F * (V f - V u) ∧ V (m + 1) = V m + V f ∧ V (m + 2) = V m + V u) ∧
 (p.o ≠ 1 → V m = wq p.h F * (V (f + 1) - V f) ∧ V (m + 1) = V m + V (f + 1) ∧ V (m + 2) = V m + V f ∧ V (m + 3) = wq p.g F * (V (m + 1) - V u) ∧ V (m + 4) = V (m + 3) + V (m + 1) ∧ V (m + 5) = V (m + 3) + V u)
section
variable {F : Int} {N : List (List TL)} {n k0 f m u i j t o k : Nat} {p : PL} {V : Nat → Rat} {U x g : Int} {L M : List PL} {st : WS} {nx : List Int} {p0 : Nat → Rat}
theorem ad_ve (hV : VE (UQ F) N n V) (hk : k0 + 3 ≤ N.length) (hm : m = 1 + n + k0) (hx : 0 ≤ x) (hu : 0 ≤ U) (h : ∀ r, r < 3 → N.getD (k0 + r) [] = (adN (p2i F) g U x m).getD r []) : V m = wq g F * (V x.toNat - V U.toNat) ∧ V (m + 1) = V m + V x.toNat ∧ V (m + 2) = V m + V U.toNat := by
 have u1 : UQ F * (UQ F)⁻¹ = 1 := Rat.mul_inv_cancel _ (UQ_ne F)
 have h0 := hV k0 xq
 have h1 := hV (k0 + 1) xq
 have h2 := hV (k0 + 2) xq
 have g0 := h 0 xq
 rw [Nat.add_zero] at g0
 rw [g0] at h0
 rw [h 1 xq] at h1
 rw [h 2 xq] at h2
 have e0 : V (1 + n + k0) = (0 + ((-g : Int) : Rat) * V U.toNat + ((g : Int) : Rat) * V x.toNat) / UQ F := h0
 have e1 : V (1 + n + (k0 + 1)) = (0 + UQ F * V ((m : Int).toNat) + UQ F * V x.toNat) / UQ F := h1
 have e2 : V (1 + n + (k0 + 2)) = (0 + UQ F * V ((m : Int).toNat) + UQ F * V U.toNat) / UQ F := h2
 rw [Int.toNat_natCast] at e1 e2
 have d : wq g F = (g : Rat) * (UQ F)⁻¹ := Rat.div_def _ _
 rw [Rat.div_def] at e0 e1 e2
 rw [Rat.intCast_neg] at e0
 rw [show 1 + n + k0 = m from hm.symm] at e0
 rw [show 1 + n + (k0 + 1) = m + 1 by omega] at e1
 rw [show 1 + n + (k0 + 2) = m + 2 by omega] at e2
 refine ⟨by rw [d]; grind, by grind, by grind⟩
theorem sec_ve (hV : VE (UQ F) N n V) (hk : k0 + (secN (p2i F) p f U m).length ≤ N.length) (hm : m = 1 + n + k0) (hu : 0 ≤ U) (h : ∀ r, r < (secN (p2i F) p f U m).length → N.getD (k0 + r) [] = (secN (p2i F) p f U m).getD r []) : SecV V F p f U.toNat m := by
 refine ⟨fun e => ?_, fun e => ?_⟩
 ·have e2 : secN (p2i F) p f U m = adN (p2i F) p.g U (f : Int) m := by unfold secN; rw [if_pos e]
  rw [e2] at hk h
  have := ad_ve (g := p.g) (x := (f : Int)) hV hk hm xq hu h
  rw [Int.toNat_natCast] at this
  exact this
 have e2 : secN (p2i F) p f U m = adN (p2i F) p.h (f : Int) ((f + 1 : Nat) : Int) m ++ adN (p2i F) p.g U ((m + 1 : Nat) : Int) (m + 3) := by unfold secN; rw [if_neg e]
 rw [e2] at hk h
 have hk : k0 + 6 ≤ N.length := hk
 have a1 := ad_ve (g := p.h) (x := ((f + 1 : Nat) : Int)) (U := (f : Int)) (m := m) hV xq hm xq xq (fun r hr => by
  rw [h r (by show r < 6; omega)]
  exact getD_appl (by show r < 3; exact hr))
 have a2 := ad_ve (g := p.g) (x := ((m + 1 : Nat) : Int)) (U := U) (m := m + 3) (k0 := k0 + 3) hV xq xq xq hu (fun r hr => by
  rw [show k0 + 3 + r = k0 + (3 + r) by omega, h (3 + r) (by show 3 + r < 6; omega), List.getD_eq_getElem?_getD, List.getElem?_append_right (by show 3 ≤ 3 + r; omega), show 3 + r - (adN (p2i F) p.h (f : Int) ((f + 1 : Nat) : Int) m).length = r by show 3 + r - 3 = r; omega, ← List.getD_eq_getElem?_getD])
 rw [Int.toNat_natCast, Int.toNat_natCast] at a1
 rw [Int.toNat_natCast] at a2
 exact ⟨a1.1, a1.2.1, a1.2.2, a2.1, a2.2.1, a2.2.2⟩
theorem SecV.zero (h : SecV V F p f u m) (hf : V f = 0) (hf1 : p.o ≠ 1 → V (f + 1) = 0) (hu : V u = 0) : V (secO p m) = 0 ∧ V (m + 2) = 0 ∧ (p.o ≠ 1 → V (m + 5) = 0) := by
 by_cases e : p.o = 1
 ·obtain ⟨a, b, c⟩ := h.1 e
  unfold secO
  rw [if_pos e, b, c, a, hf, hu]
  exact ⟨by grind, by grind, fun k => absurd e k⟩
 obtain ⟨a, b, c, d, d2, d3⟩ := h.2 e
 have hf1 := hf1 e
 unfold secO
 rw [if_neg e, d2, c, d, b, a, hf, hu, hf1]
 exact ⟨by grind, by grind, fun _ => by rw [d3, d, b, a, hf, hu, hf1]; grind⟩
structure Br (F : Int) (N : List (List TL)) (n : Nat) (nx : List Int) (L : List PL) (st : WS) : Prop where
 sec : ∀ i, i < L.length → ∀ V, VE (UQ F) N n V → SecV V F (L.getD i pl0) (wsS n (p2i F) L st i).f (wsS n (p2i F) L st i).u.toNat (n + (wsS n (p2i F) L st i).N.length + 1)
 nx1 : ∀ i, i < L.length → (L.getD i pl0).o = 1 → nx.getD ((wsS n (p2i F) L st i).f - 1) 0 = ((n + (wsS n (p2i F) L st i).N.length + 1 + 2 : Nat) : Int)
 nx2 : ∀ i, i < L.length → (L.getD i pl0).o ≠ 1 → nx.getD ((wsS n (p2i F) L st i).f - 1) 0 = ((n + (wsS n (p2i F) L st i).N.length + 1 + 5 : Nat) : Int) ∧ nx.getD (wsS n (p2i F) L st i).f 0 = ((n + (wsS n (p2i F) L st i).N.length + 1 + 2 : Nat) : Int)
 f1 : 1 ≤ st.f
 fn : st.f - 1 + ordS L L.length ≤ n
 u0 : st.u = 0
theorem ws_u (i : Nat) : (wsS n U L st (i + 1)).u.toNat = secO (L.getD i pl0) (n + (wsS n U L st i).N.length + 1) := Int.toNat_natCast _
theorem secA_3 (F : Int) (p : PL) : ∀ i, 3 ≤ i → co (secA F p) i = 0 := fun i hi => co_ge (Nat.le_trans (sec_len F p).2 hi)
theorem secB_3 (F : Int) (p : PL) : ∀ i, 3 ≤ i → co (secB F p) i = 0 := fun i hi => co_ge (Nat.le_trans (sec_len F p).1 hi)
variable {W : Nat → Nat → Rat}
theorem sec_run (hs : ∀ t, SecV (W t) F p f u m) (h0 : W 0 f = 0) (h01 : p.o ≠ 1 → W 0 (f + 1) = 0) (h1 : p.o = 1 → ∀ t, W (t + 1) f = W t (m + 2)) (h2 : p.o ≠ 1 → ∀ t, W (t + 1) f = W t (m + 5) ∧ W (t + 1) (f + 1) = W t (m + 2)) (t : Nat) : cv (co (secA F p)) (fun t => W t (secO p m)) t = cv (co (secB F p)) (fun t => W t u) t := by
 rw [cv3 (secA_3 F p), cv3 (secB_3 F p)]
 by_cases e : p.o = 1
 ·have h1 := h1 e
  have q0 : secA F p = [((1 : Int) : Rat), -wq p.g F] := by unfold secA; rw [if_pos e]
  have q1 : secB F p = [-wq p.g F, ((1 : Int) : Rat)] := by unfold secB; rw [if_pos e]
  have q2 : secO p m = m + 1 := by unfold secO; rw [if_pos e]
  rw [q0, q1, q2]
  have c1 : co [((1 : Int) : Rat), -wq p.g F] 0 = 1 := rfl
  have c2 : co [((1 : Int) : Rat), -wq p.g F] 1 = -wq p.g F := rfl
  have c3 : co [((1 : Int) : Rat), -wq p.g F] 2 = 0 := rfl
  have c4 : co [-wq p.g F, ((1 : Int) : Rat)] 0 = -wq p.g F := rfl
  have c5 : co [-wq p.g F, ((1 : Int) : Rat)] 1 = 1 := rfl
  have c6 : co [-wq p.g F, ((1 : Int) : Rat)] 2 = 0 := rfl
  rw [c1, c2, c3, c4, c5, c6]
  cases t with
  | zero =>
   obtain ⟨a, b, c⟩ := (hs 0).1 e
   simp only [sh_0]
   rw [b, a, h0]; grind
  | succ t =>
   obtain ⟨a, b, c⟩ := (hs t).1 e
   obtain ⟨a', b', c'⟩ := (hs (t + 1)).1 e
   have k := h1 t
   simp only [sh_s]
   rw [b', a', k, c, b, a]
   grind
 have h2 := h2 e
 have h01 := h01 e
 have q0 : secA F p = [((1 : Int) : Rat), wq p.h F * (wq p.g F - ((1 : Int) : Rat)), -wq p.g F] := by unfold secA; rw [if_neg e]
 have q1 : secB F p = [-wq p.g F, wq p.h F * (wq p.g F - ((1 : Int) : Rat)), ((1 : Int) : Rat)] := by unfold secB; rw [if_neg e]
 have q2 : secO p m = m + 4 := by unfold secO; rw [if_neg e]
 rw [q0, q1, q2]
 have hs := fun t => (hs t).2 e
 clear q0 q1
 generalize wq p.h F = y at *
 generalize wq p.g F = x at *
 have c1 : co [((1 : Int) : Rat), y * (x - ((1 : Int) : Rat)), -x] 0 = 1 := rfl
 have c2 : co [((1 : Int) : Rat), y * (x - ((1 : Int) : Rat)), -x] 1 = y * (x - 1) := rfl
 have c3 : co [((1 : Int) : Rat), y * (x - ((1 : Int) : Rat)), -x] 2 = -x := rfl
 have c4 : co [-x, y * (x - ((1 : Int) : Rat)), ((1 : Int) : Rat)] 0 = -x := rfl
 have c5 : co [-x, y * (x - ((1 : Int) : Rat)), ((1 : Int) : Rat)] 1 = y * (x - 1) := rfl
 have c6 : co [-x, y * (x - ((1 : Int) : Rat)), ((1 : Int) : Rat)] 2 = 1 := rfl
 rw [c1, c2, c3, c4, c5, c6]
 match t with
 | 0 =>
  obtain ⟨a, b, c, d, d2, d3⟩ := hs 0
  simp only [sh_0]
  rw [d2, d, b, a, h0, h01]; grind
 | 1 =>
  obtain ⟨a, b, c, d, d2, d3⟩ := hs 0
  obtain ⟨a', b', c', d', d2', d3'⟩ := hs 1
  have k := h2 0
  have s1 : ∀ z : Nat → Rat, sh z 1 = z 0 := fun z => rfl
  have s2 : ∀ z : Nat → Rat, sh (sh z) 1 = 0 := fun z => rfl
  simp only [s2]
  simp only [s1]
  rw [d2', d', b', a', k.1, k.2, d3, d2, c, d, b, a, h0, h01]; grind
 | t + 2 =>
  obtain ⟨a, b, c, d, d2, d3⟩ := hs t
  obtain ⟨a', b', c', d', d2', d3'⟩ := hs (t + 1)
  obtain ⟨a'', b'', c'', d'', d2'', d3''⟩ := hs (t + 2)
  have k := h2 t
  have k' := h2 (t + 1)
  have s1 : ∀ z : Nat → Rat, sh z (t + 2) = z (t + 1) := fun z => rfl
  have s2 : ∀ z : Nat → Rat, sh (sh z) (t + 2) = z t := fun z => rfl
  have k1 : W (t + 2) f = W (t + 1) (m + 5) := k'.1
  have k2 : W (t + 2) (f + 1) = W (t + 1) (m + 2) := k'.2
  simp only [s2]
  simp only [s1]
  rw [d2'', d'', b'', a'', k1, k2, d3', d2', c', d', b', a', k.1, k.2, d3, d2, c, d, b, a]; grind
theorem prodA_co (F : Int) (L : List PL) (i : Nat) : co (prodA F L (i + 1)) = cv (co (prodA F L i)) (co (secA F (L.getD i pl0))) := funext fun n => by
 show co (trimQ _) n = _
 rw [trim_co, mul_cv]
 congr 1
 exact funext fun n => trim_co _ n
theorem prodB_co (F : Int) (L : List PL) (i : Nat) : co (prodB F L (i + 1)) = cv (co (prodB F L i)) (co (secB F (L.getD i pl0))) := funext fun n => by
 show co (trimQ _) n = _
 rw [trim_co, mul_cv]
 congr 1
 exact funext fun n => trim_co _ n
theorem Br.fi (h : Br F N n nx L st) (hi : i < L.length) : 1 ≤ (wsS n (p2i F) L st i).f ∧ (wsS n (p2i F) L st i).f - 1 + ordN (L.getD i pl0) ≤ n ∧ (wsS n (p2i F) L st i).f = st.f + ordS L i := by
 have h1 := ws_f (n := n) (U := p2i F) (L := L) (st := st) i
 have h2 := ordS_mono L (i := i + 1) (j := L.length) xq
 have h3 : ordS L (i + 1) = ordS L i + ordN (L.getD i pl0) := rfl
 have := h.f1
 have := h.fn
 omega
theorem ordN_1 (e : p.o = 1) : ordN p = 1 := by unfold ordN; rw [if_pos e]
theorem ordN_2 (e : p.o ≠ 1) : ordN p = 2 := by unfold ordN; rw [if_neg e]
theorem br_run (h : Br F N n nx L st) (hW : Imp (UQ F) N n nx W) : ∀ i, i ≤ L.length → ∀ t, cv (co (prodA F L i)) (fun t => W t (wsS n (p2i F) L st i).u.toNat) t = co (prodB F L i) t := by
 intro i
 induction i with
 | zero =>
  intro _ t
  rw [cv_one t (fun t => by show W t st.u.toNat = _; rw [h.u0]; exact hW.inp t)]; rfl
 | succ i ih =>
  intro hi t
  have ih := funext (ih xq)
  obtain ⟨f1, f2, f3⟩ := h.fi (i := i) xq
  have sr : cv (co (secA F (L.getD i pl0))) (fun t => W t (wsS n (p2i F) L st (i + 1)).u.toNat) = cv (co (secB F (L.getD i pl0))) (fun t => W t (wsS n (p2i F) L st i).u.toNat) := by
   rw [ws_u]
   refine funext fun t => sec_run (fun t => h.sec i xq _ (hW.ve t)) ?_ (fun e => ?_) (fun e t => ?_) (fun e t => ?_) t
   ·have := hW.st0 ((wsS n (p2i F) L st i).f - 1) (by have := (ordN_le (L.getD i pl0)).1; omega)
    rw [show 1 + ((wsS n (p2i F) L st i).f - 1) = (wsS n (p2i F) L st i).f by omega] at this
    exact this
   ·have := hW.st0 (wsS n (p2i F) L st i).f (by have := ordN_2 e; omega)
    rw [Nat.add_comm 1 (wsS n (p2i F) L st i).f] at this
    exact this
   ·have := hW.st t ((wsS n (p2i F) L st i).f - 1) (by have := ordN_1 e; omega)
    rw [show 1 + ((wsS n (p2i F) L st i).f - 1) = (wsS n (p2i F) L st i).f by omega, h.nx1 i xq e, Int.toNat_natCast] at this
    exact this
   have o2 := ordN_2 e
   have a := hW.st t ((wsS n (p2i F) L st i).f - 1) xq
   have b := hW.st t (wsS n (p2i F) L st i).f xq
   have e2 := h.nx2 i xq e
   rw [show 1 + ((wsS n (p2i F) L st i).f - 1) = (wsS n (p2i F) L st i).f by omega, e2.1, Int.toNat_natCast] at a
   rw [Nat.add_comm 1 (wsS n (p2i F) L st i).f, e2.2, Int.toNat_natCast] at b
   exact ⟨a, b⟩
  rw [prodA_co, prodB_co, cv_assoc, sr, ← cv_assoc, cv_comm (co (prodA F L i)), cv_assoc, ih, cv_comm]
theorem br_newt (hb : Back N n) (h : Br F N n nx L st) (hp : Newt (st.f - 1) (lnA (UQ F) N n nx) p0) (hz : ∀ i j, i < st.f - 1 → st.f - 1 ≤ j → j < n → lnA (UQ F) N n nx i j = 0) : ∀ i, i ≤ L.length → Newt ((wsS n (p2i F) L st i).f - 1) (lnA (UQ F) N n nx) (cv p0 (co (prodA F L i))) ∧ (∀ a j, a < (wsS n (p2i F) L st i).f - 1 → (wsS n (p2i F) L st i).f - 1 ≤ j → j < n → lnA (UQ F) N n nx a j = 0) ∧ ∀ j V, VE (UQ F) N n V → V 0 = 0 → (∀ i, i < n → V (1 + i) = if i = j then 1 else 0) → (wsS n (p2i F) L st i).f - 1 ≤ j → V (wsS n (p2i F) L st i).u.toNat = 0 := by
 intro i
 induction i with
 | zero =>
  intro _
  refine ⟨?_, hz, fun j V _ h0 _ _ => by show V st.u.toNat = 0; rw [h.u0]; exact h0⟩
  have e : cv p0 (co (prodA F L 0)) = p0 := funext fun t => by
   rw [cv_one t (fun t => ?_)]
   cases t with
   | zero => rfl
   | succ t => exact (co_ge (by show 1 ≤ t + 1; omega)).trans (if_neg xq).symm
  rw [e]; exact hp
 | succ i ih =>
  intro hi
  obtain ⟨i1, i2, i3⟩ := ih xq
  obtain ⟨f1, f2, f3⟩ := h.fi (i := i) xq
  have fs : (wsS n (p2i F) L st (i + 1)).f = (wsS n (p2i F) L st i).f + ordN (L.getD i pl0) := by
   rw [ws_f, f3]; show _ + (ordS L i + _) = _; omega
  have hu := ws_u (n := n) (U := p2i F) (L := L) (st := st) i
  have hsec := h.sec i xq
  have hx1 := h.nx1 i xq
  have hx2 := h.nx2 i xq
  generalize (wsS n (p2i F) L st i).f = f at *
  generalize (wsS n (p2i F) L st i).u.toNat = u at *
  generalize n + (wsS n (p2i F) L st i).N.length + 1 = m at *
  generalize hpe : L.getD i pl0 = p at *
  have ol := ordN_le p
  -- later states give nothing to the section
  have late : ∀ j V, VE (UQ F) N n V → V 0 = 0 → (∀ i, i < n → V (1 + i) = if i = j then 1 else 0) → f - 1 + ordN p ≤ j → V (secO p m) = 0 ∧ V (m + 2) = 0 ∧ (p.o ≠ 1 → V (m + 5) = 0) := fun j V hV h0 hs hj => by
   refine (hsec V hV).zero ?_ (fun e => ?_) (i3 j V hV h0 hs xq)
   ·rw [show f = 1 + (f - 1) by omega, hs _ xq, if_neg xq]
   have := ordN_2 e
   rw [Nat.add_comm f 1, hs _ xq, if_neg xq]
  refine ⟨?_, fun a j ha hj hjn => ?_, fun j V hV h0 hs hj => ?_⟩
  ·rw [fs, prodA_co, show f + ordN p - 1 = (f - 1) + ordN p by omega, hpe]
   have col : ∀ j, f - 1 ≤ j → ∃ V : Nat → Rat, SecV V F p f u m ∧ V u = 0 ∧ (∀ i, i < n → V (1 + i) = if i = j then 1 else 0) ∧ ∀ a, lnA (UQ F) N n nx a j = V (nx.getD a 0).toNat := fun j hj => by
    obtain ⟨V, v, z, s, l⟩ := lnA_col (U := UQ F) (nx := nx) hb j
    exact ⟨V, hsec V v, i3 j V v z s hj, s, l⟩
   have fin : Newt (ordN p) (mD (f - 1) (lnA (UQ F) N n nx)) (co (secA F p)) := by
    by_cases e : p.o = 1
    ·rw [ordN_1 e]
     have q0 : secA F p = [((1 : Int) : Rat), -wq p.g F] := by unfold secA; rw [if_pos e]
     rw [q0]
     refine newt_1 rfl ?_ (fun i hi => co_ge (by show 2 ≤ i; exact hi))
     obtain ⟨V, v, z, s, l⟩ := col (f - 1) (Nat.le_refl _)
     obtain ⟨a, b, c⟩ := v.1 e
     show -wq p.g F = -lnA (UQ F) N n nx (f - 1 + 0) (f - 1 + 0)
     have sf := s (f - 1) xq
     rw [show 1 + (f - 1) = f by omega, if_pos rfl] at sf
     rw [Nat.add_zero, l, hx1 e, Int.toNat_natCast, c, a, z, sf]; grind
    have o2 := ordN_2 e
    rw [o2]
    have q0 : secA F p = [((1 : Int) : Rat), wq p.h F * (wq p.g F - ((1 : Int) : Rat)), -wq p.g F] := by unfold secA; rw [if_neg e]
    rw [q0]
    have x2 := hx2 e
    obtain ⟨V, v, z, s, l⟩ := col (f - 1) (Nat.le_refl _)
    obtain ⟨a, b, c, d, d2, d3⟩ := v.2 e
    obtain ⟨V', v', z', s', l'⟩ := col f xq
    obtain ⟨a', b', c', d', d2', d3'⟩ := v'.2 e
    have sf := s (f - 1) xq
    have sg := s f xq
    have sf' := s' (f - 1) xq
    have sg' := s' f xq
    rw [show 1 + (f - 1) = f by omega, if_pos rfl] at sf
    rw [Nat.add_comm 1 f, if_neg xq] at sg
    rw [show 1 + (f - 1) = f by omega, if_neg xq] at sf'
    rw [Nat.add_comm 1 f, if_pos rfl] at sg'
    have aa : lnA (UQ F) N n nx (f - 1) (f - 1) = -wq p.g F * wq p.h F := by rw [l, x2.1, Int.toNat_natCast, d3, d, b, a, z, sf, sg]; grind
    have ad : lnA (UQ F) N n nx f (f - 1) = 1 - wq p.h F := by rw [l, x2.2, Int.toNat_natCast, c, a, sf, sg]; grind
    have ac : lnA (UQ F) N n nx (f - 1) f = wq p.g F * (1 + wq p.h F) := by rw [l', x2.1, Int.toNat_natCast, d3', d', b', a', z', sf', sg']; grind
    have ab : lnA (UQ F) N n nx f f = wq p.h F := by rw [l', x2.2, Int.toNat_natCast, c', a', sf', sg']; grind
    have f0 : f - 1 + 0 = f - 1 := rfl
    have f9 : f - 1 + 1 = f := by omega
    refine newt_2 rfl ?_ ?_ (fun i hi => co_ge (by show 3 ≤ i; exact hi))
    ·show wq p.h F * (wq p.g F - ((1 : Int) : Rat)) = -(lnA (UQ F) N n nx (f - 1 + 0) (f - 1 + 0) + lnA (UQ F) N n nx (f - 1 + 1) (f - 1 + 1))
     rw [f0, f9, aa, ab]
     have : ((1 : Int) : Rat) = 1 := rfl
     rw [this]; grind
    show -wq p.g F = lnA (UQ F) N n nx (f - 1 + 0) (f - 1 + 0) * lnA (UQ F) N n nx (f - 1 + 1) (f - 1 + 1) - lnA (UQ F) N n nx (f - 1 + 0) (f - 1 + 1) * lnA (UQ F) N n nx (f - 1 + 1) (f - 1 + 0)
    rw [f0, f9, aa, ab, ac, ad]; grind
   have h9 := i1.step fin (fun a j h1 h2 h3 => i2 a j h1 h2 xq)
   have eb : cv p0 (cv (co (prodA F L i)) (co (secA F p))) = cv (cv p0 (co (prodA F L i))) (co (secA F p)) := funext fun k => (cv_assoc _ _ _ k).symm
   rw [eb]; exact h9
  ·rw [fs] at ha hj
   by_cases ha2 : a < f - 1
   ·exact i2 a j ha2 xq hjn
   obtain ⟨V, v, z, s, l⟩ := lnA_col (U := UQ F) (nx := nx) hb j
   obtain ⟨l1, l2, l3⟩ := late j V v z s xq
   rw [l]
   by_cases e : p.o = 1
   ·have := ordN_1 e
    rw [show a = f - 1 by omega, hx1 e, Int.toNat_natCast]; exact l2
   have := ordN_2 e
   have x2 := hx2 e
   by_cases e3 : a = f - 1
   ·rw [e3, x2.1, Int.toNat_natCast]; exact l3 e
   rw [show a = f by omega, x2.2, Int.toNat_natCast]; exact l2
  rw [fs] at hj
  rw [hu]
  exact (late j V hV h0 hs xq).1
end
end Nt
namespace Nt
variable {n : Nat} {U : Int} {L : List PL} {st : WS}
theorem mem_set' {l : List Int} {i : Nat} {a z : Int} (h : z ∈ l.set i a) : z ∈ l ∨ z = a := List.mem_or_eq_of_mem_set h
end Nt
end Go.Proofs.YtgmkhhfbckjaeaaGreat
