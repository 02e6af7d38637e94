/- Parts of the proof: contracts of functions, each walked once, and plain laws. -/
import Derived.Test.YtgmkhhfbckjaeaaGreatTctE
set_option linter.unusedVariables false
namespace Go.Proofs.YtgmkhhfbckjaeaaGreat
open Go.RowKit
namespace Nt
section
variable {s i j k a b : Nat} {q : Rat} {f : Nat → Nat → Rat} {g h : Nat → Rat}
theorem l0 {x : Option Rat} (hv : (if a < s then (if a < 0 then some (f a b) else none) else if a = s then (if b < 0 then some (g b) else none) else none) = some q) : x = some q := by
 by_cases h1 : a < s
 ·rw [if_pos h1, if_neg (Nat.not_lt_zero a)] at hv; cases hv
 rw [if_neg h1] at hv
 by_cases h2 : a = s
 ·rw [if_pos h2, if_neg (Nat.not_lt_zero b)] at hv; cases hv
 rw [if_neg h2] at hv; cases hv
theorem l1 (hv : (if a < s then (if a < i ∨ a = i ∧ b < 0 then some (f a b) else none) else if a = s then (if b < i then some (g b) else none) else none) = some q) : (if a < s then (if a < i then some (f a b) else none) else if a = s then (if b < i then some (g b) else none) else none) = some q := by
 by_cases h1 : a < s
 ·rw [if_pos h1] at hv ⊢
  by_cases h2 : a < i
  ·rw [if_pos (.inl h2)] at hv; rw [if_pos h2]; exact hv
  rw [if_neg xq] at hv; cases hv
 rw [if_neg h1] at hv ⊢; exact hv
theorem l2 (hi : i < s) (hv : (if a < s then (if a < i ∨ a = i ∧ b < j + 1 then some (f a b) else none) else if a = s then (if b < i then some (g b) else none) else none) = some q) : up2 (fun a b => if a < s then (if a < i ∨ a = i ∧ b < j then some (f a b) else none) else if a = s then (if b < i then some (g b) else none) else none) i j (f i j) a b = some q := by
 unfold up2
 dsimp only
 by_cases h0 : a = i ∧ b = j
 ·rw [if_pos h0]
  rw [if_pos xq, if_pos xq, h0.1, h0.2] at hv; exact hv
 rw [if_neg h0]
 by_cases h1 : a < s
 ·rw [if_pos h1] at hv ⊢
  by_cases h2 : a < i ∨ a = i ∧ b < j
  ·rw [if_pos h2]; rw [if_pos xq] at hv; exact hv
  rw [if_neg xq] at hv; cases hv
 rw [if_neg h1] at hv ⊢; exact hv
theorem l3 (hb : b < s) (hj : j = s) (hv : (if a < s then (if a < i + 1 then some (f a b) else none) else if a = s then (if b < i + 1 then some (g b) else none) else none) = some q) : up2 (fun a b => if a < s then (if a < i ∨ a = i ∧ b < j then some (f a b) else none) else if a = s then (if b < i then some (g b) else none) else none) s i (g i) a b = some q := by
 unfold up2
 dsimp only
 by_cases h0 : a = s ∧ b = i
 ·rw [if_pos h0]
  rw [if_neg xq, if_pos h0.1, if_pos xq, h0.2] at hv; exact hv
 rw [if_neg h0]
 by_cases h1 : a < s
 ·rw [if_pos h1] at hv ⊢
  by_cases h2 : a < i + 1
  ·rw [if_pos h2] at hv; rw [if_pos xq]; exact hv
  rw [if_neg h2] at hv; cases hv
 rw [if_neg h1] at hv ⊢
 by_cases h2 : a = s
 ·rw [if_pos h2] at hv ⊢
  by_cases h3 : b < i
  ·rw [if_pos h3]; rw [if_pos xq] at hv; exact hv
  rw [if_neg xq] at hv; cases hv
 rw [if_neg h2] at hv; cases hv
theorem l4 (hb : b < s) (hi : i = s) (hv : (if a < s then some (f a b) else if a = s then some (g b) else if b < 0 then some (h b) else none) = some q) : (if a < s then (if a < i then some (f a b) else none) else if a = s then (if b < i then some (g b) else none) else none) = some q := by
 by_cases h1 : a < s
 ·rw [if_pos h1] at hv ⊢; rw [if_pos xq]; exact hv
 rw [if_neg h1] at hv ⊢
 by_cases h2 : a = s
 ·rw [if_pos h2] at hv ⊢; rw [if_pos xq]; exact hv
 rw [if_neg h2, if_neg (Nat.not_lt_zero b)] at hv; cases hv
theorem l5 (ha : a < s + 2) (hv : (if a < s then some (f a b) else if a = s then some (g b) else if b < k + 1 then some (h b) else none) = some q) : up2 (fun a b => if a < s then some (f a b) else if a = s then some (g b) else if b < k then some (h b) else none) (s + 1) k (h k) a b = some q := by
 unfold up2
 dsimp only
 by_cases h0 : a = s + 1 ∧ b = k
 ·rw [if_pos h0]
  rw [if_neg xq, if_neg xq, if_pos xq, h0.2] at hv; exact hv
 rw [if_neg h0]
 by_cases h1 : a < s
 ·rw [if_pos h1] at hv ⊢; exact hv
 rw [if_neg h1] at hv ⊢
 by_cases h2 : a = s
 ·rw [if_pos h2] at hv ⊢; exact hv
 rw [if_neg h2] at hv ⊢
 by_cases h3 : b < k
 ·rw [if_pos h3]; rw [if_pos xq] at hv; exact hv
 rw [if_neg xq] at hv; cases hv
end
end Nt
set_option maxHeartbeats 8000000 in
theorem k_nLinear {u w : World} {D W : WL} {s : Nat} {X Y : Sl} {h lo : Nat} {N : List (List TL)} {nx : List Int} {q : Nat} (d : Dat u w) (hN : NodesB lo h u X N) (hY : MutL 1 3 lo u Y (ics nx)) (hok : Nt.NetOK D W s N nx ((q : Nat) : Int)) : Calls Tryz.prog 42 #[.agg #[.int .i64 D.b, .int .i64 D.f, .int .i64 D.r, .int .i64 D.o, .int .i64 W.b, .int .i64 W.f, .int .i64 W.r, .int .i64 W.o, .int .i64 (s : Int), X.v, Y.v, .int .i64 ((q : Nat) : Int)]] w (Post u w fun v u' => ∃ (x y z : Sl) (r : RL) (Rs : List Sl), v = .tuple #[.agg #[x.v, y.v, z.v, .bool r.s, .slice r.m.a r.m.n r.m.c, .slice r.d.a r.d.n r.d.c], .int .i64 0] ∧ MatV u' x s Rs (fun i => rowL s ((Nt.lnA (Nt.UQ W.f) N s nx) i)) 100 ∧ PolN u' y (rowL s (Nt.lnB (Nt.UQ W.f) N s nx)) 100 ∧ PolN u' z (rowL s (Nt.lnC (Nt.UQ W.f) N s ((q : Nat) : Int))) 100 ∧ RatN u' r (Nt.lnD (Nt.UQ W.f) N s ((q : Nat) : Int)) 100) := by
 obtain ⟨La, gA, gB, gC⟩ := id hN
 have hNl := hN.len
 have hD := hok.hd
 have hWc := hok.hw
 have hs64 := hok.hs
 have hn64 := hok.hn
 have hxs := hok.hx
 have hYr := MutL.slr hY
 have hYl : nx.length = Y.n := hYr.1
 have hqq := hok.hq
 have hbx : ∀ z ∈ nx, -9223372036854775808 ≤ z ∧ z ≤ 9223372036854775807 := fun z hz => by
  obtain ⟨j, hj, rfl⟩ := Nt.mem_getD hz
  have h9 := hok.hr j hj
  omega
 have hT1 : ∀ i, i < N.length → (La.getD i sl0).n = (N.getD i []).length ∧ (N.getD i []).length ≤ 64 := fun i hi => ⟨tms_len (gC i hi).1, (hok.ht i hi).1⟩
 obtain ⟨hd1, hd2, hd3, hd4, hd5, hd6, hd7, hd8⟩ := id hD
 obtain ⟨hw1, hw2, hw3, hw4, hw5, hw6, hw7, hw8⟩ := id hWc
 have hpw1 := Nt.zxp W.f
 have hpw2 := Nt.p2i_24 (n := W.f) xq
 have hpd1 := Nt.zxp (D.b - 1)
 have cg : Nt.p2i (D.b - 1) ≤ 8388608 := Nt.zwf (b := 23) xq
 refine zzm (args := [.agg #[.int .i64 D.b, .int .i64 D.f, .int .i64 D.r, .int .i64 D.o, .int .i64 W.b, .int .i64 W.f, .int .i64 W.r, .int .i64 W.o, .int .i64 s, X.v, Y.v, .int .i64 q]]) Tryz.func42 rfl Tryz.ntmps42 (rs := [.cell 2 77, .tmp 3]) Tryz.results42 (le_b rfl) (le_b rfl) d ?_
 refine sq9 (zzk 1 ⟨72, [.int .i64 D.b, .int .i64 D.f, .int .i64 D.r, .int .i64 D.o, .int .i64 W.b, .int .i64 W.f, .int .i64 W.r, .int .i64 W.o, .int .i64 s, X.v, Y.v, .int .i64 q]⟩ (zzk 2 ⟨77, [.slice none 0 0, .slice none 0 0, .slice none 0 0, .bool false, .slice none 0 0, .slice none 0 0]⟩ (zza 3 (zI 0) (zzb (zzd (sq9 (zzi 11 (.v (.agg #[.int .i64 D.b, .int .i64 D.f, .int .i64 D.r, .int .i64 D.o, .int .i64 W.b, .int .i64 W.f, .int .i64 W.r, .int .i64 W.o, .int .i64 s, X.v, Y.v, .int .i64 q])) ty72 zze (zzg 12 105 _ fun _ _ aR ci => Post.mono (k_netValid ci (hN.ext aR) (hY.ext aR) hok) ?_))))))))
 rintro _ b2 bF rfl
 refine zza 13 (zB false) (zzb (zys xj (zzs (zzp ?_))))
 refine sq9 (zza 15 (.adr 1 8) (zzi 16 (zI s) ty3 zzl (zyq 17 (x := zI (IntKind.i64.wrap ((s : Int) + 1))) (zI (s + 1 : Nat)) (eqI yq) (sy_makeF 18 (T := 75) (E := 26) (z := .slice none 0 0) (size := 1) (bytes := 24) (s + 1) ((List.replicate (s + 1) sl0).map Sl.v) xj xj rfl rfl xq yv (made_sls _) (fun aa cb cq ch f15 cE => ?_)))))
 have aW : MutQ 1 26 b2.heap.size cb (⟨some ⟨aa, 0, none⟩, s + 1, s + 1⟩ : Sl) ((List.replicate (s + 1) sl0).map Sl.v) := MutQ.lit ch (by rw [List.length_map, List.length_replicate, Nat.mul_one]) yv cE (nu_sls _)
 refine zza 4 (.v (.slice (some ⟨aa, 0, none⟩) (s + 1) (s + 1))) (zzb (zzd (sq9 (zza 19 (.v (.slice (some ⟨aa, 0, none⟩) (s + 1) (s + 1))) (zza 20 (zI (s + 1 : Nat)) (zza 21 (zI 0) (zzb (zzt (zyn (I := fun bU S' u' => ∃ (i : Nat) (Rc : List Sl), (bU = s + 1 - i) ∧ (i ≤ s + 1) ∧ (S' = St.of 106 [(1, .adr 1 0), (2, .adr 2 0), (4, .v (.slice (some ⟨aa, 0, none⟩) (s + 1) (s + 1))), (20, zI (s + 1 : Nat)), (21, zI i)] [(1, ⟨72, [.int .i64 D.b, .int .i64 D.f, .int .i64 D.r, .int .i64 D.o, .int .i64 W.b, .int .i64 W.f, .int .i64 W.r, .int .i64 W.o, .int .i64 s, X.v, Y.v, .int .i64 q]⟩), (2, ⟨77, [.slice none 0 0, .slice none 0 0, .slice none 0 0, .bool false, .slice none 0 0, .slice none 0 0]⟩)]) ∧ (Ext u u') ∧ (ColQ 26 u.heap.size u' (⟨some ⟨aa, 0, none⟩, s + 1, s + 1⟩ : Sl) (s + 1) Rc (fun j => Nt.colQ (Nt.UQ W.f) N s j) i 100)) (fun m S u1 u2 e h => by obtain ⟨i, Rc, hm, p0, hS, hE, f0⟩ := h; exact ⟨i, Rc, hm, p0, hS, hE.trans e, f0.ext e⟩) _ yz ⟨0, (List.replicate (s + 1) sl0), rfl, Nat.zero_le _, rfl, (aR.t (bF.t cq)), (ColQ.start (MutQ.ext (MutQ.low aW (Ext.size (aR.t bF.ext))) (Ext.refl _)))⟩ ?_)))))))))
 rintro bU _ cz ⟨i, Rc, bY, hi, rfl, ae, cf⟩
 have hxc := ColQ.xn cf
 refine sq9 (zza 22 (zB (decide ((i : Int) < ((s + 1 : Nat) : Int)))) (zzb (zzd (zzu (b := decide ((i : Int) < ((s + 1 : Nat) : Int))) xj (fun am => ?_) (fun am => ?_)))))
 ·have qhb18 := of_decide_eq_true am
  refine zzs (zzp ?_)
  refine zzd (zzt (sq9 (zza 23 (zI i) (zza 5 (zI i) (zzb (zzf (zza 24 (.v (.slice (some ⟨aa, 0, none⟩) (s + 1) (s + 1))) (zza 25 (zI i) (zzi 26 (.v (.agg #[.int .i64 D.b, .int .i64 D.f, .int .i64 D.r, .int .i64 D.o, .int .i64 W.b, .int .i64 W.f, .int .i64 W.r, .int .i64 W.o, .int .i64 s, X.v, Y.v, .int .i64 q])) ty72 zze (zza 27 (zI i) (zzg 28 106 _ fun _ cl ap b3 => Post.mono (k_nSpread (j := i) b3 (hN.ext (ae.trans ap)) (hY.ext (ae.trans ap)) hok xq) ?_)))))))))))
  rintro _ u23 bu ⟨y20, rfl, a0, bl⟩
  have ho26 := (cf.ext (ap.t bu.ext))
  obtain ⟨b26, aH, cC⟩ := ColQ.cell (i := i) ho26 xq
  refine zya 29 (0 + i * 1) (n := s + 1) (off := 0) (sz := 1) (i := (i : Int)) xq aH xq xq sl75 ?_
  have ho27 := (cf.ext (ap.t bu.ext))
  have bf : Sep (⟨some ⟨aa, 0, none⟩, s + 1, s + 1⟩ : Sl) y20 := sep_new (lo := cl.heap.size) ((MutQ.mutL (ColQ.out (ColQ.ext cf ap))).lt rfl) bl
  refine sy_storeQ (v := y20.v) (off := 0 + i * 1) (n := 1) (⟨some ⟨aa, 0, none⟩, s + 1, s + 1⟩ : Sl) (ColQ.out ho27) (MutQ.mayA (ColQ.out ho27) (Nat.le_refl _)) aH ty26 (by rw [List.length_map, ColQ.len ho27]; omega) (nu_sls [y20]) (fun b6 bj ax => ?_)
  have bq : MutQ 1 26 u.heap.size b6 (⟨some ⟨aa, 0, none⟩, s + 1, s + 1⟩ : Sl) ((Rc.set i y20).map Sl.v) := by rw [← setL_map (y := y20) (i := i) (by rw [ColQ.len ho27]; omega)]; exact bj
  have eX27r := ExtX.root ax (MutQ.mutL (ColQ.out ho27)) (ae.t (ap.t bu.ext))
  have hC27 := ColQ.next ho27 bq ax xq a0 bf
  refine zzx ?_
  refine zzp (zzf (zyq 30 (x := zI (IntKind.i64.wrap ((i : Int) + 1))) (zI (i + 1 : Nat)) (eqI yq) (zza 21 (zI (i + 1 : Nat)) (zzx ?_))))
  refine ⟨_, ?_, _, by exact zzv _ _ _, i + 1, (Rc.set i y20), rfl, by omega, rfl, eX27r, hC27⟩
  omega
 have qhb18 := of_decide_eq_false am
 refine zyc (zzp (zzd ?_))
 have hMc : MatV cz (⟨some ⟨aa, 0, none⟩, s + 1, s + 1⟩ : Sl) (s + 1) Rc (fun j => Nt.colQ (Nt.UQ W.f) N s j) 100 := ColQ.matV (by have h9 := cf; rw [show i = s + 1 by omega] at h9; exact h9)
 refine zzf (zza 31 (.adr 1 8) (zzi 32 (zI s) ty3 zzl (zzg 33 107 _ fun _ ad ab bX => Post.mono (k_nZero (n := s) bX xq) ?_)))
 rintro _ u29 b5 ⟨xz, yB, yC, rz, R0, L0, rfl, bE, cj, aC, av, cD⟩
 have hxz := SysE.xn bE
 refine zzk 6 ⟨77, [.slice none 0 0, .slice none 0 0, .slice none 0 0, .bool false, .slice none 0 0, .slice none 0 0]⟩ (zzj ⟨77, [xz.v, yB.v, yC.v] ++ rz.cs⟩ ty77 ?_)
 refine zzb (zzd (sq9 (zza 34 (.adr 1 10) (zzi 35 (.v (Y.v)) ty22 zzl (zza 36 (zI Y.n) (zza 37 (zI 0) (zzb (zzt (zyn (I := fun bO S' u' => ∃ (i2 : Nat) (La : List (List RL)), (bO = Y.n - i2) ∧ (i2 ≤ Y.n) ∧ (La.length = s + 2) ∧ (S' = St.of 106 [(1, .adr 1 0), (2, .adr 2 0), (4, .v (.slice (some ⟨aa, 0, none⟩) (s + 1) (s + 1))), (6, .adr 6 0), (35, .v (Y.v)), (36, zI Y.n), (37, zI i2)] [(1, ⟨72, [.int .i64 D.b, .int .i64 D.f, .int .i64 D.r, .int .i64 D.o, .int .i64 W.b, .int .i64 W.f, .int .i64 W.r, .int .i64 W.o, .int .i64 s, X.v, Y.v, .int .i64 q]⟩), (2, ⟨77, [.slice none 0 0, .slice none 0 0, .slice none 0 0, .bool false, .slice none 0 0, .slice none 0 0]⟩), (6, ⟨77, [xz.v, yB.v, yC.v] ++ rz.cs⟩)]) ∧ (Ext ad u') ∧ (SysE 26 32 ad.heap.size u' xz s R0 La (fun _ => s) (fun a b => if a < s then (if a < i2 then some ((Nt.lnA (Nt.UQ W.f) N s nx) a b) else none) else if a = s then (if b < i2 then some ((Nt.lnB (Nt.UQ W.f) N s nx) b) else none) else none) 100) ∧ (RatN u' rz ((0 : Int) : Rat) 2)) (fun m S u1 u2 e h => by obtain ⟨i2, La, hm, p0, p1, hS, hE, f0, f1⟩ := h; exact ⟨i2, La, hm, p0, p1, hS, hE.trans e, f0.ext e, f1.ext e⟩) _ yz ⟨0, L0, rfl, Nat.zero_le _, cj, rfl, b5.ext, (SysE.congr (SysE.more bE xq) (fun a ha => rfl) (fun a b q _ _ hv => Nt.l0 hv)), cD⟩ ?_)))))))))
 rintro bO _ u32 ⟨i2, La, b0, hi2, hLa, rfl, aU, g0, al⟩
 refine sq9 (zza 38 (zB (decide ((i2 : Int) < (Y.n : Int)))) (zzb (zzd (zzu (b := decide ((i2 : Int) < (Y.n : Int))) xj (fun aj => ?_) (fun aj => ?_)))))
 ·have qhb33 := of_decide_eq_true aj
  refine zzs (zzp ?_)
  refine zzd (zzt (sq9 (zza 39 (zI i2) ?_)))
  have hl34 := ((hYr.ext (ae.trans (ab.trans aU)))).1
  obtain ⟨b34, bQ, bn, bA⟩ := ints_at (hYr.ext (ae.trans (ab.trans aU))) (i := i2) xq
  have hz34 := ints_bd hbx xq i2
  refine zya 40 (bQ + i2 * 1) (n := Y.n) (off := bQ) (sz := 1) (i := (i2 : Int)) xq bn xq xq sl22 (zyl 41 (.int .i64 (nx.getD i2 0)) bA ty3 (zza 7 (zI i2) (zza 8 (zI (nx.getD i2 0)) (zzb (zzd (zzd ?_))))))
  have hrj := hok.hr i2 xq
  obtain ⟨kz, hkz⟩ : ∃ k : Nat, nx.getD i2 0 = (k : Int) := ⟨(nx.getD i2 0).toNat, by omega⟩
  rw [hkz]
  rw [hkz] at hrj
  refine zzf (zza 42 (.adr 1 8) (zzi 43 (zI s) ty3 zzl (zza 44 (zI 0) (zzc 106 [(1, .adr 1 0), (2, .adr 2 0), (4, .v (.slice (some ⟨aa, 0, none⟩) (s + 1) (s + 1))), (6, .adr 6 0), (7, zI i2), (8, zI kz), (35, .v (Y.v)), (36, zI Y.n), (37, zI i2), (43, zI s), (44, zI 0)] [(1, ⟨72, [.int .i64 D.b, .int .i64 D.f, .int .i64 D.r, .int .i64 D.o, .int .i64 W.b, .int .i64 W.f, .int .i64 W.r, .int .i64 W.o, .int .i64 s, X.v, Y.v, .int .i64 q]⟩), (2, ⟨77, [.slice none 0 0, .slice none 0 0, .slice none 0 0, .bool false, .slice none 0 0, .slice none 0 0]⟩), (6, ⟨77, [xz.v, yB.v, yC.v] ++ rz.cs⟩)] (zzt (zyn (I := fun bL S' u' => ∃ (j2 : Nat) (Lb : List (List RL)), (bL = s - j2) ∧ (j2 ≤ s) ∧ (Lb.length = s + 2) ∧ (S' = St.of 106 [(1, .adr 1 0), (2, .adr 2 0), (4, .v (.slice (some ⟨aa, 0, none⟩) (s + 1) (s + 1))), (6, .adr 6 0), (7, zI i2), (8, zI kz), (35, .v (Y.v)), (36, zI Y.n), (37, zI i2), (43, zI s), (44, zI j2)] [(1, ⟨72, [.int .i64 D.b, .int .i64 D.f, .int .i64 D.r, .int .i64 D.o, .int .i64 W.b, .int .i64 W.f, .int .i64 W.r, .int .i64 W.o, .int .i64 s, X.v, Y.v, .int .i64 q]⟩), (2, ⟨77, [.slice none 0 0, .slice none 0 0, .slice none 0 0, .bool false, .slice none 0 0, .slice none 0 0]⟩), (6, ⟨77, [xz.v, yB.v, yC.v] ++ rz.cs⟩)]) ∧ (Ext ad u') ∧ (SysE 26 32 ad.heap.size u' xz s R0 Lb (fun _ => s) (fun a b => if a < s then (if a < i2 ∨ a = i2 ∧ b < j2 then some ((Nt.lnA (Nt.UQ W.f) N s nx) a b) else none) else if a = s then (if b < i2 then some ((Nt.lnB (Nt.UQ W.f) N s nx) b) else none) else none) 100) ∧ (RatN u' rz ((0 : Int) : Rat) 2)) (fun m S u1 u2 e h => by obtain ⟨j2, Lb, hm, p0, p1, hS, hE, f0, f1⟩ := h; exact ⟨j2, Lb, hm, p0, p1, hS, hE.trans e, f0.ext e, f1.ext e⟩) _ yz ⟨0, La, rfl, Nat.zero_le _, hLa, rfl, aU, (SysE.congr g0 (fun a ha => rfl) (fun a b q _ _ hv => Nt.l1 hv)), al⟩ ?_))))))
  rintro bL _ bJ ⟨j2, Lb, cx, hj2, hLb, rfl, af, j0, al⟩
  have hcl := Nt.colQ_len (U := (Nt.UQ W.f)) (N := N) (s := s) (j := j2 + 1)
  refine sq9 (zza 45 (zB (decide ((j2 : Int) < (s : Int)))) (zzb (zzd (zzu (b := decide ((j2 : Int) < (s : Int))) xj (fun an => ?_) (fun an => ?_)))))
  ·have qhb36 := of_decide_eq_true an
   refine zzs (zzp ?_)
   refine zzd (zzt (sq9 (zza 46 (zI j2) (zza 9 (zI j2) (zzb (sw_anyC [0, 1, 0, 7, 15, 0, 0, 0, 128, 448, 960, 0, 4032, 8128, 16320, 32767, 65535] [(0, []), (1, []), (2, []), (3, []), (4, []), (5, []), (6, []), (7, []), (8, []), (9, []), (10, []), (11, []), (12, []), (13, []), (14, [])] [(15, []), (16, [])] xj xj xj ?_))))))
   refine zza 47 (.adr 6 0) (zzi 48 (.v (xz.v)) ty75 zzl (zza 49 (zI i2) ?_))
   have hq37 := j0
   obtain ⟨b37, bo, a1⟩ := SysE.cell (i := i2) hq37 xq
   have hn37 := SysE.xn hq37
   refine zya 50 (0 + i2 * 1) (n := xz.n) (off := 0) (sz := 1) (i := (i2 : Int)) xq bo xq xq sl75 (zyl 51 (.slice (R0.getD i2 sl0).a (R0.getD i2 sl0).n (R0.getD i2 sl0).c) a1 ty26 (zza 52 (zI j2) (zza 53 (.v (.slice (some ⟨aa, 0, none⟩) (s + 1) (s + 1))) (zza 54 (zI j2) (zyq 55 (x := zI (IntKind.i64.wrap ((j2 : Int) + 1))) (zI (j2 + 1 : Nat)) (eqI yq) ?_)))))
   have hn38 := ((hMc.ext (ab.trans af))).1
   obtain ⟨b38, a5, bc⟩ := ((hMc.ext (ab.trans af))).2.1 (j2 + 1) xq
   refine zya 56 (0 + (j2 + 1) * 1) (n := s + 1) (off := 0) (sz := 1) (i := ((j2 + 1 : Nat) : Int)) xq a5 xq yy sl75 ?_
   have ar : PolN bJ (Rc.getD (j2 + 1) sl0) (Nt.colQ (Nt.UQ W.f) N s (j2 + 1)) 100 := ((hMc.ext (ab.trans af))).2.2 (j2 + 1) xq
   refine zyl 57 (.slice (Rc.getD (j2 + 1) sl0).a (Rc.getD (j2 + 1) sl0).n (Rc.getD (j2 + 1) sl0).c) bc ty26 (zza 58 (zI kz) ?_)
   have hl40 := ar.len
   obtain ⟨ca, b40, bH, bp, br, a3⟩ := pol_atN ar (i := kz) xq
   refine zya 59 (bH + kz * 3) (n := (Rc.getD (j2 + 1) sl0).n) (off := bH) (sz := 3) (i := (kz : Int)) xq bp xq xq sl26 (zym 60 ca.cs br ty32 (zzg 61 68 _ fun _ _ aP bZ => Post.mono (k_ratTrim bZ (a3.ext aP).raw xq) ?_))
   rintro _ u44 aS ⟨ay, rfl, cA⟩
   refine zzx ?_
   have hq47 := (SysE.ext j0 (aP.t aS.ext))
   have bm : (Lb.getD i2 []).length = s := (SysE.wid hq47 i2 (by rw [hLb]; omega)).trans rfl
   have hr47 := SysE.row hq47 i2 (by rw [hLb]; omega)
   have hz47 := MutQ.rown hr47
   obtain ⟨b47, aM, ct⟩ := MutQ.el1 (j := j2) hr47 (by rw [bm]; omega)
   refine zya 62 (0 + j2 * 3) (n := (R0.getD i2 sl0).n) (off := 0) (sz := 3) (i := (j2 : Int)) xq aM xq xq sl26 ?_
   have ho48 := (SysE.ext j0 (aP.t aS.ext))
   have aI : (Lb.getD i2 []).length = s := (SysE.wid ho48 i2 (by rw [hLb]; omega)).trans rfl
   have hy48 := SysE.row ho48 i2 (by rw [hLb]; omega)
   refine sy_storeQ (v := ay.v) (off := 0 + j2 * 3) (n := 3) (R0.getD i2 sl0) hy48 (MutQ.mayA hy48 (Ext.size (ae.trans ab))) aM ty32 (by rw [zyy, aI]; omega) (nu_rl ay) (fun cp bi ag => ?_)
   have bs : MutQ (1 * 3) 32 ad.heap.size cp (R0.getD i2 sl0) (rcs ((Lb.getD i2 []).set j2 ay)) := by rw [← zyx (off := 0 + j2 * 3) (by rw [aI]; omega) xq]; exact bi
   have eX48r := ExtX.root ag (MutQ.mutL hy48) (af.t (aP.t aS.ext))
   have hS48 := SysE.store (i := i2) (j := j2) (r := ay) (q := ((Nt.colQ (Nt.UQ W.f) N s (j2 + 1)).getD kz 0)) yj ho48 (by rw [hLb]; omega) (Nat.lt_of_lt_of_eq (show j2 < s by omega) (Eq.symm rfl)) bs ag cA
   obtain ⟨bS, aL⟩ : ∃ Q9, Lb.set i2 ((Lb.getD i2 []).set j2 ay) = Q9 := ⟨_, rfl⟩
   rewrite [aL] at hS48
   have aZ : bS.length = s + 2 := by rw [← aL, List.length_set]; exact hLb
   have hkrz48 := MutQ.keep hy48 ag (al.ext (aP.t aS.ext))
   refine zzx ?_
   refine zzp (zzf (zyq 63 (x := zI (IntKind.i64.wrap ((j2 : Int) + 1))) (zI (j2 + 1 : Nat)) (eqI yq) (zza 44 (zI (j2 + 1 : Nat)) (zzx ?_))))
   refine ⟨_, ?_, _, by exact zzv _ _ _, j2 + 1, bS, rfl, by omega, aZ, rfl, eX48r, (SysE.congr hS48 (fun a ha => rfl) (fun a b q _ hb hv => by rw [show (Nt.colQ (Nt.UQ W.f) N s (j2 + 1)).getD kz 0 = (Nt.lnA (Nt.UQ W.f) N s nx) i2 j2 from by unfold Nt.lnA; rw [hkz]; rfl]; exact Nt.l2 xq hv)), hkrz48⟩
   omega
  have qhb36 := of_decide_eq_false an
  refine zyc (zzp ?_)
  have hcl0 := Nt.colQ_len (U := (Nt.UQ W.f)) (N := N) (s := s) (j := 0)
  refine sw_anyC [0, 1, 0, 0, 8, 24, 0, 120, 248, 504, 1023, 2047] [(0, []), (1, []), (2, []), (3, []), (4, []), (5, []), (6, []), (7, []), (8, []), (9, [])] [(10, []), (11, [])] xj xj xj ?_
  refine zza 64 (.adr 6 1) (zzi 65 (.v (yB.v)) ty26 zzl (zza 66 (zI i2) (zza 67 (.v (.slice (some ⟨aa, 0, none⟩) (s + 1) (s + 1))) ?_)))
  have hn49 := ((hMc.ext (ab.trans af))).1
  obtain ⟨b49, a9, a7⟩ := ((hMc.ext (ab.trans af))).2.1 0 xq
  refine zya 68 (0 + 0 * 1) (n := s + 1) (off := 0) (sz := 1) (i := 0) xq a9 xq yy sl75 ?_
  have aO : PolN bJ (Rc.getD 0 sl0) (Nt.colQ (Nt.UQ W.f) N s 0) 100 := ((hMc.ext (ab.trans af))).2.2 0 xq
  refine zyl 69 (.slice (Rc.getD 0 sl0).a (Rc.getD 0 sl0).n (Rc.getD 0 sl0).c) a7 ty26 (zza 70 (zI kz) ?_)
  have hl51 := aO.len
  obtain ⟨ce, b51, bP, bh, ba, bx⟩ := pol_atN aO (i := kz) xq
  refine zya 71 (bP + kz * 3) (n := (Rc.getD 0 sl0).n) (off := bP) (sz := 3) (i := (kz : Int)) xq bh xq xq sl26 (zym 72 ce.cs ba ty32 (zzg 73 68 _ fun _ _ aw cm => Post.mono (k_ratTrim cm (bx.ext aw).raw xq) ?_))
  rintro _ u55 aT ⟨aJ, rfl, b9⟩
  refine zzx ?_
  have hq58 := (SysE.ext j0 (aw.t aT.ext))
  have aV : (Lb.getD s []).length = s := (SysE.wid hq58 s (by rw [hLb]; omega)).trans rfl
  have hr58 := SysE.row hq58 s (by rw [hLb]; omega)
  rw [aC] at hr58
  have hz58 := MutQ.rown hr58
  obtain ⟨b58, au, b7⟩ := MutQ.el1 (j := i2) hr58 (by rw [aV]; omega)
  refine zya 74 (0 + i2 * 3) (n := yB.n) (off := 0) (sz := 3) (i := (i2 : Int)) xq au xq xq sl26 ?_
  have ho59 := (SysE.ext j0 (aw.t aT.ext))
  have aq : (Lb.getD s []).length = s := (SysE.wid ho59 s (by rw [hLb]; omega)).trans rfl
  have hy59 := SysE.row ho59 s (by rw [hLb]; omega)
  rw [aC] at hy59
  refine sy_storeQ (v := aJ.v) (off := 0 + i2 * 3) (n := 3) yB hy59 (MutQ.mayA hy59 (Ext.size (ae.trans ab))) au ty32 (by rw [zyy, aq]; omega) (nu_rl aJ) (fun cc bw ai => ?_)
  have bv : MutQ (1 * 3) 32 ad.heap.size cc yB (rcs ((Lb.getD s []).set i2 aJ)) := by rw [← zyx (off := 0 + i2 * 3) (by rw [aq]; omega) xq]; exact bw
  have eX59r := ExtX.root ai (MutQ.mutL hy59) (af.t (aw.t aT.ext))
  have hS59 := SysE.store (i := s) (j := i2) (r := aJ) (q := ((Nt.colQ (Nt.UQ W.f) N s 0).getD kz 0)) yj ho59 (by rw [hLb]; omega) (Nat.lt_of_lt_of_eq (show i2 < s by omega) (Eq.symm rfl)) (by rw [aC]; exact bv) (by rw [aC]; exact ai) b9
  obtain ⟨bV, aE⟩ : ∃ Q9, Lb.set s ((Lb.getD s []).set i2 aJ) = Q9 := ⟨_, rfl⟩
  rewrite [aE] at hS59
  have bk : bV.length = s + 2 := by rw [← aE, List.length_set]; exact hLb
  have hkrz59 := MutQ.keep hy59 ai (al.ext (aw.t aT.ext))
  refine zzx ?_
  refine zzp (zzf (zyq 75 (x := zI (IntKind.i64.wrap ((i2 : Int) + 1))) (zI (i2 + 1 : Nat)) (eqI yq) (zza 37 (zI (i2 + 1 : Nat)) (zzx ?_))))
  refine ⟨_, ?_, _, by exact zzv _ _ _, i2 + 1, bV, rfl, by omega, bk, rfl, eX59r, (SysE.congr hS59 (fun a ha => rfl) (fun a b q _ hb hv => by rw [show (Nt.colQ (Nt.UQ W.f) N s 0).getD kz 0 = (Nt.lnB (Nt.UQ W.f) N s nx) i2 from by unfold Nt.lnB; rw [hkz]; rfl]; exact Nt.l3 hb xq hv)), hkrz59⟩
  omega
 have qhb33 := of_decide_eq_false aj
 refine zyc (zzp (zzd (sq9 (zza 76 (.adr 1 8) (zzi 77 (zI s) ty3 zzl (zza 78 (zI 0) (zzb (zzt (zyn (I := fun bN S' u' => ∃ (k : Nat) (Lc : List (List RL)), (bN = s - k) ∧ (k ≤ s) ∧ (Lc.length = s + 2) ∧ (S' = St.of 106 [(1, .adr 1 0), (2, .adr 2 0), (4, .v (.slice (some ⟨aa, 0, none⟩) (s + 1) (s + 1))), (6, .adr 6 0), (77, zI s), (78, zI k)] [(1, ⟨72, [.int .i64 D.b, .int .i64 D.f, .int .i64 D.r, .int .i64 D.o, .int .i64 W.b, .int .i64 W.f, .int .i64 W.r, .int .i64 W.o, .int .i64 s, X.v, Y.v, .int .i64 q]⟩), (2, ⟨77, [.slice none 0 0, .slice none 0 0, .slice none 0 0, .bool false, .slice none 0 0, .slice none 0 0]⟩), (6, ⟨77, [xz.v, yB.v, yC.v] ++ rz.cs⟩)]) ∧ (Ext ad u') ∧ (SysE 26 32 ad.heap.size u' xz s R0 Lc (fun _ => s) (fun a b => if a < s then some ((Nt.lnA (Nt.UQ W.f) N s nx) a b) else if a = s then some ((Nt.lnB (Nt.UQ W.f) N s nx) b) else if b < k then some ((Nt.lnC (Nt.UQ W.f) N s ((q : Nat) : Int)) b) else none) 100) ∧ (RatN u' rz ((0 : Int) : Rat) 2)) (fun m S u1 u2 e h => by obtain ⟨k, Lc, hm, p0, p1, hS, hE, f0, f1⟩ := h; exact ⟨k, Lc, hm, p0, p1, hS, hE.trans e, f0.ext e, f1.ext e⟩) _ yz ⟨0, La, rfl, Nat.zero_le _, hLa, rfl, aU, (SysE.congr g0 (fun a ha => rfl) (fun a b q _ hb hv => Nt.l4 hb xq hv)), al⟩ ?_)))))))))
 rintro bN _ bM ⟨k, Lc, cw, hk, hLc, rfl, ah, k0, al⟩
 have hcl := Nt.colQ_len (U := (Nt.UQ W.f)) (N := N) (s := s) (j := k + 1)
 refine sq9 (zza 79 (zB (decide ((k : Int) < (s : Int)))) (zzb (zzd (zzu (b := decide ((k : Int) < (s : Int))) xj (fun ak => ?_) (fun ak => ?_)))))
 ·have qhb61 := of_decide_eq_true ak
  refine zzs (zzp ?_)
  refine zzd (zzt (sq9 (zza 80 (zI k) (zza 10 (zI k) (zzc 106 [(1, .adr 1 0), (2, .adr 2 0), (4, .v (.slice (some ⟨aa, 0, none⟩) (s + 1) (s + 1))), (6, .adr 6 0), (10, zI k), (77, zI s), (78, zI k)] [(1, ⟨72, [.int .i64 D.b, .int .i64 D.f, .int .i64 D.r, .int .i64 D.o, .int .i64 W.b, .int .i64 W.f, .int .i64 W.r, .int .i64 W.o, .int .i64 s, X.v, Y.v, .int .i64 q]⟩), (2, ⟨77, [.slice none 0 0, .slice none 0 0, .slice none 0 0, .bool false, .slice none 0 0, .slice none 0 0]⟩), (6, ⟨77, [xz.v, yB.v, yC.v] ++ rz.cs⟩)] (sw_anyC [0, 1, 0, 0, 0, 16, 56, 120, 0, 256, 1016, 2040, 4088, 8191, 16383] [(0, []), (1, []), (2, []), (3, []), (4, []), (5, []), (6, []), (7, []), (8, []), (9, []), (10, []), (11, []), (12, [])] [(13, []), (14, [])] xj xj xj ?_))))))
  refine zza 81 (.adr 6 2) (zzi 82 (.v (yC.v)) ty26 zzl (zza 83 (zI k) (zza 84 (.v (.slice (some ⟨aa, 0, none⟩) (s + 1) (s + 1))) (zza 85 (zI k) (zyq 86 (x := zI (IntKind.i64.wrap ((k : Int) + 1))) (zI (k + 1 : Nat)) (eqI yq) ?_)))))
  have hn62 := ((hMc.ext (ab.trans ah))).1
  obtain ⟨b62, aX, bb⟩ := ((hMc.ext (ab.trans ah))).2.1 (k + 1) xq
  refine zya 87 (0 + (k + 1) * 1) (n := s + 1) (off := 0) (sz := 1) (i := ((k + 1 : Nat) : Int)) xq aX xq yy sl75 ?_
  have aN : PolN bM (Rc.getD (k + 1) sl0) (Nt.colQ (Nt.UQ W.f) N s (k + 1)) 100 := ((hMc.ext (ab.trans ah))).2.2 (k + 1) xq
  refine zyl 88 (.slice (Rc.getD (k + 1) sl0).a (Rc.getD (k + 1) sl0).n (Rc.getD (k + 1) sl0).c) bb ty26 (zza 89 (.adr 1 11) (zzi 90 (zI q) ty3 zzl ?_))
  have hl64 := aN.len
  obtain ⟨b1, b64, bG, bC, bD, a2⟩ := pol_atN aN (i := q) xq
  refine zya 91 (bG + q * 3) (n := (Rc.getD (k + 1) sl0).n) (off := bG) (sz := 3) (i := (q : Int)) xq bC xq xq sl26 (zym 92 b1.cs bD ty32 (zzg 93 68 _ fun _ _ aG cn => Post.mono (k_ratTrim cn (a2.ext aG).raw xq) ?_))
  rintro _ u68 aQ ⟨aA, rfl, cB⟩
  refine zzx ?_
  have hq71 := (SysE.ext k0 (aG.t aQ.ext))
  have a8 : (Lc.getD (s + 1) []).length = s := (SysE.wid hq71 (s + 1) (by rw [hLc]; omega)).trans rfl
  have hr71 := SysE.row hq71 (s + 1) (by rw [hLc]; omega)
  rw [av] at hr71
  have hz71 := MutQ.rown hr71
  obtain ⟨b71, aK, b8⟩ := MutQ.el1 (j := k) hr71 (by rw [a8]; omega)
  refine zya 94 (0 + k * 3) (n := yC.n) (off := 0) (sz := 3) (i := (k : Int)) xq aK xq xq sl26 ?_
  have ho72 := (SysE.ext k0 (aG.t aQ.ext))
  have aB : (Lc.getD (s + 1) []).length = s := (SysE.wid ho72 (s + 1) (by rw [hLc]; omega)).trans rfl
  have hy72 := SysE.row ho72 (s + 1) (by rw [hLc]; omega)
  rw [av] at hy72
  refine sy_storeQ (v := aA.v) (off := 0 + k * 3) (n := 3) yC hy72 (MutQ.mayA hy72 (Ext.size (ae.trans ab))) aK ty32 (by rw [zyy, aB]; omega) (nu_rl aA) (fun bW a4 ao => ?_)
  have be : MutQ (1 * 3) 32 ad.heap.size bW yC (rcs ((Lc.getD (s + 1) []).set k aA)) := by rw [← zyx (off := 0 + k * 3) (by rw [aB]; omega) xq]; exact a4
  have eX72r := ExtX.root ao (MutQ.mutL hy72) (ah.t (aG.t aQ.ext))
  have hS72 := SysE.store (i := s + 1) (j := k) (r := aA) (q := ((Nt.colQ (Nt.UQ W.f) N s (k + 1)).getD q 0)) yj ho72 (by rw [hLc]; omega) (Nat.lt_of_lt_of_eq (show k < s by omega) (Eq.symm rfl)) (by rw [av]; exact be) (by rw [av]; exact ao) cB
  obtain ⟨bT, aF⟩ : ∃ Q9, Lc.set (s + 1) ((Lc.getD (s + 1) []).set k aA) = Q9 := ⟨_, rfl⟩
  rewrite [aF] at hS72
  have bt : bT.length = s + 2 := by rw [← aF, List.length_set]; exact hLc
  have hkrz72 := MutQ.keep hy72 ao (al.ext (aG.t aQ.ext))
  refine zzx ?_
  refine zzp (zzf (zyq 95 (x := zI (IntKind.i64.wrap ((k : Int) + 1))) (zI (k + 1 : Nat)) (eqI yq) (zza 78 (zI (k + 1 : Nat)) (zzx ?_))))
  refine ⟨_, ?_, _, by exact zzv _ _ _, k + 1, bT, rfl, by omega, bt, rfl, eX72r, (SysE.congr hS72 (fun a ha => rfl) (fun a b q9 ha hb hv => by rw [show (Nt.colQ (Nt.UQ W.f) N s (k + 1)).getD q 0 = (Nt.lnC (Nt.UQ W.f) N s ((q : Nat) : Int)) k from rfl]; exact Nt.l5 xq hv)), hkrz72⟩
  omega
 have qhb61 := of_decide_eq_false ak
 refine zyc (zzp (zzd ?_))
 have hcl0 := Nt.colQ_len (U := (Nt.UQ W.f)) (N := N) (s := s) (j := 0)
 refine zzz [0, 1, 3, 0, 8, 31, 63, 127, 255, 511] [(0, []), (1, []), (2, []), (3, []), (4, []), (5, []), (6, []), (7, []), (8, []), (9, [])] xj xj (zza 96 (.v (.slice (some ⟨aa, 0, none⟩) (s + 1) (s + 1))) ?_)
 have hn73 := ((hMc.ext (ab.trans ah))).1
 obtain ⟨b73, a6, bz⟩ := ((hMc.ext (ab.trans ah))).2.1 0 xq
 refine zya 97 (0 + 0 * 1) (n := s + 1) (off := 0) (sz := 1) (i := 0) xq a6 xq yy sl75 ?_
 have aD : PolN bM (Rc.getD 0 sl0) (Nt.colQ (Nt.UQ W.f) N s 0) 100 := ((hMc.ext (ab.trans ah))).2.2 0 xq
 refine zyl 98 (.slice (Rc.getD 0 sl0).a (Rc.getD 0 sl0).n (Rc.getD 0 sl0).c) bz ty26 (zza 99 (.adr 1 11) (zzi 100 (zI q) ty3 zzl ?_))
 have hl75 := aD.len
 obtain ⟨cy, b75, bK, aY, bg, bB⟩ := pol_atN aD (i := q) xq
 refine zya 101 (bK + q * 3) (n := (Rc.getD 0 sl0).n) (off := bK) (sz := 3) (i := (q : Int)) xq aY xq xq sl26 (zym 102 cy.cs bg ty32 (zzg 103 68 _ fun _ _ bR ck => Post.mono (k_ratTrim ck (bB.ext bR).raw xq) ?_))
 rintro _ u79 cd ⟨ac, rfl, b4⟩
 refine zza 104 (.adr 6 3) (zzj ⟨77, [xz.v, yB.v, yC.v] ++ ac.cs⟩ ty32 ?_)
 refine zzc 106 [(2, .adr 2 0), (6, .adr 6 0)] [(2, ⟨77, [.slice none 0 0, .slice none 0 0, .slice none 0 0, .bool false, .slice none 0 0, .slice none 0 0]⟩), (6, ⟨77, [xz.v, yB.v, yC.v] ++ ac.cs⟩)] (sq9 (zzi 105 (.v (.agg #[xz.v, yB.v, yC.v, .bool ac.s, ac.m.v, ac.d.v])) ty77 zze (zzj ⟨77, [xz.v, yB.v, yC.v] ++ ac.cs⟩ ty77 ?_)))
 refine zza 3 (zI 0) (zzb (zzo (ret0 [.agg #[xz.v, yB.v, yC.v, .bool ac.s, ac.m.v, ac.d.v], .int .i64 0] ⟨zzr ty77 zze, zzq, trivial⟩ fun u82 bI => ?_)))
 have hk9 : s = k := by omega
 have hQ := (SysE.ext k0 (bR.t (cd.t bI)))
 refine ⟨xz, yB, yC, ac, R0, rfl, SysE.matV (f := (Nt.lnA (Nt.UQ W.f) N s nx)) hQ (fun a b ha hb => if_pos ha), ?_, ?_, (b4.ext bI)⟩
 ·have h9 := SysE.pol (i := s) (f := fun _ b => (Nt.lnB (Nt.UQ W.f) N s nx) b) hQ xq (fun b hb => by rw [if_neg (Nat.lt_irrefl s), if_pos rfl])
  rw [aC] at h9; exact h9
 have h9 := SysE.pol (i := s + 1) (f := fun _ b => (Nt.lnC (Nt.UQ W.f) N s ((q : Nat) : Int)) b) hQ xq (fun b hb => by have hb : b < s := hb; rw [if_neg xq, if_neg xq, if_pos xq])
 rw [av] at h9; exact h9
end Go.Proofs.YtgmkhhfbckjaeaaGreat
namespace Go.Proofs.YtgmkhhfbckjaeaaGreat
namespace Nt
section
variable {a b y z x : Nat → Rat} {n m N M i j d : Nat} {k C : Rat}
def sf (i : Nat) (y : Nat → Rat) (n : Nat) : Rat := if n < i then 0 else y (n - i)
def cr (y : Nat → Rat) (T i j : Nat) : Rat := su (fun n => sf i y n * sf j y n) T
def sol (a x : Nat → Rat) : Nat → List Rat
 | 0 => []
 | n + 1 => sol a x n ++ [x n - su (fun i => a (i + 1) * (sol a x n).getD (n - 1 - i) 0) n]
def so (a x : Nat → Rat) (n : Nat) : Rat := (sol a x (n + 1)).getD n 0
def cu (N : Nat) (y : Nat → Rat) (n : Nat) : Rat := if n < N then y n else 0
end
end Nt
namespace Nt
theorem mul_cv (l m : List Rat) (n : Nat) : co (mulQ l m) n = cv (co l) (co m) n := by
 induction l generalizing n with
 | nil => rw [mulQ_nil]; exact (su_0 (fun i _ => by rw [co_nil]; grind)).symm
 | cons a l ih =>
  rw [zxe]
  cases n with
  | zero => rw [cv_0, sh_0, co_zero]; grind
  | succ n => rw [cv_s, sh_s, ih, co_zero]; rfl
end Nt
open Go.RowKit
namespace Nt
section
variable {a b y z : Nat → Rat} {t n : Nat}
theorem cv_h (t : Nat) : cv a y t = a 0 * y t + sh (cv (fun i => a (i + 1)) y) t := by
 cases t with
 | zero => rw [cv_0, sh_0]; grind
 | succ t => rw [cv_s, sh_s]
theorem cv_nul (h : ∀ i, a i = 0) (t : Nat) : cv a y t = 0 := su_0 (fun i _ => by rw [h]; grind)
theorem sh_eq (h : ∀ t, y t = z t) : sh y = sh z := by rw [show y = z from funext h]
theorem cv3 (h : ∀ i, 3 ≤ i → a i = 0) (t : Nat) : cv a y t = a 0 * y t + a 1 * sh y t + a 2 * sh (sh y) t := by
 have e3 : ∀ t, cv (fun i => a (i + 1 + 1 + 1)) y t = 0 := cv_nul (fun i => h _ xq)
 have e2 : ∀ t, cv (fun i => a (i + 1 + 1)) y t = a 2 * y t := fun t => by
  rw [cv_h, sh_eq (z := fun _ => 0) e3]
  cases t with
  | zero => rw [sh_0]; grind
  | succ t => rw [sh_s]; grind
 have e1 : ∀ t, cv (fun i => a (i + 1)) y t = a 1 * y t + a 2 * sh y t := fun t => by
  rw [cv_h, sh_eq (z := fun t => a 2 * y t) e2]
  cases t with
  | zero => rw [sh_0, sh_0]; grind
  | succ t => rw [sh_s, sh_s]
 rw [cv_h, sh_eq (z := fun t => a 1 * y t + a 2 * sh y t) e1]
 cases t with
 | zero => rw [sh_0, sh_0, sh_0]; grind
 | succ t => rw [sh_s, sh_s, sh_s]; grind
theorem cv_one (t : Nat) (h : ∀ t, y t = if t = 0 then 1 else 0) : cv a y t = a t := by
 unfold cv
 rw [su_s, Nat.sub_self, h 0, if_pos rfl, su_0 (fun i hi => by rw [h, if_neg xq]; grind)]; grind
end
section
variable {L : List (List Int)} {f : Int} {n i j k t : Nat} {V : Nat → Rat} {W : Nat → Nat → Rat}
theorem csP_cog (g : List Int → List Rat) : co (csP g L (k + 1)) = cv (co (csP g L k)) (co (g (L.getD k []))) := funext fun n => by
 show co (trimQ _) n = _
 rw [trim_co, mul_cv]
theorem cs_ve (hV : VE (UQ f) (csNodes n L n) (2 + 2 * n) V) (hi : i < n) : V (3 + 2 * n + i) = wq ((L.getD i []).getD 0 0) f * V (csF0 n i).toNat + wq ((L.getD i []).getD 1 0) f * V (1 + 2 * i) + wq ((L.getD i []).getD 2 0) f * V (2 + 2 * i) - wq ((L.getD i []).getD 3 0) f * V (3 + 2 * i) - wq ((L.getD i []).getD 4 0) f * V (4 + 2 * i) := by
 have h := hV i (by rw [csNodes_len]; exact hi)
 rw [csNodes_get hi, show 1 + (2 + 2 * n) + i = 3 + 2 * n + i by omega] at h
 rw [h]
 generalize L.getD i [] = p
 have e : su (fun k => ((((csNode n i p).getD k tl0).c : Int) : Rat) * V ((csNode n i p).getD k tl0).f.toNat) (csNode n i p).length = 0 + ((p.getD 0 0 : Int) : Rat) * V (csF0 n i).toNat + ((p.getD 1 0 : Int) : Rat) * V (1 + 2 * i) + ((p.getD 2 0 : Int) : Rat) * V (2 + 2 * i) + ((-p.getD 3 0 : Int) : Rat) * V (3 + 2 * i) + ((-p.getD 4 0 : Int) : Rat) * V (3 + 2 * i + 1) := rfl
 rw [e, show 3 + 2 * i + 1 = 4 + 2 * i by omega]
 have d : ∀ z : Int, wq z f = (z : Rat) * (UQ f)⁻¹ := fun z => Rat.div_def _ _
 rw [Rat.div_def, d, d, d, d, d, Rat.intCast_neg, Rat.intCast_neg]; grind
theorem csNext_at (h : i < n) : (csNext n n).getD (2 + 2 * i) 0 = ((3 + 2 * n + i : Nat) : Int) ∧ (csNext n n).getD (2 + 2 * i + 1) 0 = ((3 + 2 * i : Nat) : Int) := csNext_even h
theorem csF0_s (n i : Nat) : (csF0 n (i + 1)).toNat = 3 + 2 * n + i := by
 unfold csF0
 rw [if_neg xq]; omega
theorem csF0_0 (n : Nat) : (csF0 n 0).toNat = 0 := rfl
theorem cs_st (hV : Imp (UQ f) (csNodes n L n) (2 + 2 * n) (csNext n n) W) (hi : i ≤ n) : (∀ t, W t (1 + 2 * i) = sh (fun t => W t (csF0 n i).toNat) t) ∧ ∀ t, W t (2 + 2 * i) = sh (sh (fun t => W t (csF0 n i).toNat)) t := by
 have n1 : (csNext n n).getD (2 * i) 0 = csF0 n i ∧ (csNext n n).getD (2 * i + 1) 0 = ((1 + 2 * i : Nat) : Int) := by
  cases i with
  | zero => exact ⟨csNext_0, csNext_1⟩
  | succ i =>
   have := csNext_at (n := n) (i := i) xq
   rw [show 2 * (i + 1) = 2 + 2 * i by omega, this.1, this.2]
   unfold csF0
   rw [if_neg xq]
   exact ⟨by congr 1; omega, by congr 1; omega⟩
 have h1 : ∀ t, W t (1 + 2 * i) = sh (fun t => W t (csF0 n i).toNat) t := fun t => by
  cases t with
  | zero => rw [hV.st0 (2 * i) xq, sh_0]
  | succ t => rw [hV.st t (2 * i) xq, n1.1, sh_s]
 refine ⟨h1, fun t => ?_⟩
 cases t with
 | zero => rw [show 2 + 2 * i = 1 + (2 * i + 1) by omega, hV.st0 _ xq, sh_0]
 | succ t => rw [show 2 + 2 * i = 1 + (2 * i + 1) by omega, hV.st t _ xq, n1.2, sh_s, ← h1 t]; rfl
theorem csN_3 (p : List Int) : ∀ i, 3 ≤ i → co (csN f p) i = 0 := fun i hi => co_ge hi
theorem csD_3 (p : List Int) : ∀ i, 3 ≤ i → co (csD f p) i = 0 := fun i hi => co_ge hi
theorem cs_sec (hV : Imp (UQ f) (csNodes n L n) (2 + 2 * n) (csNext n n) W) (hi : i < n) (t : Nat) : cv (co (csD f (L.getD i []))) (fun t => W t (csF0 n (i + 1)).toNat) t = cv (co (csN f (L.getD i []))) (fun t => W t (csF0 n i).toNat) t := by
 obtain ⟨a1, a2⟩ := cs_st hV (i := i) xq
 obtain ⟨b1, b2⟩ := cs_st hV (i := i + 1) xq
 have h := cs_ve (hV.ve t) hi
 rw [cv3 (csD_3 _), cv3 (csN_3 _), ← a1, ← a2, ← b1, ← b2]
 have k0 : co (csD f (L.getD i [])) 0 = 1 := rfl
 have k1 : co (csD f (L.getD i [])) 1 = wq ((L.getD i []).getD 3 0) f := rfl
 have k2 : co (csD f (L.getD i [])) 2 = wq ((L.getD i []).getD 4 0) f := rfl
 have k3 : co (csN f (L.getD i [])) 0 = wq ((L.getD i []).getD 0 0) f := rfl
 have k4 : co (csN f (L.getD i [])) 1 = wq ((L.getD i []).getD 1 0) f := rfl
 have k5 : co (csN f (L.getD i [])) 2 = wq ((L.getD i []).getD 2 0) f := rfl
 rw [k0, k1, k2, k3, k4, k5]
 show 1 * W t (csF0 n (i + 1)).toNat + _ + _ = _
 rw [csF0_s, h, show 1 + 2 * (i + 1) = 3 + 2 * i by omega, show 2 + 2 * (i + 1) = 4 + 2 * i by omega]
 grind
theorem cs_run (hV : Imp (UQ f) (csNodes n L n) (2 + 2 * n) (csNext n n) W) : ∀ i, i ≤ n → ∀ t, cv (co (csP (csD f) L i)) (fun t => W t (csF0 n i).toNat) t = co (csP (csN f) L i) t := by
 intro i
 induction i with
 | zero =>
  intro _ t
  rw [cv_one t (fun t => by show W t (csF0 n 0).toNat = _; rw [csF0_0]; exact hV.inp t)]; rfl
 | succ i ih =>
  intro hi t
  have ih := funext (ih xq)
  rw [csP_cog, csP_cog, cv_assoc, show cv (co (csD f (L.getD i []))) (fun t => W t (csF0 n (i + 1)).toNat) = cv (co (csN f (L.getD i []))) (fun t => W t (csF0 n i).toNat) from funext (cs_sec hV xq), ← cv_assoc, cv_comm (co (csP (csD f) L i)), cv_assoc, ih, cv_comm]
theorem cs_zero {V : Nat → Rat} (hV : VE (UQ f) (csNodes n L n) (2 + 2 * n) V) (h0 : V 0 = 0) (hs : ∀ i, i < 2 + 2 * n → V (1 + i) = if i = j then 1 else 0) (hj : 2 + 2 * i ≤ j) (hi : i ≤ n) : ∀ k, k ≤ i → V (csF0 n k).toNat = 0 := by
 intro k
 induction k with
 | zero => intro _; exact h0
 | succ k ih =>
  intro hk
  have ih := ih xq
  have s : ∀ m, m < 2 + 2 * i → V (1 + m) = 0 := fun m hm => by rw [hs m xq, if_neg xq]
  rw [csF0_s, cs_ve hV xq, ih, s (2 * k) xq, show 2 + 2 * k = 1 + (2 * k + 1) by omega, s _ xq, show 3 + 2 * k = 1 + (2 * k + 2) by omega, s _ xq, show 4 + 2 * k = 1 + (2 * k + 3) by omega, s _ xq]
  grind
theorem cs_newt (hb : Back (csNodes n L n) (2 + 2 * n)) : ∀ i, i ≤ n → Newt (2 + 2 * i) (lnA (UQ f) (csNodes n L n) (2 + 2 * n) (csNext n n)) (co (csP (csD f) L i)) := by
 intro i
 induction i with
 | zero =>
  intro _
  obtain ⟨W0, v0, z0, s0, l0⟩ := lnA_col (U := UQ f) (nx := csNext n n) hb 0
  obtain ⟨W1, v1, z1, s1, l1⟩ := lnA_col (U := UQ f) (nx := csNext n n) hb 1
  have c0 : ∀ x : Int, x = 0 → x.toNat = 0 := fun x h => by rw [h]; rfl
  have aa : lnA (UQ f) (csNodes n L n) (2 + 2 * n) (csNext n n) 0 0 = 0 := by rw [l0, csNext_0]; exact z0
  have ac : lnA (UQ f) (csNodes n L n) (2 + 2 * n) (csNext n n) 0 1 = 0 := by rw [l1, csNext_0]; exact z1
  have ab : lnA (UQ f) (csNodes n L n) (2 + 2 * n) (csNext n n) 1 1 = 0 := by rw [l1, csNext_1]; exact (s1 0 xq).trans (if_neg xq)
  refine newt_2 rfl ?_ ?_ (fun i hi => co_ge (by show 1 ≤ i; omega))
  ·show (0 : Rat) = _
   rw [aa, ab]; grind
  show (0 : Rat) = _
  rw [aa, ac, ab]; grind
 | succ i ih =>
  intro hi
  have ih := ih xq
  rw [csP_cog, show 2 + 2 * (i + 1) = (2 + 2 * i) + 2 by omega]
  have key : ∀ j, 2 + 2 * i ≤ j → j < 2 + 2 * i + 2 → ∃ W : Nat → Rat, VE (UQ f) (csNodes n L n) (2 + 2 * n) W ∧ (∀ m, m < 2 + 2 * n → W (1 + m) = if m = j then 1 else 0) ∧ (∀ m, lnA (UQ f) (csNodes n L n) (2 + 2 * n) (csNext n n) m j = W ((csNext n n).getD m 0).toNat) ∧ ∀ k, k ≤ i → W (csF0 n k).toNat = 0 := fun j h1 h2 => by
   obtain ⟨W, v, z, s, l⟩ := lnA_col (U := UQ f) (nx := csNext n n) hb j
   exact ⟨W, v, s, l, cs_zero v z s h1 xq⟩
  have row : ∀ j, 2 + 2 * i ≤ j → j < 2 + 2 * i + 2 → lnA (UQ f) (csNodes n L n) (2 + 2 * n) (csNext n n) (2 + 2 * i) j = -wq ((L.getD i []).getD 3 0) f * (if 2 + 2 * i = j then 1 else 0) - wq ((L.getD i []).getD 4 0) f * (if 3 + 2 * i = j then 1 else 0) ∧ lnA (UQ f) (csNodes n L n) (2 + 2 * n) (csNext n n) (2 + 2 * i + 1) j = if 2 + 2 * i = j then 1 else 0 := fun j h1 h2 => by
   obtain ⟨W, v, s, l, z⟩ := key j h1 h2
   have nx := csNext_at (n := n) (i := i) xq
   refine ⟨?_, ?_⟩
   ·rw [l, nx.1, Int.toNat_natCast, cs_ve v xq, z i (Nat.le_refl _), s (2 * i) xq, if_neg xq, show 2 + 2 * i = 1 + (2 * i + 1) by omega, s _ xq, if_neg xq, show 3 + 2 * i = 1 + (2 * i + 2) by omega, s _ xq, show 4 + 2 * i = 1 + (2 * i + 3) by omega, s _ xq, show 2 * i + 2 = 1 + (2 * i + 1) by omega, show 2 * i + 3 = 1 + (1 + (2 * i + 1)) by omega]
    grind
   rw [l, nx.2, Int.toNat_natCast, show 3 + 2 * i = 1 + (2 + 2 * i) by omega, s _ xq]
  refine ih.step (newt_2 rfl ?_ ?_ (csD_3 _)) (fun m j h1 h2 h3 => ?_)
  ·have r0 := (row (2 + 2 * i) xq xq).1
   have r1 := (row (2 + 2 * i + 1) xq xq).2
   show wq ((L.getD i []).getD 3 0) f = -(lnA _ _ _ _ (2 + 2 * i + 0) (2 + 2 * i + 0) + lnA _ _ _ _ (2 + 2 * i + 1) (2 + 2 * i + 1))
   rw [Nat.add_zero, r0, r1, if_pos rfl, if_neg xq, if_neg xq]; grind
  ·have r0 := row (2 + 2 * i) xq xq
   have r1 := row (2 + 2 * i + 1) xq xq
   show wq ((L.getD i []).getD 4 0) f = lnA _ _ _ _ (2 + 2 * i + 0) (2 + 2 * i + 0) * lnA _ _ _ _ (2 + 2 * i + 1) (2 + 2 * i + 1) - lnA _ _ _ _ (2 + 2 * i + 0) (2 + 2 * i + 1) * lnA _ _ _ _ (2 + 2 * i + 1) (2 + 2 * i + 0)
   rw [Nat.add_zero, r0.1, r1.1, r1.2, r0.2, if_pos rfl, if_neg xq, if_neg xq, if_pos xq]; grind
  obtain ⟨W, v, s, l, z⟩ := key j h2 h3
  rw [l]
  rcases Nat.mod_two_eq_zero_or_one m with e | e
  ·obtain ⟨k, rfl⟩ : ∃ k, m = 2 * k := ⟨m / 2, by omega⟩
   cases k with
   | zero => rw [csNext_0]; exact z 0 xq
   | succ k => rw [show 2 * (k + 1) = 2 + 2 * k by omega, (csNext_at (n := n) (i := k) xq).1, Int.toNat_natCast, ← csF0_s]; exact z (k + 1) xq
  obtain ⟨k, rfl⟩ : ∃ k, m = 2 * k + 1 := ⟨m / 2, by omega⟩
  cases k with
  | zero => rw [csNext_1]; exact (s 0 xq).trans (if_neg xq)
  | succ k => rw [show 2 * (k + 1) + 1 = 2 + 2 * k + 1 by omega, (csNext_at (n := n) (i := k) xq).2, Int.toNat_natCast, show 3 + 2 * k = 1 + (2 + 2 * k) by omega, s _ xq, if_neg xq]
end
end Nt
structure BL where
 D : WL
 W : WL
 n : Nat
 X : Sl
 Y : Sl
 o : Int
 t : Int
 f : Nat
def BL.cs (r : BL) : List Value := [.int .i64 r.D.b, .int .i64 r.D.f, .int .i64 r.D.r, .int .i64 r.D.o, .int .i64 r.W.b, .int .i64 r.W.f, .int .i64 r.W.r, .int .i64 r.W.o, .int .i64 (r.n : Int), .slice r.X.a r.X.n r.X.c, .slice r.Y.a r.Y.n r.Y.c, .int .i64 r.o, .int .i64 r.t, .int .i64 (r.f : Int)]
def FmOK (W : WL) : Prop := WdOK W ∧ 1 ≤ W.f
instance fmDec (W : WL) : Decidable (FmOK W) := by unfold FmOK; exact inferInstance
instance pasDec (f : Int) (p : PL) : Decidable (PasOK f p) := by unfold PasOK; exact inferInstance
def WvOK (W : WL) (L M : List PL) : Prop := FmOK W ∧ L.length ≤ 4 ∧ M.length ≤ 4 ∧ (∀ i, i < L.length → PasOK W.f (L.getD i pl0)) ∧ ∀ i, i < M.length → PasOK W.f (M.getD i pl0)
instance wvDec (W : WL) (L M : List PL) : Decidable (WvOK W L M) := by unfold WvOK; exact inferInstance
set_option maxHeartbeats 1000000 in
theorem k_sameFilt {u w : World} {x1 y1 x2 y2 : Sl} {l m : List Rat} {K : Nat} (d : Dat u w) (hx1 : PolN u x1 l K) (hy1 : PolN u y1 m K) (hx2 : PolN u x2 l K) (hy2 : PolN u y2 m K) (hK : K ≤ 1000000) (h8 : l.length ≤ 1000) (h9 : m.length ≤ 1000) : Calls Tryz.prog 47 #[.agg #[x1.v, y1.v], .agg #[x2.v, y2.v]] w (Post u w fun v u' => v = .bool true) := by
 have hl1 := hx1.len
 have hl2 := hx2.len
 have hl3 := hy1.len
 have hl4 := hy2.len
 refine zzm (args := [.agg #[x1.v, y1.v], .agg #[x2.v, y2.v]]) Tryz.func47 rfl Tryz.ntmps47 (rs := [.tmp 4]) Tryz.results47 (le_b rfl) (le_b rfl) d ?_
 refine sq9 (zzk 2 ⟨81, [x1.v, y1.v]⟩ (zzk 3 ⟨81, [x2.v, y2.v]⟩ (zza 4 (zB false) (zzb (sq9 (zza 5 (.adr 2 0) (zzi 6 (.v (x1.v)) ty27 zzl (zza 7 (.adr 3 0) (zzi 8 (.v (x2.v)) ty27 zzl (zzg 9 37 _ fun _ _ aa ad => Post.mono (k_r5Same ad (hx1.ext aa).raw (hx2.ext aa).raw xq xq xw xw) ?_))))))))))
 rintro _ u12 ab rfl
 refine zyq 10 (x := zB (decide (Nt.trimQ l = Nt.trimQ l))) (zB true) (by rw [show (decide (Nt.trimQ l = Nt.trimQ l)) = true from decide_eq_true rfl]) (zza 11 (.adr 2 1) ?_ (hw := w1 5 true 10))
 refine zzi 12 (.v (y1.v)) ty27 zzl ?_ (hw := w1 5 true 10)
 refine zza 13 (.adr 3 1) ?_ (hw := w1 5 true 10)
 refine zzi 14 (.v (y2.v)) ty27 zzl ?_ (hw := w1 5 true 10)
 refine zzg 15 37 _ (fun _ _ ac ae => Post.mono (k_r5Same ae (hy1.ext (aa.t (ab.t ac))).raw (hy2.ext (aa.t (ab.t ac))).raw xq xq xw xw) ?_) (hw := w1 5 true 10)
 rintro _ u17 g18 rfl
 refine zza 16 (zB (decide (Nt.trimQ m = Nt.trimQ m))) (zza 4 (zB (decide (Nt.trimQ m = Nt.trimQ m))) (zzb (zzo (ret0 [.bool (decide (Nt.trimQ m = Nt.trimQ m))] ⟨zzq, trivial⟩ fun u20 e21 => ?_))))
 show Value.bool _ = Value.bool _
 rw [show (decide (Nt.trimQ m = Nt.trimQ m)) = true from decide_eq_true rfl]
namespace Nt
structure WS where
 N : List (List TL)
 s : List Int
 f : Nat
 u : Int
variable {n : Nat} {U : Int} {L : List PL} {st : WS}
end Nt
namespace Nt
variable {D W : WL} {L : List (List Int)} {N : List (List TL)} {nx st xs : List Int} {q : Int} {n k : Nat} {p p1 p2 : List Int} {x x1 x2 y1 y2 z1 z2 : Int}
theorem csE_rows {L : List (List Int)} (hW : WdOK W) (h1 : 1 ≤ L.length) (h8 : L.length ≤ 8) (h : ∀ p ∈ L, p.length = 5 ∧ ∀ z ∈ p, -(p2i (W.b - 1) - 1) ≤ z ∧ z ≤ p2i (W.b - 1) - 1) : csE W L = 0 := by
 refine csE_0 hW h1 h8 (fun i hi => ?_)
 have e : L[i] = L.getD i [] := by rw [List.getD_eq_getElem?_getD, List.getElem?_eq_getElem hi]; rfl
 obtain ⟨hl, hz⟩ := h _ (List.getElem_mem hi)
 rw [e] at hl hz
 have hj : ∀ j, j < 5 → -(p2i (W.b - 1) - 1) ≤ (L.getD i []).getD j 0 ∧ (L.getD i []).getD j 0 ≤ p2i (W.b - 1) - 1 := fun j hj => by
  refine hz _ ?_
  rw [List.getD_eq_getElem?_getD (l := L.getD i []), List.getElem?_eq_getElem xq]
  exact List.getElem_mem _
 have f0 := hj 0 yj
 have f1 := hj 1 yj
 have f2 := hj 2 yj
 have f3 := hj 3 yj
 have f4 := hj 4 yj
 unfold secFit
 rw [(fit_iff (z := (L.getD i []).getD 0 0)).2 xq, (fit_iff (z := (L.getD i []).getD 1 0)).2 xq, (fit_iff (z := (L.getD i []).getD 2 0)).2 xq, (fit_iff (z := (L.getD i []).getD 3 0)).2 xq, (fit_iff (z := -(L.getD i []).getD 3 0)).2 xq, (fit_iff (z := (L.getD i []).getD 4 0)).2 xq, (fit_iff (z := -(L.getD i []).getD 4 0)).2 xq]
 rfl
end Nt
namespace Nt
section
variable {D W : WL} {N : List (List TL)} {nx : List Int} {q : Int} {s k i j m : Nat} {P Q : List Rat}
theorem net_flb (hok : NetOK D W s N nx q) (hs : s ≤ 16) : FlB s (lnA (UQ W.f) N s nx) (lnB (UQ W.f) N s nx) (lnC (UQ W.f) N s q) ((p2i W.f).toNat ^ N.length) (30 * N.length) :=
 ⟨hs, (p_pow hok _).1, (p_pow hok _).2, fun i j => val_wd hok (j + 1) _ (Nat.le_refl _) _, fun i => val_wd hok 0 _ (Nat.le_refl _) _, fun i => val_wd hok (i + 1) _ (Nat.le_refl _) _⟩
theorem co_flB {n : Nat} {A : Nat → Nat → Rat} (k : Nat) : co (flBl n A) k = if k ≤ n then flC n A k else 0 := by
 by_cases h : k ≤ n
 ·rw [if_pos h]; exact flR_at xq
 rw [if_neg h]; exact co_ge (by rw [flBl_len]; omega)
theorem co_flA {n : Nat} {A : Nat → Nat → Rat} {B C : Nat → Rat} (k : Nat) : co (flAl n A B C) k = if k ≤ n then flAt n A B C k else 0 := by
 by_cases h : k ≤ n
 ·rw [if_pos h]; exact flR_at xq
 rw [if_neg h]; exact co_ge (by rw [flAl_len]; omega)
structure TrOK (W : WL) (N : List (List TL)) (s : Nat) (nx : List Int) (q : Int) (P Q : List Rat) : Prop where
 flb : FlB s (lnA (UQ W.f) N s nx) (lnB (UQ W.f) N s nx) (lnC (UQ W.f) N s q) ((p2i W.f).toNat ^ N.length) (30 * N.length)
 hl : N.length ≤ 64
 den : trimQ (flBl s (lnA (UQ W.f) N s nx)) = trimQ Q
 num : trimQ (addQ (flAl s (lnA (UQ W.f) N s nx) (lnB (UQ W.f) N s nx) (lnC (UQ W.f) N s q)) (trimQ ((flBl s (lnA (UQ W.f) N s nx)).map (· * lnD (UQ W.f) N s q)))) = trimQ P
theorem tr_ok (hok : NetOK D W s N nx q) (hs : s ≤ 16) (hp : ∀ k, k ≤ s → flC s (lnA (UQ W.f) N s nx) k = co Q k) (hQ : ∀ k, s < k → co Q k = 0) (hP : ∀ k, s < k → co P k = 0) (hh : ∀ V, Imp (UQ W.f) N s nx V → ∀ k, k ≤ s → cv (co Q) (fun t => V t q.toNat) k = co P k) : TrOK W N s nx q P Q := by
 obtain ⟨_, _, _, hNl, hnl, _, hnx, hq⟩ := id hok
 refine ⟨net_flb hok hs, hNl, trim_ext fun k => ?_, trim_ext fun k => ?_⟩
 ·rw [co_flB]
  by_cases h : k ≤ s
  ·rw [if_pos h]; exact hp k h
  rw [if_neg h]; exact (hQ k xq).symm
 have h9 := fl_transfer (U := UQ W.f) (b := co P) (Back.of hok) (fun i hi => by have := hnx i xq; omega) xq hp hh
 rw [addQ_co, trim_co, co_map (fun x => x * lnD (UQ W.f) N s q) (Rat.zero_mul _), co_flA, co_flB]
 by_cases h : k ≤ s
 ·rw [if_pos h, if_pos h]; exact h9 k h
 rw [if_neg h, if_neg h, hP k xq]; grind
theorem csP_ge {g : List Int → List Rat} (hg : ∀ p, (g p).length = 3) {L : List (List Int)} (n : Nat) (k : Nat) (h : 2 * n < k) : co (csP g L n) k = 0 := co_ge (Nat.le_trans (csP_len hg) xq)
theorem cs_tr {L : List (List Int)} (hD : WdOK D) (hE : csE W L = 0) (hl : L.length ≤ 2) : TrOK W (csNodes L.length L L.length) (2 + 2 * L.length) (csNext L.length L.length) ((2 + 2 * L.length + L.length : Nat) : Int) (csP (csN W.f) L L.length) (csP (csD W.f) L L.length) := by
 have hok := csNetOK hD hE
 refine tr_ok hok xq (fun k _ => flC_of (cs_newt (Back.of hok) L.length (Nat.le_refl _)) k) (fun k h => csP_ge (fun _ => rfl) _ k xq) (fun k h => csP_ge (fun _ => rfl) _ k xq) (fun V hV k _ => ?_)
 have h9 := cs_run hV L.length (Nat.le_refl _) k
 rw [show (csF0 L.length L.length).toNat = 2 + 2 * L.length + L.length by
  obtain ⟨_, h1, _⟩ := csE_ok hE
  obtain ⟨n, hn⟩ : ∃ n, L.length = n + 1 := ⟨L.length - 1, by omega⟩
  rw [hn, csF0_s]; omega] at h9
 rw [Int.toNat_natCast]
 exact h9
end
end Nt
theorem k_nTransferL {u w : World} {W : WL} {s : Nat} {N : List (List TL)} {nx : List Int} {q : Int} {P Q : List Rat} {x y z : Sl} {r : RL} {Ra : List Sl} (d : Dat u w) (hA : MatV u x s Ra (fun i => rowL s ((Nt.lnA (Nt.UQ W.f) N s nx) i)) 100) (hB : PolN u y (rowL s (Nt.lnB (Nt.UQ W.f) N s nx)) 100) (hC : PolN u z (rowL s (Nt.lnC (Nt.UQ W.f) N s q)) 100) (hr : RatN u r (Nt.lnD (Nt.UQ W.f) N s q) 100) (h : Nt.TrOK W N s nx q P Q) : Calls Tryz.prog 43 #[.agg #[x.v, y.v, z.v, .bool r.s, .slice r.m.a r.m.n r.m.c, .slice r.d.a r.d.n r.d.c]] w (Post u w fun v u' => ∃ p q : Sl, v = .tuple #[.agg #[p.v, q.v], .int .i64 0] ∧ PolN u' p (Nt.trimQ P) 10000 ∧ PolN u' q (Nt.trimQ Q) 10000) := by
 have k := k_nTransfer d hA hB hC hr yj h.flb (by have := h.hl; omega)
 rw [h.num, h.den] at k
 exact k
theorem k_csize {u w : World} {z : Int} (d : Dat u w) (h0 : -1000000000 ≤ z) (h1 : z ≤ 1000000000) : Calls Tryz.prog 185 #[.int .i64 z] w (Post u w fun v _ => v = .int .i64 (Nt.az z)) := by
 refine zzm (args := [.int .i64 z]) Tryz.func185 rfl Tryz.ntmps185 (rs := [.tmp 2]) Tryz.results185 (le_b rfl) (le_b rfl) d ?_
 refine sq9 (zza 2 (zI 0) (zzb (sq9 (zza 3 (zI z) (zza 4 (zI z) (zyq 5 (x := zI (IntKind.i64.wrap (0 - z))) (zI (-z)) (eqI yq) (sy_maxN 6 (n := z) (m := -z) (v := Nt.az z) (by unfold Nt.az; split <;> omega) ?_)))))))
 refine zza 2 (zI (Nt.az z)) (zzb (zzo (ret0 [.int .i64 (Nt.az z)] ⟨zzq, trivial⟩ fun u11 e12 => ?_)))
 rfl
theorem k_cdist {u w : World} {b0 b1 b2 a0 a1 : Int} (d : Dat u w) (hb1 : -16777216 ≤ b1 ∧ b1 ≤ 16777216) (hb2 : -16777216 ≤ b2 ∧ b2 ≤ 16777216) (ha0 : -16777216 ≤ a0 ∧ a0 ≤ 16777216) (ha1 : -16777216 ≤ a1 ∧ a1 ≤ 16777216) : Calls Tryz.prog 187 #[.agg #[.int .i64 b0, .int .i64 b1, .int .i64 b2], .agg #[.int .i64 a0, .int .i64 a1]] w (Post u w fun v _ => v = .int .i64 (Nt.distZ b1 b2 a0 a1)) := by
 refine zzm (args := [.agg #[.int .i64 b0, .int .i64 b1, .int .i64 b2], .agg #[.int .i64 a0, .int .i64 a1]]) Tryz.func187 rfl Tryz.ntmps187 (rs := [.tmp 4]) Tryz.results187 (le_b rfl) (le_b rfl) d ?_
 refine sq9 (zzk 2 ⟨177, [.int .i64 b0, .int .i64 b1, .int .i64 b2]⟩ (zzk 3 ⟨166, [.int .i64 a0, .int .i64 a1]⟩ (zza 4 (zI 0) (zzb (zzd (zzz [0, 1, 0, 4, 15, 31, 0, 64, 0, 256, 960, 2047, 4095, 8191] [(0, []), (1, []), (2, []), (3, []), (4, []), (6, []), (7, []), (8, []), (9, []), (10, []), (5, []), (11, []), (12, []), (13, [])] xj xj (zza 5 (.adr 2 1) (zzi 6 (zI b1) ty3 zzl (zza 7 (.adr 3 0) (zzi 8 (zI a0) ty3 zzl (zyq 9 (x := zI (IntKind.i64.wrap (b1 - a0))) (zI (b1 - a0)) yw ?_)))))))))))
 refine zza 11 (.adr 2 2) (zzi 12 (zI b2) ty3 zzl (zza 13 (.adr 3 1) (zzi 14 (zI a1) ty3 zzl (zyq 15 (x := zI (IntKind.i64.wrap (b2 - a1))) (zI (b2 - a1)) yw (zzg 10 185 _ fun _ _ _ aa => Post.mono (k_csize (z := b1 - a0) aa xq xq) ?_)))))
 rintro _ u12 g13 rfl
 have haz15 := Nt.az_bd (z := b1 - a0) xq xq
 refine zzg 16 185 _ fun _ _ _ ab => Post.mono (k_csize (z := b2 - a1) ab xq xq) ?_
 rintro _ u17 g18 rfl
 have haz20 := Nt.az_bd (z := b2 - a1) xq xq
 refine zyq 17 (x := zI (IntKind.i64.wrap ((Nt.az (b1 - a0)) + (Nt.az (b2 - a1))))) (zI ((Nt.az (b1 - a0)) + (Nt.az (b2 - a1)))) yw (zza 4 (zI ((Nt.az (b1 - a0)) + (Nt.az (b2 - a1)))) (zzb (zzo (ret0 [.int .i64 ((Nt.az (b1 - a0)) + (Nt.az (b2 - a1)))] ⟨zzq, trivial⟩ fun u21 e22 => ?_))))
 rfl
theorem k_ccmp {u w : World} {a0 a1 b0 b1 : Int} (d : Dat u w) (ha0 : -16777216 ≤ a0 ∧ a0 ≤ 16777216) (ha1 : -16777216 ≤ a1 ∧ a1 ≤ 16777216) (hb0 : -16777216 ≤ b0 ∧ b0 ≤ 16777216) (hb1 : -16777216 ≤ b1 ∧ b1 ≤ 16777216) : Calls Tryz.prog 184 #[.agg #[.int .i64 a0, .int .i64 a1], .agg #[.int .i64 b0, .int .i64 b1]] w (Post u w fun v _ => v = .int .i64 (Nt.cmpZ a0 a1 b0 b1)) := by
 refine zzm (args := [.agg #[.int .i64 a0, .int .i64 a1], .agg #[.int .i64 b0, .int .i64 b1]]) Tryz.func184 rfl Tryz.ntmps184 (rs := [.tmp 4]) Tryz.results184 (le_b rfl) (le_b rfl) d ?_
 refine sq9 (zzk 2 ⟨166, [.int .i64 a0, .int .i64 a1]⟩ (zzk 3 ⟨166, [.int .i64 b0, .int .i64 b1]⟩ (zza 4 (zI 0) (zzb (zzd (zzd (zzz [0, 1, 3, 0, 8, 31, 63] [(0, []), (1, []), (3, []), (4, []), (2, []), (5, []), (6, [])] xj xj (zza 5 (.adr 2 1) (zzi 6 (zI a1) ty3 zzl (zza 8 (.adr 3 1) (zzi 9 (zI b1) ty3 zzl ?_)))))))))))
 refine zzg 7 185 _ fun _ _ _ ad => Post.mono (k_csize (z := a1) ad xq xq) ?_
 rintro _ u12 g13 rfl
 have haz15 := Nt.az_bd (z := a1) xq xq
 refine zzg 10 185 _ fun _ _ _ ae => Post.mono (k_csize (z := b1) ae xq xq) ?_
 rintro _ u17 g18 rfl
 have haz20 := Nt.az_bd (z := b1) xq xq
 refine zza 11 (zB ((Nt.az a1) != (Nt.az b1))) (zzb (zzu (b := (Nt.az a1) != (Nt.az b1)) xj (fun aa => ?_) (fun aa => ?_)))
 ·have qhb21 := aa
  simp at qhb21
  refine zzd (zzz [0, 1, 3, 0, 8, 31, 63, 127] [(0, []), (1, []), (3, []), (4, []), (2, []), (5, []), (6, []), (7, [])] xj xj (zza 12 (.adr 3 1) (zzi 13 (zI b1) ty3 zzl (zza 15 (.adr 2 1) (zzi 16 (zI a1) ty3 zzl (zzg 14 185 _ fun _ _ _ af => Post.mono (k_csize (z := b1) af xq xq) ?_))))))
  rintro _ u23 g24 rfl
  have haz26 := Nt.az_bd (z := b1) xq xq
  refine zzg 17 185 _ fun _ _ _ ab => Post.mono (k_csize (z := a1) ab xq xq) ?_
  rintro _ u28 g29 rfl
  have haz31 := Nt.az_bd (z := a1) xq xq
  refine zyq 18 (x := zI (IntKind.i64.wrap ((Nt.az b1) - (Nt.az a1)))) (zI ((Nt.az b1) - (Nt.az a1))) yw (zza 4 (zI ((Nt.az b1) - (Nt.az a1))) (zzb (zzo (zzw (ret0 [.int .i64 ((Nt.az b1) - (Nt.az a1))] ⟨zzq, trivial⟩ fun u32 e33 => ?_)))))
  show Value.int _ _ = Value.int _ _
  unfold Nt.cmpZ
  rw [if_neg qhb21]
 have qhb21 := aa
 simp at qhb21
 refine zzs (zzp ?_)
 refine zzd (zzz [0, 1, 3, 0, 8, 31, 63, 127] [(0, []), (1, []), (3, []), (4, []), (2, []), (5, []), (6, []), (7, [])] xj xj (zza 19 (.adr 3 0) (zzi 20 (zI b0) ty3 zzl (zza 22 (.adr 2 0) (zzi 23 (zI a0) ty3 zzl (zzg 21 185 _ fun _ _ _ ag => Post.mono (k_csize (z := b0) ag xq xq) ?_))))))
 rintro _ u35 g36 rfl
 have haz38 := Nt.az_bd (z := b0) xq xq
 refine zzg 24 185 _ fun _ _ _ ac => Post.mono (k_csize (z := a0) ac xq xq) ?_
 rintro _ u40 g41 rfl
 have haz43 := Nt.az_bd (z := a0) xq xq
 refine zyq 25 (x := zI (IntKind.i64.wrap ((Nt.az b0) - (Nt.az a0)))) (zI ((Nt.az b0) - (Nt.az a0))) yw (zza 4 (zI ((Nt.az b0) - (Nt.az a0))) (zzb (zzo (ret0 [.int .i64 ((Nt.az b0) - (Nt.az a0))] ⟨zzq, trivial⟩ fun u44 e45 => ?_))))
 show Value.int _ _ = Value.int _ _
 unfold Nt.cmpZ
 rw [if_pos qhb21]
set_option maxHeartbeats 2000000 in
theorem k_cins {u w : World} {g n c : Nat} {L : List (List Int)} {X : List Value} (d : Dat u w) (hg : w.heap[g]? = some (.cells (kcs L ++ X).toArray 166 (0, 0))) (hu : u.heap[g]? = some hidO) (hL : OkR 2 L) (hLn : L.length = n) (hn9 : n ≤ 1000) : Calls Tryz.prog 224 #[.slice (some ⟨g, 0, none⟩) n c, .int .i64 0, .int .i64 (n : Int), .func (.func 184) #[] #[]] w (PostL u w g fun V u' => V = ⟨166, kcs (Nt.sortR L) ++ X⟩) := by
 refine calls_lent (args := [.int .i64 0, .int .i64 (n : Int), .func (.func 184) #[] #[]]) Tryz.func224 rfl Tryz.ntmps224 Tryz.results224 (le_b rfl) d hg hu ?_
 refine sq9 (zza 10 (zI 0) (zza 11 (zI 1) (zza 8 (zI 1) (zzb (zzt (zyn (I := fun ak S' u' => ∃ (i : Nat) (L' : List (List Int)), (ak = n - i) ∧ (1 ≤ i) ∧ (OkR 2 L') ∧ (L'.length = n) ∧ (Nt.outR L' i (n - i) = Nt.sortR L) ∧ (S' = St.of 53 [(0, .slc 53 0 n c), (1, zI 0), (2, zI n), (3, .v (.func (.func 184) #[] #[])), (8, zI i)] [(53, ⟨166, kcs L' ++ X⟩)]) ∧ (Ext u u')) (fun m S u1 u2 e h => by obtain ⟨i, L', hm, p0, p1, p2, p3, hS, hE⟩ := h; exact ⟨i, L', hm, p0, p1, p2, p3, hS, hE.trans e⟩) _ yz ⟨1, L, rfl, Nat.le_refl _, hL, hLn, (by rw [← hLn]; rfl), rfl, (Ext.refl _)⟩ ?_))))))
 rintro ak _ an ⟨i, L', ao, hi, hL', hLn', hOut, rfl, aj⟩
 refine zzd (sq9 (zza 12 (zI i) (zza 13 (zI n) (zza 14 (zB (decide ((i : Int) < (n : Int)))) (zzb (zzu (b := decide ((i : Int) < (n : Int))) xj (fun ab => ?_) (fun ab => ?_)))))))
 ·have qhb12 := of_decide_eq_true ab
  refine zzs (zzp ?_)
  refine zzd (zzt (sq9 (zza 17 (zI i) (zza 9 (zI i) (zzb (zzt (zyn (I := fun ai S' u' => ∃ (j : Nat) (M : List (List Int)), (ai = j) ∧ (j < n) ∧ (OkR 2 M) ∧ (M.length = n) ∧ (Nt.insR M j = Nt.insR L' i) ∧ (S' = St.of 53 [(0, .slc 53 0 n c), (1, zI 0), (2, zI n), (3, .v (.func (.func 184) #[] #[])), (8, zI i), (9, zI j)] [(53, ⟨166, kcs M ++ X⟩)]) ∧ (Ext an u')) (fun m S u1 u2 e h => by obtain ⟨j, M, hm, p0, p1, p2, p3, hS, hE⟩ := h; exact ⟨j, M, hm, p0, p1, p2, p3, hS, hE.trans e⟩) _ yz ⟨i, L', rfl, by omega, hL', hLn', rfl, rfl, (Ext.refl _)⟩ ?_)))))))
  rintro ai _ u13 ⟨j, M, am, hj, hM, hMn, hIns, rfl, af⟩
  refine zzd (zzd (zzz [0, 0, 3, 7, 15, 15, 15, 111, 239, 15, 15, 1039, 3599, 7695, 16383, 32767, 65535] [(0, []), (1, []), (2, []), (3, []), (4, []), (5, []), (6, []), (7, []), (8, []), (9, []), (10, []), (11, []), (12, []), (13, []), (14, []), (15, []), (16, [])] xj xj (zza 18 (zI j) (zza 19 (zI 0) (zza 20 (zB (decide ((0 : Int) < (j : Int)))) ?_)))))
  rcases Bool.eq_false_or_eq_true (decide ((0 : Int) < (j : Int))) with hs14 | hs14
  ·refine zyq 21 (x := zB (decide ((0 : Int) < (j : Int)))) (zB true) (by rw [hs14]) ?_
   have qhs14 := of_decide_eq_true hs14
   refine zza 22 (.v (.func (.func 184) #[] #[])) ?_ (hw := w1 3 true 21)
   refine zza 23 (.slc 53 0 n c) ?_ (hw := w1 3 true 21)
   refine zza 24 (zI j) ?_ (hw := w1 3 true 21)
   refine zyw 25 (off' := j * 2) (n := n) (off := 0) (sz := 2) (i := (j : Int)) sl185 xq xq xq ?_ (hw := w1 3 true 21)
   refine zzi 26 (V := ⟨166, kcs M ++ X⟩) (off := j * 2) (.v (.agg #[.int .i64 (gi M j 0), .int .i64 (gi M j 1)])) ty166 (part_k2 (OkR.rows hM) (i := j) (by rw [hMn]; omega) rfl) ?_ (hw := w1 3 true 21)
   have hz150 := OkR.bd hM (i := j) (j := 0) (by rw [hMn]; omega) yj
   have hz151 := OkR.bd hM (i := j) (j := 1) (by rw [hMn]; omega) yj
   refine zza 27 (.slc 53 0 n c) ?_ (hw := w1 3 true 21)
   refine zza 28 (zI j) ?_ (hw := w1 3 true 21)
   refine zyq 29 (x := zI (IntKind.i64.wrap ((j : Int) - 1))) (zI (j - 1 : Nat)) (eqI yq) ?_ (hw := w1 3 true 21)
   refine zyw 30 (off' := (j - 1) * 2) (n := n) (off := 0) (sz := 2) (i := ((j - 1 : Nat) : Int)) sl185 xq xq xq ?_ (hw := w1 3 true 21)
   refine zzi 31 (V := ⟨166, kcs M ++ X⟩) (off := (j - 1) * 2) (.v (.agg #[.int .i64 (gi M (j - 1) 0), .int .i64 (gi M (j - 1) 1)])) ty166 (part_k2 (OkR.rows hM) (i := j - 1) (by rw [hMn]; omega) rfl) ?_ (hw := w1 3 true 21)
   have hz160 := OkR.bd hM (i := j - 1) (j := 0) (by rw [hMn]; omega) yj
   have hz161 := OkR.bd hM (i := j - 1) (j := 1) (by rw [hMn]; omega) yj
   refine zzg 32 184 _ (fun _ _ al ap => Post.mono (k_ccmp (a0 := gi M j 0) (a1 := gi M j 1) (b0 := gi M (j - 1) 0) (b1 := gi M (j - 1) 1) ap xq xq xq xq) ?_) (hw := w1 3 true 21)
   rintro _ u18 ah rfl
   refine zza 33 (zB (decide ((Nt.cmpZ (gi M j 0) (gi M j 1) (gi M (j - 1) 0) (gi M (j - 1) 1)) < 0))) ?_ (hw := w1 3 true 21)
   refine zza 34 (zB (decide ((Nt.cmpZ (gi M j 0) (gi M j 1) (gi M (j - 1) 0) (gi M (j - 1) 1)) < 0))) (zzc 53 [(0, .slc 53 0 n c), (1, zI 0), (2, zI n), (3, .v (.func (.func 184) #[] #[])), (8, zI i), (9, zI j), (34, zB (decide ((Nt.cmpZ (gi M j 0) (gi M j 1) (gi M (j - 1) 0) (gi M (j - 1) 1)) < 0)))] [(53, ⟨166, kcs M ++ X⟩)] (zzu (b := decide ((Nt.cmpZ (gi M j 0) (gi M j 1) (gi M (j - 1) 0) (gi M (j - 1) 1)) < 0)) xj (fun ad => ?_) (fun ad => ?_)))
   ·have qhb21 := of_decide_eq_true ad
    refine zzs (zzp ?_)
    refine zzd (zzt (zzz [0, 0, 0, 0, 8, 0, 0, 64, 224, 480, 0, 0, 3072, 7168, 16355, 32739, 65535, 131071] [(0, []), (1, []), (2, []), (3, []), (4, []), (5, []), (6, []), (7, []), (8, []), (9, []), (10, []), (11, []), (12, []), (13, []), (14, []), (15, []), (16, []), (17, [])] xj xj (zza 37 (.slc 53 0 n c) (zza 38 (zI j) (zza 39 (.slc 53 0 n c) (zza 40 (zI j) (zyq 41 (x := zI (IntKind.i64.wrap ((j : Int) - 1))) (zI (j - 1 : Nat)) (eqI yq) (zza 42 (.slc 53 0 n c) (zza 43 (zI j) (zyq 44 (x := zI (IntKind.i64.wrap ((j : Int) - 1))) (zI (j - 1 : Nat)) (eqI yq) (zyw 45 (off' := (j - 1) * 2) (n := n) (off := 0) (sz := 2) (i := ((j - 1 : Nat) : Int)) sl185 xq xq xq ?_)))))))))))
    refine zzi 46 (V := ⟨166, kcs M ++ X⟩) (off := (j - 1) * 2) (.v (.agg #[.int .i64 (gi M (j - 1) 0), .int .i64 (gi M (j - 1) 1)])) ty166 (part_k2 (OkR.rows hM) (i := j - 1) (by rw [hMn]; omega) rfl) ?_
    have hz220 := OkR.bd hM (i := j - 1) (j := 0) (by rw [hMn]; omega) yj
    have hz221 := OkR.bd hM (i := j - 1) (j := 1) (by rw [hMn]; omega) yj
    refine zza 47 (.slc 53 0 n c) (zza 48 (zI j) (zyw 49 (off' := j * 2) (n := n) (off := 0) (sz := 2) (i := (j : Int)) sl185 xq xq xq ?_))
    refine zzi 50 (V := ⟨166, kcs M ++ X⟩) (off := j * 2) (.v (.agg #[.int .i64 (gi M j 0), .int .i64 (gi M j 1)])) ty166 (part_k2 (OkR.rows hM) (i := j) (by rw [hMn]; omega) rfl) ?_
    have hz230 := OkR.bd hM (i := j) (j := 0) (by rw [hMn]; omega) yj
    have hz231 := OkR.bd hM (i := j) (j := 1) (by rw [hMn]; omega) yj
    refine zyw 51 (off' := j * 2) (n := n) (off := 0) (sz := 2) (i := (j : Int)) sl185 xq xq xq ?_
    have aa : OkR 2 (M.set j [gi M (j - 1) 0, gi M (j - 1) 1]) := (OkR.set2 hM xq xq)
    have ac : (M.set j [gi M (j - 1) 0, gi M (j - 1) 1]).length = n := (by rw [List.length_set]; exact hMn)
    refine zyv (V := ⟨166, kcs M ++ X⟩) (off := j * 2) (kcs (M.set j [gi M (j - 1) 0, gi M (j - 1) 1]) ++ X) ty166 (by rw [List.length_append, kcs_len (OkR.rows hM), hMn]; omega) (setL_k2 (OkR.rows hM) (i := j) (by rw [hMn]; omega) rfl) ?_
    refine zyw 52 (off' := (j - 1) * 2) (n := n) (off := 0) (sz := 2) (i := ((j - 1 : Nat) : Int)) sl185 xq xq xq ?_
    have ag : OkR 2 ((M.set j [gi M (j - 1) 0, gi M (j - 1) 1]).set (j - 1) [gi M j 0, gi M j 1]) := (OkR.set2 aa xq xq)
    have ae : ((M.set j [gi M (j - 1) 0, gi M (j - 1) 1]).set (j - 1) [gi M j 0, gi M j 1]).length = n := (by rw [List.length_set]; exact ac)
    refine zyv (V := ⟨166, kcs (M.set j [gi M (j - 1) 0, gi M (j - 1) 1]) ++ X⟩) (off := (j - 1) * 2) (kcs ((M.set j [gi M (j - 1) 0, gi M (j - 1) 1]).set (j - 1) [gi M j 0, gi M j 1]) ++ X) ty166 (by rw [List.length_append, kcs_len (OkR.rows aa), ac]; omega) (setL_k2 (OkR.rows aa) (i := j - 1) (by rw [ac]; omega) rfl) ?_
    refine zzx ?_
    refine zzp (zzf (zza 35 (zI j) (zyq 36 (x := zI (IntKind.i64.wrap ((j : Int) - 1))) (zI (j - 1 : Nat)) (eqI yq) (zza 9 (zI (j - 1 : Nat)) (zzx ?_)))))
    refine ⟨_, ?_, _, by exact zzv _ _ _, j - 1, ((M.set j [gi M (j - 1) 0, gi M (j - 1) 1]).set (j - 1) [gi M j 0, gi M j 1]), rfl, by omega, ag, ae, (by rw [← hIns, Nt.insR_go xq qhb21]; rfl), rfl, (af.t (al.t ah.ext))⟩
    omega
   have qhb21 := of_decide_eq_false ad
   refine zyc (zzp (zzf (zza 15 (zI i) (zyq 16 (x := zI (IntKind.i64.wrap ((i : Int) + 1))) (zI (i + 1 : Nat)) (eqI yq) (zza 8 (zI (i + 1 : Nat)) (zzx ?_))))))
   refine ⟨_, ?_, _, by exact zzv _ _ _, i + 1, M, rfl, by omega, hM, hMn, (by have h9 := hOut; rw [Nt.outR_step xq, ← hIns, Nt.insR_stop (fun _ => qhb21)] at h9; exact h9), rfl, (aj.t (af.t (al.t ah.ext)))⟩
   omega
  refine zyq 21 (x := zB (decide ((0 : Int) < (j : Int)))) (zB false) (by rw [hs14]) ?_
  have qhs14 := of_decide_eq_false hs14
  refine zzn 22 (uw 3 true false 21) (zzn 23 (uw 3 true false 21) (zzn 24 (uw 3 true false 21) (zzn 25 (uw 3 true false 21) (zzn 26 (uw 3 true false 21) (zzn 27 (uw 3 true false 21) (zzn 28 (uw 3 true false 21) (zzn 29 (uw 3 true false 21) (zzn 30 (uw 3 true false 21) (zzn 31 (uw 3 true false 21) (zzn 32 (uw 3 true false 21) (zzn 33 (uw 3 true false 21) ?_)))))))))))
  refine zza 34 (zB false) (zzb (zys xj (zyc (zzp (zzf (zza 15 (zI i) (zyq 16 (x := zI (IntKind.i64.wrap ((i : Int) + 1))) (zI (i + 1 : Nat)) (eqI yq) (zza 8 (zI (i + 1 : Nat)) (zzx ?_)))))))))
  refine ⟨_, ?_, _, by exact zzv _ _ _, i + 1, M, rfl, by omega, hM, hMn, (by have h9 := hOut; rw [Nt.outR_step xq, ← hIns, Nt.insR_stop (fun h9 => absurd h9 xq)] at h9; exact h9), rfl, (aj.trans af)⟩
  omega
 have qhb12 := of_decide_eq_false ab
 refine zyc ?_
 refine lent_end (V := ⟨166, kcs L' ++ X⟩) rfl rfl (fun _ _ => ?_)
 have h9 := hOut
 rw [show n - i = 0 by omega] at h9
 rw [← h9]; rfl
theorem k_cstable {u w : World} {g n c : Nat} {L : List (List Int)} {X : List Value} (d : Dat u w) (hg : w.heap[g]? = some (.cells (kcs L ++ X).toArray 166 (0, 0))) (hu : u.heap[g]? = some hidO) (hL : OkR 2 L) (hLn : L.length = n) (hn0 : 0 < n ∧ n ≤ 12) : Calls Tryz.prog 213 #[.slice (some ⟨g, 0, none⟩) n c, .int .i64 (n : Int), .func (.func 184) #[] #[]] w (PostL u w g fun V u' => V = ⟨166, kcs (Nt.sortR L) ++ X⟩) := by
 refine calls_lent (args := [.int .i64 (n : Int), .func (.func 184) #[] #[]]) Tryz.func213 rfl Tryz.ntmps213 Tryz.results213 (le_b rfl) d hg hu ?_
 refine sq9 (zza 6 (zI 20) (zzb (sq9 (zza 10 (zI 20) (zza 7 (zI 0) (zza 8 (zI 20) (zzb (zzd (zzt (sw_rounds 0 ?_))))))))))
 refine zzd (sq9 (zza 11 (zI 20) (zza 12 (zI n) (zza 13 (zB (decide ((20 : Int) ≤ (n : Int)))) (zzb (zzu (b := decide ((20 : Int) ≤ (n : Int))) xj (fun hb => ?_) (fun hb => ?_)))))))
 ·exact absurd hb (by rw [show (decide ((20 : Int) ≤ (n : Int))) = false from decide_eq_false xq]; decide)
 clear hb
 refine zyc (zzp (sq9 (zza 23 (.slc 63 0 n c) (zza 24 (zI 0) (zza 25 (zI n) (zza 26 (.v (.func (.func 184) #[] #[])) ?_))))))
 have kc11 := fun (g : Nat) (w u1 : World) (e : Ext u u1) (d : Dat u1 w) (hg : w.heap[g]? = some (.cells (kcs L ++ X).toArray 166 (0, 0))) (hu : u1.heap[g]? = some hidO) => k_cins (n := n) (c := c) d hg hu hL hLn xq
 refine sy_lend 27 224 (t := 63) (V := ⟨166, kcs L ++ X⟩) (len := n) (cap := c) [.int .i64 0, .int .i64 n, .func (.func 184) #[] #[]] xj kc11 ?_
 clear kc11
 rintro _ u11 e11 rfl
 refine zzc 63 [(0, .slc 63 0 n c), (1, zI n), (2, .v (.func (.func 184) #[] #[])), (6, zI 20)] [(63, ⟨166, kcs (Nt.sortR L) ++ X⟩)] (zzt (sw_rounds 0 ?_))
 refine zzd (sq9 (zza 28 (zI 20) (zza 29 (zI n) (zza 30 (zB (decide ((20 : Int) < (n : Int)))) (zzb (zzu (b := decide ((20 : Int) < (n : Int))) xj (fun hb => ?_) (fun hb => ?_)))))))
 ·exact absurd hb (by rw [show (decide ((20 : Int) < (n : Int))) = false from decide_eq_false xq]; decide)
 clear hb
 refine zyc ?_
 exact lent_end rfl rfl (fun _ _ => rfl)
theorem k_csort {u w : World} {g n c : Nat} {L : List (List Int)} {X : List Value} (d : Dat u w) (hg : w.heap[g]? = some (.cells (kcs L ++ X).toArray 166 (0, 0))) (hu : u.heap[g]? = some hidO) (hL : OkR 2 L) (hLn : L.length = n) (hn0 : 0 < n ∧ n ≤ 12) : Calls Tryz.prog 183 #[.slice (some ⟨g, 0, none⟩) n c, .func (.func 184) #[] #[]] w (PostL u w g fun V u' => V = ⟨166, kcs (Nt.sortR L) ++ X⟩) := by
 refine calls_lent (args := [.func (.func 184) #[] #[]]) Tryz.func183 rfl Tryz.ntmps183 Tryz.results183 (le_b rfl) d hg hu ?_
 refine zzf (zza 4 (.slc 9 0 n c) (zza 5 (.slc 9 0 n c) (zza 6 (zI n) (zza 7 (.v (.func (.func 184) #[] #[])) ?_))))
 have kc11 := fun (g : Nat) (w u1 : World) (e : Ext u u1) (d : Dat u1 w) (hg : w.heap[g]? = some (.cells (kcs L ++ X).toArray 166 (0, 0))) (hu : u1.heap[g]? = some hidO) => k_cstable (n := n) (c := c) d hg hu hL hLn xq
 refine sy_lend 8 213 (t := 9) (V := ⟨166, kcs L ++ X⟩) (len := n) (cap := c) [.int .i64 n, .func (.func 184) #[] #[]] xj kc11 ?_
 clear kc11
 rintro _ u11 e11 rfl
 refine zzx ?_
 exact lent_end rfl rfl (fun _ _ => rfl)
set_option maxHeartbeats 1000000 in
theorem k_clone2 {u w : World} {x : Sl} {L : List (List Int)} (d : Dat u w) (hx : IrV 2 u x L) (h0 : 0 < L.length) (h9 : L.length ≤ 1000000000) : Calls Tryz.prog 182 #[x.v] w (Post u w fun v u' => ∃ (b c : Nat) (X : List Value), v = .slice (some ⟨b, 0, none⟩) x.n c ∧ u.heap.size ≤ b ∧ u'.heap[b]? = some (.cells (kcs L ++ X).toArray 166 (0, 0)) ∧ (kcs L ++ X).length = c * 2 ∧ x.n ≤ c ∧ c ≤ maxLen) := by
 have hn := hx.len
 obtain ⟨xa, n0, c0⟩ := x
 obtain ⟨hR, h1, h2, h3, h4⟩ := hx
 change n0 = L.length at hn
 obtain ⟨b0, o0, e, hb0, hc⟩ := h4 (by show 0 < n0; omega)
 change xa = _ at e
 subst e
 change Calls _ _ #[.slice (some ⟨b0, o0, none⟩) n0 c0] _ _
 refine zzm (args := [.slice (some ⟨b0, o0, none⟩) n0 c0]) Tryz.func182 rfl Tryz.ntmps182 (rs := [.tmp 2]) Tryz.results182 (le_b rfl) (le_b rfl) d ?_
 refine sq9 (zza 2 (.v (.slice none 0 0)) (zzb (zzd (sq9 (zza 3 (.v (.slice (some ⟨b0, o0, none⟩) n0 c0)) (zza 4 (zB false) (zzb (zys xj (zzs (zzp ?_))))))))))
 refine sq9 (sy_lit 5 ⟨166, []⟩ 0 ?_)
 refine zza 6 (.v (.slice (some ⟨b0, o0, none⟩) n0 c0)) (sy_app1 7 (T := 185) (E := 166) (z := .agg #[.int .i64 0, .int .i64 0]) (size := 2) (bytes := 16) (b := b0) (off := o0) (m := n0) (c := c0) (n := 0) (cap := 0) (t := 5) (cs0 := []) [5, 7] (kcs L) xj xj xj yj (by rw [kcs_len hR, hn]) (fun j v hv => by have h9 := (List.getElem?_eq_some_iff.1 hv).1; rw [kcs_len hR] at h9; rw [hc j h9]; exact hv) kcs_one xq yv xq xq yj rfl xk ?_)
 intro c1 cs k1 k2 k3 k4
 refine zza 2 (.slc 7 0 (0 + n0) c1) (zzc 8 [(2, .slc 7 0 (0 + n0) c1)] [(7, ⟨166, cs⟩)] (zyp (r := 2) (t := 7) [2, 7] xk xj zk zk xj (fun b u2 e2 hb hh => ?_)))
 refine zzo (ret0 [.slice (some ⟨b, 0, none⟩) (0 + n0) c1] ⟨zzq, trivial⟩ fun u11 aa => ?_)
 rw [Nat.zero_add] at k1 k4
 change cs.take (n0 * 2) = kcs L at k4
 have e9 : cs = kcs L ++ cs.drop (n0 * 2) := by rw [← k4]; exact (List.take_append_drop (n0 * 2) cs).symm
 refine ⟨b, c1, cs.drop (n0 * 2), ?_, hb, ?_, by rw [← e9]; exact k3, k1, k2⟩
 ·show Value.slice _ (0 + n0) _ = _; rw [Nat.zero_add]
 rw [← e9]; exact aa.cells hh
set_option maxHeartbeats 1000000 in
theorem k_clone3 {u w : World} {x : Sl} {L : List (List Int)} (d : Dat u w) (hx : IrV 3 u x L) (h0 : 0 < L.length) (h9 : L.length ≤ 1000000000) : Calls Tryz.prog 186 #[x.v] w (Post u w fun v u' => ∃ (b c : Nat) (X : List Value), v = .slice (some ⟨b, 0, none⟩) x.n c ∧ u.heap.size ≤ b ∧ u'.heap[b]? = some (.cells (kcs L ++ X).toArray 177 (0, 0)) ∧ (kcs L ++ X).length = c * 3 ∧ x.n ≤ c ∧ c ≤ maxLen) := by
 have hn := hx.len
 obtain ⟨xa, n0, c0⟩ := x
 obtain ⟨hR, h1, h2, h3, h4⟩ := hx
 change n0 = L.length at hn
 obtain ⟨b0, o0, e, hb0, hc⟩ := h4 (by show 0 < n0; omega)
 change xa = _ at e
 subst e
 change Calls _ _ #[.slice (some ⟨b0, o0, none⟩) n0 c0] _ _
 refine zzm (args := [.slice (some ⟨b0, o0, none⟩) n0 c0]) Tryz.func186 rfl Tryz.ntmps186 (rs := [.tmp 2]) Tryz.results186 (le_b rfl) (le_b rfl) d ?_
 refine sq9 (zza 2 (.v (.slice none 0 0)) (zzb (zzd (sq9 (zza 3 (.v (.slice (some ⟨b0, o0, none⟩) n0 c0)) (zza 4 (zB false) (zzb (zys xj (zzs (zzp ?_))))))))))
 refine sq9 (sy_lit 5 ⟨177, []⟩ 0 ?_)
 refine zza 6 (.v (.slice (some ⟨b0, o0, none⟩) n0 c0)) (sy_app1 7 (T := 184) (E := 177) (z := .agg #[.int .i64 0, .int .i64 0, .int .i64 0]) (size := 3) (bytes := 24) (b := b0) (off := o0) (m := n0) (c := c0) (n := 0) (cap := 0) (t := 5) (cs0 := []) [5, 7] (kcs L) xj xj xj yj (by rw [kcs_len hR, hn]) (fun j v hv => by have h9 := (List.getElem?_eq_some_iff.1 hv).1; rw [kcs_len hR] at h9; rw [hc j h9]; exact hv) kcs_one xq yv xq xq yj rfl xk ?_)
 intro c1 cs k1 k2 k3 k4
 refine zza 2 (.slc 7 0 (0 + n0) c1) (zzc 8 [(2, .slc 7 0 (0 + n0) c1)] [(7, ⟨177, cs⟩)] (zyp (r := 2) (t := 7) [2, 7] xk xj zk zk xj (fun b u2 e2 hb hh => ?_)))
 refine zzo (ret0 [.slice (some ⟨b, 0, none⟩) (0 + n0) c1] ⟨zzq, trivial⟩ fun u11 aa => ?_)
 rw [Nat.zero_add] at k1 k4
 change cs.take (n0 * 3) = kcs L at k4
 have e9 : cs = kcs L ++ cs.drop (n0 * 3) := by rw [← k4]; exact (List.take_append_drop (n0 * 3) cs).symm
 refine ⟨b, c1, cs.drop (n0 * 3), ?_, hb, ?_, by rw [← e9]; exact k3, k1, k2⟩
 ·show Value.slice _ (0 + n0) _ = _; rw [Nat.zero_add]
 rw [← e9]; exact aa.cells hh
def Nt.smallB (l : List Int) : Bool := decide (∀ j, j < l.length → -16777216 ≤ l.getD j 0 ∧ l.getD j 0 ≤ 16777216)
theorem Nt.smallB_of {k i : Nat} {L : List (List Int)} (h : OkR k L) (hi : i < L.length) : Nt.smallB (L.getD i []) = true := decide_eq_true (fun j hj => by
 have h9 := h.bd hi (j := j) (by rw [(h.mem hi).1] at hj; exact hj)
 exact h9)
theorem k_cwithin {u w : World} {x : Sl} {l : List Int} (d : Dat u w) (hx : SlR .i64 u x.a x.n x.c l) (hb : ∀ z ∈ l, -9223372036854775808 ≤ z ∧ z ≤ 9223372036854775807) : Calls Tryz.prog 181 #[x.v] w (Post u w fun v _ => v = .bool (Nt.smallB l)) := by
 have hlen : l.length = x.n := hx.1
 have hmx8 := Nat.le_trans hx.2.1 hx.2.2.1
 unfold maxLen at hmx8
 refine zzm (args := [x.v]) Tryz.func181 rfl Tryz.ntmps181 (rs := [.tmp 2]) Tryz.results181 (le_b rfl) (le_b rfl) d ?_
 refine sq9 (zza 2 (zB false) (zzb (zzd (sq9 (zza 5 (.v (x.v)) (zza 6 (zI x.n) (zza 7 (zI 0) (zzb (zzt (zyn (I := fun af S' u' => ∃ (i : Nat), (af = x.n - i) ∧ (i ≤ x.n) ∧ (∀ j, j < i → -16777216 ≤ l.getD j 0 ∧ l.getD j 0 ≤ 16777216) ∧ (S' = St.of 18 [(5, .v (x.v)), (6, zI x.n), (7, zI i)] []) ∧ (Ext u u')) (fun m S u1 u2 e h => by obtain ⟨i, hm, p0, p1, hS, hE⟩ := h; exact ⟨i, hm, p0, p1, hS, hE.trans e⟩) _ yz ⟨0, rfl, Nat.zero_le _, fun j hj => absurd hj (Nat.not_lt_zero j), rfl, (Ext.refl _)⟩ ?_))))))))))
 rintro af _ u11 ⟨i, ah, hi, hs, rfl, ac⟩
 refine sq9 (zza 8 (zB (decide ((i : Int) < (x.n : Int)))) (zzb (zzd (zzu (b := decide ((i : Int) < (x.n : Int))) xj (fun aa => ?_) (fun aa => ?_)))))
 ·have qhb12 := of_decide_eq_true aa
  refine zzs (zzp ?_)
  refine zzd (zzt (sq9 ?_))
  have hl13 := ((hx.ext ac)).1
  obtain ⟨b13, ag, ad, ae⟩ := ints_at (hx.ext ac) (i := i) xq
  have hz13 := ints_bd hb xq i
  refine zya 9 (ag + i * 1) (n := x.n) (off := ag) (sz := 1) (i := (i : Int)) xq ad xq xq sl22 (zyl 10 (.int .i64 (l.getD i 0)) ae ty3 (zza 4 (zI (l.getD i 0)) (zzb (sq9 (zza 11 (zI (l.getD i 0)) (zza 12 (zB (decide ((l.getD i 0) < (-16777216)))) ?_))))))
  rcases Bool.eq_false_or_eq_true (decide ((l.getD i 0) < (-16777216))) with hs14 | hs14
  ·refine zyq 13 (x := zB (decide ((l.getD i 0) < (-16777216)))) (zB true) (by rw [hs14]) ?_
   have qhs14 := of_decide_eq_true hs14
   refine zzn 14 (uw 2 false true 13) (zzn 15 (uw 2 false true 13) (zza 16 (zB true) (zzb (zyr xj (sq9 (zza 2 (zB false) (zzb (zzo (zyu (zzw (zyt (zyu (zzw (ret0 [.bool false] ⟨zzq, trivial⟩ fun u15 e16 => ?_))))))))))))))
   show Value.bool _ = Value.bool _
   congr 1
   exact (decide_eq_false (fun k => by have h9 := k i xq; omega)).symm
  refine zyq 13 (x := zB (decide ((l.getD i 0) < (-16777216)))) (zB false) (by rw [hs14]) ?_
  have qhs14 := of_decide_eq_false hs14
  refine zza 14 (zI (l.getD i 0)) ?_ (hw := w1 2 false 13)
  refine zza 15 (zB (decide ((16777216 : Int) < (l.getD i 0)))) ?_ (hw := w1 2 false 13)
  refine zza 16 (zB (decide ((16777216 : Int) < (l.getD i 0)))) (zzb (zzu (b := decide ((16777216 : Int) < (l.getD i 0))) xj (fun ab => ?_) (fun ab => ?_)))
  ·have qhb17 := of_decide_eq_true ab
   refine sq9 (zza 2 (zB false) (zzb (zzo (zyu (zzw (zyt (zyu (zzw (ret0 [.bool false] ⟨zzq, trivial⟩ fun u18 e19 => ?_)))))))))
   show Value.bool _ = Value.bool _
   congr 1
   exact (decide_eq_false (fun k => by have h9 := k i xq; omega)).symm
  have qhb17 := of_decide_eq_false ab
  refine zzs (zzp ?_)
  refine zzf (zyq 17 (x := zI (IntKind.i64.wrap ((i : Int) + 1))) (zI (i + 1 : Nat)) (eqI yq) (zza 7 (zI (i + 1 : Nat)) (zzx ?_)))
  refine ⟨_, ?_, _, by exact zzv _ _ _, i + 1, rfl, by omega, (fun j hj => by by_cases e : j = i; (rw [e]; omega); exact hs j xq), rfl, ac⟩
  omega
 have qhb12 := of_decide_eq_false aa
 refine zyc (zzp (sq9 (zza 2 (zB true) (zzb (zzo (ret0 [.bool true] ⟨zzq, trivial⟩ fun u20 e21 => ?_))))))
 show Value.bool _ = Value.bool _
 congr 1
 exact (decide_eq_true (fun j hj => hs j xq)).symm
set_option maxHeartbeats 1000000 in
theorem k_cdelete {u w : World} {g n c i : Nat} {L : List (List Int)} {X : List Value} (d : Dat u w) (hg : w.heap[g]? = some (.cells (kcs L ++ X).toArray 177 (0, 0))) (hu : u.heap[g]? = some hidO) (hL : OkR 3 L) (hLn : L.length = n) (hcl : (kcs L ++ X).length = c * 3) (hi : i < n) (hnc : n ≤ c) (hn9 : n ≤ 1000) : Calls Tryz.prog 188 #[.slice (some ⟨g, 0, none⟩) n c, .int .i64 (i : Int), .int .i64 ((i + 1 : Nat) : Int)] w (PostS u w g c fun m V u' => m = n - 1 ∧ ∃ X', V = ⟨177, kcs (L.eraseIdx i) ++ X'⟩ ∧ (kcs (L.eraseIdx i) ++ X').length = c * 3) := by
 refine calls_lentS (args := [.int .i64 (i : Int), .int .i64 ((i + 1 : Nat) : Int)]) Tryz.func188 rfl Tryz.ntmps188 Tryz.results188 (le_b rfl) d hg hu ?_
 refine sq9 (zza 6 (.v (.slice none 0 0)) (zzb (sq9 (zza 8 (.slc 33 0 n c) (zza 9 (zI i) (zza 10 (zI (i + 1 : Nat)) (zza 11 (.slc 33 0 n c) (zza 12 (zI n) (sy_subO3 13 (off := 0) (n := n) (c := c) i (i + 1) n sl184 rfl rfl rfl xq xq xq (fun o11 ad => ?_))))))))))
 refine zzc 33 [(0, .slc 33 0 n c), (1, zI i), (2, zI (i + 1 : Nat))] [(33, ⟨177, kcs L ++ X⟩)] (zzd (sq9 (zza 14 (zI i) (zza 15 (zI (i + 1 : Nat)) (zza 16 (zB ((i : Int) == ((i + 1 : Nat) : Int))) (zzb (zzu (b := (i : Int) == ((i + 1 : Nat) : Int)) xj (fun hb => ?_) (fun hb => ?_))))))))
 ·exact absurd hb (by rw [show ((i : Int) == ((i + 1 : Nat) : Int)) = false from zq]; decide)
 clear hb
 refine zzs (zzp ?_)
 refine sq9 (zza 18 (.slc 33 0 n c) (zza 19 (zI n) (zza 7 (zI n) (zzc 33 [(0, .slc 33 0 n c), (1, zI i), (2, zI (i + 1 : Nat)), (7, zI n)] [(33, ⟨177, kcs L ++ X⟩)] (zzd (sw_anyC [0, 0, 3, 0, 0, 24, 63, 127] [(0, []), (1, []), (2, []), (3, []), (4, []), (5, []), (6, [])] [(7, [])] xj xj xj ?_))))))
 refine zza 20 (.slc 33 0 n c) (zza 21 (zI i) (sy_frontO 22 (n := n) (c := c) i sl184 rfl xq ?_))
 refine zza 23 (.slc 33 0 n c) (zza 24 (zI (i + 1 : Nat)) (sy_tailO 25 (off := 0) (n := n) (c := c) (i + 1) sl184 rfl xq xq (fun ab aa => ?_)))
 have hdl := del_rows (X := X) (zs := ics [0, 0, 0]) (OkR.rows hL) (i := i) xq rfl (off := ab) (fun h9 => by rw [aa, if_neg xq]; omega)
 refine sy_appT 26 (T := 184) (E := 177) (z := .agg #[.int .i64 0, .int .i64 0, .int .i64 0]) (size := 3) (bytes := 24) (off := ab) (m := n - (i + 1)) (c := c - (i + 1)) (t := 33) (n := i) (cap := c) (cs0 := kcs L ++ X) (ns := kcs (L.drop (i + 1))) xj xj hcl (by rw [aa, hcl]; split <;> omega) xq (by have h9 := hdl.1; rw [hLn] at h9; exact h9) kcs_one ?_
 refine zzx ?_
 refine sy_over 0 (.slc 33 0 (i + (n - (i + 1))) c) (zzc 33 [(0, .slc 33 0 (i + (n - (i + 1))) c), (7, zI n)] [(33, ⟨177, setL (kcs L ++ X) (i * 3) (kcs (L.drop (i + 1)))⟩)] (sq9 (zza 27 (.slc 33 0 (i + (n - (i + 1))) c) (zza 28 (.slc 33 0 (i + (n - (i + 1))) c) (zza 29 (zI ((i + (n - (i + 1)) : Nat) : Int)) (zza 30 (zI n) (sy_subO2 31 (off := 0) (n := (i + (n - (i + 1)))) (c := c) (i + (n - (i + 1))) n sl184 rfl rfl xq xq (fun o9 ac => ?_))))))))
 have e9 : o9 = (L.length - 1) * 3 := by rw [ac, if_neg xq, hLn]; omega
 refine sy_clear1 (T := 184) (E := 177) (z := .agg #[.int .i64 0, .int .i64 0, .int .i64 0]) (size := 3) (bytes := 24) (off := o9) (m := n - (i + (n - (i + 1)))) (c := c - (i + (n - (i + 1)))) (t := 33) (cs0 := setL (kcs L ++ X) (i * 3) (kcs (L.drop (i + 1)))) (zs := ics [0, 0, 0]) xj xj xq xj (by rw [e9, setL_length (by rw [kcs_len (OkR.drop hL).rows, List.length_drop, hcl, hLn]; omega), hcl]; show _ + 3 ≤ _; omega) ics_one ?_
 rw [e9, hdl.2]
 refine zzc 33 [(0, .slc 33 0 (i + (n - (i + 1))) c)] [(33, ⟨177, kcs (L.eraseIdx i) ++ (ics [0, 0, 0] ++ X)⟩)] (sq9 (zza 32 (.slc 33 0 (i + (n - (i + 1))) c) (zza 6 (.slc 33 0 (i + (n - (i + 1))) c) (zzc 33 [(6, .slc 33 0 (i + (n - (i + 1))) c)] [(33, ⟨177, kcs (L.eraseIdx i) ++ (ics [0, 0, 0] ++ X)⟩)] (zzo (lentS_ret (V := ⟨177, kcs (L.eraseIdx i) ++ (ics [0, 0, 0] ++ X)⟩) (i + (n - (i + 1))) rfl rfl zzq (fun _ _ => ⟨by omega, ics [0, 0, 0] ++ X, rfl, ?_⟩)))))))
 rw [List.length_append, kcs_len (OkR.erase hL).rows, List.length_eraseIdx, if_pos xq, List.length_append, hLn]
 rw [List.length_append, kcs_len hL.rows, hLn] at hcl
 show _ + (3 + _) = _; omega
instance {k : Nat} {L : List (List Int)} : Decidable (OkR k L) := by unfold OkR; exact inferInstance
instance {k : Nat} {L : List (List Int)} : Decidable (Rows k L) := by unfold Rows; exact inferInstance
theorem okR_fill {A : List (List Int)} {m : Nat} (h : OkR 5 A) : OkR 5 (List.replicate m [0, 0, 0, 0, 0] ++ A) := fun p hp => by
 rcases List.mem_append.1 hp with hp | hp
 ·rw [(List.mem_replicate.1 hp).2]; decide
 exact h p hp
theorem okR_cons5 {A : List (List Int)} {a b c d e : Int} (h : OkR 5 A) (ha : -16777216 ≤ a ∧ a ≤ 16777216) (hb : -16777216 ≤ b ∧ b ≤ 16777216) (hc : -16777216 ≤ c ∧ c ≤ 16777216) (hd : -16777216 ≤ d ∧ d ≤ 16777216) (he : -16777216 ≤ e ∧ e ≤ 16777216) : OkR 5 ([a, b, c, d, e] :: A) := fun p hp => by
 rcases List.mem_cons.1 hp with rfl | hp
 ·refine ⟨rfl, fun z hz => ?_⟩
  simp at hz
  rcases hz with rfl | rfl | rfl | rfl | rfl
  ·exact ha
  ·exact hb
  ·exact hc
  ·exact hd
  exact he
 exact h p hp
theorem Nt.best_in {Z : List (List Int)} {a b : Int} {n j : Nat} (h : 0 < n) (hj : j ≤ n) : Nt.bestR Z a b j < n := by
 cases j with
 | zero => exact h
 | succ j => have := Nt.bestR_lt (Z := Z) (a0 := a) (a1 := b) (n := j + 1) xq; omega
set_option maxHeartbeats 8000000 in
theorem k_cpair {u w : World} {x y : Sl} {Z D : List (List Int)} (d : Dat u w) (hx : IrV 3 u x Z) (hy : IrV 2 u y D) (hZ : OkR 3 Z) (hD : OkR 2 D) (hl : Z.length = D.length) (h0 : 0 < D.length) (h8 : D.length ≤ 8) : Calls Tryz.prog 135 #[x.v, y.v] w (Post u w fun v u' => ∃ z : Sl, v = .tuple #[z.v, .int .i64 0] ∧ IrV 5 u' z (Nt.pairR (Nt.sortR D) Z [])) := by
 have hlx := hx.len
 have hly := hy.len
 obtain ⟨ya, yn, yc⟩ := y
 change yn = D.length at hly
 obtain rfl : yn = x.n := by omega
 refine zzm (args := [x.v, .slice ya x.n yc]) Tryz.func135 rfl Tryz.ntmps135 (rs := [.tmp 4, .tmp 5]) Tryz.results135 (le_b rfl) (le_b rfl) d ?_
 refine sq9 (zza 4 (.v (.slice none 0 0)) (zza 5 (zI 0) (zzb (zzd (sq9 (zza 14 (.v (x.v)) (zza 15 (zI x.n) (zza 16 (.v (.slice ya x.n yc)) (zza 17 (zI x.n) (zza 18 (zB ((x.n : Int) != (x.n : Int))) (zyq 19 (x := zB ((x.n : Int) != (x.n : Int))) (zB false) (by rw [show ((x.n : Int) != (x.n : Int)) = false from (by first | (simp; done) | (simp; omega))]) ?_)))))))))))
 refine zza 20 (.v (x.v)) ?_ (hw := w1 5 false 19)
 refine zza 21 (zI x.n) ?_ (hw := w1 5 false 19)
 refine zza 22 (zB (decide ((x.n : Int) < 1))) ?_ (hw := w1 5 false 19)
 refine zza 23 (zB (decide ((x.n : Int) < 1))) (zyq 24 (x := zB (decide ((x.n : Int) < 1))) (zB false) (by rw [show (decide ((x.n : Int) < 1)) = false from decide_eq_false xq]) (zza 25 (.v (x.v)) ?_ (hw := w1 10 false 24)))
 refine zza 26 (zI x.n) ?_ (hw := w1 10 false 24)
 refine zza 27 (zB (decide ((8 : Int) < (x.n : Int)))) ?_ (hw := w1 10 false 24)
 refine zza 28 (zB (decide ((8 : Int) < (x.n : Int)))) (zzb (zzu (b := decide ((8 : Int) < (x.n : Int))) xj (fun hb => ?_) (fun hb => ?_)))
 ·exact absurd hb (by rw [show (decide ((8 : Int) < (x.n : Int))) = false from decide_eq_false xq]; decide)
 clear hb
 refine zzs (zzp ?_)
 refine zzd (sq9 (zza 29 (.v (x.v)) (zza 30 (zI x.n) (zza 31 (zI 0) (zzb (zzt (zyn (I := fun aZ S' u' => ∃ (i : Nat), (aZ = x.n - i) ∧ (i ≤ x.n) ∧ (S' = St.of 105 [(0, .v (x.v)), (1, .v (.slice ya x.n yc)), (30, zI x.n), (31, zI i)] []) ∧ (Ext u u')) (fun m S u1 u2 e h => by obtain ⟨i, hm, p0, hS, hE⟩ := h; exact ⟨i, hm, p0, hS, hE.trans e⟩) _ yz ⟨0, rfl, Nat.zero_le _, rfl, (Ext.refl _)⟩ ?_)))))))
 rintro aZ _ u13 ⟨i, bo, hi, rfl, ad⟩
 refine sq9 (zza 32 (zB (decide ((i : Int) < (x.n : Int)))) (zzb (zzd (zzu (b := decide ((i : Int) < (x.n : Int))) xj (fun af => ?_) (fun af => ?_)))))
 ·have qhb14 := of_decide_eq_true af
  refine zzs (zzp ?_)
  refine zzd (zzt (sq9 (zza 33 (zI i) (zza 6 (zI i) (zzb (sq9 (zza 34 (.v (x.v)) (zza 35 (zI i) ?_))))))))
  have hl15 := ((hx.ext ad)).len
  obtain ⟨ay, ap, aK, aG⟩ := ir_row (hx.ext ad) (i := i) xq yv
  refine zya 36 (ap + i * 3) (n := x.n) (off := ap) (sz := 3) (i := (i : Int)) xq aK xq xq sl184 (zza 37 (.v (.slice (some ⟨ay, ap + i * 3, none⟩) 3 3)) (zzg 38 181 _ fun _ _ ar bb => Post.mono ((show Calls _ _ #[.slice (some ⟨ay, ap + i * 3, none⟩) 3 3] _ _ from k_cwithin (x := (⟨some ⟨ay, ap + i * 3, none⟩, 3, 3⟩ : Sl)) bb (aG.ext ar) (fun z hz => by have h9 := (OkR.mem hZ (i := i) xq).2 z hz; omega))) ?_))
  rintro _ u17 aE rfl
  refine zza 39 (zB (!(Nt.smallB (Z.getD i [])))) (zyq 40 (x := zB (!(Nt.smallB (Z.getD i [])))) (zB false) (by rw [show (!(Nt.smallB (Z.getD i []))) = false from (by rw [Nt.smallB_of hZ xq]; rfl)]) (zza 41 (.v (.slice ya x.n yc)) ?_ (hw := w1 6 false 40)))
  refine zza 42 (zI i) ?_ (hw := w1 6 false 40)
  have hl21 := ((hy.ext (ad.t (ar.t aE.ext)))).len
  change x.n = _ at hl21
  obtain ⟨aL, ak, ax, aI⟩ := ir_row (hy.ext (ad.t (ar.t aE.ext))) (i := i) xq yv
  refine zya 43 (ak + i * 2) (n := x.n) (off := ak) (sz := 2) (i := (i : Int)) xq ax xq xq sl185 ?_ (hw := w1 6 false 40)
  refine zza 44 (.v (.slice (some ⟨aL, ak + i * 2, none⟩) 2 2)) ?_ (hw := w1 6 false 40)
  refine zzg 45 181 _ (fun _ _ aW bc => Post.mono ((show Calls _ _ #[.slice (some ⟨aL, ak + i * 2, none⟩) 2 2] _ _ from k_cwithin (x := (⟨some ⟨aL, ak + i * 2, none⟩, 2, 2⟩ : Sl)) bc (aI.ext aW) (fun z hz => by have h9 := (OkR.mem hD (i := i) xq).2 z hz; omega))) ?_) (hw := w1 6 false 40)
  rintro _ u23 bt rfl
  refine zza 46 (zB (!(Nt.smallB (D.getD i [])))) ?_ (hw := w1 6 false 40)
  refine zza 47 (zB (!(Nt.smallB (D.getD i [])))) (zzc 105 [(0, .v (x.v)), (1, .v (.slice ya x.n yc)), (30, zI x.n), (31, zI i), (47, zB (!(Nt.smallB (D.getD i []))))] [] (zzu (b := !(Nt.smallB (D.getD i []))) xj (fun hb => ?_) (fun hb => ?_)))
  ·exact absurd hb (by rw [show (!(Nt.smallB (D.getD i []))) = false from (by rw [Nt.smallB_of hD xq]; rfl)]; decide)
  clear hb
  refine zzs (zzp ?_)
  refine zzf (zyq 48 (x := zI (IntKind.i64.wrap ((i : Int) + 1))) (zI (i + 1 : Nat)) (eqI yq) (zza 31 (zI (i + 1 : Nat)) (zzx ?_)))
  refine ⟨_, ?_, _, by exact zzv _ _ _, i + 1, rfl, by omega, rfl, (ad.t (ar.t (aE.t (aW.t bt.ext))))⟩
  omega
 have qhb14 := of_decide_eq_false af
 refine zyc (zzp (sq9 (zza 49 (.v (.slice ya x.n yc)) (zzg 50 182 _ fun _ _ au a8 => Post.mono (k_clone2 a8 (hy.ext (ad.trans au)) xq xq) ?_))))
 rintro _ u35 aM ⟨bi, aa, ac, rfl, ae, aA, aS, aU, aV⟩
 refine zza 7 (.v (.slice (some ⟨bi, 0, none⟩) x.n aa)) (zzb (zzd (sw_adopt (r := 7) (k := 50) (cs := kcs D ++ ac) zk aA (Nat.le_trans ((ad.trans au).size) ae) xj (fun a7 ao => ?_))))
 refine zzf (zza 51 (.slc 50 0 x.n aa) ?_)
 have kc40 := fun (g : Nat) (w u1 : World) (e : Ext a7 u1) (d : Dat u1 w) (hg : w.heap[g]? = some (.cells (kcs D ++ ac).toArray 166 (0, 0))) (hu : u1.heap[g]? = some hidO) => k_csort (n := x.n) (c := aa) d hg hu hD (show D.length = x.n by omega) xq
 refine sy_lend 52 183 (t := 50) (V := ⟨166, kcs D ++ ac⟩) (len := x.n) (cap := aa) [.func (.func 184) #[] #[]] xj kc40 ?_
 clear kc40
 rintro _ u40 aQ rfl
 refine zzc 105 [(0, .v (x.v)), (7, .slc 50 0 x.n aa)] [(50, ⟨166, kcs (Nt.sortR D) ++ ac⟩)] (sq9 (zza 53 (.v (x.v)) (zzg 54 186 _ fun _ _ a3 a6 => Post.mono (k_clone3 a6 (hx.ext (ad.trans (au.trans ((ExtB.old ao aM.ext ae).trans (aQ.trans a3))))) xq xq) ?_)))
 rintro _ u50 g51 ⟨bp, ab, aH, rfl, aB, aF, am, aN, aT⟩
 refine zza 8 (.v (.slice (some ⟨bp, 0, none⟩) x.n ab)) (zzb (zzd (sw_adopt (r := 8) (k := 54) (cs := kcs Z ++ aH) zk aF (Nat.le_trans ((ad.trans (au.trans ((ExtB.old ao aM.ext ae).trans (aQ.trans a3)))).size) aB) xj (fun bu bq => ?_))))
 refine zzf (zza 55 (.slc 50 0 x.n aa) (zza 56 (zI x.n) (sy_make 57 (T := 101) (E := 179) (z := .agg #[.int .i64 0, .int .i64 0, .int .i64 0, .int .i64 0, .int .i64 0]) (size := 5) (bytes := 40) x.n (kcs (List.replicate x.n [0, 0, 0, 0, 0] ++ []) ++ []) xj xj rfl rfl xq yv (by rw [List.append_nil, List.append_nil]; exact made_k (z := [0, 0, 0, 0, 0]) rfl yj _) ?_)))
 refine zza 9 (.slc 57 0 x.n x.n) (zzc 105 [(7, .slc 50 0 x.n aa), (8, .slc 54 0 x.n ab), (9, .slc 57 0 x.n x.n)] [(50, ⟨166, kcs (Nt.sortR D) ++ ac⟩), (54, ⟨177, kcs Z ++ aH⟩), (57, ⟨179, kcs (List.replicate x.n [0, 0, 0, 0, 0] ++ []) ++ []⟩)] (zzd (sq9 (zza 58 (.slc 50 0 x.n aa) (zza 59 (zI x.n) (zza 60 (zI 0) (zzb (zzt (zyn (I := fun a2 S' u' => ∃ (i : Nat) (Z' : List (List Int)) (X' : List Value) (A' : List (List Int)), (a2 = x.n - i) ∧ (i ≤ x.n) ∧ (OkR 3 Z') ∧ (Z'.length = x.n - i) ∧ ((kcs Z' ++ X').length = ab * 3) ∧ (OkR 5 A') ∧ (A'.length = i) ∧ (Nt.pairR ((Nt.sortR D).drop i) Z' A' = Nt.pairR (Nt.sortR D) Z []) ∧ (S' = St.of 105 [(7, .slc 50 0 x.n aa), (8, .slc 54 0 (x.n - i) ab), (9, .slc 57 0 x.n x.n), (58, .slc 50 0 x.n aa), (59, zI x.n), (60, zI i)] [(50, ⟨166, kcs (Nt.sortR D) ++ ac⟩), (54, ⟨177, kcs Z' ++ X'⟩), (57, ⟨179, kcs (List.replicate (x.n - i) [0, 0, 0, 0, 0] ++ A') ++ []⟩)]) ∧ (Ext bu u')) (fun m S u1 u2 e h => by obtain ⟨i, Z', X', A', hm, p0, p1, p2, p3, p4, p5, p6, hS, hE⟩ := h; exact ⟨i, Z', X', A', hm, p0, p1, p2, p3, p4, p5, p6, hS, hE.trans e⟩) _ yz ⟨0, Z, aH, [], rfl, Nat.zero_le _, hZ, xq, am, (fun p hp => by cases hp), rfl, rfl, rfl, (Ext.refl _)⟩ ?_)))))))))
 rintro a2 _ bn ⟨i, Z', X', A', bj, hi1, hZ', hZn', hX', hA', hAn', hP', rfl, bl⟩
 have al : OkR 5 (List.replicate (x.n - i) [0, 0, 0, 0, 0] ++ A') := okR_fill hA'
 have an : (List.replicate (x.n - i) [0, 0, 0, 0, 0] ++ A').length = x.n := by rw [List.length_append, List.length_replicate, hAn']; omega
 refine sq9 (zza 61 (zB (decide ((i : Int) < (x.n : Int)))) (zzb (zzd (zzu (b := decide ((i : Int) < (x.n : Int))) xj (fun ai => ?_) (fun ai => ?_)))))
 ·have qhb56 := of_decide_eq_true ai
  refine zzs (zzp ?_)
  refine zzd (zzt (sq9 (zza 62 (zI i) (zyw 63 (off' := i * 2) (n := x.n) (off := 0) (sz := 2) (i := (i : Int)) sl185 xq xq xq ?_))))
  refine zzi 64 (V := ⟨166, kcs (Nt.sortR D) ++ ac⟩) (off := i * 2) (.v (.agg #[.int .i64 (gi (Nt.sortR D) i 0), .int .i64 (gi (Nt.sortR D) i 1)])) ty166 (part_k2 (OkR.rows (Nt.sortR_ok hD (by rw [(show D.length = x.n by omega)]; omega))) (i := i) (by rw [(Nt.sortR_len.trans (show D.length = x.n by omega))]; omega) rfl) ?_
  have hz570 := OkR.bd (Nt.sortR_ok hD (by rw [(show D.length = x.n by omega)]; omega)) (i := i) (j := 0) (by rw [(Nt.sortR_len.trans (show D.length = x.n by omega))]; omega) yj
  have hz571 := OkR.bd (Nt.sortR_ok hD (by rw [(show D.length = x.n by omega)]; omega)) (i := i) (j := 1) (by rw [(Nt.sortR_len.trans (show D.length = x.n by omega))]; omega) yj
  refine zzk 11 ⟨166, [.int .i64 0, .int .i64 0]⟩ (zza 10 (zI i) (zzj ⟨166, [.int .i64 (gi (Nt.sortR D) i 0), .int .i64 (gi (Nt.sortR D) i 1)]⟩ ty166 ?_))
  refine zzc 105 [(7, .slc 50 0 x.n aa), (8, .slc 54 0 (x.n - i) ab), (9, .slc 57 0 x.n x.n), (10, zI i), (11, .adr 11 0), (58, .slc 50 0 x.n aa), (59, zI x.n), (60, zI i)] [(11, ⟨166, [.int .i64 (gi (Nt.sortR D) i 0), .int .i64 (gi (Nt.sortR D) i 1)]⟩), (50, ⟨166, kcs (Nt.sortR D) ++ ac⟩), (54, ⟨177, kcs Z' ++ X'⟩), (57, ⟨179, kcs (List.replicate (x.n - i) [0, 0, 0, 0, 0] ++ A') ++ []⟩)] (sq9 (zza 12 (zI 0) (zzb (zzd (sq9 (zza 65 (.slc 54 0 (x.n - i) ab) (zza 66 (zI (x.n - i : Nat)) (zza 67 (zI 0) (zzc 105 [(7, .slc 50 0 x.n aa), (8, .slc 54 0 (x.n - i) ab), (9, .slc 57 0 x.n x.n), (10, zI i), (11, .adr 11 0), (12, zI 0), (58, .slc 50 0 x.n aa), (59, zI x.n), (60, zI i), (66, zI (x.n - i : Nat)), (67, zI 0)] [(11, ⟨166, [.int .i64 (gi (Nt.sortR D) i 0), .int .i64 (gi (Nt.sortR D) i 1)]⟩), (50, ⟨166, kcs (Nt.sortR D) ++ ac⟩), (54, ⟨177, kcs Z' ++ X'⟩), (57, ⟨179, kcs (List.replicate (x.n - i) [0, 0, 0, 0, 0] ++ A') ++ []⟩)] (zzt (zyn (I := fun aY S' u' => ∃ (j : Nat) (m : Nat), (aY = x.n - i - j) ∧ (j ≤ x.n - i) ∧ (m = Nt.bestR Z' (gi (Nt.sortR D) i 0) (gi (Nt.sortR D) i 1) j) ∧ (S' = St.of 105 [(7, .slc 50 0 x.n aa), (8, .slc 54 0 (x.n - i) ab), (9, .slc 57 0 x.n x.n), (10, zI i), (11, .adr 11 0), (12, zI m), (58, .slc 50 0 x.n aa), (59, zI x.n), (60, zI i), (66, zI (x.n - i : Nat)), (67, zI j)] [(11, ⟨166, [.int .i64 (gi (Nt.sortR D) i 0), .int .i64 (gi (Nt.sortR D) i 1)]⟩), (50, ⟨166, kcs (Nt.sortR D) ++ ac⟩), (54, ⟨177, kcs Z' ++ X'⟩), (57, ⟨179, kcs (List.replicate (x.n - i) [0, 0, 0, 0, 0] ++ A') ++ []⟩)]) ∧ (Ext bn u')) (fun m S u1 u2 e h => by obtain ⟨j, m, hm, p0, p1, hS, hE⟩ := h; exact ⟨j, m, hm, p0, p1, hS, hE.trans e⟩) _ yz ⟨0, 0, rfl, Nat.zero_le _, rfl, rfl, (Ext.refl _)⟩ ?_)))))))))))
  rintro aY _ be ⟨j, m, a9, hj, hm, rfl, aC⟩
  have hmL : m < x.n - i := by rw [hm]; exact Nt.best_in xq hj
  refine sq9 (zza 68 (zB (decide ((j : Int) < ((x.n - i : Nat) : Int)))) (zzb (zzd (zzu (b := decide ((j : Int) < ((x.n - i : Nat) : Int))) xj (fun ah => ?_) (fun ah => ?_)))))
  ·have qhb59 := of_decide_eq_true ah
   refine zzs (zzp ?_)
   refine zzd (zzt (sq9 (zza 69 (zI j) (zza 13 (zI j) (zzb (zzd (zzz [0, 0, 3, 7, 0, 31, 0, 0, 192, 448, 0, 2047, 4095] [(0, []), (1, []), (2, []), (3, []), (4, []), (6, []), (7, []), (8, []), (9, []), (10, []), (5, []), (11, []), (12, [])] xj xj (zza 70 (.slc 54 0 (x.n - i) ab) (zza 71 (zI j) (zyw 72 (off' := j * 3) (n := (x.n - i)) (off := 0) (sz := 3) (i := (j : Int)) sl184 xq xq xq ?_))))))))))
   refine zzi 73 (V := ⟨177, kcs Z' ++ X'⟩) (off := j * 3) (.v (.agg #[.int .i64 (gi Z' j 0), .int .i64 (gi Z' j 1), .int .i64 (gi Z' j 2)])) ty177 (part_k3 (OkR.rows hZ') (i := j) (by rw [hZn']; omega) rfl) ?_
   have hz600 := OkR.bd hZ' (i := j) (j := 0) (by rw [hZn']; omega) yj
   have hz601 := OkR.bd hZ' (i := j) (j := 1) (by rw [hZn']; omega) yj
   have hz602 := OkR.bd hZ' (i := j) (j := 2) (by rw [hZn']; omega) yj
   refine zzi 74 (.v (.agg #[.int .i64 (gi (Nt.sortR D) i 0), .int .i64 (gi (Nt.sortR D) i 1)])) ty166 zze (zza 76 (.slc 54 0 (x.n - i) ab) (zza 77 (zI m) (zyw 78 (off' := m * 3) (n := (x.n - i)) (off := 0) (sz := 3) (i := (m : Int)) sl184 xq xq xq ?_)))
   refine zzi 79 (V := ⟨177, kcs Z' ++ X'⟩) (off := m * 3) (.v (.agg #[.int .i64 (gi Z' m 0), .int .i64 (gi Z' m 1), .int .i64 (gi Z' m 2)])) ty177 (part_k3 (OkR.rows hZ') (i := m) (by rw [hZn']; omega) rfl) ?_
   have hz610 := OkR.bd hZ' (i := m) (j := 0) (by rw [hZn']; omega) yj
   have hz611 := OkR.bd hZ' (i := m) (j := 1) (by rw [hZn']; omega) yj
   have hz612 := OkR.bd hZ' (i := m) (j := 2) (by rw [hZn']; omega) yj
   refine zzi 80 (.v (.agg #[.int .i64 (gi (Nt.sortR D) i 0), .int .i64 (gi (Nt.sortR D) i 1)])) ty166 zze (zzg 75 187 _ fun _ _ aR bh => Post.mono (k_cdist (b0 := gi Z' j 0) (b1 := gi Z' j 1) (b2 := gi Z' j 2) (a0 := gi (Nt.sortR D) i 0) (a1 := gi (Nt.sortR D) i 1) bh xq xq xq xq) ?_)
   rintro _ u63 aO rfl
   have hdz66 := Nt.dist_bd (b1 := gi Z' j 1) (b2 := gi Z' j 2) (a0 := gi (Nt.sortR D) i 0) (a1 := gi (Nt.sortR D) i 1) xq xq xq xq
   refine zzg 81 187 _ fun _ _ aX a4 => Post.mono (k_cdist (b0 := gi Z' m 0) (b1 := gi Z' m 1) (b2 := gi Z' m 2) (a0 := gi (Nt.sortR D) i 0) (a1 := gi (Nt.sortR D) i 1) a4 xq xq xq xq) ?_
   rintro _ u68 aP rfl
   have hdz71 := Nt.dist_bd (b1 := gi Z' m 1) (b2 := gi Z' m 2) (a0 := gi (Nt.sortR D) i 0) (a1 := gi (Nt.sortR D) i 1) xq xq xq xq
   refine zza 82 (zB (decide ((Nt.distZ (gi Z' j 1) (gi Z' j 2) (gi (Nt.sortR D) i 0) (gi (Nt.sortR D) i 1)) < (Nt.distZ (gi Z' m 1) (gi Z' m 2) (gi (Nt.sortR D) i 0) (gi (Nt.sortR D) i 1))))) (zzc 105 [(7, .slc 50 0 x.n aa), (8, .slc 54 0 (x.n - i) ab), (9, .slc 57 0 x.n x.n), (10, zI i), (11, .adr 11 0), (12, zI m), (13, zI j), (58, .slc 50 0 x.n aa), (59, zI x.n), (60, zI i), (66, zI (x.n - i : Nat)), (67, zI j), (82, zB (decide ((Nt.distZ (gi Z' j 1) (gi Z' j 2) (gi (Nt.sortR D) i 0) (gi (Nt.sortR D) i 1)) < (Nt.distZ (gi Z' m 1) (gi Z' m 2) (gi (Nt.sortR D) i 0) (gi (Nt.sortR D) i 1)))))] [(11, ⟨166, [.int .i64 (gi (Nt.sortR D) i 0), .int .i64 (gi (Nt.sortR D) i 1)]⟩), (50, ⟨166, kcs (Nt.sortR D) ++ ac⟩), (54, ⟨177, kcs Z' ++ X'⟩), (57, ⟨179, kcs (List.replicate (x.n - i) [0, 0, 0, 0, 0] ++ A') ++ []⟩)] (zzu (b := decide ((Nt.distZ (gi Z' j 1) (gi Z' j 2) (gi (Nt.sortR D) i 0) (gi (Nt.sortR D) i 1)) < (Nt.distZ (gi Z' m 1) (gi Z' m 2) (gi (Nt.sortR D) i 0) (gi (Nt.sortR D) i 1)))) xj (fun ag => ?_) (fun ag => ?_)))
   ·have qhb72 := of_decide_eq_true ag
    refine zzf (zza 83 (zI j) (zza 12 (zI j) (zzx ?_)))
    refine zzp (zzf (zyq 84 (x := zI (IntKind.i64.wrap ((j : Int) + 1))) (zI (j + 1 : Nat)) (eqI yq) (zza 67 (zI (j + 1 : Nat)) (zzx ?_))))
    refine ⟨_, ?_, _, by exact zzv _ _ _, j + 1, j, rfl, by omega, (by have h9 := qhb72; rw [hm] at h9; exact (Nt.best_yes h9).symm), rfl, (aC.t (aR.t (aO.t (aX.t aP.ext))))⟩
    omega
   have qhb72 := of_decide_eq_false ag
   refine zzs (zzp ?_)
   refine zzf (zyq 84 (x := zI (IntKind.i64.wrap ((j : Int) + 1))) (zI (j + 1 : Nat)) (eqI yq) (zza 67 (zI (j + 1 : Nat)) (zzx ?_)))
   refine ⟨_, ?_, _, by exact zzv _ _ _, j + 1, m, rfl, by omega, (by have h9 := qhb72; rw [hm] at h9; exact hm.trans (Nt.best_no h9).symm), rfl, (aC.t (aR.t (aO.t (aX.t aP.ext))))⟩
   omega
  have qhb59 := of_decide_eq_false ah
  refine zyc (zzp (zzd (zzz [0, 0, 2, 6, 0, 30, 0, 0, 192, 448, 0, 1984, 4095, 8191] [(0, []), (1, []), (2, []), (3, []), (4, []), (5, []), (6, []), (7, []), (8, []), (9, []), (10, []), (11, []), (12, []), (13, [])] xj xj (zza 85 (.slc 57 0 x.n x.n) (zza 86 (.slc 50 0 x.n aa) (zza 87 (zI x.n) (zyq 88 (x := zI (IntKind.i64.wrap ((x.n : Int) - 1))) (zI (x.n - 1 : Nat)) (eqI yq) (zza 89 (zI i) (zyq 90 (x := zI (IntKind.i64.wrap (((x.n - 1 : Nat) : Int) - (i : Int)))) (zI (((x.n - 1) - i : Nat) : Int)) (eqI yq) (zza 91 (.slc 54 0 (x.n - i) ab) (zza 92 (zI m) ?_)))))))))))
  refine zyw 93 (off' := m * 3) (n := (x.n - i)) (off := 0) (sz := 3) (i := (m : Int)) sl184 xq xq xq ?_
  refine zzi 94 (V := ⟨177, kcs Z' ++ X'⟩) (off := m * 3) (.v (.agg #[.int .i64 (gi Z' m 0), .int .i64 (gi Z' m 1), .int .i64 (gi Z' m 2)])) ty177 (part_k3 (OkR.rows hZ') (i := m) (by rw [hZn']; omega) rfl) ?_
  have hz730 := OkR.bd hZ' (i := m) (j := 0) (by rw [hZn']; omega) yj
  have hz731 := OkR.bd hZ' (i := m) (j := 1) (by rw [hZn']; omega) yj
  have hz732 := OkR.bd hZ' (i := m) (j := 2) (by rw [hZn']; omega) yj
  refine zzi 95 (.v (.agg #[.int .i64 (gi (Nt.sortR D) i 0), .int .i64 (gi (Nt.sortR D) i 1)])) ty166 zze (zza 96 (.v (.agg #[.int .i64 (gi Z' m 0), .int .i64 (gi Z' m 1), .int .i64 (gi Z' m 2), .int .i64 (gi (Nt.sortR D) i 0), .int .i64 (gi (Nt.sortR D) i 1)])) (zyw 97 (off' := ((x.n - 1) - i) * 5) (n := x.n) (off := 0) (sz := 5) (i := (((x.n - 1) - i : Nat) : Int)) sl101 xq xq xq ?_))
  have aq : OkR 5 ([gi Z' m 0, gi Z' m 1, gi Z' m 2, gi (Nt.sortR D) i 0, gi (Nt.sortR D) i 1] :: A') := okR_cons5 hA' xq xq xq xq xq
  have bm : OkR 5 (List.replicate (x.n - (i + 1)) [0, 0, 0, 0, 0] ++ ([gi Z' m 0, gi Z' m 1, gi Z' m 2, gi (Nt.sortR D) i 0, gi (Nt.sortR D) i 1] :: A')) := okR_fill aq
  have bk : (List.replicate (x.n - (i + 1)) [0, 0, 0, 0, 0] ++ ([gi Z' m 0, gi Z' m 1, gi Z' m 2, gi (Nt.sortR D) i 0, gi (Nt.sortR D) i 1] :: A')).length = x.n := by rw [List.length_append, List.length_replicate, List.length_cons, hAn']; omega
  refine zyv (V := ⟨179, kcs (List.replicate (x.n - i) [0, 0, 0, 0, 0] ++ A') ++ []⟩) (off := ((x.n - 1) - i) * 5) (kcs (List.replicate (x.n - (i + 1)) [0, 0, 0, 0, 0] ++ ([gi Z' m 0, gi Z' m 1, gi Z' m 2, gi (Nt.sortR D) i 0, gi (Nt.sortR D) i 1] :: A')) ++ []) ty179 (by rw [List.length_append, kcs_len (OkR.rows al), an]; omega) (by rw [← Nt.fill_back (z := [0, 0, 0, 0, 0]) (show i < x.n by omega) [gi Z' m 0, gi Z' m 1, gi Z' m 2, gi (Nt.sortR D) i 0, gi (Nt.sortR D) i 1]]; exact (setL_k5 (OkR.rows al) (i := (x.n - 1) - i) (by rw [an]; omega) rfl)) ?_
  refine zzc 105 [(7, .slc 50 0 x.n aa), (8, .slc 54 0 (x.n - i) ab), (9, .slc 57 0 x.n x.n), (12, zI m), (58, .slc 50 0 x.n aa), (59, zI x.n), (60, zI i)] [(50, ⟨166, kcs (Nt.sortR D) ++ ac⟩), (54, ⟨177, kcs Z' ++ X'⟩), (57, ⟨179, kcs (List.replicate (x.n - (i + 1)) [0, 0, 0, 0, 0] ++ ([gi Z' m 0, gi Z' m 1, gi Z' m 2, gi (Nt.sortR D) i 0, gi (Nt.sortR D) i 1] :: A')) ++ []⟩)] (zzf (zza 98 (.slc 54 0 (x.n - i) ab) (zza 99 (zI m) (zza 100 (zI m) (zyq 101 (x := zI (IntKind.i64.wrap ((m : Int) + 1))) (zI (m + 1 : Nat)) (eqI yq) ?_)))))
  have kc75 := fun (g : Nat) (w u1 : World) (e : Ext be u1) (d : Dat u1 w) (hg : w.heap[g]? = some (.cells (kcs Z' ++ X').toArray 177 (0, 0))) (hu : u1.heap[g]? = some hidO) => k_cdelete (n := x.n - i) (c := ab) (i := m) d hg hu hZ' hZn' hX' xq xq xq
  refine sy_lendS 102 188 (t := 54) (V := ⟨177, kcs Z' ++ X'⟩) (len := (x.n - i)) (cap := ab) [.int .i64 m, .int .i64 (m + 1 : Nat)] xj kc75 ?_
  clear kc75
  rintro bv _ u75 br ⟨bg, bs, rfl, av⟩
  obtain rfl : bv = x.n - (i + 1) := by omega
  have aD : (Z'.eraseIdx m).length = x.n - (i + 1) := by rw [List.length_eraseIdx, if_pos xq, hZn']; omega
  refine sy_over 8 (.slc 54 0 (x.n - (i + 1)) ab) (zzx ?_)
  refine zzp (zzf (zyq 103 (x := zI (IntKind.i64.wrap ((i : Int) + 1))) (zI (i + 1 : Nat)) (eqI yq) (zza 60 (zI (i + 1 : Nat)) (zzx ?_))))
  refine ⟨_, ?_, _, by exact zzv _ _ _, i + 1, (Z'.eraseIdx m), bs, [gi Z' m 0, gi Z' m 1, gi Z' m 2, gi (Nt.sortR D) i 0, gi (Nt.sortR D) i 1] :: A', rfl, by omega, (OkR.erase hZ'), aD, av, aq, (by rw [List.length_cons, hAn']), (by have h9 := hP'; rw [Nt.pairR_step (by rw [Nt.sortR_len]; omega), hZn', show x.n - i = j by omega, ← hm] at h9; exact h9), rfl, (bl.trans (aC.trans br))⟩
  omega
 have qhb56 := of_decide_eq_false ai
 refine zyc (zzp (zzd (zyp (r := 9) (t := 57) [9, 57] xk xj zk zk xj (fun aj ba e78 a5 aJ => ?_))))
 have aw : IrV 5 ba ⟨some ⟨aj, 0, none⟩, x.n, x.n⟩ (List.replicate (x.n - i) [0, 0, 0, 0, 0] ++ A') := ir_data aJ (OkR.rows al) (by rw [List.append_nil, List.take_of_length_le (by rw [kcs_len (OkR.rows al), an]; omega)]) (by rw [an]) (by rw [List.append_nil, kcs_len (OkR.rows al), an]) xq yv
 refine zzf (zza 104 (.v (.slice (some ⟨aj, 0, none⟩) x.n x.n)) (zza 4 (.v (.slice (some ⟨aj, 0, none⟩) x.n x.n)) (zza 5 (zI 0) (zzc 105 [(4, .v (.slice (some ⟨aj, 0, none⟩) x.n x.n)), (5, zI 0)] [] (zzo (ret0 [.slice (some ⟨aj, 0, none⟩) x.n x.n, .int .i64 0] ⟨zzq, zzq, trivial⟩ fun u82 bf => ?_))))))
 have hi9 : i = x.n := by omega
 have h9 := (aw.ext bf)
 rw [show x.n - i = 0 by omega] at h9
 have h8 := hP'
 rw [List.drop_of_length_le (by rw [Nt.sortR_len]; omega)] at h8
 refine ⟨(⟨some ⟨aj, 0, none⟩, x.n, x.n⟩ : Sl), rfl, ?_⟩
 rw [← h8]
 exact h9
set_option maxHeartbeats 2000000 in
theorem k_known24 {u w : World} (d : Dat u w) : Calls Tryz.prog 55 #[] w (Post u w fun v _ => v = .bool true) := by
 refine zzm (args := []) Tryz.func55 rfl Tryz.ntmps55 (rs := [.tmp 0]) Tryz.results55 (le_b rfl) (le_b rfl) d ?_
 refine sq9 (zza 0 (zB false) (zzb (sq9 (zza 4 (.v (.agg #[.int .i64 1, .int .i64 0, .int .i64 1])) (zza 5 (.v (.agg #[.int .i64 1, .int .i64 2, .int .i64 1])) (zxy 6 ⟨177, [.int .i64 1, .int .i64 0, .int .i64 1, .int .i64 1, .int .i64 2, .int .i64 1]⟩ 2 (fun aj au e13 ap => ?_)))))))
 have af : IrV 3 au (⟨some ⟨aj, 0, none⟩, 2, 2⟩ : Sl) [[1, 0, 1], [1, 2, 1]] := ir_data (cs := [.int .i64 1, .int .i64 0, .int .i64 1, .int .i64 1, .int .i64 2, .int .i64 1]) ap yj rfl rfl rfl yj (by unfold maxLen; decide)
 refine zza 7 (.v (.agg #[.int .i64 0, .int .i64 1])) (zza 8 (.v (.agg #[.int .i64 2, .int .i64 2])) (zxy 9 ⟨166, [.int .i64 0, .int .i64 1, .int .i64 2, .int .i64 2]⟩ 2 (fun ab ao aq an => ?_)))
 have ai : IrV 2 ao (⟨some ⟨ab, 0, none⟩, 2, 2⟩ : Sl) [[0, 1], [2, 2]] := ir_data (cs := [.int .i64 0, .int .i64 1, .int .i64 2, .int .i64 2]) an yj rfl rfl rfl yj (by unfold maxLen; decide)
 refine zzg 10 135 _ fun _ _ am ar => Post.mono ((show Calls _ _ #[.slice (some ⟨aj, 0, none⟩) 2 2, .slice (some ⟨ab, 0, none⟩) 2 2] _ _ from k_cpair (x := (⟨some ⟨aj, 0, none⟩, 2, 2⟩ : Sl)) (y := (⟨some ⟨ab, 0, none⟩, 2, 2⟩ : Sl)) ar (af.ext (aq.trans am)) (ai.ext am) yj yj yj yj yj)) ?_
 rintro _ u23 g24 ⟨aa, rfl, ac⟩
 refine zza 3 (.v (.tuple #[aa.v, .int .i64 0])) (zza 11 (.v (aa.v)) (zza 12 (zI 0) (zza 1 (.v (aa.v)) (zza 2 (zI 0) (zzb (zzd ?_))))))
 have hP9 := ac
 rw [show (Nt.pairR (Nt.sortR ([[0, 1], [2, 2]])) ([[1, 0, 1], [1, 2, 1]]) []) = [[1, 0, 1, 0, 1], [1, 2, 1, 2, 2]] by decide] at hP9
 have hn9 := hP9.len
 change _ = 2 at hn9
 refine zzf (zza 13 (zI 0) (zza 14 (zB true) (zza 15 (zB true) (zza 16 (.v (aa.v)) ?_ (hw := w1 2 true 15)))))
 refine zza 17 (zI aa.n) ?_ (hw := w1 2 true 15)
 refine zza 18 (zB ((aa.n : Int) == 2)) ?_ (hw := w1 2 true 15)
 refine zza 19 (zB ((aa.n : Int) == 2)) (zyq 20 (x := zB ((aa.n : Int) == 2)) (zB true) (by rw [show ((aa.n : Int) == 2) = true from zq]) (zza 21 (.v (aa.v)) ?_ (hw := w1 7 true 20)))
 have hl27 := (hP9).len
 obtain ⟨b27, ak, ad, ag⟩ := ir_at5 hP9 (i := 0) xq
 refine zya 22 (ak + 0 * 5) (n := aa.n) (off := ak) (sz := 5) (i := 0) xq ad xq xq sl101 ?_ (hw := w1 7 true 20)
 refine zym 23 [.int .i64 (gi ([[1, 0, 1, 0, 1], [1, 2, 1, 2, 2]]) 0 0), .int .i64 (gi ([[1, 0, 1, 0, 1], [1, 2, 1, 2, 2]]) 0 1), .int .i64 (gi ([[1, 0, 1, 0, 1], [1, 2, 1, 2, 2]]) 0 2), .int .i64 (gi ([[1, 0, 1, 0, 1], [1, 2, 1, 2, 2]]) 0 3), .int .i64 (gi ([[1, 0, 1, 0, 1], [1, 2, 1, 2, 2]]) 0 4)] ag ty179 ?_ (hw := w1 7 true 20)
 refine zza 24 (.v (.agg #[.int .i64 1, .int .i64 0, .int .i64 1])) ?_ (hw := w1 7 true 20)
 refine zza 25 (.v (.agg #[.int .i64 0, .int .i64 1])) ?_ (hw := w1 7 true 20)
 refine zza 26 (.v (.agg #[.int .i64 1, .int .i64 0, .int .i64 1, .int .i64 0, .int .i64 1])) ?_ (hw := w1 7 true 20)
 refine zza 27 (zB true) ?_ (hw := w1 7 true 20)
 refine zza 28 (zB true) (zza 29 (zB true) (zza 30 (.v (aa.v)) ?_ (hw := w1 16 true 29)))
 have hl28 := (hP9).len
 obtain ⟨b28, al, ah, ae⟩ := ir_at5 hP9 (i := 1) xq
 refine zya 31 (al + 1 * 5) (n := aa.n) (off := al) (sz := 5) (i := 1) xq ah xq xq sl101 ?_ (hw := w1 16 true 29)
 refine zym 32 [.int .i64 (gi ([[1, 0, 1, 0, 1], [1, 2, 1, 2, 2]]) 1 0), .int .i64 (gi ([[1, 0, 1, 0, 1], [1, 2, 1, 2, 2]]) 1 1), .int .i64 (gi ([[1, 0, 1, 0, 1], [1, 2, 1, 2, 2]]) 1 2), .int .i64 (gi ([[1, 0, 1, 0, 1], [1, 2, 1, 2, 2]]) 1 3), .int .i64 (gi ([[1, 0, 1, 0, 1], [1, 2, 1, 2, 2]]) 1 4)] ae ty179 ?_ (hw := w1 16 true 29)
 refine zza 33 (.v (.agg #[.int .i64 1, .int .i64 2, .int .i64 1])) ?_ (hw := w1 16 true 29)
 refine zza 34 (.v (.agg #[.int .i64 2, .int .i64 2])) ?_ (hw := w1 16 true 29)
 refine zza 35 (.v (.agg #[.int .i64 1, .int .i64 2, .int .i64 1, .int .i64 2, .int .i64 2])) ?_ (hw := w1 16 true 29)
 refine zza 36 (zB true) ?_ (hw := w1 16 true 29)
 refine zza 37 (zB true) (zza 0 (zB true) (zzc 38 [(0, zB true)] [] (zzo (ret0 [.bool true] ⟨zzq, trivial⟩ fun u29 e30 => ?_))))
 rfl
theorem Nt.fit7 {a b c d e f g : Bool} (h0 : a = true) (h1 : b = true) (h2 : c = true) (h3 : d = true) (h4 : e = true) (h5 : f = true) (h6 : g = true) : (a && b && c && (d && e) && (f && g)) = true := by rw [h0, h1, h2, h3, h4, h5, h6]; rfl
theorem Nt.secFit_no {W : WL} {p : List Int} (h : fitB W (p.getD 0 0) = false ∨ fitB W (p.getD 1 0) = false ∨ fitB W (p.getD 2 0) = false ∨ fitB W (p.getD 3 0) = false ∨ fitB W (-p.getD 3 0) = false ∨ fitB W (p.getD 4 0) = false ∨ fitB W (-p.getD 4 0) = false) : secFit W p = false := by
 unfold secFit
 rcases h with h | h | h | h | h | h | h <;> rw [h] <;> simp
set_option maxHeartbeats 4000000 in
theorem k_csWrong {u w : World} {x : Sl} {L : List (List Int)} {W : WL} (d : Dat u w) (hx : IrV 5 u x L) (hb : ∀ p ∈ L, ∀ z ∈ p, -9223372036854775808 ≤ z ∧ z ≤ 9223372036854775807) : Calls Tryz.prog 134 #[x.v, W.v] w (Post u w fun v _ => v = .int .i64 (Nt.csE W L)) := by
 have hlx := hx.len
 refine zzm (args := [x.v, .agg #[.int .i64 W.b, .int .i64 W.f, .int .i64 W.r, .int .i64 W.o]]) Tryz.func134 rfl Tryz.ntmps134 (rs := [.tmp 4]) Tryz.results134 (le_b rfl) (le_b rfl) d ?_
 refine sq9 (zzk 3 ⟨66, W.cs⟩ (zza 4 (zI 0) (zzb (zzd (sq9 (zzi 11 (.v (W.v)) ty66 zze (zzg 12 103 _ fun _ _ am aD => Post.mono (k_fxValidG (W := W) aD) ?_)))))))
 rintro _ aJ al rfl
 refine zza 13 (zB (!(decide (WdOK W)))) (zzb (zzu (b := !(decide (WdOK W))) xj (fun ac => ?_) (fun ac => ?_)))
 ·have nhW : ¬ WdOK W := by simpa using ac
  refine sq9 (zza 4 (zI 2) (zzb (zzo (zzw (ret0 [.int .i64 2] ⟨zzq, trivial⟩ fun u16 e17 => ?_)))))
  show Value.int _ _ = Value.int _ _
  rw [Nt.csE_2 nhW]
 have hW : WdOK W := by simpa using ac
 refine zzs (zzp ?_)
 refine zzd (sq9 (zza 14 (.v (x.v)) (zza 15 (zI x.n) (zza 16 (zB (decide ((x.n : Int) < 1))) ?_))))
 rcases Bool.eq_false_or_eq_true (decide ((x.n : Int) < 1)) with hs18 | hs18
 ·refine zyq 17 (x := zB (decide ((x.n : Int) < 1))) (zB true) (by rw [hs18]) ?_
  have qhs18 := of_decide_eq_true hs18
  refine zzn 18 (uw 3 false true 17) (zzn 19 (uw 3 false true 17) (zzn 20 (uw 3 false true 17) (zza 21 (zB true) (zzb (zyr xj (sq9 (zza 4 (zI 1) (zzb (zzo (zzw (ret0 [.int .i64 1] ⟨zzq, trivial⟩ fun u19 e20 => ?_)))))))))))
  show Value.int _ _ = Value.int _ _
  rw [Nt.csE_1 hW xq]
 refine zyq 17 (x := zB (decide ((x.n : Int) < 1))) (zB false) (by rw [hs18]) ?_
 have qhs18 := of_decide_eq_false hs18
 refine zza 18 (.v (x.v)) ?_ (hw := w1 3 false 17)
 refine zza 19 (zI x.n) ?_ (hw := w1 3 false 17)
 refine zza 20 (zB (decide ((8 : Int) < (x.n : Int)))) ?_ (hw := w1 3 false 17)
 refine zza 21 (zB (decide ((8 : Int) < (x.n : Int)))) (zzb (zzu (b := decide ((8 : Int) < (x.n : Int))) xj (fun ab => ?_) (fun ab => ?_)))
 ·have qhb21 := of_decide_eq_true ab
  refine sq9 (zza 4 (zI 1) (zzb (zzo (zzw (ret0 [.int .i64 1] ⟨zzq, trivial⟩ fun u22 e23 => ?_)))))
  show Value.int _ _ = Value.int _ _
  rw [Nt.csE_1 hW xq]
 have qhb21 := of_decide_eq_false ab
 refine zzs (zzp ?_)
 refine zzd (sq9 (zza 22 (.v (x.v)) (zza 23 (zI x.n) (zza 24 (zI 0) (zzb (zzt (zyn (I := fun ao S' u' => ∃ (i : Nat), (ao = x.n - i) ∧ (i ≤ x.n) ∧ (∀ j, j < i → Nt.secFit W (L.getD j []) = true) ∧ (S' = St.of 56 [(3, .adr 3 0), (22, .v (x.v)), (23, zI x.n), (24, zI i)] [(3, ⟨66, [.int .i64 W.b, .int .i64 W.f, .int .i64 W.r, .int .i64 W.o]⟩)]) ∧ (Ext aJ u')) (fun m S u1 u2 e h => by obtain ⟨i, hm, p0, p1, hS, hE⟩ := h; exact ⟨i, hm, p0, p1, hS, hE.trans e⟩) _ yz ⟨0, rfl, Nat.zero_le _, (fun j hj => absurd hj (Nat.not_lt_zero j)), rfl, (Ext.refl _)⟩ ?_)))))))
 rintro ao _ u24 ⟨i, aF, hi, hs, rfl, aj⟩
 refine sq9 (zza 25 (zB (decide ((i : Int) < (x.n : Int)))) (zzb (zzd (zzu (b := decide ((i : Int) < (x.n : Int))) xj (fun aa => ?_) (fun aa => ?_)))))
 ·have qhb25 := of_decide_eq_true aa
  refine zzs (zzp ?_)
  refine zzd (zzt (sq9 ?_))
  have hl26 := ((hx.ext (am.t (al.t aj)))).len
  obtain ⟨b26, an, ak, ai⟩ := ir_at5 (hx.ext (am.t (al.t aj))) (i := i) xq
  refine zya 26 (an + i * 5) (n := x.n) (off := an) (sz := 5) (i := (i : Int)) xq ak xq xq sl101 (zym 27 [.int .i64 (gi L i 0), .int .i64 (gi L i 1), .int .i64 (gi L i 2), .int .i64 (gi L i 3), .int .i64 (gi L i 4)] ai ty179 (zzk 6 ⟨179, [.int .i64 0, .int .i64 0, .int .i64 0, .int .i64 0, .int .i64 0]⟩ (zzj ⟨179, [.int .i64 (gi L i 0), .int .i64 (gi L i 1), .int .i64 (gi L i 2), .int .i64 (gi L i 3), .int .i64 (gi L i 4)]⟩ ty179 ?_)))
  refine zzb (zzd (sq9 (zza 28 (.adr 6 0) (zzi 29 (.v (.agg #[.int .i64 (gi L i 0), .int .i64 (gi L i 1), .int .i64 (gi L i 2)])) ty177 zze (zza 30 (zI 0) (zzb (zzt (sw_rounds 3 ?_))))))))
  refine sq9 (zza 31 (zB true) (zzb (zzd (zyr xj (zzs (zzp ?_))))))
  refine zzd (zzt (sq9 (zza 32 (zI (gi L i 0)) (zza 8 (zI (gi L i 0)) (zzb (sq9 (zzi 33 (.v (W.v)) ty66 zze (zza 34 (zI (gi L i 0)) (zzg 35 162 _ fun _ _ aK aA => Post.mono (k_fxFitsG (W := W) (z := gi L i 0) aA hW) ?_)))))))))
  rintro _ u28 aG rfl
  refine zza 36 (zB (!(Nt.fitB W (gi L i 0)))) (zzc 56 [(3, .adr 3 0), (6, .adr 6 0), (22, .v (x.v)), (23, zI x.n), (24, zI i), (29, .v (.agg #[.int .i64 (gi L i 0), .int .i64 (gi L i 1), .int .i64 (gi L i 2)])), (30, zI 0), (36, zB (!(Nt.fitB W (gi L i 0))))] [(3, ⟨66, W.cs⟩), (6, ⟨179, [.int .i64 (gi L i 0), .int .i64 (gi L i 1), .int .i64 (gi L i 2), .int .i64 (gi L i 3), .int .i64 (gi L i 4)]⟩)] (zzu (b := !(Nt.fitB W (gi L i 0))) xj (fun ad => ?_) (fun ad => ?_)))
  ·have qhb31 := ad
   simp at qhb31
   refine sq9 (zza 4 (zI 17) (zzb (zzo (zyu (zzw (mpr_rn (zyu (zzw (zyu (zzw (zyt (zyu (zzw (ret0 [.int .i64 17] ⟨zzq, trivial⟩ fun u32 e33 => ?_))))))))))))))
   show Value.int _ _ = Value.int _ _
   rw [Nt.csE_17 hW xq xq (i := i) xq (Nt.secFit_no (.inl qhb31))]
  have qhb31 := ad
  simp at qhb31
  have rhb31 := Nt.fit_iff.1 qhb31
  have hp9 := Nt.p2i_24 (n := W.b - 1) (by have h9 := hW; unfold WdOK at h9; omega)
  refine zzs (zzp ?_)
  refine zzf (zza 37 (zI 1) (zza 30 (zI 1) (zzx ?_)))
  refine rn_next ?_
  refine sw_weak (T := St.of 56 [(3, .adr 3 0), (6, .adr 6 0), (22, .v (x.v)), (23, zI x.n), (24, zI i), (29, .v (.agg #[.int .i64 (gi L i 0), .int .i64 (gi L i 1), .int .i64 (gi L i 2)])), (30, zI 1)] [(3, ⟨66, [.int .i64 W.b, .int .i64 W.f, .int .i64 W.r, .int .i64 W.o]⟩), (6, ⟨179, [.int .i64 (gi L i 0), .int .i64 (gi L i 1), .int .i64 (gi L i 2), .int .i64 (gi L i 3), .int .i64 (gi L i 4)]⟩)]) yz ?_
  refine sq9 (zza 31 (zB true) (zzb (zzd (zyr xj (zzs (zzp ?_))))))
  refine zzd (zzt (sq9 (zza 32 (zI (gi L i 1)) (zza 8 (zI (gi L i 1)) (zzb (sq9 (zzi 33 (.v (W.v)) ty66 zze (zza 34 (zI (gi L i 1)) (zzg 35 162 _ fun _ _ aE aH => Post.mono (k_fxFitsG (W := W) (z := gi L i 1) aH hW) ?_)))))))))
  rintro _ u35 ap rfl
  refine zza 36 (zB (!(Nt.fitB W (gi L i 1)))) (zzb (zzu (b := !(Nt.fitB W (gi L i 1))) xj (fun ae => ?_) (fun ae => ?_)))
  ·have qhb38 := ae
   simp at qhb38
   refine sq9 (zza 4 (zI 17) (zzb (zzo (zyu (zzw (mpr_rn (zyu (zzw (zyu (zzw (zyt (zyu (zzw (ret0 [.int .i64 17] ⟨zzq, trivial⟩ fun u39 e40 => ?_))))))))))))))
   show Value.int _ _ = Value.int _ _
   rw [Nt.csE_17 hW xq xq (i := i) xq (Nt.secFit_no (.inr (.inl qhb38)))]
  have qhb38 := ae
  simp at qhb38
  have rhb38 := Nt.fit_iff.1 qhb38
  have hp9 := Nt.p2i_24 (n := W.b - 1) (by have h9 := hW; unfold WdOK at h9; omega)
  refine zzs (zzp ?_)
  refine zzf (zza 37 (zI 2) (zza 30 (zI 2) (zzx ?_)))
  refine rn_next ?_
  refine sw_weak (T := St.of 56 [(3, .adr 3 0), (6, .adr 6 0), (22, .v (x.v)), (23, zI x.n), (24, zI i), (29, .v (.agg #[.int .i64 (gi L i 0), .int .i64 (gi L i 1), .int .i64 (gi L i 2)])), (30, zI 2)] [(3, ⟨66, [.int .i64 W.b, .int .i64 W.f, .int .i64 W.r, .int .i64 W.o]⟩), (6, ⟨179, [.int .i64 (gi L i 0), .int .i64 (gi L i 1), .int .i64 (gi L i 2), .int .i64 (gi L i 3), .int .i64 (gi L i 4)]⟩)]) yz ?_
  refine sq9 (zza 31 (zB true) (zzb (zzd (zyr xj (zzs (zzp ?_))))))
  refine zzd (zzt (sq9 (zza 32 (zI (gi L i 2)) (zza 8 (zI (gi L i 2)) (zzb (sq9 (zzi 33 (.v (W.v)) ty66 zze (zza 34 (zI (gi L i 2)) (zzg 35 162 _ fun _ _ aM ax => Post.mono (k_fxFitsG (W := W) (z := gi L i 2) ax hW) ?_)))))))))
  rintro _ u42 ay rfl
  refine zza 36 (zB (!(Nt.fitB W (gi L i 2)))) (zzb (zzu (b := !(Nt.fitB W (gi L i 2))) xj (fun ah => ?_) (fun ah => ?_)))
  ·have qhb45 := ah
   simp at qhb45
   refine sq9 (zza 4 (zI 17) (zzb (zzo (zyu (zzw (mpr_rn (zyu (zzw (zyu (zzw (zyt (zyu (zzw (ret0 [.int .i64 17] ⟨zzq, trivial⟩ fun u46 e47 => ?_))))))))))))))
   show Value.int _ _ = Value.int _ _
   rw [Nt.csE_17 hW xq xq (i := i) xq (Nt.secFit_no (.inr (.inr (.inl qhb45))))]
  have qhb45 := ah
  simp at qhb45
  have rhb45 := Nt.fit_iff.1 qhb45
  have hp9 := Nt.p2i_24 (n := W.b - 1) (by have h9 := hW; unfold WdOK at h9; omega)
  refine zzs (zzp ?_)
  refine zzf (zza 37 (zI 3) (zza 30 (zI 3) (zzx ?_)))
  refine rn_next ?_
  refine sw_weak (T := St.of 56 [(3, .adr 3 0), (6, .adr 6 0), (22, .v (x.v)), (23, zI x.n), (24, zI i), (29, .v (.agg #[.int .i64 (gi L i 0), .int .i64 (gi L i 1), .int .i64 (gi L i 2)])), (30, zI 3)] [(3, ⟨66, [.int .i64 W.b, .int .i64 W.f, .int .i64 W.r, .int .i64 W.o]⟩), (6, ⟨179, [.int .i64 (gi L i 0), .int .i64 (gi L i 1), .int .i64 (gi L i 2), .int .i64 (gi L i 3), .int .i64 (gi L i 4)]⟩)]) yz ?_
  refine sq9 (zza 31 (zB false) (zzb (zzd (zys xj (zyc (zzp (sq9 (zza 38 (.adr 6 3) (zzi 39 (.v (.agg #[.int .i64 (gi L i 3), .int .i64 (gi L i 4)])) ty166 zze (zza 40 (zI 0) (zzb ?_)))))))))))
  refine zzt (sw_rounds 2 ?_)
  refine sq9 (zza 41 (zB true) (zzb (zzd (zyr xj (zzs (zzp ?_))))))
  refine zzd (zzt (sq9 (zza 42 (zI (gi L i 3)) (zza 10 (zI (gi L i 3)) (zzb (sq9 (zzi 43 (.v (W.v)) ty66 zze (zza 44 (zI (gi L i 3)) (zzg 45 162 _ fun _ _ aI av => Post.mono (k_fxFitsG (W := W) (z := gi L i 3) av hW) ?_)))))))))
  rintro _ u49 aC rfl
  refine zza 46 (zB (!(Nt.fitB W (gi L i 3)))) ?_
  rcases Bool.eq_false_or_eq_true (!(Nt.fitB W (gi L i 3))) with hs52 | hs52
  ·refine zyq 47 (x := zB (!(Nt.fitB W (gi L i 3)))) (zB true) (by rw [hs52]) ?_
   have qhs52 := hs52
   simp at qhs52
   refine zzn 48 (uw 4 false true 47) (zzn 49 (uw 4 false true 47) (zzn 50 (uw 4 false true 47) (zzn 51 (uw 4 false true 47) (zzn 52 (uw 4 false true 47) (zza 53 (zB true) (zzc 56 [(3, .adr 3 0), (22, .v (x.v)), (23, zI x.n), (24, zI i), (39, .v (.agg #[.int .i64 (gi L i 3), .int .i64 (gi L i 4)])), (40, zI 0), (53, zB true)] [(3, ⟨66, W.cs⟩)] (zyr xj (sq9 (zza 4 (zI 17) (zzb (zzo (zyu (zzw (mpr_rn (zyu (zyu (zzw (zyt (zyu (zzw (ret0 [.int .i64 17] ⟨zzq, trivial⟩ fun u53 e54 => ?_)))))))))))))))))))))
   show Value.int _ _ = Value.int _ _
   rw [Nt.csE_17 hW xq xq (i := i) xq (Nt.secFit_no (.inr (.inr (.inr (.inl qhs52)))))]
  refine zyq 47 (x := zB (!(Nt.fitB W (gi L i 3)))) (zB false) (by rw [hs52]) ?_
  have qhs52 := hs52
  simp at qhs52
  have rhs52 := Nt.fit_iff.1 qhs52
  have hp9 := Nt.p2i_24 (n := W.b - 1) (by have h9 := hW; unfold WdOK at h9; omega)
  refine zzi 48 (.v (W.v)) ty66 zze ?_ (hw := w1 4 false 47)
  refine zza 49 (zI (gi L i 3)) ?_ (hw := w1 4 false 47)
  refine zyq 50 (x := zI (IntKind.i64.wrap (0 - (gi L i 3)))) (zI (-(gi L i 3))) (eqI yq) ?_ (hw := w1 4 false 47)
  refine zzg 51 162 _ (fun _ _ aw aB => Post.mono (k_fxFitsG (W := W) (z := -(gi L i 3)) aB hW) ?_) (hw := w1 4 false 47)
  rintro _ u56 aO rfl
  refine zza 52 (zB (!(Nt.fitB W (-(gi L i 3))))) ?_ (hw := w1 4 false 47)
  refine zza 53 (zB (!(Nt.fitB W (-(gi L i 3))))) (zzc 56 [(3, .adr 3 0), (22, .v (x.v)), (23, zI x.n), (24, zI i), (39, .v (.agg #[.int .i64 (gi L i 3), .int .i64 (gi L i 4)])), (40, zI 0), (53, zB (!(Nt.fitB W (-(gi L i 3)))))] [(3, ⟨66, W.cs⟩)] (zzu (b := !(Nt.fitB W (-(gi L i 3)))) xj (fun af => ?_) (fun af => ?_)))
  ·have qhb59 := af
   simp at qhb59
   refine sq9 (zza 4 (zI 17) (zzb (zzo (zyu (zzw (mpr_rn (zyu (zyu (zzw (zyt (zyu (zzw (ret0 [.int .i64 17] ⟨zzq, trivial⟩ fun u60 e61 => ?_)))))))))))))
   show Value.int _ _ = Value.int _ _
   rw [Nt.csE_17 hW xq xq (i := i) xq (Nt.secFit_no (.inr (.inr (.inr (.inr (.inl qhb59))))))]
  have qhb59 := af
  simp at qhb59
  have rhb59 := Nt.fit_iff.1 qhb59
  have hp9 := Nt.p2i_24 (n := W.b - 1) (by have h9 := hW; unfold WdOK at h9; omega)
  refine zzs (zzp ?_)
  refine zzf (zza 54 (zI 1) (zza 40 (zI 1) (zzx ?_)))
  refine rn_next ?_
  refine sw_weak (T := St.of 56 [(3, .adr 3 0), (22, .v (x.v)), (23, zI x.n), (24, zI i), (39, .v (.agg #[.int .i64 (gi L i 3), .int .i64 (gi L i 4)])), (40, zI 1)] [(3, ⟨66, [.int .i64 W.b, .int .i64 W.f, .int .i64 W.r, .int .i64 W.o]⟩)]) yz ?_
  refine sq9 (zza 41 (zB true) (zzb (zzd (zyr xj (zzs (zzp ?_))))))
  refine zzd (zzt (sq9 (zza 42 (zI (gi L i 4)) (zza 10 (zI (gi L i 4)) (zzb (sq9 (zzi 43 (.v (W.v)) ty66 zze (zza 44 (zI (gi L i 4)) (zzg 45 162 _ fun _ _ aN aq => Post.mono (k_fxFitsG (W := W) (z := gi L i 4) aq hW) ?_)))))))))
  rintro _ u63 au rfl
  refine zza 46 (zB (!(Nt.fitB W (gi L i 4)))) ?_
  rcases Bool.eq_false_or_eq_true (!(Nt.fitB W (gi L i 4))) with hs66 | hs66
  ·refine zyq 47 (x := zB (!(Nt.fitB W (gi L i 4)))) (zB true) (by rw [hs66]) ?_
   have qhs66 := hs66
   simp at qhs66
   refine zzn 48 (uw 4 false true 47) (zzn 49 (uw 4 false true 47) (zzn 50 (uw 4 false true 47) (zzn 51 (uw 4 false true 47) (zzn 52 (uw 4 false true 47) (zza 53 (zB true) (zzb (zyr xj (sq9 (zza 4 (zI 17) (zzb (zzo (zyu (zzw (mpr_rn (zyu (zyu (zzw (zyt (zyu (zzw (ret0 [.int .i64 17] ⟨zzq, trivial⟩ fun u67 e68 => ?_)))))))))))))))))))))
   show Value.int _ _ = Value.int _ _
   rw [Nt.csE_17 hW xq xq (i := i) xq (Nt.secFit_no (.inr (.inr (.inr (.inr (.inr (.inl qhs66)))))))]
  refine zyq 47 (x := zB (!(Nt.fitB W (gi L i 4)))) (zB false) (by rw [hs66]) ?_
  have qhs66 := hs66
  simp at qhs66
  have rhs66 := Nt.fit_iff.1 qhs66
  have hp9 := Nt.p2i_24 (n := W.b - 1) (by have h9 := hW; unfold WdOK at h9; omega)
  refine zzi 48 (.v (W.v)) ty66 zze ?_ (hw := w1 4 false 47)
  refine zza 49 (zI (gi L i 4)) ?_ (hw := w1 4 false 47)
  refine zyq 50 (x := zI (IntKind.i64.wrap (0 - (gi L i 4)))) (zI (-(gi L i 4))) (eqI yq) ?_ (hw := w1 4 false 47)
  refine zzg 51 162 _ (fun _ _ aL aP => Post.mono (k_fxFitsG (W := W) (z := -(gi L i 4)) aP hW) ?_) (hw := w1 4 false 47)
  rintro _ u70 ar rfl
  refine zza 52 (zB (!(Nt.fitB W (-(gi L i 4))))) ?_ (hw := w1 4 false 47)
  refine zza 53 (zB (!(Nt.fitB W (-(gi L i 4))))) (zzb (zzu (b := !(Nt.fitB W (-(gi L i 4)))) xj (fun ag => ?_) (fun ag => ?_)))
  ·have qhb73 := ag
   simp at qhb73
   refine sq9 (zza 4 (zI 17) (zzb (zzo (zyu (zzw (mpr_rn (zyu (zyu (zzw (zyt (zyu (zzw (ret0 [.int .i64 17] ⟨zzq, trivial⟩ fun u74 e75 => ?_)))))))))))))
   show Value.int _ _ = Value.int _ _
   rw [Nt.csE_17 hW xq xq (i := i) xq (Nt.secFit_no (.inr (.inr (.inr (.inr (.inr (.inr (qhb73))))))))]
  have qhb73 := ag
  simp at qhb73
  have rhb73 := Nt.fit_iff.1 qhb73
  have hp9 := Nt.p2i_24 (n := W.b - 1) (by have h9 := hW; unfold WdOK at h9; omega)
  refine zzs (zzp ?_)
  refine zzf (zza 54 (zI 2) (zza 40 (zI 2) (zzx ?_)))
  refine rn_next ?_
  refine sw_weak (T := St.of 56 [(3, .adr 3 0), (22, .v (x.v)), (23, zI x.n), (24, zI i), (39, .v (.agg #[.int .i64 (gi L i 3), .int .i64 (gi L i 4)])), (40, zI 2)] [(3, ⟨66, [.int .i64 W.b, .int .i64 W.f, .int .i64 W.r, .int .i64 W.o]⟩)]) yz ?_
  refine sq9 (zza 41 (zB false) (zzb (zzd (zys xj (zyc (zzp (zzf (zyq 55 (x := zI (IntKind.i64.wrap ((i : Int) + 1))) (zI (i + 1 : Nat)) (eqI yq) (zza 24 (zI (i + 1 : Nat)) (zzx ?_))))))))))
  refine ⟨_, ?_, _, by exact zzv _ _ _, i + 1, rfl, by omega, (fun j hj => by by_cases e : j = i; (rw [e]; unfold Nt.secFit; exact Nt.fit7 qhb31 qhb38 qhb45 qhs52 qhb59 qhs66 qhb73); exact hs j xq), rfl, (aj.t (aK.t (aG.t (aE.t (ap.t (aM.t (ay.t (aI.t (aC.t (aw.t (aO.t (aN.t (au.t (aL.t ar.ext))))))))))))))⟩
  omega
 have qhb25 := of_decide_eq_false aa
 refine zyc (zzp (sq9 (zza 4 (zI 0) (zzb (zzo (ret0 [.int .i64 0] ⟨zzq, trivial⟩ fun u76 e77 => ?_))))))
 show Value.int _ _ = Value.int _ _
 rw [Nt.csE_0 hW xq xq (fun i hi => hs i xq)]
set_option maxHeartbeats 8000000 in
theorem k_csBuild {u w : World} {x : Sl} {L : List (List Int)} {D W : WL} (d : Dat u w) (hD : WdOK D) (hE : Nt.csE W L = 0) (hx : IrV 5 u x L) (hb : ∀ p ∈ L, ∀ z ∈ p, -9223372036854775808 ≤ z ∧ z ≤ 9223372036854775807) : Calls Tryz.prog 53 #[x.v, D.v, W.v] w (Post u w fun v u' => ∃ (y z : Sl), v = .tuple #[.agg #[.int .i64 D.b, .int .i64 D.f, .int .i64 D.r, .int .i64 D.o, .int .i64 W.b, .int .i64 W.f, .int .i64 W.r, .int .i64 W.o, .int .i64 ((2 + 2 * L.length : Nat) : Int), y.v, z.v, .int .i64 ((2 + 2 * L.length + L.length : Nat) : Int)], .int .i64 0] ∧ (∃ h, NodesB 0 h u' y (Nt.csNodes L.length L L.length)) ∧ MutL 1 3 0 u' z (ics (Nt.csNext L.length L.length))) := by
 obtain ⟨hW, h1, h8, hall⟩ := Nt.csE_ok hE
 have hlx := hx.len
 obtain ⟨hw1, hw2, hw3, hw4, hw5, hw6, hw7, hw8⟩ := id hW
 have hp24 := Nt.p2i_24 (n := W.b - 1) xq
 refine zzm (args := [x.v, .agg #[.int .i64 D.b, .int .i64 D.f, .int .i64 D.r, .int .i64 D.o], .agg #[.int .i64 W.b, .int .i64 W.f, .int .i64 W.r, .int .i64 W.o]]) Tryz.func53 rfl Tryz.ntmps53 (rs := [.cell 6 72, .tmp 7]) Tryz.results53 (le_b rfl) (le_b rfl) d ?_
 refine sq9 (zzk 4 ⟨66, D.cs⟩ (zzk 5 ⟨66, W.cs⟩ (zzk 6 ⟨72, [.int .i64 0, .int .i64 0, .int .i64 0, .int .i64 0, .int .i64 0, .int .i64 0, .int .i64 0, .int .i64 0, .int .i64 0, .slice none 0 0, .slice none 0 0, .int .i64 0]⟩ (zza 7 (zI 0) (zzb (zzd (sq9 (zzi 21 (.v (D.v)) ty66 zze (zzg 22 103 _ fun _ _ a9 bz => Post.mono (k_fxValid (W := D) bz hD) ?_)))))))))
 rintro _ u12 a5 rfl
 refine zza 23 (zB false) (zzb (zys xj (zzs (zzp ?_))))
 refine zzd (sq9 (zza 25 (.v (x.v)) (zzi 26 (.v (W.v)) ty66 zze (zzg 27 134 _ fun _ _ bb bh => Post.mono ((Post.mono (Ψ := fun v _ => v = .int .i64 0) (k_csWrong (W := W) bh (hx.ext (a9.t (a5.t bb))) hb) (fun v u9 _ h => by rw [hE] at h; exact h))) ?_))))
 rintro _ u16 bQ rfl
 refine zza 8 (zI 0) (zzb (sq9 (zza 28 (zI 0) (zza 29 (zB false) (zzb (zys xj (zzs (zzp ?_))))))))
 refine sq9 (zza 32 (.v (x.v)) (zza 33 (zI x.n) (zyq 34 (x := zI (IntKind.i64.wrap ((2 : Int) * (x.n : Int)))) (zI (2 * x.n : Nat)) (eqI yq) (zyq 35 (x := zI (IntKind.i64.wrap ((2 : Int) + ((2 * x.n : Nat) : Int)))) (zI ((2 + (2 * x.n) : Nat) : Int)) (eqI yq) (zza 9 (zI ((2 + (2 * x.n) : Nat) : Int)) (zzb (sq9 (zzi 36 (.v (D.v)) ty66 zze (zzi 37 (.v (W.v)) ty66 zze (zza 38 (zI ((2 + (2 * x.n) : Nat) : Int)) (sy_dataF 39 ⟨3, [.int .i64 0, .int .i64 1]⟩ 2 (fun ar bB bK bg bv g19 => ?_))))))))))))
 have aY : MutL 1 3 u.heap.size bB (⟨some ⟨ar, 0, none⟩, 2, 2⟩ : Sl) (ics [0, 1]) := MutL.lit bg rfl yv bv
 refine zza 40 (zI ((2 + (2 * x.n) : Nat) : Int)) (zza 41 (.v (x.v)) (zza 42 (zI x.n) (zyq 43 (x := zI (IntKind.i64.wrap (((2 + (2 * x.n) : Nat) : Int) + (x.n : Int)))) (zI (((2 + (2 * x.n)) + x.n : Nat) : Int)) (eqI yq) (zza 44 (.v (.agg #[.int .i64 D.b, .int .i64 D.f, .int .i64 D.r, .int .i64 D.o, .int .i64 W.b, .int .i64 W.f, .int .i64 W.r, .int .i64 W.o, .int .i64 ((2 + (2 * x.n) : Nat) : Int), .slice none 0 0, .slice (some ⟨ar, 0, none⟩) 2 2, .int .i64 (((2 + (2 * x.n)) + x.n : Nat) : Int)])) (zzk 10 ⟨72, [.int .i64 0, .int .i64 0, .int .i64 0, .int .i64 0, .int .i64 0, .int .i64 0, .int .i64 0, .int .i64 0, .int .i64 0, .slice none 0 0, .slice none 0 0, .int .i64 0]⟩ (zzj ⟨72, [.int .i64 D.b, .int .i64 D.f, .int .i64 D.r, .int .i64 D.o, .int .i64 W.b, .int .i64 W.f, .int .i64 W.r, .int .i64 W.o, .int .i64 ((2 + (2 * x.n) : Nat) : Int), .slice none 0 0, .slice (some ⟨ar, 0, none⟩) 2 2, .int .i64 (((2 + (2 * x.n)) + x.n : Nat) : Int)]⟩ ty72 ?_))))))
 refine zzb (sq9 (zza 45 (.v (.agg #[.int .i64 0, .int .i64 1, .int .i64 2])) (zzk 11 ⟨177, [.int .i64 0, .int .i64 0, .int .i64 0]⟩ (zzj ⟨177, [.int .i64 0, .int .i64 1, .int .i64 2]⟩ ty177 ?_))))
 refine zzc 113 [(0, .v (x.v)), (6, .adr 6 0), (9, zI ((2 + (2 * x.n) : Nat) : Int)), (10, .adr 10 0), (11, .adr 11 0)] [(6, ⟨72, [.int .i64 0, .int .i64 0, .int .i64 0, .int .i64 0, .int .i64 0, .int .i64 0, .int .i64 0, .int .i64 0, .int .i64 0, .slice none 0 0, .slice none 0 0, .int .i64 0]⟩), (10, ⟨72, [.int .i64 D.b, .int .i64 D.f, .int .i64 D.r, .int .i64 D.o, .int .i64 W.b, .int .i64 W.f, .int .i64 W.r, .int .i64 W.o, .int .i64 ((2 + (2 * x.n) : Nat) : Int), .slice none 0 0, .slice (some ⟨ar, 0, none⟩) 2 2, .int .i64 (((2 + (2 * x.n)) + x.n : Nat) : Int)]⟩), (11, ⟨177, [.int .i64 0, .int .i64 1, .int .i64 2]⟩)] (zzd (sq9 (zza 46 (.v (x.v)) (zza 47 (zI x.n) (zza 48 (zI 0) (zzb (zzt (zyn (I := fun bc S' u' => ∃ (i : Nat) (hz : Nat) (X : Sl) (Y : Sl) (F0 : Int) (F1 : Int) (F2 : Int), (bc = x.n - i) ∧ (i ≤ x.n) ∧ (F0 = Nt.csF0 x.n i) ∧ (F1 = ((1 + 2 * i : Nat) : Int)) ∧ (F2 = ((2 + 2 * i : Nat) : Int)) ∧ (S' = St.of 113 [(6, .adr 6 0), (9, zI ((2 + (2 * x.n) : Nat) : Int)), (10, .adr 10 0), (11, .adr 11 0), (46, .v (x.v)), (47, zI x.n), (48, zI i)] [(6, ⟨72, [.int .i64 0, .int .i64 0, .int .i64 0, .int .i64 0, .int .i64 0, .int .i64 0, .int .i64 0, .int .i64 0, .int .i64 0, .slice none 0 0, .slice none 0 0, .int .i64 0]⟩), (10, ⟨72, [.int .i64 D.b, .int .i64 D.f, .int .i64 D.r, .int .i64 D.o, .int .i64 W.b, .int .i64 W.f, .int .i64 W.r, .int .i64 W.o, .int .i64 (2 + 2 * x.n : Nat), X.v, Y.v, .int .i64 (2 + 2 * x.n + x.n : Nat)]⟩), (11, ⟨177, [.int .i64 F0, .int .i64 F1, .int .i64 F2]⟩)]) ∧ (Ext u u') ∧ (NodesB u.heap.size hz u' X (Nt.csNodes x.n L i)) ∧ (MutL 1 3 u.heap.size u' Y (ics (Nt.csNext x.n i)))) (fun m S u1 u2 e h => by obtain ⟨i, hz, X, Y, F0, F1, F2, hm, p0, p1, p2, p3, hS, hE, f0, f1⟩ := h; exact ⟨i, hz, X, Y, F0, F1, F2, hm, p0, p1, p2, p3, hS, hE.trans e, f0.ext e, f1.ext e⟩) _ yz ⟨0, u.heap.size, ⟨none, 0, 0⟩, (⟨some ⟨ar, 0, none⟩, 2, 2⟩ : Sl), 0, ((1 : Nat) : Int), ((2 : Nat) : Int), rfl, Nat.zero_le _, rfl, rfl, rfl, rfl, (a9.t (a5.t (bb.t (bQ.t bK)))), NodesB.nil _ _ _, aY⟩ ?_))))))))
 rintro bc _ u21 ⟨i, hz, X, Y, F0, F1, F2, bL, hi, bJ, bH, bA, rfl, aU, hN, hY⟩
 have hNl := hN.len
 rw [Nt.csNodes_len] at hNl
 have hYl := hY.1
 rw [zwk, Nt.csNext_len, Nat.mul_one] at hYl
 refine sq9 (zza 49 (zB (decide ((i : Int) < (x.n : Int)))) (zzb (zzd (zzu (b := decide ((i : Int) < (x.n : Int))) xj (fun ai => ?_) (fun ai => ?_)))))
 ·have qhb22 := of_decide_eq_true ai
  refine zzs (zzp ?_)
  refine zzd (zzt (sq9 (zza 50 (zI i) ?_)))
  have hl23 := ((hx.ext aU)).len
  obtain ⟨b23, a6, a1, aF⟩ := ir_at5 (hx.ext aU) (i := i) xq
  refine zya 51 (a6 + i * 5) (n := x.n) (off := a6) (sz := 5) (i := (i : Int)) xq a1 xq xq sl101 (zym 52 [.int .i64 (gi L i 0), .int .i64 (gi L i 1), .int .i64 (gi L i 2), .int .i64 (gi L i 3), .int .i64 (gi L i 4)] aF ty179 (zzk 13 ⟨179, [.int .i64 0, .int .i64 0, .int .i64 0, .int .i64 0, .int .i64 0]⟩ (zza 12 (zI i) (zzj ⟨179, [.int .i64 (gi L i 0), .int .i64 (gi L i 1), .int .i64 (gi L i 2), .int .i64 (gi L i 3), .int .i64 (gi L i 4)]⟩ ty179 ?_))))
  refine zzb (zzd ?_)
  have hsf := hall i xq
  have hbd := Nt.secFit_ok hsf
  have hbd0 := hbd 0 yj
  have hbd1 := hbd 1 yj
  have hbd2 := hbd 2 yj
  have hbd3 := hbd 3 yj
  have hbd4 := hbd 4 yj
  refine zzf (zza 53 (zI i) (zyq 54 (x := zI (IntKind.i64.wrap ((2 : Int) * (i : Int)))) (zI (2 * i : Nat)) (eqI yq) (zyq 55 (x := zI (IntKind.i64.wrap ((3 : Int) + ((2 * i : Nat) : Int)))) (zI ((3 + (2 * i) : Nat) : Int)) (eqI yq) (zza 14 (zI ((3 + (2 * i) : Nat) : Int)) (zzb (sq9 (sy_makeC 56 (T := 148) (E := 147) (z := .agg #[.int .i64 0, .int .i64 0]) (size := 2) (bytes := 16) 0 5 (tcs (List.replicate 5 tl0)) xj xj rfl rfl yj yj (by unfold maxLen; decide) xj ?_)))))))
  have bR : (tcs (List.replicate 5 tl0)).length = 5 * 2 := rfl
  have ba : 5 ≤ maxLen := by unfold maxLen; decide
  have aD : (tcs (List.replicate 5 tl0)).take (0 * 2) = tcs [] := rfl
  refine zza 15 (.slc 56 0 0 5) (zzc 113 [(6, .adr 6 0), (9, zI ((2 + (2 * x.n) : Nat) : Int)), (10, .adr 10 0), (11, .adr 11 0), (12, zI i), (13, .adr 13 0), (14, zI ((3 + (2 * i) : Nat) : Int)), (15, .slc 56 0 0 5), (46, .v (x.v)), (47, zI x.n), (48, zI i)] [(6, ⟨72, [.int .i64 0, .int .i64 0, .int .i64 0, .int .i64 0, .int .i64 0, .int .i64 0, .int .i64 0, .int .i64 0, .int .i64 0, .slice none 0 0, .slice none 0 0, .int .i64 0]⟩), (10, ⟨72, [.int .i64 D.b, .int .i64 D.f, .int .i64 D.r, .int .i64 D.o, .int .i64 W.b, .int .i64 W.f, .int .i64 W.r, .int .i64 W.o, .int .i64 (2 + 2 * x.n : Nat), X.v, Y.v, .int .i64 (2 + 2 * x.n + x.n : Nat)]⟩), (11, ⟨177, [.int .i64 F0, .int .i64 F1, .int .i64 F2]⟩), (13, ⟨179, [.int .i64 (gi L i 0), .int .i64 (gi L i 1), .int .i64 (gi L i 2), .int .i64 (gi L i 3), .int .i64 (gi L i 4)]⟩), (56, ⟨147, (tcs (List.replicate 5 tl0))⟩)] (zzd (sq9 (zza 57 (.adr 13 0) (zzi 58 (.v (.agg #[.int .i64 (gi L i 0), .int .i64 (gi L i 1), .int .i64 (gi L i 2)])) ty177 zze (zza 59 (zI 0) (zzb (zzt (sw_rounds 3 ?_)))))))))
  refine sq9 (zza 60 (zB true) (zzb (zzd (zyr xj (zzs (zzp ?_))))))
  refine zzd (zzt (sq9 (zza 61 (zI 0) (zza 62 (zI (gi L i 0)) (zza 16 (zI 0) (zza 17 (zI (gi L i 0)) (zzb (zzf (zza 63 (.slc 56 0 0 5) (zza 64 (zI 0) (zza 65 (.adr 11 0) ?_)))))))))))
  refine zzi 66 (zI F0) ty3 zzl (zza 67 (zI (gi L i 0)) (zza 68 (.v (.agg #[.int .i64 F0, .int .i64 (gi L i 0)])) (zxy 69 ⟨147, [.int .i64 F0, .int .i64 (gi L i 0)]⟩ 1 (fun be u26 aQ bI => ?_))))
  refine sy_app1 70 (T := 148) (E := 147) (z := .agg #[.int .i64 0, .int .i64 0]) (size := 2) (bytes := 16) (b := be) (off := 0) (m := 1) (n := 0) (cap := 5) (t := 56) (cs0 := (tcs (List.replicate 5 tl0))) [15, 56, 63, 70] [.int .i64 F0, .int .i64 (gi L i 0)] xj xj xj yj rfl (lit_news ((Ext.refl _).cells bI)) (tl_one (⟨F0, gi L i 0⟩ : TL)) yj yv xq xq xq xq xk ?_
  intro aA af bk br bn aN
  have al : af.take ((0 + 1) * 2) = tcs ([] ++ [(⟨F0, gi L i 0⟩ : TL)]) := by rw [aN, aD, tcs_app]; rfl
  refine zza 15 (.slc 70 0 (0 + 1) aA) (zzx ?_)
  refine zzp (zzf (zza 71 (zI 1) (zza 59 (zI 1) (zzx ?_))))
  refine rn_next ?_
  refine sw_weak (T := St.of 113 [(6, .adr 6 0), (9, zI ((2 + (2 * x.n) : Nat) : Int)), (10, .adr 10 0), (11, .adr 11 0), (12, zI i), (13, .adr 13 0), (14, zI ((3 + (2 * i) : Nat) : Int)), (15, .slc 70 0 (0 + 1) aA), (46, .v (x.v)), (47, zI x.n), (48, zI i), (58, .v (.agg #[.int .i64 (gi L i 0), .int .i64 (gi L i 1), .int .i64 (gi L i 2)])), (59, zI 1)] [(6, ⟨72, [.int .i64 0, .int .i64 0, .int .i64 0, .int .i64 0, .int .i64 0, .int .i64 0, .int .i64 0, .int .i64 0, .int .i64 0, .slice none 0 0, .slice none 0 0, .int .i64 0]⟩), (10, ⟨72, [.int .i64 D.b, .int .i64 D.f, .int .i64 D.r, .int .i64 D.o, .int .i64 W.b, .int .i64 W.f, .int .i64 W.r, .int .i64 W.o, .int .i64 (2 + 2 * x.n : Nat), X.v, Y.v, .int .i64 (2 + 2 * x.n + x.n : Nat)]⟩), (11, ⟨177, [.int .i64 F0, .int .i64 F1, .int .i64 F2]⟩), (13, ⟨179, [.int .i64 (gi L i 0), .int .i64 (gi L i 1), .int .i64 (gi L i 2), .int .i64 (gi L i 3), .int .i64 (gi L i 4)]⟩), (70, ⟨147, af⟩)]) yz ?_
  refine sq9 (zza 60 (zB true) (zzb (zzd (zyr xj (zzs (zzp ?_))))))
  refine zzd (zzt (sq9 (zza 61 (zI 1) (zza 62 (zI (gi L i 1)) (zza 16 (zI 1) (zza 17 (zI (gi L i 1)) (zzb (zzf (zza 63 (.slc 70 0 (0 + 1) aA) (zza 64 (zI 1) (zza 65 (.adr 11 1) ?_)))))))))))
  refine zzi 66 (zI F1) ty3 zzl (zza 67 (zI (gi L i 1)) (zza 68 (.v (.agg #[.int .i64 F1, .int .i64 (gi L i 1)])) (zxy 69 ⟨147, [.int .i64 F1, .int .i64 (gi L i 1)]⟩ 1 (fun bE u31 a2 bi => ?_))))
  refine sy_app1 70 (T := 148) (E := 147) (z := .agg #[.int .i64 0, .int .i64 0]) (size := 2) (bytes := 16) (b := bE) (off := 0) (m := 1) (n := 0 + 1) (cap := aA) (t := 70) (cs0 := af) [15, 63, 70] [.int .i64 F1, .int .i64 (gi L i 1)] xj xj xj yj rfl (lit_news ((Ext.refl _).cells bi)) (tl_one (⟨F1, gi L i 1⟩ : TL)) yj yv xq xq xq xq xk ?_
  intro ax aj bt bF bS aB
  have au : aj.take ((0 + 1 + 1) * 2) = tcs ([] ++ [(⟨F0, gi L i 0⟩ : TL)] ++ [(⟨F1, gi L i 1⟩ : TL)]) := by rw [aB, al, tcs_app]; rfl
  refine zza 15 (.slc 70 0 (0 + 1 + 1) ax) (zzx ?_)
  refine zzp (zzf (zza 71 (zI 2) (zza 59 (zI 2) (zzx ?_))))
  refine rn_next ?_
  refine sw_weak (T := St.of 113 [(6, .adr 6 0), (9, zI ((2 + (2 * x.n) : Nat) : Int)), (10, .adr 10 0), (11, .adr 11 0), (12, zI i), (13, .adr 13 0), (14, zI ((3 + (2 * i) : Nat) : Int)), (15, .slc 70 0 (0 + 1 + 1) ax), (46, .v (x.v)), (47, zI x.n), (48, zI i), (58, .v (.agg #[.int .i64 (gi L i 0), .int .i64 (gi L i 1), .int .i64 (gi L i 2)])), (59, zI 2)] [(6, ⟨72, [.int .i64 0, .int .i64 0, .int .i64 0, .int .i64 0, .int .i64 0, .int .i64 0, .int .i64 0, .int .i64 0, .int .i64 0, .slice none 0 0, .slice none 0 0, .int .i64 0]⟩), (10, ⟨72, [.int .i64 D.b, .int .i64 D.f, .int .i64 D.r, .int .i64 D.o, .int .i64 W.b, .int .i64 W.f, .int .i64 W.r, .int .i64 W.o, .int .i64 (2 + 2 * x.n : Nat), X.v, Y.v, .int .i64 (2 + 2 * x.n + x.n : Nat)]⟩), (11, ⟨177, [.int .i64 F0, .int .i64 F1, .int .i64 F2]⟩), (13, ⟨179, [.int .i64 (gi L i 0), .int .i64 (gi L i 1), .int .i64 (gi L i 2), .int .i64 (gi L i 3), .int .i64 (gi L i 4)]⟩), (70, ⟨147, aj⟩)]) yz ?_
  refine sq9 (zza 60 (zB true) (zzb (zzd (zyr xj (zzs (zzp ?_))))))
  refine zzd (zzt (sq9 (zza 61 (zI 2) (zza 62 (zI (gi L i 2)) (zza 16 (zI 2) (zza 17 (zI (gi L i 2)) (zzb (zzf (zza 63 (.slc 70 0 (0 + 1 + 1) ax) (zza 64 (zI 2) (zza 65 (.adr 11 2) ?_)))))))))))
  refine zzi 66 (zI F2) ty3 zzl (zza 67 (zI (gi L i 2)) (zza 68 (.v (.agg #[.int .i64 F2, .int .i64 (gi L i 2)])) (zxy 69 ⟨147, [.int .i64 F2, .int .i64 (gi L i 2)]⟩ 1 (fun bo u36 aM bm => ?_))))
  refine sy_app1 70 (T := 148) (E := 147) (z := .agg #[.int .i64 0, .int .i64 0]) (size := 2) (bytes := 16) (b := bo) (off := 0) (m := 1) (n := 0 + 1 + 1) (cap := ax) (t := 70) (cs0 := aj) [15, 63, 70] [.int .i64 F2, .int .i64 (gi L i 2)] xj xj xj yj rfl (lit_news ((Ext.refl _).cells bm)) (tl_one (⟨F2, gi L i 2⟩ : TL)) yj yv xq xq xq xq xk ?_
  intro ay ah bx bP bu aJ
  have ao : ah.take ((0 + 1 + 1 + 1) * 2) = tcs ([] ++ [(⟨F0, gi L i 0⟩ : TL)] ++ [(⟨F1, gi L i 1⟩ : TL)] ++ [(⟨F2, gi L i 2⟩ : TL)]) := by rw [aJ, au, tcs_app]; rfl
  refine zza 15 (.slc 70 0 (0 + 1 + 1 + 1) ay) (zzx ?_)
  refine zzp (zzf (zza 71 (zI 3) (zza 59 (zI 3) (zzx ?_))))
  refine rn_next ?_
  refine sw_weak (T := St.of 113 [(6, .adr 6 0), (9, zI ((2 + (2 * x.n) : Nat) : Int)), (10, .adr 10 0), (11, .adr 11 0), (12, zI i), (13, .adr 13 0), (14, zI ((3 + (2 * i) : Nat) : Int)), (15, .slc 70 0 (0 + 1 + 1 + 1) ay), (46, .v (x.v)), (47, zI x.n), (48, zI i), (58, .v (.agg #[.int .i64 (gi L i 0), .int .i64 (gi L i 1), .int .i64 (gi L i 2)])), (59, zI 3)] [(6, ⟨72, [.int .i64 0, .int .i64 0, .int .i64 0, .int .i64 0, .int .i64 0, .int .i64 0, .int .i64 0, .int .i64 0, .int .i64 0, .slice none 0 0, .slice none 0 0, .int .i64 0]⟩), (10, ⟨72, [.int .i64 D.b, .int .i64 D.f, .int .i64 D.r, .int .i64 D.o, .int .i64 W.b, .int .i64 W.f, .int .i64 W.r, .int .i64 W.o, .int .i64 (2 + 2 * x.n : Nat), X.v, Y.v, .int .i64 (2 + 2 * x.n + x.n : Nat)]⟩), (11, ⟨177, [.int .i64 F0, .int .i64 F1, .int .i64 F2]⟩), (13, ⟨179, [.int .i64 (gi L i 0), .int .i64 (gi L i 1), .int .i64 (gi L i 2), .int .i64 (gi L i 3), .int .i64 (gi L i 4)]⟩), (70, ⟨147, ah⟩)]) yz ?_
  refine sq9 (zza 60 (zB false) (zzb (zzd (zys xj (zyc (zzp (zzd (sq9 (zza 72 (.adr 13 3) (zzi 73 (.v (.agg #[.int .i64 (gi L i 3), .int .i64 (gi L i 4)])) ty166 zze (zza 74 (zI 0) ?_)))))))))))
  refine zzb (zzt (sw_rounds 2 ?_))
  refine sq9 (zza 75 (zB true) (zzb (zzd (zyr xj (zzs (zzp ?_))))))
  refine zzd (zzt (sq9 (zza 76 (zI 0) (zza 77 (zI (gi L i 3)) (zza 18 (zI 0) (zza 19 (zI (gi L i 3)) (zzb (zzf (zza 78 (.slc 70 0 (0 + 1 + 1 + 1) ay) (zza 79 (zI ((3 + (2 * i) : Nat) : Int)) (zza 80 (zI 0) ?_)))))))))))
  refine zyq 81 (x := zI (IntKind.i64.wrap (((3 + (2 * i) : Nat) : Int) + 0))) (zI (((3 + (2 * i)) + 0 : Nat) : Int)) (eqI yq) (zza 82 (zI (gi L i 3)) (zyq 83 (x := zI (IntKind.i64.wrap (0 - (gi L i 3)))) (zI (-(gi L i 3))) (eqI yq) (zza 84 (.v (.agg #[.int .i64 (((3 + (2 * i)) + 0 : Nat) : Int), .int .i64 (-(gi L i 3))])) (zxy 85 ⟨147, [.int .i64 (((3 + (2 * i)) + 0 : Nat) : Int), .int .i64 (-(gi L i 3))]⟩ 1 (fun bp u41 a4 bM => ?_)))))
  refine sy_app1 86 (T := 148) (E := 147) (z := .agg #[.int .i64 0, .int .i64 0]) (size := 2) (bytes := 16) (b := bp) (off := 0) (m := 1) (n := 0 + 1 + 1 + 1) (cap := ay) (t := 70) (cs0 := ah) [15, 70, 78, 86] [.int .i64 (((3 + (2 * i)) + 0 : Nat) : Int), .int .i64 (-(gi L i 3))] xj xj xj yj rfl (lit_news ((Ext.refl _).cells bM)) (tl_one (⟨(((3 + (2 * i)) + 0 : Nat) : Int), -(gi L i 3)⟩ : TL)) yj yv xq xq xq xq xk ?_
  intro an ab bq bU bD aZ
  have aw : ab.take ((0 + 1 + 1 + 1 + 1) * 2) = tcs ([] ++ [(⟨F0, gi L i 0⟩ : TL)] ++ [(⟨F1, gi L i 1⟩ : TL)] ++ [(⟨F2, gi L i 2⟩ : TL)] ++ [(⟨(((3 + (2 * i)) + 0 : Nat) : Int), -(gi L i 3)⟩ : TL)]) := by rw [aZ, ao, tcs_app]; rfl
  refine zza 15 (.slc 86 0 (0 + 1 + 1 + 1 + 1) an) (zzx ?_)
  refine zzp (zzf (zza 87 (zI 1) (zza 74 (zI 1) (zzx ?_))))
  refine rn_next ?_
  refine sw_weak (T := St.of 113 [(6, .adr 6 0), (9, zI ((2 + (2 * x.n) : Nat) : Int)), (10, .adr 10 0), (11, .adr 11 0), (12, zI i), (14, zI ((3 + (2 * i) : Nat) : Int)), (15, .slc 86 0 (0 + 1 + 1 + 1 + 1) an), (46, .v (x.v)), (47, zI x.n), (48, zI i), (73, .v (.agg #[.int .i64 (gi L i 3), .int .i64 (gi L i 4)])), (74, zI 1)] [(6, ⟨72, [.int .i64 0, .int .i64 0, .int .i64 0, .int .i64 0, .int .i64 0, .int .i64 0, .int .i64 0, .int .i64 0, .int .i64 0, .slice none 0 0, .slice none 0 0, .int .i64 0]⟩), (10, ⟨72, [.int .i64 D.b, .int .i64 D.f, .int .i64 D.r, .int .i64 D.o, .int .i64 W.b, .int .i64 W.f, .int .i64 W.r, .int .i64 W.o, .int .i64 (2 + 2 * x.n : Nat), X.v, Y.v, .int .i64 (2 + 2 * x.n + x.n : Nat)]⟩), (11, ⟨177, [.int .i64 F0, .int .i64 F1, .int .i64 F2]⟩), (86, ⟨147, ab⟩)]) yz ?_
  refine sq9 (zza 75 (zB true) (zzb (zzd (zyr xj (zzs (zzp ?_))))))
  refine zzd (zzt (sq9 (zza 76 (zI 1) (zza 77 (zI (gi L i 4)) (zza 18 (zI 1) (zza 19 (zI (gi L i 4)) (zzc 113 [(6, .adr 6 0), (9, zI ((2 + (2 * x.n) : Nat) : Int)), (10, .adr 10 0), (11, .adr 11 0), (12, zI i), (14, zI ((3 + (2 * i) : Nat) : Int)), (15, .slc 86 0 (0 + 1 + 1 + 1 + 1) an), (18, zI 1), (19, zI (gi L i 4)), (46, .v (x.v)), (47, zI x.n), (48, zI i), (73, .v (.agg #[.int .i64 (gi L i 3), .int .i64 (gi L i 4)])), (74, zI 1)] [(6, ⟨72, [.int .i64 0, .int .i64 0, .int .i64 0, .int .i64 0, .int .i64 0, .int .i64 0, .int .i64 0, .int .i64 0, .int .i64 0, .slice none 0 0, .slice none 0 0, .int .i64 0]⟩), (10, ⟨72, [.int .i64 D.b, .int .i64 D.f, .int .i64 D.r, .int .i64 D.o, .int .i64 W.b, .int .i64 W.f, .int .i64 W.r, .int .i64 W.o, .int .i64 (2 + 2 * x.n : Nat), X.v, Y.v, .int .i64 (2 + 2 * x.n + x.n : Nat)]⟩), (11, ⟨177, [.int .i64 F0, .int .i64 F1, .int .i64 F2]⟩), (86, ⟨147, ab⟩)] (zzf (zza 78 (.slc 86 0 (0 + 1 + 1 + 1 + 1) an) (zza 79 (zI ((3 + (2 * i) : Nat) : Int)) (zza 80 (zI 1) ?_)))))))))))
  refine zyq 81 (x := zI (IntKind.i64.wrap (((3 + (2 * i) : Nat) : Int) + 1))) (zI (((3 + (2 * i)) + 1 : Nat) : Int)) (eqI yq) (zza 82 (zI (gi L i 4)) (zyq 83 (x := zI (IntKind.i64.wrap (0 - (gi L i 4)))) (zI (-(gi L i 4))) (eqI yq) (zza 84 (.v (.agg #[.int .i64 (((3 + (2 * i)) + 1 : Nat) : Int), .int .i64 (-(gi L i 4))])) (zxy 85 ⟨147, [.int .i64 (((3 + (2 * i)) + 1 : Nat) : Int), .int .i64 (-(gi L i 4))]⟩ 1 (fun bC u46 aR bG => ?_)))))
  refine sy_app1 86 (T := 148) (E := 147) (z := .agg #[.int .i64 0, .int .i64 0]) (size := 2) (bytes := 16) (b := bC) (off := 0) (m := 1) (n := 0 + 1 + 1 + 1 + 1) (cap := an) (t := 86) (cs0 := ab) [15, 78, 86] [.int .i64 (((3 + (2 * i)) + 1 : Nat) : Int), .int .i64 (-(gi L i 4))] xj xj xj yj rfl (lit_news ((Ext.refl _).cells bG)) (tl_one (⟨(((3 + (2 * i)) + 1 : Nat) : Int), -(gi L i 4)⟩ : TL)) yj yv xq xq xq xq xk ?_
  intro ac ag aV aT aK aI
  have aq : ag.take ((0 + 1 + 1 + 1 + 1 + 1) * 2) = tcs ([] ++ [(⟨F0, gi L i 0⟩ : TL)] ++ [(⟨F1, gi L i 1⟩ : TL)] ++ [(⟨F2, gi L i 2⟩ : TL)] ++ [(⟨(((3 + (2 * i)) + 0 : Nat) : Int), -(gi L i 3)⟩ : TL)] ++ [(⟨(((3 + (2 * i)) + 1 : Nat) : Int), -(gi L i 4)⟩ : TL)]) := by rw [aI, aw, tcs_app]; rfl
  refine zza 15 (.slc 86 0 (0 + 1 + 1 + 1 + 1 + 1) ac) (zzx ?_)
  refine zzp (zzf (zza 87 (zI 2) (zza 74 (zI 2) (zzx ?_))))
  refine rn_next ?_
  refine sw_weak (T := St.of 113 [(6, .adr 6 0), (9, zI ((2 + (2 * x.n) : Nat) : Int)), (10, .adr 10 0), (11, .adr 11 0), (12, zI i), (14, zI ((3 + (2 * i) : Nat) : Int)), (15, .slc 86 0 (0 + 1 + 1 + 1 + 1 + 1) ac), (46, .v (x.v)), (47, zI x.n), (48, zI i), (73, .v (.agg #[.int .i64 (gi L i 3), .int .i64 (gi L i 4)])), (74, zI 2)] [(6, ⟨72, [.int .i64 0, .int .i64 0, .int .i64 0, .int .i64 0, .int .i64 0, .int .i64 0, .int .i64 0, .int .i64 0, .int .i64 0, .slice none 0 0, .slice none 0 0, .int .i64 0]⟩), (10, ⟨72, [.int .i64 D.b, .int .i64 D.f, .int .i64 D.r, .int .i64 D.o, .int .i64 W.b, .int .i64 W.f, .int .i64 W.r, .int .i64 W.o, .int .i64 (2 + 2 * x.n : Nat), X.v, Y.v, .int .i64 (2 + 2 * x.n + x.n : Nat)]⟩), (11, ⟨177, [.int .i64 F0, .int .i64 F1, .int .i64 F2]⟩), (86, ⟨147, ag⟩)]) yz ?_
  refine sq9 (zza 75 (zB false) (zzb (zzd (zys xj (zyc (zzp (sq9 (zza 88 (zI ((2 + (2 * x.n) : Nat) : Int)) (zyq 89 (x := zI (IntKind.i64.wrap (((2 + (2 * x.n) : Nat) : Int) + 1))) (zI (((2 + (2 * x.n)) + 1 : Nat) : Int)) (eqI yq) (zza 90 (zI i) (zyq 91 (x := zI (IntKind.i64.wrap ((((2 + (2 * x.n)) + 1 : Nat) : Int) + (i : Int)))) (zI ((((2 + (2 * x.n)) + 1) + i : Nat) : Int)) (eqI yq) ?_)))))))))))
  refine zza 20 (zI ((((2 + (2 * x.n)) + 1) + i : Nat) : Int)) (zzb (zzd (zyp (r := 15) (t := 86) [15, 86] xk xj zk zk xj (fun ad aH aG aW aL => ?_))))
  have av : MutL 2 147 u.heap.size aH (⟨some ⟨ad, 0, none⟩, 0 + 1 + 1 + 1 + 1 + 1, ac⟩ : Sl) (tcs (Nt.csNode x.n i (L.getD i []))) := by
   have h9 : MutL 2 147 u.heap.size aH (⟨some ⟨ad, 0, none⟩, 0 + 1 + 1 + 1 + 1 + 1, ac⟩ : Sl) (tcs ([] ++ [(⟨F0, gi L i 0⟩ : TL)] ++ [(⟨F1, gi L i 1⟩ : TL)] ++ [(⟨F2, gi L i 2⟩ : TL)] ++ [(⟨(((3 + (2 * i)) + 0 : Nat) : Int), -(gi L i 3)⟩ : TL)] ++ [(⟨(((3 + (2 * i)) + 1 : Nat) : Int), -(gi L i 4)⟩ : TL)])) := ⟨rfl, aV, aT, .inr ⟨ad, ag, rfl, aL, aK, aq, aW⟩⟩
   rw [bJ, bH, bA] at h9; exact h9
  have hNe := NodesB.excl (hN.ext (aQ.trans (a2.trans (aM.trans (a4.trans (aR.trans aG)))))) (Nat.le_refl _)
  have hZo := MutL.off av (Nat.le_refl _)
  refine zzf (zza 92 (.adr 10 9) (zzi 93 (.v (X.v)) ty70 zzl (zza 94 (.v (.slice (some ⟨ad, 0, none⟩) (0 + 1 + 1 + 1 + 1 + 1) ac)) (zza 95 (.v (.agg #[.slice (some ⟨ad, 0, none⟩) (0 + 1 + 1 + 1 + 1 + 1) ac])) (zxy 96 ⟨150, [.slice (some ⟨ad, 0, none⟩) (0 + 1 + 1 + 1 + 1 + 1) ac]⟩ 1 (fun bs u57 ap bl => ?_))))))
  obtain ⟨aP, aa, aO, aX⟩ := id (hNe.ext ap)
  have hnl60 := NodesB.len (hNe.ext ap)
  refine sy_appM 97 (T := 70) (E := 150) (z := .agg #[.slice none 0 0]) (size := 1) (bytes := 24) (b2 := bs) (off := 0) (m := 1) X (aP.map Sl.v) [.slice (some ⟨ad, 0, none⟩) (0 + 1 + 1 + 1 + 1 + 1) ac] aa xj xj xj yj rfl (lit_news ((Ext.refl _).cells bl)) (sl_one (⟨some ⟨ad, 0, none⟩, 0 + 1 + 1 + 1 + 1 + 1, ac⟩ : Sl)) yj yv xq (fun aE u60 a0 bN ae bV => ?_)
  have hN61 := NodesB.snoc (ts := (Nt.csNode x.n i (L.getD i []))) aa aO aX (av.ext ap) hZo ae a0
  have eT62 := ExtX.t ae aa
  have eT62r := ExtX.root ae aa (aU.trans (aQ.trans (a2.trans (aM.trans (a4.trans (aR.trans (aG.trans ap)))))))
  have hk63 := MutL.extT (hY.ext (aQ.trans (a2.trans (aM.trans (a4.trans (aR.trans (aG.trans ap))))))) eT62 yj
  have hN61l := NodesB.len hN61
  simp only [List.length_append, List.length_cons, List.length_nil, Nt.ndB_len] at hN61l
  refine zza 98 (.adr 10 9) (zzj ⟨72, [.int .i64 D.b, .int .i64 D.f, .int .i64 D.r, .int .i64 D.o, .int .i64 W.b, .int .i64 W.f, .int .i64 W.r, .int .i64 W.o, .int .i64 (2 + 2 * x.n : Nat), aE.v, Y.v, .int .i64 (2 + 2 * x.n + x.n : Nat)]⟩ ty70 ?_)
  refine zzb (sq9 (zza 99 (.adr 10 10) (zzi 100 (.v (Y.v)) ty22 zzl (zza 101 (zI ((((2 + (2 * x.n)) + 1) + i : Nat) : Int)) (zza 102 (zI ((3 + (2 * i) : Nat) : Int)) (zxy 103 ⟨3, [.int .i64 ((((2 + (2 * x.n)) + 1) + i : Nat) : Int), .int .i64 ((3 + (2 * i) : Nat) : Int)]⟩ 2 (fun bf u65 am bO => ?_)))))))
  refine sy_appM 104 (T := 22) (E := 3) (z := .int .i64 0) (size := 1) (bytes := 8) (b2 := bf) (off := 0) (m := 2) Y (ics (Nt.csNext x.n i)) [.int .i64 ((((2 + (2 * x.n)) + 1) + i : Nat) : Int), .int .i64 ((3 + (2 * i) : Nat) : Int)] (hk63.ext am) xj xj xj yj rfl (lit_news ((Ext.refl _).cells bO)) (int_two _ _) yj yv xq (fun aS bj a3 bw ak bT => ?_)
  have eT69 := ExtX.t ak (hk63.ext am)
  have eT69r := ExtX.root ak (hk63.ext am) (eT62r.trans am)
  have hk70 := NodesB.extT (hN61.ext am) eT69 yj yj
  have aC : MutL 1 3 u.heap.size bj aS (ics ((Nt.csNext x.n i) ++ [((((2 + (2 * x.n)) + 1) + i : Nat) : Int), ((3 + (2 * i) : Nat) : Int)])) := by rw [ics_app]; exact a3
  refine zza 105 (.adr 10 10) (zzj ⟨72, [.int .i64 D.b, .int .i64 D.f, .int .i64 D.r, .int .i64 D.o, .int .i64 W.b, .int .i64 W.f, .int .i64 W.r, .int .i64 W.o, .int .i64 (2 + 2 * x.n : Nat), aE.v, aS.v, .int .i64 (2 + 2 * x.n + x.n : Nat)]⟩ ty22 ?_)
  refine zzb (zzf (zza 106 (zI ((((2 + (2 * x.n)) + 1) + i : Nat) : Int)) (zza 107 (zI ((3 + (2 * i) : Nat) : Int)) (zza 108 (zI ((3 + (2 * i) : Nat) : Int)) (zyq 109 (x := zI (IntKind.i64.wrap (((3 + (2 * i) : Nat) : Int) + 1))) (zI (((3 + (2 * i)) + 1 : Nat) : Int)) (eqI yq) (zza 110 (.v (.agg #[.int .i64 ((((2 + (2 * x.n)) + 1) + i : Nat) : Int), .int .i64 ((3 + (2 * i) : Nat) : Int), .int .i64 (((3 + (2 * i)) + 1 : Nat) : Int)])) (zzj ⟨177, [.int .i64 ((((2 + (2 * x.n)) + 1) + i : Nat) : Int), .int .i64 ((3 + (2 * i) : Nat) : Int), .int .i64 (((3 + (2 * i)) + 1 : Nat) : Int)]⟩ ty177 ?_)))))))
  refine zzx ?_
  refine zzp (zzf (zyq 111 (x := zI (IntKind.i64.wrap ((i : Int) + 1))) (zI (i + 1 : Nat)) (eqI yq) (zza 48 (zI (i + 1 : Nat)) (zzx ?_))))
  refine ⟨_, ?_, _, by exact zzv _ _ _, i + 1, aH.heap.size, aE, aS, ((((2 + (2 * x.n)) + 1) + i : Nat) : Int), ((3 + (2 * i) : Nat) : Int), (((3 + (2 * i)) + 1 : Nat) : Int), rfl, by omega, (by unfold Nt.csF0; rw [if_neg xq]; omega), xq, xq, rfl, eT69r, (by rw [Nt.csNodes_succ]; exact hk70), (by rw [Nt.csNext_succ, show 3 + 2 * x.n + i = 2 + 2 * x.n + 1 + i by omega]; exact aC)⟩
  omega
 have qhb22 := of_decide_eq_false ai
 refine zyc (zzp (sq9 (zzi 112 (.v (.agg #[.int .i64 D.b, .int .i64 D.f, .int .i64 D.r, .int .i64 D.o, .int .i64 W.b, .int .i64 W.f, .int .i64 W.r, .int .i64 W.o, .int .i64 (2 + 2 * x.n : Nat), X.v, Y.v, .int .i64 (2 + 2 * x.n + x.n : Nat)])) ty72 zze (zzj ⟨72, [.int .i64 D.b, .int .i64 D.f, .int .i64 D.r, .int .i64 D.o, .int .i64 W.b, .int .i64 W.f, .int .i64 W.r, .int .i64 W.o, .int .i64 (2 + 2 * x.n : Nat), X.v, Y.v, .int .i64 (2 + 2 * x.n + x.n : Nat)]⟩ ty72 ?_))))
 refine zza 7 (zI 0) (zzb (zzo (ret0 [.agg #[.int .i64 D.b, .int .i64 D.f, .int .i64 D.r, .int .i64 D.o, .int .i64 W.b, .int .i64 W.f, .int .i64 W.r, .int .i64 W.o, .int .i64 (2 + 2 * x.n : Nat), X.v, Y.v, .int .i64 (2 + 2 * x.n + x.n : Nat)], .int .i64 0] ⟨zzr ty72 zze, zzq, trivial⟩ fun u72 a8 => ?_)))
 have a7 : i = L.length := by omega
 refine ⟨X, Y, ?_, ⟨hz, ?_⟩, ?_⟩
 ·rw [← hlx]; rfl
 ·have h9 := NodesB.low (hN.ext a8) (Nat.zero_le _)
  rw [a7, hlx] at h9; exact h9
 have h9 := MutL.low (hY.ext a8) (Nat.zero_le _)
 rw [a7, hlx] at h9; exact h9
set_option maxHeartbeats 1000000 in
theorem k_wordD {u w : World} {k : Int} (d : Dat u w) (hk0 : -9223372036854775808 ≤ k) (hk1 : k ≤ 9223372036854775807) : Calls Tryz.prog 99 #[.int .i64 k, .int .i64 6, .int .i64 12, .int .i64 2] w (Post u w fun v _ => ∃ W : WL, v = W.v ∧ WdOK W ∧ 6 ≤ W.b ∧ W.b ≤ 12) := by
 refine zzm (args := [.int .i64 k, .int .i64 6, .int .i64 12, .int .i64 2]) Tryz.func99 rfl Tryz.ntmps99 (rs := [.cell 8 66]) Tryz.results99 (le_b rfl) (le_b rfl) d ?_
 refine sq9 (zzk 8 ⟨66, [.int .i64 0, .int .i64 0, .int .i64 0, .int .i64 0]⟩ (zzb (sq9 (zza 10 (zI k) (zzg 11 100 _ fun _ _ _ ab => Post.mono ((show Calls _ _ #[.int .i64 k, .int .i64 1099511627776] _ _ from k_withinB (n := k) (m := 1099511627776) ab xq xq xq xq)) ?_)))))
 rintro _ u15 g16 ⟨aa, rfl, h13, h14⟩
 refine zza 0 (zI aa) (zzb (sq9 (zza 12 (zI 6) (zza 13 (zI aa) (zza 14 (zI 12) (zza 15 (zI 6) (zza 16 (zI 6) (zza 17 (zI 7) (sy_rem 18 (n := aa) (m := 7) (aa % 7) yj (Int.tmod_eq_emod_of_nonneg xq) ?_)))))))))
 refine zyq 19 (x := zI (IntKind.i64.wrap ((6 : Int) + (aa % 7)))) (zI ((6 : Int) + (aa % 7))) yw (zza 20 (.v (.agg #[.int .i64 ((6 : Int) + (aa % 7)), .int .i64 0, .int .i64 0, .int .i64 0])) (zzk 9 ⟨66, [.int .i64 0, .int .i64 0, .int .i64 0, .int .i64 0]⟩ (zzj ⟨66, [.int .i64 ((6 : Int) + (aa % 7)), .int .i64 0, .int .i64 0, .int .i64 0]⟩ ty66 ?_)))
 refine zzb (sq9 (zza 21 (zI aa) (zza 22 (zI 12) (zza 23 (zI 6) (zza 24 (zI 6) (zza 25 (zI 7) (sy_quo 26 (n := aa) (m := 7) (aa / 7) yj (by rw [Int.tdiv_eq_ediv_of_nonneg xq]; exact IntWalk.i64_in _ xq) ?_)))))))
 refine zza 0 (zI (aa / 7)) (zzb (sq9 (zza 27 (.adr 9 0) (zzi 28 (zI ((6 : Int) + (aa % 7))) ty3 zzl (zyq 29 (x := zI (IntKind.i64.wrap (((6 : Int) + (aa % 7)) - 1))) (zI (((6 : Int) + (aa % 7)) - 1)) yw (zza 30 (zI 2) (zyq 31 (x := zI (IntKind.i64.wrap ((((6 : Int) + (aa % 7)) - 1) - 2))) (zI ((((6 : Int) + (aa % 7)) - 1) - 2)) yw (zza 32 (zI (aa / 7)) (sy_rem 33 (n := aa / 7) (m := 2) ((aa / 7) % 2) yj (Int.tmod_eq_emod_of_nonneg xq) ?_)))))))))
 refine zyq 34 (x := zI (IntKind.i64.wrap (((((6 : Int) + (aa % 7)) - 1) - 2) - ((aa / 7) % 2)))) (zI (((((6 : Int) + (aa % 7)) - 1) - 2) - ((aa / 7) % 2))) yw (zza 35 (.adr 9 1) (zzj ⟨66, [.int .i64 ((6 : Int) + (aa % 7)), .int .i64 (((((6 : Int) + (aa % 7)) - 1) - 2) - ((aa / 7) % 2)), .int .i64 0, .int .i64 0]⟩ ty3 ?_))
 refine zzc 52 [(0, zI (aa / 7)), (8, .adr 8 0), (9, .adr 9 0)] [(8, ⟨66, [.int .i64 0, .int .i64 0, .int .i64 0, .int .i64 0]⟩), (9, ⟨66, [.int .i64 ((6 : Int) + (aa % 7)), .int .i64 (((((6 : Int) + (aa % 7)) - 1) - 2) - ((aa / 7) % 2)), .int .i64 0, .int .i64 0]⟩)] (sq9 (zza 36 (zI (aa / 7)) (sy_quo 37 (n := aa / 7) (m := 2) ((aa / 7) / 2) yj (by rw [Int.tdiv_eq_ediv_of_nonneg xq]; exact IntWalk.i64_in _ xq) ?_)))
 refine zza 0 (zI ((aa / 7) / 2)) (zzb (sq9 (zza 38 (.adr 9 1) (zzi 39 (zI (((((6 : Int) + (aa % 7)) - 1) - 2) - ((aa / 7) % 2))) ty3 zzl (sy_max0 40 (n := ((((6 : Int) + (aa % 7)) - 1) - 2) - ((aa / 7) % 2)) (v := ((((6 : Int) + (aa % 7)) - 1) - 2) - ((aa / 7) % 2)) (by split <;> omega) ?_)))))
 refine zza 41 (.adr 9 1) (zzj ⟨66, [.int .i64 ((6 : Int) + (aa % 7)), .int .i64 (((((6 : Int) + (aa % 7)) - 1) - 2) - ((aa / 7) % 2)), .int .i64 0, .int .i64 0]⟩ ty3 ?_)
 refine zzb (sq9 (zza 42 (zI ((aa / 7) / 2)) (sy_rem 43 (n := (aa / 7) / 2) (m := 3) (((aa / 7) / 2) % 3) yj (Int.tmod_eq_emod_of_nonneg xq) ?_)))
 refine zyq 44 (x := zI (IntKind.i64.wrap ((1 : Int) + (((aa / 7) / 2) % 3)))) (zI ((1 : Int) + (((aa / 7) / 2) % 3))) yw (zza 45 (zI ((aa / 7) / 2)) (sy_quo 46 (n := (aa / 7) / 2) (m := 3) (((aa / 7) / 2) / 3) yj (by rw [Int.tdiv_eq_ediv_of_nonneg xq]; exact IntWalk.i64_in _ xq) ?_))
 refine sy_rem 47 (n := ((aa / 7) / 2) / 3) (m := 2) ((((aa / 7) / 2) / 3) % 2) yj (Int.tmod_eq_emod_of_nonneg xq) ?_
 refine zyq 48 (x := zI (IntKind.i64.wrap ((1 : Int) + ((((aa / 7) / 2) / 3) % 2)))) (zI ((1 : Int) + ((((aa / 7) / 2) / 3) % 2))) yw (zza 49 (.adr 9 2) (zzj ⟨66, [.int .i64 ((6 : Int) + (aa % 7)), .int .i64 (((((6 : Int) + (aa % 7)) - 1) - 2) - ((aa / 7) % 2)), .int .i64 ((1 : Int) + (((aa / 7) / 2) % 3)), .int .i64 0]⟩ ty3 ?_))
 refine zza 50 (.adr 9 3) (zzj ⟨66, [.int .i64 ((6 : Int) + (aa % 7)), .int .i64 (((((6 : Int) + (aa % 7)) - 1) - 2) - ((aa / 7) % 2)), .int .i64 ((1 : Int) + (((aa / 7) / 2) % 3)), .int .i64 ((1 : Int) + ((((aa / 7) / 2) / 3) % 2))]⟩ ty3 ?_)
 refine zzb (sq9 (zzi 51 (.v (.agg #[.int .i64 ((6 : Int) + (aa % 7)), .int .i64 (((((6 : Int) + (aa % 7)) - 1) - 2) - ((aa / 7) % 2)), .int .i64 ((1 : Int) + (((aa / 7) / 2) % 3)), .int .i64 ((1 : Int) + ((((aa / 7) / 2) / 3) % 2))])) ty66 zze (zzj ⟨66, [.int .i64 ((6 : Int) + (aa % 7)), .int .i64 (((((6 : Int) + (aa % 7)) - 1) - 2) - ((aa / 7) % 2)), .int .i64 ((1 : Int) + (((aa / 7) / 2) % 3)), .int .i64 ((1 : Int) + ((((aa / 7) / 2) / 3) % 2))]⟩ ty66 ?_)))
 refine zzb (zzo (ret0 [.agg #[.int .i64 ((6 : Int) + (aa % 7)), .int .i64 (((((6 : Int) + (aa % 7)) - 1) - 2) - ((aa / 7) % 2)), .int .i64 ((1 : Int) + (((aa / 7) / 2) % 3)), .int .i64 ((1 : Int) + ((((aa / 7) / 2) / 3) % 2))]] ⟨zzr ty66 zze, trivial⟩ fun u18 e19 => ?_))
 exact ⟨⟨(6 : Int) + (aa % 7), ((((6 : Int) + (aa % 7)) - 1) - 2) - ((aa / 7) % 2), (1 : Int) + (((aa / 7) / 2) % 3), (1 : Int) + ((((aa / 7) / 2) / 3) % 2)⟩, rfl, by unfold WdOK; dsimp only; omega, by dsimp only; omega, by dsimp only; omega⟩
theorem k_data {u w : World} {k : Int} (d : Dat u w) (hk0 : -9223372036854775808 ≤ k) (hk1 : k ≤ 9223372036854775807) : Calls Tryz.prog 41 #[.int .i64 k] w (Post u w fun v _ => ∃ W : WL, v = W.v ∧ WdOK W ∧ 6 ≤ W.b ∧ W.b ≤ 12) := by
 refine zzm (args := [.int .i64 k]) Tryz.func41 rfl Tryz.ntmps41 (rs := [.cell 2 66]) Tryz.results41 (le_b rfl) (le_b rfl) d ?_
 refine sq9 (zzk 2 ⟨66, [.int .i64 0, .int .i64 0, .int .i64 0, .int .i64 0]⟩ (zzb (sq9 (zza 3 (zI k) (zzg 4 99 _ fun _ _ _ ae => Post.mono (k_wordD (k := k) ae xq xq) ?_)))))
 rintro _ u16 g17 ⟨aa, rfl, ad, ab, ac⟩
 refine zzj ⟨66, aa.cs⟩ ty66 ?_
 refine zzb (zzo (ret0 [.agg #[.int .i64 aa.b, .int .i64 aa.f, .int .i64 aa.r, .int .i64 aa.o]] ⟨zzr ty66 zze, trivial⟩ fun u19 e20 => ?_))
 exact ⟨aa, rfl, by assumption, by assumption, by assumption⟩
theorem bd_five {lo hi a b c d e : Int} (h1 : lo ≤ a ∧ a ≤ hi) (h2 : lo ≤ b ∧ b ≤ hi) (h3 : lo ≤ c ∧ c ≤ hi) (h4 : lo ≤ d ∧ d ≤ hi) (h5 : lo ≤ e ∧ e ≤ hi) : ∀ z ∈ [a, b, c, d, e], lo ≤ z ∧ z ≤ hi := fun z hz => by
 rcases List.mem_cons.1 hz with rfl | hz
 ·exact h1
 rcases List.mem_cons.1 hz with rfl | hz
 ·exact h2
 rcases List.mem_cons.1 hz with rfl | hz
 ·exact h3
 rcases List.mem_cons.1 hz with rfl | hz
 ·exact h4
 rcases List.mem_cons.1 hz with rfl | hz
 ·exact h5
 cases hz
theorem sec_nil {b : Int} : ∀ p ∈ ([] : List (List Int)), p.length = 5 ∧ ∀ z ∈ p, -b ≤ z ∧ z ≤ b := fun p hp => by cases hp
theorem sec_snoc {L : List (List Int)} {lo a b c d e : Int} (h : ∀ p ∈ L, p.length = 5 ∧ ∀ z ∈ p, -lo ≤ z ∧ z ≤ lo) (h1 : -lo ≤ a ∧ a ≤ lo) (h2 : -lo ≤ b ∧ b ≤ lo) (h3 : -lo ≤ c ∧ c ≤ lo) (h4 : -lo ≤ d ∧ d ≤ lo) (h5 : -lo ≤ e ∧ e ≤ lo) : ∀ p ∈ L ++ [[a, b, c, d, e]], p.length = 5 ∧ ∀ z ∈ p, -lo ≤ z ∧ z ≤ lo := fun p hp => by
 rcases List.mem_append.1 hp with hp | hp
 ·exact h p hp
 rw [List.mem_singleton.1 hp]; exact ⟨rfl, bd_five h1 h2 h3 h4 h5⟩
set_option maxHeartbeats 4000000 in
theorem k_sections24 {u w : World} {x y : Sl} {l m : List Int} {W : WL} {n q : Int} (d : Dat u w) (hx : SlR .i64 u x.a x.n x.c l) (hb : ∀ z ∈ l, -9223372036854775808 ≤ z ∧ z ≤ 9223372036854775807) (hy : SlR .i64 u y.a y.n y.c m) (hbm : ∀ z ∈ m, -9223372036854775808 ≤ z ∧ z ≤ 9223372036854775807) (hW : WdOK W) (hq1 : 1 ≤ q) (hq2 : q ≤ 8) (hn0 : -9223372036854775808 ≤ n) (hn1 : n ≤ 9223372036854775807) : Calls Tryz.prog 52 #[.agg #[x.v, y.v], .int .i64 n, .int .i64 q, W.v] w (Post u w fun v u' => ∃ (y : Sl) (L : List (List Int)), v = y.v ∧ IrV 5 u' y L ∧ L.length = (n % q).toNat + 1 ∧ ∀ p ∈ L, p.length = 5 ∧ ∀ z ∈ p, -(Nt.p2i (W.b - 1) - 1) ≤ z ∧ z ≤ Nt.p2i (W.b - 1) - 1) := by
 obtain ⟨hw1, hw2, hw3, hw4, hw5, hw6, hw7, hw8⟩ := id hW
 have hu0 := Nt.zxp W.f
 have hu1 := Nt.p2i_24 (n := W.f) xq
 have hu2 := Nt.zwf (a := W.f) (b := W.b - 1) xq
 have hu3 := Nt.p2i_24 (n := W.b - 1) xq
 have hm0 := Int.emod_nonneg n (show q ≠ 0 by omega)
 have hm1 := Int.emod_lt_of_pos n (show 0 < q by omega)
 have hlx : l.length = x.n := hx.1
 have hly : m.length = y.n := hy.1
 refine zzm (args := [.agg #[x.v, y.v], .int .i64 n, .int .i64 q, .agg #[.int .i64 W.b, .int .i64 W.f, .int .i64 W.r, .int .i64 W.o]]) Tryz.func52 rfl Tryz.ntmps52 (rs := [.tmp 8]) Tryz.results52 (le_b rfl) (le_b rfl) d ?_
 refine sq9 (zzk 4 ⟨100, [x.v, y.v]⟩ (zzk 7 ⟨66, W.cs⟩ (zza 8 (.v (.slice none 0 0)) (zzb (sq9 (zza 9 (.v (.slice none 0 0)) (zzb (sq9 (zza 13 (.adr 7 0) (zzi 14 (zI W.b) ty3 zzl (zyq 15 (x := zI (IntKind.i64.wrap (W.b - 1))) (zI (W.b - 1)) yw ?_)))))))))))
 refine sy_conv 16 (W.b - 1) (fun w => by kernel_rfl) (IntWalk.u64_in _ xq) ?_
 refine sy_shl 17 (k := .i64) (s := W.b - 1) (Nt.p2i (W.b - 1)) xq (by show _ ≤ (64 : Int); omega) (shl_one xq xq) ?_
 refine zyq 18 (x := zI (IntKind.i64.wrap ((Nt.p2i (W.b - 1)) - 1))) (zI ((Nt.p2i (W.b - 1)) - 1)) yw (zza 10 (zI ((Nt.p2i (W.b - 1)) - 1)) (zzb (zzd (sq9 (zza 11 (zI 0) (zzb (zzt (zyn (I := fun aN S' u' => (aN = ((n % q).toNat + 1) ∧ S' = St.of 79 [(1, zI n), (2, zI q), (4, .adr 4 0), (9, .v (.slice none 0 0)), (10, zI ((Nt.p2i (W.b - 1)) - 1)), (11, zI 0)] [(4, ⟨100, [x.v, y.v]⟩)] ∧ Ext u u') ∨ (∃ (i : Nat) (L : List (List Int)) (cs : List Value) (cp : Nat), aN = ((n % q).toNat + 1) - i ∧ i ≤ ((n % q).toNat + 1) ∧ 0 < i ∧ L.length = i ∧ cs.length = cp * 5 ∧ i ≤ cp ∧ cp ≤ maxLen ∧ cs.take (i * 5) = kcs L ∧ S' = St.of 79 [(1, zI n), (2, zI q), (4, .adr 4 0), (9, .slc 77 0 i cp), (10, zI ((Nt.p2i (W.b - 1)) - 1)), (11, zI i)] [(4, ⟨100, [x.v, y.v]⟩), (77, ⟨179, cs⟩)] ∧ Ext u u' ∧ (∀ p ∈ L, p.length = 5 ∧ ∀ z ∈ p, -(Nt.p2i (W.b - 1) - 1) ≤ z ∧ z ≤ Nt.p2i (W.b - 1) - 1))) (fun m S u1 u2 e h => by rcases h with ⟨a, b, c⟩ | ⟨a1, a2, a3, a4, b1, b2, b3, b4, b5, b6, b7, b8, b9, b10, b11⟩; exact .inl ⟨a, b, c.trans e⟩; exact .inr ⟨a1, a2, a3, a4, b1, b2, b3, b4, b5, b6, b7, b8, b9, b10.trans e, b11⟩) _ yz (.inl ⟨rfl, rfl, Ext.refl _⟩) ?_))))))))
 rintro aN _ u11 (⟨aX, rfl, ah⟩ | ⟨i, L, cs, cp, aX, hi, hp, hL, hc, hle, hmx, ht, rfl, ah, hP⟩)
 ·change SW _ _ _ _ (St.of 79 [(1, .v (.int .i64 n)), (2, .v (.int .i64 q)), (4, .adr 4 0), (9, .v (.slice none 0 0)), (10, .v (.int .i64 ((Nt.p2i (W.b - 1)) - 1))), (11, .v (.int .i64 0))] [(4, ⟨100, [.slice x.a x.n x.c, .slice y.a y.n y.c]⟩)]) _ _
  refine zzd (sq9 (zza 19 (zI 0) (zza 20 (zI n) (zza 21 (zI q) (zzg 22 100 _ fun _ _ ar cl => Post.mono (k_within cl (n := n) (m := q) xq xq xq xq) ?_)))))
  rintro _ u13 an rfl
  refine zza 23 (zB (decide ((0 : Int) ≤ (n % q)))) (zzb (zzu (b := decide ((0 : Int) ≤ (n % q))) xj (fun hb => ?_) (fun hb => ?_)))
  ·clear hb
   refine zzs (zzp ?_)
   refine zzd (zzt (zzd (zzz [0, 0, 2, 0, 8, 30, 0, 64, 0, 256, 768, 2046, 0, 4096, 0, 16384, 49152, 131070, 0, 262144, 0, 1048576, 4194302, 0, 8388608, 0, 33554432, 100663296, 268435454, 536870910, 1073741823, 2147483647] [(0, []), (1, []), (2, []), (3, []), (4, []), (6, []), (7, []), (8, []), (9, []), (10, []), (12, []), (13, []), (14, []), (15, []), (16, []), (18, []), (19, []), (20, []), (21, []), (23, []), (24, []), (25, []), (26, []), (27, []), (5, []), (11, []), (17, []), (22, []), (28, []), (29, []), (30, [55]), (31, [])] xj xj (zza 26 (zI ((Nt.p2i (W.b - 1)) - 1)) (zza 27 (.adr 4 0) (zzi 28 (.v (x.v)) ty22 zzl (zza 29 (zI 0) (zza 30 (zI 0) (zza 32 (.adr 4 0) (zzi 33 (.v (x.v)) ty22 zzl (zza 34 (zI 0) ?_)))))))))))
   refine zza 35 (zI 0) (zza 36 (zI 1) (zza 38 (.adr 4 0) (zzi 39 (.v (x.v)) ty22 zzl (zza 40 (zI 0) (zza 41 (zI 0) (zza 42 (zI 2) (zza 44 (.adr 4 1) (zzi 45 (.v (y.v)) ty22 zzl (zza 46 (zI 0) (zza 47 (zI 0) (zza 49 (.adr 4 1) ?_)))))))))))
   refine zzi 50 (.v (y.v)) ty22 zzl (zza 51 (zI 0) (zza 52 (zI 0) (zza 53 (zI 1) (zzg 31 133 _ fun _ _ am bX => Post.mono ((show Calls _ _ #[_, .int .i64 0] _ _ from k_wat (x := x) (i := 0) bX (hx.ext (ah.t (ar.t (an.t am)))) hb xq)) ?_))))
   rintro _ u17 aE rfl
   have hz20 := ints_bd hb xq 0
   refine zzg 37 133 _ fun _ _ aF cc => Post.mono ((show Calls _ _ #[_, .int .i64 1] _ _ from k_wat (x := x) (i := 1) cc (hx.ext (ah.t (ar.t (an.t (am.t (aE.t aF)))))) hb xq)) ?_
   rintro _ u22 aL rfl
   have hz25 := ints_bd hb xq 1
   refine zzg 43 133 _ fun _ _ aJ bV => Post.mono ((show Calls _ _ #[_, .int .i64 2] _ _ from k_wat (x := x) (i := 2) bV (hx.ext (ah.t (ar.t (an.t (am.t (aE.t (aF.t (aL.t aJ)))))))) hb xq)) ?_
   rintro _ u27 bo rfl
   have hz30 := ints_bd hb xq 2
   refine zzg 48 133 _ fun _ _ bk ce => Post.mono ((show Calls _ _ #[_, .int .i64 0] _ _ from k_wat (x := y) (i := 0) ce (hy.ext (ah.t (ar.t (an.t (am.t (aE.t (aF.t (aL.t (aJ.t (bo.t bk)))))))))) hbm xq)) ?_
   rintro _ u32 bO rfl
   have hz35 := ints_bd hbm xq 0
   refine zzg 54 133 _ fun _ _ bJ bT => Post.mono ((show Calls _ _ #[_, .int .i64 1] _ _ from k_wat (x := y) (i := 1) bT (hy.ext (ah.t (ar.t (an.t (am.t (aE.t (aF.t (aL.t (aJ.t (bo.t (bk.t (bO.t bJ)))))))))))) hbm xq)) ?_
   rintro _ u37 ci rfl
   have hz40 := ints_bd hbm xq 1
   refine sy_lit 55 ⟨3, [.int .i64 (l.getD 0 0), .int .i64 (l.getD 1 0), .int .i64 (l.getD 2 0), .int .i64 (m.getD 0 0), .int .i64 (m.getD 1 0)]⟩ 5 ?_
   refine zyo 56 101 [.v (.int .i64 ((Nt.p2i (W.b - 1)) - 1)), .slc 55 0 5 5, zI 5] [55] (.inr rfl) (pub_mk xk) (k := ?_)
   intro aU w41 bw cw bU cd
   have bL : bw.heap[aU 55]? = some (.cells #[.int .i64 (l.getD 0 0), .int .i64 (l.getD 1 0), .int .i64 (l.getD 2 0), .int .i64 (m.getD 0 0), .int .i64 (m.getD 1 0)] 3 (0, 0)) := cd 55 zj _ rfl
   obtain ⟨aG, ak⟩ : ∃ b, aU 55 = b := ⟨_, rfl⟩
   rw [ak] at bL
   have aO : SlR .i64 bw (some ⟨aG, 0, none⟩) 5 5 [(l.getD 0 0), (l.getD 1 0), (l.getD 2 0), (m.getD 0 0), (m.getD 1 0)] := ints_data (cs := [.int .i64 (l.getD 0 0), .int .i64 (l.getD 1 0), .int .i64 (l.getD 2 0), .int .i64 (m.getD 0 0), .int .i64 (m.getD 1 0)]) bL rfl rfl yj (by unfold maxLen; decide)
   show Calls _ _ #[.int .i64 ((Nt.p2i (W.b - 1)) - 1), .slice (some ⟨aU 55, 0, none⟩) 5 5, .int .i64 5] _ _
   rw [ak]
   have k48 := (show Calls _ _ #[.int .i64 ((Nt.p2i (W.b - 1)) - 1), .slice (⟨some ⟨aG, 0, none⟩, 5, 5⟩ : Sl).a (⟨some ⟨aG, 0, none⟩, 5, 5⟩ : Sl).n (⟨some ⟨aG, 0, none⟩, 5, 5⟩ : Sl).c, .int .i64 5] _ _ from k_belowN (x := (⟨some ⟨aG, 0, none⟩, 5, 5⟩ : Sl)) (b := (Nt.p2i (W.b - 1)) - 1) (n := 5) bU aO (bd_five xq xq xq xq xq) xq xq xq)
   with_reducible refine zPm k48 ?_
   rintro _ u46 cn ⟨ai, ab, rfl, bP, ac, ae⟩
   have bQ : ab.length = ai.n := ac.1
   refine zza 12 (.v (ai.v)) (zzc 79 [(1, zI n), (2, zI q), (4, .adr 4 0), (9, .v (.slice none 0 0)), (10, zI ((Nt.p2i (W.b - 1)) - 1)), (11, zI 0), (12, .v (ai.v))] [(4, ⟨100, [x.v, y.v]⟩)] (zzz [0, 0, 2, 6, 0, 16, 48, 0, 128, 384, 1022, 0, 2048, 6144, 0, 16384, 49152, 129024, 262142, 524286, 1048575, 2097151] [(0, []), (1, []), (2, []), (3, []), (4, []), (5, []), (6, []), (7, []), (8, []), (9, []), (10, []), (11, []), (12, []), (13, []), (14, []), (15, []), (16, []), (17, []), (18, []), (19, []), (20, []), (21, [])] xj xj (zza 57 (.v (.slice none 0 0)) (zza 58 (.v (ai.v)) ?_))))
   have hl49 := (ac).1
   obtain ⟨b49, bH, bb, ba⟩ := ints_at ac (i := 0) xq
   have hz49 := ints_bd ae xq 0
   refine zya 59 (bH + 0 * 1) (n := ai.n) (off := bH) (sz := 1) (i := 0) xq bb xq xq sl22 (zyl 60 (.int .i64 (ab.getD 0 0)) ba ty3 (zza 61 (.v (ai.v)) ?_))
   have hl50 := (ac).1
   obtain ⟨b50, bG, br, a8⟩ := ints_at ac (i := 1) xq
   have hz50 := ints_bd ae xq 1
   refine zya 62 (bG + 1 * 1) (n := ai.n) (off := bG) (sz := 1) (i := 1) xq br xq xq sl22 (zyl 63 (.int .i64 (ab.getD 1 0)) a8 ty3 (zza 64 (.v (ai.v)) ?_))
   have hl51 := (ac).1
   obtain ⟨b51, bM, bg, bc⟩ := ints_at ac (i := 2) xq
   have hz51 := ints_bd ae xq 2
   refine zya 65 (bM + 2 * 1) (n := ai.n) (off := bM) (sz := 1) (i := 2) xq bg xq xq sl22 (zyl 66 (.int .i64 (ab.getD 2 0)) bc ty3 (zza 67 (.v (.agg #[.int .i64 (ab.getD 0 0), .int .i64 (ab.getD 1 0), .int .i64 (ab.getD 2 0)])) (zza 68 (.v (ai.v)) ?_)))
   have hl52 := (ac).1
   obtain ⟨b52, bI, be, a9⟩ := ints_at ac (i := 3) xq
   have hz52 := ints_bd ae xq 3
   refine zya 69 (bI + 3 * 1) (n := ai.n) (off := bI) (sz := 1) (i := 3) xq be xq xq sl22 (zyl 70 (.int .i64 (ab.getD 3 0)) a9 ty3 (zza 71 (.v (ai.v)) ?_))
   have hl53 := (ac).1
   obtain ⟨b53, bu, aV, aY⟩ := ints_at ac (i := 4) xq
   have hz53 := ints_bd ae xq 4
   refine zya 72 (bu + 4 * 1) (n := ai.n) (off := bu) (sz := 1) (i := 4) xq aV xq xq sl22 (zyl 73 (.int .i64 (ab.getD 4 0)) aY ty3 (zza 74 (.v (.agg #[.int .i64 (ab.getD 3 0), .int .i64 (ab.getD 4 0)])) (zza 75 (.v (.agg #[.int .i64 (ab.getD 0 0), .int .i64 (ab.getD 1 0), .int .i64 (ab.getD 2 0), .int .i64 (ab.getD 3 0), .int .i64 (ab.getD 4 0)])) (sy_lit 76 ⟨179, [.int .i64 (ab.getD 0 0), .int .i64 (ab.getD 1 0), .int .i64 (ab.getD 2 0), .int .i64 (ab.getD 3 0), .int .i64 (ab.getD 4 0)]⟩ 1 ?_))))
   refine sy_appL0 77 (T := 101) (E := 179) (z := .agg #[.int .i64 0, .int .i64 0, .int .i64 0, .int .i64 0, .int .i64 0]) (size := 5) (bytes := 40) (m := 1) (t2 := 76) [.int .i64 (ab.getD 0 0), .int .i64 (ab.getD 1 0), .int .i64 (ab.getD 2 0), .int .i64 (ab.getD 3 0), .int .i64 (ab.getD 4 0)] xj xj xj yj rfl (ics_one (p := [(ab.getD 0 0), (ab.getD 1 0), (ab.getD 2 0), (ab.getD 3 0), (ab.getD 4 0)])) yj yj yj ?_
   intro bt aw ct aZ bp aW
   have au : aw.take (1 * 5) = kcs ([[(ab.getD 0 0), (ab.getD 1 0), (ab.getD 2 0), (ab.getD 3 0), (ab.getD 4 0)]]) := aW
   refine zza 9 (.slc 77 0 1 bt) (zzx ?_)
   refine zzp (zzf (zza 24 (zI 0) (zza 25 (zI 1) (zza 11 (zI 1) (zzx ?_)))))
   refine ⟨_, ?_, _, by exact zzv _ _ _, .inr ⟨1, [[(ab.getD 0 0), (ab.getD 1 0), (ab.getD 2 0), (ab.getD 3 0), (ab.getD 4 0)]], aw, bt, rfl, by omega, by omega, by simp, bp, by omega, aZ, au, rfl, (ah.t (ar.t (an.t (am.t (aE.t (aF.t (aL.t (aJ.t (bo.t (bk.t (bO.t (bJ.t (ci.t (cw.t cn.ext)))))))))))))), (sec_snoc (L := []) sec_nil xq xq xq xq xq)⟩⟩
   omega
  exact absurd hb (by rw [show (decide ((0 : Int) ≤ (n % q))) = true from decide_eq_true xq]; decide)
 change SW _ _ _ _ (St.of 79 [(1, .v (.int .i64 n)), (2, .v (.int .i64 q)), (4, .adr 4 0), (9, .slc 77 0 i cp), (10, .v (.int .i64 ((Nt.p2i (W.b - 1)) - 1))), (11, .v (.int .i64 (i : Int)))] [(4, ⟨100, [.slice x.a x.n x.c, .slice y.a y.n y.c]⟩), (77, ⟨179, cs⟩)]) _ _
 refine zzd (sq9 (zza 19 (zI i) (zza 20 (zI n) (zza 21 (zI q) (zzg 22 100 _ fun _ _ ap cf => Post.mono (k_within cf (n := n) (m := q) xq xq xq xq) ?_)))))
 rintro _ u56 aq rfl
 refine zza 23 (zB (decide ((i : Int) ≤ (n % q)))) (zzb (zzu (b := decide ((i : Int) ≤ (n % q))) xj (fun al => ?_) (fun al => ?_)))
 ·have qhb59 := of_decide_eq_true al
  refine zzs (zzp ?_)
  refine zzd (zzt (zzd (zzz [0, 0, 2, 0, 8, 30, 0, 64, 0, 256, 768, 2046, 0, 4096, 0, 16384, 49152, 131070, 0, 262144, 0, 1048576, 4194302, 0, 8388608, 0, 33554432, 100663296, 268435454, 536870910, 1073741823, 2147483647] [(0, []), (1, []), (2, []), (3, []), (4, []), (6, []), (7, []), (8, []), (9, []), (10, []), (12, []), (13, []), (14, []), (15, []), (16, []), (18, []), (19, []), (20, []), (21, []), (23, []), (24, []), (25, []), (26, []), (27, []), (5, []), (11, []), (17, []), (22, []), (28, []), (29, []), (30, [55]), (31, [])] xj xj (zza 26 (zI ((Nt.p2i (W.b - 1)) - 1)) (zza 27 (.adr 4 0) (zzi 28 (.v (x.v)) ty22 zzl (zza 29 (zI i) (zyq 30 (x := zI (IntKind.i64.wrap ((3 : Int) * (i : Int)))) (zI (3 * i : Nat)) (eqI yq) (zza 32 (.adr 4 0) (zzi 33 (.v (x.v)) ty22 zzl (zza 34 (zI i) ?_)))))))))))
  refine zyq 35 (x := zI (IntKind.i64.wrap ((3 : Int) * (i : Int)))) (zI (3 * i : Nat)) (eqI yq) (zyq 36 (x := zI (IntKind.i64.wrap (((3 * i : Nat) : Int) + 1))) (zI (((3 * i) + 1 : Nat) : Int)) (eqI yq) (zza 38 (.adr 4 0) (zzi 39 (.v (x.v)) ty22 zzl (zza 40 (zI i) (zyq 41 (x := zI (IntKind.i64.wrap ((3 : Int) * (i : Int)))) (zI (3 * i : Nat)) (eqI yq) (zyq 42 (x := zI (IntKind.i64.wrap (((3 * i : Nat) : Int) + 2))) (zI (((3 * i) + 2 : Nat) : Int)) (eqI yq) (zza 44 (.adr 4 1) (zzi 45 (.v (y.v)) ty22 zzl (zza 46 (zI i) (zyq 47 (x := zI (IntKind.i64.wrap ((2 : Int) * (i : Int)))) (zI (2 * i : Nat)) (eqI yq) (zza 49 (.adr 4 1) ?_)))))))))))
  refine zzi 50 (.v (y.v)) ty22 zzl (zza 51 (zI i) (zyq 52 (x := zI (IntKind.i64.wrap ((2 : Int) * (i : Int)))) (zI (2 * i : Nat)) (eqI yq) (zyq 53 (x := zI (IntKind.i64.wrap (((2 * i : Nat) : Int) + 1))) (zI (((2 * i) + 1 : Nat) : Int)) (eqI yq) (zzg 31 133 _ fun _ _ ao cq => Post.mono ((show Calls _ _ #[_, .int .i64 (3 * i : Nat)] _ _ from k_wat (x := x) (i := 3 * i) cq (hx.ext (ah.t (ap.t (aq.t ao)))) hb xq)) ?_))))
  rintro _ u61 ay rfl
  have hz64 := ints_bd hb xq (3 * i)
  refine zzg 37 133 _ fun _ _ aC cm => Post.mono ((show Calls _ _ #[_, .int .i64 (((3 * i) + 1 : Nat) : Int)] _ _ from k_wat (x := x) (i := (3 * i) + 1) cm (hx.ext (ah.t (ap.t (aq.t (ao.t (ay.t aC)))))) hb xq)) ?_
  rintro _ u66 aK rfl
  have hz69 := ints_bd hb xq ((3 * i) + 1)
  refine zzg 43 133 _ fun _ _ aI cg => Post.mono ((show Calls _ _ #[_, .int .i64 (((3 * i) + 2 : Nat) : Int)] _ _ from k_wat (x := x) (i := (3 * i) + 2) cg (hx.ext (ah.t (ap.t (aq.t (ao.t (ay.t (aC.t (aK.t aI)))))))) hb xq)) ?_
  rintro _ u71 aR rfl
  have hz74 := ints_bd hb xq ((3 * i) + 2)
  refine zzg 48 133 _ fun _ _ bl cx => Post.mono ((show Calls _ _ #[_, .int .i64 (2 * i : Nat)] _ _ from k_wat (x := y) (i := 2 * i) cx (hy.ext (ah.t (ap.t (aq.t (ao.t (ay.t (aC.t (aK.t (aI.t (aR.t bl)))))))))) hbm xq)) ?_
  rintro _ u76 bC rfl
  have hz79 := ints_bd hbm xq (2 * i)
  refine zzg 54 133 _ fun _ _ bN bW => Post.mono ((show Calls _ _ #[_, .int .i64 (((2 * i) + 1 : Nat) : Int)] _ _ from k_wat (x := y) (i := (2 * i) + 1) bW (hy.ext (ah.t (ap.t (aq.t (ao.t (ay.t (aC.t (aK.t (aI.t (aR.t (bl.t (bC.t bN)))))))))))) hbm xq)) ?_
  rintro _ u81 cb rfl
  have hz84 := ints_bd hbm xq ((2 * i) + 1)
  refine sy_lit 55 ⟨3, [.int .i64 (l.getD (3 * i) 0), .int .i64 (l.getD ((3 * i) + 1) 0), .int .i64 (l.getD ((3 * i) + 2) 0), .int .i64 (m.getD (2 * i) 0), .int .i64 (m.getD ((2 * i) + 1) 0)]⟩ 5 ?_
  refine zyo 56 101 [.v (.int .i64 ((Nt.p2i (W.b - 1)) - 1)), .slc 55 0 5 5, zI 5] [55] (.inr rfl) (pub_mk xk) (k := ?_)
  intro bs w85 bx ch cj b0
  have bS : bx.heap[bs 55]? = some (.cells #[.int .i64 (l.getD (3 * i) 0), .int .i64 (l.getD ((3 * i) + 1) 0), .int .i64 (l.getD ((3 * i) + 2) 0), .int .i64 (m.getD (2 * i) 0), .int .i64 (m.getD ((2 * i) + 1) 0)] 3 (0, 0)) := b0 55 zj _ rfl
  obtain ⟨ax, aj⟩ : ∃ b, bs 55 = b := ⟨_, rfl⟩
  rw [aj] at bS
  have aS : SlR .i64 bx (some ⟨ax, 0, none⟩) 5 5 [(l.getD (3 * i) 0), (l.getD ((3 * i) + 1) 0), (l.getD ((3 * i) + 2) 0), (m.getD (2 * i) 0), (m.getD ((2 * i) + 1) 0)] := ints_data (cs := [.int .i64 (l.getD (3 * i) 0), .int .i64 (l.getD ((3 * i) + 1) 0), .int .i64 (l.getD ((3 * i) + 2) 0), .int .i64 (m.getD (2 * i) 0), .int .i64 (m.getD ((2 * i) + 1) 0)]) bS rfl rfl yj (by unfold maxLen; decide)
  show Calls _ _ #[.int .i64 ((Nt.p2i (W.b - 1)) - 1), .slice (some ⟨bs 55, 0, none⟩) 5 5, .int .i64 5] _ _
  rw [aj]
  have k92 := (show Calls _ _ #[.int .i64 ((Nt.p2i (W.b - 1)) - 1), .slice (⟨some ⟨ax, 0, none⟩, 5, 5⟩ : Sl).a (⟨some ⟨ax, 0, none⟩, 5, 5⟩ : Sl).n (⟨some ⟨ax, 0, none⟩, 5, 5⟩ : Sl).c, .int .i64 5] _ _ from k_belowN (x := (⟨some ⟨ax, 0, none⟩, 5, 5⟩ : Sl)) (b := (Nt.p2i (W.b - 1)) - 1) (n := 5) cj aS (bd_five xq xq xq xq xq) xq xq xq)
  with_reducible refine zPm k92 ?_
  rintro _ u90 ca ⟨ag, aa, rfl, bz, ad, af⟩
  have bE : aa.length = ag.n := ad.1
  refine zza 12 (.v (ag.v)) (zzc 79 [(1, zI n), (2, zI q), (4, .adr 4 0), (9, .slc 77 0 i cp), (10, zI ((Nt.p2i (W.b - 1)) - 1)), (11, zI i), (12, .v (ag.v))] [(4, ⟨100, [x.v, y.v]⟩), (77, ⟨179, cs⟩)] (zzz [0, 0, 2, 6, 0, 16, 48, 0, 128, 384, 1022, 0, 2048, 6144, 0, 16384, 49152, 129024, 262142, 524286, 1048575, 2097151] [(0, []), (1, []), (2, []), (3, []), (4, []), (5, []), (6, []), (7, []), (8, []), (9, []), (10, []), (11, []), (12, []), (13, []), (14, []), (15, []), (16, []), (17, []), (18, []), (19, []), (20, []), (21, [])] xj xj (zza 57 (.slc 77 0 i cp) (zza 58 (.v (ag.v)) ?_))))
  have hl93 := (ad).1
  obtain ⟨b93, bF, a7, aQ⟩ := ints_at ad (i := 0) xq
  have hz93 := ints_bd af xq 0
  refine zya 59 (bF + 0 * 1) (n := ag.n) (off := bF) (sz := 1) (i := 0) xq a7 xq xq sl22 (zyl 60 (.int .i64 (aa.getD 0 0)) aQ ty3 (zza 61 (.v (ag.v)) ?_))
  have hl94 := (ad).1
  obtain ⟨b94, bv, bh, bn⟩ := ints_at ad (i := 1) xq
  have hz94 := ints_bd af xq 1
  refine zya 62 (bv + 1 * 1) (n := ag.n) (off := bv) (sz := 1) (i := 1) xq bh xq xq sl22 (zyl 63 (.int .i64 (aa.getD 1 0)) bn ty3 (zza 64 (.v (ag.v)) ?_))
  have hl95 := (ad).1
  obtain ⟨b95, bK, bq, a0⟩ := ints_at ad (i := 2) xq
  have hz95 := ints_bd af xq 2
  refine zya 65 (bK + 2 * 1) (n := ag.n) (off := bK) (sz := 1) (i := 2) xq bq xq xq sl22 (zyl 66 (.int .i64 (aa.getD 2 0)) a0 ty3 (zza 67 (.v (.agg #[.int .i64 (aa.getD 0 0), .int .i64 (aa.getD 1 0), .int .i64 (aa.getD 2 0)])) (zza 68 (.v (ag.v)) ?_)))
  have hl96 := (ad).1
  obtain ⟨b96, bB, aT, bi⟩ := ints_at ad (i := 3) xq
  have hz96 := ints_bd af xq 3
  refine zya 69 (bB + 3 * 1) (n := ag.n) (off := bB) (sz := 1) (i := 3) xq aT xq xq sl22 (zyl 70 (.int .i64 (aa.getD 3 0)) bi ty3 (zza 71 (.v (ag.v)) ?_))
  have hl97 := (ad).1
  obtain ⟨b97, bR, a5, bf⟩ := ints_at ad (i := 4) xq
  have hz97 := ints_bd af xq 4
  refine zya 72 (bR + 4 * 1) (n := ag.n) (off := bR) (sz := 1) (i := 4) xq a5 xq xq sl22 (zyl 73 (.int .i64 (aa.getD 4 0)) bf ty3 (zza 74 (.v (.agg #[.int .i64 (aa.getD 3 0), .int .i64 (aa.getD 4 0)])) (zza 75 (.v (.agg #[.int .i64 (aa.getD 0 0), .int .i64 (aa.getD 1 0), .int .i64 (aa.getD 2 0), .int .i64 (aa.getD 3 0), .int .i64 (aa.getD 4 0)])) (sy_lit 76 ⟨179, [.int .i64 (aa.getD 0 0), .int .i64 (aa.getD 1 0), .int .i64 (aa.getD 2 0), .int .i64 (aa.getD 3 0), .int .i64 (aa.getD 4 0)]⟩ 1 ?_))))
  refine sy_appL1 77 (T := 101) (E := 179) (z := .agg #[.int .i64 0, .int .i64 0, .int .i64 0, .int .i64 0, .int .i64 0]) (size := 5) (bytes := 40) (m := 1) (t2 := 76) (n := i) (cap := cp) (t := 77) (cs0 := cs) [9, 57, 77] [.int .i64 (aa.getD 0 0), .int .i64 (aa.getD 1 0), .int .i64 (aa.getD 2 0), .int .i64 (aa.getD 3 0), .int .i64 (aa.getD 4 0)] xj xj xj yj rfl (ics_one (p := [(aa.getD 0 0), (aa.getD 1 0), (aa.getD 2 0), (aa.getD 3 0), (aa.getD 4 0)])) yj yv xq xq xq xq xk ?_
  intro bD aD bY aP aM a6
  have aA : aD.take ((i + 1) * 5) = kcs (L ++ [[(aa.getD 0 0), (aa.getD 1 0), (aa.getD 2 0), (aa.getD 3 0), (aa.getD 4 0)]]) := by rw [a6, ht, kcs_app]; rfl
  refine zza 9 (.slc 77 0 (i + 1) bD) (zzx ?_)
  refine zzp (zzf (zza 24 (zI i) (zyq 25 (x := zI (IntKind.i64.wrap ((i : Int) + 1))) (zI (i + 1 : Nat)) (eqI yq) (zza 11 (zI (i + 1 : Nat)) (zzx ?_)))))
  refine ⟨_, ?_, _, by exact zzv _ _ _, .inr ⟨i + 1, L ++ [[(aa.getD 0 0), (aa.getD 1 0), (aa.getD 2 0), (aa.getD 3 0), (aa.getD 4 0)]], aD, bD, rfl, by omega, by omega, by simp; omega, aM, by omega, aP, aA, rfl, (ah.t (ap.t (aq.t (ao.t (ay.t (aC.t (aK.t (aI.t (aR.t (bl.t (bC.t (bN.t (cb.t (ch.t ca.ext)))))))))))))), (sec_snoc (L := L) hP xq xq xq xq xq)⟩⟩
  omega
 have qhb59 := of_decide_eq_false al
 refine zyc (zzp (zzd (zyp (r := 9) (t := 77) [9, 77] xk xj zk zk xj (fun av bm ck bA aB => ?_))))
 have aH : IrV 5 bm ⟨some ⟨av, 0, none⟩, i, cp⟩ L := ir_data aB (fun p hp => (hP p hp).1) ht xq hc hle hmx
 refine zzf (zza 78 (.v (.slice (some ⟨av, 0, none⟩) i cp)) (zza 8 (.v (.slice (some ⟨av, 0, none⟩) i cp)) (zzb (zzo (ret0 [.slice (some ⟨av, 0, none⟩) i cp] ⟨zzq, trivial⟩ fun bZ bj => ?_)))))
 exact ⟨(⟨some ⟨av, 0, none⟩, i, cp⟩ : Sl), L, rfl, (aH.ext bj), by omega, hP⟩
end Go.Proofs.YtgmkhhfbckjaeaaGreat
