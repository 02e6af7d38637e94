/- Parts of the proof: contracts of functions, each walked once, and plain laws. -/
import Derived.Test.YtgmkhhfbckjaeaaGreatXvaC
import Derived.ArgAppend
import Derived.Laws.StructEq
import Derived.ChangeKeysEq
set_option linter.unusedVariables false
namespace Go.Proofs.YtgmkhhfbckjaeaaGreat
open Go.RowKit
theorem k_cut {u w : World} {x : Sl} {l : List Rat} {K : Nat} (d : Dat u w) (hx : PolV u x l K) (hK : K ≤ 100000000) (hx9 : l.length ≤ 1000000000) : Calls Tryz.prog 151 #[x.v] w (Post u w fun v u' => v = .slice x.a (Nt.trimQ l).length x.c) := by
 have hlen := hx.len
 refine zzm (args := [x.v]) Tryz.func151 rfl Tryz.ntmps151 (rs := [.tmp 2]) Tryz.results151 (le_b rfl) (le_b rfl) d ?_
 refine sq9 (zza 2 (.v (.slice none 0 0)) (zzb (sq9 (zza 4 (.v (x.v)) (zza 5 (zI x.n) (zza 3 (zI x.n) (zzb (zzd (zzt (zyn (I := fun ai S' u' => ∃ (n : Nat), (ai = n) ∧ (n ≤ l.length) ∧ (∀ i, n ≤ i → Nt.co l i = 0) ∧ (S' = St.of 22 [(0, .v (x.v)), (3, zI n)] []) ∧ (Ext u u')) (fun m S u1 u2 e h => by obtain ⟨n, hm, p0, p1, hS, hE⟩ := h; exact ⟨n, hm, p0, p1, hS, hE.trans e⟩) _ yk ⟨x.n, rfl, by omega, fun i hi => Nt.co_ge xq, rfl, (Ext.refl _)⟩ ?_))))))))))
 rintro ai _ u11 ⟨n, al, hn, hz, rfl, ac⟩
 refine zzd (sq9 (zza 6 (zI n) (zza 7 (zB (decide ((0 : Int) < (n : Int)))) ?_)))
 rcases Bool.eq_false_or_eq_true (decide ((0 : Int) < (n : Int))) with hs12 | hs12
 ·refine zyq 8 (x := zB (decide ((0 : Int) < (n : Int)))) (zB true) (by rw [hs12]) ?_
  have qhs12 := of_decide_eq_true hs12
  refine zza 9 (.v (x.v)) ?_ (hw := w1 2 true 8)
  refine zza 10 (zI n) ?_ (hw := w1 2 true 8)
  refine zyq 11 (x := zI (IntKind.i64.wrap ((n : Int) - 1))) (zI (n - 1 : Nat)) (eqI xz) ?_ (hw := w1 2 true 8)
  have hl13 := (hx.ext ac).len
  obtain ⟨ak, b13, aj, ag, ah, af⟩ := pol_at (hx.ext ac) (i := n - 1) xq
  refine zya 12 (aj + (n - 1) * 3) (n := x.n) (off := aj) (sz := 3) (i := ((n - 1 : Nat) : Int)) xq ag xq xq sl27 ?_ (hw := w1 2 true 8)
  refine zym 13 ak.cs ah ty32 ?_ (hw := w1 2 true 8)
  refine zzg 14 66 _ (fun _ _ ad am => Post.mono (k_ratSign am (af.ext ad)) ?_) (hw := w1 2 true 8)
  rintro _ u15 ae rfl
  refine zza 15 (zB ((Nt.sgQ (l.getD (n - 1) 0)) == 0)) ?_ (hw := w1 2 true 8)
  refine zza 16 (zB ((Nt.sgQ (l.getD (n - 1) 0)) == 0)) (zzb (zzu (b := (Nt.sgQ (l.getD (n - 1) 0)) == 0) xj (fun aa => ?_) (fun aa => ?_)))
  ·refine zzs (zzp ?_)
   refine zzt (zzf (zza 17 (zI n) (zyq 18 (x := zI (IntKind.i64.wrap ((n : Int) - 1))) (zI (n - 1 : Nat)) (eqI xz) (zza 3 (zI (n - 1 : Nat)) (zzx ?_)))))
   refine ⟨_, ?_, _, by exact zzv _ _ _, n - 1, rfl, by omega, (fun i hi => by by_cases e : i = n - 1; (rw [e]; have h9 := aa; rw [Nt.sgQ_eq] at h9; exact of_decide_eq_true h9); exact hz i xq), rfl, (ac.t (ad.t ae.ext))⟩
   omega
  refine zyc (zzp (sq9 (zza 19 (.v (x.v)) (zza 20 (zI n) ?_))))
  have hl19 := (hx.ext (ac.t (ad.t ae.ext))).len
  have hc19 := (hx.ext (ac.t (ad.t ae.ext))).cap
  refine sy_front 21 (n := x.n) (c := x.c) n sl27 rfl xq ?_
  refine zza 2 (.v (.slice x.a n x.c)) (zzb (zzo (ret0 [.slice x.a n x.c] ⟨zzq, trivial⟩ fun u20 e21 => ?_)))
  have e := Nt.trim_len_of (l := l) hn hz (fun _ h => by have h9 := aa; rw [Nt.sgQ_eq] at h9; exact of_decide_eq_false h9 h)
  show Value.slice _ _ _ = Value.slice _ _ _
  rw [e]
 refine zyq 8 (x := zB (decide ((0 : Int) < (n : Int)))) (zB false) (by rw [hs12]) ?_
 have qhs12 := of_decide_eq_false hs12
 refine zzn 9 (uw 2 true false 8) (zzn 10 (uw 2 true false 8) (zzn 11 (uw 2 true false 8) (zzn 12 (uw 2 true false 8) (zzn 13 (uw 2 true false 8) (zzn 14 (uw 2 true false 8) (zzn 15 (uw 2 true false 8) (zza 16 (zB false) (zzb (zys xj (zyc (zzp ?_)))))))))))
 refine sq9 (zza 19 (.v (x.v)) (zza 20 (zI n) ?_))
 have hl22 := (hx.ext ac).len
 have hc22 := (hx.ext ac).cap
 refine sy_front 21 (n := x.n) (c := x.c) n sl27 rfl xq ?_
 refine zza 2 (.v (.slice x.a n x.c)) (zzb (zzo (ret0 [.slice x.a n x.c] ⟨zzq, trivial⟩ fun u23 e24 => ?_)))
 have e := Nt.trim_len_of (l := l) hn hz (fun h => absurd h xq)
 show Value.slice _ _ _ = Value.slice _ _ _
 rw [e]
def NewR (u : World) (n : Nat) (t : List Rat) (K : Nat) (v : Value) (u' : World) : Prop := ∃ (b : Nat) (L : List RL), v = .slice (some ⟨b, 0, none⟩) n n ∧ u.heap.size ≤ b ∧ u'.heap[b]? = some (.cells (rcs L).toArray 32 (0, 0)) ∧ L.length = n ∧ RatsN u' L t K
theorem k_zeros {u w : World} {n : Nat} (d : Dat u w) (hn9 : n ≤ 1000000000) : Calls Tryz.prog 180 #[.int .i64 (n : Int)] w (Post u w fun v u' => NewR u n (List.replicate n 0) 2 v u') := by
 refine zzm (args := [.int .i64 n]) Tryz.func180 rfl Tryz.ntmps180 (rs := [.tmp 2]) Tryz.results180 (le_b rfl) (le_b rfl) d ?_
 refine sq9 (zza 2 (.v (.slice none 0 0)) (zzb (sq9 (zza 5 (zI n) (sy_make 6 (T := 27) (E := 32) (z := .agg #[.bool false, .slice none 0 0, .slice none 0 0]) (size := 3) (bytes := 56) n (rcs (List.replicate n rl0)) xj xj rfl rfl xq yv (made_rcs _) ?_)))))
 refine zza 3 (.slc 6 0 n n) (zzc 18 [(3, .slc 6 0 n n)] [(6, ⟨32, rcs (List.replicate n rl0)⟩)] (zzd (sq9 (zza 7 (.slc 6 0 n n) (zza 8 (zI n) (zza 9 (zI 0) (zzc 18 [(3, .slc 6 0 n n), (8, zI n), (9, zI 0)] [(6, ⟨32, rcs (List.replicate n rl0)⟩)] (zzt (zyn (I := fun ah S' u' => ∃ (i : Nat) (L : List RL), (ah = n - i) ∧ (i ≤ n) ∧ (L.length = n) ∧ (S' = St.of 18 [(3, .slc 6 0 n n), (8, zI n), (9, zI i)] [(6, ⟨32, rcs L⟩)]) ∧ (Ext u u') ∧ (RatsN u' (L.take i) ((List.replicate n (0 : Rat)).take i) 2)) (fun m S u1 u2 e h => by obtain ⟨i, L, hm, p0, p1, hS, hE, f0⟩ := h; exact ⟨i, L, hm, p0, p1, hS, hE.trans e, f0.ext e⟩) _ yk ⟨0, List.replicate n rl0, rfl, by omega, by simp, rfl, (Ext.refl _), RatsN.tnil _ _ _ _⟩ ?_)))))))))
 rintro ah _ u11 ⟨i, L, an, hi, hL, rfl, ap, hR⟩
 refine sq9 (zza 10 (zB (decide ((i : Int) < (n : Int)))) (zzb (zzd (zzu (b := decide ((i : Int) < (n : Int))) xj (fun aa => ?_) (fun aa => ?_)))))
 ·have qhb12 := of_decide_eq_true aa
  refine zzs (zzp ?_)
  refine zzd (zzt (sq9 (zza 11 (zI i) (zza 4 (zI i) (zzb (zzf (zza 12 (.slc 6 0 n n) (zza 13 (zI i) (zzg 14 109 _ fun _ _ ak aq => Post.mono (k_ratOf aq (z := 0) xq xq) ?_)))))))))
  rintro _ u16 aj ⟨ae, rfl, ar⟩
  refine zyw 15 (off' := i * 3) (n := n) (off := 0) (sz := 3) (i := (i : Int)) sl27 xq xq xq ?_
  refine zyv (V := ⟨32, rcs L⟩) (off := i * 3) (rcs ((L).set i ae)) ty32 yy (zyx (r := ae) (i := i) zq rfl) ?_
  refine zzx ?_
  refine zzp (zzf (zyq 16 (x := zI (IntKind.i64.wrap ((i : Int) + 1))) (zI (i + 1 : Nat)) (eqI xz) (zza 9 (zI (i + 1 : Nat)) (zzx ?_))))
  have ag : i < (List.replicate n (0 : Rat)).length := by simp; omega
  refine ⟨_, ?_, _, by exact zzv _ _ _, i + 1, (L).set i ae, rfl, by omega, by simpa using hL, rfl, (ap.t (ak.t aj.ext)), RatsN.tstep (hR.ext (ak.t aj.ext)) xq ag (RatN.more (K := 2) ar xq) (by rw [List.getD_eq_getElem?_getD, List.getElem?_replicate]; split <;> rfl)⟩
  omega
 have qhb12 := of_decide_eq_false aa
 refine zyc (zzp (zzd (zyp (r := 3) (t := 6) [3, 6] xw xj (by rfl) (by rfl) xj (fun ad am ai af ac => ?_))))
 have ao : PolN am ⟨some ⟨ad, 0, none⟩, n, n⟩ (List.replicate n (0 : Rat)) 2 := pol_data1 ac yv (RatsN.tdone (hR.ext ai) xq yz) xq
 refine zzf (zza 17 (.v (.slice (some ⟨ad, 0, none⟩) n n)) (zza 2 (.v (.slice (some ⟨ad, 0, none⟩) n n)) (zzb (zzo (ret0 [.slice (some ⟨ad, 0, none⟩) n n] ⟨zzq, trivial⟩ fun u26 al => ?_)))))
 exact ⟨ad, L, rfl, af, al.cells ac, by omega, (RatsN.tdone (hR.ext (ai.trans al)) xq yz)⟩
theorem k_poScale {u w : World} {x : Sl} {l : List Rat} {r : RL} {q : Rat} {K M : Nat} (d : Dat u w) (hx : PolV u x l K) (hr : RatV u r q M) (hK : K ≤ 50000000) (hx9 : l.length ≤ 1000000000) (hM : M ≤ 50000000) : Calls Tryz.prog 116 #[x.v, r.v] w (Post u w fun v u' => ∃ y : Sl, v = y.v ∧ PolN u' y (Nt.trimQ (l.map (· * q))) (K + M)) := by
 have hlen := hx.len
 refine zzm (args := [x.v, r.v]) Tryz.func116 rfl Tryz.ntmps116 (rs := [.tmp 4]) Tryz.results116 (le_b rfl) (le_b rfl) d ?_
 refine sq9 (zzk 3 ⟨32, r.cs⟩ (zza 4 (.v (.slice none 0 0)) (zzb (sq9 (zza 7 (.v (x.v)) (zza 8 (zI x.n) (sy_make 9 (T := 27) (E := 32) (z := .agg #[.bool false, .slice none 0 0, .slice none 0 0]) (size := 3) (bytes := 56) x.n (rcs (List.replicate x.n rl0)) xj xj rfl rfl xq yv (made_rcs _) ?_)))))))
 refine zza 5 (.slc 9 0 x.n x.n) (zzc 27 [(0, .v (x.v)), (3, .adr 3 0), (5, .slc 9 0 x.n x.n)] [(3, ⟨32, r.cs⟩), (9, ⟨32, rcs (List.replicate x.n rl0)⟩)] (zzd (sq9 (zza 10 (.slc 9 0 x.n x.n) (zza 11 (zI x.n) (zza 12 (zI 0) (zzc 27 [(0, .v (x.v)), (3, .adr 3 0), (5, .slc 9 0 x.n x.n), (11, zI x.n), (12, zI 0)] [(3, ⟨32, r.cs⟩), (9, ⟨32, rcs (List.replicate x.n rl0)⟩)] (zzt (zyn (I := fun am S' u' => ∃ (i : Nat) (L : List RL), (am = x.n - i) ∧ (i ≤ x.n) ∧ (L.length = x.n) ∧ (S' = St.of 27 [(0, .v (x.v)), (3, .adr 3 0), (5, .slc 9 0 x.n x.n), (11, zI x.n), (12, zI i)] [(3, ⟨32, r.cs⟩), (9, ⟨32, rcs L⟩)]) ∧ (Ext u u') ∧ (RatsN u' (L.take i) ((l.map (· * q)).take i) (K + M))) (fun m S u1 u2 e h => by obtain ⟨i, L, hm, p0, p1, hS, hE, f0⟩ := h; exact ⟨i, L, hm, p0, p1, hS, hE.trans e, f0.ext e⟩) _ yk ⟨0, List.replicate x.n rl0, rfl, by omega, by simp, rfl, (Ext.refl _), RatsN.tnil _ _ _ _⟩ ?_)))))))))
 rintro am _ u11 ⟨i, L, ax, hi, hL, rfl, af, hR⟩
 refine sq9 (zza 13 (zB (decide ((i : Int) < (x.n : Int)))) (zzb (zzd (zzu (b := decide ((i : Int) < (x.n : Int))) xj (fun aa => ?_) (fun aa => ?_)))))
 ·have qhb12 := of_decide_eq_true aa
  refine zzs (zzp ?_)
  refine zzd (zzt (sq9 (zza 14 (zI i) (zza 6 (zI i) (zzb (zzz [0, 0, 0, 0, 12, 28, 0, 124, 255, 511] [(0, []), (1, []), (2, []), (3, []), (4, []), (5, []), (6, []), (7, []), (8, []), (9, [])] xj xj (zza 15 (.slc 9 0 x.n x.n) (zza 16 (zI i) (zza 17 (.v (x.v)) (zza 18 (zI i) ?_))))))))))
  have hl13 := (hx.ext af).len
  obtain ⟨aw, b13, an, ai, ak, ag⟩ := pol_at (hx.ext af) (i := i) xq
  refine zya 19 (an + i * 3) (n := x.n) (off := an) (sz := 3) (i := (i : Int)) xq ai xq xq sl27 (zym 20 aw.cs ak ty32 (zzi 21 (.v (r.v)) ty32 zze (zzg 22 113 _ fun _ _ ae aB => Post.mono (k_ratMul aB (ag.ext ae) (hr.ext (af.trans ae)) xq xq) ?_)))
  rintro _ u17 ao ⟨al, rfl, au⟩
  refine zyw 23 (off' := i * 3) (n := x.n) (off := 0) (sz := 3) (i := (i : Int)) sl27 xq xq xq ?_
  refine zyv (V := ⟨32, rcs L⟩) (off := i * 3) (rcs ((L).set i al)) ty32 yy (zyx (r := al) (i := i) zq rfl) ?_
  refine zzx ?_
  refine zzp (zzf (zyq 24 (x := zI (IntKind.i64.wrap ((i : Int) + 1))) (zI (i + 1 : Nat)) (eqI xz) (zza 12 (zI (i + 1 : Nat)) (zzx ?_))))
  have aj : i < (l.map (· * q)).length := by simp; omega
  refine ⟨_, ?_, _, by exact zzv _ _ _, i + 1, (L).set i al, rfl, by omega, by simpa using hL, rfl, (af.t (ae.t ao.ext)), RatsN.tstep (hR.ext (ae.t ao.ext)) xq aj (RatN.more (K := (K + M)) au xq) (by simp [List.getElem?_eq_getElem (show i < l.length by omega)])⟩
  omega
 have qhb12 := of_decide_eq_false aa
 refine zyc (zzp (zzd (zyp (r := 5) (t := 9) [5, 9] xw xj (by rfl) (by rfl) xj (fun ad az aA ay ah => ?_))))
 have ac : PolN az ⟨some ⟨ad, 0, none⟩, x.n, x.n⟩ (l.map (· * q)) (K + M) := pol_data1 ah yv (RatsN.tdone (hR.ext aA) xq yz) xq
 refine zzf (zza 25 (.v (.slice (some ⟨ad, 0, none⟩) x.n x.n)) (zzg 26 151 _ fun _ _ ap aq => Post.mono (k_cut aq (ac.ext ap).raw xq xk) ?_))
 rintro _ u28 ar rfl
 refine zza 4 (.v (.slice (some ⟨ad, 0, none⟩) (Nt.trimQ (l.map (· * q))).length x.n)) (zzb (zzo (ret0 [.slice (some ⟨ad, 0, none⟩) (Nt.trimQ (l.map (· * q))).length x.n] ⟨zzq, trivial⟩ fun u31 av => ?_)))
 refine ⟨(⟨some ⟨ad, 0, none⟩, (Nt.trimQ (l.map (· * q))).length, x.n⟩ : Sl), rfl, ?_⟩
 exact ((cut_N (ac.ext (ap.t ar.ext))).ext av)
theorem k_poTrim {u w : World} {x : Sl} {l : List Rat} {K : Nat} (d : Dat u w) (hx : PolV u x l K) (hK : K ≤ 50000000) (hx9 : l.length ≤ 1000000000) : Calls Tryz.prog 117 #[x.v] w (Post u w fun v u' => ∃ y : Sl, v = y.v ∧ PolN u' y (Nt.trimQ l) K) := by
 have hlen := hx.len
 have htl := Nt.zzh l
 refine zzm (args := [x.v]) Tryz.func117 rfl Tryz.ntmps117 (rs := [.tmp 2]) Tryz.results117 (le_b rfl) (le_b rfl) d ?_
 refine sq9 (zza 2 (.v (.slice none 0 0)) (zzb (sq9 (zza 5 (.v (x.v)) (zzg 6 151 _ fun _ _ ai ay => Post.mono (k_cut ay (hx.ext ai) xq xk) ?_)))))
 rintro _ ar ap rfl
 refine zza 7 (zI (((Nt.trimQ l).length : Nat) : Int)) (sy_make 8 (T := 27) (E := 32) (z := .agg #[.bool false, .slice none 0 0, .slice none 0 0]) (size := 3) (bytes := 56) ((Nt.trimQ l).length) (rcs (List.replicate ((Nt.trimQ l).length) rl0)) xj xj rfl rfl xq yv (made_rcs _) ?_)
 refine zza 3 (.slc 8 0 ((Nt.trimQ l).length) ((Nt.trimQ l).length)) (zzc 24 [(0, .v (x.v)), (3, .slc 8 0 ((Nt.trimQ l).length) ((Nt.trimQ l).length))] [(8, ⟨32, rcs (List.replicate ((Nt.trimQ l).length) rl0)⟩)] (zzd (sq9 (zza 9 (.slc 8 0 ((Nt.trimQ l).length) ((Nt.trimQ l).length)) (zza 10 (zI (((Nt.trimQ l).length : Nat) : Int)) (zza 11 (zI 0) (zzc 24 [(0, .v (x.v)), (3, .slc 8 0 ((Nt.trimQ l).length) ((Nt.trimQ l).length)), (10, zI (((Nt.trimQ l).length : Nat) : Int)), (11, zI 0)] [(8, ⟨32, rcs (List.replicate ((Nt.trimQ l).length) rl0)⟩)] (zzt (zyn (I := fun ao S' u' => ∃ (i : Nat) (L : List RL), (ao = ((Nt.trimQ l).length) - i) ∧ (i ≤ (Nt.trimQ l).length) ∧ (L.length = (Nt.trimQ l).length) ∧ (S' = St.of 24 [(0, .v (x.v)), (3, .slc 8 0 ((Nt.trimQ l).length) ((Nt.trimQ l).length)), (10, zI (((Nt.trimQ l).length : Nat) : Int)), (11, zI i)] [(8, ⟨32, rcs L⟩)]) ∧ (Ext ar u') ∧ (RatsN u' (L.take i) ((Nt.trimQ l).take i) K)) (fun m S u1 u2 e h => by obtain ⟨i, L, hm, p0, p1, hS, hE, f0⟩ := h; exact ⟨i, L, hm, p0, p1, hS, hE.trans e, f0.ext e⟩) _ yk ⟨0, List.replicate ((Nt.trimQ l).length) rl0, rfl, by omega, by simp, rfl, (Ext.refl _), RatsN.tnil _ _ _ _⟩ ?_)))))))))
 rintro ao _ u15 ⟨i, L, ax, hi, hL, rfl, ag, hR⟩
 refine sq9 (zza 12 (zB (decide ((i : Int) < (((Nt.trimQ l).length : Nat) : Int)))) (zzb (zzd (zzu (b := decide ((i : Int) < (((Nt.trimQ l).length : Nat) : Int))) xj (fun aa => ?_) (fun aa => ?_)))))
 ·have qhb16 := of_decide_eq_true aa
  refine zzs (zzp ?_)
  refine zzd (zzt (sq9 (zza 13 (zI i) (zza 4 (zI i) (zzb (zzf (zza 14 (.slc 8 0 ((Nt.trimQ l).length) ((Nt.trimQ l).length)) (zza 15 (zI i) (zza 16 (.v (x.v)) (zza 17 (zI i) ?_))))))))))
  have hl17 := (hx.ext (ai.t (ap.t ag))).len
  obtain ⟨aA, b17, aq, ad, af, aj⟩ := pol_at (hx.ext (ai.t (ap.t ag))) (i := i) xq
  refine zya 18 (aq + i * 3) (n := x.n) (off := aq) (sz := 3) (i := (i : Int)) xq ad xq xq sl27 (zym 19 aA.cs af ty32 (zzg 20 68 _ fun _ _ am av => Post.mono (k_ratTrim av (aj.ext am) xq) ?_))
  rintro _ u21 an ⟨al, rfl, au⟩
  refine zyw 21 (off' := i * 3) (n := (Nt.trimQ l).length) (off := 0) (sz := 3) (i := (i : Int)) sl27 xq xq xq ?_
  refine zyv (V := ⟨32, rcs L⟩) (off := i * 3) (rcs ((L).set i al)) ty32 yy (zyx (r := al) (i := i) zq rfl) ?_
  refine zzx ?_
  refine zzp (zzf (zyq 22 (x := zI (IntKind.i64.wrap ((i : Int) + 1))) (zI (i + 1 : Nat)) (eqI xz) (zza 11 (zI (i + 1 : Nat)) (zzx ?_))))
  have ah : i < (Nt.trimQ l).length := by skip; omega
  refine ⟨_, ?_, _, by exact zzv _ _ _, i + 1, (L).set i al, rfl, by omega, by simpa using hL, rfl, (ag.t (am.t an.ext)), RatsN.tstep (hR.ext (am.t an.ext)) xq ah (RatN.more (K := K) au xq) (Nt.trim_co l i).symm⟩
  omega
 have qhb16 := of_decide_eq_false aa
 refine zyc (zzp (zzd (zyp (r := 3) (t := 8) [3, 8] xw xj (by rfl) (by rfl) xj (fun ac aC az aB ae => ?_))))
 have ak : PolN aC ⟨some ⟨ac, 0, none⟩, (Nt.trimQ l).length, (Nt.trimQ l).length⟩ (Nt.trimQ l) K := pol_data1 ae yv (RatsN.tdone (hR.ext az) xq (by skip; omega)) xq
 refine zzf (zza 23 (.v (.slice (some ⟨ac, 0, none⟩) ((Nt.trimQ l).length) ((Nt.trimQ l).length))) (zza 2 (.v (.slice (some ⟨ac, 0, none⟩) ((Nt.trimQ l).length) ((Nt.trimQ l).length))) (zzb (zzo (ret0 [.slice (some ⟨ac, 0, none⟩) ((Nt.trimQ l).length) ((Nt.trimQ l).length)] ⟨zzq, trivial⟩ fun u31 aw => ?_)))))
 refine ⟨(⟨some ⟨ac, 0, none⟩, (Nt.trimQ l).length, (Nt.trimQ l).length⟩ : Sl), rfl, ?_⟩
 exact (ak.ext aw)
theorem k_poAdd {u w : World} {x : Sl} {l : List Rat} {y : Sl} {m : List Rat} {K M : Nat} (d : Dat u w) (hx : PolV u x l K) (hy : PolV u y m M) (hK : K ≤ 40000000) (hM : M ≤ 40000000) (hx9 : l.length ≤ 1000000000) (hy9 : m.length ≤ 1000000000) : Calls Tryz.prog 115 #[x.v, y.v] w (Post u w fun v u' => ∃ y : Sl, v = y.v ∧ PolN u' y (Nt.trimQ (Nt.addQ l m)) (K + M + 1)) := by
 have hlen := hx.len
 have hlen2 := hy.len
 refine zzm (args := [x.v, y.v]) Tryz.func115 rfl Tryz.ntmps115 (rs := [.tmp 4]) Tryz.results115 (le_b rfl) (le_b rfl) d ?_
 refine sq9 (zza 4 (.v (.slice none 0 0)) (zzb (zzd (sq9 (zza 7 (.v (x.v)) (zza 8 (zI x.n) (zza 9 (.v (y.v)) (zza 10 (zI y.n) (zza 11 (zB (decide ((x.n : Int) < (y.n : Int)))) (zzb (zzu (b := decide ((x.n : Int) < (y.n : Int))) xj (fun ad => ?_) (fun ad => ?_))))))))))))
 ·have qhb11 := of_decide_eq_true ad
  refine zzf (zza 12 (.v (y.v)) (zza 13 (.v (x.v)) (zza 0 (.v (y.v)) (zza 1 (.v (x.v)) (zzb (sq9 (zza 14 (.v (y.v)) (zza 15 (zI y.n) (sy_make 16 (T := 27) (E := 32) (z := .agg #[.bool false, .slice none 0 0, .slice none 0 0]) (size := 3) (bytes := 56) y.n (rcs (List.replicate y.n rl0)) xj xj rfl rfl xq yv (made_rcs _) ?_)))))))))
  refine zza 5 (.slc 16 0 y.n y.n) (zzc 49 [(0, .v (y.v)), (1, .v (x.v)), (5, .slc 16 0 y.n y.n)] [(16, ⟨32, rcs (List.replicate y.n rl0)⟩)] (zzd (sq9 (zza 17 (.slc 16 0 y.n y.n) (zza 18 (zI y.n) (zza 19 (zI 0) (zzc 49 [(0, .v (y.v)), (1, .v (x.v)), (5, .slc 16 0 y.n y.n), (18, zI y.n), (19, zI 0)] [(16, ⟨32, rcs (List.replicate y.n rl0)⟩)] (zzt (zyn (I := fun a3 S' u' => ∃ (i : Nat) (L : List RL), (a3 = y.n - i) ∧ (i ≤ y.n) ∧ (L.length = y.n) ∧ (S' = St.of 49 [(0, .v (y.v)), (1, .v (x.v)), (5, .slc 16 0 y.n y.n), (18, zI y.n), (19, zI i)] [(16, ⟨32, rcs L⟩)]) ∧ (Ext u u') ∧ (RatsN u' (L.take i) ((Nt.addQ l m).take i) (K + M + 1))) (fun m S u1 u2 e h => by obtain ⟨i, L, hm, p0, p1, hS, hE, f0⟩ := h; exact ⟨i, L, hm, p0, p1, hS, hE.trans e, f0.ext e⟩) _ yk ⟨0, List.replicate y.n rl0, rfl, by omega, by simp, rfl, (Ext.refl _), RatsN.tnil _ _ _ _⟩ ?_)))))))))
  rintro a3 _ u12 ⟨i, L, bm, hi, hL, rfl, aa, hR⟩
  refine sq9 (zza 20 (zB (decide ((i : Int) < (y.n : Int)))) (zzb (zzd (zzu (b := decide ((i : Int) < (y.n : Int))) xj (fun af => ?_) (fun af => ?_)))))
  ·have qhb13 := of_decide_eq_true af
   refine zzs (zzp ?_)
   refine zzd (zzt (sq9 (zza 21 (zI i) (zza 6 (zI i) (zzb (sq9 (zza 22 (zI i) (zza 23 (.v (x.v)) (zza 24 (zI x.n) (zza 25 (zB (decide ((i : Int) < (x.n : Int)))) (zzb ?_)))))))))))
   refine zzu (b := decide ((i : Int) < (x.n : Int))) xj (fun ae => ?_) (fun ae => ?_)
   ·have qhb14 := of_decide_eq_true ae
    refine zzz [0, 0, 0, 0, 12, 28, 0, 0, 192, 448, 1020, 2047, 4095] [(0, []), (1, []), (2, []), (3, []), (4, []), (5, []), (6, []), (7, []), (8, []), (9, []), (10, []), (11, []), (12, [])] xj xj (zza 26 (.slc 16 0 y.n y.n) (zza 27 (zI i) (zza 28 (.v (y.v)) (zza 29 (zI i) ?_))))
    have hl15 := (hy.ext aa).len
    obtain ⟨bs, b15, aW, aG, aK, aM⟩ := pol_at (hy.ext aa) (i := i) xq
    refine zya 30 (aW + i * 3) (n := y.n) (off := aW) (sz := 3) (i := (i : Int)) xq aG xq xq sl27 (zym 31 bs.cs aK ty32 (zza 32 (.v (x.v)) (zza 33 (zI i) ?_)))
    have hl16 := (hx.ext aa).len
    obtain ⟨bq, b16, a2, aQ, aA, aD⟩ := pol_at (hx.ext aa) (i := i) xq
    refine zya 34 (a2 + i * 3) (n := x.n) (off := a2) (sz := 3) (i := (i : Int)) xq aQ xq xq sl27 (zym 35 bq.cs aA ty32 (zzg 36 112 _ fun _ _ am bx => Post.mono (k_ratAdd bx (aM.ext am) (aD.ext am) xq xq) ?_))
    rintro _ u20 a8 ⟨aL, rfl, ba⟩
    refine zyw 37 (off' := i * 3) (n := y.n) (off := 0) (sz := 3) (i := (i : Int)) sl27 xq xq xq ?_
    refine zyv (V := ⟨32, rcs L⟩) (off := i * 3) (rcs ((L).set i aL)) ty32 yy (zyx (r := aL) (i := i) zq rfl) ?_
    refine zzx ?_
    refine zzp (zzf (zyq 46 (x := zI (IntKind.i64.wrap ((i : Int) + 1))) (zI (i + 1 : Nat)) (eqI xz) (zza 19 (zI (i + 1 : Nat)) (zzx ?_))))
    have av : i < (Nt.addQ l m).length := by rw [Nt.addQ_len]; omega
    refine ⟨_, ?_, _, by exact zzv _ _ _, i + 1, (L).set i aL, rfl, by omega, by simpa using hL, rfl, (aa.t (am.t a8.ext)), RatsN.tstep (hR.ext (am.t a8.ext)) xq av (RatN.more (K := (M + K + 1)) ba xq) (by have h9 := Nt.addQ_co l m i; unfold Nt.co at h9; show _ = List.getD _ _ _; rw [h9]; exact Rat.add_comm _ _)⟩
    omega
   have qhb14 := of_decide_eq_false ae
   refine zzf (zza 38 (.slc 16 0 y.n y.n) (zza 39 (zI i) (zza 40 (.v (y.v)) (zza 41 (zI i) ?_))))
   have hl24 := (hy.ext aa).len
   obtain ⟨bg, b24, a7, ar, aC, az⟩ := pol_at (hy.ext aa) (i := i) xq
   refine zya 42 (a7 + i * 3) (n := y.n) (off := a7) (sz := 3) (i := (i : Int)) xq ar xq xq sl27 (zym 43 bg.cs aC ty32 (zzg 44 68 _ fun _ _ aI bi => Post.mono (k_ratTrim bi (az.ext aI) xq) ?_))
   rintro _ u28 aY ⟨au, rfl, bj⟩
   refine zyw 45 (off' := i * 3) (n := y.n) (off := 0) (sz := 3) (i := (i : Int)) sl27 xq xq xq ?_
   refine zyv (V := ⟨32, rcs L⟩) (off := i * 3) (rcs ((L).set i au)) ty32 yy (zyx (r := au) (i := i) zq rfl) ?_
   refine zzx ?_
   refine zzp (zzf (zyq 46 (x := zI (IntKind.i64.wrap ((i : Int) + 1))) (zI (i + 1 : Nat)) (eqI xz) (zza 19 (zI (i + 1 : Nat)) (zzx ?_))))
   have ap : i < (Nt.addQ l m).length := by rw [Nt.addQ_len]; omega
   refine ⟨_, ?_, _, by exact zzv _ _ _, i + 1, (L).set i au, rfl, by omega, by simpa using hL, rfl, (aa.t (aI.t aY.ext)), RatsN.tstep (hR.ext (aI.t aY.ext)) xq ap (RatN.more (K := M) bj xq) (by have h9 := Nt.addQ_co l m i; unfold Nt.co at h9; show _ = List.getD _ _ _; rw [h9]; rw [show l.getD i 0 = 0 from Nt.co_ge xq]; grind)⟩
   omega
  have qhb13 := of_decide_eq_false af
  refine zyc (zzp (zzd (zyp (r := 5) (t := 16) [5, 16] xw xj (by rfl) (by rfl) xj (fun al bw bd br aJ => ?_))))
  have ai : PolN bw ⟨some ⟨al, 0, none⟩, y.n, y.n⟩ (Nt.addQ l m) (K + M + 1) := pol_data1 aJ yv (RatsN.tdone (hR.ext bd) xq (by rw [Nt.addQ_len]; omega)) xq
  refine zzf (zza 47 (.v (.slice (some ⟨al, 0, none⟩) y.n y.n)) (zzg 48 151 _ fun _ _ a4 a9 => Post.mono (k_cut a9 (ai.ext a4).raw xq xk) ?_))
  rintro _ u39 be rfl
  refine zza 4 (.v (.slice (some ⟨al, 0, none⟩) (Nt.trimQ (Nt.addQ l m)).length y.n)) (zzb (zzo (ret0 [.slice (some ⟨al, 0, none⟩) (Nt.trimQ (Nt.addQ l m)).length y.n] ⟨zzq, trivial⟩ fun u42 bu => ?_)))
  refine ⟨(⟨some ⟨al, 0, none⟩, (Nt.trimQ (Nt.addQ l m)).length, y.n⟩ : Sl), rfl, ?_⟩
  exact ((cut_N (ai.ext (a4.t be.ext))).ext bu)
 have qhb11 := of_decide_eq_false ad
 refine zzs (zzp ?_)
 refine sq9 (zza 14 (.v (x.v)) (zza 15 (zI x.n) (sy_make 16 (T := 27) (E := 32) (z := .agg #[.bool false, .slice none 0 0, .slice none 0 0]) (size := 3) (bytes := 56) x.n (rcs (List.replicate x.n rl0)) xj xj rfl rfl xq yv (made_rcs _) ?_)))
 refine zza 5 (.slc 16 0 x.n x.n) (zzc 49 [(0, .v (x.v)), (1, .v (y.v)), (5, .slc 16 0 x.n x.n)] [(16, ⟨32, rcs (List.replicate x.n rl0)⟩)] (zzd (sq9 (zza 17 (.slc 16 0 x.n x.n) (zza 18 (zI x.n) (zza 19 (zI 0) (zzc 49 [(0, .v (x.v)), (1, .v (y.v)), (5, .slc 16 0 x.n x.n), (18, zI x.n), (19, zI 0)] [(16, ⟨32, rcs (List.replicate x.n rl0)⟩)] (zzt (zyn (I := fun aU S' u' => ∃ (i : Nat) (L : List RL), (aU = x.n - i) ∧ (i ≤ x.n) ∧ (L.length = x.n) ∧ (S' = St.of 49 [(0, .v (x.v)), (1, .v (y.v)), (5, .slc 16 0 x.n x.n), (18, zI x.n), (19, zI i)] [(16, ⟨32, rcs L⟩)]) ∧ (Ext u u') ∧ (RatsN u' (L.take i) ((Nt.addQ l m).take i) (K + M + 1))) (fun m S u1 u2 e h => by obtain ⟨i, L, hm, p0, p1, hS, hE, f0⟩ := h; exact ⟨i, L, hm, p0, p1, hS, hE.trans e, f0.ext e⟩) _ yk ⟨0, List.replicate x.n rl0, rfl, by omega, by simp, rfl, (Ext.refl _), RatsN.tnil _ _ _ _⟩ ?_)))))))))
 rintro aU _ u44 ⟨i, L, bA, hi, hL, rfl, ac, hR⟩
 refine sq9 (zza 20 (zB (decide ((i : Int) < (x.n : Int)))) (zzb (zzd (zzu (b := decide ((i : Int) < (x.n : Int))) xj (fun ah => ?_) (fun ah => ?_)))))
 ·have qhb45 := of_decide_eq_true ah
  refine zzs (zzp ?_)
  refine zzd (zzt (sq9 (zza 21 (zI i) (zza 6 (zI i) (zzb (sq9 (zza 22 (zI i) (zza 23 (.v (y.v)) (zza 24 (zI y.n) (zza 25 (zB (decide ((i : Int) < (y.n : Int)))) (zzb ?_)))))))))))
  refine zzu (b := decide ((i : Int) < (y.n : Int))) xj (fun ag => ?_) (fun ag => ?_)
  ·have qhb46 := of_decide_eq_true ag
   refine zzz [0, 0, 0, 0, 12, 28, 0, 0, 192, 448, 1020, 2047, 4095] [(0, []), (1, []), (2, []), (3, []), (4, []), (5, []), (6, []), (7, []), (8, []), (9, []), (10, []), (11, []), (12, [])] xj xj (zza 26 (.slc 16 0 x.n x.n) (zza 27 (zI i) (zza 28 (.v (x.v)) (zza 29 (zI i) ?_))))
   have hl47 := (hx.ext ac).len
   obtain ⟨bk, b47, aV, aE, aB, aO⟩ := pol_at (hx.ext ac) (i := i) xq
   refine zya 30 (aV + i * 3) (n := x.n) (off := aV) (sz := 3) (i := (i : Int)) xq aE xq xq sl27 (zym 31 bk.cs aB ty32 (zza 32 (.v (y.v)) (zza 33 (zI i) ?_)))
   have hl48 := (hy.ext ac).len
   obtain ⟨bb, b48, a1, aq, aN, aR⟩ := pol_at (hy.ext ac) (i := i) xq
   refine zya 34 (a1 + i * 3) (n := y.n) (off := a1) (sz := 3) (i := (i : Int)) xq aq xq xq sl27 (zym 35 bb.cs aN ty32 (zzg 36 112 _ fun _ _ an bn => Post.mono (k_ratAdd bn (aO.ext an) (aR.ext an) xq xq) ?_))
   rintro _ u52 aX ⟨aH, rfl, bv⟩
   refine zyw 37 (off' := i * 3) (n := x.n) (off := 0) (sz := 3) (i := (i : Int)) sl27 xq xq xq ?_
   refine zyv (V := ⟨32, rcs L⟩) (off := i * 3) (rcs ((L).set i aH)) ty32 yy (zyx (r := aH) (i := i) zq rfl) ?_
   refine zzx ?_
   refine zzp (zzf (zyq 46 (x := zI (IntKind.i64.wrap ((i : Int) + 1))) (zI (i + 1 : Nat)) (eqI xz) (zza 19 (zI (i + 1 : Nat)) (zzx ?_))))
   have aP : i < (Nt.addQ l m).length := by rw [Nt.addQ_len]; omega
   refine ⟨_, ?_, _, by exact zzv _ _ _, i + 1, (L).set i aH, rfl, by omega, by simpa using hL, rfl, (ac.t (an.t aX.ext)), RatsN.tstep (hR.ext (an.t aX.ext)) xq aP (RatN.more (K := (K + M + 1)) bv xq) (by have h9 := Nt.addQ_co l m i; unfold Nt.co at h9; show _ = List.getD _ _ _; rw [h9])⟩
   omega
  have qhb46 := of_decide_eq_false ag
  refine zzf (zza 38 (.slc 16 0 x.n x.n) (zza 39 (zI i) (zza 40 (.v (x.v)) (zza 41 (zI i) ?_))))
  have hl56 := (hx.ext ac).len
  obtain ⟨bl, b56, a5, aF, aS, ax⟩ := pol_at (hx.ext ac) (i := i) xq
  refine zya 42 (a5 + i * 3) (n := x.n) (off := a5) (sz := 3) (i := (i : Int)) xq aF xq xq sl27 (zym 43 bl.cs aS ty32 (zzg 44 68 _ fun _ _ ay bp => Post.mono (k_ratTrim bp (ax.ext ay) xq) ?_))
  rintro _ u60 aZ ⟨aw, rfl, bB⟩
  refine zyw 45 (off' := i * 3) (n := x.n) (off := 0) (sz := 3) (i := (i : Int)) sl27 xq xq xq ?_
  refine zyv (V := ⟨32, rcs L⟩) (off := i * 3) (rcs ((L).set i aw)) ty32 yy (zyx (r := aw) (i := i) zq rfl) ?_
  refine zzx ?_
  refine zzp (zzf (zyq 46 (x := zI (IntKind.i64.wrap ((i : Int) + 1))) (zI (i + 1 : Nat)) (eqI xz) (zza 19 (zI (i + 1 : Nat)) (zzx ?_))))
  have aT : i < (Nt.addQ l m).length := by rw [Nt.addQ_len]; omega
  refine ⟨_, ?_, _, by exact zzv _ _ _, i + 1, (L).set i aw, rfl, by omega, by simpa using hL, rfl, (ac.t (ay.t aZ.ext)), RatsN.tstep (hR.ext (ay.t aZ.ext)) xq aT (RatN.more (K := K) bB xq) (by have h9 := Nt.addQ_co l m i; unfold Nt.co at h9; show _ = List.getD _ _ _; rw [h9]; rw [show m.getD i 0 = 0 from Nt.co_ge xq]; grind)⟩
  omega
 have qhb45 := of_decide_eq_false ah
 refine zyc (zzp (zzd (zyp (r := 5) (t := 16) [5, 16] xw xj (by rfl) (by rfl) xj (fun ak bz bc bo ao => ?_))))
 have aj : PolN bz ⟨some ⟨ak, 0, none⟩, x.n, x.n⟩ (Nt.addQ l m) (K + M + 1) := pol_data1 ao yv (RatsN.tdone (hR.ext bc) xq (by rw [Nt.addQ_len]; omega)) xq
 refine zzf (zza 47 (.v (.slice (some ⟨ak, 0, none⟩) x.n x.n)) (zzg 48 151 _ fun _ _ a6 bh => Post.mono (k_cut bh (aj.ext a6).raw xq xk) ?_))
 rintro _ u71 bf rfl
 refine zza 4 (.v (.slice (some ⟨ak, 0, none⟩) (Nt.trimQ (Nt.addQ l m)).length x.n)) (zzb (zzo (ret0 [.slice (some ⟨ak, 0, none⟩) (Nt.trimQ (Nt.addQ l m)).length x.n] ⟨zzq, trivial⟩ fun u74 bt => ?_)))
 refine ⟨(⟨some ⟨ak, 0, none⟩, (Nt.trimQ (Nt.addQ l m)).length, x.n⟩ : Sl), rfl, ?_⟩
 exact ((cut_N (aj.ext (a6.t bf.ext))).ext bt)
theorem k_poParts {u w : World} {r : RL} (d : Dat u w) : Calls Tryz.prog 223 #[r.v] w (Post u w fun v u' => ∃ y : Sl, v = .tuple #[.agg #[.bool r.s, r.m.v, y.v], .agg #[.bool false, r.d.v, y.v]] ∧ NatN u' y 1 1) := by
 refine zzm (args := [r.v]) Tryz.func223 rfl Tryz.ntmps223 (rs := [.cell 2 32, .cell 3 32]) Tryz.results223 (le_b rfl) (le_b rfl) d ?_
 refine sq9 (zzk 1 ⟨32, r.cs⟩ (zzk 2 ⟨32, zw3⟩ (zzk 3 ⟨32, zw3⟩ (zzb (sq9 (zxx 5 ⟨133, [.int .u32 1]⟩ 1 (fun aa u12 e13 ad => ?_)))))))
 refine zza 4 (.v (.slice (some ⟨aa, 0, none⟩) 1 1)) (zzb (zzd (zzz [0, 1, 0, 7, 0, 16, 48, 0, 240, 15, 1023] [(0, []), (1, []), (2, []), (3, []), (4, []), (5, []), (6, []), (7, []), (8, []), (9, [10]), (10, [])] xj xj (zza 6 (.adr 1 0) (zzi 7 (.v (.agg #[.bool r.s, r.m.v])) ty30 zze (zza 8 (.v (.slice (some ⟨aa, 0, none⟩) 1 1)) (zza 9 (.v (.agg #[.bool r.s, r.m.v, .slice (some ⟨aa, 0, none⟩) 1 1])) (zza 10 (.adr 1 2) (zzi 11 (.v (r.d.v)) ty28 zzl (zza 12 (.v (.agg #[.bool false, r.d.v])) (zza 13 (.v (.slice (some ⟨aa, 0, none⟩) 1 1)) ?_)))))))))))
 refine zza 14 (.v (.agg #[.bool false, r.d.v, .slice (some ⟨aa, 0, none⟩) 1 1])) (zzj ⟨32, [.bool r.s, r.m.v, .slice (some ⟨aa, 0, none⟩) 1 1]⟩ ty32 ?_)
 refine zzj ⟨32, [.bool false, r.d.v, .slice (some ⟨aa, 0, none⟩) 1 1]⟩ ty32 ?_
 refine zzb (zzo (ret0 [.agg #[.bool r.s, r.m.v, .slice (some ⟨aa, 0, none⟩) 1 1], .agg #[.bool false, r.d.v, .slice (some ⟨aa, 0, none⟩) 1 1]] ⟨zzr ty32 zze, zzr ty32 zze, trivial⟩ fun u15 ac => ?_))
 exact ⟨(⟨some ⟨aa, 0, none⟩, 1, 1⟩ : Sl), rfl, ((one_data ad).ext ac)⟩
set_option maxHeartbeats 1000000 in
theorem k_common {u w : World} {r1 r2 : RL} {x y : Rat} {K M : Nat} (d : Dat u w) (h1 : RatN u r1 x K) (h2 : RatV u r2 y M) (hK : K ≤ 40000000) (hM : M ≤ 40000000) : Calls Tryz.prog 212 #[r1.v, r2.v] w (Post u w fun v u' => ∃ r : RL, v = r.v ∧ RatN u' r (Nt.cmn x y) (K + M)) := by
 refine zzm (args := [r1.v, r2.v]) Tryz.func212 rfl Tryz.ntmps212 (rs := [.cell 4 32]) Tryz.results212 (le_b rfl) (le_b rfl) d ?_
 refine sq9 (zzk 2 ⟨32, r1.cs⟩ (zzk 3 ⟨32, r2.cs⟩ (zzk 4 ⟨32, zw3⟩ (zzb (zzd (sq9 (zzi 11 (.v (r1.v)) ty32 zze (zzg 12 66 _ fun _ _ af ay => Post.mono (k_ratSign ay (h1.ext af).raw) ?_))))))))
 rintro _ u12 ai rfl
 refine zza 13 (zB ((Nt.sgQ x) == 0)) (zzb (zzu (b := (Nt.sgQ x) == 0) xj (fun ad => ?_) (fun ad => ?_)))
 ·have ag : x = 0 := by have h9 := ad; rw [Nt.sgQ_eq] at h9; simpa using h9
  refine sq9 (zzi 14 (.v (r2.v)) ty32 zze (zzg 15 65 _ fun _ _ aq aw => Post.mono (k_ratAbs aw (h2.ext (af.t (ai.t aq))) xq) ?_))
  rintro _ u19 g20 ⟨al, rfl, az⟩
  refine zzj ⟨32, al.cs⟩ ty32 ?_
  refine zzb (zzo (zzw (ret0 [al.v] ⟨zzr ty32 zze, trivial⟩ fun u22 aG => ?_)))
  have e9 : Nt.cmn x y = (Nt.absQ y) := by unfold Nt.cmn; rw [if_pos ag]
  have hs := Nt.rs_cmn x y
  have hs1 := h1.rs
  have hs2 := h2.rs
  refine ⟨al, rfl, RatN.fit (K := M) ?_ xq⟩
  rw [e9]
  exact (az.ext aG)
 have ag : ¬ x = 0 := by have h9 := ad; rw [Nt.sgQ_eq] at h9; simpa using h9
 refine zzs (zzp ?_)
 refine sq9 (zzi 17 (.v (r1.v)) ty32 zze (zzi 18 (.v (r2.v)) ty32 zze (zzg 19 138 _ fun _ _ aj aE => Post.mono (k_ratDiv aE (h1.ext (af.t (ai.t aj))).raw (h2.ext (af.t (ai.t aj))) xq xq) ?_)))
 rintro _ u28 an (⟨rfl, ac⟩ | ⟨ac, aa, rfl, aB⟩)
 ·skip
  refine zza 16 (.v (.tuple #[.agg #[.bool false, .slice none 0 0, .slice none 0 0], .int .i64 3])) (zza 20 (.v (.agg #[.bool false, .slice none 0 0, .slice none 0 0])) (zza 21 (zI 3) (zzk 5 ⟨32, zw3⟩ (zzj ⟨32, zw3⟩ ty32 ?_))))
  refine zza 6 (zI 3) (zzb (zzd (sq9 (zza 22 (zI 3) (zza 23 (zB true) (zzb (zyr xj (sq9 (zzi 24 (.v (r1.v)) ty32 zze (zzj ⟨32, r1.cs⟩ ty32 ?_))))))))))
  refine zzb (zzo (zzw (ret0 [r1.v] ⟨zzr ty32 zze, trivial⟩ fun u31 av => ?_)))
  have e9 : Nt.cmn x y = x := by unfold Nt.cmn; rw [if_neg ag, if_pos ac]
  have hs := Nt.rs_cmn x y
  have hs1 := h1.rs
  have hs2 := h2.rs
  refine ⟨r1, rfl, RatN.fit (K := K) ?_ xq⟩
  rw [e9]
  exact (h1.ext (af.t (ai.t (aj.t (an.t av)))))
 refine zza 16 (.v (.tuple #[aa.v, .int .i64 0])) (zza 20 (.v (aa.v)) (zza 21 (zI 0) (zzk 5 ⟨32, zw3⟩ (zzj ⟨32, aa.cs⟩ ty32 ?_))))
 refine zza 6 (zI 0) (zzb (zzd (sq9 (zza 22 (zI 0) (zza 23 (zB false) (zzb (zys xj (zzs (zzp ?_)))))))))
 refine sq9 (zzi 26 (.v (aa.v)) ty32 zze (zzg 27 223 _ fun _ _ ap aC => Post.mono (k_poParts (r := aa) aC) ?_))
 rintro _ u36 ao ⟨ae, rfl, aA⟩
 refine zza 25 (.v (.tuple #[.agg #[.bool aa.s, aa.m.v, ae.v], .agg #[.bool false, aa.d.v, ae.v]])) (zza 28 (.v (.agg #[.bool aa.s, aa.m.v, ae.v])) (zza 29 (.v (.agg #[.bool false, aa.d.v, ae.v])) (zzk 7 ⟨32, zw3⟩ (zzk 8 ⟨32, zw3⟩ (zzj ⟨32, [.bool aa.s, aa.m.v, ae.v]⟩ ty32 ?_)))))
 refine zzj ⟨32, [.bool false, aa.d.v, ae.v]⟩ ty32 ?_
 refine zzb (sq9 (zzi 31 (.v (r1.v)) ty32 zze (zzi 32 (.v (.agg #[.bool aa.s, aa.m.v, ae.v])) ty32 zze (zzg 33 138 _ fun _ _ am aH => Post.mono (k_ratDiv1 aH (h1.ext (af.t (ai.t (aj.t (an.t (ap.t (ao.t am))))))).raw ((whole_rat (RatN.num (aB.ext (ap.t ao.ext))) aA).ext am).raw (Nt.num_ne (Nt.div_ne ag ac)) xq xq) ?_))))
 rintro _ u42 g43 ⟨ah, rfl, ar⟩
 refine zza 30 (.v (.tuple #[ah.v, .int .i64 0])) (zza 34 (.v (ah.v)) (zza 35 (zI 0) (zzk 9 ⟨32, zw3⟩ (zzj ⟨32, ah.cs⟩ ty32 ?_))))
 refine zza 10 (zI 0) (zzc 38 [(4, .adr 4 0), (9, .adr 9 0)] [(4, ⟨32, zw3⟩), (9, ⟨32, ah.cs⟩)] (sq9 (zzi 36 (.v (ah.v)) ty32 zze (zzg 37 65 _ fun _ _ aF aD => Post.mono (k_ratAbs aD (ar.ext aF).raw xq) ?_))))
 rintro _ u48 g49 ⟨ak, rfl, au⟩
 refine zzj ⟨32, ak.cs⟩ ty32 ?_
 refine zzb (zzo (ret0 [ak.v] ⟨zzr ty32 zze, trivial⟩ fun u51 ax => ?_))
 have e9 : Nt.cmn x y = (Nt.absQ (x / (((x / y).num : Int) : Rat))) := by unfold Nt.cmn; rw [if_neg ag, if_neg ac]
 have hs := Nt.rs_cmn x y
 have hs1 := h1.rs
 have hs2 := h2.rs
 refine ⟨ak, rfl, RatN.fit (K := (K + (max (K + M) 1))) ?_ xq⟩
 rw [e9]
 exact (au.ext ax)
set_option maxHeartbeats 1000000 in
theorem k_split {u w : World} {x : Sl} {l : List Rat} {K : Nat} (d : Dat u w) (hx : PolV u x l K) (hK : (l.length + 1) * K ≤ 30000000) (hx9 : l.length ≤ 1000000000) : Calls Tryz.prog 179 #[x.v] w (Post u w fun v u' => ∃ (r : RL) (y : Sl), v = .tuple #[r.v, y.v] ∧ RatN u' r (Nt.msr (Nt.trimQ l)) ((Nt.trimQ l).length * K + 2) ∧ PolN u' y ((Nt.trimQ l).map (· / Nt.msr (Nt.trimQ l))) (K + ((Nt.trimQ l).length * K + 2))) := by
 have hlen := hx.len
 have htl := Nt.zzh l
 have hKK : (Nt.trimQ l).length * K ≤ l.length * K := Nat.mul_le_mul_right _ htl
 rw [Nat.add_mul] at hK
 refine zzm (args := [x.v]) Tryz.func179 rfl Tryz.ntmps179 (rs := [.cell 2 32, .tmp 3]) Tryz.results179 (le_b rfl) (le_b rfl) d ?_
 refine sq9 (zzk 2 ⟨32, zw3⟩ (zza 3 (.v (.slice none 0 0)) (zzb (sq9 (zza 10 (.v (x.v)) (zzg 11 151 _ fun _ _ ag aP => Post.mono (k_cut aP (hx.ext ag) xq xk) ?_))))))
 rintro _ u12 ak rfl
 refine zza 0 (.v (.slice x.a (Nt.trimQ l).length x.c)) (zzb (sq9 (zzg 12 109 _ fun _ _ aj aX => Post.mono (k_ratOf aX (z := 0) xq xq) ?_)))
 rintro _ aU ai ⟨aI, rfl, aY⟩
 refine zzk 4 ⟨32, zw3⟩ (zzj ⟨32, aI.cs⟩ ty32 ?_)
 refine zzb (zzd (sq9 (zza 13 (.v (.slice x.a (Nt.trimQ l).length x.c)) (zza 14 (zI (((Nt.trimQ l).length : Nat) : Int)) (zza 15 (zI 0) (zzb (zzt (zyn (I := fun aA S' u' => ∃ (i : Nat) (r : RL), (aA = (Nt.trimQ l).length - i) ∧ (i ≤ (Nt.trimQ l).length) ∧ (S' = St.of 45 [(0, .v (.slice x.a (Nt.trimQ l).length x.c)), (2, .adr 2 0), (4, .adr 4 0), (13, .v (.slice x.a (Nt.trimQ l).length x.c)), (14, zI (((Nt.trimQ l).length : Nat) : Int)), (15, zI i)] [(2, ⟨32, zw3⟩), (4, ⟨32, r.cs⟩)]) ∧ (Ext aU u') ∧ (RatN u' r (Nt.msr ((Nt.trimQ l).take i)) (i * K + 2))) (fun m S u1 u2 e h => by obtain ⟨i, r, hm, p0, hS, hE, f0⟩ := h; exact ⟨i, r, hm, p0, hS, hE.trans e, f0.ext e⟩) _ yk ⟨0, aI, rfl, by omega, rfl, (Ext.refl _), (RatN.more (K := 2) aY xq)⟩ ?_))))))))
 rintro aA _ aD ⟨i, r, aO, hi, rfl, ah, hM⟩
 have hiK : i * K ≤ (Nt.trimQ l).length * K := Nat.mul_le_mul_right _ hi
 refine sq9 (zza 16 (zB (decide ((i : Int) < (((Nt.trimQ l).length : Nat) : Int)))) (zzb (zzd (zzu (b := decide ((i : Int) < (((Nt.trimQ l).length : Nat) : Int))) xj (fun aa => ?_) (fun aa => ?_)))))
 ·have qhb22 := of_decide_eq_true aa
  refine zzs (zzp ?_)
  refine zzd (zzt (sq9 ?_))
  have hl23 := ((cut_V (hx.ext (ag.t ak.ext))).ext (aj.t (ai.t ah))).len
  change (Nt.trimQ l).length = _ at hl23
  obtain ⟨ay, b23, aL, ap, aq, ax⟩ := pol_at ((cut_V (hx.ext (ag.t ak.ext))).ext (aj.t (ai.t ah))) (i := i) xq
  refine zya 17 (aL + i * 3) (n := (Nt.trimQ l).length) (off := aL) (sz := 3) (i := (i : Int)) xq ap xq xq sl27 (zym 18 ay.cs aq ty32 (zzk 6 ⟨32, zw3⟩ (zzj ⟨32, ay.cs⟩ ty32 ?_)))
  refine zzb (zzf (zzi 19 (.v (r.v)) ty32 zze (zzi 20 (.v (ay.v)) ty32 zze (zzg 21 212 _ fun _ _ au aV => Post.mono (k_common aV (hM.ext au) (ax.ext au) xq xq) ?_))))
  rintro _ u27 aW ⟨aB, rfl, aR⟩
  refine zzj ⟨32, aB.cs⟩ ty32 ?_
  refine zzx ?_
  refine zzp (zzf (zyq 22 (x := zI (IntKind.i64.wrap ((i : Int) + 1))) (zI (i + 1 : Nat)) (eqI xz) (zza 15 (zI (i + 1 : Nat)) (zzx ?_))))
  refine ⟨_, ?_, _, by exact zzv _ _ _, i + 1, aB, rfl, by omega, rfl, (ah.t (au.t aW.ext)), (RatN.more (K := ((i * K + 2) + K)) (by rw [Nt.msr_take xq]; exact aR) (by rw [Nat.add_mul]; omega))⟩
  omega
 have qhb22 := of_decide_eq_false aa
 refine zyc (zzp (zzd ?_))
 have aK : i = (Nt.trimQ l).length := by omega
 have hms : RatN aD r (Nt.msr (Nt.trimQ l)) ((Nt.trimQ l).length * K + 2) := by have h9 := hM; rw [aK, List.take_length] at h9; exact h9
 clear aK
 refine zzf (zza 23 (.v (.slice x.a (Nt.trimQ l).length x.c)) (zza 24 (zI (((Nt.trimQ l).length : Nat) : Int)) (sy_make 25 (T := 27) (E := 32) (z := .agg #[.bool false, .slice none 0 0, .slice none 0 0]) (size := 3) (bytes := 56) ((Nt.trimQ l).length) (rcs (List.replicate ((Nt.trimQ l).length) rl0)) xj xj rfl rfl xq yv (made_rcs _) ?_)))
 refine zza 7 (.slc 25 0 ((Nt.trimQ l).length) ((Nt.trimQ l).length)) (zzc 45 [(0, .v (.slice x.a (Nt.trimQ l).length x.c)), (2, .adr 2 0), (4, .adr 4 0), (7, .slc 25 0 ((Nt.trimQ l).length) ((Nt.trimQ l).length))] [(2, ⟨32, zw3⟩), (4, ⟨32, r.cs⟩), (25, ⟨32, rcs (List.replicate ((Nt.trimQ l).length) rl0)⟩)] (zzd (sq9 (zza 26 (.v (.slice x.a (Nt.trimQ l).length x.c)) (zza 27 (zI (((Nt.trimQ l).length : Nat) : Int)) (zza 28 (zI 0) (zzb (zzt (zyn (I := fun aF S' u' => ∃ (i2 : Nat) (L2 : List RL), (aF = ((Nt.trimQ l).length) - i2) ∧ (i2 ≤ (Nt.trimQ l).length) ∧ (L2.length = (Nt.trimQ l).length) ∧ (S' = St.of 45 [(2, .adr 2 0), (4, .adr 4 0), (7, .slc 25 0 ((Nt.trimQ l).length) ((Nt.trimQ l).length)), (26, .v (.slice x.a (Nt.trimQ l).length x.c)), (27, zI (((Nt.trimQ l).length : Nat) : Int)), (28, zI i2)] [(2, ⟨32, zw3⟩), (4, ⟨32, r.cs⟩), (25, ⟨32, rcs L2⟩)]) ∧ (Ext aD u') ∧ (RatsN u' (L2.take i2) (((Nt.trimQ l).map (· / Nt.msr (Nt.trimQ l))).take i2) (K + ((Nt.trimQ l).length * K + 2)))) (fun m S u1 u2 e h => by obtain ⟨i2, L2, hm, p0, p1, hS, hE, f0⟩ := h; exact ⟨i2, L2, hm, p0, p1, hS, hE.trans e, f0.ext e⟩) _ yk ⟨0, List.replicate ((Nt.trimQ l).length) rl0, rfl, by omega, by simp, rfl, (Ext.refl _), RatsN.tnil _ _ _ _⟩ ?_)))))))))
 rintro aF _ u30 ⟨i2, L2, aN, hi2, aT, rfl, ae, aC⟩
 refine sq9 (zza 29 (zB (decide ((i2 : Int) < (((Nt.trimQ l).length : Nat) : Int)))) (zzb (zzd (zzu (b := decide ((i2 : Int) < (((Nt.trimQ l).length : Nat) : Int))) xj (fun ac => ?_) (fun ac => ?_)))))
 ·have qhb31 := of_decide_eq_true ac
  refine zzs (zzp ?_)
  refine zzd (zzt (sq9 (zza 30 (zI i2) ?_)))
  have hl32 := ((cut_V (hx.ext (ag.t ak.ext))).ext (aj.t (ai.t (ah.trans ae)))).len
  change (Nt.trimQ l).length = _ at hl32
  obtain ⟨ar, b32, aE, am, an, az⟩ := pol_at ((cut_V (hx.ext (ag.t ak.ext))).ext (aj.t (ai.t (ah.trans ae)))) (i := i2) xq
  refine zya 31 (aE + i2 * 3) (n := (Nt.trimQ l).length) (off := aE) (sz := 3) (i := (i2 : Int)) xq am xq xq sl27 (zym 32 ar.cs an ty32 (zzk 9 ⟨32, zw3⟩ (zza 8 (zI i2) (zzj ⟨32, ar.cs⟩ ty32 ?_))))
  refine zzb (zzf (zza 34 (.slc 25 0 ((Nt.trimQ l).length) ((Nt.trimQ l).length)) (zza 35 (zI i2) (zzi 36 (.v (ar.v)) ty32 zze (zzi 37 (.v (r.v)) ty32 zze (zzg 38 138 _ fun _ _ al aS => Post.mono (k_ratDiv1 aS (az.ext al) (hms.ext (ae.trans al)).raw (Nt.msr_ne (Nt.trim_nrm l) xq) xq xq) ?_))))))
  rintro _ u36 aH ⟨af, rfl, aQ⟩
  refine zza 33 (.v (.tuple #[af.v, .int .i64 0])) (zza 39 (.v (af.v)) (zza 40 (zI 0) (zyw 41 (off' := i2 * 3) (n := (Nt.trimQ l).length) (off := 0) (sz := 3) (i := (i2 : Int)) sl27 xq xq xq ?_)))
  refine zyv (V := ⟨32, rcs L2⟩) (off := i2 * 3) (rcs ((L2).set i2 af)) ty32 yy (zyx (r := af) (i := i2) zq rfl) ?_
  refine zzx ?_
  refine zzp (zzf (zyq 42 (x := zI (IntKind.i64.wrap ((i2 : Int) + 1))) (zI (i2 + 1 : Nat)) (eqI xz) (zza 28 (zI (i2 + 1 : Nat)) (zzx ?_))))
  have aw : i2 < ((Nt.trimQ l).map (· / Nt.msr (Nt.trimQ l))).length := by simp; omega
  refine ⟨_, ?_, _, by exact zzv _ _ _, i2 + 1, (L2).set i2 af, rfl, by omega, by simpa using aT, rfl, (ae.t (al.t aH.ext)), RatsN.tstep (aC.ext (al.t aH.ext)) xq aw (RatN.more (K := (K + ((Nt.trimQ l).length * K + 2))) aQ xq) (by simp [List.getElem?_eq_getElem (show i2 < (Nt.trimQ l).length by omega)])⟩
  omega
 have qhb31 := of_decide_eq_false ac
 refine zyc (zzp (zzd (zyp (r := 7) (t := 25) [7, 25] xw xj (by rfl) (by rfl) xj (fun ad aZ aJ aM av => ?_))))
 have ao : PolN aZ ⟨some ⟨ad, 0, none⟩, (Nt.trimQ l).length, (Nt.trimQ l).length⟩ ((Nt.trimQ l).map (· / Nt.msr (Nt.trimQ l))) (K + ((Nt.trimQ l).length * K + 2)) := pol_data1 av yv (RatsN.tdone (aC.ext aJ) xq yz) xq
 refine zzf (zzi 43 (.v (r.v)) ty32 zze (zza 44 (.v (.slice (some ⟨ad, 0, none⟩) ((Nt.trimQ l).length) ((Nt.trimQ l).length))) (zzj ⟨32, r.cs⟩ ty32 ?_)))
 refine zza 3 (.v (.slice (some ⟨ad, 0, none⟩) ((Nt.trimQ l).length) ((Nt.trimQ l).length))) (zzb (zzo (ret0 [r.v, .slice (some ⟨ad, 0, none⟩) ((Nt.trimQ l).length) ((Nt.trimQ l).length)] ⟨zzr ty32 zze, zzq, trivial⟩ fun u46 aG => ?_)))
 exact ⟨r, (⟨some ⟨ad, 0, none⟩, (Nt.trimQ l).length, (Nt.trimQ l).length⟩ : Sl), rfl, (hms.ext (ae.trans (aJ.trans aG))), (ao.ext aG)⟩
set_option maxHeartbeats 4000000 in
theorem k_poMul {u w : World} {x : Sl} {l : List Rat} {y : Sl} {m : List Rat} {K M : Nat} (d : Dat u w) (hx : PolV u x l K) (hy : PolV u y m M) (hB : Nt.mlK l.length m.length K M ≤ 30000000) (hK1 : (l.length + 1) * K ≤ 20000000) (hM1 : (m.length + 1) * M ≤ 20000000) (hx9 : l.length ≤ 100000000) (hy9 : m.length ≤ 100000000) : Calls Tryz.prog 130 #[x.v, y.v] w (Post u w fun v u' => ∃ y : Sl, v = y.v ∧ PolN u' y (Nt.trimQ (Nt.mulQ l m)) (Nt.mlK l.length m.length K M)) := by
 have hlen := hx.len
 have hlen2 := hy.len
 have htl := Nt.zzh l
 have htm := Nt.zzh m
 have hB2 := Nat.le_trans (Nt.mlK_mono htl htm (Nat.le_refl K) (Nat.le_refl M)) hB
 have hB3 : Nt.kk ((K + ((Nt.trimQ l).length * K + 2)) + (M + ((Nt.trimQ m).length * M + 2)) + 1) ((Nt.trimQ l).length * (Nt.trimQ m).length) + (((Nt.trimQ l).length * K + 2) + ((Nt.trimQ m).length * M + 2)) ≤ 30000000 := hB2
 have hK2 := hK1
 have hM2 := hM1
 rw [Nat.add_mul] at hK2 hM2
 have hKK : (Nt.trimQ l).length * K ≤ l.length * K := Nat.mul_le_mul_right _ htl
 have hMM : (Nt.trimQ m).length * M ≤ m.length * M := Nat.mul_le_mul_right _ htm
 refine zzm (args := [x.v, y.v]) Tryz.func130 rfl Tryz.ntmps130 (rs := [.tmp 4]) Tryz.results130 (le_b rfl) (le_b rfl) d ?_
 refine sq9 (zza 4 (.v (.slice none 0 0)) (zzb (sq9 (zza 15 (.v (x.v)) (zzg 16 179 _ fun _ _ aR br => Post.mono (k_split br (hx.ext aR) xq xk) ?_)))))
 rintro _ u16 aY ⟨al, aa, rfl, a4, aI⟩
 have aq : aa.n = (Nt.trimQ l).length := by have h9 := aI.len; simpa using h9
 refine zza 14 (.v (.tuple #[al.v, aa.v])) (zza 17 (.v (al.v)) (zza 18 (.v (aa.v)) (zzk 5 ⟨32, zw3⟩ (zzj ⟨32, al.cs⟩ ty32 ?_))))
 refine zza 6 (.v (aa.v)) (zzb (sq9 (zza 20 (.v (y.v)) (zzg 21 179 _ fun _ _ aw ba => Post.mono (k_split ba (hy.ext (aR.t (aY.t aw))) xq xk) ?_))))
 rintro _ u24 aA ⟨ah, ac, rfl, bc, aO⟩
 have au : ac.n = (Nt.trimQ m).length := by have h9 := aO.len; simpa using h9
 refine zza 19 (.v (.tuple #[ah.v, ac.v])) (zza 22 (.v (ah.v)) (zza 23 (.v (ac.v)) (zzk 7 ⟨32, zw3⟩ (zzj ⟨32, ah.cs⟩ ty32 ?_))))
 refine zza 8 (.v (ac.v)) (zzb (zzd (sq9 (zza 24 (.v (aa.v)) (zza 25 (zI aa.n) (zza 26 (zB ((aa.n : Int) == 0)) ?_))))))
 rcases Bool.eq_false_or_eq_true ((aa.n : Int) == 0) with hs27 | hs27
 ·refine zyq 27 (x := zB ((aa.n : Int) == 0)) (zB true) (by rw [hs27]) ?_
  have ao : (aa.n : Int) = 0 := by simpa using hs27
  refine zzn 28 (uw 3 false true 27) (zzn 29 (uw 3 false true 27) (zzn 30 (uw 3 false true 27) (zza 31 (zB true) (zzb (zyr xj (sq9 (zza 4 (.v (.slice none 0 0)) (zzb (zzo (zzw (ret0 [.slice none 0 0] ⟨zzq, trivial⟩ fun u28 e29 => ?_)))))))))))
  have e9 : Nt.trimQ l = [] := List.eq_nil_of_length_eq_zero xq
  rw [Nt.mul_nil (.inl e9)]
  exact ⟨⟨none, 0, 0⟩, rfl, pol_nil _ _⟩
 refine zyq 27 (x := zB ((aa.n : Int) == 0)) (zB false) (by rw [hs27]) ?_
 have ao : ¬ ((aa.n : Int) = 0) := by simpa using hs27
 refine zza 28 (.v (ac.v)) ?_ (hw := w1 3 false 27)
 refine zza 29 (zI ac.n) ?_ (hw := w1 3 false 27)
 refine zza 30 (zB ((ac.n : Int) == 0)) ?_ (hw := w1 3 false 27)
 refine zza 31 (zB ((ac.n : Int) == 0)) (zzb (zzu (b := (ac.n : Int) == 0) xj (fun am => ?_) (fun am => ?_)))
 ·have ap : (ac.n : Int) = 0 := by simpa using am
  refine sq9 (zza 4 (.v (.slice none 0 0)) (zzb (zzo (zzw (ret0 [.slice none 0 0] ⟨zzq, trivial⟩ fun u31 e32 => ?_)))))
  have e9 : Nt.trimQ m = [] := List.eq_nil_of_length_eq_zero xq
  rw [Nt.mul_nil (.inr e9)]
  exact ⟨⟨none, 0, 0⟩, rfl, pol_nil _ _⟩
 have ap : ¬ ((ac.n : Int) = 0) := by simpa using am
 refine zzs (zzp ?_)
 refine sq9 (zza 32 (.v (aa.v)) (zza 33 (zI aa.n) (zza 34 (.v (ac.v)) (zza 35 (zI ac.n) (zyq 36 (x := zI (IntKind.i64.wrap ((aa.n : Int) + (ac.n : Int)))) (zI (aa.n + ac.n : Nat)) (eqI xz) (zyq 37 (x := zI (IntKind.i64.wrap (((aa.n + ac.n : Nat) : Int) - 1))) (zI (((aa.n + ac.n) - 1 : Nat) : Int)) (eqI xz) (zzg 38 180 _ fun _ _ ag bn => Post.mono (k_zeros (n := (aa.n + ac.n) - 1) bn xq) ?_)))))))
 rintro _ u40 an ⟨aW, bl, rfl, ae, av, a8, hR39⟩
 refine zza 9 (.v (.slice (some ⟨aW, 0, none⟩) ((aa.n + ac.n) - 1) ((aa.n + ac.n) - 1))) (zzc 75 [(5, .adr 5 0), (6, .v (aa.v)), (7, .adr 7 0), (8, .v (ac.v)), (9, .v (.slice (some ⟨aW, 0, none⟩) ((aa.n + ac.n) - 1) ((aa.n + ac.n) - 1)))] [(5, ⟨32, al.cs⟩), (7, ⟨32, ah.cs⟩)] (zzd (zzd (sw_adopt (r := 9) (k := 9) (by rfl) ((Ext.refl _).cells av) (Nat.le_trans ((aR.t (aY.t (aw.t (aA.t ag)))).size) ae) xj (fun bh ad => ?_)))))
 replace hR39 := (hR39.ext (Ext.refl _)).extB ((Ext.refl _).cells av) ad
 refine zzf (zza 39 (.v (aa.v)) (zza 40 (zI aa.n) (zza 41 (zI 0) (zzb (zzt (zyn (I := fun aT S' u' => ∃ (i : Nat) (L : List RL), (aT = (Nt.trimQ l).length - i) ∧ (i ≤ (Nt.trimQ l).length) ∧ (L.length = ((Nt.trimQ l).length + (Nt.trimQ m).length - 1)) ∧ (S' = St.of 75 [(5, .adr 5 0), (7, .adr 7 0), (8, .v (ac.v)), (9, .slc 9 0 ((aa.n + ac.n) - 1) ((aa.n + ac.n) - 1)), (39, .v (aa.v)), (40, zI aa.n), (41, zI i)] [(5, ⟨32, al.cs⟩), (7, ⟨32, ah.cs⟩), (9, ⟨32, rcs L⟩)]) ∧ (Ext bh u') ∧ (RatsN u' L (Nt.outQ ((Nt.trimQ l).map (· / Nt.msr (Nt.trimQ l))) ((Nt.trimQ m).map (· / Nt.msr (Nt.trimQ m))) ((Nt.trimQ l).length + (Nt.trimQ m).length - 1) i) (Nt.kk ((K + ((Nt.trimQ l).length * K + 2)) + (M + ((Nt.trimQ m).length * M + 2)) + 1) (i * (Nt.trimQ m).length)))) (fun m S u1 u2 e h => by obtain ⟨i, L, hm, p0, p1, hS, hE, f0⟩ := h; exact ⟨i, L, hm, p0, p1, hS, hE.trans e, f0.ext e⟩) _ yk ⟨0, bl, rfl, by omega, by omega, rfl, (Ext.refl _), (RatsN.more (K := 2) (by have h9 := hR39; rw [aq, au] at h9; exact h9) (by unfold Nt.kk; omega))⟩ ?_))))))
 rintro aT _ aX ⟨i, L, a5, hi, hL, rfl, ai, hR⟩
 refine sq9 (zza 42 (zB (decide ((i : Int) < (aa.n : Int)))) (zzb (zzd (zzu (b := decide ((i : Int) < (aa.n : Int))) xj (fun ak => ?_) (fun ak => ?_)))))
 ·have qhb46 := of_decide_eq_true ak
  refine zzs (zzp ?_)
  refine zzd (zzt (sq9 (zza 43 (zI i) ?_)))
  have hl47 := (aI.ext (aw.t (aA.t (ag.trans ((ExtB.old ad an.ext ae).trans ai))))).len
  obtain ⟨ay, b47, aV, aE, aD, aM⟩ := pol_atN (aI.ext (aw.t (aA.t (ag.trans ((ExtB.old ad an.ext ae).trans ai))))) (i := i) xq
  refine zya 44 (aV + i * 3) (n := aa.n) (off := aV) (sz := 3) (i := (i : Int)) xq aE xq xq sl27 (zym 45 ay.cs aD ty32 (zzk 11 ⟨32, zw3⟩ (zza 10 (zI i) (zzj ⟨32, ay.cs⟩ ty32 ?_))))
  refine zzb (sq9 (zza 46 (.v (ac.v)) (zza 47 (zI ac.n) (zza 48 (zI 0) (zzb (zzt (zyn (I := fun a2 S' u' => ∃ (j : Nat) (M9 : List RL), (a2 = (Nt.trimQ m).length - j) ∧ (j ≤ (Nt.trimQ m).length) ∧ (M9.length = ((Nt.trimQ l).length + (Nt.trimQ m).length - 1)) ∧ (S' = St.of 75 [(5, .adr 5 0), (7, .adr 7 0), (8, .v (ac.v)), (9, .slc 9 0 ((aa.n + ac.n) - 1) ((aa.n + ac.n) - 1)), (10, zI i), (11, .adr 11 0), (39, .v (aa.v)), (40, zI aa.n), (41, zI i), (46, .v (ac.v)), (47, zI ac.n), (48, zI j)] [(5, ⟨32, al.cs⟩), (7, ⟨32, ah.cs⟩), (9, ⟨32, rcs M9⟩), (11, ⟨32, ay.cs⟩)]) ∧ (Ext aX u') ∧ (RatsN u' M9 (Nt.inn (Nt.outQ ((Nt.trimQ l).map (· / Nt.msr (Nt.trimQ l))) ((Nt.trimQ m).map (· / Nt.msr (Nt.trimQ m))) ((Nt.trimQ l).length + (Nt.trimQ m).length - 1) i) i (((Nt.trimQ l).map (· / Nt.msr (Nt.trimQ l))).getD i 0) ((Nt.trimQ m).map (· / Nt.msr (Nt.trimQ m))) j) (Nt.kk ((K + ((Nt.trimQ l).length * K + 2)) + (M + ((Nt.trimQ m).length * M + 2)) + 1) (i * (Nt.trimQ m).length + j)))) (fun m S u1 u2 e h => by obtain ⟨j, M9, hm, p0, p1, hS, hE, f0⟩ := h; exact ⟨j, M9, hm, p0, p1, hS, hE.trans e, f0.ext e⟩) _ yk ⟨0, L, rfl, by omega, by omega, rfl, (Ext.refl _), hR⟩ ?_)))))))
  rintro a2 _ u48 ⟨j, M9, bq, hj, hM9, rfl, ax, hQ⟩
  have hmm := Nat.mul_le_mul_right (Nt.trimQ m).length (show i + 1 ≤ (Nt.trimQ l).length by omega)
  rw [Nat.add_mul] at hmm
  have hkk := Nt.kk_mono (W := ((K + ((Nt.trimQ l).length * K + 2)) + (M + ((Nt.trimQ m).length * M + 2)) + 1)) (t := i * (Nt.trimQ m).length + j) (t' := (Nt.trimQ l).length * (Nt.trimQ m).length) (Nat.le_refl _) xq
  have hk2 := Nt.kk_succ ((K + ((Nt.trimQ l).length * K + 2)) + (M + ((Nt.trimQ m).length * M + 2)) + 1) (i * (Nt.trimQ m).length + j)
  refine sq9 (zza 49 (zB (decide ((j : Int) < (ac.n : Int)))) (zzb (zzd (zzu (b := decide ((j : Int) < (ac.n : Int))) xj (fun aj => ?_) (fun aj => ?_)))))
  ·have qhb49 := of_decide_eq_true aj
   refine zzs (zzp ?_)
   refine zzd (zzt (sq9 (zza 50 (zI j) ?_)))
   have hl50 := (aO.ext (ag.trans ((ExtB.old ad an.ext ae).trans (ai.trans ax)))).len
   obtain ⟨aH, b50, aZ, aN, aF, aQ⟩ := pol_atN (aO.ext (ag.trans ((ExtB.old ad an.ext ae).trans (ai.trans ax)))) (i := j) xq
   refine zya 51 (aZ + j * 3) (n := ac.n) (off := aZ) (sz := 3) (i := (j : Int)) xq aN xq xq sl27 (zym 52 aH.cs aF ty32 (zzk 13 ⟨32, zw3⟩ (zza 12 (zI j) (zzj ⟨32, aH.cs⟩ ty32 ?_))))
   refine zzb (zzz [0, 0, 0, 6, 0, 0, 0, 96, 240, 496, 0, 0, 3072, 8176, 16383, 32767] [(0, []), (1, []), (2, []), (3, []), (4, []), (5, []), (6, []), (7, []), (8, []), (9, []), (10, []), (11, []), (12, []), (13, []), (14, []), (15, [])] xj xj (zza 53 (.slc 9 0 ((aa.n + ac.n) - 1) ((aa.n + ac.n) - 1)) (zza 54 (zI i) (zza 55 (zI j) (zyq 56 (x := zI (IntKind.i64.wrap ((i : Int) + (j : Int)))) (zI (i + j : Nat)) (eqI xz) (zza 57 (.slc 9 0 ((aa.n + ac.n) - 1) ((aa.n + ac.n) - 1)) (zza 58 (zI i) (zza 59 (zI j) (zyq 60 (x := zI (IntKind.i64.wrap ((i : Int) + (j : Int)))) (zI (i + j : Nat)) (eqI xz) (zyw 61 (off' := (i + j) * 3) (n := (aa.n + ac.n) - 1) (off := 0) (sz := 3) (i := ((i + j : Nat) : Int)) sl27 xq xq xq ?_))))))))))
   obtain ⟨a9, af⟩ : ∃ r : RL, (M9).getD (i + j) rl0 = r := ⟨_, rfl⟩
   refine zzi 62 (V := ⟨32, rcs M9⟩) (off := (i + j) * 3) (.v a9.v) ty32 (by have h9 := part_rcs (L := M9) (i := i + j) (off := (i + j) * 3) zq rfl; rw [af] at h9; exact h9) ?_
   have h52 := hQ.2 (i + j) zq
   rw [af] at h52
   refine zzi 63 (.v (ay.v)) ty32 zze (zzi 64 (.v (aH.v)) ty32 zze (zzg 65 113 _ fun _ _ ar be => Post.mono (k_ratMul be (aM.ext (ax.trans ar)).raw (aQ.ext ar).raw xq xq) ?_))
   rintro _ u56 aL ⟨r54, rfl, bo⟩
   refine zzg 66 112 _ fun _ _ az bi => Post.mono (k_ratAdd bi (h52.ext (ar.t (aL.t az))).raw (bo.ext az).raw xq xq) ?_
   rintro _ u62 a3 ⟨aC, rfl, bm⟩
   refine zyw 67 (off' := (i + j) * 3) (n := (aa.n + ac.n) - 1) (off := 0) (sz := 3) (i := ((i + j : Nat) : Int)) sl27 xq xq xq ?_
   refine zyv (V := ⟨32, rcs M9⟩) (off := (i + j) * 3) (rcs ((M9).set (i + j) aC)) ty32 yy (zyx (r := aC) (i := i + j) zq rfl) ?_
   refine zzx ?_
   refine zzp (zzf (zyq 68 (x := zI (IntKind.i64.wrap ((j : Int) + 1))) (zI (j + 1 : Nat)) (eqI xz) (zza 48 (zI (j + 1 : Nat)) (zzx ?_))))
   refine ⟨_, ?_, _, by exact zzv _ _ _, j + 1, (M9).set (i + j) aC, rfl, by omega, by simp; omega, rfl, (ax.t (ar.t (aL.t (az.t a3.ext)))), (RatsN.set (i := i + j) (RatsN.more (K := Nt.kk ((K + ((Nt.trimQ l).length * K + 2)) + (M + ((Nt.trimQ m).length * M + 2)) + 1) (i * (Nt.trimQ m).length + j)) (hQ.ext (ar.t (aL.t (az.t a3.ext)))) (by show _ ≤ Nt.kk _ (i * (Nt.trimQ m).length + j + 1); omega)) yz (RatN.more (K := ((Nt.kk ((K + ((Nt.trimQ l).length * K + 2)) + (M + ((Nt.trimQ m).length * M + 2)) + 1) (i * (Nt.trimQ m).length + j)) + ((K + ((Nt.trimQ l).length * K + 2)) + (M + ((Nt.trimQ m).length * M + 2))) + 1)) bm (by show _ ≤ Nt.kk _ (i * (Nt.trimQ m).length + j + 1); omega)))⟩
   omega
  have qhb49 := of_decide_eq_false aj
  refine zyc (zzp (zzf (zyq 69 (x := zI (IntKind.i64.wrap ((i : Int) + 1))) (zI (i + 1 : Nat)) (eqI xz) (zza 41 (zI (i + 1 : Nat)) (zzx ?_)))))
  have bf : j = (Nt.trimQ m).length := by omega
  refine ⟨_, ?_, _, by exact zzv _ _ _, i + 1, M9, rfl, by omega, by omega, rfl, (ai.trans ax), (by have h9 := hQ; rw [bf, ← Nat.succ_mul] at h9; have e9 : ((Nt.trimQ m).map (· / Nt.msr (Nt.trimQ m))).length = (Nt.trimQ m).length := zv; show RatsN _ _ (Nt.inn _ _ _ _ ((Nt.trimQ m).map (· / Nt.msr (Nt.trimQ m))).length) _; rw [e9]; exact h9)⟩
  omega
 have qhb46 := of_decide_eq_false ak
 refine zyc (zzp (zzd ?_))
 have a7 : i = (Nt.trimQ l).length := by omega
 have bk : RatsN aX L (Nt.outQ ((Nt.trimQ l).map (· / Nt.msr (Nt.trimQ l))) ((Nt.trimQ m).map (· / Nt.msr (Nt.trimQ m))) ((Nt.trimQ l).length + (Nt.trimQ m).length - 1) ((Nt.trimQ l).length)) (Nt.kk ((K + ((Nt.trimQ l).length * K + 2)) + (M + ((Nt.trimQ m).length * M + 2)) + 1) ((Nt.trimQ l).length * (Nt.trimQ m).length)) := by have h9 := hR; rw [a7] at h9; exact h9
 refine zyp (r := 9) (t := 9) [9] xw xj (by rfl) (by rfl) xj (fun aU bs aK bd aB => ?_)
 have aJ : PolN bs ⟨some ⟨aU, 0, none⟩, (aa.n + ac.n) - 1, (aa.n + ac.n) - 1⟩ (Nt.outQ ((Nt.trimQ l).map (· / Nt.msr (Nt.trimQ l))) ((Nt.trimQ m).map (· / Nt.msr (Nt.trimQ m))) ((Nt.trimQ l).length + (Nt.trimQ m).length - 1) ((Nt.trimQ l).length)) (Nt.kk ((K + ((Nt.trimQ l).length * K + 2)) + (M + ((Nt.trimQ m).length * M + 2)) + 1) ((Nt.trimQ l).length * (Nt.trimQ m).length)) := pol_data1 aB yv (bk.ext aK) xq
 refine zzf (zza 70 (.v (.slice (some ⟨aU, 0, none⟩) ((aa.n + ac.n) - 1) ((aa.n + ac.n) - 1))) (zzi 71 (.v (al.v)) ty32 zze (zzi 72 (.v (ah.v)) ty32 zze (zzg 73 113 _ fun _ _ aG bj => Post.mono (k_ratMul bj (a4.ext (aw.t (aA.t (ag.trans ((ExtB.old ad an.ext ae).trans (ai.trans (aK.trans aG))))))).raw (bc.ext (ag.trans ((ExtB.old ad an.ext ae).trans (ai.trans (aK.trans aG))))).raw xq xq) ?_))))
 rintro _ u74 a6 ⟨r72, rfl, bp⟩
 refine zzg 74 116 _ fun _ _ aS bg => Post.mono (k_poScale bg (aJ.ext (aG.t (a6.t aS))).raw (bp.ext aS).raw xq xk xq) ?_
 rintro _ u80 g81 ⟨aP, rfl, a1⟩
 have hly78 := a1.len
 refine zza 4 (.v (aP.v)) (zzb (zzo (ret0 [aP.v] ⟨zzq, trivial⟩ fun u83 bb => ?_)))
 have h8 := Nt.mul_parts (Nt.msr_ne (Nt.trim_nrm l) xq) (Nt.msr_ne (Nt.trim_nrm m) xq) (l := (Nt.trimQ l)) (m := (Nt.trimQ m)) xq xq
 refine ⟨aP, rfl, PolN.more (K := ((Nt.kk ((K + ((Nt.trimQ l).length * K + 2)) + (M + ((Nt.trimQ m).length * M + 2)) + 1) ((Nt.trimQ l).length * (Nt.trimQ m).length)) + (((Nt.trimQ l).length * K + 2) + ((Nt.trimQ m).length * M + 2)))) ?_ ?_⟩
 ·rw [← Nt.mul_trim, ← h8]
  exact (a1.ext bb)
 exact Nat.le_trans (Nat.add_le_add_left (Nat.le_refl _) _) (Nt.mlK_mono (n := (Nt.trimQ l).length) (m := (Nt.trimQ m).length) htl htm (Nat.le_refl K) (Nat.le_refl M))
set_option maxHeartbeats 2000000 in
theorem k_r5Trim {u w : World} {x : Sl} {l : List Rat} {K : Nat} (d : Dat u w) (hx : PolV u x l K) (hK : K ≤ 50000000) (hx9 : l.length ≤ 1000000000) : Calls Tryz.prog 83 #[x.v] w (Post u w fun v u' => ∃ y : Sl, v = y.v ∧ PolN u' y (Nt.trimQ l) K) := by
 have hlen := hx.len
 have htl := Nt.zzh l
 refine zzm (args := [x.v]) Tryz.func83 rfl Tryz.ntmps83 (rs := [.tmp 2]) Tryz.results83 (le_b rfl) (le_b rfl) d ?_
 refine sq9 (zza 2 (.v (.slice none 0 0)) (zzb (sq9 (zza 7 (.v (x.v)) (zza 8 (zI x.n) (zza 3 (zI x.n) (zzb (zzd (zzt (zyn (I := fun bS S' u' => ∃ (n : Nat), (bS = n) ∧ (n ≤ l.length) ∧ (∀ i, n ≤ i → Nt.co l i = 0) ∧ (S' = St.of 37 [(0, .v (x.v)), (3, zI n)] []) ∧ (Ext u u')) (fun m S u1 u2 e h => by obtain ⟨n, hm, p0, p1, hS, hE⟩ := h; exact ⟨n, hm, p0, p1, hS, hE.trans e⟩) _ yk ⟨x.n, rfl, by omega, fun i hi => Nt.co_ge xq, rfl, (Ext.refl _)⟩ ?_))))))))))
 rintro bS _ bK ⟨n, cn, hn, hz, rfl, aa⟩
 refine zzd (sq9 (zza 9 (zI n) (zza 10 (zB (decide ((0 : Int) < (n : Int)))) ?_)))
 rcases Bool.eq_false_or_eq_true (decide ((0 : Int) < (n : Int))) with hs12 | hs12
 ·refine zyq 11 (x := zB (decide ((0 : Int) < (n : Int)))) (zB true) (by rw [hs12]) ?_
  have qhs12 := of_decide_eq_true hs12
  refine zza 12 (.v (x.v)) ?_ (hw := w1 2 true 11)
  refine zza 13 (zI n) ?_ (hw := w1 2 true 11)
  refine zyq 14 (x := zI (IntKind.i64.wrap ((n : Int) - 1))) (zI (n - 1 : Nat)) (eqI xz) ?_ (hw := w1 2 true 11)
  have hl13 := (hx.ext aa).len
  obtain ⟨cd, b13, bV, aN, bm, aA⟩ := pol_at (hx.ext aa) (i := n - 1) xq
  refine zya 15 (bV + (n - 1) * 3) (n := x.n) (off := bV) (sz := 3) (i := ((n - 1 : Nat) : Int)) xq aN xq xq sl27 ?_ (hw := w1 2 true 11)
  refine zym 16 cd.cs bm ty32 ?_ (hw := w1 2 true 11)
  refine zzg 17 32 _ (fun _ _ ac cz => Post.mono (k_rqSign cz (aA.ext ac) xq) ?_) (hw := w1 2 true 11)
  rintro _ bx af rfl
  refine zza 18 (zB ((Nt.sgQ (l.getD (n - 1) 0)) == 0)) ?_ (hw := w1 2 true 11)
  refine zza 19 (zB ((Nt.sgQ (l.getD (n - 1) 0)) == 0)) (zzb (zzu (b := (Nt.sgQ (l.getD (n - 1) 0)) == 0) xj (fun ah => ?_) (fun ah => ?_)))
  ·refine zzs (zzp ?_)
   refine zzt (zzf (zza 20 (zI n) (zyq 21 (x := zI (IntKind.i64.wrap ((n : Int) - 1))) (zI (n - 1 : Nat)) (eqI xz) (zza 3 (zI (n - 1 : Nat)) (zzx ?_)))))
   refine ⟨_, ?_, _, by exact zzv _ _ _, n - 1, rfl, by omega, (fun i hi => by by_cases e : i = n - 1; (rw [e]; have h9 := ah; rw [Nt.sgQ_eq] at h9; exact of_decide_eq_true h9); exact hz i xq), rfl, (aa.t (ac.t af.ext))⟩
   omega
  refine zyc (zzp (zzd ?_))
  have he9 := Nt.trim_len_of (l := l) hn hz (fun _ h => by have h9 := ah; rw [Nt.sgQ_eq] at h9; exact of_decide_eq_false h9 h)
  clear hz
  refine zzf (zza 4 (.v (.slice none 0 0)) (zzb (zzd (sq9 (zza 22 (.v (x.v)) (zza 23 (zI n) ?_))))))
  have hl19 := (hx.ext (aa.t (ac.t af.ext))).len
  have hc19 := (hx.ext (aa.t (ac.t af.ext))).cap
  refine sy_front 24 (n := x.n) (c := x.c) n sl27 rfl xq ?_
  refine zza 25 (zI n) (zza 26 (zI 0) (zzb (zzt (zyn (I := fun aK S' u' => (aK = n ∧ S' = St.of 37 [(4, .v (.slice none 0 0)), (24, .v (.slice x.a n x.c)), (25, zI n), (26, zI 0)] [] ∧ Ext bx u') ∨ (∃ (i : Nat) (L : List RL) (cs : List Value) (cp : Nat), aK = n - i ∧ i ≤ n ∧ 0 < i ∧ L.length = i ∧ cs.length = cp * 3 ∧ i ≤ cp ∧ cp ≤ maxLen ∧ cs.take (i * 3) = rcs L ∧ S' = St.of 37 [(4, .slc 34 0 i cp), (24, .v (.slice x.a n x.c)), (25, zI n), (26, zI i)] [(34, ⟨32, cs⟩)] ∧ Ext bx u' ∧ RatsN u' L ((Nt.trimQ l).take i) K)) (fun m S u1 u2 e h => by rcases h with ⟨a, b, c⟩ | ⟨a1, a2, a3, a4, b1, b2, b3, b4, b5, b6, b7, b8, b9, b10, b11⟩; exact .inl ⟨a, b, c.trans e⟩; exact .inr ⟨a1, a2, a3, a4, b1, b2, b3, b4, b5, b6, b7, b8, b9, b10.trans e, b11.ext e⟩) _ yk (.inl ⟨rfl, rfl, Ext.refl _⟩) ?_))))
  rintro aK _ cv (⟨a9, rfl, ag⟩ | ⟨i, L, cs, cp, a9, hi, hp, hL, hc, hle, hmx, ht, rfl, ag, hR⟩)
  ·change SW _ _ _ _ (St.of 37 [(4, .v (.slice none 0 0)), (24, .v (.slice x.a n x.c)), (25, .v (.int .i64 (n : Int))), (26, .v (.int .i64 0))] []) _ _
   refine sq9 (zza 27 (zB (decide ((0 : Int) < (n : Int)))) (zzb (zzd (zzu (b := decide ((0 : Int) < (n : Int))) xj (fun ae => ?_) (fun ae => ?_)))))
   ·have qhb21 := of_decide_eq_true ae
    refine zzs (zzp ?_)
    refine zzd (zzt (sq9 ?_))
    have hl22 := ((pol_take (hx.ext (aa.t (ac.t af.ext))) xq).ext ag).len
    change n = _ at hl22
    obtain ⟨aF, b22, bI, bt, be, aD⟩ := pol_at ((pol_take (hx.ext (aa.t (ac.t af.ext))) xq).ext ag) (i := 0) xq
    refine zya 28 (bI + 0 * 3) (n := n) (off := bI) (sz := 3) (i := 0) xq bt xq xq sl27 (zym 29 aF.cs be ty32 (zzk 6 ⟨32, zw3⟩ (zzj ⟨32, aF.cs⟩ ty32 ?_)))
    refine zzb (zzf (zza 30 (.v (.slice none 0 0)) (zzi 31 (.v (aF.v)) ty32 zze (zzg 32 80 _ fun _ _ bY cu => Post.mono (k_rqTrim cu (aD.ext bY) xq) ?_))))
    rintro _ u26 cm ⟨ap, rfl, bC⟩
    refine zxx 33 ⟨32, ap.cs⟩ 1 (fun bF ck aP bQ => ?_)
    have cD : PolN ck (⟨some ⟨bF, 0, none⟩, 1, 1⟩ : Sl) [((l.take n).getD 0 0)] K := pol_lit (L := [ap]) bQ (rats1 (bC.ext aP)) rfl yq
    refine sy_app0 34 (T := 27) (E := 32) (z := .agg #[.bool false, .slice none 0 0, .slice none 0 0]) (size := 3) (bytes := 56) (b := bF) (off := 0) (m := 1) ap.cs xj xj xj yq rfl (lit_news ((Ext.refl _).cells bQ)) (rl_one ap) yq yq yq ?_
    intro bD bo cy bk bb bg
    refine zza 4 (.slc 34 0 1 bD) (zzx ?_)
    refine zzp (zzf (zza 35 (zI 1) (zza 26 (zI 1) (zzx ?_))))
    have aW : 0 < (Nt.trimQ l).length := by skip; omega
    refine ⟨_, ?_, _, by exact zzv _ _ _, .inr ⟨1, [ap], bo, bD, rfl, by omega, by omega, by simp, bb, by omega, bk, bg, rfl, (ag.t (bY.t (cm.t aP))), (app_first (RatN.more (K := K) (bC.ext aP) xq) aW (by rw [List.getD_eq_getElem?_getD, List.getElem?_take_of_lt xq, ← List.getD_eq_getElem?_getD]; exact (Nt.trim_co l 0).symm))⟩⟩
    omega
   have qhb21 := of_decide_eq_false ae
   refine zyc (zzp (zzd ?_))
   have aS : PolN cv ⟨none, 0, 0⟩ (Nt.trimQ l) K := by have h9 : Nt.trimQ l = [] := List.eq_nil_of_length_eq_zero (by skip; omega); rw [h9]; exact pol_nil _ _
   refine zzf (zza 36 (.v (.slice none 0 0)) (zza 2 (.v (.slice none 0 0)) (zzb (zzo (ret0 [.slice none 0 0] ⟨zzq, trivial⟩ fun u37 cA => ?_)))))
   refine ⟨⟨none, 0, 0⟩, rfl, ?_⟩
   exact (aS.ext cA)
  change SW _ _ _ _ (St.of 37 [(4, .slc 34 0 i cp), (24, .v (.slice x.a n x.c)), (25, .v (.int .i64 (n : Int))), (26, .v (.int .i64 (i : Int)))] [(34, ⟨32, cs⟩)]) _ _
  refine sq9 (zza 27 (zB (decide ((i : Int) < (n : Int)))) (zzb (zzd (zzu (b := decide ((i : Int) < (n : Int))) xj (fun ak => ?_) (fun ak => ?_)))))
  ·have qhb39 := of_decide_eq_true ak
   refine zzs (zzp ?_)
   refine zzd (zzt (sq9 ?_))
   have hl40 := ((pol_take (hx.ext (aa.t (ac.t af.ext))) xq).ext ag).len
   change n = _ at hl40
   obtain ⟨aM, b40, bW, a7, aQ, ba⟩ := pol_at ((pol_take (hx.ext (aa.t (ac.t af.ext))) xq).ext ag) (i := i) xq
   refine zya 28 (bW + i * 3) (n := n) (off := bW) (sz := 3) (i := (i : Int)) xq a7 xq xq sl27 (zym 29 aM.cs aQ ty32 (zzk 6 ⟨32, zw3⟩ (zzj ⟨32, aM.cs⟩ ty32 ?_)))
   refine zzb (zzf (zza 30 (.slc 34 0 i cp) (zzi 31 (.v (aM.v)) ty32 zze (zzg 32 80 _ fun _ _ bp cb => Post.mono (k_rqTrim cb (ba.ext bp) xq) ?_))))
   rintro _ u44 bN ⟨al, rfl, bJ⟩
   refine zxx 33 ⟨32, al.cs⟩ 1 (fun bU b0 az bz => ?_)
   have ce : PolN b0 (⟨some ⟨bU, 0, none⟩, 1, 1⟩ : Sl) [((l.take n).getD i 0)] K := pol_lit (L := [al]) bz (rats1 (bJ.ext az)) rfl yq
   refine sy_app1 34 (T := 27) (E := 32) (z := .agg #[.bool false, .slice none 0 0, .slice none 0 0]) (size := 3) (bytes := 56) (b := bU) (off := 0) (m := 1) (n := i) (cap := cp) (t := 34) (cs0 := cs) [4, 30, 34] al.cs xj xj xj yq rfl (lit_news ((Ext.refl _).cells bz)) (rl_one al) yq yv xq xq xq xq xw ?_
   intro bP ao ca bu aR aV
   have av : ao.take ((i + 1) * 3) = rcs (L ++ [al]) := by rw [aV, ht, rcs_app]; rfl
   refine zza 4 (.slc 34 0 (i + 1) bP) (zzx ?_)
   refine zzp (zzf (zyq 35 (x := zI (IntKind.i64.wrap ((i : Int) + 1))) (zI (i + 1 : Nat)) (eqI xz) (zza 26 (zI (i + 1 : Nat)) (zzx ?_))))
   have bj : i < (Nt.trimQ l).length := by skip; omega
   refine ⟨_, ?_, _, by exact zzv _ _ _, .inr ⟨i + 1, L ++ [al], ao, bP, rfl, by omega, by omega, by simp; omega, aR, by omega, bu, av, rfl, (ag.t (bp.t (bN.t az))), (app_next (hR.ext (bp.t (bN.t az))) (RatN.more (K := K) (bJ.ext az) xq) bj (by rw [List.getD_eq_getElem?_getD, List.getElem?_take_of_lt xq, ← List.getD_eq_getElem?_getD]; exact (Nt.trim_co l i).symm))⟩⟩
   omega
  have qhb39 := of_decide_eq_false ak
  refine zyc (zzp (zzd (zyp (r := 4) (t := 34) [4, 34] xw xj (by rfl) (by rfl) xj (fun au cB cj ch aE => ?_))))
  have aC : PolN cB ⟨some ⟨au, 0, none⟩, i, cp⟩ (Nt.trimQ l) K := by have h8 := pol_data aE ht hc hle hmx (hR.ext cj); rw [List.take_of_length_le (l := Nt.trimQ l) (by skip; omega)] at h8; exact h8
  refine zzf (zza 36 (.v (.slice (some ⟨au, 0, none⟩) i cp)) (zza 2 (.v (.slice (some ⟨au, 0, none⟩) i cp)) (zzb (zzo (ret0 [.slice (some ⟨au, 0, none⟩) i cp] ⟨zzq, trivial⟩ fun u60 cF => ?_)))))
  refine ⟨(⟨some ⟨au, 0, none⟩, i, cp⟩ : Sl), rfl, ?_⟩
  exact (aC.ext cF)
 refine zyq 11 (x := zB (decide ((0 : Int) < (n : Int)))) (zB false) (by rw [hs12]) ?_
 have qhs12 := of_decide_eq_false hs12
 refine zzn 12 (uw 2 true false 11) (zzn 13 (uw 2 true false 11) (zzn 14 (uw 2 true false 11) (zzn 15 (uw 2 true false 11) (zzn 16 (uw 2 true false 11) (zzn 17 (uw 2 true false 11) (zzn 18 (uw 2 true false 11) (zza 19 (zB false) (zzb (zys xj (zyc (zzp ?_)))))))))))
 refine zzd ?_
 have he9 := Nt.trim_len_of (l := l) hn hz (fun h => absurd h xq)
 clear hz
 refine zzf (zza 4 (.v (.slice none 0 0)) (zzb (zzd (sq9 (zza 22 (.v (x.v)) (zza 23 (zI n) ?_))))))
 have hl62 := (hx.ext aa).len
 have hc62 := (hx.ext aa).cap
 refine sy_front 24 (n := x.n) (c := x.c) n sl27 rfl xq ?_
 refine zza 25 (zI n) (zza 26 (zI 0) (zzb (zzt (zyn (I := fun aI S' u' => (aI = n ∧ S' = St.of 37 [(4, .v (.slice none 0 0)), (24, .v (.slice x.a n x.c)), (25, zI n), (26, zI 0)] [] ∧ Ext bK u') ∨ (∃ (i : Nat) (L : List RL) (cs : List Value) (cp : Nat), aI = n - i ∧ i ≤ n ∧ 0 < i ∧ L.length = i ∧ cs.length = cp * 3 ∧ i ≤ cp ∧ cp ≤ maxLen ∧ cs.take (i * 3) = rcs L ∧ S' = St.of 37 [(4, .slc 34 0 i cp), (24, .v (.slice x.a n x.c)), (25, zI n), (26, zI i)] [(34, ⟨32, cs⟩)] ∧ Ext bK u' ∧ RatsN u' L ((Nt.trimQ l).take i) K)) (fun m S u1 u2 e h => by rcases h with ⟨a, b, c⟩ | ⟨a1, a2, a3, a4, b1, b2, b3, b4, b5, b6, b7, b8, b9, b10, b11⟩; exact .inl ⟨a, b, c.trans e⟩; exact .inr ⟨a1, a2, a3, a4, b1, b2, b3, b4, b5, b6, b7, b8, b9, b10.trans e, b11.ext e⟩) _ yk (.inl ⟨rfl, rfl, Ext.refl _⟩) ?_))))
 rintro aI _ cr (⟨a8, rfl, ad⟩ | ⟨i, L, cs, cp, a8, hi, hp, hL, hc, hle, hmx, ht, rfl, ad, hR⟩)
 ·change SW _ _ _ _ (St.of 37 [(4, .v (.slice none 0 0)), (24, .v (.slice x.a n x.c)), (25, .v (.int .i64 (n : Int))), (26, .v (.int .i64 0))] []) _ _
  refine sq9 (zza 27 (zB (decide ((0 : Int) < (n : Int)))) (zzb (zzd (zzu (b := decide ((0 : Int) < (n : Int))) xj (fun aj => ?_) (fun aj => ?_)))))
  ·have qhb64 := of_decide_eq_true aj
   refine zzs (zzp ?_)
   refine zzd (zzt (sq9 ?_))
   have hl65 := ((pol_take (hx.ext aa) xq).ext ad).len
   change n = _ at hl65
   obtain ⟨bs, b65, bT, aZ, a6, bf⟩ := pol_at ((pol_take (hx.ext aa) xq).ext ad) (i := 0) xq
   refine zya 28 (bT + 0 * 3) (n := n) (off := bT) (sz := 3) (i := 0) xq aZ xq xq sl27 (zym 29 bs.cs a6 ty32 (zzk 6 ⟨32, zw3⟩ (zzj ⟨32, bs.cs⟩ ty32 ?_)))
   refine zzb (zzf (zza 30 (.v (.slice none 0 0)) (zzi 31 (.v (bs.v)) ty32 zze (zzg 32 80 _ fun _ _ bA cf => Post.mono (k_rqTrim cf (bf.ext bA) xq) ?_))))
   rintro _ u69 cE ⟨an, rfl, bR⟩
   refine zxx 33 ⟨32, an.cs⟩ 1 (fun bH cG aB bw => ?_)
   have ci : PolN cG (⟨some ⟨bH, 0, none⟩, 1, 1⟩ : Sl) [((l.take n).getD 0 0)] K := pol_lit (L := [an]) bw (rats1 (bR.ext aB)) rfl yq
   refine sy_app0 34 (T := 27) (E := 32) (z := .agg #[.bool false, .slice none 0 0, .slice none 0 0]) (size := 3) (bytes := 56) (b := bH) (off := 0) (m := 1) an.cs xj xj xj yq rfl (lit_news ((Ext.refl _).cells bw)) (rl_one an) yq yq yq ?_
   intro bG bc cw aO aX aJ
   refine zza 4 (.slc 34 0 1 bG) (zzx ?_)
   refine zzp (zzf (zza 35 (zI 1) (zza 26 (zI 1) (zzx ?_))))
   have bn : 0 < (Nt.trimQ l).length := by skip; omega
   refine ⟨_, ?_, _, by exact zzv _ _ _, .inr ⟨1, [an], bc, bG, rfl, by omega, by omega, by simp, aX, by omega, aO, aJ, rfl, (ad.t (bA.t (cE.t aB))), (app_first (RatN.more (K := K) (bR.ext aB) xq) bn (by rw [List.getD_eq_getElem?_getD, List.getElem?_take_of_lt xq, ← List.getD_eq_getElem?_getD]; exact (Nt.trim_co l 0).symm))⟩⟩
   omega
  have qhb64 := of_decide_eq_false aj
  refine zyc (zzp (zzd ?_))
  have bl : PolN cr ⟨none, 0, 0⟩ (Nt.trimQ l) K := by have h9 : Nt.trimQ l = [] := List.eq_nil_of_length_eq_zero (by skip; omega); rw [h9]; exact pol_nil _ _
  refine zzf (zza 36 (.v (.slice none 0 0)) (zza 2 (.v (.slice none 0 0)) (zzb (zzo (ret0 [.slice none 0 0] ⟨zzq, trivial⟩ fun u80 cc => ?_)))))
  refine ⟨⟨none, 0, 0⟩, rfl, ?_⟩
  exact (bl.ext cc)
 change SW _ _ _ _ (St.of 37 [(4, .slc 34 0 i cp), (24, .v (.slice x.a n x.c)), (25, .v (.int .i64 (n : Int))), (26, .v (.int .i64 (i : Int)))] [(34, ⟨32, cs⟩)]) _ _
 refine sq9 (zza 27 (zB (decide ((i : Int) < (n : Int)))) (zzb (zzd (zzu (b := decide ((i : Int) < (n : Int))) xj (fun ai => ?_) (fun ai => ?_)))))
 ·have qhb82 := of_decide_eq_true ai
  refine zzs (zzp ?_)
  refine zzd (zzt (sq9 ?_))
  have hl83 := ((pol_take (hx.ext aa) xq).ext ad).len
  change n = _ at hl83
  obtain ⟨aY, b83, bL, bi, aU, bd⟩ := pol_at ((pol_take (hx.ext aa) xq).ext ad) (i := i) xq
  refine zya 28 (bL + i * 3) (n := n) (off := bL) (sz := 3) (i := (i : Int)) xq bi xq xq sl27 (zym 29 aY.cs aU ty32 (zzk 6 ⟨32, zw3⟩ (zzj ⟨32, aY.cs⟩ ty32 ?_)))
  refine zzb (zzf (zza 30 (.slc 34 0 i cp) (zzi 31 (.v (aY.v)) ty32 zze (zzg 32 80 _ fun _ _ aL cq => Post.mono (k_rqTrim cq (bd.ext aL) xq) ?_))))
  rintro _ u87 bX ⟨am, rfl, bO⟩
  refine zxx 33 ⟨32, am.cs⟩ 1 (fun bv cl ay bB => ?_)
  have cx : PolN cl (⟨some ⟨bv, 0, none⟩, 1, 1⟩ : Sl) [((l.take n).getD i 0)] K := pol_lit (L := [am]) bB (rats1 (bO.ext ay)) rfl yq
  refine sy_app1 34 (T := 27) (E := 32) (z := .agg #[.bool false, .slice none 0 0, .slice none 0 0]) (size := 3) (bytes := 56) (b := bv) (off := 0) (m := 1) (n := i) (cap := cp) (t := 34) (cs0 := cs) [4, 30, 34] am.cs xj xj xj yq rfl (lit_news ((Ext.refl _).cells bB)) (rl_one am) yq yv xq xq xq xq xw ?_
  intro bE ax cC a5 aT aG
  have aq : ax.take ((i + 1) * 3) = rcs (L ++ [am]) := by rw [aG, ht, rcs_app]; rfl
  refine zza 4 (.slc 34 0 (i + 1) bE) (zzx ?_)
  refine zzp (zzf (zyq 35 (x := zI (IntKind.i64.wrap ((i : Int) + 1))) (zI (i + 1 : Nat)) (eqI xz) (zza 26 (zI (i + 1 : Nat)) (zzx ?_))))
  have aH : i < (Nt.trimQ l).length := by skip; omega
  refine ⟨_, ?_, _, by exact zzv _ _ _, .inr ⟨i + 1, L ++ [am], ax, bE, rfl, by omega, by omega, by simp; omega, aT, by omega, a5, aq, rfl, (ad.t (aL.t (bX.t ay))), (app_next (hR.ext (aL.t (bX.t ay))) (RatN.more (K := K) (bO.ext ay) xq) aH (by rw [List.getD_eq_getElem?_getD, List.getElem?_take_of_lt xq, ← List.getD_eq_getElem?_getD]; exact (Nt.trim_co l i).symm))⟩⟩
  omega
 have qhb82 := of_decide_eq_false ai
 refine zyc (zzp (zzd (zyp (r := 4) (t := 34) [4, 34] xw xj (by rfl) (by rfl) xj (fun ar cg bq bM aw => ?_))))
 have bh : PolN cg ⟨some ⟨ar, 0, none⟩, i, cp⟩ (Nt.trimQ l) K := by have h8 := pol_data aw ht hc hle hmx (hR.ext bq); rw [List.take_of_length_le (l := Nt.trimQ l) (by skip; omega)] at h8; exact h8
 refine zzf (zza 36 (.v (.slice (some ⟨ar, 0, none⟩) i cp)) (zza 2 (.v (.slice (some ⟨ar, 0, none⟩) i cp)) (zzb (zzo (ret0 [.slice (some ⟨ar, 0, none⟩) i cp] ⟨zzq, trivial⟩ fun ct br => ?_)))))
 refine ⟨(⟨some ⟨ar, 0, none⟩, i, cp⟩ : Sl), rfl, ?_⟩
 exact (bh.ext br)
theorem k_poDegree {u w : World} {x : Sl} {l : List Rat} {K : Nat} (d : Dat u w) (hx : PolV u x l K) (hK : K ≤ 100000000) (hx9 : l.length ≤ 1000000000) : Calls Tryz.prog 76 #[x.v] w (Post u w fun v u' => v = .int .i64 (((Nt.trimQ l).length : Int) - 1)) := by
 have hlen := hx.len
 have htl := Nt.zzh l
 refine zzm (args := [x.v]) Tryz.func76 rfl Tryz.ntmps76 (rs := [.tmp 2]) Tryz.results76 (le_b rfl) (le_b rfl) d ?_
 refine sq9 (zza 2 (zI 0) (zzb (sq9 (zza 3 (.v (x.v)) (zzg 4 151 _ fun _ _ ac aa => Post.mono (k_cut aa (hx.ext ac) xq xk) ?_)))))
 rintro _ u12 g13 rfl
 refine zza 5 (zI (((Nt.trimQ l).length : Nat) : Int)) (zyq 6 (x := zI (IntKind.i64.wrap (((Nt.trimQ l).length : Int) - 1))) (zI (((Nt.trimQ l).length : Int) - 1)) yw (zza 2 (zI (((Nt.trimQ l).length : Int) - 1)) (zzb (zzo (ret0 [.int .i64 (((Nt.trimQ l).length : Int) - 1)] ⟨zzq, trivial⟩ fun u15 e16 => ?_)))))
 rfl
set_option maxHeartbeats 1000000 in
theorem k_sameList {u w : World} {x : Sl} {l : List Rat} {y : Sl} {m : List Rat} {K M : Nat} (d : Dat u w) (hx : PolN u x l K) (hy : PolN u y m M) (hx9 : l.length ≤ 1000000000) (hy9 : m.length ≤ 1000000000) : Calls Tryz.prog 73 #[x.v, y.v] w (Post u w fun v u' => v = .bool (decide (l = m))) := by
 have hlen := hx.len
 have hlen2 := hy.len
 refine zzm (args := [x.v, y.v]) Tryz.func73 rfl Tryz.ntmps73 (rs := [.tmp 4]) Tryz.results73 (le_b rfl) (le_b rfl) d ?_
 refine sq9 (zza 4 (zB false) (zzb (zzd (sq9 (zza 6 (.v (x.v)) (zza 7 (zI x.n) (zza 8 (.v (y.v)) (zza 9 (zI y.n) (zza 10 (zB ((x.n : Int) != (y.n : Int))) (zzb (zzu (b := (x.n : Int) != (y.n : Int)) xj (fun aa => ?_) (fun aa => ?_))))))))))))
 ·refine sq9 (zza 4 (zB false) (zzb (zzo (zzw (ret0 [.bool false] ⟨zzq, trivial⟩ fun u12 e13 => ?_)))))
  have e9 : l ≠ m := by intro e; have h9 := congrArg List.length e; have h8 := aa; simp at h8; omega
  show Value.bool false = Value.bool _
  rw [decide_eq_false e9]
 have hnn : x.n = y.n := by have h9 : (x.n : Int) = (y.n : Int) := (by simpa using aa); omega
 refine zzs (zzp ?_)
 refine zzd (sq9 (zza 5 (zI 0) (zzb (zzt (zyn (I := fun ao S' u' => ∃ (i : Nat), (ao = x.n - i) ∧ (i ≤ x.n) ∧ (∀ j, j < i → l.getD j 0 = m.getD j 0) ∧ (S' = St.of 27 [(0, .v (x.v)), (1, .v (y.v)), (5, zI i)] []) ∧ (Ext u u')) (fun m S u1 u2 e h => by obtain ⟨i, hm, p0, p1, hS, hE⟩ := h; exact ⟨i, hm, p0, p1, hS, hE.trans e⟩) _ yk ⟨0, rfl, by omega, fun j hj => by omega, rfl, (Ext.refl _)⟩ ?_)))))
 rintro ao _ u14 ⟨i, ap, hi, hz, rfl, ae⟩
 refine zzd (sq9 (zza 11 (zI i) (zza 12 (.v (x.v)) (zza 13 (zI x.n) (zza 14 (zB (decide ((i : Int) < (x.n : Int)))) (zzb (zzu (b := decide ((i : Int) < (x.n : Int))) xj (fun ac => ?_) (fun ac => ?_))))))))
 ·have qhb15 := of_decide_eq_true ac
  refine zzs (zzp ?_)
  refine zzd (zzt (zzd (zzz [0, 0, 3, 7, 0, 0, 48, 112, 255, 511] [(0, []), (1, []), (2, []), (3, []), (4, []), (5, []), (6, []), (7, []), (8, []), (9, [])] xj xj (zza 17 (.v (x.v)) (zza 18 (zI i) ?_)))))
  have hl16 := (hx.ext ae).len
  obtain ⟨ar, b16, am, ai, ah, aj⟩ := pol_atN (hx.ext ae) (i := i) xq
  refine zya 19 (am + i * 3) (n := x.n) (off := am) (sz := 3) (i := (i : Int)) xq ai xq xq sl26 (zym 20 ar.cs ah ty32 (zza 21 (.v (y.v)) (zza 22 (zI i) ?_)))
  have hl17 := (hy.ext ae).len
  obtain ⟨av, b17, an, af, ag, ak⟩ := pol_atN (hy.ext ae) (i := i) xq
  refine zya 23 (an + i * 3) (n := y.n) (off := an) (sz := 3) (i := (i : Int)) xq af xq xq sl26 (zym 24 av.cs ag ty32 (zzg 25 16 _ fun _ _ al aq => Post.mono (k_rqSame aq (aj.ext al) (ak.ext al)) ?_))
  rintro _ u19 au rfl
  refine zza 26 (zB (!(decide ((l.getD i 0) = (m.getD i 0))))) (zzb (zzu (b := !(decide ((l.getD i 0) = (m.getD i 0)))) xj (fun ad => ?_) (fun ad => ?_)))
  ·refine sq9 (zza 4 (zB false) (zzb (zzo (zyu (zzw (zyt (zyu (zzw (ret0 [.bool false] ⟨zzq, trivial⟩ fun u23 e24 => ?_)))))))))
   have e9 : l ≠ m := by intro e; have h9 := ad; rw [e] at h9; simp at h9
   show Value.bool false = Value.bool _
   rw [decide_eq_false e9]
  refine zzs (zzp ?_)
  refine zzf (zza 15 (zI i) (zyq 16 (x := zI (IntKind.i64.wrap ((i : Int) + 1))) (zI (i + 1 : Nat)) (eqI xz) (zza 5 (zI (i + 1 : Nat)) (zzx ?_))))
  refine ⟨_, ?_, _, by exact zzv _ _ _, i + 1, rfl, by omega, (fun j hj => by by_cases e : j = i; (rw [e]; have h9 := ad; simpa using h9); exact hz j xq), rfl, (ae.t (al.t au.ext))⟩
  omega
 have qhb15 := of_decide_eq_false ac
 refine zyc (zzp (sq9 (zza 4 (zB true) (zzb (zzo (ret0 [.bool true] ⟨zzq, trivial⟩ fun u25 e26 => ?_))))))
 have e9 : l = m := Nt.list_ext xq (fun j => by by_cases hj : j < i; exact hz j hj; rw [Nt.co_ge xq, Nt.co_ge xq])
 show Value.bool true = Value.bool _
 rw [decide_eq_true e9]
theorem k_r5Equal {u w : World} {x : Sl} {l : List Rat} {y : Sl} {m : List Rat} {K M : Nat} (d : Dat u w) (hx : PolN u x l K) (hy : PolN u y m M) (hx9 : l.length ≤ 1000000000) (hy9 : m.length ≤ 1000000000) : Calls Tryz.prog 15 #[x.v, y.v] w (Post u w fun v u' => v = .bool (decide (l = m))) := by
 have hlen := hx.len
 have hlen2 := hy.len
 refine zzm (args := [x.v, y.v]) Tryz.func15 rfl Tryz.ntmps15 (rs := [.tmp 4]) Tryz.results15 (le_b rfl) (le_b rfl) d ?_
 refine sq9 (zza 4 (zB false) (zzb (sq9 (zza 5 (.v (x.v)) (zza 6 (.v (y.v)) (zzg 7 73 _ fun _ _ aa ac => Post.mono (k_sameList ac (hx.ext aa) (hy.ext aa) xk xk) ?_))))))
 rintro _ u12 g13 rfl
 refine zza 4 (zB (decide (l = m))) (zzb (zzo (ret0 [.bool (decide (l = m))] ⟨zzq, trivial⟩ fun u15 e16 => ?_)))
 rfl
namespace Nt
section
variable {l m : List Rat} {D E A B n : Nat}
theorem len_of_co {a : Nat} (h : ∀ i, a ≤ i → Nt.co l i = 0) : (trimQ l).length ≤ a := Pol.len_le (p := Pol.mk' l) fun i hi => by rw [Pol.mk_c]; exact h i hi
theorem zxt {a b : Nat} (h1 : l.length ≤ a) (h2 : m.length ≤ b) : (trimQ (mulQ l m)).length ≤ a + b - 1 := len_of_co fun i hi => mulQ_far xq
end
end Nt
namespace Nt
def mkR (n : Int) : Rat := (((n % 25 - 12 : Int)) : Rat) / (((1 + n.tdiv 25 % 8 : Int)) : Rat)
theorem frac_mul {a b c : Int} (hb : b ≠ 0) : (a : Rat) / (b : Rat) * ((b * c : Int) : Rat) = ((a * c : Int) : Rat) := by
 rw [Rat.intCast_mul, Rat.intCast_mul]
 have : (b : Rat) ≠ 0 := fun e => hb (Rat.intCast_inj.1 (show (b : Rat) = ((0 : Int) : Rat) from e))
 grind
theorem mkR_wh (n : Int) : Wh (mkR n * (((840 : Nat) : Int) : Rat)) 14 := by
 have h1 := Int.emod_nonneg n (show (25 : Int) ≠ 0 by decide)
 have h2 := Int.emod_lt_of_pos n (show (0 : Int) < 25 by decide)
 have h3 := Int.emod_nonneg (n.tdiv 25) (show (8 : Int) ≠ 0 by decide)
 have h4 := Int.emod_lt_of_pos (n.tdiv 25) (show (0 : Int) < 8 by decide)
 unfold mkR
 obtain ⟨a, ha⟩ : ∃ a, n % 25 - 12 = a := ⟨_, rfl⟩
 obtain ⟨b, hb⟩ : ∃ b, 1 + n.tdiv 25 % 8 = b := ⟨_, rfl⟩
 rw [ha, hb]
 obtain ⟨c, hc, hc1, hc2⟩ : ∃ c : Int, ((840 : Nat) : Int) = b * c ∧ 0 ≤ c ∧ c ≤ 840 := by
  rcases (by omega : b = 1 ∨ b = 2 ∨ b = 3 ∨ b = 4 ∨ b = 5 ∨ b = 6 ∨ b = 7 ∨ b = 8) with rfl | rfl | rfl | rfl | rfl | rfl | rfl | rfl
  ·exact ⟨840, by decide, by decide, by decide⟩
  ·exact ⟨420, by decide, by decide, by decide⟩
  ·exact ⟨280, by decide, by decide, by decide⟩
  ·exact ⟨210, by decide, by decide, by decide⟩
  ·exact ⟨168, by decide, by decide, by decide⟩
  ·exact ⟨140, by decide, by decide, by decide⟩
  ·exact ⟨120, by decide, by decide, by decide⟩
  exact ⟨105, by decide, by decide, by decide⟩
 refine ⟨a * c, ?_, ?_⟩
 ·rw [hc]; exact frac_mul xq
 rw [Int.natAbs_mul]
 exact Nat.le_trans (Nat.mul_le_mul (show a.natAbs ≤ 12 by omega) (show c.natAbs ≤ 840 by omega)) yq
theorem mkR_rs (n : Int) : rs (mkR n) ≤ 1 := wh_rs (A := 14) xq (mkR_wh n) yq
def mkP (l : List Int) (d : Nat) : List Rat := trimQ ((l.take (d + 1)).map mkR)
theorem mkP_len (l : List Int) (d : Nat) : (mkP l d).length ≤ d + 1 := Nat.le_trans (zzh _) yz
end Nt
section
variable {P : Program} {ops : Array Oper} {w0 : Base} {u0 : World} {S : St} {u u' w : World} {o : Oper} {p : List Tmp} {seq : Bool} {rest : List (Oper × List Tmp)} {K : St → World → Prop}
theorem sy_conv (d : Tmp) {src dst : TypeId} {x : Operand} {k0 k : IntKind} {n : Int} (v : Int) (hT : ∀ w, (convert src dst (.int k0 n)).run P w = .ok (.int k (k.wrap n)) w) (hv : k.wrap n = v) (kk : sym P ops w0 u0 seq rest (S.set d (.v (.int k v))) u K) (hw : Wants ops o S := by exact zwf xj) (hd : o.dst = some d := by kernel_rfl) (hop : o.op = .convert src dst x := by rfl) (hf : freeB S d = true := by kernel_rfl)
  (hx : evO S x = some (.v (.int k0 n)) := by rfl) : sym P ops w0 u0 seq ((o, p) :: rest) S u K := by
 subst hv
 refine .inl ⟨by rw [hop]; exact (by decide : (0 : Nat) ≠ 2), .set (.v (.int k (k.wrap n))), ⟨zxy hd hf, .inl ⟨(fun t ht => by cases ht), fun B a w u' hr he hdt => ⟨hw B a hr, ?_⟩⟩⟩, ?_⟩
 ·have e1 : (execOp a.eval o).run P w = (do pure (Next.value (← convert src dst (a.eval x))) : Sem Next).run P w := by unfold execOp; rw [hop]
  rw [e1, ev_eval hr hx]
  exact run_val (hT w)
 show sym P ops w0 u0 seq rest (S.put o.dst (some _)) u K
 rw [hd]; exact kk
theorem unwantedU {g : Nat} {b : Bool} {t : Tmp} (h : o.guard = some (g, b)) (ht : (ops[g]?).bind (·.dst) = some t) (hS : S.reg t = some (.v undef)) : ∀ B a, RegOK S B a → Want ops o a false := fun B a hr => by
 have := hr.reg t _ hS
 simp [Want, Region.wanted, h, yielded, ht, this, SV.conc, undef]
end
section
variable {u u' : World} {A : Option Addr} {n c i : Nat} {l : List Int} {k : IntKind}
theorem ints_at (h : SlR k u A n c l) (hi : i < n) : ∃ b o, A = some ⟨b, o, none⟩ ∧ u.cell? ⟨b, o + i * 1, none⟩ = some (.int k (l.getD i 0)) := by
 obtain ⟨h1, h2, h3, h4⟩ := h
 obtain ⟨b, o, e, _, hc⟩ := h4 xq
 exact ⟨b, o, e, by rw [Nat.mul_one]; exact hc i hi⟩
theorem ints_take (h : SlR k u A n c l) {m : Nat} (hm : m ≤ n) : SlR k u A m c (l.take m) := by
 obtain ⟨h1, h2, h3, h4⟩ := h
 refine ⟨by rw [List.length_take]; omega, by omega, h3, fun hp => ?_⟩
 obtain ⟨b, o, e, hb, hc⟩ := h4 xq
 exact ⟨b, o, e, hb, fun i hi => by rw [List.getElem?_take_of_lt hi]; exact hc i xq⟩
theorem ints_bd {lo hi : Int} (h : ∀ z ∈ l, lo ≤ z ∧ z ≤ hi) (h0 : lo ≤ 0 ∧ 0 ≤ hi) (i : Nat) : lo ≤ l.getD i 0 ∧ l.getD i 0 ≤ hi := by
 rw [List.getD_eq_getElem?_getD]
 cases e : l[i]? with
 | none => exact h0
 | some z => exact h z (List.mem_of_getElem? e)
theorem bd_take {lo hi : Int} (h : ∀ z ∈ l, lo ≤ z ∧ z ≤ hi) (m : Nat) : ∀ z ∈ l.take m, lo ≤ z ∧ z ≤ hi := fun z hz => h z (List.mem_of_mem_take hz)
end
theorem tdiv25 {n : Int} (h0 : -9223372036854775808 ≤ n) (h1 : n ≤ 9223372036854775807) : -9223372036854775808 ≤ n.tdiv 25 ∧ n.tdiv 25 ≤ 9223372036854775807 := by
 have h := Int.natAbs_tdiv n 25
 change (n.tdiv 25).natAbs = n.natAbs / 25 at h
 omega
theorem k_mkRat {u w : World} {n : Int} (d : Dat u w) (hn0 : -9223372036854775808 ≤ n) (hn1 : n ≤ 9223372036854775807) : Calls Tryz.prog 57 #[.int .i64 n] w (Post u w fun v u' => ∃ r : RL, v = r.v ∧ RatN u' r (Nt.mkR n) 1) := by
 have htd := tdiv25 hn0 hn1
 refine zzm (args := [.int .i64 n]) Tryz.func57 rfl Tryz.ntmps57 (rs := [.cell 2 32]) Tryz.results57 (le_b rfl) (le_b rfl) d ?_
 refine sq9 (zzk 2 ⟨32, zw3⟩ (zzb (sq9 (zza 3 (zI n) (zzg 4 12 _ fun _ _ _ ac => Post.mono (k_Mod ac (n := n) (m := 25) xq xq xq xq) ?_)))))
 rintro _ u12 g13 rfl
 refine zyq 5 (x := zI (IntKind.i64.wrap ((n % 25) - 12))) (zI ((n % 25) - 12)) yw (zza 6 (zI n) (sy_quo 7 (n.tdiv 25) yq (IntWalk.i64_in _ xq) ?_))
 refine zzg 8 12 _ fun _ _ _ ae => Post.mono (k_Mod ae (n := Int.tdiv n 25) (m := 8) xq xq xq xq) ?_
 rintro _ u16 g17 rfl
 refine zyq 9 (x := zI (IntKind.i64.wrap ((1 : Int) + ((Int.tdiv n 25) % 8)))) (zI ((1 : Int) + ((Int.tdiv n 25) % 8))) yw (zzg 10 23 _ fun _ _ _ af => Post.mono (k_rqFrac af (a := (n % 25) - 12) (b := (1 : Int) + ((Int.tdiv n 25) % 8)) xq xq xq xq) ?_)
 rintro _ u22 g23 ⟨aa, rfl, ad⟩
 refine zzj ⟨32, aa.cs⟩ ty32 ?_
 refine zzb (zzo (ret0 [aa.v] ⟨zzr ty32 zze, trivial⟩ fun u25 ag => ?_))
 refine ⟨aa, rfl, RatN.fit (K := 3) ?_ (Nt.mkR_rs n)⟩
 exact (ad.ext ag)
set_option maxHeartbeats 1000000 in
theorem k_mkRats {u w : World} {x : Sl} {l : List Int} (d : Dat u w) (hx : SlR .i64 u x.a x.n x.c l) (hb : ∀ z ∈ l, -9223372036854775808 ≤ z ∧ z ≤ 9223372036854775807) (hx9 : l.length ≤ 1000000000) : Calls Tryz.prog 92 #[x.v] w (Post u w fun v u' => ∃ y : Sl, v = y.v ∧ PolN u' y (l.map Nt.mkR) 1) := by
 have hlen : l.length = x.n := hx.1
 refine zzm (args := [x.v]) Tryz.func92 rfl Tryz.ntmps92 (rs := [.tmp 2]) Tryz.results92 (le_b rfl) (le_b rfl) d ?_
 refine sq9 (zza 2 (.v (.slice none 0 0)) (zzb (sq9 (zza 3 (.v (.slice none 0 0)) (zzb (zzd (sq9 (zza 6 (.v (x.v)) (zza 7 (zI x.n) (zza 8 (zI 0) (zzb ?_)))))))))))
 refine zzt (zyn (I := fun ao S' u' => (ao = x.n ∧ S' = St.of 19 [(3, .v (.slice none 0 0)), (6, .v (x.v)), (7, zI x.n), (8, zI 0)] [] ∧ Ext u u') ∨ (∃ (i : Nat) (L : List RL) (cs : List Value) (cp : Nat), ao = x.n - i ∧ i ≤ x.n ∧ 0 < i ∧ L.length = i ∧ cs.length = cp * 3 ∧ i ≤ cp ∧ cp ≤ maxLen ∧ cs.take (i * 3) = rcs L ∧ S' = St.of 19 [(3, .slc 16 0 i cp), (6, .v (x.v)), (7, zI x.n), (8, zI i)] [(16, ⟨32, cs⟩)] ∧ Ext u u' ∧ RatsN u' L ((l.map Nt.mkR).take i) 1)) (fun m S u1 u2 e h => by rcases h with ⟨a, b, c⟩ | ⟨a1, a2, a3, a4, b1, b2, b3, b4, b5, b6, b7, b8, b9, b10, b11⟩; exact .inl ⟨a, b, c.trans e⟩; exact .inr ⟨a1, a2, a3, a4, b1, b2, b3, b4, b5, b6, b7, b8, b9, b10.trans e, b11.ext e⟩) _ yk (.inl ⟨rfl, rfl, Ext.refl _⟩) ?_)
 rintro ao _ ba (⟨aw, rfl, ac⟩ | ⟨i, L, cs, cp, aw, hi, hp, hL, hc, hle, hmx, ht, rfl, ac, hR⟩)
 ·change SW _ _ _ _ (St.of 19 [(3, .v (.slice none 0 0)), (6, .v (.slice x.a x.n x.c)), (7, .v (.int .i64 (x.n : Int))), (8, .v (.int .i64 0))] []) _ _
  refine sq9 (zza 9 (zB (decide ((0 : Int) < (x.n : Int)))) (zzb (zzd (zzu (b := decide ((0 : Int) < (x.n : Int))) xj (fun aa => ?_) (fun aa => ?_)))))
  ·have qhb12 := of_decide_eq_true aa
   refine zzs (zzp ?_)
   refine zzd (zzt (sq9 ?_))
   have hl13 := ((hx.ext ac)).1
   obtain ⟨b13, aN, an, av⟩ := ints_at (hx.ext ac) (i := 0) xq
   have hz13 := ints_bd hb xq 0
   refine zya 10 (aN + 0 * 1) (n := x.n) (off := aN) (sz := 1) (i := 0) xq an xq xq sl22 (zyl 11 (.int .i64 (l.getD 0 0)) av ty3 (zza 5 (zI (l.getD 0 0)) (zzb (zzf (zza 12 (.v (.slice none 0 0)) (zza 13 (zI (l.getD 0 0)) (zzg 14 57 _ fun _ _ aW aS => Post.mono (k_mkRat aS (n := (l.getD 0 0)) xq xq) ?_)))))))
   rintro _ u17 a7 ⟨ai, rfl, aJ⟩
   refine zxx 15 ⟨32, ai.cs⟩ 1 (fun aQ aX ap aP => ?_)
   have aU : PolN aX (⟨some ⟨aQ, 0, none⟩, 1, 1⟩ : Sl) [(Nt.mkR (l.getD 0 0))] 1 := pol_lit (L := [ai]) aP (rats1 (aJ.ext ap)) rfl yq
   refine sy_app0 16 (T := 26) (E := 32) (z := .agg #[.bool false, .slice none 0 0, .slice none 0 0]) (size := 3) (bytes := 56) (b := aQ) (off := 0) (m := 1) ai.cs xj xj xj yq rfl (lit_news ((Ext.refl _).cells aP)) (rl_one ai) yq yq yq ?_
   intro aI aD a9 aq am ax
   refine zza 3 (.slc 16 0 1 aI) (zzx ?_)
   refine zzp (zzf (zza 17 (zI 1) (zza 8 (zI 1) (zzx ?_))))
   have az : 0 < (l.map Nt.mkR).length := by rw [List.length_map]; omega
   refine ⟨_, ?_, _, by exact zzv _ _ _, .inr ⟨1, [ai], aD, aI, rfl, by omega, by omega, by simp, am, by omega, aq, ax, rfl, (ac.t (aW.t (a7.t ap))), (app_first (RatN.more (K := 1) (aJ.ext ap) xq) az (by simp [List.getElem?_eq_getElem (show 0 < l.length by omega)]))⟩⟩
   omega
  have qhb12 := of_decide_eq_false aa
  refine zyc (zzp (zzd ?_))
  have ay : PolN ba ⟨none, 0, 0⟩ (l.map Nt.mkR) 1 := by have h9 : l.map Nt.mkR = [] := List.eq_nil_of_length_eq_zero (by rw [List.length_map]; omega); rw [h9]; exact pol_nil _ _
  refine zzf (zza 18 (.v (.slice none 0 0)) (zza 2 (.v (.slice none 0 0)) (zzb (zzo (ret0 [.slice none 0 0] ⟨zzq, trivial⟩ fun u28 aY => ?_)))))
  refine ⟨⟨none, 0, 0⟩, rfl, ?_⟩
  exact (ay.ext aY)
 change SW _ _ _ _ (St.of 19 [(3, .slc 16 0 i cp), (6, .v (.slice x.a x.n x.c)), (7, .v (.int .i64 (x.n : Int))), (8, .v (.int .i64 (i : Int)))] [(16, ⟨32, cs⟩)]) _ _
 refine sq9 (zza 9 (zB (decide ((i : Int) < (x.n : Int)))) (zzb (zzd (zzu (b := decide ((i : Int) < (x.n : Int))) xj (fun ad => ?_) (fun ad => ?_)))))
 ·have qhb30 := of_decide_eq_true ad
  refine zzs (zzp ?_)
  refine zzd (zzt (sq9 ?_))
  have hl31 := ((hx.ext ac)).1
  obtain ⟨b31, aG, aA, au⟩ := ints_at (hx.ext ac) (i := i) xq
  have hz31 := ints_bd hb xq i
  refine zya 10 (aG + i * 1) (n := x.n) (off := aG) (sz := 1) (i := (i : Int)) xq aA xq xq sl22 (zyl 11 (.int .i64 (l.getD i 0)) au ty3 (zza 5 (zI (l.getD i 0)) (zzb (zzf (zza 12 (.slc 16 0 i cp) (zza 13 (zI (l.getD i 0)) (zzg 14 57 _ fun _ _ aL aT => Post.mono (k_mkRat aT (n := (l.getD i 0)) xq xq) ?_)))))))
  rintro _ u35 aF ⟨ae, rfl, aM⟩
  refine zxx 15 ⟨32, ae.cs⟩ 1 (fun aO aV aj aH => ?_)
  have a5 : PolN aV (⟨some ⟨aO, 0, none⟩, 1, 1⟩ : Sl) [(Nt.mkR (l.getD i 0))] 1 := pol_lit (L := [ae]) aH (rats1 (aM.ext aj)) rfl yq
  refine sy_app1 16 (T := 26) (E := 32) (z := .agg #[.bool false, .slice none 0 0, .slice none 0 0]) (size := 3) (bytes := 56) (b := aO) (off := 0) (m := 1) (n := i) (cap := cp) (t := 16) (cs0 := cs) [3, 12, 16] ae.cs xj xj xj yq rfl (lit_news ((Ext.refl _).cells aH)) (rl_one ae) yq yv xq xq xq xq xw ?_
  intro aK ah bb ak aB aC
  have ag : ah.take ((i + 1) * 3) = rcs (L ++ [ae]) := by rw [aC, ht, rcs_app]; rfl
  refine zza 3 (.slc 16 0 (i + 1) aK) (zzx ?_)
  refine zzp (zzf (zyq 17 (x := zI (IntKind.i64.wrap ((i : Int) + 1))) (zI (i + 1 : Nat)) (eqI xz) (zza 8 (zI (i + 1 : Nat)) (zzx ?_))))
  have al : i < (l.map Nt.mkR).length := by rw [List.length_map]; omega
  refine ⟨_, ?_, _, by exact zzv _ _ _, .inr ⟨i + 1, L ++ [ae], ah, aK, rfl, by omega, by omega, by simp; omega, aB, by omega, ak, ag, rfl, (ac.t (aL.t (aF.t aj))), (app_next (hR.ext (aL.t (aF.t aj))) (RatN.more (K := 1) (aM.ext aj) xq) al (by simp [List.getElem?_eq_getElem (show i < l.length by omega)]))⟩⟩
  omega
 have qhb30 := of_decide_eq_false ad
 refine zyc (zzp (zzd (zyp (r := 3) (t := 16) [3, 16] xw xj (by rfl) (by rfl) xj (fun af aR aZ a8 ar => ?_))))
 have aE : PolN aR ⟨some ⟨af, 0, none⟩, i, cp⟩ (l.map Nt.mkR) 1 := by have h8 := pol_data ar ht hc hle hmx (hR.ext aZ); rw [List.take_of_length_le (l := l.map Nt.mkR) (by rw [List.length_map]; omega)] at h8; exact h8
 refine zzf (zza 18 (.v (.slice (some ⟨af, 0, none⟩) i cp)) (zza 2 (.v (.slice (some ⟨af, 0, none⟩) i cp)) (zzb (zzo (ret0 [.slice (some ⟨af, 0, none⟩) i cp] ⟨zzq, trivial⟩ fun u51 a6 => ?_)))))
 refine ⟨(⟨some ⟨af, 0, none⟩, i, cp⟩ : Sl), rfl, ?_⟩
 exact (aE.ext a6)
set_option maxHeartbeats 1000000 in
theorem k_mkPoly {u w : World} {x : Sl} {l : List Int} {D : Nat} (d : Dat u w) (hx : SlR .i64 u x.a x.n x.c l) (hb : ∀ z ∈ l, -9223372036854775808 ≤ z ∧ z ≤ 9223372036854775807) (hD : D ≤ 1000) : Calls Tryz.prog 29 #[x.v, .int .i64 (D : Int)] w (Post u w fun v u' => ∃ y : Sl, v = y.v ∧ PolN u' y (Nt.mkP l D) 1) := by
 have hlen : l.length = x.n := hx.1
 have hmx : x.n ≤ maxLen := Nat.le_trans hx.2.1 hx.2.2.1
 unfold maxLen at hmx
 refine zzm (args := [x.v, .int .i64 D]) Tryz.func29 rfl Tryz.ntmps29 (rs := [.tmp 4]) Tryz.results29 (le_b rfl) (le_b rfl) d ?_
 refine sq9 (zza 4 (.v (.slice none 0 0)) (zzb (zzd (sq9 (zza 5 (.v (x.v)) (zza 6 (zI x.n) (zza 7 (zI D) (zyq 8 (x := zI (IntKind.i64.wrap ((D : Int) + 1))) (zI (D + 1 : Nat)) (eqI xz) (zza 9 (zB (decide (((D + 1 : Nat) : Int) < (x.n : Int)))) (zzb (zzu (b := decide (((D + 1 : Nat) : Int) < (x.n : Int))) xj (fun aa => ?_) (fun aa => ?_))))))))))))
 ·have qhb11 := of_decide_eq_true aa
  refine zzf (zza 10 (.v (x.v)) (zza 11 (zI D) (zyq 12 (x := zI (IntKind.i64.wrap ((D : Int) + 1))) (zI (D + 1 : Nat)) (eqI xz) ?_)))
  have hl12 := (hx).1
  have hc12 := (hx).2.1
  refine sy_front 13 (n := x.n) (c := x.c) (D + 1) sl22 rfl xq ?_
  refine zza 0 (.v (.slice x.a (D + 1) x.c)) (zzb (sq9 (zza 14 (.v (.slice x.a (D + 1) x.c)) (zzg 15 92 _ fun _ _ ag ap => Post.mono (k_mkRats (x := (⟨x.a, D + 1, x.c⟩ : Sl)) ap ((ints_take (m := (D + 1)) hx xq).ext ag) (bd_take hb (D + 1)) (by have h9 := (((ints_take (m := (D + 1)) hx xq).ext ag)).1; first|omega|(simp;omega))) ?_))))
  rintro _ u16 g17 ⟨y14, rfl, ai⟩
  have hly14 := ai.len
  rw [List.length_map] at hly14
  refine zzg 16 83 _ fun _ _ al ar => Post.mono (k_r5Trim ar (ai.ext al).raw xq xk) ?_
  rintro _ u22 g23 ⟨ad, rfl, ae⟩
  have hly20 := ae.len
  refine zza 4 (.v (ad.v)) (zzb (zzo (ret0 [ad.v] ⟨zzq, trivial⟩ fun u25 aq => ?_)))
  have e9 : Nt.mkP l D = (Nt.trimQ ((l.take (D + 1)).map Nt.mkR)) := rfl
  rw [e9]
  exact ⟨ad, rfl, (ae.ext aq)⟩
 have qhb11 := of_decide_eq_false aa
 refine zzs (zzp ?_)
 refine sq9 (zza 14 (.v (x.v)) (zzg 15 92 _ fun _ _ ah ak => Post.mono (k_mkRats (x := x) ak (hx.ext ah) hb (by have h9 := ((hx.ext ah)).1; first|omega|(simp;omega))) ?_))
 rintro _ u30 g31 ⟨y28, rfl, aj⟩
 have hly28 := aj.len
 rw [List.length_map] at hly28
 refine zzg 16 83 _ fun _ _ an ao => Post.mono (k_r5Trim ao (aj.ext an).raw xq xk) ?_
 rintro _ u36 g37 ⟨ac, rfl, af⟩
 have hly34 := af.len
 refine zza 4 (.v (ac.v)) (zzb (zzo (ret0 [ac.v] ⟨zzq, trivial⟩ fun u39 am => ?_)))
 have e9 : Nt.mkP l D = (Nt.trimQ (l.map Nt.mkR)) := by unfold Nt.mkP; rw [List.take_of_length_le xq]
 rw [e9]
 exact ⟨ac, rfl, (af.ext am)⟩
section
variable {P : Program} {u0 u u' w w' : World} {S : St} {B : Tmp → Nat} {a : Act} {c : Code} {w0 : Base}
def St.lentPI (n : Nat) (ty : TypeId) (cs : List Value) (args : List Value) : St := ⟨n, fun t => match t with | 0 => some (.adr n 0) | t + 1 => (args[t]?).map SV.v, upd (fun _ => none) n (some ⟨ty, cs⟩)⟩
def MP.lentP (P : Program) (ρ : ResultVar) (n : Nat) (Φ : Value → Vr → World → Prop) : MP where
 f e S u := match e with | .normal => ∃ V v, S.n = n ∧ S.var n = some V ∧ resAll P S [ρ] [.v v] ∧ ∀ u1, Ext u u1 → Φ v V u1 | .ret => ∃ V v, S.n = n ∧ S.var n = some V ∧ resAll P S [ρ] [.v v] ∧ ∀ u1, Ext u u1 → Φ v V u1 | _ => False
 mono e := by cases e <;> first | exact fun S u u' he ⟨V, m, h0, h1, h2, h3⟩ => ⟨V, m, h0, h1, h2, fun u1 e1 => h3 u1 (he.trans e1)⟩ | exact fun S u u' he h => h
def PostP (u w : World) (g : Nat) (Φ : Value → Vr → World → Prop) (e : Ending) (w' : World) : Prop :=
 ∃ u' V v, e = .returned v ∧ Dat u' w' ∧ Bel ⟨w, some (0, g), []⟩ w' ∧ Grow u u' ∧ w'.heap[g]? = some (.cells V.cs.toArray V.ty (0, 0)) ∧ Φ v V u'
theorem lentP_begin {fn : Func} {args : List Value} {n g : Nat} {ty : TypeId} {cs : List Value} {w : World} (hn : fn.ntmps = n) (hargs : args.length + 1 ≤ n) (d : Dat u0 w)
  (hgw : w.heap[g]? = some (.cells cs.toArray ty (0, 0))) (hgu : u0.heap[g]? = some hidO) {a : Act} (ha : a.tmps = (Value.pointer (some ⟨g, 0, none⟩) :: args).toArray ++ Array.replicate (fn.ntmps - (Value.pointer (some ⟨g, 0, none⟩) :: args).toArray.size) undef) (hdf : a.defers = []) :
  Rep ⟨w, some (n, g), []⟩ u0 (St.lentPI n ty cs args) (fun _ => g) a w u0 := by
 refine ⟨⟨fun t x hx => ?_, by rw [ha]; simp [St.lentPI, hn]; omega⟩, ⟨fun r x t hx ht => ?_⟩, hdf, (fun t V hV => ?_), (fun t t' V V' h1 h2 _ => ?_), d, d.size, GrowF.refl _ _, ⟨rfl, rfl, rfl, Nat.le_refl _, fun _ _ _ _ => rfl⟩⟩
 ·have key : ((Value.pointer (some ⟨g, 0, none⟩) :: args).toArray)[t]? = some (x.conc fun _ => g) := by
   cases t with
   | zero => simp only [St.lentPI] at hx; injection hx with hx; subst hx; rfl
   | succ t =>
    simp only [St.lentPI, Option.map_eq_some_iff] at hx
    obtain ⟨v, h1, rfl⟩ := hx
    simpa [SV.conc] using h1
  have hlt : t < (Value.pointer (some ⟨g, 0, none⟩) :: args).toArray.size := by
   rcases Nat.lt_or_ge t (Value.pointer (some ⟨g, 0, none⟩) :: args).toArray.size with h | h
   ·exact h
   rw [Array.getElem?_eq_none h] at key; cases key
  rw [ha, Array.getElem?_append_left hlt]
  exact key
 ·cases r with
  | zero => simp only [St.lentPI] at hx; injection hx with hx; subst hx; injection ht with ht; subst ht; exact ⟨⟨ty, cs⟩, by simp [St.lentPI, zxc]⟩
  | succ r =>
   simp only [St.lentPI, Option.map_eq_some_iff] at hx
   obtain ⟨v, h1, rfl⟩ := hx
   cases ht
 ·by_cases e : t = n
  ·subst e
   simp only [St.lentPI, zxc] at hV
   injection hV with hV
   subst hV
   exact ⟨hgw, hgu, fun e => absurd e (by simp [St.lentPI]), fun _ => rfl⟩
  simp only [St.lentPI, upd_ne _ _ e] at hV; cases hV
 have key : ∀ t V, (St.lentPI n ty cs args).var t = some V → t = n := fun t V hV => by
  by_cases e : t = n
  ·exact e
  simp only [St.lentPI, upd_ne _ _ e] at hV; cases hV
 rw [key t V h1, key t' V' h2]
theorem calls_lentP {f : FuncId} {fn : Func} {args : List Value} {Φ : Value → Vr → World → Prop} {ρ : ResultVar} {n g : Nat} {ty : TypeId} {cs : List Value} {w : World} (hf : P.funcs[f]? = some fn) (hb : fn.body = some c) (hn : fn.ntmps = n) (hrs : fn.results = #[ρ]) (hargs : args.length + 1 ≤ n) (d : Dat u0 w)
  (hgw : w.heap[g]? = some (.cells cs.toArray ty (0, 0))) (hgu : u0.heap[g]? = some hidO) (h : SW P ⟨w, some (n, g), []⟩ u0 c (St.lentPI n ty cs args) u0 (MP.lentP P ρ n Φ)) :
  Calls P f (Value.pointer (some ⟨g, 0, none⟩) :: args).toArray w (PostP u0 w g Φ) := by
 refine calls_of_wp hf hb (wp_mono (h (fun _ => g) _ w u0 (Ext.refl _) (lentP_begin hn hargs d hgw hgu rfl rfl)) ?_)
 rintro ex a' w' ⟨S', B', u'', r1, r3⟩
 have key : (∃ V v, S'.n = n ∧ S'.var n = some V ∧ resAll P S' [ρ] [.v v] ∧ ∀ u1, Ext u'' u1 → Φ v V u1) → a'.defers = [] ∧ ∃ v, (results fn a'.tmps).run P w' = .ok v w' ∧ PostP u0 w g Φ (.returned v) w' := by
  rintro ⟨V, m, k0, k1, k2, k3⟩
  obtain ⟨g1, g2, g3⟩ := r1.var n V k1
  have hp := lent_pin r1 k0 k1
  refine ⟨r1.defers, _, results_eq (rs := [ρ]) hrs k2 r1 zv, u'', V, m, ?_, r1.dat, lent_bel r1.bel, r1.grow.nil, ?_, k3 _ (Ext.refl _)⟩
  ·simp [tupV, SV.conc]
  rw [← hp]; exact g1
 cases ex with
 | ret => exact key r3
 | normal => exact key r3
 | _ => exact r3.elim
theorem lentP_ret {ρ : ResultVar} {n : Nat} {Φ : Value → Vr → World → Prop} {V : Vr} (v : Value) (hn : S.n = n) (hv : S.var n = some V) (hr : resV P S ρ (.v v)) (k : ∀ u1, Ext u u1 → Φ v V u1) : (MP.lentP P ρ n Φ).f .ret S u := ⟨V, v, hn, hv, ⟨hr, trivial⟩, k⟩
variable {ops : Array Oper} {o : Oper} {p : List Tmp} {rest : List (Oper × List Tmp)} {K : St → World → Prop}
theorem sy_lendP (d : Tmp) (f : FuncId) {t : Tmp} {V : Vr} (args : List Value) {Φ : Value → Vr → World → Prop} (hv : S.var t = some V)
  (kc : ∀ g w u1, Ext u u1 → Dat u1 w → w.heap[g]? = some (.cells V.cs.toArray V.ty (0, 0)) → u1.heap[g]? = some hidO → Calls P f (Value.pointer (some ⟨g, 0, none⟩) :: args).toArray w (PostP u1 w g Φ))
  (k : ∀ v V' u1, Ext u u1 → Φ v V' u1 → sym P ops w0 u0 true rest ((S.setVar t V').set d (.v v)) u1 K)
  (hw : Wants ops o S := by exact zwf xj) (hd : o.dst = some d := by kernel_rfl) (hf : (freeB S d && knownB S o) = true := by kernel_rfl) (hk : opK o.op ≠ 2 := by decide)
  (hrun : ∀ B w, (execOp (rho S B) o).run P w = .ok (.enter f (Value.pointer (some ⟨B t, 0, none⟩) :: args).toArray) w := by intro _ _; kernel_rfl) : sym P ops w0 u0 true ((o, p) :: rest) S u K := by
 simp only [Bool.and_eq_true] at hf
 refine .inr (.inr (.inl ⟨.inl rfl, fun B a w u' he hrep => ⟨hw B a hrep.regs, ?_⟩⟩))
 obtain ⟨v1, v2, v3⟩ := hrep.var t V hv
 unfold Oper.wp
 rw [exec_rho hrep.regs hf.2 hk, hrun B w]
 simp only [Oper.upon]
 refine Calls.mono (kc (B t) w u' he hrep.dat v1 v2) ?_
 rintro e w' ⟨u2, V', v, rfl, k1, k2, k3, k4, k5⟩
 have hr2 := hrep.lentBack hv k1 k2 k3 k4 (d := o.dst) (fun s hs => (zxy hd hf.1 s hs).1) v
 refine ⟨_, B, u2, u2, hr2, fun _ => k3.ext, fun _ => he.trans k3.ext, Ext.refl _, ?_⟩
 have := k v V' u2 (he.t k3.ext) k5
 rw [hd]; exact this
end
section
variable {u u' : World} {L : List RL} {l : List Rat} {q : Rat} {r : RL} {K i b n c : Nat} {x : Sl}
theorem RatsN.fitR {M : Nat} (h : RatsN u L l K) (k : ∀ i, Nt.rs (l.getD i 0) ≤ M) : RatsN u L l M := ⟨h.1, fun i hi => (h.2 i hi).fit (k i)⟩
theorem PolN.fitR {M : Nat} (h : PolN u x l K) (k : ∀ i, Nt.rs (l.getD i 0) ≤ M) : PolN u x l M := by obtain ⟨L, h1, h2⟩ := h; exact ⟨L, h1, h2.fitR k⟩
end
set_option maxHeartbeats 2000000 in
theorem k_r5Scale {u w : World} {x : Sl} {l : List Rat} {r : RL} {q : Rat} {K M : Nat} (d : Dat u w) (hx : PolV u x l K) (hr : RatV u r q M) (hK : K ≤ 20000000) (hx9 : l.length ≤ 1000000000) (hM : M ≤ 20000000) : Calls Tryz.prog 28 #[x.v, r.v] w (Post u w fun v u' => ∃ y : Sl, v = y.v ∧ PolN u' y (Nt.trimQ (l.map (· * q))) (K + M + 1)) := by
 have hlen := hx.len
 refine zzm (args := [x.v, r.v]) Tryz.func28 rfl Tryz.ntmps28 (rs := [.tmp 4]) Tryz.results28 (le_b rfl) (le_b rfl) d ?_
 refine sq9 (zzk 3 ⟨32, r.cs⟩ (zza 4 (.v (.slice none 0 0)) (zzb (sq9 (zza 5 (.v (.slice none 0 0)) (zzb (zzd (sq9 (zza 8 (.v (x.v)) (zza 9 (zI x.n) (zza 10 (zI 0) ?_)))))))))))
 refine zzb (zzt (zyn (I := fun aw S' u' => (aw = x.n ∧ S' = St.of 23 [(3, .adr 3 0), (5, .v (.slice none 0 0)), (8, .v (x.v)), (9, zI x.n), (10, zI 0)] [(3, ⟨32, r.cs⟩)] ∧ Ext u u') ∨ (∃ (i : Nat) (L : List RL) (cs : List Value) (cp : Nat), aw = x.n - i ∧ i ≤ x.n ∧ 0 < i ∧ L.length = i ∧ cs.length = cp * 3 ∧ i ≤ cp ∧ cp ≤ maxLen ∧ cs.take (i * 3) = rcs L ∧ S' = St.of 23 [(3, .adr 3 0), (5, .slc 19 0 i cp), (8, .v (x.v)), (9, zI x.n), (10, zI i)] [(3, ⟨32, r.cs⟩), (19, ⟨32, cs⟩)] ∧ Ext u u' ∧ RatsN u' L ((l.map (· * q)).take i) (K + M + 1))) (fun m S u1 u2 e h => by rcases h with ⟨a, b, c⟩ | ⟨a1, a2, a3, a4, b1, b2, b3, b4, b5, b6, b7, b8, b9, b10, b11⟩; exact .inl ⟨a, b, c.trans e⟩; exact .inr ⟨a1, a2, a3, a4, b1, b2, b3, b4, b5, b6, b7, b8, b9, b10.trans e, b11.ext e⟩) _ yk (.inl ⟨rfl, rfl, Ext.refl _⟩) ?_))
 rintro aw _ bc (⟨au, rfl, aa⟩ | ⟨i, L, cs, cp, au, hi, hp, hL, hc, hle, hmx, ht, rfl, aa, hR⟩)
 ·change SW _ _ _ _ (St.of 23 [(3, .adr 3 0), (5, .v (.slice none 0 0)), (8, .v (.slice x.a x.n x.c)), (9, .v (.int .i64 (x.n : Int))), (10, .v (.int .i64 0))] [(3, ⟨32, r.cs⟩)]) _ _
  refine sq9 (zza 11 (zB (decide ((0 : Int) < (x.n : Int)))) (zzb (zzd (zzu (b := decide ((0 : Int) < (x.n : Int))) xj (fun ad => ?_) (fun ad => ?_)))))
  ·have qhb12 := of_decide_eq_true ad
   refine zzs (zzp ?_)
   refine zzd (zzt (sq9 ?_))
   have hl13 := (hx.ext aa).len
   obtain ⟨al, b13, aX, ap, aH, ak⟩ := pol_at (hx.ext aa) (i := 0) xq
   refine zya 12 (aX + 0 * 3) (n := x.n) (off := aX) (sz := 3) (i := 0) xq ap xq xq sl27 (zym 13 al.cs aH ty32 (zzk 7 ⟨32, zw3⟩ (zzj ⟨32, al.cs⟩ ty32 ?_)))
   refine zzb (zzf (zza 14 (.v (.slice none 0 0)) (zzi 15 (.v (al.v)) ty32 zze (zzi 16 (.v (r.v)) ty32 zze (zzg 17 91 _ fun _ _ aE bl => Post.mono (k_rqMul bl (ak.ext aE) (hr.ext (aa.trans aE)) xq xq) ?_)))))
   rintro _ u17 bj ⟨ah, rfl, aW⟩
   refine zxx 18 ⟨32, ah.cs⟩ 1 (fun aV bg aG aU => ?_)
   have a9 : PolN bg (⟨some ⟨aV, 0, none⟩, 1, 1⟩ : Sl) [((l.getD 0 0) * q)] (K + M + 1) := pol_lit (L := [ah]) aU (rats1 (aW.ext aG)) rfl yq
   refine sy_app0 19 (T := 27) (E := 32) (z := .agg #[.bool false, .slice none 0 0, .slice none 0 0]) (size := 3) (bytes := 56) (b := aV) (off := 0) (m := 1) ah.cs xj xj xj yq rfl (lit_news ((Ext.refl _).cells aU)) (rl_one ah) yq yq yq ?_
   intro aT aD bm ax ao az
   refine zza 5 (.slc 19 0 1 aT) (zzx ?_)
   refine zzp (zzf (zza 20 (zI 1) (zza 10 (zI 1) (zzx ?_))))
   have an : 0 < (l.map (· * q)).length := by rw [List.length_map]; omega
   refine ⟨_, ?_, _, by exact zzv _ _ _, .inr ⟨1, [ah], aD, aT, rfl, by omega, by omega, by simp, ao, by omega, ax, az, rfl, (aa.t (aE.t (bj.t aG))), (app_first (RatN.more (K := (K + M + 1)) (aW.ext aG) xq) an (by simp [List.getElem?_eq_getElem (show 0 < l.length by omega)]))⟩⟩
   omega
  have qhb12 := of_decide_eq_false ad
  refine zyc (zzp (zzd ?_))
  have aB : PolN bc ⟨none, 0, 0⟩ (l.map (· * q)) (K + M + 1) := by have h9 : l.map (· * q) = [] := List.eq_nil_of_length_eq_zero (by rw [List.length_map]; omega); rw [h9]; exact pol_nil _ _
  refine zzf (zza 21 (.v (.slice none 0 0)) (zzg 22 83 _ fun _ _ bn bk => Post.mono (k_r5Trim bk (aB.ext bn).raw xq xk) ?_))
  rintro _ u31 g32 ⟨aJ, rfl, aO⟩
  have hly29 := aO.len
  refine zza 4 (.v (aJ.v)) (zzb (zzo (ret0 [aJ.v] ⟨zzq, trivial⟩ fun u34 be => ?_)))
  refine ⟨aJ, rfl, ?_⟩
  exact (aO.ext be)
 change SW _ _ _ _ (St.of 23 [(3, .adr 3 0), (5, .slc 19 0 i cp), (8, .v (.slice x.a x.n x.c)), (9, .v (.int .i64 (x.n : Int))), (10, .v (.int .i64 (i : Int)))] [(3, ⟨32, r.cs⟩), (19, ⟨32, cs⟩)]) _ _
 refine sq9 (zza 11 (zB (decide ((i : Int) < (x.n : Int)))) (zzb (zzd (zzu (b := decide ((i : Int) < (x.n : Int))) xj (fun ac => ?_) (fun ac => ?_)))))
 ·have qhb36 := of_decide_eq_true ac
  refine zzs (zzp ?_)
  refine zzd (zzt (sq9 ?_))
  have hl37 := (hx.ext aa).len
  obtain ⟨aq, b37, aY, aI, ar, aF⟩ := pol_at (hx.ext aa) (i := i) xq
  refine zya 12 (aY + i * 3) (n := x.n) (off := aY) (sz := 3) (i := (i : Int)) xq aI xq xq sl27 (zym 13 aq.cs ar ty32 (zzk 7 ⟨32, zw3⟩ (zzj ⟨32, aq.cs⟩ ty32 ?_)))
  refine zzb (zzf (zza 14 (.slc 19 0 i cp) (zzi 15 (.v (aq.v)) ty32 zze (zzi 16 (.v (r.v)) ty32 zze (zzg 17 91 _ fun _ _ aj a5 => Post.mono (k_rqMul a5 (aF.ext aj) (hr.ext (aa.trans aj)) xq xq) ?_)))))
  rintro _ u41 aR ⟨ae, rfl, aN⟩
  refine zxx 18 ⟨32, ae.cs⟩ 1 (fun aQ ba ai aS => ?_)
  have a8 : PolN ba (⟨some ⟨aQ, 0, none⟩, 1, 1⟩ : Sl) [((l.getD i 0) * q)] (K + M + 1) := pol_lit (L := [ae]) aS (rats1 (aN.ext ai)) rfl yq
  refine sy_app1 19 (T := 27) (E := 32) (z := .agg #[.bool false, .slice none 0 0, .slice none 0 0]) (size := 3) (bytes := 56) (b := aQ) (off := 0) (m := 1) (n := i) (cap := cp) (t := 19) (cs0 := cs) [5, 14, 19] ae.cs xj xj xj yq rfl (lit_news ((Ext.refl _).cells aS)) (rl_one ae) yq yv xq xq xq xq xw ?_
  intro aP af bd aA aK aC
  have ag : af.take ((i + 1) * 3) = rcs (L ++ [ae]) := by rw [aC, ht, rcs_app]; rfl
  refine zza 5 (.slc 19 0 (i + 1) aP) (zzx ?_)
  refine zzp (zzf (zyq 20 (x := zI (IntKind.i64.wrap ((i : Int) + 1))) (zI (i + 1 : Nat)) (eqI xz) (zza 10 (zI (i + 1 : Nat)) (zzx ?_))))
  have av : i < (l.map (· * q)).length := by rw [List.length_map]; omega
  refine ⟨_, ?_, _, by exact zzv _ _ _, .inr ⟨i + 1, L ++ [ae], af, aP, rfl, by omega, by omega, by simp; omega, aK, by omega, aA, ag, rfl, (aa.t (aj.t (aR.t ai))), (app_next (hR.ext (aj.t (aR.t ai))) (RatN.more (K := (K + M + 1)) (aN.ext ai) xq) av (by simp [List.getElem?_eq_getElem (show i < l.length by omega)]))⟩⟩
  omega
 have qhb36 := of_decide_eq_false ac
 refine zyc (zzp (zzd (zyp (r := 5) (t := 19) [5, 19] xw xj (by rfl) (by rfl) xj (fun aM bf bb a6 ay => ?_))))
 have am : PolN bf ⟨some ⟨aM, 0, none⟩, i, cp⟩ (l.map (· * q)) (K + M + 1) := by have h8 := pol_data ay ht hc hle hmx (hR.ext bb); rw [List.take_of_length_le (l := l.map (· * q)) (by rw [List.length_map]; omega)] at h8; exact h8
 refine zzf (zza 21 (.v (.slice (some ⟨aM, 0, none⟩) i cp)) (zzg 22 83 _ fun _ _ a7 bh => Post.mono (k_r5Trim bh (am.ext a7).raw xq xk) ?_))
 rintro _ u60 g61 ⟨aL, rfl, aZ⟩
 have hly58 := aZ.len
 refine zza 4 (.v (aL.v)) (zzb (zzo (ret0 [aL.v] ⟨zzq, trivial⟩ fun u63 bi => ?_)))
 refine ⟨aL, rfl, ?_⟩
 exact (aZ.ext bi)
def tpc (x : Sl) (a : Nat) : List Value := [.slice x.a x.n x.c, .int .i64 (a : Int)]
set_option maxHeartbeats 2000000 in
theorem k_tapeNext {u w : World} {g : Nat} {x : Sl} {l : List Int} {a m : Nat} (d : Dat u w) (hg : w.heap[g]? = some (.cells (tpc x a).toArray 108 (0, 0))) (hu : u.heap[g]? = some hidO) (hx : SlR .i64 u x.a x.n x.c l) (hb : ∀ z ∈ l, -9223372036854775808 ≤ z ∧ z ≤ 9223372036854775807) (ha : a ≤ x.n) (hm : 1 ≤ m) (hm9 : m ≤ 1000) : Calls Tryz.prog 56 #[.pointer (some ⟨g, 0, none⟩), .int .i64 (m : Int)] w (PostP u w g fun v V u' => ∃ z a' : Nat, v = .int .i64 (z : Int) ∧ z < m ∧ V = ⟨108, tpc x a'⟩ ∧ a' ≤ x.n) := by
 have hlen : l.length = x.n := hx.1
 have hmx : x.n ≤ maxLen := Nat.le_trans hx.2.1 hx.2.2.1
 unfold maxLen at hmx
 refine calls_lentP (args := [.int .i64 (m : Int)]) Tryz.func56 rfl Tryz.ntmps56 Tryz.results56 (le_b rfl) d hg hu ?_
 refine sq9 (zza 4 (zI 0) (zzb (zzd (zzd (zzz [0, 1, 3, 7, 0, 16, 48, 112, 240, 511] [(0, []), (1, []), (2, []), (3, []), (4, []), (5, []), (6, []), (7, []), (8, []), (9, [])] xj xj (zza 5 (.adr 35 0) (zza 6 (.adr 35 0) (zza 7 (.adr 35 1) (zzi 8 (zI a) ty3 zzl (zza 9 (.adr 35 0) (zza 10 (.adr 35 0) ?_)))))))))))
 refine zza 11 (.adr 35 0) (zzi 12 (.v (x.v)) ty22 zzl (zza 13 (zI x.n) (zza 14 (zB (decide ((x.n : Int) ≤ (a : Int)))) (zzb (zzu (b := decide ((x.n : Int) ≤ (a : Int))) xj (fun aa => ?_) (fun aa => ?_))))))
 ·have qhb11 := of_decide_eq_true aa
  refine sq9 (zza 4 (zI 0) (zzb (zzo (zzw (lentP_ret (V := ⟨108, [x.v, .int .i64 a]⟩) (.int .i64 0) rfl rfl zzq (fun _ _ => ⟨0, a, rfl, xq, rfl, ha⟩))))))
 have qhb11 := of_decide_eq_false aa
 refine zzs (zzp ?_)
 refine sq9 (zza 15 (.adr 35 0) (zza 16 (.adr 35 0) (zza 17 (.adr 35 1) (zzi 18 (zI a) ty3 zzl (zyq 19 (x := zI (IntKind.i64.wrap ((a : Int) + 1))) (zI (a + 1 : Nat)) (eqI xz) (zza 20 (.adr 35 0) (zza 21 (.adr 35 1) (zzj ⟨108, [x.v, .int .i64 (a + 1 : Nat)]⟩ ty3 ?_))))))))
 refine zzb (zzd (zzz [0, 1, 3, 7, 0, 16, 48, 112, 240, 511, 1023, 0, 4095, 8191] [(0, []), (1, []), (2, []), (3, []), (4, []), (5, []), (6, []), (7, []), (8, []), (9, []), (10, []), (11, []), (12, []), (13, [])] xj xj (zza 22 (.adr 35 0) (zza 23 (.adr 35 0) (zza 24 (.adr 35 0) (zzi 25 (.v (x.v)) ty22 zzl (zza 26 (.adr 35 0) (zza 27 (.adr 35 0) (zza 28 (.adr 35 1) (zzi 29 (zI (a + 1 : Nat)) ty3 zzl (zyq 30 (x := zI (IntKind.i64.wrap (((a + 1 : Nat) : Int) - 1))) (zI (((a + 1) - 1 : Nat) : Int)) (eqI xz) ?_)))))))))))
 have hl12 := (hx).1
 obtain ⟨b12, ae, ad, ac⟩ := ints_at hx (i := (a + 1) - 1) xq
 have hz12 := ints_bd hb xq ((a + 1) - 1)
 refine zya 31 (ae + ((a + 1) - 1) * 1) (n := x.n) (off := ae) (sz := 1) (i := (((a + 1) - 1 : Nat) : Int)) xq ad xq xq sl22 (zyl 32 (.int .i64 (l.getD ((a + 1) - 1) 0)) ac ty3 (zza 33 (zI m) (zzg 34 12 _ fun _ _ _ af => Post.mono (k_Mod af (n := (l.getD ((a + 1) - 1) 0)) (m := (m : Int)) xq xq xq xq) ?_)))
 rintro _ u14 g15 rfl
 obtain ⟨zz, ag⟩ : ∃ zz : Nat, (zz : Int) = (l.getD ((a + 1) - 1) 0) % (m : Int) := ⟨((l.getD ((a + 1) - 1) 0) % (m : Int)).toNat, by have h9 := Int.emod_nonneg ((l.getD ((a + 1) - 1) 0)) (show (m : Int) ≠ 0 by omega); omega⟩
 have ah : zz < m := by have h9 := Int.emod_lt_of_pos ((l.getD ((a + 1) - 1) 0)) (show (0 : Int) < (m : Int) by omega); omega
 have hzz : Value.int .i64 ((l.getD ((a + 1) - 1) 0) % (m : Int)) = .int .i64 (zz : Int) := by rw [ag]
 refine zza 4 (zI ((l.getD ((a + 1) - 1) 0) % (m : Int))) (zzc 35 [(4, zI ((l.getD ((a + 1) - 1) 0) % (m : Int)))] [(35, ⟨108, [x.v, .int .i64 (a + 1 : Nat)]⟩)] (zzo (lentP_ret (V := ⟨108, [x.v, .int .i64 (a + 1 : Nat)]⟩) (.int .i64 ((l.getD ((a + 1) - 1) 0) % (m : Int))) rfl rfl zzq (fun _ _ => ⟨zz, (a + 1), hzz, ah, rfl, xq⟩))))
end Go.Proofs.YtgmkhhfbckjaeaaGreat
namespace Go.Proofs.YtgmkhhfbckjaeaaGreat
namespace Nt
section
variable {a1 a2 b1 b2 c1 c2 d1 d2 : Rat}
def hl (a b c d : Rat) : Rat := lo (lo a b) (lo c d)
def hh (a b c d : Rat) : Rat := hi (hi a b) (hi c d)
end
end Nt
end Go.Proofs.YtgmkhhfbckjaeaaGreat
namespace Go.Proofs.YtgmkhhfbckjaeaaGreat.Nt
open Go.RowKit
open Pol
section
variable {l : List Rat} {x a b c : Rat} {i n D A B K : Nat} {q : Pol}
theorem evL_trim (l : List Rat) (x : Rat) : evL (trimQ l) x = evL l x := evL_congr (trim_co l) x
end
section
variable {l m W : List Rat} {x q : Rat} {i A B C : Nat}
def hp (q : Rat) (i : Nat) : Rat := (((q.den ^ (i - 1) : Nat) : Int) : Rat)
def hs (W : List Rat) (q : Rat) (i : Nat) : Rat := hp q i * evL (W.drop (W.length - i)) q
theorem ev_addL (l m : List Rat) (x : Rat) : evL (trimQ (addQ l m)) x = evL l x + evL m x := by
 rw [evL_trim, ← mk_ev, mk_add, ev_add, mk_ev, mk_ev]
theorem ev_mulL (l m : List Rat) (x : Rat) : evL (trimQ (mulQ l m)) x = evL l x * evL m x := by
 rw [evL_trim, ← mk_ev, mk_mul, ev_mul, mk_ev, mk_ev]
theorem ev_drop_all {k : Nat} (h : l.length ≤ k) : evL (l.drop k) x = ((0 : Int) : Rat) := by rw [List.drop_eq_nil_of_le h]; rfl
theorem ev_drop1 {k : Nat} (h : 0 < k) (h2 : k ≤ l.length) : evL (l.drop (k - 1)) x = evL (l.drop k) x * x + l.getD (k - 1) 0 := by
 rw [List.drop_eq_getElem_cons (show k - 1 < l.length by omega), show k - 1 + 1 = k by omega, List.getD_eq_getElem?_getD, List.getElem?_eq_getElem (show k - 1 < l.length by omega), Option.getD_some]
 show _ + x * _ = _
 grind
theorem ev_drop0 : evL (l.drop 0) x = evL l x := rfl
end
end Go.Proofs.YtgmkhhfbckjaeaaGreat.Nt
namespace Go.Proofs.YtgmkhhfbckjaeaaGreat
namespace Nt
open Pol
def dd (x g : Nat → Rat) : Nat → Nat → Rat
 | 0, a => g a
 | n + 1, a => (dd x g n (a + 1) - dd x g n a) / (x (a + n + 1) - x a)
def sg1 (i : Nat) : Rat := if i % 2 = 0 then 1 else -1
theorem sg1_s (i : Nat) : sg1 (i + 1) = -sg1 i := by
 unfold sg1
 by_cases h : i % 2 = 0
 ·rw [if_pos h, if_neg xq]
 rw [if_neg h, if_pos xq]; grind
theorem sg1_sq (i : Nat) : sg1 i * sg1 i = 1 := by unfold sg1; split <;> grind
theorem div_mul_self {a b : Rat} (h : b ≠ 0) : a / b * b = a := Rat.div_mul_cancel h
theorem div_eq_of {a b c : Rat} (h : b ≠ 0) (e : a = c * b) : a / b = c := by
 rw [e, Rat.mul_div_cancel h]
section
variable {x g h : Nat → Rat} {n a m k N : Nat} {c : Rat} {p q : List Rat}
def Asc (x : Nat → Rat) (N : Nat) : Prop := ∀ i j, i < j → j ≤ N → x i < x j
theorem Asc.gap (hx : Asc x N) (h : a + n + 1 ≤ N) : 0 < x (a + n + 1) - x a := by
 have := hx a (a + n + 1) xq h
 grind
theorem dd_congr (e : ∀ i, a ≤ i → i ≤ a + n → g i = h i) : dd x g n a = dd x h n a := by
 induction n generalizing a with
 | zero => exact e a (Nat.le_refl _) (Nat.le_refl _)
 | succ n ih =>
  show (dd x g n (a + 1) - dd x g n a) / _ = (dd x h n (a + 1) - dd x h n a) / _
  rw [ih (fun i h1 h2 => e i xq xq), ih (fun i h1 h2 => e i h1 xq)]
theorem dd_lin : dd x (fun i => c * g i + h i) n a = c * dd x g n a + dd x h n a := by
 induction n generalizing a with
 | zero => rfl
 | succ n ih =>
  show (dd x (fun i => c * g i + h i) n (a + 1) - dd x (fun i => c * g i + h i) n a) / _ = c * ((dd x g n (a + 1) - dd x g n a) / _) + (dd x h n (a + 1) - dd x h n a) / _
  rw [ih, ih, Rat.div_def, Rat.div_def, Rat.div_def]; grind
theorem dd_const : dd x (fun _ => c) (n + 1) a = 0 := by
 induction n generalizing a with
 | zero => show (c - c) / _ = 0; rw [Rat.div_def]; grind
 | succ n ih =>
  show (dd x (fun _ => c) (n + 1) (a + 1) - dd x (fun _ => c) (n + 1) a) / _ = 0
  rw [ih, ih, Rat.div_def]; grind
theorem dd_leib (hx : Asc x N) : ∀ n a, a + n + 1 ≤ N → dd x (fun i => x i * g i) (n + 1) a = x a * dd x g (n + 1) a + dd x g n (a + 1) ∧ dd x (fun i => x i * g i) (n + 1) a = x (a + n + 1) * dd x g (n + 1) a + dd x g n a := by
 intro n
 induction n with
 | zero =>
  intro a ha
  have h1 := hx.gap (a := a) (n := 0) ha
  have h2 : dd x g 1 a * (x (a + 0 + 1) - x a) = dd x g 0 (a + 1) - dd x g 0 a := by
   show (_ / _) * _ = _
   exact div_mul_self (by grind)
  have key : dd x (fun i => x i * g i) 1 a = x a * dd x g 1 a + dd x g 0 (a + 1) := by
   show (x (a + 1) * g (a + 1) - x a * g a) / (x (a + 0 + 1) - x a) = _
   refine div_eq_of (by grind) ?_
   have e1 : dd x g 0 (a + 1) = g (a + 1) := rfl
   have e2 : dd x g 0 a = g a := rfl
   rw [e1, e2] at h2
   rw [e1]
   have e3 : x (a + 0 + 1) = x (a + 1) := rfl
   rw [e3] at h2 ⊢
   grind
  exact ⟨key, by rw [key]; grind⟩
 | succ n ih =>
  intro a ha
  have h1 := hx.gap (a := a) (n := n + 1) xq
  have h2 : dd x g (n + 2) a * (x (a + (n + 1) + 1) - x a) = dd x g (n + 1) (a + 1) - dd x g (n + 1) a := by
   show (_ / _) * _ = _
   exact div_mul_self (by grind)
  have i1 := (ih (a + 1) xq).2
  have i2 := (ih a xq).1
  have key : dd x (fun i => x i * g i) (n + 2) a = x a * dd x g (n + 2) a + dd x g (n + 1) (a + 1) := by
   show (dd x (fun i => x i * g i) (n + 1) (a + 1) - dd x (fun i => x i * g i) (n + 1) a) / (x (a + (n + 1) + 1) - x a) = _
   refine div_eq_of (by grind) ?_
   rw [i1, i2]
   have e3 : x (a + 1 + n + 1) = x (a + (n + 1) + 1) := by rw [show a + 1 + n + 1 = a + (n + 1) + 1 by omega]
   rw [e3]
   grind
  exact ⟨key, by rw [key]; grind⟩
theorem dd_poly (hx : Asc x N) : ∀ (n : Nat) (p : List Rat) (a : Nat), p.length ≤ n + 1 → a + n ≤ N → dd x (fun i => evL p (x i)) n a = p.getD n 0 := by
 intro n
 induction n with
 | zero =>
  intro p a hp _
  match p, hp with
  | [], _ => rfl
  | [c], _ => show c + x a * evL [] (x a) = c; have : evL [] (x a) = 0 := rfl; rw [this]; grind
 | succ n ih =>
  intro p a hp ha
  match p, hp with
  | [], _ =>
   have e : (fun i => evL [] (x i)) = fun _ => (0 : Rat) := funext fun i => rfl
   rw [e, dd_const]; rfl
  | c :: p, hp =>
   have hp : p.length ≤ n + 1 := by simpa using hp
   have e : (fun i => evL (c :: p) (x i)) = fun i => 1 * (x i * evL p (x i)) + c := funext fun i => by show c + x i * evL p (x i) = _; grind
   rw [e, dd_lin (g := fun i => x i * evL p (x i)) (h := fun _ => c), dd_const, (dd_leib hx n a xq).1, ih p (a + 1) hp xq]
   have e2 : dd x (fun i => evL p (x i)) (n + 1) a = 0 := by
    show (_ - _) / _ = _
    rw [ih p (a + 1) hp xq, ih p a hp xq, Rat.div_def]; grind
   have e3 : (c :: p).getD (n + 1) 0 = p.getD n 0 := by simp
   rw [e2, e3]; grind
theorem dd_low (hx : Asc x N) (hp : p.length ≤ n) (ha : a + n ≤ N) : dd x (fun i => evL p (x i)) n a = 0 := by
 rw [dd_poly hx n p a xq ha, List.getD_eq_getElem?_getD, List.getElem?_eq_none hp]; rfl
theorem div_nn9 {a b : Rat} (ha : 0 ≤ a) (hb : 0 < b) : 0 ≤ a / b := by rw [Rat.div_def]; exact Rat.mul_nonneg ha (Rat.le_of_lt (Rat.inv_pos.2 hb))
theorem div_pos9 {a b : Rat} (ha : 0 < a) (hb : 0 < b) : 0 < a / b := by rw [Rat.div_def]; exact Rat.mul_pos ha (Rat.inv_pos.2 hb)
theorem dd_step (hx : Asc x N) (ha : a + n + 1 ≤ N) : sg1 (a + n + 1) * dd x g (n + 1) a = (sg1 (a + 1 + n) * dd x g n (a + 1) + sg1 (a + n) * dd x g n a) / (x (a + n + 1) - x a) := by
 have e : sg1 (a + 1 + n) = sg1 (a + n + 1) := by rw [show a + 1 + n = a + n + 1 by omega]
 have e2 : dd x g (n + 1) a = (dd x g n (a + 1) - dd x g n a) / (x (a + n + 1) - x a) := rfl
 rw [e, sg1_s, e2, Rat.div_def, Rat.div_def]; grind
theorem dd_alt (hx : Asc x N) : ∀ n a, a + n ≤ N → (∀ i, a ≤ i → i ≤ a + n → 0 ≤ sg1 i * g i) → 0 ≤ sg1 (a + n) * dd x g n a := by
 intro n
 induction n with
 | zero => intro a _ h; exact h a (Nat.le_refl _) (Nat.le_refl _)
 | succ n ih =>
  intro a ha h
  have h1 := ih (a + 1) xq (fun i k1 k2 => h i xq xq)
  have h2 := ih a xq (fun i k1 k2 => h i k1 xq)
  rw [show a + (n + 1) = a + n + 1 from rfl, dd_step hx xq]
  exact div_nn9 (by grind) (hx.gap xq)
theorem dd_alts (hx : Asc x N) : ∀ n a, a + n ≤ N → (∀ i, a ≤ i → i ≤ a + n → 0 ≤ sg1 i * g i) → (∃ i, a ≤ i ∧ i ≤ a + n ∧ 0 < sg1 i * g i) → 0 < sg1 (a + n) * dd x g n a := by
 intro n
 induction n with
 | zero =>
  intro a _ _ ⟨i, h1, h2, h3⟩
  obtain rfl : i = a := by omega
  exact h3
 | succ n ih =>
  intro a ha h ⟨i, k1, k2, k3⟩
  have h1 := dd_alt hx n (a + 1) xq (fun i k1 k2 => h i xq xq)
  have h2 := dd_alt hx n a xq (fun i k1 k2 => h i k1 xq)
  rw [show a + (n + 1) = a + n + 1 from rfl, dd_step hx xq]
  refine div_pos9 ?_ (hx.gap xq)
  by_cases e : i ≤ a + n
  ·have := ih a xq (fun i k1 k2 => h i k1 xq) ⟨i, k1, e, k3⟩
   grind
  have := ih (a + 1) xq (fun i k1 k2 => h i xq xq) ⟨i, by omega, by omega, k3⟩
  grind
def om (x : Nat → Rat) (a : Nat) (z : Rat) : Nat → Rat
 | 0 => 1
 | n + 1 => om x a z n * (z - x (a + n))
theorem om_head (z : Rat) : om x a z (n + 1) = (z - x a) * om x (a + 1) z n := by
 induction n with
 | zero => show 1 * (z - x (a + 0)) = (z - x a) * 1; rw [Nat.add_zero]; grind
 | succ n ih =>
  show om x a z (n + 1) * (z - x (a + (n + 1))) = (z - x a) * (om x (a + 1) z n * (z - x (a + 1 + n)))
  rw [ih, show a + (n + 1) = a + 1 + n by omega]; grind
def nwt (x g : Nat → Rat) (a : Nat) (z : Rat) : Nat → Rat
 | 0 => g a
 | n + 1 => nwt x g a z n + dd x g (n + 1) a * om x a z (n + 1)
theorem nwt_shift (hx : Asc x N) (z : Rat) : ∀ n a, a + n + 1 ≤ N → nwt x g (a + 1) z n - nwt x g a z n = (dd x g n (a + 1) - dd x g n a) * om x (a + 1) z n := by
 intro n
 induction n with
 | zero => intro a _; show g (a + 1) - g a = (g (a + 1) - g a) * 1; grind
 | succ n ih =>
  intro a ha
  have i1 := ih a xq
  have h1 := hx.gap (a := a) (n := n) xq
  have h2 : dd x g (n + 1) a * (x (a + n + 1) - x a) = dd x g n (a + 1) - dd x g n a := by
   show (_ / _) * _ = _
   exact div_mul_self (by grind)
  show (nwt x g (a + 1) z n + dd x g (n + 1) (a + 1) * om x (a + 1) z (n + 1)) - (nwt x g a z n + dd x g (n + 1) a * om x a z (n + 1)) = _
  rw [om_head (a := a)]
  have e : om x (a + 1) z (n + 1) = om x (a + 1) z n * (z - x (a + n + 1)) := by
   show om x (a + 1) z n * (z - x (a + 1 + n)) = _
   rw [show a + 1 + n = a + n + 1 by omega]
  rw [e]
  grind
theorem nwt_at (hx : Asc x N) : ∀ n a m, a + n ≤ N → m ≤ n → nwt x g a (x (a + m)) n = g (a + m) := by
 intro n
 induction n with
 | zero => intro a m _ hm; obtain rfl : m = 0 := by omega
           rfl
 | succ n ih =>
  intro a m ha hm
  have h1 := hx.gap (a := a) (n := n) xq
  have s := nwt_shift (g := g) hx (x (a + m)) n a xq
  have h2 : dd x g (n + 1) a * (x (a + n + 1) - x a) = dd x g n (a + 1) - dd x g n a := by
   show (_ / _) * _ = _
   exact div_mul_self (by grind)
  show nwt x g a (x (a + m)) n + dd x g (n + 1) a * om x a (x (a + m)) (n + 1) = g (a + m)
  by_cases e : m ≤ n
  ·rw [ih a m xq e]
   have : om x a (x (a + m)) (n + 1) = 0 := by
    rw [om_head]
    clear s h2 h1 ih
    have : ∀ k a, m ≤ k → om x a (x (a + m)) (k + 1) = 0 := by
     intro k
     induction k with
     | zero => intro a hk; obtain rfl : m = 0 := by omega
               show 1 * (x (a + 0) - x (a + 0)) = 0; grind
     | succ k ih =>
      intro a hk
      show om x a (x (a + m)) (k + 1) * (x (a + m) - x (a + (k + 1))) = 0
      by_cases e2 : m ≤ k
      ·rw [ih a e2]; grind
      rw [show m = k + 1 by omega]; grind
    rw [← om_head]
    exact this n a e
   rw [this]; grind
  obtain rfl : m = n + 1 := by omega
  have e2 := ih (a + 1) n xq (Nat.le_refl _)
  rw [show a + 1 + n = a + (n + 1) by omega] at e2
  rw [e2] at s
  rw [om_head]
  have e3 : x (a + n + 1) = x (a + (n + 1)) := rfl
  rw [e3] at h2 h1
  grind
end
end Nt
end Go.Proofs.YtgmkhhfbckjaeaaGreat
namespace Go.Proofs.YtgmkhhfbckjaeaaGreat.Nt
open Go.RowKit
open Pol
theorem evL_map (l : List Rat) (c x : Rat) : evL (l.map (· * c)) x = evL l x * c := by
 induction l with
 | nil => show (0 : Rat) = 0 * c; grind
 | cons a l ih => show a * c + x * evL (l.map (· * c)) x = (a + x * evL l x) * c; rw [ih]; grind
end Go.Proofs.YtgmkhhfbckjaeaaGreat.Nt
namespace Go.Proofs.YtgmkhhfbckjaeaaGreat
namespace Nt
open Pol
section
variable {x w y : Nat → Rat} {n i : Nat} {c e δ M E : Rat} {p q : List Rat}
def lvS (x w : Nat → Rat) (n : Nat) : Rat := dd x (fun i => sg1 i / w i) n 0
def lvE (x w y : Nat → Rat) (n : Nat) : Rat := dd x y n 0 / lvS x w n
def er (x w y : Nat → Rat) (q : List Rat) (i : Nat) : Rat := w i * (y i - evL q (x i))
theorem dd_null : dd x (fun _ => 0) n i = 0 := by
 cases n with
 | zero => rfl
 | succ n => exact dd_const
theorem lvS_pos (hx : Asc x n) (hw : ∀ i, i ≤ n → 0 < w i) : 0 < sg1 n * lvS x w n := by
 have h1 : ∀ i, i ≤ n → 0 < sg1 i * (sg1 i / w i) := fun i hi => by
  rw [Rat.div_def, ← Rat.mul_assoc, sg1_sq, Rat.one_mul]; exact Rat.inv_pos.2 (hw i hi)
 have h := dd_alts hx n 0 xq (g := fun i => sg1 i / w i) (fun i _ hi => Rat.le_of_lt (h1 i xq)) ⟨0, Nat.le_refl _, by omega, h1 0 (Nat.zero_le _)⟩
 rw [Nat.zero_add] at h
 exact h
theorem lvS_ne (hx : Asc x n) (hw : ∀ i, i ≤ n → 0 < w i) : lvS x w n ≠ 0 := fun h => by
 have := lvS_pos hx hw
 rw [h] at this; grind
theorem lvE_mul (hx : Asc x n) (hw : ∀ i, i ≤ n → 0 < w i) : lvE x w y n * lvS x w n = dd x y n 0 := Rat.div_mul_cancel (lvS_ne hx hw)
theorem lev_dd (hx : Asc x n) (hq : q.length ≤ n) : dd x (fun i => c * (sg1 i / w i) + e * (y i - evL q (x i))) n 0 = c * lvS x w n + e * dd x y n 0 := by
 have e1 : dd x (fun i => -1 * evL q (x i) + y i) n 0 = dd x y n 0 := by
  rw [dd_lin (c := -1) (g := fun i => evL q (x i)) (h := y), dd_low hx hq xq]; grind
 have e2 : dd x (fun i => e * (-1 * evL q (x i) + y i) + 0) n 0 = e * dd x y n 0 := by
  rw [dd_lin (c := e) (g := fun i => -1 * evL q (x i) + y i) (h := fun _ => 0), e1, dd_null]; grind
 have e3 : dd x (fun i => c * (sg1 i / w i) + (e * (-1 * evL q (x i) + y i) + 0)) n 0 = c * lvS x w n + e * dd x y n 0 := by
  rw [dd_lin (c := c) (g := fun i => sg1 i / w i) (h := fun i => e * (-1 * evL q (x i) + y i) + 0), e2]; rfl
 rw [← e3]
 exact dd_congr (fun i _ _ => by grind)
theorem sg_term (hw : 0 < w i) : sg1 i * (c * (sg1 i / w i) + e * (y i - evL q (x i))) = (c + e * (sg1 i * er x w y q i)) * (w i)⁻¹ := by
 have h1 := sg1_sq i
 have h2 : w i * (w i)⁻¹ = 1 := Rat.mul_inv_cancel _ (fun h => by rw [h] at hw; grind)
 unfold er
 rw [Rat.div_def]
 generalize (w i)⁻¹ = v at *
 generalize evL q (x i) = z
 have a1 : sg1 i * (c * (sg1 i * v) + e * (y i - z)) = c * v * (sg1 i * sg1 i) + e * sg1 i * (y i - z) := by grind
 have a2 : (c + e * (sg1 i * (w i * (y i - z)))) * v = c * v + e * sg1 i * (y i - z) * (w i * v) := by grind
 rw [a1, a2, h1, h2]; grind
theorem pos_of_mul {a b : Rat} (hb : 0 < b) (h : 0 < a * b) : 0 < a := by
 refine Rat.not_le.1 fun ha => ?_
 have := Rat.mul_le_mul_of_nonneg_right ha (Rat.le_of_lt hb)
 grind
theorem nn_of_mul {a b : Rat} (hb : 0 < b) (h : 0 ≤ a * b) : 0 ≤ a := by
 refine Rat.not_lt.1 fun ha => ?_
 have h1 := Rat.mul_pos (show 0 < -a by grind) hb
 grind
theorem lev0 (hx : Asc x n) (hw : ∀ i, i ≤ n → 0 < w i) (hq : q.length ≤ n) (h : ∀ i, i ≤ n → 0 ≤ c + e * (sg1 i * er x w y q i)) : 0 ≤ c + e * lvE x w y n := by
 have hS := lvS_pos hx hw
 have h1 := dd_alt hx n 0 xq (g := fun i => c * (sg1 i / w i) + e * (y i - evL q (x i))) (fun i _ hi => by
  show 0 ≤ sg1 i * (c * (sg1 i / w i) + e * (y i - evL q (x i)))
  rw [sg_term (hw i xq)]; exact Rat.mul_nonneg (h i xq) (Rat.le_of_lt (Rat.inv_pos.2 (hw i xq))))
 rw [lev_dd hx hq, ← lvE_mul hx hw, Nat.zero_add] at h1
 exact nn_of_mul hS (by grind)
theorem lev1 (hx : Asc x n) (hw : ∀ i, i ≤ n → 0 < w i) (hq : q.length ≤ n) (h : ∀ i, i ≤ n → 0 ≤ c + e * (sg1 i * er x w y q i)) (hs : ∃ i, i ≤ n ∧ 0 < c + e * (sg1 i * er x w y q i)) : 0 < c + e * lvE x w y n := by
 have hS := lvS_pos hx hw
 obtain ⟨j, hj, hp⟩ := hs
 have h1 := dd_alts hx n 0 xq (g := fun i => c * (sg1 i / w i) + e * (y i - evL q (x i))) (fun i _ hi => by
  show 0 ≤ sg1 i * (c * (sg1 i / w i) + e * (y i - evL q (x i)))
  rw [sg_term (hw i xq)]; exact Rat.mul_nonneg (h i xq) (Rat.le_of_lt (Rat.inv_pos.2 (hw i xq)))) ⟨j, Nat.zero_le _, by omega, by
  show 0 < sg1 j * (c * (sg1 j / w j) + e * (y j - evL q (x j)))
  rw [sg_term (hw j hj)]; exact Rat.mul_pos hp (Rat.inv_pos.2 (hw j hj))⟩
 rw [lev_dd hx hq, ← lvE_mul hx hw, Nat.zero_add] at h1
 exact pos_of_mul hS (by grind)
theorem le1 {a b : Rat} (h : a ≤ b) : 0 ≤ -a + 1 * b := by grind
theorem le2 {a b : Rat} (h : a ≤ -b) : 0 ≤ -a + -1 * b := by grind
theorem le3 {a b : Rat} (h : -a ≤ b) : 0 ≤ a + 1 * b := by grind
theorem le4 {a b : Rat} (h : b ≤ a) : 0 ≤ a + -1 * b := by grind
theorem le5 {a b : Rat} (h : - -a ≤ b) : 0 ≤ -a + 1 * b := by grind
theorem lt1 {a b : Rat} (h : a < b) : 0 < -a + 1 * b := by grind
theorem lt2 {a b : Rat} (h : a < -b) : 0 < -a + -1 * b := by grind
theorem lt4 {a b : Rat} (h : b < a) : 0 < a + -1 * b := by grind
theorem vallee (hx : Asc x n) (hw : ∀ i, i ≤ n → 0 < w i) (hq : q.length ≤ n) (h : ∀ i, i ≤ n → δ ≤ sg1 i * er x w y q i) : δ ≤ lvE x w y n := by
 have := lev0 (c := -δ) (e := 1) hx hw hq (fun i hi => le1 (h i hi))
 grind
theorem vallee' (hx : Asc x n) (hw : ∀ i, i ≤ n → 0 < w i) (hq : q.length ≤ n) (h : ∀ i, i ≤ n → δ ≤ -(sg1 i * er x w y q i)) : δ ≤ -lvE x w y n := by
 have := lev0 (c := -δ) (e := -1) hx hw hq (fun i hi => le2 (h i hi))
 grind
theorem lev_max (hx : Asc x n) (hw : ∀ i, i ≤ n → 0 < w i) (hq : q.length ≤ n) (h : ∀ i, i ≤ n → -M ≤ er x w y q i ∧ er x w y q i ≤ M) : -M ≤ lvE x w y n ∧ lvE x w y n ≤ M := by
 have hs : ∀ i, i ≤ n → -M ≤ sg1 i * er x w y q i ∧ sg1 i * er x w y q i ≤ M := fun i hi => by
  have := h i hi
  unfold sg1; split <;> grind
 have h1 := lev0 (c := M) (e := 1) hx hw hq (fun i hi => le3 (hs i hi).1)
 have h2 := lev0 (c := M) (e := -1) hx hw hq (fun i hi => le4 (hs i hi).2)
 grind
theorem lev_eq (hx : Asc x n) (hw : ∀ i, i ≤ n → 0 < w i) (hq : q.length ≤ n) (h : ∀ i, i ≤ n → -M ≤ er x w y q i ∧ er x w y q i ≤ M) (hM : M = lvE x w y n ∨ M = -lvE x w y n) : ∀ i, i ≤ n → er x w y q i = sg1 i * lvE x w y n := by
 have hs : ∀ i, i ≤ n → -M ≤ sg1 i * er x w y q i ∧ sg1 i * er x w y q i ≤ M := fun i hi => by
  have := h i hi
  unfold sg1; split <;> grind
 have ht : ∀ i, i ≤ n → sg1 i * er x w y q i = lvE x w y n := fun i hi => by
  rcases hM with rfl | rfl
  ·refine Rat.le_antisymm (hs i hi).2 (Rat.not_lt.1 fun hc => ?_)
   have := lev1 (c := lvE x w y n) (e := -1) hx hw hq (fun i hi => le4 (hs i hi).2) ⟨i, hi, lt4 hc⟩
   grind
  refine Rat.le_antisymm (Rat.not_lt.1 fun hc => ?_) (Rat.le_trans (by rw [Rat.neg_neg]; exact Rat.le_refl) (hs i hi).1)
  have := lev1 (c := -lvE x w y n) (e := 1) hx hw hq (fun i hi => le5 (hs i hi).1) ⟨i, hi, lt1 hc⟩
  grind
 intro i hi
 rw [← ht i hi, ← Rat.mul_assoc, sg1_sq, Rat.one_mul]
theorem lev_grow (hx : Asc x n) (hw : ∀ i, i ≤ n → 0 < w i) (hq : q.length ≤ n) (h : ∀ i, i ≤ n → δ ≤ sg1 i * er x w y q i) (hs : ∃ i, i ≤ n ∧ δ < sg1 i * er x w y q i) : δ < lvE x w y n := by
 obtain ⟨j, hj, hp⟩ := hs
 have := lev1 (c := -δ) (e := 1) hx hw hq (fun i hi => le1 (h i hi)) ⟨j, hj, lt1 hp⟩
 grind
theorem lev_grow' (hx : Asc x n) (hw : ∀ i, i ≤ n → 0 < w i) (hq : q.length ≤ n) (h : ∀ i, i ≤ n → δ ≤ -(sg1 i * er x w y q i)) (hs : ∃ i, i ≤ n ∧ δ < -(sg1 i * er x w y q i)) : δ < -lvE x w y n := by
 obtain ⟨j, hj, hp⟩ := hs
 have := lev1 (c := -δ) (e := -1) hx hw hq (fun i hi => le2 (h i hi)) ⟨j, hj, lt2 hp⟩
 grind
theorem co_takeX {l : List Rat} (k : Nat) : co (l.take n) k = if k < n then co l k else 0 := by
 unfold co
 rw [List.getD_eq_getElem?_getD, List.getD_eq_getElem?_getD, List.getElem?_take]
 split <;> rfl
theorem known0 {N : Nat} (hx : Asc x N) : ∀ (n : Nat) (r : List Rat), r.length ≤ n → n ≤ N + 1 → (∀ i, i < n → evL r (x i) = 0) → ∀ k, co r k = 0
 | 0, r, hl, _, _, k => co_ge xq
 | n + 1, r, hl, hn, h, k => by
  have h1 : co r n = 0 := by
   have h2 := dd_poly hx n r 0 hl xq
   rw [dd_congr (h := fun _ => 0) (fun i _ hi => h i xq), dd_null] at h2
   exact h2.symm
  have h3 : ∀ i, co r i = co (r.take n) i := fun i => by
   rw [co_takeX]
   by_cases hi : i < n
   ·rw [if_pos hi]
   rw [if_neg hi]
   by_cases e : i = n
   ·rw [e]; exact h1
   exact co_ge xq
  rw [h3]
  exact known0 hx n (r.take n) (by rw [List.length_take]; omega) xq (fun i hi => by rw [← evL_congr h3]; exact h i xq) k
theorem poly_known {N : Nat} (hx : Asc x N) {n : Nat} {p q : List Rat} (hp : p.length ≤ n) (hq : q.length ≤ n) (hn : n ≤ N + 1) (h : ∀ i, i < n → evL p (x i) = evL q (x i)) (k : Nat) : co p k = co q k := by
 have h1 := known0 hx n (addQ p (q.map (· * (-1)))) (by rw [addQ_len, List.length_map]; omega) hn (fun i hi => by
  rw [← evL_trim, ev_addL, evL_map, h i hi]; grind) k
 rw [addQ_co, co_map (fun z => z * (-1)) (Rat.zero_mul _)] at h1
 grind
end
end Nt
namespace Nt
open Pol
def ab (x : Rat) : Rat := if x < 0 then -x else x
theorem ab_l1 {a x : Rat} (h : a < x) : a < ab x := by unfold ab; split <;> grind
theorem ab_l2 {a x : Rat} (h : a < -x) : a < ab x := by unfold ab; split <;> grind
theorem filter_lt {α : Type} {p q : α → Bool} (h : ∀ a, q a = true → p a = true) : ∀ {l : List α} {a : α}, a ∈ l → p a = true → q a = false → (l.filter q).length < (l.filter p).length := by
 have hle : ∀ l : List α, (l.filter q).length ≤ (l.filter p).length := fun l => by
  induction l with
  | nil => exact Nat.le_refl _
  | cons b l ih =>
   simp only [List.filter_cons]
   by_cases hq : q b = true
   ·rw [if_pos hq, if_pos (h b hq)]; simp only [List.length_cons]; omega
   rw [if_neg hq]; split
   ·simp only [List.length_cons]; omega
   exact ih
 intro l
 induction l with
 | nil => intro a ha; cases ha
 | cons b l ih =>
  intro a ha hp hq
  simp only [List.filter_cons]
  rcases List.mem_cons.1 ha with rfl | ha
  ·rw [if_pos hp, if_neg (by rw [hq]; decide)]
   have := hle l
   simp only [List.length_cons]; omega
  have h1 := ih ha hp hq
  by_cases hq9 : q b = true
  ·rw [if_pos hq9, if_pos (h b hq9)]; simp only [List.length_cons]; omega
  rw [if_neg hq9]; split
  ·simp only [List.length_cons]; omega
  exact h1
def allR (N : Nat) : Nat → List (List Nat)
 | 0 => [[]]
 | k + 1 => (List.range N).flatMap fun a => (allR N k).map (a :: ·)
theorem mem_allR {N : Nat} : ∀ (k : Nat) (l : List Nat), l.length = k → (∀ a ∈ l, a < N) → l ∈ allR N k
 | 0, l, hl, _ => by rw [List.eq_nil_of_length_eq_zero hl]; exact List.mem_singleton.2 rfl
 | k + 1, [], hl, _ => by cases hl
 | k + 1, a :: l, hl, h => by
  unfold allR
  refine List.mem_flatMap.2 ⟨a, List.mem_range.2 (h a List.mem_cons_self), List.mem_map.2 ⟨l, mem_allR k l (by simpa using hl) (fun b hb => h b (List.mem_cons_of_mem _ hb)), rfl⟩⟩
def exM (F : List Nat → Rat) (N k : Nat) (e : Rat) : Nat := ((allR N k).filter fun l => decide (e < F l)).length
theorem exM_lt {F : List Nat → Rat} {N k : Nat} {e : Rat} {l : List Nat} (hl : l.length = k) (h : ∀ a ∈ l, a < N) (he : e < F l) : exM F N k (F l) < exM F N k e := by
 refine filter_lt (fun m hm => by have h1 : F l < F m := of_decide_eq_true hm; exact decide_eq_true (by grind)) (mem_allR k l hl h) (decide_eq_true he) (decide_eq_false ?_)
 exact Rat.lt_irrefl
section
variable {X W Y : Nat → Rat} {N n at_ : Nat} {l : List Nat} {p q : List Rat} {E M : Rat}
structure Rf (N : Nat) (l : List Nat) (n : Nat) : Prop where
 len : l.length = n + 1
 asc : ∀ i j, i < j → j ≤ n → l.getD i 0 < l.getD j 0
 lt : ∀ i, i ≤ n → l.getD i 0 < N
def gE (X W Y : Nat → Rat) (q : List Rat) (a : Nat) : Rat := W a * (Y a - evL q (X a))
def rE (X W Y : Nat → Rat) (l : List Nat) : Rat := lvE (fun i => X (l.getD i 0)) (fun i => W (l.getD i 0)) (fun i => Y (l.getD i 0)) (l.length - 1)
structure Gr (X W : Nat → Rat) (N : Nat) : Prop where
 asc : ∀ a b, a < b → b < N → X a < X b
 pos : ∀ a, a < N → 0 < W a
theorem Rf.ascX (h : Rf N l n) (g : Gr X W N) : Asc (fun i => X (l.getD i 0)) n := fun i j hij hj => g.asc _ _ (h.asc i j hij hj) (h.lt j hj)
theorem Rf.mem (h : Rf N l n) : ∀ a ∈ l, a < N := fun a ha => by
 obtain ⟨i, hi, e⟩ := List.mem_iff_getElem.1 ha
 have h1 := h.lt i (by have := h.len; omega)
 rw [List.getD_eq_getElem?_getD, List.getElem?_eq_getElem hi] at h1
 rw [← e]; exact h1
theorem Rf.grow (h : Rf N l n) (g : Gr X W N) (hq : q.length ≤ n) (ha : (∀ i, i ≤ n → M ≤ sg1 i * gE X W Y q (l.getD i 0)) ∨ ∀ i, i ≤ n → M ≤ -(sg1 i * gE X W Y q (l.getD i 0))) (hs : ∃ i, i ≤ n ∧ M < ab (gE X W Y q (l.getD i 0))) (h0 : 0 ≤ M) : M < ab (rE X W Y l) := by
 have hn : l.length - 1 = n := by have := h.len; omega
 obtain ⟨j, hj, hp⟩ := hs
 unfold rE
 rw [hn]
 have hw : ∀ i, i ≤ n → 0 < (fun i => W (l.getD i 0)) i := fun i hi => g.pos _ (h.lt i hi)
 have key : ∀ z s : Rat, (s = 1 ∨ s = -1) → M < ab z → (M ≤ s * z → M < s * z) := fun z s hs h1 h2 => by
  unfold ab at h1
  rcases hs with rfl | rfl <;> split at h1 <;> grind
 have hsg : sg1 j = 1 ∨ sg1 j = -1 := by unfold sg1; split <;> simp
 rcases ha with ha | ha
 ·exact ab_l1 (lev_grow (h.ascX g) hw hq ha ⟨j, hj, key _ _ hsg hp (ha j hj)⟩)
 refine ab_l2 (lev_grow' (h.ascX g) hw hq ha ⟨j, hj, ?_⟩)
 have h1 := key (gE X W Y q (l.getD j 0)) (-sg1 j) (by rcases hsg with e | e <;> rw [e] <;> simp) hp (by have := ha j hj; rw [Rat.neg_mul]; exact this)
 rw [Rat.neg_mul] at h1
 exact h1
end
end Nt
namespace Nt
open Pol
section
variable {X W Y : Nat → Rat} {N n a pl : Nat} {l : List Nat} {p q : List Rat} {E M τ : Rat} {like : Bool}
def exL (l : List Nat) (a : Nat) (like : Bool) (pl : Nat) : List Nat :=
 if pl = 0 then (if like then a :: l.drop 1 else a :: l.take (l.length - 1))
 else if decide (pl % 2 = 1) = like then l.set (pl - 1) a
 else if pl < l.length then l.set pl a
 else l.drop 1 ++ [a]
structure ExS (l : List Nat) (a : Nat) (n : Nat) (m : List Nat) (j : Nat) (sh : Int) : Prop where
 len : m.length = n + 1
 jn : j ≤ n
 new : m.getD j 0 = a
 old : ∀ i, i ≤ n → i ≠ j → m.getD i 0 = l.getD (i + sh).toNat 0
theorem getD_set9 {l : List Nat} {i j : Nat} (hj : j < l.length) : (l.set j a).getD i 0 = if i = j then a else l.getD i 0 := by
 rw [List.getD_eq_getElem?_getD, List.getElem?_set]
 by_cases h : i = j
 ·subst h; rw [if_pos rfl, if_pos rfl, if_pos hj]; rfl
 rw [if_neg (fun e => h e.symm), if_neg h, List.getD_eq_getElem?_getD]
theorem ex_set (hl : l.length = n + 1) {j : Nat} (hj : j ≤ n) : ExS l a n (l.set j a) j 0 :=
 ⟨by rw [List.length_set]; exact hl, hj, by rw [getD_set9 xq, if_pos rfl], fun i hi hij => by rw [getD_set9 xq, if_neg hij, show ((i : Int) + 0).toNat = i by omega]⟩
theorem ex_front (hl : l.length = n + 1) : ExS l a n (a :: l.drop 1) 0 0 :=
 ⟨by simp; omega, Nat.zero_le _, rfl, fun i hi hij => by
  obtain ⟨k, rfl⟩ : ∃ k, i = k + 1 := ⟨i - 1, by omega⟩
  rw [show (((k + 1 : Nat) : Int) + 0).toNat = 1 + k by omega, List.getD_cons_succ, List.getD_eq_getElem?_getD, List.getElem?_drop, List.getD_eq_getElem?_getD]⟩
theorem ex_left (hl : l.length = n + 1) : ExS l a n (a :: l.take (l.length - 1)) 0 (-1) :=
 ⟨by simp; omega, Nat.zero_le _, rfl, fun i hi hij => by
  obtain ⟨k, rfl⟩ : ∃ k, i = k + 1 := ⟨i - 1, by omega⟩
  rw [show (((k + 1 : Nat) : Int) + -1).toNat = k by omega, List.getD_cons_succ, List.getD_eq_getElem?_getD, List.getElem?_take, if_pos xq, List.getD_eq_getElem?_getD]⟩
theorem ex_right (hl : l.length = n + 1) : ExS l a n (l.drop 1 ++ [a]) n 1 :=
 ⟨by simp; omega, Nat.le_refl _, by
  rw [List.getD_eq_getElem?_getD, List.getElem?_append_right yz, List.length_drop, hl, show n - (n + 1 - 1) = 0 by omega]; rfl, fun i hi hij => by
  rw [show ((i : Int) + 1).toNat = 1 + i by omega, List.getD_eq_getElem?_getD, List.getElem?_append_left yz, List.getElem?_drop, List.getD_eq_getElem?_getD]⟩
theorem exL_S (hl : l.length = n + 1) (hp : pl ≤ n + 1) : ∃ j sh, ExS l a n (exL l a like pl) j sh ∧ ((sh = 0 ∧ (pl = 0 ∧ j = 0 ∧ like = true ∨ 0 < pl ∧ j = pl - 1 ∧ decide (pl % 2 = 1) = like ∨ 0 < pl ∧ pl ≤ n ∧ j = pl ∧ decide (pl % 2 = 1) ≠ like)) ∨ (sh = -1 ∧ pl = 0 ∧ j = 0 ∧ like = false) ∨ (sh = 1 ∧ pl = n + 1 ∧ j = n ∧ decide (pl % 2 = 1) ≠ like)) := by
 unfold exL
 by_cases h0 : pl = 0
 ·rw [if_pos h0]
  cases like with
  | true => exact ⟨0, 0, ex_front hl, .inl ⟨rfl, .inl ⟨h0, rfl, rfl⟩⟩⟩
  | false => exact ⟨0, -1, ex_left hl, .inr (.inl ⟨rfl, h0, rfl, rfl⟩)⟩
 rw [if_neg h0]
 by_cases h1 : decide (pl % 2 = 1) = like
 ·rw [if_pos h1]; exact ⟨pl - 1, 0, ex_set hl xq, .inl ⟨rfl, .inr (.inl ⟨by omega, rfl, h1⟩)⟩⟩
 rw [if_neg h1]
 by_cases h2 : pl < l.length
 ·rw [if_pos h2]; exact ⟨pl, 0, ex_set hl xq, .inl ⟨rfl, .inr (.inr ⟨by omega, by omega, rfl, h1⟩)⟩⟩
 rw [if_neg h2]; exact ⟨n, 1, ex_right hl, .inr (.inr ⟨rfl, by omega, rfl, h1⟩)⟩
theorem exL_Rf (h : Rf N l n) (ha : a < N) (hp : pl ≤ n + 1) (h1 : ∀ i, i < pl → l.getD i 0 < a) (h2 : ∀ i, pl ≤ i → i ≤ n → a < l.getD i 0) : Rf N (exL l a like pl) n := by
 obtain ⟨j, sh, hS, hc⟩ := exL_S (like := like) (a := a) h.len hp
 have hlo : ∀ i, i < j → i ≤ n → (i + sh).toNat ≤ n ∧ l.getD (i + sh).toNat 0 < a := fun i hi hn => by
  refine ⟨by omega, h1 _ ?_⟩; omega
 have hhi : ∀ i, j < i → i ≤ n → (i + sh).toNat ≤ n ∧ a < l.getD (i + sh).toNat 0 := fun i hi hn => by
  refine ⟨by omega, h2 _ ?_ ?_⟩ <;> omega
 refine ⟨hS.len, fun i k hik hk => ?_, fun i hi => ?_⟩
 ·by_cases e1 : i = j
  ·subst e1
   rw [hS.new, hS.old k hk xq]; exact (hhi k hik hk).2
  by_cases e2 : k = j
  ·subst e2
   rw [hS.new, hS.old i xq e1]; exact (hlo i hik xq).2
  rw [hS.old i xq e1, hS.old k hk e2]
  have b1 : (k + sh).toNat ≤ n := by
   by_cases e3 : k < j
   ·exact (hlo k e3 hk).1
   exact (hhi k xq hk).1
  have b2 : (i + sh).toNat < (k + sh).toNat := by omega
  exact h.asc _ _ b2 b1
 by_cases e1 : i = j
 ·rw [e1, hS.new]; exact ha
 rw [hS.old i hi e1]
 by_cases e3 : i < j
 ·exact Nat.lt_trans (hlo i e3 hi).2 ha
 exact h.lt _ (hhi i xq hi).1
theorem sg_sh {i : Nat} {s : Int} (h : s = 1 ∨ s = -1) (hi : 0 ≤ i + s) : sg1 i * sg1 (i + s).toNat = -1 := by
 have e := sg1_sq
 rcases h with rfl | rfl
 ·rw [show ((i : Int) + 1).toNat = i + 1 by omega, sg1_s]; have := e i; grind
 obtain ⟨k, rfl⟩ : ∃ k, i = k + 1 := ⟨i - 1, by omega⟩
 rw [show (((k + 1 : Nat) : Int) + -1).toNat = k by omega, sg1_s]; have := e k; grind
theorem sg_even {i : Nat} (h : i % 2 = 0) : sg1 i = 1 := by unfold sg1; rw [if_pos h]
theorem sg_odd {i : Nat} (h : i % 2 = 1) : sg1 i = -1 := by unfold sg1; rw [if_neg xq]
theorem ab_of {z : Rat} (hτ : τ = 1 ∨ τ = -1) (h : 0 < τ * z) : τ * z = ab z := by
 unfold ab; rcases hτ with rfl | rfl <;> split <;> grind
theorem gr_pick {S : Nat → Rat} (hτ : τ = 1 ∨ τ = -1) (h : ∀ i, i ≤ n → M ≤ τ * S i) : (∀ i, i ≤ n → M ≤ S i) ∨ ∀ i, i ≤ n → M ≤ -S i := by
 rcases hτ with rfl | rfl
 ·exact .inl fun i hi => by have := h i hi; rw [Rat.one_mul] at this; exact this
 exact .inr fun i hi => by have := h i hi; rw [Rat.neg_mul, Rat.one_mul] at this; exact this
theorem exL_grow (h : Rf N l n) (g : Gr X W N) (ha : a < N) (hp : pl ≤ n + 1) (h1 : ∀ i, i < pl → l.getD i 0 < a) (h2 : ∀ i, pl ≤ i → i ≤ n → a < l.getD i 0) (hq : q.length ≤ n) (he : ∀ i, i ≤ n → gE X W Y q (l.getD i 0) = sg1 i * E) (hτ : τ = 1 ∨ τ = -1) (hE : τ * E = ab E) (hM : ab E < ab (gE X W Y q a)) (hl : if like then 0 < τ * gE X W Y q a else 0 < -τ * gE X W Y q a) : ab E < ab (rE X W Y (exL l a like pl)) := by
 have hR := exL_Rf (like := like) h ha hp h1 h2
 obtain ⟨j, sh, hS, hc⟩ := exL_S (like := like) (a := a) h.len hp
 have hE0 : 0 ≤ ab E := by unfold ab; split <;> grind
 have hnτ : -τ = 1 ∨ -τ = -1 := by rcases hτ with e | e <;> rw [e] <;> simp
 refine hR.grow (q := q) g hq ?_ ⟨j, hS.jn, by rw [hS.new]; exact hM⟩ hE0
 generalize hz : gE X W Y q a = z at *
 have hold : ∀ i, i ≤ n → i ≠ j → (i + sh).toNat ≤ n ∧ 0 ≤ i + sh := fun i hi hij => by omega
 rcases hc with ⟨hs, hc⟩ | hc
 ·refine gr_pick hτ fun i hi => ?_
  by_cases e : i = j
  ·subst e
   rw [hS.new, hz]
   have hsz : 0 < τ * (sg1 i * z) := by
    rcases hc with ⟨_, hj, hk⟩ | ⟨hj0, hj, hk⟩ | ⟨_, _, hj, hk⟩
    ·rw [hk, if_pos rfl] at hl; rw [hj, sg_even rfl, Rat.one_mul]; exact hl
    ·cases like with
     | true => rw [if_pos rfl] at hl; rw [sg_even (by have := of_decide_eq_true hk; omega), Rat.one_mul]; exact hl
     | false => rw [if_neg yq] at hl; rw [sg_odd (by have := of_decide_eq_false hk; omega)]; grind
    cases like with
    | true => rw [if_pos rfl] at hl; rw [sg_even (by have : ¬ pl % 2 = 1 := fun e => hk (decide_eq_true e); omega), Rat.one_mul]; exact hl
    | false => rw [if_neg yq] at hl; rw [sg_odd (by refine Classical.byContradiction fun e => hk (decide_eq_false xq))]; grind
   have hab : ab (sg1 i * z) = ab z := by unfold sg1 ab; split <;> split <;> split <;> grind
   rw [ab_of hτ hsz, hab]; exact Rat.le_of_lt hM
  rw [hS.old i hi e, hs, show ((i : Int) + 0).toNat = i by omega, he i hi, ← Rat.mul_assoc (sg1 i), sg1_sq, Rat.one_mul, hE]; exact Rat.le_refl
 refine gr_pick hnτ fun i hi => ?_
 have hs : sh = 1 ∨ sh = -1 := by rcases hc with hc | hc <;> simp [hc.1]
 by_cases e : i = j
 ·subst e
  rw [hS.new, hz]
  have hsz : 0 < -τ * (sg1 i * z) := by
   rcases hc with ⟨_, _, hj, hk⟩ | ⟨_, hpn, hj, hk⟩
   ·rw [hk, if_neg yq] at hl; rw [hj, sg_even rfl, Rat.one_mul]; exact hl
   cases like with
   | true => rw [if_pos rfl] at hl; rw [sg_odd (by have : ¬ pl % 2 = 1 := fun e => hk (decide_eq_true e); omega)]; grind
   | false => rw [if_neg yq] at hl; rw [sg_even (by have : pl % 2 = 1 := Classical.byContradiction fun e => hk (decide_eq_false e); omega), Rat.one_mul]; exact hl
  have hab : ab (sg1 i * z) = ab z := by unfold sg1 ab; split <;> split <;> split <;> grind
  rw [ab_of hnτ hsz, hab]; exact Rat.le_of_lt hM
 have hb := hold i hi e
 rw [hS.old i hi e, he _ hb.1, ← Rat.mul_assoc (sg1 i), sg_sh hs hb.2, ← hE]
 have : -τ * (-1 * E) = τ * E := by grind
 rw [this]; exact Rat.le_refl
end
end Nt
namespace Nt
open Pol
section
variable {X W Y : Nat → Rat} {N n a : Nat} {l m : List Nat} {p q : List Rat} {E M : Rat}
theorem ab_le {x : Rat} : -M ≤ x ∧ x ≤ M ↔ ab x ≤ M := by unfold ab; split <;> constructor <;> intro h <;> grind
theorem ab_pm (x : Rat) : ab x = x ∨ ab x = -x := by unfold ab; split <;> simp
theorem ab_nn (x : Rat) : 0 ≤ ab x := by unfold ab; split <;> grind
theorem rE_n (h : Rf N l n) : rE X W Y l = lvE (fun i => X (l.getD i 0)) (fun i => W (l.getD i 0)) (fun i => Y (l.getD i 0)) n := by
 unfold rE; rw [show l.length - 1 = n by have := h.len; omega]
theorem Rf.max (h : Rf N l n) (g : Gr X W N) (hq : q.length ≤ n) (hm : ∀ i, i ≤ n → ab (gE X W Y q (l.getD i 0)) ≤ M) : ab (rE X W Y l) ≤ M := by
 have hn : l.length - 1 = n := by have := h.len; omega
 unfold rE
 rw [hn]
 exact ab_le.1 (lev_max (h.ascX g) (fun i hi => g.pos _ (h.lt i hi)) hq (fun i hi => ab_le.2 (hm i hi)))
theorem Rf.eq (h : Rf N l n) (g : Gr X W N) (hq : q.length ≤ n) (hm : ∀ i, i ≤ n → ab (gE X W Y q (l.getD i 0)) ≤ ab (rE X W Y l)) : ∀ i, i ≤ n → gE X W Y q (l.getD i 0) = sg1 i * rE X W Y l := by
 have e := rE_n (X := X) (W := W) (Y := Y) h
 rw [e] at hm ⊢
 exact lev_eq (h.ascX g) (fun i hi => g.pos _ (h.lt i hi)) hq (fun i hi => ab_le.2 (hm i hi)) (ab_pm _)
theorem Rf.uniq (h : Rf N l n) (g : Gr X W N) (hp : p.length ≤ n) (hq : q.length ≤ n) (he : ∀ i, i ≤ n → gE X W Y p (l.getD i 0) = gE X W Y q (l.getD i 0)) (k : Nat) : co p k = co q k := by
 refine poly_known (h.ascX g) hp hq xq (fun i hi => ?_) k
 have hw := g.pos _ (h.lt i xq)
 have h1 := he i xq
 unfold gE at h1
 have h2 : Y (l.getD i 0) - evL p (X (l.getD i 0)) = Y (l.getD i 0) - evL q (X (l.getD i 0)) := by
  have h3 : W (l.getD i 0) * (W (l.getD i 0))⁻¹ = 1 := Rat.mul_inv_cancel _ (fun e => by rw [e] at hw; grind)
  generalize (W (l.getD i 0))⁻¹ = v at h3
  have h4 : ∀ z : Rat, z = v * (W (l.getD i 0) * z) := fun z => by
   rw [← Rat.mul_assoc, Rat.mul_comm v, h3, Rat.one_mul]
  rw [h4 (Y (l.getD i 0) - evL p (X (l.getD i 0))), h1, ← h4]
 grind
structure Bst (X W Y : Nat → Rat) (N n : Nat) (p : List Rat) (l : List Nat) : Prop where
 rf : Rf N l n
 len : p.length ≤ n
 max : ∀ a, a < N → ab (gE X W Y p a) ≤ ab (rE X W Y l)
theorem Bst.le (h : Bst X W Y N n p l) (g : Gr X W N) (hq : q.length ≤ n) (hm : ∀ a, a < N → ab (gE X W Y q a) ≤ M) : ab (rE X W Y l) ≤ M := h.rf.max g hq (fun i hi => hm _ (h.rf.lt i hi))
theorem Bst.uniq (h : Bst X W Y N n p l) (g : Gr X W N) (hq : q.length ≤ n) (hm : ∀ a, a < N → ab (gE X W Y q a) ≤ ab (rE X W Y l)) (k : Nat) : co p k = co q k := by
 have h1 := h.rf.eq g h.len (fun i hi => h.max _ (h.rf.lt i hi))
 have h2 := h.rf.eq g hq (fun i hi => hm _ (h.rf.lt i hi))
 exact h.rf.uniq g h.len hq (fun i hi => (h1 i hi).trans (h2 i hi).symm) k
theorem Bst.same (h : Bst X W Y N n p l) (h2 : Bst X W Y N n q m) (g : Gr X W N) : ab (rE X W Y l) = ab (rE X W Y m) ∧ ∀ k, co p k = co q k := by
 have e : ab (rE X W Y l) = ab (rE X W Y m) := Rat.le_antisymm (h.le g h2.len h2.max) (h2.le g h.len h.max)
 exact ⟨e, fun k => h.uniq g h2.len (fun a ha => by rw [e]; exact h2.max a ha) k⟩
theorem Bst.at (h : Bst X W Y N n p l) (g : Gr X W N) (i : Nat) (hi : i ≤ n) : gE X W Y p (l.getD i 0) = sg1 i * rE X W Y l := h.rf.eq g h.len (fun i hi => h.max _ (h.rf.lt i hi)) i hi
theorem ab_sg (i : Nat) (x : Rat) : ab (sg1 i * x) = ab x := by unfold sg1 ab; split <;> split <;> split <;> grind
theorem Bst.at_ab (h : Bst X W Y N n p l) (g : Gr X W N) (i : Nat) (hi : i ≤ n) : ab (gE X W Y p (l.getD i 0)) = ab (rE X W Y l) := by rw [h.at g i hi, ab_sg]
end
end Nt
namespace Nt
open Pol
section
variable {x w y g c : Nat → Rat} {n i j m : Nat} {z E : Rat}
def nP (x g : Nat → Rat) (z : Rat) : Nat → Rat
 | 0 => 0
 | i + 1 => nP x g z i + dd x g i 0 * om x 0 z i
theorem nP_nwt : ∀ n, nP x g z (n + 1) = nwt x g 0 z n
 | 0 => by show 0 + g 0 * 1 = g 0; grind
 | n + 1 => by
  show nP x g z (n + 1) + dd x g (n + 1) 0 * om x 0 z (n + 1) = _
  rw [nP_nwt n]; rfl
def nT (x c : Nat → Rat) (z : Rat) : Nat → Nat → Rat
 | 0, i => 0
 | j + 1, i => c i + (z - x i) * nT x c z j (i + 1)
theorem nP_nT : ∀ j i, nP x g z i + om x 0 z i * nT x (fun t => dd x g t 0) z j i = nP x g z (i + j)
 | 0, i => by show nP x g z i + om x 0 z i * 0 = nP x g z i; grind
 | j + 1, i => by
  have h := nP_nT j (i + 1)
  have e1 : nP x g z (i + 1) = nP x g z i + dd x g i 0 * om x 0 z i := rfl
  have e2 : om x 0 z (i + 1) = om x 0 z i * (z - x (0 + i)) := rfl
  rw [Nat.zero_add] at e2
  show nP x g z i + om x 0 z i * (dd x g i 0 + (z - x i) * nT x (fun t => dd x g t 0) z j (i + 1)) = _
  rw [show i + (j + 1) = i + 1 + j by omega, ← h, e1, e2]
  grind
def nwL (x c : Nat → Rat) (n : Nat) : Nat → List Rat
 | 0 => []
 | j + 1 => trimQ (addQ (trimQ (mulQ (nwL x c n j) [-x (n - (j + 1)), ((1 : Int) : Rat)])) [c (n - (j + 1))])
theorem nwL_len : ∀ j, (nwL x c n j).length ≤ j
 | 0 => Nat.le_refl _
 | j + 1 => Nat.le_trans (zzh _) (by
  rw [addQ_len]
  have h := zxt (nwL_len j) (show ([-x (n - (j + 1)), ((1 : Int) : Rat)] : List Rat).length ≤ 2 from Nat.le_refl 2)
  have h1 : ([c (n - (j + 1))] : List Rat).length = 1 := rfl
  omega)
theorem nwL_ev : ∀ j, j ≤ n → evL (nwL x c n j) z = nT x c z j (n - j)
 | 0, _ => rfl
 | j + 1, hj => by
  show evL (trimQ (addQ (trimQ (mulQ (nwL x c n j) [-x (n - (j + 1)), ((1 : Int) : Rat)])) [c (n - (j + 1))])) z = c (n - (j + 1)) + (z - x (n - (j + 1))) * nT x c z j (n - (j + 1) + 1)
  rw [ev_addL, ev_mulL, nwL_ev j xq, show n - (j + 1) + 1 = n - j by omega]
  have e1 : evL [-x (n - (j + 1)), ((1 : Int) : Rat)] z = z - x (n - (j + 1)) := by
   show -x (n - (j + 1)) + z * (((1 : Int) : Rat) + z * 0) = _
   rw [show ((1 : Int) : Rat) = 1 from rfl]; grind
  have e2 : evL [c (n - (j + 1))] z = c (n - (j + 1)) := by show _ + z * 0 = _; grind
  rw [e1, e2]; grind
theorem lvl_ok (hx : Asc x n) (hw : ∀ i, i ≤ n → 0 < w i) (h1 : 1 ≤ n) (hc : ∀ i, i < n → c i = dd x y i 0 - lvE x w y n * dd x (fun i => sg1 i / w i) i 0) (hm : m ≤ n) : w m * (y m - evL (nwL x c n n) (x m)) = sg1 m * lvE x w y n := by
 have hg : ∀ t, dd x (fun i => -lvE x w y n * (sg1 i / w i) + y i) t 0 = dd x y t 0 - lvE x w y n * dd x (fun i => sg1 i / w i) t 0 := fun t => by
  rw [dd_lin (c := -lvE x w y n) (g := fun i => sg1 i / w i) (h := y)]; grind
 have h0 : dd x (fun i => -lvE x w y n * (sg1 i / w i) + y i) n 0 = 0 := by
  rw [hg, ← lvE_mul hx hw]; unfold lvS; grind
 have hT : ∀ j i z, i + j ≤ n → nT x c z j i = nT x (fun t => dd x (fun i => -lvE x w y n * (sg1 i / w i) + y i) t 0) z j i := fun j => by
  induction j with
  | zero => intro i z _; rfl
  | succ j ih =>
   intro i z hi
   show c i + (z - x i) * nT x c z j (i + 1) = _
   rw [ih (i + 1) z xq, hc i xq, ← hg]; rfl
 have h2 : evL (nwL x c n n) (x m) = nwt x (fun i => -lvE x w y n * (sg1 i / w i) + y i) 0 (x m) n := by
  rw [nwL_ev n (Nat.le_refl _), Nat.sub_self, hT n 0 _ xq]
  have h3 := nP_nT (x := x) (g := fun i => -lvE x w y n * (sg1 i / w i) + y i) (z := x m) n 0
  obtain ⟨k, rfl⟩ : ∃ k, n = k + 1 := ⟨n - 1, by omega⟩
  have h4 : nwt x (fun i => -lvE x w y (k + 1) * (sg1 i / w i) + y i) 0 (x m) (k + 1) = nwt x (fun i => -lvE x w y (k + 1) * (sg1 i / w i) + y i) 0 (x m) k := by
   show _ + dd x (fun i => -lvE x w y (k + 1) * (sg1 i / w i) + y i) (k + 1) 0 * _ = _
   rw [h0]; grind
  rw [Nat.zero_add] at h3
  rw [h4, ← nP_nwt, ← h3]
  show _ = 0 + 1 * _
  grind
 have h5 := nwt_at (g := fun i => -lvE x w y n * (sg1 i / w i) + y i) hx n 0 m xq hm
 rw [Nat.zero_add] at h5
 rw [h2, h5]
 have hp := hw m hm
 have h6 : w m * (w m)⁻¹ = 1 := Rat.mul_inv_cancel _ (fun e => by rw [e] at hp; grind)
 show w m * (y m - (-lvE x w y n * (sg1 m / w m) + y m)) = _
 rw [Rat.div_def]
 generalize (w m)⁻¹ = v at h6
 have : w m * (y m - (-lvE x w y n * (sg1 m * v) + y m)) = (w m * v) * (sg1 m * lvE x w y n) := by grind
 rw [this, h6, Rat.one_mul]
end
end Nt
namespace Nt
section
variable {x y : Nat → Rat} {o i k : Nat}
def dT (x y : Nat → Rat) (o i : Nat) : Rat := dd x y (min o i) (i - min o i)
theorem dT_0 : dT x y 0 i = y i := by unfold dT; rw [Nat.zero_min]; rfl
theorem dT_s (h : o + 1 ≤ i) : dT x y (o + 1) i = (dT x y o i - dT x y o (i - 1)) / (x i - x (i - (o + 1))) := by
 unfold dT
 rw [Nat.min_eq_left h, Nat.min_eq_left (show o ≤ i by omega), Nat.min_eq_left (show o ≤ i - 1 by omega)]
 show (dd x y o (i - (o + 1) + 1) - dd x y o (i - (o + 1))) / (x (i - (o + 1) + o + 1) - x (i - (o + 1))) = _
 rw [show i - (o + 1) + 1 = i - o by omega, show i - (o + 1) + o + 1 = i by omega, show i - 1 - o = i - (o + 1) by omega]
theorem dT_keep (h : i ≤ o) : dT x y (o + 1) i = dT x y o i := by
 unfold dT; rw [Nat.min_eq_right (show i ≤ o + 1 by omega), Nat.min_eq_right h]
theorem dT_end (h : i ≤ k) : dT x y k i = dd x y i 0 := by
 unfold dT; rw [Nat.min_eq_right h, Nat.sub_self]
end
end Nt
open Go.RowKit
section
variable {P : Program} {ops : Array Oper} {w0 : Base} {u0 : World} {S T : St} {B : Tmp → Nat} {a : Act} {w w' u u' : World} {o : Oper} {p : List Tmp} {seq : Bool} {rest : List (Oper × List Tmp)} {K : St → World → Prop}
def SL (P : Program) (w0 : Base) (u0 : World) (ops : Array Oper) (l : List Oper) (S : St) (u : World) (Q : MP) : Prop :=
 ∀ B a w u', Ext u u' → Rep w0 u0 S B a w u' → wpList P ops (fun e a' w' => ∃ S' B' u'', Rep w0 u0 S' B' a' w' u'' ∧ Q.f e S' u'') l a w
end
theorem sy_maxN {P : Program} {ops : Array Oper} {w0 : Base} {u0 : World} {S : St} {u : World} {seq : Bool} {o : Oper} {p : List Tmp} {rest : List (Oper × List Tmp)} {K : St → World → Prop} (d : Tmp) {x y : Operand} {k0 : IntKind} {n m v : Int} {tys : Array TypeId} (hv : (if m > n then m else n) = v)
  (k : sym P ops w0 u0 seq rest (S.set d (.v (.int k0 v))) u K)
  (hw : Wants ops o S := by exact zwf xj) (hd : o.dst = some d := by kernel_rfl) (hop : o.op = .call { callee := .builtin .max, args := #[x, y], argTypes := tys } := by rfl) (hf : freeB S d = true := by kernel_rfl)
  (hx : evO S x = some (.v (.int k0 n)) := by rfl) (hy : evO S y = some (.v (.int k0 m)) := by rfl) : sym P ops w0 u0 seq ((o, p) :: rest) S u K := by
 have hrun : ∀ ty w, (Builtin.max_ tys ty #[.int k0 n, .int k0 m]).run P w = .ok (.int k0 v) w := by
  intro ty w
  rw [← hv]
  rfl
 refine .inl ⟨by rw [hop]; exact (by decide : (0 : Nat) ≠ 2), .set (.v (.int k0 v)), ⟨zxy hd hf, .inl ⟨(fun t ht => by cases ht), fun B a w u' hr he hdt => ⟨hw B a hr, ?_⟩⟩⟩, ?_⟩
 ·unfold execOp
  simp only [hop, resolve, invoke, builtin, Sem.run_bind, Sem.run_pure, Result.andThen_ok, List.map_toArray, List.map_cons, List.map_nil, ev_of hr hx, ev_of hr hy, SV.conc, hrun]
 show sym P ops w0 u0 seq rest (S.put o.dst (some _)) u K
 rw [hd]; exact k
def setW (u : World) (b : Nat) (ob : Obj) : World := { u with heap := u.heap.setIfInBounds b ob }
structure ExtF (F : List Nat) (u u' : World) : Prop where
 size : u.heap.size ≤ u'.heap.size
 vis : ∀ (k : Nat) (o : Obj), k ∉ F → u.heap[k]? = some o → o ≠ hidO → u'.heap[k]? = some o
section
variable {P : Program} {ops : Array Oper} {w0 : Base} {u0 : World} {S T : St} {B : Tmp → Nat} {a : Act} {w w' u u' u'' v : World} {o : Oper} {p : List Tmp} {seq : Bool} {rest : List (Oper × List Tmp)} {K : St → World → Prop} {F : List Nat} {b : Nat} {ob : Obj}
theorem setW_size : (setW u b ob).heap.size = u.heap.size := by simp [setW]
theorem setW_ne {k : Nat} (h : k ≠ b) : (setW u b ob).heap[k]? = u.heap[k]? := by simp only [setW]; rw [Array.getElem?_setIfInBounds_ne (Ne.symm h)]
theorem setW_eq (h : b < u.heap.size) : (setW u b ob).heap[b]? = some ob := by simp [setW, h]
theorem ExtF.pre {u2 : World} (e : Ext u u') (h : ExtF F u' u2) : ExtF F u u2 := ⟨Nat.le_trans e.size h.size, fun k o hk ho hh => h.vis k o hk (e.vis k o ho hh) hh⟩
theorem ExtF.toB (h : ExtF [b] u u') : ExtB b u u' := ⟨h.size, fun k o hk ho hh => h.vis k o (by simpa using hk) ho hh⟩
theorem GrowF.extF (h : GrowF F u u') : ExtF F u u' := ⟨h.size, fun k o hk ho _ => (h.old k (zxa ho) hk).trans ho⟩
def MayB (w0 : Base) (u0 : World) (b : Nat) : Prop := u0.heap.size ≤ b ∨ b ∈ w0.free
theorem Rep.mut (h : Rep w0 u0 S B a w u) (hF : ∀ b ∈ F, MayB w0 u0 b ∧ ∃ ob, u.heap[b]? = some ob ∧ ob ≠ hidO) (hd : Dat u'' w') (hb : Bel ⟨w, none, F⟩ w') (hg : GrowF F u u'') : Rep w0 u0 S B a w' u'' := by
 have hno : ∀ b ∈ F, b < u0.heap.size → b ∈ w0.free := fun b hm hlt => by
  rcases (hF b hm).1 with h1 | h1
  ·omega
  exact h1
 refine ⟨h.regs, h.wf, h.defers, fun t V hV => ?_, h.inj, hd, h.base, ⟨Nat.le_trans h.grow.size hg.size, fun b hlt hf => ?_⟩, ?_⟩
 ·obtain ⟨v1, v2, v3⟩ := h.var t V hV
  have hn : B t ∉ F := fun hm => by
   obtain ⟨_, ob, e1, e2⟩ := hF _ hm
   rw [v2] at e1; injection e1 with e1; exact e2 e1.symm
  exact ⟨by rw [hb.block _ (zxa v1) (fun t e => by cases e) hn]; exact v1, by rw [hg.old _ (zxa v2) hn]; exact v2, v3⟩
 ·rw [hg.old b (Nat.lt_of_lt_of_le hlt h.grow.size) (fun hm => hf (hno b hm hlt))]
  exact h.grow.old b hlt hf
 have hbs := h.bel
 refine ⟨hb.os.trans hbs.os, hb.tape.trans hbs.tape, hb.output.trans hbs.output, Nat.le_trans hbs.size hb.size, fun k hk hl hf => ?_⟩
 rw [hb.block k (Nat.lt_of_lt_of_le hk hbs.size) (fun t e => by cases e) (fun hm => hf (hno k hm (by rw [h.base]; exact hk)))]
 exact hbs.block k hk hl hf
theorem setW_dat {cs : Array Value} {ty : TypeId} (h : Dat u w) (hw : w'.heap[b]? = some ob) (ho : OnlyB b w w') : Dat (setW u b ob) w' := by
 refine ⟨by rw [setW_size, h.size, ho.size], fun k o hk hh => ?_⟩
 by_cases e : k = b
 ·subst e
  have hlt := zxa hk
  rw [setW_size] at hlt
  rw [setW_eq hlt] at hk
  rw [hw]; exact hk
 rw [setW_ne e] at hk
 rw [ho.far k e]; exact h.vis k o hk hh
theorem setW_growF : GrowF [b] u (setW u b ob) := ⟨by rw [setW_size]; exact Nat.le_refl _, fun k hk hf => setW_ne (by simpa using hf)⟩
theorem onlyB_bel (h : OnlyB b w w') : Bel ⟨w, none, [b]⟩ w' := ⟨h.os, h.tape, h.output, Nat.le_of_eq h.size.symm, fun k hk _ hf => h.far k (by simpa using hf)⟩
theorem ev_any {z : Operand} {x : SV} (hr : RegOK S B a) (h : evO S z = some x) : a.eval z = x.conc B := ev_eval hr h
theorem sy_storeD {T : TypeId} {r : Tmp} {z : Operand} {v : Value} {agg : Bool} {n off : Nat} {cs : List Value} {ty : TypeId} (hub : u.heap[b]? = some (.cells cs.toArray ty (0, 0))) (hb : MayB w0 u0 b) (hT : TyIs P T agg n) (hl : off + n ≤ cs.length)
  (k : ∀ u1, u1.heap[b]? = some (.cells (setL cs off v.cells.toList).toArray ty (0, 0)) → ExtB b u u1 → sym P ops w0 u0 true rest S u1 K)
  (hw : Wants ops o S := by exact zwf xj) (hd : o.dst = none := by kernel_rfl) (hop : o.op = .store T (.tmp r) z := by rfl) (hr : S.reg r = some (.v (.pointer (some ⟨b, off, none⟩))) := by rfl) (hz : evO S z = some (.v v) := by rfl)
  (hn : v.cells.size = n := by kernel_rfl) (hone : v.cells.toList.all Value.oneCell' = true := by kernel_rfl) : sym P ops w0 u0 true ((o, p) :: rest) S u K := by
 refine .inr (.inr (.inl ⟨.inl rfl, fun B a w u' he hrep => ⟨hw B a hrep.regs, ?_⟩⟩))
 have hub' := he.cells hub
 have hwb := hrep.dat.ext.cells hub'
 obtain ⟨w', k1, k2, k3⟩ := run_storeCells (P := P) (b := b) (ty := ty) (base := off) v.cells.toList 0 w cs hwb yz (List.all_eq_true.1 hone)
 have hev : a.eval (.tmp r) = .pointer (some ⟨b, off, none⟩) := hrep.regs.eval hr
 have hez : a.eval z = v := ev_any hrep.regs hz
 have e2 : (Instr.storeAt T (.pointer (some ⟨b, off, none⟩)) v).run P w = .ok () w' := by
  have e3 : (Instr.storeAt T (.pointer (some ⟨b, off, none⟩)) v).run P w = (storeVar T ⟨b, off, none⟩ v).run P w := rfl
  rw [e3]
  unfold storeVar
  rw [run_bind_ok (hT w).2, if_neg (by simp [hn])]
  exact k1
 have e1 : (execOp a.eval o).run P w = .ok .skip w' := by
  have e4 : (execOp a.eval o).run P w = (do Instr.storeAt T (a.eval (.tmp r)) (a.eval z); pure Next.skip : Sem Next).run P w := by
   unfold execOp; rw [hop]
  rw [e4, hev, hez, run_bind_ok e2]
  rfl
 unfold Oper.wp
 rw [e1]
 simp only [Nat.add_zero] at k2
 have hlt := zxa hub'
 have hdat : Dat (setW u' b (.cells (setL cs off v.cells.toList).toArray ty (0, 0))) w' := setW_dat (cs := #[]) (ty := 0) hrep.dat k2 k3
 have hr2 := hrep.mut (F := [b]) (fun b' hm => by simp at hm; subst hm; exact ⟨hb, _, hub', by unfold hidO; intro e; cases e⟩) hdat (onlyB_bel k3) setW_growF
 refine ⟨S, B, _, _, ?_, (fun e => by cases e), (fun e => by cases e), Ext.refl _, k _ (setW_eq hlt) (ExtF.toB (.pre he setW_growF.extF))⟩
 rw [hd]; exact hr2
def PostF (F : List Nat) (u w : World) (Φ : Value → World → Prop) (e : Ending) (w' : World) : Prop :=
 ∃ v u', e = .returned v ∧ Dat u' w' ∧ Bel ⟨w, none, F⟩ w' ∧ GrowF F u u' ∧ Φ v u'
theorem calls_symF {f : FuncId} {fn : Func} {args : List Value} {Φ : Value → World → Prop} {rs : List ResultVar} {n : Nat} {c : Code} (hf : P.funcs[f]? = some fn) (hb : fn.body = some c) (hn : fn.ntmps = n) (hrs : fn.results = rs.toArray) (hargs : args.length ≤ n) (hl : rs.length ≤ 4) {w0 : World} (d : Dat u0 w0) (h : SW P ⟨w0, none, F⟩ u0 c (St.init n args) u0 (MP.fin P rs Φ)) :
  Calls P f args.toArray w0 (PostF F u0 w0 Φ) := by
 refine calls_of_wp hf hb (wp_mono (h (fun _ => 0) _ w0 u0 (Ext.refl _) ?_) ?_)
 ·refine ⟨⟨fun t x hx => ?_, by simp [St.init, hn]; omega⟩, ⟨fun r x t hx ht => ?_⟩, rfl, (fun t V h => by cases h), (fun t t' V V' h => by cases h), d, d.size, GrowF.refl _ _, ⟨rfl, rfl, rfl, Nat.le_refl _, fun _ _ _ _ => rfl⟩⟩
  ·simp only [St.init, Option.map_eq_some_iff] at hx
   obtain ⟨v, h1, rfl⟩ := hx
   have hlt : t < args.toArray.size := by have := (List.getElem?_eq_some_iff.1 h1).1; simpa using this
   rw [Array.getElem?_append_left hlt]
   show args.toArray[t]? = some v
   simpa using h1
  simp only [St.init, Option.map_eq_some_iff] at hx
  obtain ⟨v, h1, rfl⟩ := hx
  cases ht
 rintro ex a' w' ⟨S', B', u'', r1, r3⟩
 have key : (∃ xs pubs, resAll P S' rs xs ∧ (∀ t ∈ pubs, ∃ V, S'.var t = some V) ∧ ∀ B u1, Ext u'' u1 → Visible S' B u1 pubs → Φ (tupV (xs.map (SV.conc B))) u1) → a'.defers = [] ∧ ∃ v, (results fn a'.tmps).run P w' = .ok v w' ∧ PostF F u0 w0 Φ (.returned v) w' := by
  rintro ⟨xs, pubs, k1, k2, k3⟩
  refine ⟨r1.defers, _, results_eq hrs k1 r1 hl, _, pubW u'' w' (pubs.map B'), rfl, pubW_dat r1.dat, ⟨r1.bel.os, r1.bel.tape, r1.bel.output, r1.bel.size, fun k hk hl hf => r1.bel.block k hk (fun t e => by cases e) hf⟩, pubW_grow r1.grow (fun b hb => ?_), k3 B' _ (pubW_ext r1.dat) (fun t ht V hV => ?_)⟩
  ·obtain ⟨t, ht, rfl⟩ := List.mem_map.1 hb
   obtain ⟨V, hV⟩ := k2 t ht
   have ho := (r1.var t V hV).2.2
   rcases Nat.lt_or_ge t S'.n with hs3 | hs3
   ·exact ho.1 hs3
   exact absurd (ho.2 hs3) zv
  obtain ⟨v1, v2, _⟩ := r1.var t V hV
  rw [pubW_in (List.mem_map_of_mem ht) (zxa v2) r1.dat.size]
  exact v1
 cases ex with
 | ret => exact key r3
 | normal => exact key r3
 | _ => exact r3.elim
theorem zwk (F : List Nat) (d : Tmp) (f : FuncId) (args : List Value) {Φ : Value → World → Prop} (hF : ∀ b ∈ F, MayB w0 u0 b ∧ ∃ ob, u.heap[b]? = some ob ∧ ob ≠ hidO)
  (kc : ∀ w u1, Ext u u1 → Dat u1 w → Calls P f args.toArray w (PostF F u1 w Φ))
  (k : ∀ v u2, ExtF F u u2 → Φ v u2 → sym P ops w0 u0 true rest (S.set d (.v v)) u2 K)
  (hw : Wants ops o S := by exact zwf xj) (hd : o.dst = some d := by kernel_rfl) (hf : (freeB S d && knownB S o) = true := by kernel_rfl) (hk : opK o.op ≠ 2 := by decide)
  (hrun : ∀ B w, (execOp (rho S B) o).run P w = .ok (.enter f args.toArray) w := by intro _ _; kernel_rfl) : sym P ops w0 u0 true ((o, p) :: rest) S u K := by
 simp only [Bool.and_eq_true] at hf
 refine .inr (.inr (.inl ⟨.inl rfl, fun B a w u' he hrep => ⟨hw B a hrep.regs, ?_⟩⟩))
 unfold Oper.wp
 rw [exec_rho hrep.regs hf.2 hk, hrun B w]
 simp only [Oper.upon]
 refine Calls.mono (kc w u' he hrep.dat) ?_
 rintro e w' ⟨v, u2, rfl, k1, k2, k3, k4⟩
 have hr1 := hrep.mut (F := F) (fun b hm => by obtain ⟨h1, ob, h2, h3⟩ := hF b hm; exact ⟨h1, ob, he.vis b ob h2 h3, h3⟩) k1 k2 k3
 have hr2 := hr1.set (d := o.dst) (x := some (.v v)) (v := v) (fun s hs => (zxy hd hf.1 s hs).1) (fun z e => by injection e with e; rw [← e]; rfl) (fun z t e ht => by injection e with e; rw [← e] at ht; cases ht)
 refine ⟨_, B, u2, u2, hr2, (fun e => by cases e), (fun e => by cases e), Ext.refl _, ?_⟩
 have := k v u2 (.pre he k3.extF) k4
 rw [hd]; exact this
theorem Left.step {M : List Nat} {pre post : List (Nat × List Tmp)} {y : Nat × List Tmp} {listed : Array Bool} (hL : Left ops M (pre ++ y :: post) listed) (hro : ∀ j, (M.getD y.1 0).testBit j = true → j ∉ (pre ++ y :: post).map (·.1)) : Left ops M (pre ++ post) (listed.setIfInBounds y.1 true) := by
 have hsub : (pre ++ post).Sublist (pre ++ y :: post) := List.Sublist.append_left (List.sublist_cons_self _ _) _
 have hyn : y.1 ∉ (pre ++ post).map (·.1) := by
  have := hL.nodup
  rw [List.map_append, List.map_cons] at this
  have h2 := List.nodup_append.1 this
  have h3 := (List.nodup_cons.1 h2.2.1).1
  intro hm
  rw [List.map_append] at hm
  rcases List.mem_append.1 hm with hm | hm
  ·exact h2.2.2 y.1 hm y.1 (List.mem_cons_self ..) rfl
  exact h3 hm
 have hmem : ∀ j, j ≠ y.1 → (j ∈ (pre ++ post).map (·.1) ↔ j ∈ (pre ++ y :: post).map (·.1)) := fun j hj => by simp [hj]
 refine ⟨hL.nodup.sublist (hsub.map _), hL.pair.sublist hsub, by simp [hL.size], fun j hj => ?_, fun x hx => hL.lt x (hsub.mem hx), fun x hx => hL.mask x (hsub.mem hx), fun j hj hjn x hx => ?_⟩
 ·by_cases e : j = y.1
  ·subst e
   constructor
   ·intro h
    simp [hL.size, hj] at h
   intro h; exact absurd h hyn
  rw [getD_set_ne true (Ne.symm e), hmem j e]
  exact hL.mem j hj
 intro hmx
 by_cases e : j = y.1
 ·subst e; exact hro x hx ((hsub.map _).mem hmx)
 exact hL.closed j hj (fun h => hjn ((hmem j e).2 h)) x hx ((hsub.map _).mem hmx)
end
structure PL where
 o : Int
 g : Int
 h : Int
def PL.cs (p : PL) : List Value := [.int .i64 p.o, .int .i64 p.g, .int .i64 p.h]
@[reducible] def PL.v (p : PL) : Value := .agg #[.int .i64 p.o, .int .i64 p.g, .int .i64 p.h]
section
variable {u u' w w' : World} {L M : List PL} {p : PL} {n i c b off K : Nat} {x y : Sl}
theorem ints_data {cs : List Value} {t : TypeId} {l : List Int} (h : u.heap[b]? = some (.cells cs.toArray t (0, 0))) (hc : cs.take n = l.map (Value.int .i64)) (hl : cs.length = c) (hn : n ≤ c) (hm : c ≤ maxLen) : SlR .i64 u (some ⟨b, 0, none⟩) n c l := by
 have hlen : l.length = n := by have h9 := congrArg List.length hc; simp at h9; omega
 refine ⟨hlen, hn, hm, fun hp => ⟨b, 0, rfl, zxa h, fun i hi => ?_⟩⟩
 rw [Nat.zero_add, cells_at h]
 have h9 : (cs.take n)[i]? = (l.map (Value.int .i64))[i]? := by rw [hc]
 rw [List.getElem?_take_of_lt hi, List.getElem?_map, List.getElem?_eq_getElem (by omega : i < l.length)] at h9
 simp
 rw [h9, List.getElem?_eq_getElem (by omega : i < l.length)]
 rfl
end
structure WL where
 b : Int
 f : Int
 r : Int
 o : Int
@[reducible] def WL.v (w : WL) : Value := .agg #[.int .i64 w.b, .int .i64 w.f, .int .i64 w.r, .int .i64 w.o]
def WL.cs (w : WL) : List Value := [.int .i64 w.b, .int .i64 w.f, .int .i64 w.r, .int .i64 w.o]
def WdOK (w : WL) : Prop := 4 ≤ w.b ∧ w.b ≤ 24 ∧ 0 ≤ w.f ∧ w.f < w.b ∧ 1 ≤ w.r ∧ w.r ≤ 3 ∧ 1 ≤ w.o ∧ w.o ≤ 2
namespace Nt
def p2i (n : Int) : Int := 2 ^ n.toNat
end Nt
def MutL (k : Nat) (ty : TypeId) (lo : Nat) (u : World) (x : Sl) (cs : List Value) : Prop :=
 cs.length = x.n * k ∧ x.n ≤ x.c ∧ x.c ≤ maxLen ∧ (x = ⟨none, 0, 0⟩ ∨ ∃ b all, x.a = some ⟨b, 0, none⟩ ∧ u.heap[b]? = some (.cells (List.toArray all) ty (0, 0)) ∧ all.length = x.c * k ∧ all.take (x.n * k) = cs ∧ lo ≤ b)
def offB (x : Sl) (h : Nat) : Prop := ∀ a, x.a = some a → a.block ≠ h
structure ExtX (x : Sl) (u u' : World) : Prop where
 size : u.heap.size ≤ u'.heap.size
 vis : ∀ (k : Nat) (o : Obj), offB x k → u.heap[k]? = some o → o ≠ hidO → u'.heap[k]? = some o
structure TL where
 f : Int
 c : Int
def TL.cs (t : TL) : List Value := [.int .i64 t.f, .int .i64 t.c]
@[reducible] def TL.v (t : TL) : Value := .agg #[.int .i64 t.f, .int .i64 t.c]
def ics (l : List Int) : List Value := l.map (Value.int .i64)
section
variable {k lo lo' h b n c i : Nat} {ty t2 : TypeId} {u u' u'' v : World} {x y : Sl} {cs cs' : List Value}
theorem cells_not_hid {cs : Array Value} {t : TypeId} : Obj.cells cs t (0, 0) ≠ hidO := by unfold hidO; intro e; cases e
theorem ExtX.root {cs : List Value} {u0 : World} (e : ExtX x u u') (m : MutL k ty u0.heap.size u x cs) (r : Ext u0 u) : Ext u0 u' := ⟨Nat.le_trans r.size e.size, fun q o hq hh => by
 refine e.vis q o (fun a ha hc => ?_) (r.vis q o hq hh) hh
 rcases m.2.2.2 with h1 | ⟨b, all, h1, _, _, _, h5⟩
 ·rw [h1] at ha; cases ha
 rw [h1] at ha; injection ha with ha; subst ha
 have := zxa hq
 have hc : b = q := hc
 omega⟩
theorem ExtB.toX (e : ExtB b u u') (hx : x.a = some ⟨b, 0, none⟩) : ExtX x u u' := ⟨e.size, fun q o ho h1 h2 => e.vis q o (fun hc => ho _ hx hc.symm) h1 h2⟩
theorem MutL.cell {j : Nat} (m : MutL k ty lo u x cs) (hj : j < cs.length) : ∃ b, x.a = some ⟨b, 0, none⟩ ∧ u.cell? ⟨b, 0 + j, none⟩ = cs[j]? := by
 obtain ⟨h1, h2, h3, h4⟩ := m
 rcases h4 with h4 | ⟨b, all, g1, g2, g3, g4, g5⟩
 ·subst h4
  simp at h1; subst h1; simp at hj
 refine ⟨b, g1, ?_⟩
 rw [Nat.zero_add, cells_at g2, ← g4, List.getElem?_take_of_lt xq]; simp
theorem zwi (l : List Int) : (ics l).length = l.length := by unfold ics; simp
theorem ics_at {l : List Int} (h : i < l.length) : (ics l)[i]? = some (.int .i64 (l.getD i 0)) := by
 unfold ics
 rw [List.getElem?_map, List.getD_eq_getElem?_getD, List.getElem?_eq_getElem h]; rfl
theorem ics_set (l : List Int) (i : Nat) (z : Int) : (ics l).set i (.int .i64 z) = ics (l.set i z) := by unfold ics; rw [List.map_set]
theorem made_ints (n : Nat) : (madeCells #[Value.int .i64 0] (n * 1)).toList = ics (List.replicate n 0) := by
 unfold madeCells ics
 rw [List.map_replicate]
 refine List.eq_replicate_iff.2 ⟨by simp, fun b hb => ?_⟩
 simp at hb
 obtain ⟨x, _, rfl⟩ := hb
 rw [Nat.mod_one]; rfl
end
def NU (v : Value) : Prop := ∀ y, v ≠ .int .u32 y
def MutQ (k : Nat) (ty : TypeId) (lo : Nat) (u : World) (x : Sl) (cs : List Value) : Prop :=
 cs.length = x.n * k ∧ x.n ≤ x.c ∧ x.c ≤ maxLen ∧ (x = ⟨none, 0, 0⟩ ∨ ∃ b all, x.a = some ⟨b, 0, none⟩ ∧ u.heap[b]? = some (.cells (List.toArray all) ty (0, 0)) ∧ all.length = x.c * k ∧ all.take (x.n * k) = cs ∧ lo ≤ b ∧ ∀ v ∈ all, NU v)
section
variable {k lo lo' h b n c i j off : Nat} {ty t2 : TypeId} {u u' u'' v : World} {x y z : Sl} {cs cs' vs : List Value} {L : List RL} {r : RL} {q : Rat} {K : Nat}
theorem MutQ.mutL (m : MutQ k ty lo u x cs) : MutL k ty lo u x cs := ⟨m.1, m.2.1, m.2.2.1, m.2.2.2.imp id fun ⟨b, all, h1, h2, h3, h4, h5, _⟩ => ⟨b, all, h1, h2, h3, h4, h5⟩⟩
theorem MutQ.ext (m : MutQ k ty lo u x cs) (e : Ext u u') : MutQ k ty lo u' x cs :=
 ⟨m.1, m.2.1, m.2.2.1, m.2.2.2.imp id fun ⟨b, all, h1, h2, h3⟩ => ⟨b, all, h1, e.cells h2, h3⟩⟩
theorem MutQ.lit {cs : List Value} (hu : u.heap[b]? = some (.cells cs.toArray ty (0, 0))) (hl : cs.length = n * k) (hn : n ≤ maxLen) (hb : lo ≤ b) (hnu : ∀ v ∈ cs, NU v) : MutQ k ty lo u ⟨some ⟨b, 0, none⟩, n, n⟩ cs :=
 ⟨hl, Nat.le_refl _, hn, .inr ⟨b, cs, rfl, hu, hl, by rw [List.take_of_length_le (by show _ ≤ n * k; omega)], hb, hnu⟩⟩
theorem nu_i64 (z : Int) : NU (.int .i64 z) := fun y e => by cases e
theorem setL_take {cs : List Value} (h : off + vs.length ≤ n) (hn : n ≤ cs.length) : (setL cs off vs).take n = setL (cs.take n) off vs := by
 unfold setL
 rw [List.take_take, Nat.min_eq_left xq, List.take_append, List.take_of_length_le (l := cs.take off ++ vs) yz, List.drop_take]
 congr 2
 simp
 rw [Nat.min_eq_left xq]
theorem nu_setL (h1 : ∀ v ∈ cs, NU v) (h2 : ∀ v ∈ vs, NU v) : ∀ v ∈ setL cs off vs, NU v := fun v hv => by
 unfold setL at hv
 rcases List.mem_append.1 hv with hv | hv
 ·rcases List.mem_append.1 hv with hv | hv
  ·exact h1 v (List.mem_of_mem_take hv)
  exact h2 v hv
 exact h1 v (List.mem_of_mem_drop hv)
end
section
variable {P : Program} {ops : Array Oper} {w0 : Base} {u0 : World} {S T : St} {B : Tmp → Nat} {a : Act} {w w' u u' u'' v : World} {o : Oper} {p : List Tmp} {rest : List (Oper × List Tmp)} {K : St → World → Prop}
theorem sy_storeQ {T ty : TypeId} {r : Tmp} {z : Operand} {v : Value} {agg : Bool} {n k lo off b : Nat} {cs : List Value} (x : Sl) (hm : MutQ k ty lo u x cs) (hmay : ∀ a, x.a = some a → MayB w0 u0 a.block) (hb : x.a = some ⟨b, 0, none⟩) (hT : TyIs P T agg n) (hl : off + n ≤ cs.length) (hnu : ∀ y ∈ v.cells.toList, NU y)
  (kk : ∀ u1, MutQ k ty lo u1 x (setL cs off v.cells.toList) → ExtX x u u1 → sym P ops w0 u0 true rest S u1 K)
  (hw : Wants ops o S := by exact zwf xj) (hd : o.dst = none := by kernel_rfl) (hop : o.op = .store T (.tmp r) z := by rfl) (hr : S.reg r = some (.v (.pointer (some ⟨b, off, none⟩))) := by rfl) (hz : evO S z = some (.v v) := by rfl)
  (hn : v.cells.size = n := by kernel_rfl) (hone : v.cells.toList.all Value.oneCell' = true := by kernel_rfl) : sym P ops w0 u0 true ((o, p) :: rest) S u K := by
 obtain ⟨q1, q2, q3, q4⟩ := id hm
 rcases q4 with q4 | ⟨b', all, g1, g2, g3, g4, g5, g6⟩
 ·subst q4; cases hb
 have hmb := hmay _ g1
 rw [hb] at g1; injection g1 with g1; injection g1 with g1 _ _; subst g1
 have hlv : v.cells.toList.length = n := by simpa using hn
 have hnk : x.n * k ≤ all.length := by rw [g3]; exact Nat.mul_le_mul_right _ q2
 refine sy_storeD (b := b) (off := off) (cs := all) (n := n) g2 hmb hT xq (fun u1 k1 k2 => ?_) hw hd hop hr hz hn hone
 refine kk u1 ⟨?_, q2, q3, .inr ⟨b, _, hb, k1, ?_, ?_, g5, nu_setL g6 hnu⟩⟩ (k2.toX hb)
 ·rw [setL_length xq]; exact q1
 ·rw [setL_length xq]; exact g3
 rw [setL_take xq hnk, g4]
end
namespace Nt
def wq (z f : Int) : Rat := ((z : Int) : Rat) / ((p2i f : Int) : Rat)
end Nt
open Go.ChangeShapes Go.WideShapes
theorem int_one (z : Int) : ∀ v ∈ [Value.int .i64 z], v.oneCell' = true := fun v hv => by
 rcases List.mem_cons.1 hv with rfl | hv
 ·rfl
 cases hv
end Go.Proofs.YtgmkhhfbckjaeaaGreat
namespace Go.Proofs.YtgmkhhfbckjaeaaGreat
open Go.RowKit
section
variable {P : Program} {ops : Array Oper} {w0 : Base} {u0 : World} {S : St} {u : World}
structure LeftX (ops : Array Oper) (M : List Nat) (L : List (Nat × List Tmp)) (listed : Array Bool) : Prop where
 nodup : (L.map (·.1)).Nodup
 back : L.Pairwise (fun x y => ((ops.getD x.1 default).after.toList.any fun e => Region.binds .any e && e.on == y.1) = false)
 size : listed.size = ops.size
 mem : ∀ i, i < ops.size → (listed.getD i true = false ↔ i ∈ L.map (·.1))
 lt : ∀ x ∈ L, x.1 < ops.size ∧ ∀ e ∈ (ops.getD x.1 default).after, Region.binds .any e = true → e.on ≠ x.1 ∧ e.on < ops.size
 mask : ∀ x ∈ L, M.getD x.1 0 = reachOf M (ops.getD x.1 default)
 closed : ∀ j, j < ops.size → j ∉ L.map (·.1) → ∀ x, (M.getD j 0).testBit x = true → x ∉ L.map (·.1)
theorem LeftX.ready_mem {M : List Nat} {L : List (Nat × List Tmp)} {listed : Array Bool} (h : LeftX ops M L listed) {i : Nat} (hi : i ∈ Region.ready .any ops listed) : i < ops.size ∧ i ∈ L.map (·.1) ∧ ∀ e ∈ (ops.getD i default).after, Region.binds .any e = true → e.on ∉ L.map (·.1) := by
 obtain ⟨h0, o, ho, hall⟩ := mem_ready.1 hi
 have hlt : i < ops.size := (Array.getElem?_eq_some_iff.1 ho).1
 have hm := (h.mem i hlt).1 h0
 refine ⟨hlt, hm, fun e he hb => ?_⟩
 rw [get_op hlt] at ho
 injection ho with ho
 obtain ⟨x, hx, hxi⟩ := List.mem_map.1 hm
 have hl := ((h.lt x hx).2 e (by rw [hxi]; exact he) hb).2
 have := hall e (by rw [← ho]; exact he) hb
 rw [listed_iff (by rw [h.size]; exact hl), h.mem e.on hl] at this
 exact this
theorem LeftX.head_ready {M : List Nat} {x : Nat × List Tmp} {L : List (Nat × List Tmp)} {listed : Array Bool} (h : LeftX ops M (x :: L) listed) : x.1 ∈ Region.ready .any ops listed := by
 obtain ⟨h1, h2⟩ := h.lt x (List.mem_cons_self ..)
 refine mem_ready.2 ⟨(h.mem x.1 h1).2 zv, _, get_op h1, fun e he hb => ?_⟩
 obtain ⟨h3, h4⟩ := h2 e he hb
 rw [listed_iff (by rw [h.size]; exact h4), h.mem e.on h4]
 intro hm
 obtain ⟨y, hy, hye⟩ := List.mem_map.1 hm
 rcases List.mem_cons.1 hy with rfl | hy
 ·exact h3 hye.symm
 have := (List.pairwise_cons.1 h.back).1 y hy
 have h5 : ((ops.getD x.1 default).after.toList.any fun e => Region.binds .any e && e.on == y.1) = true := List.any_eq_true.2 ⟨e, by simpa using he, by simp [hb, hye]⟩
 rw [h5] at this; cases this
theorem LeftX.out {M : List Nat} {L : List (Nat × List Tmp)} {listed : Array Bool} (h : LeftX ops M L listed) {x : Nat × List Tmp} (hx : x ∈ L) (hout : ∀ e ∈ (ops.getD x.1 default).after, Region.binds .any e = true → e.on ∉ L.map (·.1)) :
  ∀ j, (M.getD x.1 0).testBit j = true → j ∉ L.map (·.1) := by
 intro j hj
 rw [h.mask x hx] at hj
 rcases foldl_bit M j _ _ hj with h0 | ⟨e, he, hb, h1⟩
 ·simp at h0
 have he' : e ∈ (ops.getD x.1 default).after := by simpa using he
 have hn := hout e he' hb
 rcases h1 with rfl | h1
 ·exact hn
 exact h.closed e.on ((h.lt x hx).2 e he' hb).2 hn j h1
theorem LeftX.step {M : List Nat} {pre post : List (Nat × List Tmp)} {y : Nat × List Tmp} {listed : Array Bool} (hL : LeftX ops M (pre ++ y :: post) listed) (hro : ∀ j, (M.getD y.1 0).testBit j = true → j ∉ (pre ++ y :: post).map (·.1)) : LeftX ops M (pre ++ post) (listed.setIfInBounds y.1 true) := by
 have hsub : (pre ++ post).Sublist (pre ++ y :: post) := List.Sublist.append_left (List.sublist_cons_self _ _) _
 have hyn : y.1 ∉ (pre ++ post).map (·.1) := by
  have := hL.nodup
  rw [List.map_append, List.map_cons] at this
  have h2 := List.nodup_append.1 this
  have h3 := (List.nodup_cons.1 h2.2.1).1
  intro hm
  rw [List.map_append] at hm
  rcases List.mem_append.1 hm with hm | hm
  ·exact h2.2.2 y.1 hm y.1 (List.mem_cons_self ..) rfl
  exact h3 hm
 have hmem : ∀ j, j ≠ y.1 → (j ∈ (pre ++ post).map (·.1) ↔ j ∈ (pre ++ y :: post).map (·.1)) := fun j hj => by simp [hj]
 refine ⟨hL.nodup.sublist (hsub.map _), hL.back.sublist hsub, by simp [hL.size], fun j hj => ?_, fun x hx => hL.lt x (hsub.mem hx), fun x hx => hL.mask x (hsub.mem hx), fun j hj hjn x hx => ?_⟩
 ·by_cases e : j = y.1
  ·subst e
   constructor
   ·intro h
    simp [hL.size, hj] at h
   intro h; exact absurd h hyn
  rw [getD_set_ne true (Ne.symm e), hmem j e]
  exact hL.mem j hj
 intro hmx
 by_cases e : j = y.1
 ·subst e; exact hro x hx ((hsub.map _).mem hmx)
 exact hL.closed j hj (fun h => hjn ((hmem j e).2 h)) x hx ((hsub.map _).mem hmx)
end
def AnyX (P : Program) (w0 : Base) (u0 : World) (ops : Array Oper) (listed : Array Bool) (n : Nat) (S : St) (u : World) (Q : MP) : Prop :=
 ∀ B a w u', Ext u u' → Rep w0 u0 S B a w u' → wpAny P .any ops (fun e a' w' => ∃ S' B' u'', Rep w0 u0 S' B' a' w' u'' ∧ Q.f e S' u'') n listed a w
section
variable {P : Program} {ops : Array Oper} {w0 : Base} {u0 : World} {S : St} {u : World} {Q : MP} {listed : Array Bool}
theorem sw_anyX {id : Nat} (hm : P.follows .mixedOrders = true) (n : Nat) (hn : ops.size = n) (h : AnyX P w0 u0 ops (Array.replicate n false) n S u Q) : SW P w0 u0 (.region id ops true) S u Q := by
 subst hn
 intro B a w u' e hr
 exact wp_region_any hm (h B a _ u' e hr.drew)
theorem takeX (i d n : Nat) (x : SV) (listed' : Array Bool) (k : AnyX P w0 u0 ops listed' n (S.set d x) u Q) (hp : ∀ c S u, ¬ Q.f (.panic c) S u := by intro c S u h; exact h) (hl : listed.setIfInBounds i true = listed' := by kernel_rfl)
  (hs : (Region.noSelect ops && Region.free .any ops listed i && (Region.ready .any ops listed).contains i && Nat.blt i ops.size && (ops.getD i default).dst == some d && (ops.getD i default).guard.isNone && x.at?.isNone && freeB S d && knownB S (ops.getD i default)) = true := by kernel_rfl) (hk : opK (ops.getD i default).op ≠ 2 := by decide)
  (hrun : ∀ B w, (execOp (rho S B) (ops.getD i default)).run P w = .ok (.value (x.conc B)) w := by intro _ _; kernel_rfl) : AnyX P w0 u0 ops listed (n + 1) S u Q := by
 intro B a w u' e hr
 simp only [Bool.and_eq_true, beq_iff_eq, Option.isNone_iff_eq_none] at hs
 obtain ⟨⟨⟨⟨⟨⟨⟨⟨h1, h2⟩, h3⟩, h4⟩, h5⟩, h6⟩, h7⟩, h8⟩, h9⟩ := hs
 have hi : ops[i]? = some (ops.getD i default) := get_op (Nat.le_of_ble_eq_true h4)
 subst hl
 refine wpAny_take (v := x.conc B) hi h1 h2 h3 (fun c a w h => ?_) (.inl ⟨zwf (S := S) h6 B a hr.regs, fun w => by rw [exec_rho hr.regs h9 hk]; exact hrun B w⟩) ?_
 ·obtain ⟨S', B', u'', _, g⟩ := h
  exact absurd g (hp c S' u'')
 refine k B _ w u' e ?_
 rw [h5]
 exact hr.set (d := some d) (x := some x) (v := x.conc B) (fun s hs => (zxy h5 h8 s (by rw [h5]; exact hs)).1) (fun z e => by injection e with e; rw [← e]) (fun z t e ht => by injection e with e; rw [← e, h7] at ht; cases ht)
theorem takeXe (i d n : Nat) {x : SV} (y : SV) (hxy : x = y) (listed' : Array Bool) (k : AnyX P w0 u0 ops listed' n (S.set d y) u Q) (hp : ∀ c S u, ¬ Q.f (.panic c) S u := by intro c S u h; exact h) (hl : listed.setIfInBounds i true = listed' := by kernel_rfl)
  (hs : (Region.noSelect ops && Region.free .any ops listed i && (Region.ready .any ops listed).contains i && Nat.blt i ops.size && (ops.getD i default).dst == some d && (ops.getD i default).guard.isNone && x.at?.isNone && freeB S d && knownB S (ops.getD i default)) = true := by kernel_rfl) (hk : opK (ops.getD i default).op ≠ 2 := by decide)
  (hrun : ∀ B w, (execOp (rho S B) (ops.getD i default)).run P w = .ok (.value (x.conc B)) w := by intro _ _; kernel_rfl) : AnyX P w0 u0 ops listed (n + 1) S u Q := by
 subst hxy; exact takeX i d n x listed' k hp hl hs hk hrun
end
def Rows (k : Nat) (L : List (List Int)) : Prop := ∀ p ∈ L, p.length = k
section
variable {u u' : World} {L M : List (List Int)} {p : List Int} {k n i j c b off : Nat} {x : Sl} {X : List Value} {a1 a2 a3 a4 a5 : Int}
theorem ics_one : ∀ v ∈ ics p, v.oneCell' = true := fun v hv => by
 unfold ics at hv
 obtain ⟨z, _, rfl⟩ := List.mem_map.1 hv; rfl
end
section
variable {P : Program} {ops : Array Oper} {w0 : Base} {u0 : World} {S : St} {u : World} {Q : MP} {listed : Array Bool}
theorem takeXR (i d n : Nat) (x : SV) {t : Tmp} (hat : x.at? = some t) (listed' : Array Bool) (k : AnyX P w0 u0 ops listed' n (S.set d x) u Q) (hp : ∀ c S u, ¬ Q.f (.panic c) S u) (hl : listed.setIfInBounds i true = listed')
  (hs : (Region.noSelect ops && Region.free .any ops listed i && (Region.ready .any ops listed).contains i && Nat.blt i ops.size && (ops.getD i default).dst == some d && (ops.getD i default).guard.isNone && freeB S d) = true) (hv : (S.var t).isSome = true)
  (hrun : ∀ B a w, RegOK S B a → (execOp a.eval (ops.getD i default)).run P w = .ok (.value (x.conc B)) w) : AnyX P w0 u0 ops listed (n + 1) S u Q := by
 intro B a w u' e hr
 simp only [Bool.and_eq_true, beq_iff_eq, Option.isNone_iff_eq_none] at hs
 obtain ⟨⟨⟨⟨⟨⟨h1, h2⟩, h3⟩, h4⟩, h5⟩, h6⟩, h8⟩ := hs
 have hi : ops[i]? = some (ops.getD i default) := get_op (Nat.le_of_ble_eq_true h4)
 subst hl
 refine wpAny_take (v := x.conc B) hi h1 h2 h3 (fun c a w h => ?_) (.inl ⟨zwf (S := S) h6 B a hr.regs, fun w => hrun B a w hr.regs⟩) ?_
 ·obtain ⟨S', B', u'', _, g⟩ := h
  exact absurd g (hp c S' u'')
 refine k B _ w u' e ?_
 rw [h5]
 exact hr.set (d := some d) (x := some x) (v := x.conc B) (fun s hs => (zxy h5 h8 s (by rw [h5]; exact hs)).1) (fun z e => by injection e with e; rw [← e]) (fun z t' e ht => by
  injection e with e
  rw [← e, hat] at ht
  injection ht with ht
  subst ht
  exact Option.isSome_iff_exists.1 hv)
theorem takeXm (i d n : Nat) {r t : Tmp} {off m c : Nat} (listed' : Array Bool) (k : AnyX P w0 u0 ops listed' n (S.set d (.slc t off m c)) u Q) (hp : ∀ c S u, ¬ Q.f (.panic c) S u := by intro c S u h; exact h) (hl : listed.setIfInBounds i true = listed' := by kernel_rfl)
  (hs : (Region.noSelect ops && Region.free .any ops listed i && (Region.ready .any ops listed).contains i && Nat.blt i ops.size && (ops.getD i default).dst == some d && (ops.getD i default).guard.isNone && freeB S d) = true := by kernel_rfl)
  (hop : (ops.getD i default).op = .move (.tmp r) := by rfl) (hx : S.reg r = some (.slc t off m c) := by rfl) (hv : (S.var t).isSome = true := by rfl) : AnyX P w0 u0 ops listed (n + 1) S u Q :=
 takeXR i d n _ rfl listed' k hp hl hs hv (fun B a w hr => by unfold execOp; rw [hop]; show Sem.run P (pure (Next.value (a.eval (.tmp r)))) w = _; rw [hr.eval hx]; rfl)
end
namespace Nt
def shOK (n : Int) (s : List Int) : Prop := 0 ≤ s.getD 0 0 ∧ s.getD 0 0 < n ∧ 0 ≤ s.getD 1 0 ∧ s.getD 1 0 < n ∧ -2 ≤ s.getD 3 0 ∧ s.getD 3 0 ≤ 20 ∧ (s.getD 0 0 = s.getD 1 0 ↔ s.getD 3 0 = -2) ∧ (s.getD 3 0 < 0 → s.getD 2 0 = 0) ∧ -2097152 ≤ s.getD 2 0 ∧ s.getD 2 0 ≤ 2097152
instance (n : Int) (s : List Int) : Decidable (shOK n s) := by unfold shOK; infer_instance
def W32 (l : List Int) : Prop := ∀ i, i < l.length → -2147483648 ≤ l.getD i 0 ∧ l.getD i 0 ≤ 2147483647
end Nt
section
variable {L : List (List Int)} {p l : List Int} {X cs : List Value} {i n c b : Nat} {u u' : World} {x : Sl} {z : Int}
theorem part_intsX (hi : i < l.length) {off : Nat} (ho : off = i * 1) : PartIs (ics l ++ X) off false 1 (.v (.int .i64 (l.getD i 0))) := by
 subst ho
 refine ⟨_, ?_, rfl⟩
 rw [Nat.mul_one, List.getElem?_append_left (by rw [zwi]; exact hi)]
 exact ics_at hi
theorem setL_intsX (hi : i < l.length) {off : Nat} (ho : off = i * 1) : setL (ics l ++ X) off (Value.int .i64 z).cells.toList = ics (l.set i z) ++ X := by
 subst ho
 rw [Nat.mul_one]
 have := setL_cons (cs := ics l ++ X) (off := i) (v := .int .i64 z) (vs := []) (by rw [List.length_append, zwi]; omega)
 rw [setL_nil] at this
 rw [← ics_set, ← List.set_append_left (h := by rw [zwi]; exact hi)]
 exact this.symm
end
namespace Nt
section
variable {l : List Int} {s : List Int} {t f : Nat} {cf sh sg x n : Int}
def shV (n : Int) (S : List (List Int)) : Prop := 1 ≤ n ∧ n ≤ 64 ∧ S.length ≤ 64 ∧ ∀ i, i < S.length → shOK n (S.getD i [])
instance (n : Int) (S : List (List Int)) : Decidable (shV n S) := by unfold shV; infer_instance
instance (l : List Int) : Decidable (W32 l) := by unfold W32; infer_instance
end
end Nt
end Go.Proofs.YtgmkhhfbckjaeaaGreat
namespace Go.Proofs.YtgmkhhfbckjaeaaGreat
namespace Nt
def up (M : Nat → Nat → Rat) (k : Nat) (v : Nat → Rat) : Nat → Nat → Rat := fun r => if r = k then v else M r
end Nt
end Go.Proofs.YtgmkhhfbckjaeaaGreat
