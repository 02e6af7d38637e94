/- Parts of the proof: contracts of functions, each walked once, and plain laws. -/
import Derived.Test.YtgmkhhfbckjaeaaGreatTwvC
set_option linter.unusedVariables false
namespace Go.Proofs.YtgmkhhfbckjaeaaGreat
open Go.RowKit
theorem k_cut {u w : World} {x : Sl} {l : List Rat} {K : Nat} (d : Dat u w) (hx : PolV u x l K) (hK : K ≤ 100000000) (hx9 : l.length ≤ 1000000000) : Calls Tryz.prog 151 #[x.v] w (Post u w fun v u' => v = .slice x.a (Nt.trimQ l).length x.c) := by
 have hlen := hx.len
 refine zzm (args := [x.v]) Tryz.func151 rfl Tryz.ntmps151 (rs := [.tmp 2]) Tryz.results151 (le_b rfl) (le_b rfl) d ?_
 refine sq9 (zza 2 (.v (.slice none 0 0)) (zzb (sq9 (zza 4 (.v (x.v)) (zza 5 (zI x.n) (zza 3 (zI x.n) (zzb (zzd (zzt (zyn (I := fun ah S' u' => ∃ (n : Nat), (ah = n) ∧ (n ≤ l.length) ∧ (∀ i, n ≤ i → Nt.co l i = 0) ∧ (S' = St.of 22 [(0, .v (x.v)), (3, zI n)] []) ∧ (Ext u u')) (fun m S u1 u2 e h => by obtain ⟨n, hm, p0, p1, hS, hE⟩ := h; exact ⟨n, hm, p0, p1, hS, hE.trans e⟩) _ yz ⟨x.n, rfl, by omega, fun i hi => Nt.co_ge xq, rfl, (Ext.refl _)⟩ ?_))))))))))
 rintro ah _ u11 ⟨n, ak, hn, hz, rfl, aa⟩
 refine zzd (sq9 (zza 6 (zI n) (zza 7 (zB (decide ((0 : Int) < (n : Int)))) ?_)))
 rcases Bool.eq_false_or_eq_true (decide ((0 : Int) < (n : Int))) with hs12 | hs12
 ·refine zyq 8 (x := zB (decide ((0 : Int) < (n : Int)))) (zB true) (by rw [hs12]) ?_
  have qhs12 := of_decide_eq_true hs12
  refine zza 9 (.v (x.v)) ?_ (hw := w1 2 true 8)
  refine zza 10 (zI n) ?_ (hw := w1 2 true 8)
  refine zyq 11 (x := zI (IntKind.i64.wrap ((n : Int) - 1))) (zI (n - 1 : Nat)) (eqI yq) ?_ (hw := w1 2 true 8)
  have hl13 := (hx.ext aa).len
  obtain ⟨al, b13, ai, ad, ae, af⟩ := pol_at (hx.ext aa) (i := n - 1) xq
  refine zya 12 (ai + (n - 1) * 3) (n := x.n) (off := ai) (sz := 3) (i := ((n - 1 : Nat) : Int)) xq ad xq xq sl27 ?_ (hw := w1 2 true 8)
  refine zym 13 al.cs ae ty32 ?_ (hw := w1 2 true 8)
  refine zzg 14 66 _ (fun _ _ ac aj => Post.mono (k_ratSign aj (af.ext ac)) ?_) (hw := w1 2 true 8)
  rintro _ u15 ag rfl
  refine zza 15 (zB ((Nt.sgQ (l.getD (n - 1) 0)) == 0)) ?_ (hw := w1 2 true 8)
  refine zza 16 (zB ((Nt.sgQ (l.getD (n - 1) 0)) == 0)) (zzb (zzu (b := (Nt.sgQ (l.getD (n - 1) 0)) == 0) xj (fun ab => ?_) (fun ab => ?_)))
  ·refine zzs (zzp ?_)
   refine zzt (zzf (zza 17 (zI n) (zyq 18 (x := zI (IntKind.i64.wrap ((n : Int) - 1))) (zI (n - 1 : Nat)) (eqI yq) (zza 3 (zI (n - 1 : Nat)) (zzx ?_)))))
   refine ⟨_, ?_, _, by exact zzv _ _ _, n - 1, rfl, by omega, (fun i hi => by by_cases e : i = n - 1; (rw [e]; have h9 := ab; rw [Nt.sgQ_eq] at h9; exact of_decide_eq_true h9); exact hz i xq), rfl, (aa.t (ac.t ag.ext))⟩
   omega
  refine zyc (zzp (sq9 (zza 19 (.v (x.v)) (zza 20 (zI n) ?_))))
  have hl19 := (hx.ext (aa.t (ac.t ag.ext))).len
  have hc19 := (hx.ext (aa.t (ac.t ag.ext))).cap
  refine sy_front 21 (n := x.n) (c := x.c) n sl27 rfl xq ?_
  refine zza 2 (.v (.slice x.a n x.c)) (zzb (zzo (ret0 [.slice x.a n x.c] ⟨zzq, trivial⟩ fun u20 e21 => ?_)))
  have e := Nt.trim_len_of (l := l) hn hz (fun _ h => by have h9 := ab; rw [Nt.sgQ_eq] at h9; exact of_decide_eq_false h9 h)
  show Value.slice _ _ _ = Value.slice _ _ _
  rw [e]
 refine zyq 8 (x := zB (decide ((0 : Int) < (n : Int)))) (zB false) (by rw [hs12]) ?_
 have qhs12 := of_decide_eq_false hs12
 refine zzn 9 (uw 2 true false 8) (zzn 10 (uw 2 true false 8) (zzn 11 (uw 2 true false 8) (zzn 12 (uw 2 true false 8) (zzn 13 (uw 2 true false 8) (zzn 14 (uw 2 true false 8) (zzn 15 (uw 2 true false 8) (zza 16 (zB false) (zzb (zys xj (zyc (zzp ?_)))))))))))
 refine sq9 (zza 19 (.v (x.v)) (zza 20 (zI n) ?_))
 have hl22 := (hx.ext aa).len
 have hc22 := (hx.ext aa).cap
 refine sy_front 21 (n := x.n) (c := x.c) n sl27 rfl xq ?_
 refine zza 2 (.v (.slice x.a n x.c)) (zzb (zzo (ret0 [.slice x.a n x.c] ⟨zzq, trivial⟩ fun u23 e24 => ?_)))
 have e := Nt.trim_len_of (l := l) hn hz (fun h => absurd h xq)
 show Value.slice _ _ _ = Value.slice _ _ _
 rw [e]
def NewR (u : World) (n : Nat) (t : List Rat) (K : Nat) (v : Value) (u' : World) : Prop := ∃ (b : Nat) (L : List RL), v = .slice (some ⟨b, 0, none⟩) n n ∧ u.heap.size ≤ b ∧ u'.heap[b]? = some (.cells (rcs L).toArray 32 (0, 0)) ∧ L.length = n ∧ RatsN u' L t K
theorem k_zeros {u w : World} {n : Nat} (d : Dat u w) (hn9 : n ≤ 1000000000) : Calls Tryz.prog 180 #[.int .i64 (n : Int)] w (Post u w fun v u' => NewR u n (List.replicate n 0) 2 v u') := by
 refine zzm (args := [.int .i64 n]) Tryz.func180 rfl Tryz.ntmps180 (rs := [.tmp 2]) Tryz.results180 (le_b rfl) (le_b rfl) d ?_
 refine sq9 (zza 2 (.v (.slice none 0 0)) (zzb (sq9 (zza 5 (zI n) (sy_make 6 (T := 27) (E := 32) (z := .agg #[.bool false, .slice none 0 0, .slice none 0 0]) (size := 3) (bytes := 56) n (rcs (List.replicate n rl0)) xj xj rfl rfl xq yv (made_rcs _) ?_)))))
 refine zza 3 (.slc 6 0 n n) (zzc 18 [(3, .slc 6 0 n n)] [(6, ⟨32, rcs (List.replicate n rl0)⟩)] (zzd (sq9 (zza 7 (.slc 6 0 n n) (zza 8 (zI n) (zza 9 (zI 0) (zzc 18 [(3, .slc 6 0 n n), (8, zI n), (9, zI 0)] [(6, ⟨32, rcs (List.replicate n rl0)⟩)] (zzt (zyn (I := fun ag S' u' => ∃ (i : Nat) (L : List RL), (ag = n - i) ∧ (i ≤ n) ∧ (L.length = n) ∧ (S' = St.of 18 [(3, .slc 6 0 n n), (8, zI n), (9, zI i)] [(6, ⟨32, rcs L⟩)]) ∧ (Ext u u') ∧ (RatsN u' (L.take i) ((List.replicate n (0 : Rat)).take i) 2)) (fun m S u1 u2 e h => by obtain ⟨i, L, hm, p0, p1, hS, hE, f0⟩ := h; exact ⟨i, L, hm, p0, p1, hS, hE.trans e, f0.ext e⟩) _ yz ⟨0, List.replicate n rl0, rfl, by omega, by simp, rfl, (Ext.refl _), RatsN.tnil _ _ _ _⟩ ?_)))))))))
 rintro ag _ u11 ⟨i, L, an, hi, hL, rfl, am, hR⟩
 refine sq9 (zza 10 (zB (decide ((i : Int) < (n : Int)))) (zzb (zzd (zzu (b := decide ((i : Int) < (n : Int))) xj (fun aa => ?_) (fun aa => ?_)))))
 ·have qhb12 := of_decide_eq_true aa
  refine zzs (zzp ?_)
  refine zzd (zzt (sq9 (zza 11 (zI i) (zza 4 (zI i) (zzb (zzf (zza 12 (.slc 6 0 n n) (zza 13 (zI i) (zzg 14 109 _ fun _ _ ai al => Post.mono (k_ratOf al (z := 0) xq xq) ?_)))))))))
  rintro _ u16 ak ⟨af, rfl, ao⟩
  refine zyw 15 (off' := i * 3) (n := n) (off := 0) (sz := 3) (i := (i : Int)) sl27 xq xq xq ?_
  refine zyv (V := ⟨32, rcs L⟩) (off := i * 3) (rcs ((L).set i af)) ty32 zv (zyx (r := af) (i := i) yy rfl) ?_
  refine zzx ?_
  refine zzp (zzf (zyq 16 (x := zI (IntKind.i64.wrap ((i : Int) + 1))) (zI (i + 1 : Nat)) (eqI yq) (zza 9 (zI (i + 1 : Nat)) (zzx ?_))))
  have ae : i < (List.replicate n (0 : Rat)).length := by simp; omega
  refine ⟨_, ?_, _, by exact zzv _ _ _, i + 1, (L).set i af, rfl, by omega, by simpa using hL, rfl, (am.t (ai.t ak.ext)), RatsN.tstep (hR.ext (ai.t ak.ext)) xq ae (RatN.more (K := 2) ao xq) (by rw [List.getD_eq_getElem?_getD, List.getElem?_replicate]; split <;> rfl)⟩
  omega
 have qhb12 := of_decide_eq_false aa
 refine zyc (zzp (zzd (zyp (r := 3) (t := 6) [3, 6] xk xj zk zk xj (fun ab aq aj ad ac => ?_))))
 have ap : PolN aq ⟨some ⟨ab, 0, none⟩, n, n⟩ (List.replicate n (0 : Rat)) 2 := pol_data1 ac yv (RatsN.tdone (hR.ext aj) xq zq) xq
 refine zzf (zza 17 (.v (.slice (some ⟨ab, 0, none⟩) n n)) (zza 2 (.v (.slice (some ⟨ab, 0, none⟩) n n)) (zzb (zzo (ret0 [.slice (some ⟨ab, 0, none⟩) n n] ⟨zzq, trivial⟩ fun u26 ah => ?_)))))
 exact ⟨ab, L, rfl, ad, ah.cells ac, by omega, (RatsN.tdone (hR.ext (aj.trans ah)) xq zq)⟩
theorem k_poScale {u w : World} {x : Sl} {l : List Rat} {r : RL} {q : Rat} {K M : Nat} (d : Dat u w) (hx : PolV u x l K) (hr : RatV u r q M) (hK : K ≤ 50000000) (hx9 : l.length ≤ 1000000000) (hM : M ≤ 50000000) : Calls Tryz.prog 116 #[x.v, r.v] w (Post u w fun v u' => ∃ y : Sl, v = y.v ∧ PolN u' y (Nt.trimQ (l.map (· * q))) (K + M)) := by
 have hlen := hx.len
 refine zzm (args := [x.v, r.v]) Tryz.func116 rfl Tryz.ntmps116 (rs := [.tmp 4]) Tryz.results116 (le_b rfl) (le_b rfl) d ?_
 refine sq9 (zzk 3 ⟨32, r.cs⟩ (zza 4 (.v (.slice none 0 0)) (zzb (sq9 (zza 7 (.v (x.v)) (zza 8 (zI x.n) (sy_make 9 (T := 27) (E := 32) (z := .agg #[.bool false, .slice none 0 0, .slice none 0 0]) (size := 3) (bytes := 56) x.n (rcs (List.replicate x.n rl0)) xj xj rfl rfl xq yv (made_rcs _) ?_)))))))
 refine zza 5 (.slc 9 0 x.n x.n) (zzc 27 [(0, .v (x.v)), (3, .adr 3 0), (5, .slc 9 0 x.n x.n)] [(3, ⟨32, r.cs⟩), (9, ⟨32, rcs (List.replicate x.n rl0)⟩)] (zzd (sq9 (zza 10 (.slc 9 0 x.n x.n) (zza 11 (zI x.n) (zza 12 (zI 0) (zzc 27 [(0, .v (x.v)), (3, .adr 3 0), (5, .slc 9 0 x.n x.n), (11, zI x.n), (12, zI 0)] [(3, ⟨32, r.cs⟩), (9, ⟨32, rcs (List.replicate x.n rl0)⟩)] (zzt (zyn (I := fun al S' u' => ∃ (i : Nat) (L : List RL), (al = x.n - i) ∧ (i ≤ x.n) ∧ (L.length = x.n) ∧ (S' = St.of 27 [(0, .v (x.v)), (3, .adr 3 0), (5, .slc 9 0 x.n x.n), (11, zI x.n), (12, zI i)] [(3, ⟨32, r.cs⟩), (9, ⟨32, rcs L⟩)]) ∧ (Ext u u') ∧ (RatsN u' (L.take i) ((l.map (· * q)).take i) (K + M))) (fun m S u1 u2 e h => by obtain ⟨i, L, hm, p0, p1, hS, hE, f0⟩ := h; exact ⟨i, L, hm, p0, p1, hS, hE.trans e, f0.ext e⟩) _ yz ⟨0, List.replicate x.n rl0, rfl, by omega, by simp, rfl, (Ext.refl _), RatsN.tnil _ _ _ _⟩ ?_)))))))))
 rintro al _ u11 ⟨i, L, aw, hi, hL, rfl, ad, hR⟩
 refine sq9 (zza 13 (zB (decide ((i : Int) < (x.n : Int)))) (zzb (zzd (zzu (b := decide ((i : Int) < (x.n : Int))) xj (fun aa => ?_) (fun aa => ?_)))))
 ·have qhb12 := of_decide_eq_true aa
  refine zzs (zzp ?_)
  refine zzd (zzt (sq9 (zza 14 (zI i) (zza 6 (zI i) (zzb (zzz [0, 0, 0, 0, 12, 28, 0, 124, 255, 511] [(0, []), (1, []), (2, []), (3, []), (4, []), (5, []), (6, []), (7, []), (8, []), (9, [])] xj xj (zza 15 (.slc 9 0 x.n x.n) (zza 16 (zI i) (zza 17 (.v (x.v)) (zza 18 (zI i) ?_))))))))))
  have hl13 := (hx.ext ad).len
  obtain ⟨aA, b13, ao, ag, ah, ai⟩ := pol_at (hx.ext ad) (i := i) xq
  refine zya 19 (ao + i * 3) (n := x.n) (off := ao) (sz := 3) (i := (i : Int)) xq ag xq xq sl27 (zym 20 aA.cs ah ty32 (zzi 21 (.v (r.v)) ty32 zze (zzg 22 113 _ fun _ _ ae au => Post.mono (k_ratMul au (ai.ext ae) (hr.ext (ad.trans ae)) xq xq) ?_)))
  rintro _ u17 an ⟨ak, rfl, ay⟩
  refine zyw 23 (off' := i * 3) (n := x.n) (off := 0) (sz := 3) (i := (i : Int)) sl27 xq xq xq ?_
  refine zyv (V := ⟨32, rcs L⟩) (off := i * 3) (rcs ((L).set i ak)) ty32 zv (zyx (r := ak) (i := i) yy rfl) ?_
  refine zzx ?_
  refine zzp (zzf (zyq 24 (x := zI (IntKind.i64.wrap ((i : Int) + 1))) (zI (i + 1 : Nat)) (eqI yq) (zza 12 (zI (i + 1 : Nat)) (zzx ?_))))
  have af : i < (l.map (· * q)).length := by simp; omega
  refine ⟨_, ?_, _, by exact zzv _ _ _, i + 1, (L).set i ak, rfl, by omega, by simpa using hL, rfl, (ad.t (ae.t an.ext)), RatsN.tstep (hR.ext (ae.t an.ext)) xq af (RatN.more (K := (K + M)) ay xq) (by simp [List.getElem?_eq_getElem (show i < l.length by omega)])⟩
  omega
 have qhb12 := of_decide_eq_false aa
 refine zyc (zzp (zzd (zyp (r := 5) (t := 9) [5, 9] xk xj zk zk xj (fun ac av ax az aj => ?_))))
 have ab : PolN av ⟨some ⟨ac, 0, none⟩, x.n, x.n⟩ (l.map (· * q)) (K + M) := pol_data1 aj yv (RatsN.tdone (hR.ext ax) xq zq) xq
 refine zzf (zza 25 (.v (.slice (some ⟨ac, 0, none⟩) x.n x.n)) (zzg 26 151 _ fun _ _ am aq => Post.mono (k_cut aq (ab.ext am).raw xq xw) ?_))
 rintro _ u28 ap rfl
 refine zza 4 (.v (.slice (some ⟨ac, 0, none⟩) (Nt.trimQ (l.map (· * q))).length x.n)) (zzb (zzo (ret0 [.slice (some ⟨ac, 0, none⟩) (Nt.trimQ (l.map (· * q))).length x.n] ⟨zzq, trivial⟩ fun u31 ar => ?_)))
 refine ⟨(⟨some ⟨ac, 0, none⟩, (Nt.trimQ (l.map (· * q))).length, x.n⟩ : Sl), rfl, ?_⟩
 exact ((cut_N (ab.ext (am.t ap.ext))).ext ar)
theorem k_poTrim {u w : World} {x : Sl} {l : List Rat} {K : Nat} (d : Dat u w) (hx : PolV u x l K) (hK : K ≤ 50000000) (hx9 : l.length ≤ 1000000000) : Calls Tryz.prog 117 #[x.v] w (Post u w fun v u' => ∃ y : Sl, v = y.v ∧ PolN u' y (Nt.trimQ l) K) := by
 have hlen := hx.len
 have htl := Nt.zzh l
 refine zzm (args := [x.v]) Tryz.func117 rfl Tryz.ntmps117 (rs := [.tmp 2]) Tryz.results117 (le_b rfl) (le_b rfl) d ?_
 refine sq9 (zza 2 (.v (.slice none 0 0)) (zzb (sq9 (zza 5 (.v (x.v)) (zzg 6 151 _ fun _ _ af aA => Post.mono (k_cut aA (hx.ext af) xq xw) ?_)))))
 rintro _ ar ap rfl
 refine zza 7 (zI (((Nt.trimQ l).length : Nat) : Int)) (sy_make 8 (T := 27) (E := 32) (z := .agg #[.bool false, .slice none 0 0, .slice none 0 0]) (size := 3) (bytes := 56) ((Nt.trimQ l).length) (rcs (List.replicate ((Nt.trimQ l).length) rl0)) xj xj rfl rfl xq yv (made_rcs _) ?_)
 refine zza 3 (.slc 8 0 ((Nt.trimQ l).length) ((Nt.trimQ l).length)) (zzc 24 [(0, .v (x.v)), (3, .slc 8 0 ((Nt.trimQ l).length) ((Nt.trimQ l).length))] [(8, ⟨32, rcs (List.replicate ((Nt.trimQ l).length) rl0)⟩)] (zzd (sq9 (zza 9 (.slc 8 0 ((Nt.trimQ l).length) ((Nt.trimQ l).length)) (zza 10 (zI (((Nt.trimQ l).length : Nat) : Int)) (zza 11 (zI 0) (zzc 24 [(0, .v (x.v)), (3, .slc 8 0 ((Nt.trimQ l).length) ((Nt.trimQ l).length)), (10, zI (((Nt.trimQ l).length : Nat) : Int)), (11, zI 0)] [(8, ⟨32, rcs (List.replicate ((Nt.trimQ l).length) rl0)⟩)] (zzt (zyn (I := fun ao S' u' => ∃ (i : Nat) (L : List RL), (ao = ((Nt.trimQ l).length) - i) ∧ (i ≤ (Nt.trimQ l).length) ∧ (L.length = (Nt.trimQ l).length) ∧ (S' = St.of 24 [(0, .v (x.v)), (3, .slc 8 0 ((Nt.trimQ l).length) ((Nt.trimQ l).length)), (10, zI (((Nt.trimQ l).length : Nat) : Int)), (11, zI i)] [(8, ⟨32, rcs L⟩)]) ∧ (Ext ar u') ∧ (RatsN u' (L.take i) ((Nt.trimQ l).take i) K)) (fun m S u1 u2 e h => by obtain ⟨i, L, hm, p0, p1, hS, hE, f0⟩ := h; exact ⟨i, L, hm, p0, p1, hS, hE.trans e, f0.ext e⟩) _ yz ⟨0, List.replicate ((Nt.trimQ l).length) rl0, rfl, by omega, by simp, rfl, (Ext.refl _), RatsN.tnil _ _ _ _⟩ ?_)))))))))
 rintro ao _ u15 ⟨i, L, aB, hi, hL, rfl, ah, hR⟩
 refine sq9 (zza 12 (zB (decide ((i : Int) < (((Nt.trimQ l).length : Nat) : Int)))) (zzb (zzd (zzu (b := decide ((i : Int) < (((Nt.trimQ l).length : Nat) : Int))) xj (fun aa => ?_) (fun aa => ?_)))))
 ·have qhb16 := of_decide_eq_true aa
  refine zzs (zzp ?_)
  refine zzd (zzt (sq9 (zza 13 (zI i) (zza 4 (zI i) (zzb (zzf (zza 14 (.slc 8 0 ((Nt.trimQ l).length) ((Nt.trimQ l).length)) (zza 15 (zI i) (zza 16 (.v (x.v)) (zza 17 (zI i) ?_))))))))))
  have hl17 := (hx.ext (af.t (ap.t ah))).len
  obtain ⟨ay, b17, an, aj, ac, ai⟩ := pol_at (hx.ext (af.t (ap.t ah))) (i := i) xq
  refine zya 18 (an + i * 3) (n := x.n) (off := an) (sz := 3) (i := (i : Int)) xq aj xq xq sl27 (zym 19 ay.cs ac ty32 (zzg 20 68 _ fun _ _ ak aw => Post.mono (k_ratTrim aw (ai.ext ak) xq) ?_))
  rintro _ u21 am ⟨ae, rfl, ax⟩
  refine zyw 21 (off' := i * 3) (n := (Nt.trimQ l).length) (off := 0) (sz := 3) (i := (i : Int)) sl27 xq xq xq ?_
  refine zyv (V := ⟨32, rcs L⟩) (off := i * 3) (rcs ((L).set i ae)) ty32 zv (zyx (r := ae) (i := i) yy rfl) ?_
  refine zzx ?_
  refine zzp (zzf (zyq 22 (x := zI (IntKind.i64.wrap ((i : Int) + 1))) (zI (i + 1 : Nat)) (eqI yq) (zza 11 (zI (i + 1 : Nat)) (zzx ?_))))
  have ag : i < (Nt.trimQ l).length := by skip; omega
  refine ⟨_, ?_, _, by exact zzv _ _ _, i + 1, (L).set i ae, rfl, by omega, by simpa using hL, rfl, (ah.t (ak.t am.ext)), RatsN.tstep (hR.ext (ak.t am.ext)) xq ag (RatN.more (K := K) ax xq) (Nt.trim_co l i).symm⟩
  omega
 have qhb16 := of_decide_eq_false aa
 refine zyc (zzp (zzd (zyp (r := 3) (t := 8) [3, 8] xk xj zk zk xj (fun ab az au aq ad => ?_))))
 have al : PolN az ⟨some ⟨ab, 0, none⟩, (Nt.trimQ l).length, (Nt.trimQ l).length⟩ (Nt.trimQ l) K := pol_data1 ad yv (RatsN.tdone (hR.ext au) xq (by skip; omega)) xq
 refine zzf (zza 23 (.v (.slice (some ⟨ab, 0, none⟩) ((Nt.trimQ l).length) ((Nt.trimQ l).length))) (zza 2 (.v (.slice (some ⟨ab, 0, none⟩) ((Nt.trimQ l).length) ((Nt.trimQ l).length))) (zzb (zzo (ret0 [.slice (some ⟨ab, 0, none⟩) ((Nt.trimQ l).length) ((Nt.trimQ l).length)] ⟨zzq, trivial⟩ fun u31 av => ?_)))))
 refine ⟨(⟨some ⟨ab, 0, none⟩, (Nt.trimQ l).length, (Nt.trimQ l).length⟩ : Sl), rfl, ?_⟩
 exact (al.ext av)
theorem k_poAdd {u w : World} {x : Sl} {l : List Rat} {y : Sl} {m : List Rat} {K M : Nat} (d : Dat u w) (hx : PolV u x l K) (hy : PolV u y m M) (hK : K ≤ 40000000) (hM : M ≤ 40000000) (hx9 : l.length ≤ 1000000000) (hy9 : m.length ≤ 1000000000) : Calls Tryz.prog 115 #[x.v, y.v] w (Post u w fun v u' => ∃ y : Sl, v = y.v ∧ PolN u' y (Nt.trimQ (Nt.addQ l m)) (K + M + 1)) := by
 have hlen := hx.len
 have hlen2 := hy.len
 refine zzm (args := [x.v, y.v]) Tryz.func115 rfl Tryz.ntmps115 (rs := [.tmp 4]) Tryz.results115 (le_b rfl) (le_b rfl) d ?_
 refine sq9 (zza 4 (.v (.slice none 0 0)) (zzb (zzd (sq9 (zza 7 (.v (x.v)) (zza 8 (zI x.n) (zza 9 (.v (y.v)) (zza 10 (zI y.n) (zza 11 (zB (decide ((x.n : Int) < (y.n : Int)))) (zzb (zzu (b := decide ((x.n : Int) < (y.n : Int))) xj (fun ag => ?_) (fun ag => ?_))))))))))))
 ·have qhb11 := of_decide_eq_true ag
  refine zzf (zza 12 (.v (y.v)) (zza 13 (.v (x.v)) (zza 0 (.v (y.v)) (zza 1 (.v (x.v)) (zzb (sq9 (zza 14 (.v (y.v)) (zza 15 (zI y.n) (sy_make 16 (T := 27) (E := 32) (z := .agg #[.bool false, .slice none 0 0, .slice none 0 0]) (size := 3) (bytes := 56) y.n (rcs (List.replicate y.n rl0)) xj xj rfl rfl xq yv (made_rcs _) ?_)))))))))
  refine zza 5 (.slc 16 0 y.n y.n) (zzc 49 [(0, .v (y.v)), (1, .v (x.v)), (5, .slc 16 0 y.n y.n)] [(16, ⟨32, rcs (List.replicate y.n rl0)⟩)] (zzd (sq9 (zza 17 (.slc 16 0 y.n y.n) (zza 18 (zI y.n) (zza 19 (zI 0) (zzc 49 [(0, .v (y.v)), (1, .v (x.v)), (5, .slc 16 0 y.n y.n), (18, zI y.n), (19, zI 0)] [(16, ⟨32, rcs (List.replicate y.n rl0)⟩)] (zzt (zyn (I := fun a3 S' u' => ∃ (i : Nat) (L : List RL), (a3 = y.n - i) ∧ (i ≤ y.n) ∧ (L.length = y.n) ∧ (S' = St.of 49 [(0, .v (y.v)), (1, .v (x.v)), (5, .slc 16 0 y.n y.n), (18, zI y.n), (19, zI i)] [(16, ⟨32, rcs L⟩)]) ∧ (Ext u u') ∧ (RatsN u' (L.take i) ((Nt.addQ l m).take i) (K + M + 1))) (fun m S u1 u2 e h => by obtain ⟨i, L, hm, p0, p1, hS, hE, f0⟩ := h; exact ⟨i, L, hm, p0, p1, hS, hE.trans e, f0.ext e⟩) _ yz ⟨0, List.replicate y.n rl0, rfl, by omega, by simp, rfl, (Ext.refl _), RatsN.tnil _ _ _ _⟩ ?_)))))))))
  rintro a3 _ u12 ⟨i, L, br, hi, hL, rfl, ab, hR⟩
  refine sq9 (zza 20 (zB (decide ((i : Int) < (y.n : Int)))) (zzb (zzd (zzu (b := decide ((i : Int) < (y.n : Int))) xj (fun ad => ?_) (fun ad => ?_)))))
  ·have qhb13 := of_decide_eq_true ad
   refine zzs (zzp ?_)
   refine zzd (zzt (sq9 (zza 21 (zI i) (zza 6 (zI i) (zzb (sq9 (zza 22 (zI i) (zza 23 (.v (x.v)) (zza 24 (zI x.n) (zza 25 (zB (decide ((i : Int) < (x.n : Int)))) (zzb ?_)))))))))))
   refine zzu (b := decide ((i : Int) < (x.n : Int))) xj (fun ae => ?_) (fun ae => ?_)
   ·have qhb14 := of_decide_eq_true ae
    refine zzz [0, 0, 0, 0, 12, 28, 0, 0, 192, 448, 1020, 2047, 4095] [(0, []), (1, []), (2, []), (3, []), (4, []), (5, []), (6, []), (7, []), (8, []), (9, []), (10, []), (11, []), (12, [])] xj xj (zza 26 (.slc 16 0 y.n y.n) (zza 27 (zI i) (zza 28 (.v (y.v)) (zza 29 (zI i) ?_))))
    have hl15 := (hy.ext ab).len
    obtain ⟨bm, b15, aU, aG, ax, aB⟩ := pol_at (hy.ext ab) (i := i) xq
    refine zya 30 (aU + i * 3) (n := y.n) (off := aU) (sz := 3) (i := (i : Int)) xq aG xq xq sl27 (zym 31 bm.cs ax ty32 (zza 32 (.v (x.v)) (zza 33 (zI i) ?_)))
    have hl16 := (hx.ext ab).len
    obtain ⟨a9, b16, a2, au, ar, aq⟩ := pol_at (hx.ext ab) (i := i) xq
    refine zya 34 (a2 + i * 3) (n := x.n) (off := a2) (sz := 3) (i := (i : Int)) xq au xq xq sl27 (zym 35 a9.cs ar ty32 (zzg 36 112 _ fun _ _ am bh => Post.mono (k_ratAdd bh (aB.ext am) (aq.ext am) xq xq) ?_))
    rintro _ u20 a5 ⟨aD, rfl, be⟩
    refine zyw 37 (off' := i * 3) (n := y.n) (off := 0) (sz := 3) (i := (i : Int)) sl27 xq xq xq ?_
    refine zyv (V := ⟨32, rcs L⟩) (off := i * 3) (rcs ((L).set i aD)) ty32 zv (zyx (r := aD) (i := i) yy rfl) ?_
    refine zzx ?_
    refine zzp (zzf (zyq 46 (x := zI (IntKind.i64.wrap ((i : Int) + 1))) (zI (i + 1 : Nat)) (eqI yq) (zza 19 (zI (i + 1 : Nat)) (zzx ?_))))
    have aK : i < (Nt.addQ l m).length := by rw [Nt.addQ_len]; omega
    refine ⟨_, ?_, _, by exact zzv _ _ _, i + 1, (L).set i aD, rfl, by omega, by simpa using hL, rfl, (ab.t (am.t a5.ext)), RatsN.tstep (hR.ext (am.t a5.ext)) xq aK (RatN.more (K := (M + K + 1)) be xq) (by have h9 := Nt.addQ_co l m i; unfold Nt.co at h9; show _ = List.getD _ _ _; rw [h9]; exact Rat.add_comm _ _)⟩
    omega
   have qhb14 := of_decide_eq_false ae
   refine zzf (zza 38 (.slc 16 0 y.n y.n) (zza 39 (zI i) (zza 40 (.v (y.v)) (zza 41 (zI i) ?_))))
   have hl24 := (hy.ext ab).len
   obtain ⟨bz, b24, aT, aN, aL, az⟩ := pol_at (hy.ext ab) (i := i) xq
   refine zya 42 (aT + i * 3) (n := y.n) (off := aT) (sz := 3) (i := (i : Int)) xq aN xq xq sl27 (zym 43 bz.cs aL ty32 (zzg 44 68 _ fun _ _ aF bn => Post.mono (k_ratTrim bn (az.ext aF) xq) ?_))
   rintro _ u28 aY ⟨aS, rfl, bt⟩
   refine zyw 45 (off' := i * 3) (n := y.n) (off := 0) (sz := 3) (i := (i : Int)) sl27 xq xq xq ?_
   refine zyv (V := ⟨32, rcs L⟩) (off := i * 3) (rcs ((L).set i aS)) ty32 zv (zyx (r := aS) (i := i) yy rfl) ?_
   refine zzx ?_
   refine zzp (zzf (zyq 46 (x := zI (IntKind.i64.wrap ((i : Int) + 1))) (zI (i + 1 : Nat)) (eqI yq) (zza 19 (zI (i + 1 : Nat)) (zzx ?_))))
   have aJ : i < (Nt.addQ l m).length := by rw [Nt.addQ_len]; omega
   refine ⟨_, ?_, _, by exact zzv _ _ _, i + 1, (L).set i aS, rfl, by omega, by simpa using hL, rfl, (ab.t (aF.t aY.ext)), RatsN.tstep (hR.ext (aF.t aY.ext)) xq aJ (RatN.more (K := M) bt xq) (by have h9 := Nt.addQ_co l m i; unfold Nt.co at h9; show _ = List.getD _ _ _; rw [h9]; rw [show l.getD i 0 = 0 from Nt.co_ge xq]; grind)⟩
   omega
  have qhb13 := of_decide_eq_false ad
  refine zyc (zzp (zzd (zyp (r := 5) (t := 16) [5, 16] xk xj zk zk xj (fun ah bq bi bf aR => ?_))))
  have aj : PolN bq ⟨some ⟨ah, 0, none⟩, y.n, y.n⟩ (Nt.addQ l m) (K + M + 1) := pol_data1 aR yv (RatsN.tdone (hR.ext bi) xq (by rw [Nt.addQ_len]; omega)) xq
  refine zzf (zza 47 (.v (.slice (some ⟨ah, 0, none⟩) y.n y.n)) (zzg 48 151 _ fun _ _ aZ bw => Post.mono (k_cut bw (aj.ext aZ).raw xq xw) ?_))
  rintro _ u39 bg rfl
  refine zza 4 (.v (.slice (some ⟨ah, 0, none⟩) (Nt.trimQ (Nt.addQ l m)).length y.n)) (zzb (zzo (ret0 [.slice (some ⟨ah, 0, none⟩) (Nt.trimQ (Nt.addQ l m)).length y.n] ⟨zzq, trivial⟩ fun u42 bu => ?_)))
  refine ⟨(⟨some ⟨ah, 0, none⟩, (Nt.trimQ (Nt.addQ l m)).length, y.n⟩ : Sl), rfl, ?_⟩
  exact ((cut_N (aj.ext (aZ.t bg.ext))).ext bu)
 have qhb11 := of_decide_eq_false ag
 refine zzs (zzp ?_)
 refine sq9 (zza 14 (.v (x.v)) (zza 15 (zI x.n) (sy_make 16 (T := 27) (E := 32) (z := .agg #[.bool false, .slice none 0 0, .slice none 0 0]) (size := 3) (bytes := 56) x.n (rcs (List.replicate x.n rl0)) xj xj rfl rfl xq yv (made_rcs _) ?_)))
 refine zza 5 (.slc 16 0 x.n x.n) (zzc 49 [(0, .v (x.v)), (1, .v (y.v)), (5, .slc 16 0 x.n x.n)] [(16, ⟨32, rcs (List.replicate x.n rl0)⟩)] (zzd (sq9 (zza 17 (.slc 16 0 x.n x.n) (zza 18 (zI x.n) (zza 19 (zI 0) (zzc 49 [(0, .v (x.v)), (1, .v (y.v)), (5, .slc 16 0 x.n x.n), (18, zI x.n), (19, zI 0)] [(16, ⟨32, rcs (List.replicate x.n rl0)⟩)] (zzt (zyn (I := fun aW S' u' => ∃ (i : Nat) (L : List RL), (aW = x.n - i) ∧ (i ≤ x.n) ∧ (L.length = x.n) ∧ (S' = St.of 49 [(0, .v (x.v)), (1, .v (y.v)), (5, .slc 16 0 x.n x.n), (18, zI x.n), (19, zI i)] [(16, ⟨32, rcs L⟩)]) ∧ (Ext u u') ∧ (RatsN u' (L.take i) ((Nt.addQ l m).take i) (K + M + 1))) (fun m S u1 u2 e h => by obtain ⟨i, L, hm, p0, p1, hS, hE, f0⟩ := h; exact ⟨i, L, hm, p0, p1, hS, hE.trans e, f0.ext e⟩) _ yz ⟨0, List.replicate x.n rl0, rfl, by omega, by simp, rfl, (Ext.refl _), RatsN.tnil _ _ _ _⟩ ?_)))))))))
 rintro aW _ u44 ⟨i, L, bc, hi, hL, rfl, aa, hR⟩
 refine sq9 (zza 20 (zB (decide ((i : Int) < (x.n : Int)))) (zzb (zzd (zzu (b := decide ((i : Int) < (x.n : Int))) xj (fun ac => ?_) (fun ac => ?_)))))
 ·have qhb45 := of_decide_eq_true ac
  refine zzs (zzp ?_)
  refine zzd (zzt (sq9 (zza 21 (zI i) (zza 6 (zI i) (zzb (sq9 (zza 22 (zI i) (zza 23 (.v (y.v)) (zza 24 (zI y.n) (zza 25 (zB (decide ((i : Int) < (y.n : Int)))) (zzb ?_)))))))))))
  refine zzu (b := decide ((i : Int) < (y.n : Int))) xj (fun af => ?_) (fun af => ?_)
  ·have qhb46 := of_decide_eq_true af
   refine zzz [0, 0, 0, 0, 12, 28, 0, 0, 192, 448, 1020, 2047, 4095] [(0, []), (1, []), (2, []), (3, []), (4, []), (5, []), (6, []), (7, []), (8, []), (9, []), (10, []), (11, []), (12, [])] xj xj (zza 26 (.slc 16 0 x.n x.n) (zza 27 (zI i) (zza 28 (.v (x.v)) (zza 29 (zI i) ?_))))
   have hl47 := (hx.ext aa).len
   obtain ⟨bp, b47, a0, aQ, ap, aP⟩ := pol_at (hx.ext aa) (i := i) xq
   refine zya 30 (a0 + i * 3) (n := x.n) (off := a0) (sz := 3) (i := (i : Int)) xq aQ xq xq sl27 (zym 31 bp.cs ap ty32 (zza 32 (.v (y.v)) (zza 33 (zI i) ?_)))
   have hl48 := (hy.ext aa).len
   obtain ⟨bl, b48, a4, aA, aC, ay⟩ := pol_at (hy.ext aa) (i := i) xq
   refine zya 34 (a4 + i * 3) (n := y.n) (off := a4) (sz := 3) (i := (i : Int)) xq aA xq xq sl27 (zym 35 bl.cs aC ty32 (zzg 36 112 _ fun _ _ al bj => Post.mono (k_ratAdd bj (aP.ext al) (ay.ext al) xq xq) ?_))
   rintro _ u52 aV ⟨ao, rfl, a7⟩
   refine zyw 37 (off' := i * 3) (n := x.n) (off := 0) (sz := 3) (i := (i : Int)) sl27 xq xq xq ?_
   refine zyv (V := ⟨32, rcs L⟩) (off := i * 3) (rcs ((L).set i ao)) ty32 zv (zyx (r := ao) (i := i) yy rfl) ?_
   refine zzx ?_
   refine zzp (zzf (zyq 46 (x := zI (IntKind.i64.wrap ((i : Int) + 1))) (zI (i + 1 : Nat)) (eqI yq) (zza 19 (zI (i + 1 : Nat)) (zzx ?_))))
   have aO : i < (Nt.addQ l m).length := by rw [Nt.addQ_len]; omega
   refine ⟨_, ?_, _, by exact zzv _ _ _, i + 1, (L).set i ao, rfl, by omega, by simpa using hL, rfl, (aa.t (al.t aV.ext)), RatsN.tstep (hR.ext (al.t aV.ext)) xq aO (RatN.more (K := (K + M + 1)) a7 xq) (by have h9 := Nt.addQ_co l m i; unfold Nt.co at h9; show _ = List.getD _ _ _; rw [h9])⟩
   omega
  have qhb46 := of_decide_eq_false af
  refine zzf (zza 38 (.slc 16 0 x.n x.n) (zza 39 (zI i) (zza 40 (.v (x.v)) (zza 41 (zI i) ?_))))
  have hl56 := (hx.ext aa).len
  obtain ⟨bs, b56, a1, aE, av, aI⟩ := pol_at (hx.ext aa) (i := i) xq
  refine zya 42 (a1 + i * 3) (n := x.n) (off := a1) (sz := 3) (i := (i : Int)) xq aE xq xq sl27 (zym 43 bs.cs av ty32 (zzg 44 68 _ fun _ _ an bo => Post.mono (k_ratTrim bo (aI.ext an) xq) ?_))
  rintro _ u60 aX ⟨aM, rfl, bd⟩
  refine zyw 45 (off' := i * 3) (n := x.n) (off := 0) (sz := 3) (i := (i : Int)) sl27 xq xq xq ?_
  refine zyv (V := ⟨32, rcs L⟩) (off := i * 3) (rcs ((L).set i aM)) ty32 zv (zyx (r := aM) (i := i) yy rfl) ?_
  refine zzx ?_
  refine zzp (zzf (zyq 46 (x := zI (IntKind.i64.wrap ((i : Int) + 1))) (zI (i + 1 : Nat)) (eqI yq) (zza 19 (zI (i + 1 : Nat)) (zzx ?_))))
  have aw : i < (Nt.addQ l m).length := by rw [Nt.addQ_len]; omega
  refine ⟨_, ?_, _, by exact zzv _ _ _, i + 1, (L).set i aM, rfl, by omega, by simpa using hL, rfl, (aa.t (an.t aX.ext)), RatsN.tstep (hR.ext (an.t aX.ext)) xq aw (RatN.more (K := K) bd xq) (by have h9 := Nt.addQ_co l m i; unfold Nt.co at h9; show _ = List.getD _ _ _; rw [h9]; rw [show m.getD i 0 = 0 from Nt.co_ge xq]; grind)⟩
  omega
 have qhb45 := of_decide_eq_false ac
 refine zyc (zzp (zzd (zyp (r := 5) (t := 16) [5, 16] xk xj zk zk xj (fun ak bx bk bv aH => ?_))))
 have ai : PolN bx ⟨some ⟨ak, 0, none⟩, x.n, x.n⟩ (Nt.addQ l m) (K + M + 1) := pol_data1 aH yv (RatsN.tdone (hR.ext bk) xq (by rw [Nt.addQ_len]; omega)) xq
 refine zzf (zza 47 (.v (.slice (some ⟨ak, 0, none⟩) x.n x.n)) (zzg 48 151 _ fun _ _ a6 a8 => Post.mono (k_cut a8 (ai.ext a6).raw xq xw) ?_))
 rintro _ u71 ba rfl
 refine zza 4 (.v (.slice (some ⟨ak, 0, none⟩) (Nt.trimQ (Nt.addQ l m)).length x.n)) (zzb (zzo (ret0 [.slice (some ⟨ak, 0, none⟩) (Nt.trimQ (Nt.addQ l m)).length x.n] ⟨zzq, trivial⟩ fun u74 bb => ?_)))
 refine ⟨(⟨some ⟨ak, 0, none⟩, (Nt.trimQ (Nt.addQ l m)).length, x.n⟩ : Sl), rfl, ?_⟩
 exact ((cut_N (ai.ext (a6.t ba.ext))).ext bb)
theorem k_poParts {u w : World} {r : RL} (d : Dat u w) : Calls Tryz.prog 223 #[r.v] w (Post u w fun v u' => ∃ y : Sl, v = .tuple #[.agg #[.bool r.s, r.m.v, y.v], .agg #[.bool false, r.d.v, y.v]] ∧ NatN u' y 1 1) := by
 refine zzm (args := [r.v]) Tryz.func223 rfl Tryz.ntmps223 (rs := [.cell 2 32, .cell 3 32]) Tryz.results223 (le_b rfl) (le_b rfl) d ?_
 refine sq9 (zzk 1 ⟨32, r.cs⟩ (zzk 2 ⟨32, zw3⟩ (zzk 3 ⟨32, zw3⟩ (zzb (sq9 (zxz 5 ⟨133, [.int .u32 1]⟩ 1 (fun aa u12 e13 ab => ?_)))))))
 refine zza 4 (.v (.slice (some ⟨aa, 0, none⟩) 1 1)) (zzb (zzd (zzz [0, 1, 0, 7, 0, 16, 48, 0, 240, 15, 1023] [(0, []), (1, []), (2, []), (3, []), (4, []), (5, []), (6, []), (7, []), (8, []), (9, [10]), (10, [])] xj xj (zza 6 (.adr 1 0) (zzi 7 (.v (.agg #[.bool r.s, r.m.v])) ty30 zze (zza 8 (.v (.slice (some ⟨aa, 0, none⟩) 1 1)) (zza 9 (.v (.agg #[.bool r.s, r.m.v, .slice (some ⟨aa, 0, none⟩) 1 1])) (zza 10 (.adr 1 2) (zzi 11 (.v (r.d.v)) ty28 zzl (zza 12 (.v (.agg #[.bool false, r.d.v])) (zza 13 (.v (.slice (some ⟨aa, 0, none⟩) 1 1)) ?_)))))))))))
 refine zza 14 (.v (.agg #[.bool false, r.d.v, .slice (some ⟨aa, 0, none⟩) 1 1])) (zzj ⟨32, [.bool r.s, r.m.v, .slice (some ⟨aa, 0, none⟩) 1 1]⟩ ty32 ?_)
 refine zzj ⟨32, [.bool false, r.d.v, .slice (some ⟨aa, 0, none⟩) 1 1]⟩ ty32 ?_
 refine zzb (zzo (ret0 [.agg #[.bool r.s, r.m.v, .slice (some ⟨aa, 0, none⟩) 1 1], .agg #[.bool false, r.d.v, .slice (some ⟨aa, 0, none⟩) 1 1]] ⟨zzr ty32 zze, zzr ty32 zze, trivial⟩ fun u15 ac => ?_))
 exact ⟨(⟨some ⟨aa, 0, none⟩, 1, 1⟩ : Sl), rfl, ((one_data ab).ext ac)⟩
set_option maxHeartbeats 1000000 in
theorem k_common {u w : World} {r1 r2 : RL} {x y : Rat} {K M : Nat} (d : Dat u w) (h1 : RatN u r1 x K) (h2 : RatV u r2 y M) (hK : K ≤ 40000000) (hM : M ≤ 40000000) : Calls Tryz.prog 212 #[r1.v, r2.v] w (Post u w fun v u' => ∃ r : RL, v = r.v ∧ RatN u' r (Nt.cmn x y) (K + M)) := by
 refine zzm (args := [r1.v, r2.v]) Tryz.func212 rfl Tryz.ntmps212 (rs := [.cell 4 32]) Tryz.results212 (le_b rfl) (le_b rfl) d ?_
 refine sq9 (zzk 2 ⟨32, r1.cs⟩ (zzk 3 ⟨32, r2.cs⟩ (zzk 4 ⟨32, zw3⟩ (zzb (zzd (sq9 (zzi 11 (.v (r1.v)) ty32 zze (zzg 12 66 _ fun _ _ ae ax => Post.mono (k_ratSign ax (h1.ext ae).raw) ?_))))))))
 rintro _ u12 ah rfl
 refine zza 13 (zB ((Nt.sgQ x) == 0)) (zzb (zzu (b := (Nt.sgQ x) == 0) xj (fun ac => ?_) (fun ac => ?_)))
 ·have ag : x = 0 := by have h9 := ac; rw [Nt.sgQ_eq] at h9; simpa using h9
  refine sq9 (zzi 14 (.v (r2.v)) ty32 zze (zzg 15 65 _ fun _ _ av aC => Post.mono (k_ratAbs aC (h2.ext (ae.t (ah.t av))) xq) ?_))
  rintro _ u19 g20 ⟨ak, rfl, aF⟩
  refine zzj ⟨32, ak.cs⟩ ty32 ?_
  refine zzb (zzo (zzw (ret0 [ak.v] ⟨zzr ty32 zze, trivial⟩ fun u22 au => ?_)))
  have e9 : Nt.cmn x y = (Nt.absQ y) := by unfold Nt.cmn; rw [if_pos ag]
  have hs := Nt.rs_cmn x y
  have hs1 := h1.rs
  have hs2 := h2.rs
  refine ⟨ak, rfl, RatN.fit (K := M) ?_ xq⟩
  rw [e9]
  exact (aF.ext au)
 have ag : ¬ x = 0 := by have h9 := ac; rw [Nt.sgQ_eq] at h9; simpa using h9
 refine zzs (zzp ?_)
 refine sq9 (zzi 17 (.v (r1.v)) ty32 zze (zzi 18 (.v (r2.v)) ty32 zze (zzg 19 138 _ fun _ _ ai ar => Post.mono (k_ratDiv ar (h1.ext (ae.t (ah.t ai))).raw (h2.ext (ae.t (ah.t ai))) xq xq) ?_)))
 rintro _ u28 al (⟨rfl, ab⟩ | ⟨ab, aa, rfl, aG⟩)
 ·skip
  refine zza 16 (.v (.tuple #[.agg #[.bool false, .slice none 0 0, .slice none 0 0], .int .i64 3])) (zza 20 (.v (.agg #[.bool false, .slice none 0 0, .slice none 0 0])) (zza 21 (zI 3) (zzk 5 ⟨32, zw3⟩ (zzj ⟨32, zw3⟩ ty32 ?_))))
  refine zza 6 (zI 3) (zzb (zzd (sq9 (zza 22 (zI 3) (zza 23 (zB true) (zzb (zyr xj (sq9 (zzi 24 (.v (r1.v)) ty32 zze (zzj ⟨32, r1.cs⟩ ty32 ?_))))))))))
  refine zzb (zzo (zzw (ret0 [r1.v] ⟨zzr ty32 zze, trivial⟩ fun u31 aq => ?_)))
  have e9 : Nt.cmn x y = x := by unfold Nt.cmn; rw [if_neg ag, if_pos ab]
  have hs := Nt.rs_cmn x y
  have hs1 := h1.rs
  have hs2 := h2.rs
  refine ⟨r1, rfl, RatN.fit (K := K) ?_ xq⟩
  rw [e9]
  exact (h1.ext (ae.t (ah.t (ai.t (al.t aq)))))
 refine zza 16 (.v (.tuple #[aa.v, .int .i64 0])) (zza 20 (.v (aa.v)) (zza 21 (zI 0) (zzk 5 ⟨32, zw3⟩ (zzj ⟨32, aa.cs⟩ ty32 ?_))))
 refine zza 6 (zI 0) (zzb (zzd (sq9 (zza 22 (zI 0) (zza 23 (zB false) (zzb (zys xj (zzs (zzp ?_)))))))))
 refine sq9 (zzi 26 (.v (aa.v)) ty32 zze (zzg 27 223 _ fun _ _ an aw => Post.mono (k_poParts (r := aa) aw) ?_))
 rintro _ u36 ao ⟨ad, rfl, ap⟩
 refine zza 25 (.v (.tuple #[.agg #[.bool aa.s, aa.m.v, ad.v], .agg #[.bool false, aa.d.v, ad.v]])) (zza 28 (.v (.agg #[.bool aa.s, aa.m.v, ad.v])) (zza 29 (.v (.agg #[.bool false, aa.d.v, ad.v])) (zzk 7 ⟨32, zw3⟩ (zzk 8 ⟨32, zw3⟩ (zzj ⟨32, [.bool aa.s, aa.m.v, ad.v]⟩ ty32 ?_)))))
 refine zzj ⟨32, [.bool false, aa.d.v, ad.v]⟩ ty32 ?_
 refine zzb (sq9 (zzi 31 (.v (r1.v)) ty32 zze (zzi 32 (.v (.agg #[.bool aa.s, aa.m.v, ad.v])) ty32 zze (zzg 33 138 _ fun _ _ am aD => Post.mono (k_ratDiv1 aD (h1.ext (ae.t (ah.t (ai.t (al.t (an.t (ao.t am))))))).raw ((whole_rat (RatN.num (aG.ext (an.t ao.ext))) ap).ext am).raw (Nt.num_ne (Nt.div_ne ag ab)) xq xq) ?_))))
 rintro _ u42 g43 ⟨af, rfl, ay⟩
 refine zza 30 (.v (.tuple #[af.v, .int .i64 0])) (zza 34 (.v (af.v)) (zza 35 (zI 0) (zzk 9 ⟨32, zw3⟩ (zzj ⟨32, af.cs⟩ ty32 ?_))))
 refine zza 10 (zI 0) (zzc 38 [(4, .adr 4 0), (9, .adr 9 0)] [(4, ⟨32, zw3⟩), (9, ⟨32, af.cs⟩)] (sq9 (zzi 36 (.v (af.v)) ty32 zze (zzg 37 65 _ fun _ _ aE aB => Post.mono (k_ratAbs aB (ay.ext aE).raw xq) ?_))))
 rintro _ u48 g49 ⟨aj, rfl, aA⟩
 refine zzj ⟨32, aj.cs⟩ ty32 ?_
 refine zzb (zzo (ret0 [aj.v] ⟨zzr ty32 zze, trivial⟩ fun u51 az => ?_))
 have e9 : Nt.cmn x y = (Nt.absQ (x / (((x / y).num : Int) : Rat))) := by unfold Nt.cmn; rw [if_neg ag, if_neg ab]
 have hs := Nt.rs_cmn x y
 have hs1 := h1.rs
 have hs2 := h2.rs
 refine ⟨aj, rfl, RatN.fit (K := (K + (max (K + M) 1))) ?_ xq⟩
 rw [e9]
 exact (aA.ext az)
set_option maxHeartbeats 1000000 in
theorem k_split {u w : World} {x : Sl} {l : List Rat} {K : Nat} (d : Dat u w) (hx : PolV u x l K) (hK : (l.length + 1) * K ≤ 30000000) (hx9 : l.length ≤ 1000000000) : Calls Tryz.prog 179 #[x.v] w (Post u w fun v u' => ∃ (r : RL) (y : Sl), v = .tuple #[r.v, y.v] ∧ RatN u' r (Nt.msr (Nt.trimQ l)) ((Nt.trimQ l).length * K + 2) ∧ PolN u' y ((Nt.trimQ l).map (· / Nt.msr (Nt.trimQ l))) (K + ((Nt.trimQ l).length * K + 2))) := by
 have hlen := hx.len
 have htl := Nt.zzh l
 have hKK : (Nt.trimQ l).length * K ≤ l.length * K := Nat.mul_le_mul_right _ htl
 rw [Nat.add_mul] at hK
 refine zzm (args := [x.v]) Tryz.func179 rfl Tryz.ntmps179 (rs := [.cell 2 32, .tmp 3]) Tryz.results179 (le_b rfl) (le_b rfl) d ?_
 refine sq9 (zzk 2 ⟨32, zw3⟩ (zza 3 (.v (.slice none 0 0)) (zzb (sq9 (zza 10 (.v (x.v)) (zzg 11 151 _ fun _ _ ad aV => Post.mono (k_cut aV (hx.ext ad) xq xw) ?_))))))
 rintro _ u12 ak rfl
 refine zza 0 (.v (.slice x.a (Nt.trimQ l).length x.c)) (zzb (sq9 (zzg 12 109 _ fun _ _ aj aN => Post.mono (k_ratOf aN (z := 0) xq xq) ?_)))
 rintro _ aU ai ⟨az, rfl, aR⟩
 refine zzk 4 ⟨32, zw3⟩ (zzj ⟨32, az.cs⟩ ty32 ?_)
 refine zzb (zzd (sq9 (zza 13 (.v (.slice x.a (Nt.trimQ l).length x.c)) (zza 14 (zI (((Nt.trimQ l).length : Nat) : Int)) (zza 15 (zI 0) (zzb (zzt (zyn (I := fun aK S' u' => ∃ (i : Nat) (r : RL), (aK = (Nt.trimQ l).length - i) ∧ (i ≤ (Nt.trimQ l).length) ∧ (S' = St.of 45 [(0, .v (.slice x.a (Nt.trimQ l).length x.c)), (2, .adr 2 0), (4, .adr 4 0), (13, .v (.slice x.a (Nt.trimQ l).length x.c)), (14, zI (((Nt.trimQ l).length : Nat) : Int)), (15, zI i)] [(2, ⟨32, zw3⟩), (4, ⟨32, r.cs⟩)]) ∧ (Ext aU u') ∧ (RatN u' r (Nt.msr ((Nt.trimQ l).take i)) (i * K + 2))) (fun m S u1 u2 e h => by obtain ⟨i, r, hm, p0, hS, hE, f0⟩ := h; exact ⟨i, r, hm, p0, hS, hE.trans e, f0.ext e⟩) _ yz ⟨0, az, rfl, by omega, rfl, (Ext.refl _), (RatN.more (K := 2) aR xq)⟩ ?_))))))))
 rintro aK _ aJ ⟨i, r, aO, hi, rfl, ag, hM⟩
 have hiK : i * K ≤ (Nt.trimQ l).length * K := Nat.mul_le_mul_right _ hi
 refine sq9 (zza 16 (zB (decide ((i : Int) < (((Nt.trimQ l).length : Nat) : Int)))) (zzb (zzd (zzu (b := decide ((i : Int) < (((Nt.trimQ l).length : Nat) : Int))) xj (fun aa => ?_) (fun aa => ?_)))))
 ·have qhb22 := of_decide_eq_true aa
  refine zzs (zzp ?_)
  refine zzd (zzt (sq9 ?_))
  have hl23 := ((cut_V (hx.ext (ad.t ak.ext))).ext (aj.t (ai.t ag))).len
  change (Nt.trimQ l).length = _ at hl23
  obtain ⟨au, b23, aD, ar, al, ap⟩ := pol_at ((cut_V (hx.ext (ad.t ak.ext))).ext (aj.t (ai.t ag))) (i := i) xq
  refine zya 17 (aD + i * 3) (n := (Nt.trimQ l).length) (off := aD) (sz := 3) (i := (i : Int)) xq ar xq xq sl27 (zym 18 au.cs al ty32 (zzk 6 ⟨32, zw3⟩ (zzj ⟨32, au.cs⟩ ty32 ?_)))
  refine zzb (zzf (zzi 19 (.v (r.v)) ty32 zze (zzi 20 (.v (au.v)) ty32 zze (zzg 21 212 _ fun _ _ ao aQ => Post.mono (k_common aQ (hM.ext ao) (ap.ext ao) xq xq) ?_))))
  rintro _ u27 aP ⟨aE, rfl, aX⟩
  refine zzj ⟨32, aE.cs⟩ ty32 ?_
  refine zzx ?_
  refine zzp (zzf (zyq 22 (x := zI (IntKind.i64.wrap ((i : Int) + 1))) (zI (i + 1 : Nat)) (eqI yq) (zza 15 (zI (i + 1 : Nat)) (zzx ?_))))
  refine ⟨_, ?_, _, by exact zzv _ _ _, i + 1, aE, rfl, by omega, rfl, (ag.t (ao.t aP.ext)), (RatN.more (K := ((i * K + 2) + K)) (by rw [Nt.msr_take xq]; exact aX) (by rw [Nat.add_mul]; omega))⟩
  omega
 have qhb22 := of_decide_eq_false aa
 refine zyc (zzp (zzd ?_))
 have aF : i = (Nt.trimQ l).length := by omega
 have hms : RatN aJ r (Nt.msr (Nt.trimQ l)) ((Nt.trimQ l).length * K + 2) := by have h9 := hM; rw [aF, List.take_length] at h9; exact h9
 clear aF
 refine zzf (zza 23 (.v (.slice x.a (Nt.trimQ l).length x.c)) (zza 24 (zI (((Nt.trimQ l).length : Nat) : Int)) (sy_make 25 (T := 27) (E := 32) (z := .agg #[.bool false, .slice none 0 0, .slice none 0 0]) (size := 3) (bytes := 56) ((Nt.trimQ l).length) (rcs (List.replicate ((Nt.trimQ l).length) rl0)) xj xj rfl rfl xq yv (made_rcs _) ?_)))
 refine zza 7 (.slc 25 0 ((Nt.trimQ l).length) ((Nt.trimQ l).length)) (zzc 45 [(0, .v (.slice x.a (Nt.trimQ l).length x.c)), (2, .adr 2 0), (4, .adr 4 0), (7, .slc 25 0 ((Nt.trimQ l).length) ((Nt.trimQ l).length))] [(2, ⟨32, zw3⟩), (4, ⟨32, r.cs⟩), (25, ⟨32, rcs (List.replicate ((Nt.trimQ l).length) rl0)⟩)] (zzd (sq9 (zza 26 (.v (.slice x.a (Nt.trimQ l).length x.c)) (zza 27 (zI (((Nt.trimQ l).length : Nat) : Int)) (zza 28 (zI 0) (zzb (zzt (zyn (I := fun aC S' u' => ∃ (i2 : Nat) (L2 : List RL), (aC = ((Nt.trimQ l).length) - i2) ∧ (i2 ≤ (Nt.trimQ l).length) ∧ (L2.length = (Nt.trimQ l).length) ∧ (S' = St.of 45 [(2, .adr 2 0), (4, .adr 4 0), (7, .slc 25 0 ((Nt.trimQ l).length) ((Nt.trimQ l).length)), (26, .v (.slice x.a (Nt.trimQ l).length x.c)), (27, zI (((Nt.trimQ l).length : Nat) : Int)), (28, zI i2)] [(2, ⟨32, zw3⟩), (4, ⟨32, r.cs⟩), (25, ⟨32, rcs L2⟩)]) ∧ (Ext aJ u') ∧ (RatsN u' (L2.take i2) (((Nt.trimQ l).map (· / Nt.msr (Nt.trimQ l))).take i2) (K + ((Nt.trimQ l).length * K + 2)))) (fun m S u1 u2 e h => by obtain ⟨i2, L2, hm, p0, p1, hS, hE, f0⟩ := h; exact ⟨i2, L2, hm, p0, p1, hS, hE.trans e, f0.ext e⟩) _ yz ⟨0, List.replicate ((Nt.trimQ l).length) rl0, rfl, by omega, by simp, rfl, (Ext.refl _), RatsN.tnil _ _ _ _⟩ ?_)))))))))
 rintro aC _ u30 ⟨i2, L2, aY, hi2, aM, rfl, ae, aI⟩
 refine sq9 (zza 29 (zB (decide ((i2 : Int) < (((Nt.trimQ l).length : Nat) : Int)))) (zzb (zzd (zzu (b := decide ((i2 : Int) < (((Nt.trimQ l).length : Nat) : Int))) xj (fun ab => ?_) (fun ab => ?_)))))
 ·have qhb31 := of_decide_eq_true ab
  refine zzs (zzp ?_)
  refine zzd (zzt (sq9 (zza 30 (zI i2) ?_)))
  have hl32 := ((cut_V (hx.ext (ad.t ak.ext))).ext (aj.t (ai.t (ag.trans ae)))).len
  change (Nt.trimQ l).length = _ at hl32
  obtain ⟨am, b32, aA, ax, av, ay⟩ := pol_at ((cut_V (hx.ext (ad.t ak.ext))).ext (aj.t (ai.t (ag.trans ae)))) (i := i2) xq
  refine zya 31 (aA + i2 * 3) (n := (Nt.trimQ l).length) (off := aA) (sz := 3) (i := (i2 : Int)) xq ax xq xq sl27 (zym 32 am.cs av ty32 (zzk 9 ⟨32, zw3⟩ (zza 8 (zI i2) (zzj ⟨32, am.cs⟩ ty32 ?_))))
  refine zzb (zzf (zza 34 (.slc 25 0 ((Nt.trimQ l).length) ((Nt.trimQ l).length)) (zza 35 (zI i2) (zzi 36 (.v (am.v)) ty32 zze (zzi 37 (.v (r.v)) ty32 zze (zzg 38 138 _ fun _ _ ah aT => Post.mono (k_ratDiv1 aT (ay.ext ah) (hms.ext (ae.trans ah)).raw (Nt.msr_ne (Nt.trim_nrm l) xq) xq xq) ?_))))))
  rintro _ u36 aG ⟨af, rfl, aL⟩
  refine zza 33 (.v (.tuple #[af.v, .int .i64 0])) (zza 39 (.v (af.v)) (zza 40 (zI 0) (zyw 41 (off' := i2 * 3) (n := (Nt.trimQ l).length) (off := 0) (sz := 3) (i := (i2 : Int)) sl27 xq xq xq ?_)))
  refine zyv (V := ⟨32, rcs L2⟩) (off := i2 * 3) (rcs ((L2).set i2 af)) ty32 zv (zyx (r := af) (i := i2) yy rfl) ?_
  refine zzx ?_
  refine zzp (zzf (zyq 42 (x := zI (IntKind.i64.wrap ((i2 : Int) + 1))) (zI (i2 + 1 : Nat)) (eqI yq) (zza 28 (zI (i2 + 1 : Nat)) (zzx ?_))))
  have aw : i2 < ((Nt.trimQ l).map (· / Nt.msr (Nt.trimQ l))).length := by simp; omega
  refine ⟨_, ?_, _, by exact zzv _ _ _, i2 + 1, (L2).set i2 af, rfl, by omega, by simpa using aM, rfl, (ae.t (ah.t aG.ext)), RatsN.tstep (aI.ext (ah.t aG.ext)) xq aw (RatN.more (K := (K + ((Nt.trimQ l).length * K + 2))) aL xq) (by simp [List.getElem?_eq_getElem (show i2 < (Nt.trimQ l).length by omega)])⟩
  omega
 have qhb31 := of_decide_eq_false ab
 refine zyc (zzp (zzd (zyp (r := 7) (t := 25) [7, 25] xk xj zk zk xj (fun ac aS aH aW an => ?_))))
 have aq : PolN aS ⟨some ⟨ac, 0, none⟩, (Nt.trimQ l).length, (Nt.trimQ l).length⟩ ((Nt.trimQ l).map (· / Nt.msr (Nt.trimQ l))) (K + ((Nt.trimQ l).length * K + 2)) := pol_data1 an yv (RatsN.tdone (aI.ext aH) xq zq) xq
 refine zzf (zzi 43 (.v (r.v)) ty32 zze (zza 44 (.v (.slice (some ⟨ac, 0, none⟩) ((Nt.trimQ l).length) ((Nt.trimQ l).length))) (zzj ⟨32, r.cs⟩ ty32 ?_)))
 refine zza 3 (.v (.slice (some ⟨ac, 0, none⟩) ((Nt.trimQ l).length) ((Nt.trimQ l).length))) (zzb (zzo (ret0 [r.v, .slice (some ⟨ac, 0, none⟩) ((Nt.trimQ l).length) ((Nt.trimQ l).length)] ⟨zzr ty32 zze, zzq, trivial⟩ fun u46 aB => ?_)))
 exact ⟨r, (⟨some ⟨ac, 0, none⟩, (Nt.trimQ l).length, (Nt.trimQ l).length⟩ : Sl), rfl, (hms.ext (ae.trans (aH.trans aB))), (aq.ext aB)⟩
set_option maxHeartbeats 4000000 in
theorem k_poMul {u w : World} {x : Sl} {l : List Rat} {y : Sl} {m : List Rat} {K M : Nat} (d : Dat u w) (hx : PolV u x l K) (hy : PolV u y m M) (hB : Nt.mlK l.length m.length K M ≤ 30000000) (hK1 : (l.length + 1) * K ≤ 20000000) (hM1 : (m.length + 1) * M ≤ 20000000) (hx9 : l.length ≤ 100000000) (hy9 : m.length ≤ 100000000) : Calls Tryz.prog 130 #[x.v, y.v] w (Post u w fun v u' => ∃ y : Sl, v = y.v ∧ PolN u' y (Nt.trimQ (Nt.mulQ l m)) (Nt.mlK l.length m.length K M)) := by
 have hlen := hx.len
 have hlen2 := hy.len
 have htl := Nt.zzh l
 have htm := Nt.zzh m
 have hB2 := Nat.le_trans (Nt.mlK_mono htl htm (Nat.le_refl K) (Nat.le_refl M)) hB
 have hB3 : Nt.kk ((K + ((Nt.trimQ l).length * K + 2)) + (M + ((Nt.trimQ m).length * M + 2)) + 1) ((Nt.trimQ l).length * (Nt.trimQ m).length) + (((Nt.trimQ l).length * K + 2) + ((Nt.trimQ m).length * M + 2)) ≤ 30000000 := hB2
 have hK2 := hK1
 have hM2 := hM1
 rw [Nat.add_mul] at hK2 hM2
 have hKK : (Nt.trimQ l).length * K ≤ l.length * K := Nat.mul_le_mul_right _ htl
 have hMM : (Nt.trimQ m).length * M ≤ m.length * M := Nat.mul_le_mul_right _ htm
 refine zzm (args := [x.v, y.v]) Tryz.func130 rfl Tryz.ntmps130 (rs := [.tmp 4]) Tryz.results130 (le_b rfl) (le_b rfl) d ?_
 refine sq9 (zza 4 (.v (.slice none 0 0)) (zzb (sq9 (zza 15 (.v (x.v)) (zzg 16 179 _ fun _ _ aI a8 => Post.mono (k_split a8 (hx.ext aI) xq xw) ?_)))))
 rintro _ u16 aY ⟨af, aa, rfl, bj, aJ⟩
 have ar : aa.n = (Nt.trimQ l).length := by have h9 := aJ.len; simpa using h9
 refine zza 14 (.v (.tuple #[af.v, aa.v])) (zza 17 (.v (af.v)) (zza 18 (.v (aa.v)) (zzk 5 ⟨32, zw3⟩ (zzj ⟨32, af.cs⟩ ty32 ?_))))
 refine zza 6 (.v (aa.v)) (zzb (sq9 (zza 20 (.v (y.v)) (zzg 21 179 _ fun _ _ aq bg => Post.mono (k_split bg (hy.ext (aI.t (aY.t aq))) xq xw) ?_))))
 rintro _ u24 az ⟨ag, ab, rfl, bm, aA⟩
 have aw : ab.n = (Nt.trimQ m).length := by have h9 := aA.len; simpa using h9
 refine zza 19 (.v (.tuple #[ag.v, ab.v])) (zza 22 (.v (ag.v)) (zza 23 (.v (ab.v)) (zzk 7 ⟨32, zw3⟩ (zzj ⟨32, ag.cs⟩ ty32 ?_))))
 refine zza 8 (.v (ab.v)) (zzb (zzd (sq9 (zza 24 (.v (aa.v)) (zza 25 (zI aa.n) (zza 26 (zB ((aa.n : Int) == 0)) ?_))))))
 rcases Bool.eq_false_or_eq_true ((aa.n : Int) == 0) with hs27 | hs27
 ·refine zyq 27 (x := zB ((aa.n : Int) == 0)) (zB true) (by rw [hs27]) ?_
  have au : (aa.n : Int) = 0 := by simpa using hs27
  refine zzn 28 (uw 3 false true 27) (zzn 29 (uw 3 false true 27) (zzn 30 (uw 3 false true 27) (zza 31 (zB true) (zzb (zyr xj (sq9 (zza 4 (.v (.slice none 0 0)) (zzb (zzo (zzw (ret0 [.slice none 0 0] ⟨zzq, trivial⟩ fun u28 e29 => ?_)))))))))))
  have e9 : Nt.trimQ l = [] := List.eq_nil_of_length_eq_zero xq
  rw [Nt.mul_nil (.inl e9)]
  exact ⟨⟨none, 0, 0⟩, rfl, pol_nil _ _⟩
 refine zyq 27 (x := zB ((aa.n : Int) == 0)) (zB false) (by rw [hs27]) ?_
 have au : ¬ ((aa.n : Int) = 0) := by simpa using hs27
 refine zza 28 (.v (ab.v)) ?_ (hw := w1 3 false 27)
 refine zza 29 (zI ab.n) ?_ (hw := w1 3 false 27)
 refine zza 30 (zB ((ab.n : Int) == 0)) ?_ (hw := w1 3 false 27)
 refine zza 31 (zB ((ab.n : Int) == 0)) (zzb (zzu (b := (ab.n : Int) == 0) xj (fun al => ?_) (fun al => ?_)))
 ·have av : (ab.n : Int) = 0 := by simpa using al
  refine sq9 (zza 4 (.v (.slice none 0 0)) (zzb (zzo (zzw (ret0 [.slice none 0 0] ⟨zzq, trivial⟩ fun u31 e32 => ?_)))))
  have e9 : Nt.trimQ m = [] := List.eq_nil_of_length_eq_zero xq
  rw [Nt.mul_nil (.inr e9)]
  exact ⟨⟨none, 0, 0⟩, rfl, pol_nil _ _⟩
 have av : ¬ ((ab.n : Int) = 0) := by simpa using al
 refine zzs (zzp ?_)
 refine sq9 (zza 32 (.v (aa.v)) (zza 33 (zI aa.n) (zza 34 (.v (ab.v)) (zza 35 (zI ab.n) (zyq 36 (x := zI (IntKind.i64.wrap ((aa.n : Int) + (ab.n : Int)))) (zI (aa.n + ab.n : Nat)) (eqI yq) (zyq 37 (x := zI (IntKind.i64.wrap (((aa.n + ab.n : Nat) : Int) - 1))) (zI (((aa.n + ab.n) - 1 : Nat) : Int)) (eqI yq) (zzg 38 180 _ fun _ _ ai a7 => Post.mono (k_zeros (n := (aa.n + ab.n) - 1) a7 xq) ?_)))))))
 rintro _ u40 am ⟨a1, a6, rfl, ad, ap, bn, hR39⟩
 refine zza 9 (.v (.slice (some ⟨a1, 0, none⟩) ((aa.n + ab.n) - 1) ((aa.n + ab.n) - 1))) (zzc 75 [(5, .adr 5 0), (6, .v (aa.v)), (7, .adr 7 0), (8, .v (ab.v)), (9, .v (.slice (some ⟨a1, 0, none⟩) ((aa.n + ab.n) - 1) ((aa.n + ab.n) - 1)))] [(5, ⟨32, af.cs⟩), (7, ⟨32, ag.cs⟩)] (zzd (zzd (sw_adopt (r := 9) (k := 9) zk ((Ext.refl _).cells ap) (Nat.le_trans ((aI.t (aY.t (aq.t (az.t ai)))).size) ad) xj (fun a5 ac => ?_)))))
 replace hR39 := (hR39.ext (Ext.refl _)).extB ((Ext.refl _).cells ap) ac
 refine zzf (zza 39 (.v (aa.v)) (zza 40 (zI aa.n) (zza 41 (zI 0) (zzb (zzt (zyn (I := fun aU S' u' => ∃ (i : Nat) (L : List RL), (aU = (Nt.trimQ l).length - i) ∧ (i ≤ (Nt.trimQ l).length) ∧ (L.length = ((Nt.trimQ l).length + (Nt.trimQ m).length - 1)) ∧ (S' = St.of 75 [(5, .adr 5 0), (7, .adr 7 0), (8, .v (ab.v)), (9, .slc 9 0 ((aa.n + ab.n) - 1) ((aa.n + ab.n) - 1)), (39, .v (aa.v)), (40, zI aa.n), (41, zI i)] [(5, ⟨32, af.cs⟩), (7, ⟨32, ag.cs⟩), (9, ⟨32, rcs L⟩)]) ∧ (Ext a5 u') ∧ (RatsN u' L (Nt.outQ ((Nt.trimQ l).map (· / Nt.msr (Nt.trimQ l))) ((Nt.trimQ m).map (· / Nt.msr (Nt.trimQ m))) ((Nt.trimQ l).length + (Nt.trimQ m).length - 1) i) (Nt.kk ((K + ((Nt.trimQ l).length * K + 2)) + (M + ((Nt.trimQ m).length * M + 2)) + 1) (i * (Nt.trimQ m).length)))) (fun m S u1 u2 e h => by obtain ⟨i, L, hm, p0, p1, hS, hE, f0⟩ := h; exact ⟨i, L, hm, p0, p1, hS, hE.trans e, f0.ext e⟩) _ yz ⟨0, a6, rfl, by omega, by omega, rfl, (Ext.refl _), (RatsN.more (K := 2) (by have h9 := hR39; rw [ar, aw] at h9; exact h9) (by unfold Nt.kk; omega))⟩ ?_))))))
 rintro aU _ aZ ⟨i, L, bo, hi, hL, rfl, ah, hR⟩
 refine sq9 (zza 42 (zB (decide ((i : Int) < (aa.n : Int)))) (zzb (zzd (zzu (b := decide ((i : Int) < (aa.n : Int))) xj (fun ak => ?_) (fun ak => ?_)))))
 ·have qhb46 := of_decide_eq_true ak
  refine zzs (zzp ?_)
  refine zzd (zzt (sq9 (zza 43 (zI i) ?_)))
  have hl47 := (aJ.ext (aq.t (az.t (ai.trans ((ExtB.old ac am.ext ad).trans ah))))).len
  obtain ⟨ay, b47, aT, aQ, aE, aO⟩ := pol_atN (aJ.ext (aq.t (az.t (ai.trans ((ExtB.old ac am.ext ad).trans ah))))) (i := i) xq
  refine zya 44 (aT + i * 3) (n := aa.n) (off := aT) (sz := 3) (i := (i : Int)) xq aQ xq xq sl27 (zym 45 ay.cs aE ty32 (zzk 11 ⟨32, zw3⟩ (zza 10 (zI i) (zzj ⟨32, ay.cs⟩ ty32 ?_))))
  refine zzb (sq9 (zza 46 (.v (ab.v)) (zza 47 (zI ab.n) (zza 48 (zI 0) (zzb (zzt (zyn (I := fun aR S' u' => ∃ (j : Nat) (M9 : List RL), (aR = (Nt.trimQ m).length - j) ∧ (j ≤ (Nt.trimQ m).length) ∧ (M9.length = ((Nt.trimQ l).length + (Nt.trimQ m).length - 1)) ∧ (S' = St.of 75 [(5, .adr 5 0), (7, .adr 7 0), (8, .v (ab.v)), (9, .slc 9 0 ((aa.n + ab.n) - 1) ((aa.n + ab.n) - 1)), (10, zI i), (11, .adr 11 0), (39, .v (aa.v)), (40, zI aa.n), (41, zI i), (46, .v (ab.v)), (47, zI ab.n), (48, zI j)] [(5, ⟨32, af.cs⟩), (7, ⟨32, ag.cs⟩), (9, ⟨32, rcs M9⟩), (11, ⟨32, ay.cs⟩)]) ∧ (Ext aZ u') ∧ (RatsN u' M9 (Nt.inn (Nt.outQ ((Nt.trimQ l).map (· / Nt.msr (Nt.trimQ l))) ((Nt.trimQ m).map (· / Nt.msr (Nt.trimQ m))) ((Nt.trimQ l).length + (Nt.trimQ m).length - 1) i) i (((Nt.trimQ l).map (· / Nt.msr (Nt.trimQ l))).getD i 0) ((Nt.trimQ m).map (· / Nt.msr (Nt.trimQ m))) j) (Nt.kk ((K + ((Nt.trimQ l).length * K + 2)) + (M + ((Nt.trimQ m).length * M + 2)) + 1) (i * (Nt.trimQ m).length + j)))) (fun m S u1 u2 e h => by obtain ⟨j, M9, hm, p0, p1, hS, hE, f0⟩ := h; exact ⟨j, M9, hm, p0, p1, hS, hE.trans e, f0.ext e⟩) _ yz ⟨0, L, rfl, by omega, by omega, rfl, (Ext.refl _), hR⟩ ?_)))))))
  rintro aR _ u48 ⟨j, M9, a3, hj, hM9, rfl, an, hQ⟩
  have hmm := Nat.mul_le_mul_right (Nt.trimQ m).length (show i + 1 ≤ (Nt.trimQ l).length by omega)
  rw [Nat.add_mul] at hmm
  have hkk := Nt.kk_mono (W := ((K + ((Nt.trimQ l).length * K + 2)) + (M + ((Nt.trimQ m).length * M + 2)) + 1)) (t := i * (Nt.trimQ m).length + j) (t' := (Nt.trimQ l).length * (Nt.trimQ m).length) (Nat.le_refl _) xq
  have hk2 := Nt.kk_succ ((K + ((Nt.trimQ l).length * K + 2)) + (M + ((Nt.trimQ m).length * M + 2)) + 1) (i * (Nt.trimQ m).length + j)
  refine sq9 (zza 49 (zB (decide ((j : Int) < (ab.n : Int)))) (zzb (zzd (zzu (b := decide ((j : Int) < (ab.n : Int))) xj (fun aj => ?_) (fun aj => ?_)))))
  ·have qhb49 := of_decide_eq_true aj
   refine zzs (zzp ?_)
   refine zzd (zzt (sq9 (zza 50 (zI j) ?_)))
   have hl50 := (aA.ext (ai.trans ((ExtB.old ac am.ext ad).trans (ah.trans an)))).len
   obtain ⟨aD, b50, aX, aN, aG, aH⟩ := pol_atN (aA.ext (ai.trans ((ExtB.old ac am.ext ad).trans (ah.trans an)))) (i := j) xq
   refine zya 51 (aX + j * 3) (n := ab.n) (off := aX) (sz := 3) (i := (j : Int)) xq aN xq xq sl27 (zym 52 aD.cs aG ty32 (zzk 13 ⟨32, zw3⟩ (zza 12 (zI j) (zzj ⟨32, aD.cs⟩ ty32 ?_))))
   refine zzb (zzz [0, 0, 0, 6, 0, 0, 0, 96, 240, 496, 0, 0, 3072, 8176, 16383, 32767] [(0, []), (1, []), (2, []), (3, []), (4, []), (5, []), (6, []), (7, []), (8, []), (9, []), (10, []), (11, []), (12, []), (13, []), (14, []), (15, [])] xj xj (zza 53 (.slc 9 0 ((aa.n + ab.n) - 1) ((aa.n + ab.n) - 1)) (zza 54 (zI i) (zza 55 (zI j) (zyq 56 (x := zI (IntKind.i64.wrap ((i : Int) + (j : Int)))) (zI (i + j : Nat)) (eqI yq) (zza 57 (.slc 9 0 ((aa.n + ab.n) - 1) ((aa.n + ab.n) - 1)) (zza 58 (zI i) (zza 59 (zI j) (zyq 60 (x := zI (IntKind.i64.wrap ((i : Int) + (j : Int)))) (zI (i + j : Nat)) (eqI yq) (zyw 61 (off' := (i + j) * 3) (n := (aa.n + ab.n) - 1) (off := 0) (sz := 3) (i := ((i + j : Nat) : Int)) sl27 xq xq xq ?_))))))))))
   obtain ⟨a2, ae⟩ : ∃ r : RL, (M9).getD (i + j) rl0 = r := ⟨_, rfl⟩
   refine zzi 62 (V := ⟨32, rcs M9⟩) (off := (i + j) * 3) (.v a2.v) ty32 (by have h9 := part_rcs (L := M9) (i := i + j) (off := (i + j) * 3) yy rfl; rw [ae] at h9; exact h9) ?_
   have h52 := hQ.2 (i + j) yy
   rw [ae] at h52
   refine zzi 63 (.v (ay.v)) ty32 zze (zzi 64 (.v (aD.v)) ty32 zze (zzg 65 113 _ fun _ _ ao bd => Post.mono (k_ratMul bd (aO.ext (an.trans ao)).raw (aH.ext ao).raw xq xq) ?_))
   rintro _ u56 aC ⟨r54, rfl, be⟩
   refine zzg 66 112 _ fun _ _ ax bb => Post.mono (k_ratAdd bb (h52.ext (ao.t (aC.t ax))).raw (be.ext ax).raw xq xq) ?_
   rintro _ u62 aW ⟨aB, rfl, ba⟩
   refine zyw 67 (off' := (i + j) * 3) (n := (aa.n + ab.n) - 1) (off := 0) (sz := 3) (i := ((i + j : Nat) : Int)) sl27 xq xq xq ?_
   refine zyv (V := ⟨32, rcs M9⟩) (off := (i + j) * 3) (rcs ((M9).set (i + j) aB)) ty32 zv (zyx (r := aB) (i := i + j) yy rfl) ?_
   refine zzx ?_
   refine zzp (zzf (zyq 68 (x := zI (IntKind.i64.wrap ((j : Int) + 1))) (zI (j + 1 : Nat)) (eqI yq) (zza 48 (zI (j + 1 : Nat)) (zzx ?_))))
   refine ⟨_, ?_, _, by exact zzv _ _ _, j + 1, (M9).set (i + j) aB, rfl, by omega, by simp; omega, rfl, (an.t (ao.t (aC.t (ax.t aW.ext)))), (RatsN.set (i := i + j) (RatsN.more (K := Nt.kk ((K + ((Nt.trimQ l).length * K + 2)) + (M + ((Nt.trimQ m).length * M + 2)) + 1) (i * (Nt.trimQ m).length + j)) (hQ.ext (ao.t (aC.t (ax.t aW.ext)))) (by show _ ≤ Nt.kk _ (i * (Nt.trimQ m).length + j + 1); omega)) zq (RatN.more (K := ((Nt.kk ((K + ((Nt.trimQ l).length * K + 2)) + (M + ((Nt.trimQ m).length * M + 2)) + 1) (i * (Nt.trimQ m).length + j)) + ((K + ((Nt.trimQ l).length * K + 2)) + (M + ((Nt.trimQ m).length * M + 2))) + 1)) ba (by show _ ≤ Nt.kk _ (i * (Nt.trimQ m).length + j + 1); omega)))⟩
   omega
  have qhb49 := of_decide_eq_false aj
  refine zyc (zzp (zzf (zyq 69 (x := zI (IntKind.i64.wrap ((i : Int) + 1))) (zI (i + 1 : Nat)) (eqI yq) (zza 41 (zI (i + 1 : Nat)) (zzx ?_)))))
  have bh : j = (Nt.trimQ m).length := by omega
  refine ⟨_, ?_, _, by exact zzv _ _ _, i + 1, M9, rfl, by omega, by omega, rfl, (ah.trans an), (by have h9 := hQ; rw [bh, ← Nat.succ_mul] at h9; have e9 : ((Nt.trimQ m).map (· / Nt.msr (Nt.trimQ m))).length = (Nt.trimQ m).length := zj; show RatsN _ _ (Nt.inn _ _ _ _ ((Nt.trimQ m).map (· / Nt.msr (Nt.trimQ m))).length) _; rw [e9]; exact h9)⟩
  omega
 have qhb46 := of_decide_eq_false ak
 refine zyc (zzp (zzd ?_))
 have bl : i = (Nt.trimQ l).length := by omega
 have bp : RatsN aZ L (Nt.outQ ((Nt.trimQ l).map (· / Nt.msr (Nt.trimQ l))) ((Nt.trimQ m).map (· / Nt.msr (Nt.trimQ m))) ((Nt.trimQ l).length + (Nt.trimQ m).length - 1) ((Nt.trimQ l).length)) (Nt.kk ((K + ((Nt.trimQ l).length * K + 2)) + (M + ((Nt.trimQ m).length * M + 2)) + 1) ((Nt.trimQ l).length * (Nt.trimQ m).length)) := by have h9 := hR; rw [bl] at h9; exact h9
 refine zyp (r := 9) (t := 9) [9] xk xj zk zk xj (fun aS bi aL a4 aP => ?_)
 have aM : PolN bi ⟨some ⟨aS, 0, none⟩, (aa.n + ab.n) - 1, (aa.n + ab.n) - 1⟩ (Nt.outQ ((Nt.trimQ l).map (· / Nt.msr (Nt.trimQ l))) ((Nt.trimQ m).map (· / Nt.msr (Nt.trimQ m))) ((Nt.trimQ l).length + (Nt.trimQ m).length - 1) ((Nt.trimQ l).length)) (Nt.kk ((K + ((Nt.trimQ l).length * K + 2)) + (M + ((Nt.trimQ m).length * M + 2)) + 1) ((Nt.trimQ l).length * (Nt.trimQ m).length)) := pol_data1 aP yv (bp.ext aL) xq
 refine zzf (zza 70 (.v (.slice (some ⟨aS, 0, none⟩) ((aa.n + ab.n) - 1) ((aa.n + ab.n) - 1))) (zzi 71 (.v (af.v)) ty32 zze (zzi 72 (.v (ag.v)) ty32 zze (zzg 73 113 _ fun _ _ aK bk => Post.mono (k_ratMul bk (bj.ext (aq.t (az.t (ai.trans ((ExtB.old ac am.ext ad).trans (ah.trans (aL.trans aK))))))).raw (bm.ext (ai.trans ((ExtB.old ac am.ext ad).trans (ah.trans (aL.trans aK))))).raw xq xq) ?_))))
 rintro _ u74 bc ⟨r72, rfl, bf⟩
 refine zzg 74 116 _ fun _ _ a0 a9 => Post.mono (k_poScale a9 (aM.ext (aK.t (bc.t a0))).raw (bf.ext a0).raw xq xw xq) ?_
 rintro _ u80 g81 ⟨aF, rfl, aV⟩
 have hly78 := aV.len
 refine zza 4 (.v (aF.v)) (zzb (zzo (ret0 [aF.v] ⟨zzq, trivial⟩ fun u83 bq => ?_)))
 have h8 := Nt.mul_parts (Nt.msr_ne (Nt.trim_nrm l) xq) (Nt.msr_ne (Nt.trim_nrm m) xq) (l := (Nt.trimQ l)) (m := (Nt.trimQ m)) xq xq
 refine ⟨aF, rfl, PolN.more (K := ((Nt.kk ((K + ((Nt.trimQ l).length * K + 2)) + (M + ((Nt.trimQ m).length * M + 2)) + 1) ((Nt.trimQ l).length * (Nt.trimQ m).length)) + (((Nt.trimQ l).length * K + 2) + ((Nt.trimQ m).length * M + 2)))) ?_ ?_⟩
 ·rw [← Nt.mul_trim, ← h8]
  exact (aV.ext bq)
 exact Nat.le_trans (Nat.add_le_add_left (Nat.le_refl _) _) (Nt.mlK_mono (n := (Nt.trimQ l).length) (m := (Nt.trimQ m).length) htl htm (Nat.le_refl K) (Nat.le_refl M))
set_option maxHeartbeats 2000000 in
theorem k_r5Trim {u w : World} {x : Sl} {l : List Rat} {K : Nat} (d : Dat u w) (hx : PolV u x l K) (hK : K ≤ 50000000) (hx9 : l.length ≤ 1000000000) : Calls Tryz.prog 83 #[x.v] w (Post u w fun v u' => ∃ y : Sl, v = y.v ∧ PolN u' y (Nt.trimQ l) K) := by
 have hlen := hx.len
 have htl := Nt.zzh l
 refine zzm (args := [x.v]) Tryz.func83 rfl Tryz.ntmps83 (rs := [.tmp 2]) Tryz.results83 (le_b rfl) (le_b rfl) d ?_
 refine sq9 (zza 2 (.v (.slice none 0 0)) (zzb (sq9 (zza 7 (.v (x.v)) (zza 8 (zI x.n) (zza 3 (zI x.n) (zzb (zzd (zzt (zyn (I := fun bO S' u' => ∃ (n : Nat), (bO = n) ∧ (n ≤ l.length) ∧ (∀ i, n ≤ i → Nt.co l i = 0) ∧ (S' = St.of 37 [(0, .v (x.v)), (3, zI n)] []) ∧ (Ext u u')) (fun m S u1 u2 e h => by obtain ⟨n, hm, p0, p1, hS, hE⟩ := h; exact ⟨n, hm, p0, p1, hS, hE.trans e⟩) _ yz ⟨x.n, rfl, by omega, fun i hi => Nt.co_ge xq, rfl, (Ext.refl _)⟩ ?_))))))))))
 rintro bO _ bB ⟨n, ct, hn, hz, rfl, aa⟩
 refine zzd (sq9 (zza 9 (zI n) (zza 10 (zB (decide ((0 : Int) < (n : Int)))) ?_)))
 rcases Bool.eq_false_or_eq_true (decide ((0 : Int) < (n : Int))) with hs12 | hs12
 ·refine zyq 11 (x := zB (decide ((0 : Int) < (n : Int)))) (zB true) (by rw [hs12]) ?_
  have qhs12 := of_decide_eq_true hs12
  refine zza 12 (.v (x.v)) ?_ (hw := w1 2 true 11)
  refine zza 13 (zI n) ?_ (hw := w1 2 true 11)
  refine zyq 14 (x := zI (IntKind.i64.wrap ((n : Int) - 1))) (zI (n - 1 : Nat)) (eqI yq) ?_ (hw := w1 2 true 11)
  have hl13 := (hx.ext aa).len
  obtain ⟨cj, b13, bA, aC, aD, aG⟩ := pol_at (hx.ext aa) (i := n - 1) xq
  refine zya 15 (bA + (n - 1) * 3) (n := x.n) (off := bA) (sz := 3) (i := ((n - 1 : Nat) : Int)) xq aC xq xq sl27 ?_ (hw := w1 2 true 11)
  refine zym 16 cj.cs aD ty32 ?_ (hw := w1 2 true 11)
  refine zzg 17 32 _ (fun _ _ ab cB => Post.mono (k_rqSign cB (aG.ext ab) xq) ?_) (hw := w1 2 true 11)
  rintro _ bK ag rfl
  refine zza 18 (zB ((Nt.sgQ (l.getD (n - 1) 0)) == 0)) ?_ (hw := w1 2 true 11)
  refine zza 19 (zB ((Nt.sgQ (l.getD (n - 1) 0)) == 0)) (zzb (zzu (b := (Nt.sgQ (l.getD (n - 1) 0)) == 0) xj (fun aj => ?_) (fun aj => ?_)))
  ·refine zzs (zzp ?_)
   refine zzt (zzf (zza 20 (zI n) (zyq 21 (x := zI (IntKind.i64.wrap ((n : Int) - 1))) (zI (n - 1 : Nat)) (eqI yq) (zza 3 (zI (n - 1 : Nat)) (zzx ?_)))))
   refine ⟨_, ?_, _, by exact zzv _ _ _, n - 1, rfl, by omega, (fun i hi => by by_cases e : i = n - 1; (rw [e]; have h9 := aj; rw [Nt.sgQ_eq] at h9; exact of_decide_eq_true h9); exact hz i xq), rfl, (aa.t (ab.t ag.ext))⟩
   omega
  refine zyc (zzp (zzd ?_))
  have he9 := Nt.trim_len_of (l := l) hn hz (fun _ h => by have h9 := aj; rw [Nt.sgQ_eq] at h9; exact of_decide_eq_false h9 h)
  clear hz
  refine zzf (zza 4 (.v (.slice none 0 0)) (zzb (zzd (sq9 (zza 22 (.v (x.v)) (zza 23 (zI n) ?_))))))
  have hl19 := (hx.ext (aa.t (ab.t ag.ext))).len
  have hc19 := (hx.ext (aa.t (ab.t ag.ext))).cap
  refine sy_front 24 (n := x.n) (c := x.c) n sl27 rfl xq ?_
  refine zza 25 (zI n) (zza 26 (zI 0) (zzb (zzt (zyn (I := fun bh S' u' => (bh = n ∧ S' = St.of 37 [(4, .v (.slice none 0 0)), (24, .v (.slice x.a n x.c)), (25, zI n), (26, zI 0)] [] ∧ Ext bK u') ∨ (∃ (i : Nat) (L : List RL) (cs : List Value) (cp : Nat), bh = n - i ∧ i ≤ n ∧ 0 < i ∧ L.length = i ∧ cs.length = cp * 3 ∧ i ≤ cp ∧ cp ≤ maxLen ∧ cs.take (i * 3) = rcs L ∧ S' = St.of 37 [(4, .slc 34 0 i cp), (24, .v (.slice x.a n x.c)), (25, zI n), (26, zI i)] [(34, ⟨32, cs⟩)] ∧ Ext bK u' ∧ RatsN u' L ((Nt.trimQ l).take i) K)) (fun m S u1 u2 e h => by rcases h with ⟨a, b, c⟩ | ⟨a1, a2, a3, a4, b1, b2, b3, b4, b5, b6, b7, b8, b9, b10, b11⟩; exact .inl ⟨a, b, c.trans e⟩; exact .inr ⟨a1, a2, a3, a4, b1, b2, b3, b4, b5, b6, b7, b8, b9, b10.trans e, b11.ext e⟩) _ yz (.inl ⟨rfl, rfl, Ext.refl _⟩) ?_))))
  rintro bh _ ca (⟨a8, rfl, af⟩ | ⟨i, L, cs, cp, a8, hi, hp, hL, hc, hle, hmx, ht, rfl, af, hR⟩)
  ·change SW _ _ _ _ (St.of 37 [(4, .v (.slice none 0 0)), (24, .v (.slice x.a n x.c)), (25, .v (.int .i64 (n : Int))), (26, .v (.int .i64 0))] []) _ _
   refine sq9 (zza 27 (zB (decide ((0 : Int) < (n : Int)))) (zzb (zzd (zzu (b := decide ((0 : Int) < (n : Int))) xj (fun ac => ?_) (fun ac => ?_)))))
   ·have qhb21 := of_decide_eq_true ac
    refine zzs (zzp ?_)
    refine zzd (zzt (sq9 ?_))
    have hl22 := ((pol_take (hx.ext (aa.t (ab.t ag.ext))) xq).ext af).len
    change n = _ at hl22
    obtain ⟨a5, b22, bw, aO, aY, bd⟩ := pol_at ((pol_take (hx.ext (aa.t (ab.t ag.ext))) xq).ext af) (i := 0) xq
    refine zya 28 (bw + 0 * 3) (n := n) (off := bw) (sz := 3) (i := 0) xq aO xq xq sl27 (zym 29 a5.cs aY ty32 (zzk 6 ⟨32, zw3⟩ (zzj ⟨32, a5.cs⟩ ty32 ?_)))
    refine zzb (zzf (zza 30 (.v (.slice none 0 0)) (zzi 31 (.v (a5.v)) ty32 zze (zzg 32 80 _ fun _ _ bL cy => Post.mono (k_rqTrim cy (bd.ext bL) xq) ?_))))
    rintro _ u26 cl ⟨av, rfl, bF⟩
    refine zxz 33 ⟨32, av.cs⟩ 1 (fun bx cG ba bW => ?_)
    have cc : PolN cG (⟨some ⟨bx, 0, none⟩, 1, 1⟩ : Sl) [((l.take n).getD 0 0)] K := pol_lit (L := [av]) bW (rats1 (bF.ext ba)) rfl yj
    refine sy_app0 34 (T := 27) (E := 32) (z := .agg #[.bool false, .slice none 0 0, .slice none 0 0]) (size := 3) (bytes := 56) (b := bx) (off := 0) (m := 1) av.cs xj xj xj yj rfl (lit_news ((Ext.refl _).cells bW)) (rl_one av) yj yj yj ?_
    intro bT aI cg bn bp be
    refine zza 4 (.slc 34 0 1 bT) (zzx ?_)
    refine zzp (zzf (zza 35 (zI 1) (zza 26 (zI 1) (zzx ?_))))
    have aA : 0 < (Nt.trimQ l).length := by skip; omega
    refine ⟨_, ?_, _, by exact zzv _ _ _, .inr ⟨1, [av], aI, bT, rfl, by omega, by omega, by simp, bp, by omega, bn, be, rfl, (af.t (bL.t (cl.t ba))), (app_first (RatN.more (K := K) (bF.ext ba) xq) aA (by rw [List.getD_eq_getElem?_getD, List.getElem?_take_of_lt xq, ← List.getD_eq_getElem?_getD]; exact (Nt.trim_co l 0).symm))⟩⟩
    omega
   have qhb21 := of_decide_eq_false ac
   refine zyc (zzp (zzd ?_))
   have bi : PolN ca ⟨none, 0, 0⟩ (Nt.trimQ l) K := by have h9 : Nt.trimQ l = [] := List.eq_nil_of_length_eq_zero (by skip; omega); rw [h9]; exact pol_nil _ _
   refine zzf (zza 36 (.v (.slice none 0 0)) (zza 2 (.v (.slice none 0 0)) (zzb (zzo (ret0 [.slice none 0 0] ⟨zzq, trivial⟩ fun u37 cd => ?_)))))
   refine ⟨⟨none, 0, 0⟩, rfl, ?_⟩
   exact (bi.ext cd)
  change SW _ _ _ _ (St.of 37 [(4, .slc 34 0 i cp), (24, .v (.slice x.a n x.c)), (25, .v (.int .i64 (n : Int))), (26, .v (.int .i64 (i : Int)))] [(34, ⟨32, cs⟩)]) _ _
  refine sq9 (zza 27 (zB (decide ((i : Int) < (n : Int)))) (zzb (zzd (zzu (b := decide ((i : Int) < (n : Int))) xj (fun ai => ?_) (fun ai => ?_)))))
  ·have qhb39 := of_decide_eq_true ai
   refine zzs (zzp ?_)
   refine zzd (zzt (sq9 ?_))
   have hl40 := ((pol_take (hx.ext (aa.t (ab.t ag.ext))) xq).ext af).len
   change n = _ at hl40
   obtain ⟨a9, b40, bC, aQ, aM, aU⟩ := pol_at ((pol_take (hx.ext (aa.t (ab.t ag.ext))) xq).ext af) (i := i) xq
   refine zya 28 (bC + i * 3) (n := n) (off := bC) (sz := 3) (i := (i : Int)) xq aQ xq xq sl27 (zym 29 a9.cs aM ty32 (zzk 6 ⟨32, zw3⟩ (zzj ⟨32, a9.cs⟩ ty32 ?_)))
   refine zzb (zzf (zza 30 (.slc 34 0 i cp) (zzi 31 (.v (a9.v)) ty32 zze (zzg 32 80 _ fun _ _ aW ce => Post.mono (k_rqTrim ce (aU.ext aW) xq) ?_))))
   rintro _ u44 bD ⟨al, rfl, bQ⟩
   refine zxz 33 ⟨32, al.cs⟩ 1 (fun bu ch ax bz => ?_)
   have cw : PolN ch (⟨some ⟨bu, 0, none⟩, 1, 1⟩ : Sl) [((l.take n).getD i 0)] K := pol_lit (L := [al]) bz (rats1 (bQ.ext ax)) rfl yj
   refine sy_app1 34 (T := 27) (E := 32) (z := .agg #[.bool false, .slice none 0 0, .slice none 0 0]) (size := 3) (bytes := 56) (b := bu) (off := 0) (m := 1) (n := i) (cap := cp) (t := 34) (cs0 := cs) [4, 30, 34] al.cs xj xj xj yj rfl (lit_news ((Ext.refl _).cells bz)) (rl_one al) yj yv xq xq xq xq xk ?_
   intro bt am bZ aN aK az
   have au : am.take ((i + 1) * 3) = rcs (L ++ [al]) := by rw [az, ht, rcs_app]; rfl
   refine zza 4 (.slc 34 0 (i + 1) bt) (zzx ?_)
   refine zzp (zzf (zyq 35 (x := zI (IntKind.i64.wrap ((i : Int) + 1))) (zI (i + 1 : Nat)) (eqI yq) (zza 26 (zI (i + 1 : Nat)) (zzx ?_))))
   have bg : i < (Nt.trimQ l).length := by skip; omega
   refine ⟨_, ?_, _, by exact zzv _ _ _, .inr ⟨i + 1, L ++ [al], am, bt, rfl, by omega, by omega, by simp; omega, aK, by omega, aN, au, rfl, (af.t (aW.t (bD.t ax))), (app_next (hR.ext (aW.t (bD.t ax))) (RatN.more (K := K) (bQ.ext ax) xq) bg (by rw [List.getD_eq_getElem?_getD, List.getElem?_take_of_lt xq, ← List.getD_eq_getElem?_getD]; exact (Nt.trim_co l i).symm))⟩⟩
   omega
  have qhb39 := of_decide_eq_false ai
  refine zyc (zzp (zzd (zyp (r := 4) (t := 34) [4, 34] xk xj zk zk xj (fun an cF bX cn bs => ?_))))
  have bc : PolN cF ⟨some ⟨an, 0, none⟩, i, cp⟩ (Nt.trimQ l) K := by have h8 := pol_data bs ht hc hle hmx (hR.ext bX); rw [List.take_of_length_le (l := Nt.trimQ l) (by skip; omega)] at h8; exact h8
  refine zzf (zza 36 (.v (.slice (some ⟨an, 0, none⟩) i cp)) (zza 2 (.v (.slice (some ⟨an, 0, none⟩) i cp)) (zzb (zzo (ret0 [.slice (some ⟨an, 0, none⟩) i cp] ⟨zzq, trivial⟩ fun u60 cf => ?_)))))
  refine ⟨(⟨some ⟨an, 0, none⟩, i, cp⟩ : Sl), rfl, ?_⟩
  exact (bc.ext cf)
 refine zyq 11 (x := zB (decide ((0 : Int) < (n : Int)))) (zB false) (by rw [hs12]) ?_
 have qhs12 := of_decide_eq_false hs12
 refine zzn 12 (uw 2 true false 11) (zzn 13 (uw 2 true false 11) (zzn 14 (uw 2 true false 11) (zzn 15 (uw 2 true false 11) (zzn 16 (uw 2 true false 11) (zzn 17 (uw 2 true false 11) (zzn 18 (uw 2 true false 11) (zza 19 (zB false) (zzb (zys xj (zyc (zzp ?_)))))))))))
 refine zzd ?_
 have he9 := Nt.trim_len_of (l := l) hn hz (fun h => absurd h xq)
 clear hz
 refine zzf (zza 4 (.v (.slice none 0 0)) (zzb (zzd (sq9 (zza 22 (.v (x.v)) (zza 23 (zI n) ?_))))))
 have hl62 := (hx.ext aa).len
 have hc62 := (hx.ext aa).cap
 refine sy_front 24 (n := x.n) (c := x.c) n sl27 rfl xq ?_
 refine zza 25 (zI n) (zza 26 (zI 0) (zzb (zzt (zyn (I := fun aE S' u' => (aE = n ∧ S' = St.of 37 [(4, .v (.slice none 0 0)), (24, .v (.slice x.a n x.c)), (25, zI n), (26, zI 0)] [] ∧ Ext bB u') ∨ (∃ (i : Nat) (L : List RL) (cs : List Value) (cp : Nat), aE = n - i ∧ i ≤ n ∧ 0 < i ∧ L.length = i ∧ cs.length = cp * 3 ∧ i ≤ cp ∧ cp ≤ maxLen ∧ cs.take (i * 3) = rcs L ∧ S' = St.of 37 [(4, .slc 34 0 i cp), (24, .v (.slice x.a n x.c)), (25, zI n), (26, zI i)] [(34, ⟨32, cs⟩)] ∧ Ext bB u' ∧ RatsN u' L ((Nt.trimQ l).take i) K)) (fun m S u1 u2 e h => by rcases h with ⟨a, b, c⟩ | ⟨a1, a2, a3, a4, b1, b2, b3, b4, b5, b6, b7, b8, b9, b10, b11⟩; exact .inl ⟨a, b, c.trans e⟩; exact .inr ⟨a1, a2, a3, a4, b1, b2, b3, b4, b5, b6, b7, b8, b9, b10.trans e, b11.ext e⟩) _ yz (.inl ⟨rfl, rfl, Ext.refl _⟩) ?_))))
 rintro aE _ ci (⟨aV, rfl, ae⟩ | ⟨i, L, cs, cp, aV, hi, hp, hL, hc, hle, hmx, ht, rfl, ae, hR⟩)
 ·change SW _ _ _ _ (St.of 37 [(4, .v (.slice none 0 0)), (24, .v (.slice x.a n x.c)), (25, .v (.int .i64 (n : Int))), (26, .v (.int .i64 0))] []) _ _
  refine sq9 (zza 27 (zB (decide ((0 : Int) < (n : Int)))) (zzb (zzd (zzu (b := decide ((0 : Int) < (n : Int))) xj (fun ah => ?_) (fun ah => ?_)))))
  ·have qhb64 := of_decide_eq_true ah
   refine zzs (zzp ?_)
   refine zzd (zzt (sq9 ?_))
   have hl65 := ((pol_take (hx.ext aa) xq).ext ae).len
   change n = _ at hl65
   obtain ⟨bm, b65, bP, bq, bk, a6⟩ := pol_at ((pol_take (hx.ext aa) xq).ext ae) (i := 0) xq
   refine zya 28 (bP + 0 * 3) (n := n) (off := bP) (sz := 3) (i := 0) xq bq xq xq sl27 (zym 29 bm.cs bk ty32 (zzk 6 ⟨32, zw3⟩ (zzj ⟨32, bm.cs⟩ ty32 ?_)))
   refine zzb (zzf (zza 30 (.v (.slice none 0 0)) (zzi 31 (.v (bm.v)) ty32 zze (zzg 32 80 _ fun _ _ bH cC => Post.mono (k_rqTrim cC (a6.ext bH) xq) ?_))))
   rintro _ u69 bY ⟨aq, rfl, bM⟩
   refine zxz 33 ⟨32, aq.cs⟩ 1 (fun bU cq a0 bS => ?_)
   have cE : PolN cq (⟨some ⟨bU, 0, none⟩, 1, 1⟩ : Sl) [((l.take n).getD 0 0)] K := pol_lit (L := [aq]) bS (rats1 (bM.ext a0)) rfl yj
   refine sy_app0 34 (T := 27) (E := 32) (z := .agg #[.bool false, .slice none 0 0, .slice none 0 0]) (size := 3) (bytes := 56) (b := bU) (off := 0) (m := 1) aq.cs xj xj xj yj rfl (lit_news ((Ext.refl _).cells bS)) (rl_one aq) yj yj yj ?_
   intro bR a7 b0 aB bo aS
   refine zza 4 (.slc 34 0 1 bR) (zzx ?_)
   refine zzp (zzf (zza 35 (zI 1) (zza 26 (zI 1) (zzx ?_))))
   have aP : 0 < (Nt.trimQ l).length := by skip; omega
   refine ⟨_, ?_, _, by exact zzv _ _ _, .inr ⟨1, [aq], a7, bR, rfl, by omega, by omega, by simp, bo, by omega, aB, aS, rfl, (ae.t (bH.t (bY.t a0))), (app_first (RatN.more (K := K) (bM.ext a0) xq) aP (by rw [List.getD_eq_getElem?_getD, List.getElem?_take_of_lt xq, ← List.getD_eq_getElem?_getD]; exact (Nt.trim_co l 0).symm))⟩⟩
   omega
  have qhb64 := of_decide_eq_false ah
  refine zyc (zzp (zzd ?_))
  have aR : PolN ci ⟨none, 0, 0⟩ (Nt.trimQ l) K := by have h9 : Nt.trimQ l = [] := List.eq_nil_of_length_eq_zero (by skip; omega); rw [h9]; exact pol_nil _ _
  refine zzf (zza 36 (.v (.slice none 0 0)) (zza 2 (.v (.slice none 0 0)) (zzb (zzo (ret0 [.slice none 0 0] ⟨zzq, trivial⟩ fun u80 cx => ?_)))))
  refine ⟨⟨none, 0, 0⟩, rfl, ?_⟩
  exact (aR.ext cx)
 change SW _ _ _ _ (St.of 37 [(4, .slc 34 0 i cp), (24, .v (.slice x.a n x.c)), (25, .v (.int .i64 (n : Int))), (26, .v (.int .i64 (i : Int)))] [(34, ⟨32, cs⟩)]) _ _
 refine sq9 (zza 27 (zB (decide ((i : Int) < (n : Int)))) (zzb (zzd (zzu (b := decide ((i : Int) < (n : Int))) xj (fun ad => ?_) (fun ad => ?_)))))
 ·have qhb82 := of_decide_eq_true ad
  refine zzs (zzp ?_)
  refine zzd (zzt (sq9 ?_))
  have hl83 := ((pol_take (hx.ext aa) xq).ext ae).len
  change n = _ at hl83
  obtain ⟨aT, b83, bI, bf, aJ, aZ⟩ := pol_at ((pol_take (hx.ext aa) xq).ext ae) (i := i) xq
  refine zya 28 (bI + i * 3) (n := n) (off := bI) (sz := 3) (i := (i : Int)) xq bf xq xq sl27 (zym 29 aT.cs aJ ty32 (zzk 6 ⟨32, zw3⟩ (zzj ⟨32, aT.cs⟩ ty32 ?_)))
  refine zzb (zzf (zza 30 (.slc 34 0 i cp) (zzi 31 (.v (aT.v)) ty32 zze (zzg 32 80 _ fun _ _ br cm => Post.mono (k_rqTrim cm (aZ.ext br) xq) ?_))))
  rintro _ u87 bV ⟨ak, rfl, bE⟩
  refine zxz 33 ⟨32, ak.cs⟩ 1 (fun bJ ck ay bN => ?_)
  have cb : PolN ck (⟨some ⟨bJ, 0, none⟩, 1, 1⟩ : Sl) [((l.take n).getD i 0)] K := pol_lit (L := [ak]) bN (rats1 (bE.ext ay)) rfl yj
  refine sy_app1 34 (T := 27) (E := 32) (z := .agg #[.bool false, .slice none 0 0, .slice none 0 0]) (size := 3) (bytes := 56) (b := bJ) (off := 0) (m := 1) (n := i) (cap := cp) (t := 34) (cs0 := cs) [4, 30, 34] ak.cs xj xj xj yj rfl (lit_news ((Ext.refl _).cells bN)) (rl_one ak) yj yv xq xq xq xq xk ?_
  intro bG ao cA aX bj bb
  have ap : ao.take ((i + 1) * 3) = rcs (L ++ [ak]) := by rw [bb, ht, rcs_app]; rfl
  refine zza 4 (.slc 34 0 (i + 1) bG) (zzx ?_)
  refine zzp (zzf (zyq 35 (x := zI (IntKind.i64.wrap ((i : Int) + 1))) (zI (i + 1 : Nat)) (eqI yq) (zza 26 (zI (i + 1 : Nat)) (zzx ?_))))
  have aH : i < (Nt.trimQ l).length := by skip; omega
  refine ⟨_, ?_, _, by exact zzv _ _ _, .inr ⟨i + 1, L ++ [ak], ao, bG, rfl, by omega, by omega, by simp; omega, bj, by omega, aX, ap, rfl, (ae.t (br.t (bV.t ay))), (app_next (hR.ext (br.t (bV.t ay))) (RatN.more (K := K) (bE.ext ay) xq) aH (by rw [List.getD_eq_getElem?_getD, List.getElem?_take_of_lt xq, ← List.getD_eq_getElem?_getD]; exact (Nt.trim_co l i).symm))⟩⟩
  omega
 have qhb82 := of_decide_eq_false ad
 refine zyc (zzp (zzd (zyp (r := 4) (t := 34) [4, 34] xk xj zk zk xj (fun aw cD aF bv ar => ?_))))
 have aL : PolN cD ⟨some ⟨aw, 0, none⟩, i, cp⟩ (Nt.trimQ l) K := by have h8 := pol_data ar ht hc hle hmx (hR.ext aF); rw [List.take_of_length_le (l := Nt.trimQ l) (by skip; omega)] at h8; exact h8
 refine zzf (zza 36 (.v (.slice (some ⟨aw, 0, none⟩) i cp)) (zza 2 (.v (.slice (some ⟨aw, 0, none⟩) i cp)) (zzb (zzo (ret0 [.slice (some ⟨aw, 0, none⟩) i cp] ⟨zzq, trivial⟩ fun cz bl => ?_)))))
 refine ⟨(⟨some ⟨aw, 0, none⟩, i, cp⟩ : Sl), rfl, ?_⟩
 exact (aL.ext bl)
set_option maxHeartbeats 1000000 in
theorem k_sameList {u w : World} {x : Sl} {l : List Rat} {y : Sl} {m : List Rat} {K M : Nat} (d : Dat u w) (hx : PolN u x l K) (hy : PolN u y m M) (hx9 : l.length ≤ 1000000000) (hy9 : m.length ≤ 1000000000) : Calls Tryz.prog 73 #[x.v, y.v] w (Post u w fun v u' => v = .bool (decide (l = m))) := by
 have hlen := hx.len
 have hlen2 := hy.len
 refine zzm (args := [x.v, y.v]) Tryz.func73 rfl Tryz.ntmps73 (rs := [.tmp 4]) Tryz.results73 (le_b rfl) (le_b rfl) d ?_
 refine sq9 (zza 4 (zB false) (zzb (zzd (sq9 (zza 6 (.v (x.v)) (zza 7 (zI x.n) (zza 8 (.v (y.v)) (zza 9 (zI y.n) (zza 10 (zB ((x.n : Int) != (y.n : Int))) (zzb (zzu (b := (x.n : Int) != (y.n : Int)) xj (fun ac => ?_) (fun ac => ?_))))))))))))
 ·refine sq9 (zza 4 (zB false) (zzb (zzo (zzw (ret0 [.bool false] ⟨zzq, trivial⟩ fun u12 e13 => ?_)))))
  have e9 : l ≠ m := by intro e; have h9 := congrArg List.length e; have h8 := ac; simp at h8; omega
  show Value.bool false = Value.bool _
  rw [decide_eq_false e9]
 have hnn : x.n = y.n := by have h9 : (x.n : Int) = (y.n : Int) := (by simpa using ac); omega
 refine zzs (zzp ?_)
 refine zzd (sq9 (zza 5 (zI 0) (zzb (zzt (zyn (I := fun al S' u' => ∃ (i : Nat), (al = x.n - i) ∧ (i ≤ x.n) ∧ (∀ j, j < i → l.getD j 0 = m.getD j 0) ∧ (S' = St.of 27 [(0, .v (x.v)), (1, .v (y.v)), (5, zI i)] []) ∧ (Ext u u')) (fun m S u1 u2 e h => by obtain ⟨i, hm, p0, p1, hS, hE⟩ := h; exact ⟨i, hm, p0, p1, hS, hE.trans e⟩) _ yz ⟨0, rfl, by omega, fun j hj => by omega, rfl, (Ext.refl _)⟩ ?_)))))
 rintro al _ u14 ⟨i, au, hi, hz, rfl, ad⟩
 refine zzd (sq9 (zza 11 (zI i) (zza 12 (.v (x.v)) (zza 13 (zI x.n) (zza 14 (zB (decide ((i : Int) < (x.n : Int)))) (zzb (zzu (b := decide ((i : Int) < (x.n : Int))) xj (fun ab => ?_) (fun ab => ?_))))))))
 ·have qhb15 := of_decide_eq_true ab
  refine zzs (zzp ?_)
  refine zzd (zzt (zzd (zzz [0, 0, 3, 7, 0, 0, 48, 112, 255, 511] [(0, []), (1, []), (2, []), (3, []), (4, []), (5, []), (6, []), (7, []), (8, []), (9, [])] xj xj (zza 17 (.v (x.v)) (zza 18 (zI i) ?_)))))
  have hl16 := (hx.ext ad).len
  obtain ⟨ao, b16, an, ah, ag, af⟩ := pol_atN (hx.ext ad) (i := i) xq
  refine zya 19 (an + i * 3) (n := x.n) (off := an) (sz := 3) (i := (i : Int)) xq ah xq xq sl26 (zym 20 ao.cs ag ty32 (zza 21 (.v (y.v)) (zza 22 (zI i) ?_)))
  have hl17 := (hy.ext ad).len
  obtain ⟨aq, b17, am, aj, ae, ai⟩ := pol_atN (hy.ext ad) (i := i) xq
  refine zya 23 (am + i * 3) (n := y.n) (off := am) (sz := 3) (i := (i : Int)) xq aj xq xq sl26 (zym 24 aq.cs ae ty32 (zzg 25 16 _ fun _ _ ak ap => Post.mono (k_rqSame ap (af.ext ak) (ai.ext ak)) ?_))
  rintro _ u19 ar rfl
  refine zza 26 (zB (!(decide ((l.getD i 0) = (m.getD i 0))))) (zzb (zzu (b := !(decide ((l.getD i 0) = (m.getD i 0)))) xj (fun aa => ?_) (fun aa => ?_)))
  ·refine sq9 (zza 4 (zB false) (zzb (zzo (zyu (zzw (zyt (zyu (zzw (ret0 [.bool false] ⟨zzq, trivial⟩ fun u23 e24 => ?_)))))))))
   have e9 : l ≠ m := by intro e; have h9 := aa; rw [e] at h9; simp at h9
   show Value.bool false = Value.bool _
   rw [decide_eq_false e9]
  refine zzs (zzp ?_)
  refine zzf (zza 15 (zI i) (zyq 16 (x := zI (IntKind.i64.wrap ((i : Int) + 1))) (zI (i + 1 : Nat)) (eqI yq) (zza 5 (zI (i + 1 : Nat)) (zzx ?_))))
  refine ⟨_, ?_, _, by exact zzv _ _ _, i + 1, rfl, by omega, (fun j hj => by by_cases e : j = i; (rw [e]; have h9 := aa; simpa using h9); exact hz j xq), rfl, (ad.t (ak.t ar.ext))⟩
  omega
 have qhb15 := of_decide_eq_false ab
 refine zyc (zzp (sq9 (zza 4 (zB true) (zzb (zzo (ret0 [.bool true] ⟨zzq, trivial⟩ fun u25 e26 => ?_))))))
 have e9 : l = m := Nt.list_ext xq (fun j => by by_cases hj : j < i; exact hz j hj; rw [Nt.co_ge xq, Nt.co_ge xq])
 show Value.bool true = Value.bool _
 rw [decide_eq_true e9]
theorem k_r5Equal {u w : World} {x : Sl} {l : List Rat} {y : Sl} {m : List Rat} {K M : Nat} (d : Dat u w) (hx : PolN u x l K) (hy : PolN u y m M) (hx9 : l.length ≤ 1000000000) (hy9 : m.length ≤ 1000000000) : Calls Tryz.prog 15 #[x.v, y.v] w (Post u w fun v u' => v = .bool (decide (l = m))) := by
 have hlen := hx.len
 have hlen2 := hy.len
 refine zzm (args := [x.v, y.v]) Tryz.func15 rfl Tryz.ntmps15 (rs := [.tmp 4]) Tryz.results15 (le_b rfl) (le_b rfl) d ?_
 refine sq9 (zza 4 (zB false) (zzb (sq9 (zza 5 (.v (x.v)) (zza 6 (.v (y.v)) (zzg 7 73 _ fun _ _ aa ab => Post.mono (k_sameList ab (hx.ext aa) (hy.ext aa) xw xw) ?_))))))
 rintro _ u12 g13 rfl
 refine zza 4 (zB (decide (l = m))) (zzb (zzo (ret0 [.bool (decide (l = m))] ⟨zzq, trivial⟩ fun u15 e16 => ?_)))
 rfl
set_option maxHeartbeats 2000000 in
theorem k_poSub {u w : World} {x : Sl} {l : List Rat} {y : Sl} {m : List Rat} {K M : Nat} (d : Dat u w) (hx : PolV u x l K) (hy : PolV u y m M) (hK : K ≤ 40000000) (hM : M ≤ 40000000) (hx9 : l.length ≤ 1000000000) (hy9 : m.length ≤ 1000000000) : Calls Tryz.prog 131 #[x.v, y.v] w (Post u w fun v u' => ∃ y : Sl, v = y.v ∧ PolN u' y (Nt.trimQ (Nt.addQ l (m.map (fun z => -z)))) (K + M + 1)) := by
 have hlen := hx.len
 have hlen2 := hy.len
 refine zzm (args := [x.v, y.v]) Tryz.func131 rfl Tryz.ntmps131 (rs := [.tmp 4]) Tryz.results131 (le_b rfl) (le_b rfl) d ?_
 refine sq9 (zza 4 (.v (.slice none 0 0)) (zzb (sq9 (zza 7 (.v (y.v)) (zza 8 (zI y.n) (sy_make 9 (T := 27) (E := 32) (z := .agg #[.bool false, .slice none 0 0, .slice none 0 0]) (size := 3) (bytes := 56) y.n (rcs (List.replicate y.n rl0)) xj xj rfl rfl xq yv (made_rcs _) ?_))))))
 refine zza 5 (.slc 9 0 y.n y.n) (zzc 27 [(0, .v (x.v)), (1, .v (y.v)), (5, .slc 9 0 y.n y.n)] [(9, ⟨32, rcs (List.replicate y.n rl0)⟩)] (zzd (sq9 (zza 10 (.slc 9 0 y.n y.n) (zza 11 (zI y.n) (zza 12 (zI 0) (zzc 27 [(0, .v (x.v)), (1, .v (y.v)), (5, .slc 9 0 y.n y.n), (11, zI y.n), (12, zI 0)] [(9, ⟨32, rcs (List.replicate y.n rl0)⟩)] (zzt (zyn (I := fun al S' u' => ∃ (i : Nat) (L : List RL), (al = y.n - i) ∧ (i ≤ y.n) ∧ (L.length = y.n) ∧ (S' = St.of 27 [(0, .v (x.v)), (1, .v (y.v)), (5, .slc 9 0 y.n y.n), (11, zI y.n), (12, zI i)] [(9, ⟨32, rcs L⟩)]) ∧ (Ext u u') ∧ (RatsN u' (L.take i) ((m.map (fun z => -z)).take i) M)) (fun m S u1 u2 e h => by obtain ⟨i, L, hm, p0, p1, hS, hE, f0⟩ := h; exact ⟨i, L, hm, p0, p1, hS, hE.trans e, f0.ext e⟩) _ yz ⟨0, List.replicate y.n rl0, rfl, by omega, by simp, rfl, (Ext.refl _), RatsN.tnil _ _ _ _⟩ ?_)))))))))
 rintro al _ u11 ⟨i, L, ax, hi, hL, rfl, ab, hR⟩
 refine sq9 (zza 13 (zB (decide ((i : Int) < (y.n : Int)))) (zzb (zzd (zzu (b := decide ((i : Int) < (y.n : Int))) xj (fun aa => ?_) (fun aa => ?_)))))
 ·have qhb12 := of_decide_eq_true aa
  refine zzs (zzp ?_)
  refine zzd (zzt (sq9 (zza 14 (zI i) (zza 6 (zI i) (zzb (zzf (zza 15 (.slc 9 0 y.n y.n) (zza 16 (zI i) (zza 17 (.v (y.v)) (zza 18 (zI i) ?_))))))))))
  have hl13 := (hy.ext ab).len
  obtain ⟨aB, b13, aq, ae, ag, ah⟩ := pol_at (hy.ext ab) (i := i) xq
  refine zya 19 (aq + i * 3) (n := y.n) (off := aq) (sz := 3) (i := (i : Int)) xq ae xq xq sl27 (zym 20 aB.cs ag ty32 (zzg 21 79 _ fun _ _ aj av => Post.mono (k_ratNeg av (ah.ext aj) xq) ?_))
  rintro _ u17 ao ⟨ak, rfl, az⟩
  refine zyw 22 (off' := i * 3) (n := y.n) (off := 0) (sz := 3) (i := (i : Int)) sl27 xq xq xq ?_
  refine zyv (V := ⟨32, rcs L⟩) (off := i * 3) (rcs ((L).set i ak)) ty32 zv (zyx (r := ak) (i := i) yy rfl) ?_
  refine zzx ?_
  refine zzp (zzf (zyq 23 (x := zI (IntKind.i64.wrap ((i : Int) + 1))) (zI (i + 1 : Nat)) (eqI yq) (zza 12 (zI (i + 1 : Nat)) (zzx ?_))))
  have ac : i < (m.map (fun z => -z)).length := by rw [List.length_map]; omega
  refine ⟨_, ?_, _, by exact zzv _ _ _, i + 1, (L).set i ak, rfl, by omega, by simpa using hL, rfl, (ab.t (aj.t ao.ext)), RatsN.tstep (hR.ext (aj.t ao.ext)) xq ac (RatN.more (K := M) az xq) (by simp [List.getElem?_eq_getElem (show i < m.length by omega)])⟩
  omega
 have qhb12 := of_decide_eq_false aa
 refine zyc (zzp (zzd (zyp (r := 5) (t := 9) [5, 9] xk xj zk zk xj (fun ar aw an aA ai => ?_))))
 have af : PolN aw ⟨some ⟨ar, 0, none⟩, y.n, y.n⟩ (m.map (fun z => -z)) M := pol_data1 ai yv (RatsN.tdone (hR.ext an) xq (by rw [List.length_map]; omega)) xq
 refine zzf (zza 24 (.v (x.v)) (zza 25 (.v (.slice (some ⟨ar, 0, none⟩) y.n y.n)) (zzg 26 115 _ fun _ _ am au => Post.mono (k_poAdd au (hx.ext (ab.trans (an.trans am))) (af.ext am).raw xq xq xw xw) ?_)))
 rintro _ u30 g31 ⟨ad, rfl, ap⟩
 have hly28 := ap.len
 refine zza 4 (.v (ad.v)) (zzb (zzo (ret0 [ad.v] ⟨zzq, trivial⟩ fun u33 ay => ?_)))
 refine ⟨ad, rfl, ?_⟩
 exact (ap.ext ay)
set_option maxHeartbeats 1000000 in
theorem k_r5Same {u w : World} {x : Sl} {l : List Rat} {y : Sl} {m : List Rat} {K M : Nat} (d : Dat u w) (hx : PolV u x l K) (hy : PolV u y m M) (hK : K ≤ 40000000) (hM : M ≤ 40000000) (hx9 : l.length ≤ 1000000000) (hy9 : m.length ≤ 1000000000) : Calls Tryz.prog 37 #[x.v, y.v] w (Post u w fun v u' => v = .bool (decide (Nt.trimQ l = Nt.trimQ m))) := by
 have hlen := hx.len
 have hlen2 := hy.len
 have htl := Nt.zzh l
 have htm := Nt.zzh m
 refine zzm (args := [x.v, y.v]) Tryz.func37 rfl Tryz.ntmps37 (rs := [.tmp 4]) Tryz.results37 (le_b rfl) (le_b rfl) d ?_
 refine sq9 (zza 4 (zB false) (zzb (sq9 (zza 5 (.v (x.v)) (zzg 6 83 _ fun _ _ ac aj => Post.mono (k_r5Trim aj (hx.ext ac) xq xw) ?_)))))
 rintro _ u14 ag ⟨y12, rfl, ab⟩
 have hly12 := ab.len
 refine zza 7 (.v (y.v)) (zzg 8 83 _ fun _ _ aa ah => Post.mono (k_r5Trim ah (hy.ext (ac.t (ag.t aa))) xq xw) ?_)
 rintro _ u20 af ⟨y18, rfl, ad⟩
 have hly18 := ad.len
 refine zzg 9 15 _ fun _ _ ae ai => Post.mono (k_r5Equal ai (ab.ext (aa.t (af.t ae))) (ad.ext ae) xw xw) ?_
 rintro _ u24 g25 rfl
 refine zza 4 (zB (decide ((Nt.trimQ l) = (Nt.trimQ m)))) (zzb (zzo (ret0 [.bool (decide ((Nt.trimQ l) = (Nt.trimQ m)))] ⟨zzq, trivial⟩ fun u27 e28 => ?_)))
 rfl
theorem k_mode {u w : World} {r : Int} (d : Dat u w) (h1 : 1 ≤ r) (h2 : r ≤ 3) : Calls Tryz.prog 161 #[.int .i64 r] w (Post u w fun v _ => v = .bool true) := by
 refine zzm (args := [.int .i64 r]) Tryz.func161 rfl Tryz.ntmps161 (rs := [.tmp 2]) Tryz.results161 (le_b rfl) (le_b rfl) d ?_
 refine sq9 (zza 2 (zB false) (zzb (sq9 (zza 3 (zI r) (zza 4 (zB (decide ((1 : Int) ≤ r))) (zyq 5 (x := zB (decide ((1 : Int) ≤ r))) (zB true) (by rw [show (decide ((1 : Int) ≤ r)) = true from decide_eq_true xq]) (zza 6 (zI r) ?_ (hw := w1 2 true 5))))))))
 refine zza 7 (zB (decide (r ≤ 3))) ?_ (hw := w1 2 true 5)
 refine zza 8 (zB (decide (r ≤ 3))) (zza 2 (zB (decide (r ≤ 3))) (zzb (zzo (ret0 [.bool (decide (r ≤ 3))] ⟨zzq, trivial⟩ fun u12 e13 => ?_))))
 show Value.bool _ = Value.bool _
 rw [show (decide (r ≤ 3)) = true from decide_eq_true xq]
theorem k_fxValid {u w : World} {W : WL} (d : Dat u w) (hW : WdOK W) : Calls Tryz.prog 103 #[W.v] w (Post u w fun v _ => v = .bool true) := by
 obtain ⟨hw1, hw2, hw3, hw4, hw5, hw6, hw7, hw8⟩ := id hW
 refine zzm (args := [.agg #[.int .i64 W.b, .int .i64 W.f, .int .i64 W.r, .int .i64 W.o]]) Tryz.func103 rfl Tryz.ntmps103 (rs := [.tmp 2]) Tryz.results103 (le_b rfl) (le_b rfl) d ?_
 refine sq9 (zzk 1 ⟨66, W.cs⟩ (zza 2 (zB false) (zzb (zzd (sq9 (zza 3 (.adr 1 0) (zzi 4 (zI W.b) ty3 zzl (zza 5 (zB (decide (W.b < 4))) (zyq 6 (x := zB (decide (W.b < 4))) (zB false) (by rw [show (decide (W.b < 4)) = false from decide_eq_false xq]) (zza 7 (.adr 1 0) ?_ (hw := w1 3 false 6)))))))))))
 refine zzi 8 (zI W.b) ty3 zzl ?_ (hw := w1 3 false 6)
 refine zza 9 (zB (decide ((24 : Int) < W.b))) ?_ (hw := w1 3 false 6)
 refine zza 10 (zB (decide ((24 : Int) < W.b))) (zyq 11 (x := zB (decide ((24 : Int) < W.b))) (zB false) (by rw [show (decide ((24 : Int) < W.b)) = false from decide_eq_false xq]) (zza 12 (.adr 1 1) ?_ (hw := w1 8 false 11)))
 refine zzi 13 (zI W.f) ty3 zzl ?_ (hw := w1 8 false 11)
 refine zza 14 (zB (decide (W.f < 0))) ?_ (hw := w1 8 false 11)
 refine zza 15 (zB (decide (W.f < 0))) (zyq 16 (x := zB (decide (W.f < 0))) (zB false) (by rw [show (decide (W.f < 0)) = false from decide_eq_false xq]) (zza 17 (.adr 1 1) ?_ (hw := w1 13 false 16)))
 refine zzi 18 (zI W.f) ty3 zzl ?_ (hw := w1 13 false 16)
 refine zza 19 (.adr 1 0) ?_ (hw := w1 13 false 16)
 refine zzi 20 (zI W.b) ty3 zzl ?_ (hw := w1 13 false 16)
 refine zza 21 (zB (decide (W.b ≤ W.f))) ?_ (hw := w1 13 false 16)
 refine zza 22 (zB (decide (W.b ≤ W.f))) (zzb (zzu (b := decide (W.b ≤ W.f)) xj (fun hb => ?_) (fun hb => ?_)))
 ·exact absurd hb (by rw [show (decide (W.b ≤ W.f)) = false from decide_eq_false xq]; decide)
 clear hb
 refine zzs (zzp ?_)
 refine sq9 (zza 23 (.adr 1 2) (zzi 24 (zI W.r) ty3 zzl (zzg 25 161 _ fun _ _ _ aa => Post.mono (k_mode (r := W.r) aa xq xq) ?_)))
 rintro _ u15 g16 rfl
 refine zza 26 (zB true) (zza 27 (.adr 1 3) ?_ (hw := w1 3 true 26))
 refine zzi 28 (zI W.o) ty3 zzl ?_ (hw := w1 3 true 26)
 refine zza 29 (zB (W.o == 1)) ?_ (hw := w1 3 true 26)
 rcases Bool.eq_false_or_eq_true (W.o == 1) with hs18 | hs18
 ·refine zyq 30 (x := zB (W.o == 1)) (zB true) (by rw [hs18]) ?_ (hw := w1 3 true 26)
  refine zzn 31 (uw 7 false true 30) (zzn 32 (uw 7 false true 30) (zzn 33 (uw 7 false true 30) (zza 34 (zB true) ?_ (hw := w1 3 true 26))))
  refine zza 35 (zB true) (zza 2 (zB true) (zzc 36 [(2, zB true)] [] (zzo (ret0 [.bool true] ⟨zzq, trivial⟩ fun u19 e20 => ?_))))
  rfl
 refine zyq 30 (x := zB (W.o == 1)) (zB false) (by rw [hs18]) ?_ (hw := w1 3 true 26)
 refine zza 31 (.adr 1 3) ?_ (hw := w1 7 false 30)
 refine zzi 32 (zI W.o) ty3 zzl ?_ (hw := w1 7 false 30)
 refine zza 33 (zB (W.o == 2)) ?_ (hw := w1 7 false 30)
 refine zza 34 (zB (W.o == 2)) ?_ (hw := w1 3 true 26)
 refine zza 35 (zB (W.o == 2)) (zza 2 (zB (W.o == 2)) (zzc 36 [(2, zB (W.o == 2))] [] (zzo (ret0 [.bool (W.o == 2)] ⟨zzq, trivial⟩ fun u21 e22 => ?_))))
 show Value.bool _ = Value.bool _
 rw [show (W.o == 2) = true from (by have hz := hs18; simp at hz ⊢; omega)]
theorem k_fxLow {u w : World} {W : WL} (d : Dat u w) (hW : WdOK W) : Calls Tryz.prog 207 #[W.v] w (Post u w fun v _ => v = .int .i64 (-Nt.p2i (W.b - 1))) := by
 obtain ⟨hw1, hw2, hw3, hw4, hw5, hw6, hw7, hw8⟩ := id hW
 have hp1 := Nt.zxq (W.b - 1)
 have hp2 := Nt.p2i_24 (n := W.b - 1) xq
 refine zzm (args := [.agg #[.int .i64 W.b, .int .i64 W.f, .int .i64 W.r, .int .i64 W.o]]) Tryz.func207 rfl Tryz.ntmps207 (rs := [.tmp 2]) Tryz.results207 (le_b rfl) (le_b rfl) d ?_
 refine sq9 (zzk 1 ⟨66, W.cs⟩ (zza 2 (zI 0) (zzb (zzd (sq9 (zzi 3 (.v (W.v)) ty66 zze (zzg 4 103 _ fun _ _ _ aa => Post.mono (k_fxValid (W := W) aa hW) ?_)))))))
 rintro _ u12 g13 rfl
 refine zza 5 (zB false) (zzb (zys xj (zzs (zzp ?_))))
 refine sq9 (zza 6 (.adr 1 0) (zzi 7 (zI W.b) ty3 zzl (zyq 8 (x := zI (IntKind.i64.wrap (W.b - 1))) (zI (W.b - 1)) yw (sy_shl 9 (k := .i64) (s := W.b - 1) (Nt.p2i (W.b - 1)) xq zx (shl_one xq xq) ?_))))
 refine zyq 10 (x := zI (IntKind.i64.wrap (0 - Nt.p2i (W.b - 1)))) (zI (-Nt.p2i (W.b - 1))) (by rw [show (IntKind.i64.wrap (0 - Nt.p2i (W.b - 1))) = (-Nt.p2i (W.b - 1)) from yq]) (zza 2 (zI (-Nt.p2i (W.b - 1))) (zzb (zzo (ret0 [.int .i64 (-Nt.p2i (W.b - 1))] ⟨zzq, trivial⟩ fun u15 e16 => ?_))))
 rfl
theorem k_fxHigh {u w : World} {W : WL} (d : Dat u w) (hW : WdOK W) : Calls Tryz.prog 208 #[W.v] w (Post u w fun v _ => v = .int .i64 (Nt.p2i (W.b - 1) - 1)) := by
 obtain ⟨hw1, hw2, hw3, hw4, hw5, hw6, hw7, hw8⟩ := id hW
 have hp1 := Nt.zxq (W.b - 1)
 have hp2 := Nt.p2i_24 (n := W.b - 1) xq
 refine zzm (args := [.agg #[.int .i64 W.b, .int .i64 W.f, .int .i64 W.r, .int .i64 W.o]]) Tryz.func208 rfl Tryz.ntmps208 (rs := [.tmp 2]) Tryz.results208 (le_b rfl) (le_b rfl) d ?_
 refine sq9 (zzk 1 ⟨66, W.cs⟩ (zza 2 (zI 0) (zzb (zzd (sq9 (zzi 3 (.v (W.v)) ty66 zze (zzg 4 103 _ fun _ _ _ aa => Post.mono (k_fxValid (W := W) aa hW) ?_)))))))
 rintro _ u12 g13 rfl
 refine zza 5 (zB false) (zzb (zys xj (zzs (zzp ?_))))
 refine sq9 (zza 6 (.adr 1 0) (zzi 7 (zI W.b) ty3 zzl (zyq 8 (x := zI (IntKind.i64.wrap (W.b - 1))) (zI (W.b - 1)) yw (sy_shl 9 (k := .i64) (s := W.b - 1) (Nt.p2i (W.b - 1)) xq zx (shl_one xq xq) ?_))))
 refine zyq 10 (x := zI (IntKind.i64.wrap ((Nt.p2i (W.b - 1)) - 1))) (zI ((Nt.p2i (W.b - 1)) - 1)) yw (zza 2 (zI ((Nt.p2i (W.b - 1)) - 1)) (zzb (zzo (ret0 [.int .i64 ((Nt.p2i (W.b - 1)) - 1)] ⟨zzq, trivial⟩ fun u15 e16 => ?_))))
 rfl
theorem k_fxFits {u w : World} {W : WL} {z : Int} (d : Dat u w) (hW : WdOK W) (h0 : -Nt.p2i (W.b - 1) ≤ z) (h1 : z < Nt.p2i (W.b - 1)) : Calls Tryz.prog 162 #[W.v, .int .i64 z] w (Post u w fun v _ => v = .bool true) := by
 obtain ⟨hw1, hw2, hw3, hw4, hw5, hw6, hw7, hw8⟩ := id hW
 refine zzm (args := [.agg #[.int .i64 W.b, .int .i64 W.f, .int .i64 W.r, .int .i64 W.o], .int .i64 z]) Tryz.func162 rfl Tryz.ntmps162 (rs := [.tmp 4]) Tryz.results162 (le_b rfl) (le_b rfl) d ?_
 refine sq9 (zzk 2 ⟨66, W.cs⟩ (zza 4 (zB false) (zzb (sq9 (zzi 5 (.v (W.v)) ty66 zze (zzg 6 103 _ fun _ _ _ ac => Post.mono (k_fxValid (W := W) ac hW) ?_))))))
 rintro _ u12 g13 rfl
 refine zza 7 (zB true) (zza 8 (zI z) ?_ (hw := w1 2 true 7))
 refine zzi 9 (.v (W.v)) ty66 zze ?_ (hw := w1 2 true 7)
 refine zzg 10 207 _ (fun _ _ _ aa => Post.mono (k_fxLow (W := W) aa hW) ?_) (hw := w1 2 true 7)
 rintro _ u16 g17 rfl
 refine zza 11 (zB (decide ((-Nt.p2i (W.b - 1)) ≤ z))) ?_ (hw := w1 2 true 7)
 refine zza 12 (zB (decide ((-Nt.p2i (W.b - 1)) ≤ z))) (zyq 13 (x := zB (decide ((-Nt.p2i (W.b - 1)) ≤ z))) (zB true) (by rw [show (decide ((-Nt.p2i (W.b - 1)) ≤ z)) = true from decide_eq_true xq]) (zza 14 (zI z) ?_ (hw := w1 8 true 13)))
 refine zzi 15 (.v (W.v)) ty66 zze ?_ (hw := w1 8 true 13)
 refine zzg 16 208 _ (fun _ _ _ ab => Post.mono (k_fxHigh (W := W) ab hW) ?_) (hw := w1 8 true 13)
 rintro _ u21 g22 rfl
 refine zza 17 (zB (decide (z ≤ (Nt.p2i (W.b - 1) - 1)))) ?_ (hw := w1 8 true 13)
 refine zza 18 (zB (decide (z ≤ (Nt.p2i (W.b - 1) - 1)))) (zza 4 (zB (decide (z ≤ (Nt.p2i (W.b - 1) - 1)))) (zzb (zzo (ret0 [.bool (decide (z ≤ (Nt.p2i (W.b - 1) - 1)))] ⟨zzq, trivial⟩ fun u24 e25 => ?_))))
 show Value.bool _ = Value.bool _
 rw [show (decide (z ≤ (Nt.p2i (W.b - 1) - 1))) = true from decide_eq_true xq]
theorem k_fxValue {u w : World} {W : WL} {z : Int} (d : Dat u w) (hW : WdOK W) (h0 : -16777216 ≤ z) (h1 : z ≤ 16777216) : Calls Tryz.prog 118 #[W.v, .int .i64 z] w (Post u w fun v u' => ∃ r : RL, v = r.v ∧ RatN u' r (((z : Int) : Rat) / ((Nt.p2i W.f : Int) : Rat)) 2) := by
 obtain ⟨hw1, hw2, hw3, hw4, hw5, hw6, hw7, hw8⟩ := id hW
 have hp1 := Nt.zxq W.f
 have hp2 := Nt.p2i_24 (n := W.f) xq
 refine zzm (args := [.agg #[.int .i64 W.b, .int .i64 W.f, .int .i64 W.r, .int .i64 W.o], .int .i64 z]) Tryz.func118 rfl Tryz.ntmps118 (rs := [.cell 4 32]) Tryz.results118 (le_b rfl) (le_b rfl) d ?_
 refine sq9 (zzk 2 ⟨66, W.cs⟩ (zzk 4 ⟨32, zw3⟩ (zzb (zzd (sq9 (zzi 5 (.v (W.v)) ty66 zze (zzg 6 103 _ fun _ _ _ ad => Post.mono (k_fxValid (W := W) ad hW) ?_)))))))
 rintro _ u12 g13 rfl
 refine zza 7 (zB false) (zzb (zys xj (zzs (zzp ?_))))
 refine sq9 (zza 9 (zI z) (zza 10 (.adr 2 1) (zzi 11 (zI W.f) ty3 zzl (sy_shl 12 (k := .i64) (s := W.f) (Nt.p2i W.f) xq zx (shl_one xq xq) ?_))))
 refine zzg 13 114 _ fun _ _ _ ac => Post.mono (k_ratFrac ac (a := z) (b := Nt.p2i W.f) xq xq xq xq) ?_
 rintro _ u18 g19 ⟨aa, rfl, ae⟩
 refine zzj ⟨32, aa.cs⟩ ty32 ?_
 refine zzb (zzo (ret0 [aa.v] ⟨zzr ty32 zze, trivial⟩ fun u21 ab => ?_))
 exact ⟨aa, rfl, (ae.ext ab)⟩
theorem k_within {u w : World} {n m : Int} (d : Dat u w) (hm : 1 ≤ m) (hm2 : m ≤ 4611686018427387904) (hn0 : -9223372036854775808 ≤ n) (hn1 : n ≤ 9223372036854775807) : Calls Tryz.prog 100 #[.int .i64 n, .int .i64 m] w (Post u w fun v _ => v = .int .i64 (n % m)) := by
 refine zzm (args := [.int .i64 n, .int .i64 m]) Tryz.func100 rfl Tryz.ntmps100 (rs := [.tmp 4]) Tryz.results100 (le_b rfl) (le_b rfl) d ?_
 refine sq9 (zza 4 (zI 0) (zzb (zzd (sq9 (zza 5 (zI m) (zyq 6 (x := zB (decide (m < 1))) (zB false) (by rw [show (decide (m < 1)) = false from zq]) (zzb (zys xj (zzs (zzp ?_))))))))))
 refine sq9 (zza 7 (zI n) (zza 8 (zI m) (sy_rem 9 (Int.tmod n m) xq rfl ?_)))
 refine zza 0 (zI (Int.tmod n m)) (zzb (zzd (sq9 (zza 10 (zI (Int.tmod n m)) (zza 11 (zB (decide ((Int.tmod n m) < 0))) (zzb (zzu (b := decide ((Int.tmod n m) < 0)) xj (fun aa => ?_) (fun aa => ?_))))))))
 ·have qhb11 := of_decide_eq_true aa
  refine zzf (zza 12 (zI (Int.tmod n m)) (zza 13 (zI m) (zyq 14 (x := zI (IntKind.i64.wrap (Int.tmod n m + m))) (zI (Int.tmod n m + m)) (by rw [show (IntKind.i64.wrap (Int.tmod n m + m)) = (Int.tmod n m + m) from (IntWalk.i64_in _ (by have h2 := Int.lt_tmod_of_pos n (show 0 < m by omega); have h3 := Int.tmod_lt_of_pos n (show 0 < m by omega); omega))]) (zza 0 (zI (Int.tmod n m + m)) (zzb (sq9 (zza 15 (zI (Int.tmod n m + m)) (zza 4 (zI (Int.tmod n m + m)) (zzb (zzo (ret0 [.int .i64 (Int.tmod n m + m)] ⟨zzq, trivial⟩ fun u12 e13 => ?_)))))))))))
  show Value.int _ _ = Value.int _ _
  rw [mod_neg9 m hm n aa]
 have qhb11 := of_decide_eq_false aa
 refine zzs (zzp ?_)
 refine sq9 (zza 15 (zI (Int.tmod n m)) (zza 4 (zI (Int.tmod n m)) (zzb (zzo (ret0 [.int .i64 (Int.tmod n m)] ⟨zzq, trivial⟩ fun u14 e15 => ?_)))))
 show Value.int _ _ = Value.int _ _
 rw [mod_pos9 m hm n aa]
theorem k_wunit {u w : World} {W : WL} (d : Dat u w) (hW : WdOK W) : Calls Tryz.prog 102 #[W.v] w (Post u w fun v _ => v = .int .i64 (Nt.p2i W.f)) := by
 obtain ⟨hw1, hw2, hw3, hw4, hw5, hw6, hw7, hw8⟩ := id hW
 refine zzm (args := [.agg #[.int .i64 W.b, .int .i64 W.f, .int .i64 W.r, .int .i64 W.o]]) Tryz.func102 rfl Tryz.ntmps102 (rs := [.tmp 2]) Tryz.results102 (le_b rfl) (le_b rfl) d ?_
 refine sq9 (zzk 1 ⟨66, W.cs⟩ (zza 2 (zI 0) (zzb (sq9 (zza 3 (.adr 1 1) (zzi 4 (zI W.f) ty3 zzl (sy_conv 5 W.f (fun w => by kernel_rfl) (IntWalk.u64_in _ xq) ?_)))))))
 refine sy_shl 6 (k := .i64) (s := W.f) (Nt.p2i W.f) xq zx (shl_one xq xq) ?_
 refine zza 2 (zI (Nt.p2i W.f)) (zzb (zzo (ret0 [.int .i64 (Nt.p2i W.f)] ⟨zzq, trivial⟩ fun u11 e12 => ?_)))
 rfl
theorem k_suitable {u w : World} {W : WL} (d : Dat u w) (hW : WdOK W) (hf : 1 ≤ W.f) : Calls Tryz.prog 175 #[W.v] w (Post u w fun v _ => v = .bool true) := by
 obtain ⟨hw1, hw2, hw3, hw4, hw5, hw6, hw7, hw8⟩ := id hW
 refine zzm (args := [.agg #[.int .i64 W.b, .int .i64 W.f, .int .i64 W.r, .int .i64 W.o]]) Tryz.func175 rfl Tryz.ntmps175 (rs := [.tmp 2]) Tryz.results175 (le_b rfl) (le_b rfl) d ?_
 refine sq9 (zzk 1 ⟨66, W.cs⟩ (zza 2 (zB false) (zzb (sq9 (zzi 3 (.v (W.v)) ty66 zze (zzg 4 103 _ fun _ _ _ aa => Post.mono (k_fxValid (W := W) aa hW) ?_))))))
 rintro _ u12 g13 rfl
 refine zza 5 (zB true) (zza 6 (.adr 1 1) ?_ (hw := w1 2 true 5))
 refine zzi 7 (zI W.f) ty3 zzl ?_ (hw := w1 2 true 5)
 refine zza 8 (zB (decide ((1 : Int) ≤ W.f))) ?_ (hw := w1 2 true 5)
 refine zza 9 (zB (decide ((1 : Int) ≤ W.f))) (zza 2 (zB (decide ((1 : Int) ≤ W.f))) (zzb (zzo (ret0 [.bool (decide ((1 : Int) ≤ W.f))] ⟨zzq, trivial⟩ fun u15 e16 => ?_))))
 show Value.bool _ = Value.bool _
 rw [show (decide ((1 : Int) ≤ W.f)) = true from decide_eq_true xq]
set_option maxHeartbeats 1000000 in
theorem k_permitted1 {u w : World} {W : WL} {g : Int} (hg0 : -Nt.p2i W.f < g) (hg1 : g < Nt.p2i W.f) (d : Dat u w) (hW : WdOK W) : Calls Tryz.prog 176 #[(⟨1, g, 0⟩ : PL).v, W.v] w (Post u w fun v _ => v = .bool true) := by
 obtain ⟨hw1, hw2, hw3, hw4, hw5, hw6, hw7, hw8⟩ := id hW
 have hu0 := Nt.zxq W.f
 have hu1 := Nt.p2i_24 (n := W.f) xq
 have hu2 := Nt.zwh (a := W.f) (b := W.b - 1) xq
 have hu3 := Nt.p2i_24 (n := W.b - 1) xq
 refine zzm (args := [.agg #[.int .i64 1, .int .i64 g, .int .i64 0], .agg #[.int .i64 W.b, .int .i64 W.f, .int .i64 W.r, .int .i64 W.o]]) Tryz.func176 rfl Tryz.ntmps176 (rs := [.tmp 4]) Tryz.results176 (le_b rfl) (le_b rfl) d ?_
 refine sq9 (zzk 2 ⟨168, [.int .i64 1, .int .i64 g, .int .i64 0]⟩ (zzk 3 ⟨66, W.cs⟩ (zza 4 (zB false) (zzb (zzd (sq9 (zza 8 (.adr 2 0) (zzi 9 (zI 1) ty3 zzl (zza 10 (zB false) (zza 11 (zB false) (zzn 12 (uw 3 true false 11) ?_)))))))))))
 refine zzn 13 (uw 3 true false 11) (zzn 14 (uw 3 true false 11) (zza 15 (zB false) (zzb (zys xj (zzs (zzp ?_))))))
 refine zzd (sq9 (zza 16 (.adr 2 0) (zzi 17 (zI 1) ty3 zzl (zza 18 (zB true) (zza 19 (zB true) (zza 20 (.adr 2 1) ?_ (hw := w1 3 true 19)))))))
 refine zza 21 (.adr 2 2) ?_ (hw := w1 3 true 19)
 refine zzi 22 (zI 0) ty3 zzl ?_ (hw := w1 3 true 19)
 refine zza 23 (zB false) ?_ (hw := w1 3 true 19)
 refine zza 24 (zB false) (zzb (zys xj (zzs (zzp ?_))))
 refine sq9 (zza 25 (.adr 3 1) (zzi 26 (zI W.f) ty3 zzl (sy_shl 27 (k := .i64) (s := W.f) (Nt.p2i W.f) xq zx (shl_one xq xq) ?_)))
 refine zza 5 (zI (Nt.p2i W.f)) (zzb (zzd (sq9 (zza 28 (.adr 2 1) (zzi 29 (.v (.agg #[.int .i64 g, .int .i64 0])) ty166 zze (zza 30 (zI 0) (zzb (zzt (sw_rounds 2 ?_)))))))))
 refine sq9 (zza 31 (zB true) (zzb (zzd (zyr xj (zzs (zzp ?_))))))
 refine zzd (zzt (sq9 (zza 32 (zI g) (zza 7 (zI g) (zzb (zzd (sq9 (zza 33 (zI g) (zza 34 (zI (Nt.p2i W.f)) (zyq 35 (x := zI (IntKind.i64.wrap (0 - (Nt.p2i W.f)))) (zI (-(Nt.p2i W.f))) (eqI yq) (zza 36 (zB (decide (g ≤ (-(Nt.p2i W.f))))) ?_)))))))))))
 refine zyq 37 (x := zB (decide (g ≤ (-(Nt.p2i W.f))))) (zB false) (by rw [show (decide (g ≤ (-(Nt.p2i W.f)))) = false from decide_eq_false xq]) (zza 38 (zI g) ?_ (hw := w1 4 false 37))
 refine zza 39 (zI (Nt.p2i W.f)) ?_ (hw := w1 4 false 37)
 refine zza 40 (zB (decide ((Nt.p2i W.f) ≤ g))) ?_ (hw := w1 4 false 37)
 refine zza 41 (zB (decide ((Nt.p2i W.f) ≤ g))) (zzc 54 [(3, .adr 3 0), (5, zI (Nt.p2i W.f)), (7, zI g), (29, .v (.agg #[.int .i64 g, .int .i64 0])), (30, zI 0), (41, zB (decide ((Nt.p2i W.f) ≤ g)))] [(3, ⟨66, W.cs⟩)] (zzu (b := decide ((Nt.p2i W.f) ≤ g)) xj (fun hb => ?_) (fun hb => ?_)))
 ·exact absurd hb (by rw [show (decide ((Nt.p2i W.f) ≤ g)) = false from decide_eq_false xq]; decide)
 clear hb
 refine zzs (zzp ?_)
 refine sq9 (zzi 42 (.v (W.v)) ty66 zze (zza 43 (zI g) (zzg 44 162 _ fun _ _ _ aa => Post.mono (k_fxFits (W := W) (z := g) aa hW xq xq) ?_)))
 rintro _ u13 g14 rfl
 refine zza 45 (zB false) (zza 46 (zB false) (zzi 47 (.v (W.v)) ty66 zze ?_ (hw := w1 4 false 46)))
 refine zza 48 (zI g) ?_ (hw := w1 4 false 46)
 refine zyq 49 (x := zI (IntKind.i64.wrap (0 - g))) (zI (-g)) (eqI yq) ?_ (hw := w1 4 false 46)
 refine zzg 50 162 _ (fun _ _ _ ad => Post.mono (k_fxFits (W := W) (z := -g) ad hW xq xq) ?_) (hw := w1 4 false 46)
 rintro _ u17 g18 rfl
 refine zza 51 (zB false) ?_ (hw := w1 4 false 46)
 refine zza 52 (zB false) (zzb (zys xj (zzs (zzp ?_))))
 refine zzf (zza 53 (zI 1) (zza 30 (zI 1) (zzx ?_)))
 refine rn_next ?_
 refine sw_weak (T := St.of 54 [(3, .adr 3 0), (5, zI (Nt.p2i W.f)), (29, .v (.agg #[.int .i64 g, .int .i64 0])), (30, zI 1)] [(3, ⟨66, [.int .i64 W.b, .int .i64 W.f, .int .i64 W.r, .int .i64 W.o]⟩)]) yz ?_
 refine sq9 (zza 31 (zB true) (zzb (zzd (zyr xj (zzs (zzp ?_))))))
 refine zzd (zzt (sq9 (zza 32 (zI 0) (zza 7 (zI 0) (zzb (zzd (sq9 (zza 33 (zI 0) (zza 34 (zI (Nt.p2i W.f)) (zyq 35 (x := zI (IntKind.i64.wrap (0 - (Nt.p2i W.f)))) (zI (-(Nt.p2i W.f))) (eqI yq) (zza 36 (zB (decide ((0 : Int) ≤ (-(Nt.p2i W.f))))) ?_)))))))))))
 refine zyq 37 (x := zB (decide ((0 : Int) ≤ (-(Nt.p2i W.f))))) (zB false) (by rw [show (decide ((0 : Int) ≤ (-(Nt.p2i W.f)))) = false from decide_eq_false xq]) (zza 38 (zI 0) ?_ (hw := w1 4 false 37))
 refine zza 39 (zI (Nt.p2i W.f)) ?_ (hw := w1 4 false 37)
 refine zza 40 (zB (decide ((Nt.p2i W.f) ≤ 0))) ?_ (hw := w1 4 false 37)
 refine zza 41 (zB (decide ((Nt.p2i W.f) ≤ 0))) (zzb (zzu (b := decide ((Nt.p2i W.f) ≤ 0)) xj (fun hb => ?_) (fun hb => ?_)))
 ·exact absurd hb (by rw [show (decide ((Nt.p2i W.f) ≤ 0)) = false from decide_eq_false xq]; decide)
 clear hb
 refine zzs (zzp ?_)
 refine sq9 (zzi 42 (.v (W.v)) ty66 zze (zza 43 (zI 0) (zzg 44 162 _ fun _ _ _ ab => Post.mono (k_fxFits (W := W) (z := 0) ab hW xq xq) ?_)))
 rintro _ u22 g23 rfl
 refine zza 45 (zB false) (zza 46 (zB false) (zzi 47 (.v (W.v)) ty66 zze ?_ (hw := w1 4 false 46)))
 refine zza 48 (zI 0) ?_ (hw := w1 4 false 46)
 refine zza 49 (zI 0) ?_ (hw := w1 4 false 46)
 refine zzg 50 162 _ (fun _ _ _ ac => Post.mono (k_fxFits (W := W) (z := 0) ac hW xq xq) ?_) (hw := w1 4 false 46)
 rintro _ u26 g27 rfl
 refine zza 51 (zB false) ?_ (hw := w1 4 false 46)
 refine zza 52 (zB false) (zzc 54 [(3, .adr 3 0), (5, zI (Nt.p2i W.f)), (29, .v (.agg #[.int .i64 g, .int .i64 0])), (30, zI 1), (52, zB false)] [(3, ⟨66, W.cs⟩)] (zys xj (zzs (zzp ?_))))
 refine zzf (zza 53 (zI 2) (zza 30 (zI 2) (zzx ?_)))
 refine rn_next ?_
 refine sw_weak (T := St.of 54 [(3, .adr 3 0), (5, zI (Nt.p2i W.f)), (29, .v (.agg #[.int .i64 g, .int .i64 0])), (30, zI 2)] [(3, ⟨66, [.int .i64 W.b, .int .i64 W.f, .int .i64 W.r, .int .i64 W.o]⟩)]) yz ?_
 refine sq9 (zza 31 (zB false) (zzb (zzd (zys xj (zyc (zzp (sq9 (zza 4 (zB true) (zzb (zzo (ret0 [.bool true] ⟨zzq, trivial⟩ fun u29 e30 => ?_)))))))))))
 rfl
set_option maxHeartbeats 1000000 in
theorem k_permitted2 {u w : World} {W : WL} {g h : Int} (hg0 : -Nt.p2i W.f < g) (hg1 : g < Nt.p2i W.f) (hh0 : -Nt.p2i W.f < h) (hh1 : h < Nt.p2i W.f) (d : Dat u w) (hW : WdOK W) : Calls Tryz.prog 176 #[(⟨2, g, h⟩ : PL).v, W.v] w (Post u w fun v _ => v = .bool true) := by
 obtain ⟨hw1, hw2, hw3, hw4, hw5, hw6, hw7, hw8⟩ := id hW
 have hu0 := Nt.zxq W.f
 have hu1 := Nt.p2i_24 (n := W.f) xq
 have hu2 := Nt.zwh (a := W.f) (b := W.b - 1) xq
 have hu3 := Nt.p2i_24 (n := W.b - 1) xq
 refine zzm (args := [.agg #[.int .i64 2, .int .i64 g, .int .i64 h], .agg #[.int .i64 W.b, .int .i64 W.f, .int .i64 W.r, .int .i64 W.o]]) Tryz.func176 rfl Tryz.ntmps176 (rs := [.tmp 4]) Tryz.results176 (le_b rfl) (le_b rfl) d ?_
 refine sq9 (zzk 2 ⟨168, [.int .i64 2, .int .i64 g, .int .i64 h]⟩ (zzk 3 ⟨66, W.cs⟩ (zza 4 (zB false) (zzb (zzd (sq9 (zza 8 (.adr 2 0) (zzi 9 (zI 2) ty3 zzl (zza 10 (zB true) (zza 11 (zB true) (zza 12 (.adr 2 0) ?_ (hw := w1 3 true 11))))))))))))
 refine zzi 13 (zI 2) ty3 zzl ?_ (hw := w1 3 true 11)
 refine zza 14 (zB false) ?_ (hw := w1 3 true 11)
 refine zza 15 (zB false) (zzb (zys xj (zzs (zzp ?_))))
 refine zzd (sq9 (zza 16 (.adr 2 0) (zzi 17 (zI 2) ty3 zzl (zza 18 (zB false) (zza 19 (zB false) (zzn 20 (uw 3 true false 19) (zzn 21 (uw 3 true false 19) (zzn 22 (uw 3 true false 19) (zzn 23 (uw 3 true false 19) (zza 24 (zB false) (zzb ?_)))))))))))
 refine zys xj (zzs (zzp ?_))
 refine sq9 (zza 25 (.adr 3 1) (zzi 26 (zI W.f) ty3 zzl (sy_shl 27 (k := .i64) (s := W.f) (Nt.p2i W.f) xq zx (shl_one xq xq) ?_)))
 refine zza 5 (zI (Nt.p2i W.f)) (zzb (zzd (sq9 (zza 28 (.adr 2 1) (zzi 29 (.v (.agg #[.int .i64 g, .int .i64 h])) ty166 zze (zza 30 (zI 0) (zzb (zzt (sw_rounds 2 ?_)))))))))
 refine sq9 (zza 31 (zB true) (zzb (zzd (zyr xj (zzs (zzp ?_))))))
 refine zzd (zzt (sq9 (zza 32 (zI g) (zza 7 (zI g) (zzb (zzd (sq9 (zza 33 (zI g) (zza 34 (zI (Nt.p2i W.f)) (zyq 35 (x := zI (IntKind.i64.wrap (0 - (Nt.p2i W.f)))) (zI (-(Nt.p2i W.f))) (eqI yq) (zza 36 (zB (decide (g ≤ (-(Nt.p2i W.f))))) ?_)))))))))))
 refine zyq 37 (x := zB (decide (g ≤ (-(Nt.p2i W.f))))) (zB false) (by rw [show (decide (g ≤ (-(Nt.p2i W.f)))) = false from decide_eq_false xq]) (zza 38 (zI g) ?_ (hw := w1 4 false 37))
 refine zza 39 (zI (Nt.p2i W.f)) ?_ (hw := w1 4 false 37)
 refine zza 40 (zB (decide ((Nt.p2i W.f) ≤ g))) ?_ (hw := w1 4 false 37)
 refine zza 41 (zB (decide ((Nt.p2i W.f) ≤ g))) (zzc 54 [(3, .adr 3 0), (5, zI (Nt.p2i W.f)), (7, zI g), (29, .v (.agg #[.int .i64 g, .int .i64 h])), (30, zI 0), (41, zB (decide ((Nt.p2i W.f) ≤ g)))] [(3, ⟨66, W.cs⟩)] (zzu (b := decide ((Nt.p2i W.f) ≤ g)) xj (fun hb => ?_) (fun hb => ?_)))
 ·exact absurd hb (by rw [show (decide ((Nt.p2i W.f) ≤ g)) = false from decide_eq_false xq]; decide)
 clear hb
 refine zzs (zzp ?_)
 refine sq9 (zzi 42 (.v (W.v)) ty66 zze (zza 43 (zI g) (zzg 44 162 _ fun _ _ _ aa => Post.mono (k_fxFits (W := W) (z := g) aa hW xq xq) ?_)))
 rintro _ u13 g14 rfl
 refine zza 45 (zB false) (zza 46 (zB false) (zzi 47 (.v (W.v)) ty66 zze ?_ (hw := w1 4 false 46)))
 refine zza 48 (zI g) ?_ (hw := w1 4 false 46)
 refine zyq 49 (x := zI (IntKind.i64.wrap (0 - g))) (zI (-g)) (eqI yq) ?_ (hw := w1 4 false 46)
 refine zzg 50 162 _ (fun _ _ _ ad => Post.mono (k_fxFits (W := W) (z := -g) ad hW xq xq) ?_) (hw := w1 4 false 46)
 rintro _ u17 g18 rfl
 refine zza 51 (zB false) ?_ (hw := w1 4 false 46)
 refine zza 52 (zB false) (zzb (zys xj (zzs (zzp ?_))))
 refine zzf (zza 53 (zI 1) (zza 30 (zI 1) (zzx ?_)))
 refine rn_next ?_
 refine sw_weak (T := St.of 54 [(3, .adr 3 0), (5, zI (Nt.p2i W.f)), (29, .v (.agg #[.int .i64 g, .int .i64 h])), (30, zI 1)] [(3, ⟨66, [.int .i64 W.b, .int .i64 W.f, .int .i64 W.r, .int .i64 W.o]⟩)]) yz ?_
 refine sq9 (zza 31 (zB true) (zzb (zzd (zyr xj (zzs (zzp ?_))))))
 refine zzd (zzt (sq9 (zza 32 (zI h) (zza 7 (zI h) (zzb (zzd (sq9 (zza 33 (zI h) (zza 34 (zI (Nt.p2i W.f)) (zyq 35 (x := zI (IntKind.i64.wrap (0 - (Nt.p2i W.f)))) (zI (-(Nt.p2i W.f))) (eqI yq) (zza 36 (zB (decide (h ≤ (-(Nt.p2i W.f))))) ?_)))))))))))
 refine zyq 37 (x := zB (decide (h ≤ (-(Nt.p2i W.f))))) (zB false) (by rw [show (decide (h ≤ (-(Nt.p2i W.f)))) = false from decide_eq_false xq]) (zza 38 (zI h) ?_ (hw := w1 4 false 37))
 refine zza 39 (zI (Nt.p2i W.f)) ?_ (hw := w1 4 false 37)
 refine zza 40 (zB (decide ((Nt.p2i W.f) ≤ h))) ?_ (hw := w1 4 false 37)
 refine zza 41 (zB (decide ((Nt.p2i W.f) ≤ h))) (zzb (zzu (b := decide ((Nt.p2i W.f) ≤ h)) xj (fun hb => ?_) (fun hb => ?_)))
 ·exact absurd hb (by rw [show (decide ((Nt.p2i W.f) ≤ h)) = false from decide_eq_false xq]; decide)
 clear hb
 refine zzs (zzp ?_)
 refine sq9 (zzi 42 (.v (W.v)) ty66 zze (zza 43 (zI h) (zzg 44 162 _ fun _ _ _ ab => Post.mono (k_fxFits (W := W) (z := h) ab hW xq xq) ?_)))
 rintro _ u22 g23 rfl
 refine zza 45 (zB false) (zza 46 (zB false) (zzi 47 (.v (W.v)) ty66 zze ?_ (hw := w1 4 false 46)))
 refine zza 48 (zI h) ?_ (hw := w1 4 false 46)
 refine zyq 49 (x := zI (IntKind.i64.wrap (0 - h))) (zI (-h)) (eqI yq) ?_ (hw := w1 4 false 46)
 refine zzg 50 162 _ (fun _ _ _ ac => Post.mono (k_fxFits (W := W) (z := -h) ac hW xq xq) ?_) (hw := w1 4 false 46)
 rintro _ u26 g27 rfl
 refine zza 51 (zB false) ?_ (hw := w1 4 false 46)
 refine zza 52 (zB false) (zzc 54 [(3, .adr 3 0), (5, zI (Nt.p2i W.f)), (29, .v (.agg #[.int .i64 g, .int .i64 h])), (30, zI 1), (52, zB false)] [(3, ⟨66, W.cs⟩)] (zys xj (zzs (zzp ?_))))
 refine zzf (zza 53 (zI 2) (zza 30 (zI 2) (zzx ?_)))
 refine rn_next ?_
 refine sw_weak (T := St.of 54 [(3, .adr 3 0), (5, zI (Nt.p2i W.f)), (29, .v (.agg #[.int .i64 g, .int .i64 h])), (30, zI 2)] [(3, ⟨66, [.int .i64 W.b, .int .i64 W.f, .int .i64 W.r, .int .i64 W.o]⟩)]) yz ?_
 refine sq9 (zza 31 (zB false) (zzb (zzd (zys xj (zyc (zzp (sq9 (zza 4 (zB true) (zzb (zzo (ret0 [.bool true] ⟨zzq, trivial⟩ fun u29 e30 => ?_)))))))))))
 rfl
theorem pas_split {f : Int} {p : PL} (h : PasOK f p) : (∃ g, p = ⟨1, g, 0⟩ ∧ -Nt.p2i f < g ∧ g < Nt.p2i f) ∨ (∃ g h, p = ⟨2, g, h⟩ ∧ -Nt.p2i f < g ∧ g < Nt.p2i f ∧ -Nt.p2i f < h ∧ h < Nt.p2i f) := by
 obtain ⟨o, g, h'⟩ := p
 obtain ⟨h1, h2, h3, h4, h5⟩ := h
 rcases h1 with ⟨h6, h7⟩ | h6
 ·have h6 : o = 1 := h6
  have h7 : h' = 0 := h7
  subst h6 h7
  exact .inl ⟨g, rfl, h2, h3⟩
 have h6 : o = 2 := h6
 subst h6
 exact .inr ⟨g, h', rfl, h2, h3, h4, h5⟩
theorem k_permitted {u w : World} {W : WL} {p : PL} (d : Dat u w) (hW : WdOK W) (hp : PasOK W.f p) : Calls Tryz.prog 176 #[p.v, W.v] w (Post u w fun v _ => v = .bool true) := by
 rcases pas_split hp with ⟨g, rfl, h1, h2⟩ | ⟨g, h, rfl, h1, h2, h3, h4⟩
 ·exact k_permitted1 h1 h2 d hW
 exact k_permitted2 h1 h2 h3 h4 d hW
set_option maxHeartbeats 1000000 in
theorem k_section1 {u w : World} {W : WL} {g : Int} (hg0 : -Nt.p2i W.f < g) (hg1 : g < Nt.p2i W.f) (d : Dat u w) (hW : WdOK W) : Calls Tryz.prog 178 #[(⟨1, g, 0⟩ : PL).v, W.v] w (Post u w fun v u' => ∃ y z : Sl, v = .agg #[y.v, z.v] ∧ PolN u' y (Nt.trimQ (Nt.secB W.f (⟨1, g, 0⟩ : PL))) 10 ∧ PolN u' z (Nt.trimQ (Nt.secA W.f (⟨1, g, 0⟩ : PL))) 10) := by
 obtain ⟨hw1, hw2, hw3, hw4, hw5, hw6, hw7, hw8⟩ := id hW
 have hu0 := Nt.zxq W.f
 have hu1 := Nt.p2i_24 (n := W.f) xq
 have hu2 := Nt.zwh (a := W.f) (b := W.b - 1) xq
 have hu3 := Nt.p2i_24 (n := W.b - 1) xq
 refine zzm (args := [.agg #[.int .i64 1, .int .i64 g, .int .i64 0], .agg #[.int .i64 W.b, .int .i64 W.f, .int .i64 W.r, .int .i64 W.o]]) Tryz.func178 rfl Tryz.ntmps178 (rs := [.cell 4 81]) Tryz.results178 (le_b rfl) (le_b rfl) d ?_
 refine sq9 (zzk 2 ⟨168, [.int .i64 1, .int .i64 g, .int .i64 0]⟩ (zzk 3 ⟨66, W.cs⟩ (zzk 4 ⟨81, [.slice none 0 0, .slice none 0 0]⟩ (zzb (sq9 (zzg 10 109 _ fun _ _ _ aK => Post.mono (k_ratOf aK (z := 1) xq xq) ?_))))))
 rintro _ u14 g15 ⟨aa, rfl, ar⟩
 refine zzk 5 ⟨32, zw3⟩ (zzj ⟨32, aa.cs⟩ ty32 ?_)
 refine zzb (sq9 (zzi 11 (.v (W.v)) ty66 zze (zza 12 (.adr 2 1) (zza 13 (.adr 2 1) (zzi 14 (zI g) ty3 zzl (zzg 15 118 _ fun _ _ aw aE => Post.mono (k_fxValue (W := W) (z := g) aE hW xq xq) ?_))))))
 rintro _ u20 an ⟨aB, rfl, aN⟩
 refine zzk 6 ⟨32, zw3⟩ (zzj ⟨32, aB.cs⟩ ty32 ?_)
 refine zzb (sq9 (zzi 16 (.v (aB.v)) ty32 zze (zzg 17 79 _ fun _ _ ak aJ => Post.mono (k_ratNeg aJ (aN.ext ak).raw xq) ?_)))
 rintro _ u26 aA ⟨ab, rfl, ap⟩
 refine zzk 7 ⟨32, zw3⟩ (zzj ⟨32, ab.cs⟩ ty32 ?_)
 refine zzb (zzd (sq9 (zza 18 (.adr 2 0) (zzi 19 (zI 1) ty3 zzl (zza 20 (zB true) (zzb (zyr xj (zzd (zzz [0, 0, 3, 7, 0, 0, 48, 127, 255, 511] [(0, []), (1, []), (2, []), (4, []), (5, []), (6, []), (3, [23]), (7, [27]), (8, []), (9, [])] xj xj (zzi 21 (.v (ab.v)) ty32 zze (zzi 22 (.v (aa.v)) ty32 zze ?_)))))))))))
 refine sy_lit 23 ⟨32, ab.cs ++ aa.cs⟩ 2 ?_
 refine zzi 25 (.v (aa.v)) ty32 zze (zzi 26 (.v (ab.v)) ty32 zze (sy_lit 27 ⟨32, aa.cs ++ ab.cs⟩ 2 ?_))
 refine zyo 24 117 [.slc 23 0 2 2] [23] (.inr rfl) (pub_mk xk) (k := ?_)
 intro al w29 ay af aG aI
 have aC : ay.heap[al 23]? = some (.cells #[.bool ab.s, .slice ab.m.a ab.m.n ab.m.c, .slice ab.d.a ab.d.n ab.d.c, .bool aa.s, .slice aa.m.a aa.m.n aa.m.c, .slice aa.d.a aa.d.n aa.d.c] 32 (0, 0)) := aI 23 zj _ rfl
 obtain ⟨aH, ac⟩ : ∃ b, al 23 = b := ⟨_, rfl⟩
 rw [ac] at aC
 have ai : PolN ay (⟨some ⟨aH, 0, none⟩, 2, 2⟩ : Sl) [(-(((g : Int) : Rat) / ((Nt.p2i W.f : Int) : Rat))), ((1 : Int) : Rat)] 2 := pol_lit (L := [ab, aa]) aC (rats2 (ap.ext af) (ar.ext (aw.t (an.t (ak.t (aA.t af)))))) rfl yj
 show Calls _ _ #[.slice (some ⟨al 23, 0, none⟩) 2 2] _ _
 rw [ac]
 have k37 := k_poTrim aG ai.raw xq (by first | omega | (simp; done) | (simp; omega))
 with_reducible refine zPm k37 ?_
 rintro _ u35 az ⟨ag, rfl, ax⟩
 have hly33 := ax.len
 refine zyo 28 117 [.slc 27 0 2 2] [27] (.inr rfl) (pub_mk xk) (k := ?_)
 intro ah w38 ao aj aL aF
 have av : ao.heap[ah 27]? = some (.cells #[.bool aa.s, .slice aa.m.a aa.m.n aa.m.c, .slice aa.d.a aa.d.n aa.d.c, .bool ab.s, .slice ab.m.a ab.m.n ab.m.c, .slice ab.d.a ab.d.n ab.d.c] 32 (0, 0)) := aF 27 zj _ rfl
 obtain ⟨aM, ad⟩ : ∃ b, ah 27 = b := ⟨_, rfl⟩
 rw [ad] at av
 have am : PolN ao (⟨some ⟨aM, 0, none⟩, 2, 2⟩ : Sl) [((1 : Int) : Rat), (-(((g : Int) : Rat) / ((Nt.p2i W.f : Int) : Rat)))] 2 := pol_lit (L := [aa, ab]) av (rats2 (ar.ext (aw.t (an.t (ak.t (aA.t (af.t (az.t aj))))))) (ap.ext (af.t (az.t aj)))) rfl yj
 show Calls _ _ #[.slice (some ⟨ah 27, 0, none⟩) 2 2] _ _
 rw [ad]
 have k46 := k_poTrim aL am.raw xq (by first | omega | (simp; done) | (simp; omega))
 with_reducible refine zPm k46 ?_
 rintro _ u44 aD ⟨ae, rfl, au⟩
 have hly42 := au.len
 refine zza 29 (.v (.agg #[ag.v, ae.v])) (zzj ⟨81, [ag.v, ae.v]⟩ ty81 ?_)
 refine zzb (zzo (zzw (ret0 [.agg #[ag.v, ae.v]] ⟨zzr ty81 zze, trivial⟩ fun u47 aq => ?_)))
 exact ⟨ag, ae, rfl, PolN.more (K := 2) (ax.ext (aj.t (aD.t aq))) xq, PolN.more (K := 2) (au.ext aq) xq⟩
set_option maxHeartbeats 1000000 in
theorem k_section2 {u w : World} {W : WL} {g h : Int} (hg0 : -Nt.p2i W.f < g) (hg1 : g < Nt.p2i W.f) (hh0 : -Nt.p2i W.f < h) (hh1 : h < Nt.p2i W.f) (d : Dat u w) (hW : WdOK W) : Calls Tryz.prog 178 #[(⟨2, g, h⟩ : PL).v, W.v] w (Post u w fun v u' => ∃ y z : Sl, v = .agg #[y.v, z.v] ∧ PolN u' y (Nt.trimQ (Nt.secB W.f (⟨2, g, h⟩ : PL))) 10 ∧ PolN u' z (Nt.trimQ (Nt.secA W.f (⟨2, g, h⟩ : PL))) 10) := by
 obtain ⟨hw1, hw2, hw3, hw4, hw5, hw6, hw7, hw8⟩ := id hW
 have hu0 := Nt.zxq W.f
 have hu1 := Nt.p2i_24 (n := W.f) xq
 have hu2 := Nt.zwh (a := W.f) (b := W.b - 1) xq
 have hu3 := Nt.p2i_24 (n := W.b - 1) xq
 refine zzm (args := [.agg #[.int .i64 2, .int .i64 g, .int .i64 h], .agg #[.int .i64 W.b, .int .i64 W.f, .int .i64 W.r, .int .i64 W.o]]) Tryz.func178 rfl Tryz.ntmps178 (rs := [.cell 4 81]) Tryz.results178 (le_b rfl) (le_b rfl) d ?_
 refine sq9 (zzk 2 ⟨168, [.int .i64 2, .int .i64 g, .int .i64 h]⟩ (zzk 3 ⟨66, W.cs⟩ (zzk 4 ⟨81, [.slice none 0 0, .slice none 0 0]⟩ (zzb (sq9 (zzg 10 109 _ fun _ _ _ aX => Post.mono (k_ratOf aX (z := 1) xq xq) ?_))))))
 rintro _ u14 g15 ⟨aa, rfl, au⟩
 refine zzk 5 ⟨32, zw3⟩ (zzj ⟨32, aa.cs⟩ ty32 ?_)
 refine zzb (sq9 (zzi 11 (.v (W.v)) ty66 zze (zza 12 (.adr 2 1) (zza 13 (.adr 2 1) (zzi 14 (zI g) ty3 zzl (zzg 15 118 _ fun _ _ av aN => Post.mono (k_fxValue (W := W) (z := g) aN hW xq xq) ?_))))))
 rintro _ u20 ar ⟨aB, rfl, aL⟩
 refine zzk 6 ⟨32, zw3⟩ (zzj ⟨32, aB.cs⟩ ty32 ?_)
 refine zzb (sq9 (zzi 16 (.v (aB.v)) ty32 zze (zzg 17 79 _ fun _ _ al aW => Post.mono (k_ratNeg aW (aL.ext al).raw xq) ?_)))
 rintro _ u26 aq ⟨ac, rfl, aD⟩
 refine zzk 7 ⟨32, zw3⟩ (zzj ⟨32, ac.cs⟩ ty32 ?_)
 refine zzb (zzd (sq9 (zza 18 (.adr 2 0) (zzi 19 (zI 2) ty3 zzl (zza 20 (zB false) (zzb (zys xj (zzs (zzp ?_)))))))))
 refine sq9 (zzi 30 (.v (W.v)) ty66 zze (zza 31 (.adr 2 1) (zza 32 (.adr 2 2) (zzi 33 (zI h) ty3 zzl (zzg 34 118 _ fun _ _ ai a1 => Post.mono (k_fxValue (W := W) (z := h) a1 hW xq xq) ?_)))))
 rintro _ u32 ah ⟨aG, rfl, aZ⟩
 refine zzk 8 ⟨32, zw3⟩ (zzj ⟨32, aG.cs⟩ ty32 ?_)
 refine zzb (zzd (zzz [0, 0, 0, 6, 15, 0, 63] [(0, []), (1, []), (2, []), (5, []), (3, []), (4, []), (6, [])] xj xj (zzi 35 (.v (aG.v)) ty32 zze (zzi 36 (.v (aB.v)) ty32 zze (zzi 37 (.v (aa.v)) ty32 zze (zzk 9 ⟨32, zw3⟩ (zzg 38 139 _ fun _ _ af aV => Post.mono (k_ratSub aV (aL.ext (al.t (aq.t (ai.t (ah.t af))))).raw (au.ext (av.t (ar.t (al.t (aq.t (ai.t (ah.t af))))))).raw xq xq) ?_)))))))
 rintro _ u38 ak ⟨r36, rfl, aR⟩
 refine zzg 39 113 _ fun _ _ aj aT => Post.mono (k_ratMul aT (aZ.ext (af.t (ak.t aj))).raw (aR.ext aj).raw xq xq) ?_
 rintro _ u44 am ⟨ab, rfl, aH⟩
 refine zzj ⟨32, ab.cs⟩ ty32 ?_
 refine zzc 51 [(4, .adr 4 0), (5, .adr 5 0), (7, .adr 7 0), (9, .adr 9 0)] [(4, ⟨81, [.slice none 0 0, .slice none 0 0]⟩), (5, ⟨32, aa.cs⟩), (7, ⟨32, ac.cs⟩), (9, ⟨32, ab.cs⟩)] (zzd (zzz [0, 0, 0, 7, 15, 0, 0, 0, 224, 511, 1023, 2047] [(0, []), (1, []), (2, []), (3, []), (5, []), (6, []), (7, []), (8, []), (4, [43]), (9, [48]), (10, []), (11, [])] xj xj (zzi 40 (.v (ac.v)) ty32 zze (zzi 41 (.v (ab.v)) ty32 zze (zzi 42 (.v (aa.v)) ty32 zze (sy_lit 43 ⟨32, ac.cs ++ ab.cs ++ aa.cs⟩ 3 ?_))))))
 refine zzi 45 (.v (aa.v)) ty32 zze (zzi 46 (.v (ab.v)) ty32 zze (zzi 47 (.v (ac.v)) ty32 zze (sy_lit 48 ⟨32, aa.cs ++ ab.cs ++ ac.cs⟩ 3 ?_)))
 refine zyo 44 117 [.slc 43 0 3 3] [43] (.inr rfl) (pub_mk xk) (k := ?_)
 intro aA w47 aK ag a0 aS
 have aM : aK.heap[aA 43]? = some (.cells #[.bool ac.s, .slice ac.m.a ac.m.n ac.m.c, .slice ac.d.a ac.d.n ac.d.c, .bool ab.s, .slice ab.m.a ab.m.n ab.m.c, .slice ab.d.a ab.d.n ab.d.c, .bool aa.s, .slice aa.m.a aa.m.n aa.m.c, .slice aa.d.a aa.d.n aa.d.c] 32 (0, 0)) := aS 43 zj _ rfl
 obtain ⟨aY, ad⟩ : ∃ b, aA 43 = b := ⟨_, rfl⟩
 rw [ad] at aM
 have ay : PolN aK (⟨some ⟨aY, 0, none⟩, 3, 3⟩ : Sl) [(-(((g : Int) : Rat) / ((Nt.p2i W.f : Int) : Rat))), ((((h : Int) : Rat) / ((Nt.p2i W.f : Int) : Rat)) * ((((g : Int) : Rat) / ((Nt.p2i W.f : Int) : Rat)) - ((1 : Int) : Rat))), ((1 : Int) : Rat)] (max (max 2 (2 + (2 + 2 + 1))) 2) := pol_lit (L := [ac, ab, aa]) aM (rats3 (RatN.more (L := (max (max 2 (2 + (2 + 2 + 1))) 2)) (aD.ext (ai.t (ah.t (af.t (ak.t (aj.t (am.t ag))))))) xq) (RatN.more (L := (max (max 2 (2 + (2 + 2 + 1))) 2)) (aH.ext ag) xq) (RatN.more (L := (max (max 2 (2 + (2 + 2 + 1))) 2)) (au.ext (av.t (ar.t (al.t (aq.t (ai.t (ah.t (af.t (ak.t (aj.t (am.t ag))))))))))) xq)) rfl yj
 show Calls _ _ #[.slice (some ⟨aA 43, 0, none⟩) 3 3] _ _
 rw [ad]
 have k55 := k_poTrim a0 ay.raw xq (by first | omega | (simp; done) | (simp; omega))
 with_reducible refine zPm k55 ?_
 rintro _ u53 az ⟨ap, rfl, aF⟩
 have hly51 := aF.len
 refine zyo 49 117 [.slc 48 0 3 3] [48] (.inr rfl) (pub_mk xk) (k := ?_)
 intro aw w56 aI an aP aO
 have aJ : aI.heap[aw 48]? = some (.cells #[.bool aa.s, .slice aa.m.a aa.m.n aa.m.c, .slice aa.d.a aa.d.n aa.d.c, .bool ab.s, .slice ab.m.a ab.m.n ab.m.c, .slice ab.d.a ab.d.n ab.d.c, .bool ac.s, .slice ac.m.a ac.m.n ac.m.c, .slice ac.d.a ac.d.n ac.d.c] 32 (0, 0)) := aO 48 zj _ rfl
 obtain ⟨aQ, ae⟩ : ∃ b, aw 48 = b := ⟨_, rfl⟩
 rw [ae] at aJ
 have ax : PolN aI (⟨some ⟨aQ, 0, none⟩, 3, 3⟩ : Sl) [((1 : Int) : Rat), ((((h : Int) : Rat) / ((Nt.p2i W.f : Int) : Rat)) * ((((g : Int) : Rat) / ((Nt.p2i W.f : Int) : Rat)) - ((1 : Int) : Rat))), (-(((g : Int) : Rat) / ((Nt.p2i W.f : Int) : Rat)))] (max (max 2 (2 + (2 + 2 + 1))) 2) := pol_lit (L := [aa, ab, ac]) aJ (rats3 (RatN.more (L := (max (max 2 (2 + (2 + 2 + 1))) 2)) (au.ext (av.t (ar.t (al.t (aq.t (ai.t (ah.t (af.t (ak.t (aj.t (am.t (ag.t (az.t an))))))))))))) xq) (RatN.more (L := (max (max 2 (2 + (2 + 2 + 1))) 2)) (aH.ext (ag.t (az.t an))) xq) (RatN.more (L := (max (max 2 (2 + (2 + 2 + 1))) 2)) (aD.ext (ai.t (ah.t (af.t (ak.t (aj.t (am.t (ag.t (az.t an))))))))) xq)) rfl yj
 show Calls _ _ #[.slice (some ⟨aw 48, 0, none⟩) 3 3] _ _
 rw [ae]
 have k64 := k_poTrim aP ax.raw xq (by first | omega | (simp; done) | (simp; omega))
 with_reducible refine zPm k64 ?_
 rintro _ u62 aU ⟨ao, rfl, aC⟩
 have hly60 := aC.len
 refine zza 50 (.v (.agg #[ap.v, ao.v])) (zzj ⟨81, [ap.v, ao.v]⟩ ty81 ?_)
 refine zzb (zzo (ret0 [.agg #[ap.v, ao.v]] ⟨zzr ty81 zze, trivial⟩ fun u65 aE => ?_))
 exact ⟨ap, ao, rfl, PolN.more (K := (max (max 2 (2 + (2 + 2 + 1))) 2)) (aF.ext (an.t (aU.t aE))) xq, PolN.more (K := (max (max 2 (2 + (2 + 2 + 1))) 2)) (aC.ext aE) xq⟩
theorem k_section {u w : World} {W : WL} {p : PL} (d : Dat u w) (hW : WdOK W) (hp : PasOK W.f p) : Calls Tryz.prog 178 #[p.v, W.v] w (Post u w fun v u' => ∃ y z : Sl, v = .agg #[y.v, z.v] ∧ PolN u' y (Nt.trimQ (Nt.secB W.f p)) 10 ∧ PolN u' z (Nt.trimQ (Nt.secA W.f p)) 10) := by
 rcases pas_split hp with ⟨g, rfl, h1, h2⟩ | ⟨g, h, rfl, h1, h2, h3, h4⟩
 ·exact k_section1 h1 h2 d hW
 exact k_section2 h1 h2 h3 h4 d hW
theorem k_branch0 {u w : World} {x y : Sl} (d : Dat u w) : Calls Tryz.prog 126 #[.agg #[x.v, y.v], .int .i64 0] w (Post u w fun v _ => v = x.v) := by
 refine zzm (args := [.agg #[x.v, y.v], .int .i64 0]) Tryz.func126 rfl Tryz.ntmps126 (rs := [.tmp 4]) Tryz.results126 (le_b rfl) (le_b rfl) d ?_
 refine sq9 (zzk 2 ⟨93, [x.v, y.v]⟩ (zza 4 (.v (.slice none 0 0)) (zzb (zzd (sq9 (zza 5 (zI 0) (zza 6 (zB true) (zzb (zyr xj (sq9 (zza 7 (.adr 2 0) ?_)))))))))))
 refine zzi 8 (.v (x.v)) ty91 zzl (zza 4 (.v (x.v)) (zzb (zzo (zzw (ret0 [x.v] ⟨zzq, trivial⟩ fun u11 e12 => ?_)))))
 rfl
theorem k_branch1 {u w : World} {x y : Sl} (d : Dat u w) : Calls Tryz.prog 126 #[.agg #[x.v, y.v], .int .i64 1] w (Post u w fun v _ => v = y.v) := by
 refine zzm (args := [.agg #[x.v, y.v], .int .i64 1]) Tryz.func126 rfl Tryz.ntmps126 (rs := [.tmp 4]) Tryz.results126 (le_b rfl) (le_b rfl) d ?_
 refine sq9 (zzk 2 ⟨93, [x.v, y.v]⟩ (zza 4 (.v (.slice none 0 0)) (zzb (zzd (sq9 (zza 5 (zI 1) (zza 6 (zB false) (zzb (zys xj (zzs (zzp ?_)))))))))))
 refine sq9 (zza 9 (.adr 2 1) (zzi 10 (.v (y.v)) ty91 zzl (zza 4 (.v (y.v)) (zzb (zzo (ret0 [y.v] ⟨zzq, trivial⟩ fun u11 e12 => ?_))))))
 rfl
set_option maxHeartbeats 2000000 in
theorem k_wvValid {u w : World} {W : WL} {x y : Sl} {L M : List PL} (d : Dat u w) (hx : PasV u x L) (hpx : ∀ p ∈ L, PasOK W.f p) (hnx : L.length ≤ 4) (hy : PasV u y M) (hpy : ∀ p ∈ M, PasOK W.f p) (hny : M.length ≤ 4) (hW : WdOK W) (hf : 1 ≤ W.f) : Calls Tryz.prog 125 #[.agg #[x.v, y.v], W.v] w (Post u w fun v _ => v = .bool true) := by
 obtain ⟨hw1, hw2, hw3, hw4, hw5, hw6, hw7, hw8⟩ := id hW
 have hlx := hx.len
 have hly := hy.len
 refine zzm (args := [.agg #[x.v, y.v], .agg #[.int .i64 W.b, .int .i64 W.f, .int .i64 W.r, .int .i64 W.o]]) Tryz.func125 rfl Tryz.ntmps125 (rs := [.tmp 4]) Tryz.results125 (le_b rfl) (le_b rfl) d ?_
 refine sq9 (zzk 2 ⟨93, [x.v, y.v]⟩ (zzk 3 ⟨66, W.cs⟩ (zza 4 (zB false) (zzb (zzd (sq9 (zzi 9 (.v (W.v)) ty66 zze (zzg 10 175 _ fun _ _ ac aH => Post.mono (k_suitable (W := W) aH hW hf) ?_))))))))
 rintro _ u12 af rfl
 refine zza 11 (zB false) (zzb (zys xj (zzs (zzp ?_))))
 refine zzd (sq9 (zza 12 (zI 0) (zzb (zzt (sw_rounds 2 ?_)))))
 refine sq9 (zza 13 (zB true) (zzb (zzd (zyr xj (zzs (zzp ?_))))))
 refine zzd (zzt (sq9 (zza 14 (zI 0) (zza 5 (zI 0) (zzb (sq9 (zzi 15 (.v (.agg #[x.v, y.v])) ty93 zze (zza 16 (zI 0) (zzg 17 126 _ fun _ _ ae aD => Post.mono (k_branch0 (x := x) (y := y) aD) ?_)))))))))
 rintro _ aB ag rfl
 refine zza 6 (.v (x.v)) (zzb (zzd (sq9 (zza 18 (.v (x.v)) (zza 19 (zI x.n) (zza 20 (zB (decide ((4 : Int) < (x.n : Int)))) (zzb (zzu (b := decide ((4 : Int) < (x.n : Int))) xj (fun hb => ?_) (fun hb => ?_)))))))))
 ·exact absurd hb (by rw [show (decide ((4 : Int) < (x.n : Int))) = false from decide_eq_false xq]; decide)
 clear hb
 refine zzs (zzp ?_)
 refine sq9 (zza 21 (.v (x.v)) (zza 22 (zI x.n) (zza 23 (zI 0) (zzb (zzt ?_)))))
 have hlxL := ((hx.ext (ac.t (af.t (ae.t ag.ext))))).len
 refine zyn (I := fun ax S' u' => ∃ (i : Nat), (ax = L.length - i) ∧ (i ≤ L.length) ∧ (S' = St.of 33 [(2, .adr 2 0), (3, .adr 3 0), (12, zI 0), (21, .v (x.v)), (22, zI x.n), (23, zI i)] [(2, ⟨93, [x.v, y.v]⟩), (3, ⟨66, [.int .i64 W.b, .int .i64 W.f, .int .i64 W.r, .int .i64 W.o]⟩)]) ∧ (Ext aB u')) (fun m S u1 u2 e h => by obtain ⟨i, hm, p0, hS, hE⟩ := h; exact ⟨i, hm, p0, hS, hE.trans e⟩) _ yz ⟨0, rfl, Nat.zero_le _, rfl, (Ext.refl _)⟩ ?_
 rintro ax _ u19 ⟨i, aE, hi, rfl, ad⟩
 refine sq9 (zza 24 (zB (decide ((i : Int) < (x.n : Int)))) (zzb (zzd (zzu (b := decide ((i : Int) < (x.n : Int))) xj (fun ab => ?_) (fun ab => ?_)))))
 ·have qhb20 := of_decide_eq_true ab
  refine zzs (zzp ?_)
  refine zzd (zzt (sq9 ?_))
  have hl21 := ((hx.ext (ac.t (af.t (ae.t (ag.t ad)))))).len
  obtain ⟨p21, b21, aw, al, ap, an⟩ := pas_at ((hx.ext (ac.t (af.t (ae.t (ag.t ad)))))) (i := i) xq
  refine zya 25 (aw + i * 3) (n := x.n) (off := aw) (sz := 3) (i := (i : Int)) xq al xq xq sl91 (zym 26 p21.cs ap ty168 (zzk 8 ⟨168, [.int .i64 0, .int .i64 0, .int .i64 0]⟩ (zzj ⟨168, [.int .i64 p21.o, .int .i64 p21.g, .int .i64 p21.h]⟩ ty168 ?_)))
  refine zzb (zzd ?_)
  have ah : PasOK W.f p21 := by rw [an]; exact hpx _ (by rw [List.getD_eq_getElem?_getD, List.getElem?_eq_getElem xq]; exact List.getElem_mem _)
  refine zzf (zzi 27 (.v (.agg #[.int .i64 p21.o, .int .i64 p21.g, .int .i64 p21.h])) ty168 zze (zzi 28 (.v (W.v)) ty66 zze (zzg 29 176 _ fun _ _ aI ay => Post.mono (k_permitted (p := p21) (W := W) ay hW ah) ?_)))
  rintro _ u23 aC rfl
  refine zza 30 (zB false) (zzb (zys xj (zzs (zzp ?_))))
  refine zzf (zyq 31 (x := zI (IntKind.i64.wrap ((i : Int) + 1))) (zI (i + 1 : Nat)) (eqI yq) (zza 23 (zI (i + 1 : Nat)) (zzx ?_)))
  refine ⟨_, ?_, _, by exact zzv _ _ _, i + 1, rfl, by omega, rfl, (ad.t (aI.t aC.ext))⟩
  omega
 have qhb20 := of_decide_eq_false ab
 refine zyc (zzp (zzf (zza 32 (zI 1) (zza 12 (zI 1) (zzx ?_)))))
 refine rn_next ?_
 refine sw_weak (T := St.of 33 [(2, .adr 2 0), (3, .adr 3 0), (12, zI 1)] [(2, ⟨93, [x.v, y.v]⟩), (3, ⟨66, [.int .i64 W.b, .int .i64 W.f, .int .i64 W.r, .int .i64 W.o]⟩)]) yz ?_
 refine sq9 (zza 13 (zB true) (zzb (zzd (zyr xj (zzs (zzp ?_))))))
 refine zzd (zzt (sq9 (zza 14 (zI 1) (zza 5 (zI 1) (zzb (sq9 (zzi 15 (.v (.agg #[x.v, y.v])) ty93 zze (zza 16 (zI 1) (zzg 17 126 _ fun _ _ aj aJ => Post.mono (k_branch1 (x := x) (y := y) aJ) ?_)))))))))
 rintro _ az am rfl
 refine zza 6 (.v (y.v)) (zzb (zzd (sq9 (zza 18 (.v (y.v)) (zza 19 (zI y.n) (zza 20 (zB (decide ((4 : Int) < (y.n : Int)))) (zzc 33 [(2, .adr 2 0), (3, .adr 3 0), (6, .v (y.v)), (12, zI 1), (20, zB (decide ((4 : Int) < (y.n : Int))))] [(2, ⟨93, [x.v, y.v]⟩), (3, ⟨66, W.cs⟩)] (zzu (b := decide ((4 : Int) < (y.n : Int))) xj (fun hb => ?_) (fun hb => ?_)))))))))
 ·exact absurd hb (by rw [show (decide ((4 : Int) < (y.n : Int))) = false from decide_eq_false xq]; decide)
 clear hb
 refine zzs (zzp ?_)
 refine sq9 (zza 21 (.v (y.v)) (zza 22 (zI y.n) (zza 23 (zI 0) (zzb (zzt ?_)))))
 have hlxM := ((hy.ext (ac.t (af.t (ae.t (ag.t (ad.t (aj.t am.ext)))))))).len
 refine zyn (I := fun av S' u' => ∃ (i : Nat), (av = M.length - i) ∧ (i ≤ M.length) ∧ (S' = St.of 33 [(2, .adr 2 0), (3, .adr 3 0), (12, zI 1), (21, .v (y.v)), (22, zI y.n), (23, zI i)] [(2, ⟨93, [x.v, y.v]⟩), (3, ⟨66, [.int .i64 W.b, .int .i64 W.f, .int .i64 W.r, .int .i64 W.o]⟩)]) ∧ (Ext az u')) (fun m S u1 u2 e h => by obtain ⟨i, hm, p0, hS, hE⟩ := h; exact ⟨i, hm, p0, hS, hE.trans e⟩) _ yz ⟨0, rfl, Nat.zero_le _, rfl, (Ext.refl _)⟩ ?_
 rintro av _ u30 ⟨i, aK, hi, rfl, ao⟩
 refine sq9 (zza 24 (zB (decide ((i : Int) < (y.n : Int)))) (zzb (zzd (zzu (b := decide ((i : Int) < (y.n : Int))) xj (fun aa => ?_) (fun aa => ?_)))))
 ·have qhb31 := of_decide_eq_true aa
  refine zzs (zzp ?_)
  refine zzd (zzt (sq9 ?_))
  have hl32 := ((hy.ext (ac.t (af.t (ae.t (ag.t (ad.t (aj.t (am.t ao))))))))).len
  obtain ⟨p32, b32, au, ar, aq, ak⟩ := pas_at ((hy.ext (ac.t (af.t (ae.t (ag.t (ad.t (aj.t (am.t ao))))))))) (i := i) xq
  refine zya 25 (au + i * 3) (n := y.n) (off := au) (sz := 3) (i := (i : Int)) xq ar xq xq sl91 (zym 26 p32.cs aq ty168 (zzk 8 ⟨168, [.int .i64 0, .int .i64 0, .int .i64 0]⟩ (zzj ⟨168, [.int .i64 p32.o, .int .i64 p32.g, .int .i64 p32.h]⟩ ty168 ?_)))
  refine zzb (zzd ?_)
  have ai : PasOK W.f p32 := by rw [ak]; exact hpy _ (by rw [List.getD_eq_getElem?_getD, List.getElem?_eq_getElem xq]; exact List.getElem_mem _)
  refine zzf (zzi 27 (.v (.agg #[.int .i64 p32.o, .int .i64 p32.g, .int .i64 p32.h])) ty168 zze (zzi 28 (.v (W.v)) ty66 zze (zzg 29 176 _ fun _ _ aA aF => Post.mono (k_permitted (p := p32) (W := W) aF hW ai) ?_)))
  rintro _ u34 aG rfl
  refine zza 30 (zB false) (zzb (zys xj (zzs (zzp ?_))))
  refine zzf (zyq 31 (x := zI (IntKind.i64.wrap ((i : Int) + 1))) (zI (i + 1 : Nat)) (eqI yq) (zza 23 (zI (i + 1 : Nat)) (zzx ?_)))
  refine ⟨_, ?_, _, by exact zzv _ _ _, i + 1, rfl, by omega, rfl, (ao.t (aA.t aG.ext))⟩
  omega
 have qhb31 := of_decide_eq_false aa
 refine zyc (zzp (zzf (zza 32 (zI 2) (zza 12 (zI 2) (zzx ?_)))))
 refine rn_next ?_
 refine sw_weak (T := St.of 33 [(2, .adr 2 0), (3, .adr 3 0), (12, zI 2)] [(2, ⟨93, [x.v, y.v]⟩), (3, ⟨66, [.int .i64 W.b, .int .i64 W.f, .int .i64 W.r, .int .i64 W.o]⟩)]) yz ?_
 refine sq9 (zza 13 (zB false) (zzb (zzd (zys xj (zyc (zzp (sq9 (zza 4 (zB true) (zzb (zzo (ret0 [.bool true] ⟨zzq, trivial⟩ fun u37 e38 => ?_)))))))))))
 rfl
theorem Nt.wD_208 {f : Int} (hf : f ≤ 24) {n : Nat} (hn : n ≤ 4) : Nt.wD f ^ n ≤ 2 ^ 208 := Nt.wD_pow hf hn
theorem Nt.pw26 {a b k A : Nat} (h : a ≤ 2 ^ k) (h2 : b ≤ 2 ^ k) (hA : k + k ≤ A) : a * b ≤ 2 ^ A :=
 Nat.le_trans (Nat.mul_le_mul h h2) (by rw [← Nat.pow_add]; exact Nat.pow_le_pow_right yj hA)
theorem PolN.fit26 {u : World} {x : Sl} {l : List Rat} {K : Nat} {f : Int} {n m A : Nat} (h : PolN u x l K) (s : Nt.Sm l (Nt.wD f ^ n * Nt.wD f ^ m) A) (hh : f ≤ 24 ∧ n ≤ 4 ∧ m ≤ 4 ∧ 416 ≤ A) : PolN u x l (Nt.dg A) :=
 PolN.fitS h s (Nt.pw26 (Nt.wD_208 hh.1 hh.2.1) (Nt.wD_208 hh.1 hh.2.2.1) xq)
theorem Nt.prodS {f : Int} {L : List PL} (hf : f ≤ 24) (hL : ∀ p ∈ L, PasOK f p) {n : Nat} (hn : n ≤ L.length) (h4 : L.length ≤ 4) : Nt.Sm (Nt.prodB f L n) (Nt.wD f ^ n) 208 ∧ Nt.Sm (Nt.prodA f L n) (Nt.wD f ^ n) 208 :=
 ⟨(Nt.prod_sm hf hL n hn).1.more xq, (Nt.prod_sm hf hL n hn).2.more xq⟩
theorem prod_stB {u : World} {x : Sl} {K : Nat} {f : Int} {L : List PL} {i : Nat} {p : PL} (h : PolN u x (Nt.trimQ (Nt.mulQ (Nt.prodB f L i) (Nt.trimQ (Nt.secB f p)))) K) (hp : p = L.getD i pl0) (hf : f ≤ 24) (hL : ∀ p ∈ L, PasOK f p) (h4 : L.length ≤ 4) (hi : i < L.length) : PolN u x (Nt.prodB f L (i + 1)) 8 := by
 subst hp
 exact (PolN.fitS (show PolN u x (Nt.prodB f L (i + 1)) K from h) (Nt.prodS hf hL hi h4).1 (Nt.wD_208 hf xq)).more yj
theorem prod_stA {u : World} {x : Sl} {K : Nat} {f : Int} {L : List PL} {i : Nat} {p : PL} (h : PolN u x (Nt.trimQ (Nt.mulQ (Nt.prodA f L i) (Nt.trimQ (Nt.secA f p)))) K) (hp : p = L.getD i pl0) (hf : f ≤ 24) (hL : ∀ p ∈ L, PasOK f p) (h4 : L.length ≤ 4) (hi : i < L.length) : PolN u x (Nt.prodA f L (i + 1)) 8 := by
 subst hp
 exact (PolN.fitS (show PolN u x (Nt.prodA f L (i + 1)) K from h) (Nt.prodS hf hL hi h4).2 (Nt.wD_208 hf xq)).more yj
set_option maxHeartbeats 2000000 in
theorem k_product {u w : World} {W : WL} {x : Sl} {L : List PL} (d : Dat u w) (hx : PasV u x L) (hpx : ∀ p ∈ L, PasOK W.f p) (hnx : L.length ≤ 4) (hW : WdOK W) : Calls Tryz.prog 129 #[x.v, W.v] w (Post u w fun v u' => ∃ y z : Sl, v = .agg #[y.v, z.v] ∧ PolN u' y (Nt.prodB W.f L L.length) 8 ∧ PolN u' z (Nt.prodA W.f L L.length) 8) := by
 obtain ⟨hw1, hw2, hw3, hw4, hw5, hw6, hw7, hw8⟩ := id hW
 have hlx := hx.len
 refine zzm (args := [x.v, .agg #[.int .i64 W.b, .int .i64 W.f, .int .i64 W.r, .int .i64 W.o]]) Tryz.func129 rfl Tryz.ntmps129 (rs := [.cell 4 81]) Tryz.results129 (le_b rfl) (le_b rfl) d ?_
 refine sq9 (zzk 3 ⟨66, W.cs⟩ (zzk 4 ⟨81, [.slice none 0 0, .slice none 0 0]⟩ (zzb (sq9 (zzg 9 109 _ fun _ _ aE aW => Post.mono (k_ratOf aW (z := 1) xq xq) ?_)))))
 rintro _ u14 aL ⟨az, rfl, aQ⟩
 refine zxz 10 ⟨32, az.cs⟩ 1 (fun ah aX aq aU => ?_)
 have an : PolN aX (⟨some ⟨ah, 0, none⟩, 1, 1⟩ : Sl) [((1 : Int) : Rat)] 2 := pol_lit (L := [az]) aU (rats1 (aQ.ext aq)) rfl yj
 refine zzg 11 109 _ fun _ _ aw aM => Post.mono (k_ratOf aM (z := 1) xq xq) ?_
 rintro _ u25 av ⟨aF, rfl, aN⟩
 refine zxz 12 ⟨32, aF.cs⟩ 1 (fun ag aK af aT => ?_)
 have am : PolN aK (⟨some ⟨ag, 0, none⟩, 1, 1⟩ : Sl) [((1 : Int) : Rat)] 2 := pol_lit (L := [aF]) aT (rats1 (aN.ext af)) rfl yj
 refine zza 13 (.v (.agg #[.slice (some ⟨ah, 0, none⟩) 1 1, .slice (some ⟨ag, 0, none⟩) 1 1])) (zzk 5 ⟨81, [.slice none 0 0, .slice none 0 0]⟩ (zzj ⟨81, [.slice (some ⟨ah, 0, none⟩) 1 1, .slice (some ⟨ag, 0, none⟩) 1 1]⟩ ty81 ?_))
 refine zzb (zzd (sq9 (zza 14 (.v (x.v)) (zza 15 (zI x.n) (zza 16 (zI 0) (zzb (zzt (zyn (I := fun aG S' u' => ∃ (i : Nat) (y : Sl) (z : Sl), (aG = L.length - i) ∧ (i ≤ L.length) ∧ (S' = St.of 36 [(3, .adr 3 0), (4, .adr 4 0), (5, .adr 5 0), (14, .v (x.v)), (15, zI x.n), (16, zI i)] [(3, ⟨66, [.int .i64 W.b, .int .i64 W.f, .int .i64 W.r, .int .i64 W.o]⟩), (4, ⟨81, [.slice none 0 0, .slice none 0 0]⟩), (5, ⟨81, [y.v, z.v]⟩)]) ∧ (Ext aK u') ∧ (PolN u' y (Nt.prodB W.f L i) 8) ∧ (PolN u' z (Nt.prodA W.f L i) 8)) (fun m S u1 u2 e h => by obtain ⟨i, y, z, hm, p0, hS, hE, f0, f1⟩ := h; exact ⟨i, y, z, hm, p0, hS, hE.trans e, f0.ext e, f1.ext e⟩) _ yz ⟨0, (⟨some ⟨ah, 0, none⟩, 1, 1⟩ : Sl), (⟨some ⟨ag, 0, none⟩, 1, 1⟩ : Sl), rfl, Nat.zero_le _, rfl, (Ext.refl _), (PolN.more (an.ext (aw.t (av.t af))) yj), (PolN.more am yj)⟩ ?_))))))))
 rintro aG _ u33 ⟨i, y, z, aV, hi, rfl, al, hB, hA⟩
 have hlB : (Nt.prodB W.f L i).length ≤ 9 := by have h9 := (Nt.zwg W.f L i).1; omega
 have hlA : (Nt.prodA W.f L i).length ≤ 9 := by have h9 := (Nt.zwg W.f L i).2; omega
 have hyl := hB.len
 have hzl := hA.len
 refine sq9 (zza 17 (zB (decide ((i : Int) < (x.n : Int)))) (zzb (zzd (zzu (b := decide ((i : Int) < (x.n : Int))) xj (fun ab => ?_) (fun ab => ?_)))))
 ·have qhb34 := of_decide_eq_true ab
  refine zzs (zzp ?_)
  refine zzd (zzt (sq9 ?_))
  have hl35 := ((hx.ext (aE.t (aL.t (aq.t (aw.t (av.t (af.trans al)))))))).len
  obtain ⟨p35, b35, aI, ar, ap, aa⟩ := pas_at ((hx.ext (aE.t (aL.t (aq.t (aw.t (av.t (af.trans al)))))))) (i := i) xq
  refine zya 18 (aI + i * 3) (n := x.n) (off := aI) (sz := 3) (i := (i : Int)) xq ar xq xq sl91 (zym 19 p35.cs ap ty168 (zzk 7 ⟨168, [.int .i64 0, .int .i64 0, .int .i64 0]⟩ (zzj ⟨168, [.int .i64 p35.o, .int .i64 p35.g, .int .i64 p35.h]⟩ ty168 ?_)))
  refine zzb (zzd ?_)
  have ac : PasOK W.f p35 := by rw [aa]; exact hpx _ (by rw [List.getD_eq_getElem?_getD, List.getElem?_eq_getElem xq]; exact List.getElem_mem _)
  refine zzf (zzi 20 (.v (.agg #[.int .i64 p35.o, .int .i64 p35.g, .int .i64 p35.h])) ty168 zze (zzi 21 (.v (W.v)) ty66 zze (zzg 22 178 _ fun _ _ ax aR => Post.mono (k_section (p := p35) (W := W) aR hW ac) ?_)))
  rintro _ u41 ao ⟨aJ, aB, rfl, aA, aH⟩
  have hly37 := aA.len
  have hmy37 := Nat.le_trans (Nt.zzh (Nt.secB W.f p35)) (Nt.sec_len W.f p35).1
  have hly38 := aH.len
  have hmy38 := Nat.le_trans (Nt.zzh (Nt.secA W.f p35)) (Nt.sec_len W.f p35).2
  refine zzk 8 ⟨81, [.slice none 0 0, .slice none 0 0]⟩ (zzj ⟨81, [aJ.v, aB.v]⟩ ty81 ?_)
  refine zzb (zzz [0, 1, 0, 4, 15, 0, 32, 0, 128, 511, 1023, 2047] [(0, []), (1, []), (2, []), (3, []), (5, []), (6, []), (7, []), (8, []), (4, []), (9, []), (10, []), (11, [])] xj xj (zza 23 (.adr 5 0) (zzi 24 (.v (y.v)) ty27 zzl (zza 25 (.adr 8 0) (zzi 26 (.v (aJ.v)) ty27 zzl (zza 28 (.adr 5 1) (zzi 29 (.v (z.v)) ty27 zzl (zza 30 (.adr 8 1) (zzi 31 (.v (aB.v)) ty27 zzl (zzg 27 130 _ fun _ _ ad aP => Post.mono (k_poMul aP (hB.ext (ax.t (ao.t ad))).raw (aA.ext ad).raw (Nat.le_trans (Nt.mlK_mono hlB hmy37 (Nat.le_refl _) (Nat.le_refl _)) (by decide +kernel)) (by have h9 := hlB; omega) (by have h9 := hmy37; omega) (by have h9 := hlB; omega) (by have h9 := hmy37; omega)) ?_))))))))))
  rintro _ u47 au ⟨aj, rfl, h46⟩
  replace h46 := PolN.more h46 (Nat.le_trans (Nt.mlK_mono hlB hmy37 (Nat.le_refl _) (Nat.le_refl _)) (by decide +kernel : _ ≤ 3483))
  have hly45 := h46.len
  have aY : (Nt.trimQ (Nt.mulQ (Nt.prodB W.f L i) (Nt.trimQ (Nt.secB W.f p35)))).length ≤ 11 := Nt.zxv hlB hmy37
  have ay : PolN _ aj (Nt.trimQ (Nt.mulQ (Nt.prodB W.f L i) (Nt.trimQ (Nt.secB W.f p35)))) 3483 := PolN.more h46 xq
  refine zzg 32 130 _ fun _ _ ai aO => Post.mono (k_poMul aO (hA.ext (ax.t (ao.t (ad.t (au.t ai))))).raw (aH.ext (ad.t (au.t ai))).raw (Nat.le_trans (Nt.mlK_mono hlA hmy38 (Nat.le_refl _) (Nat.le_refl _)) (by decide +kernel)) (by have h9 := hlA; omega) (by have h9 := hmy38; omega) (by have h9 := hlA; omega) (by have h9 := hmy38; omega)) ?_
  rintro _ u55 aC ⟨ae, rfl, h54⟩
  replace h54 := PolN.more h54 (Nat.le_trans (Nt.mlK_mono hlA hmy38 (Nat.le_refl _) (Nat.le_refl _)) (by decide +kernel : _ ≤ 3483))
  have hly53 := h54.len
  have aZ : (Nt.trimQ (Nt.mulQ (Nt.prodA W.f L i) (Nt.trimQ (Nt.secA W.f p35)))).length ≤ 11 := Nt.zxv hlA hmy38
  have ak : PolN _ ae (Nt.trimQ (Nt.mulQ (Nt.prodA W.f L i) (Nt.trimQ (Nt.secA W.f p35)))) 3483 := PolN.more h54 xq
  refine zza 33 (.v (.agg #[aj.v, ae.v])) (zzj ⟨81, [aj.v, ae.v]⟩ ty81 ?_)
  refine zzx ?_
  refine zzp (zzf (zyq 34 (x := zI (IntKind.i64.wrap ((i : Int) + 1))) (zI (i + 1 : Nat)) (eqI yq) (zza 16 (zI (i + 1 : Nat)) (zzx ?_))))
  refine ⟨_, ?_, _, by exact zzv _ _ _, i + 1, aj, ae, rfl, by omega, rfl, (al.t (ax.t (ao.t (ad.t (au.t (ai.t aC.ext)))))), (prod_stB (ay.ext (ai.t aC.ext)) aa xq hpx hnx xq), (prod_stA ak aa xq hpx hnx xq)⟩
  omega
 have qhb34 := of_decide_eq_false ab
 refine zyc (zzp (sq9 (zzi 35 (.v (.agg #[y.v, z.v])) ty81 zze (zzj ⟨81, [y.v, z.v]⟩ ty81 ?_))))
 refine zzb (zzo (ret0 [.agg #[y.v, z.v]] ⟨zzr ty81 zze, trivial⟩ fun u60 aD => ?_))
 have aS : i = L.length := by omega
 subst aS
 exact ⟨y, z, rfl, (hB.ext aD), (hA.ext aD)⟩
set_option maxHeartbeats 2000000 in
theorem k_wIdeal {u w : World} {W : WL} {x y : Sl} {L M : List PL} (d : Dat u w) (hx : PasV u x L) (hpx : ∀ p ∈ L, PasOK W.f p) (hnx : L.length ≤ 4) (hy : PasV u y M) (hpy : ∀ p ∈ M, PasOK W.f p) (hny : M.length ≤ 4) (hW : WdOK W) (hf : 1 ≤ W.f) : Calls Tryz.prog 50 #[.agg #[x.v, y.v], W.v] w (Post u w fun v u' => ∃ y1 y2 y3 y4 : Sl, v = .tuple #[.agg #[y1.v, y2.v], .agg #[y3.v, y4.v], .int .i64 0] ∧ PolN u' y1 (Nt.trimQ ((Nt.trimQ (Nt.addQ (Nt.trimQ (Nt.mulQ (Nt.prodB W.f L L.length) (Nt.prodA W.f M M.length))) (Nt.trimQ (Nt.mulQ (Nt.prodB W.f M M.length) (Nt.prodA W.f L L.length))))).map (· * (((1 : Int) : Rat) / ((2 : Int) : Rat))))) 40 ∧ PolN u' y2 (Nt.trimQ (Nt.mulQ (Nt.prodA W.f L L.length) (Nt.prodA W.f M M.length))) 40 ∧ PolN u' y3 (Nt.trimQ ((Nt.trimQ (Nt.addQ (Nt.trimQ (Nt.mulQ (Nt.prodB W.f L L.length) (Nt.prodA W.f M M.length))) ((Nt.trimQ (Nt.mulQ (Nt.prodB W.f M M.length) (Nt.prodA W.f L L.length))).map (fun z => -z)))).map (· * (((1 : Int) : Rat) / ((2 : Int) : Rat))))) 40 ∧ PolN u' y4 (Nt.trimQ (Nt.mulQ (Nt.prodA W.f L L.length) (Nt.prodA W.f M M.length))) 40) := by
 obtain ⟨hw1, hw2, hw3, hw4, hw5, hw6, hw7, hw8⟩ := id hW
 have hlx := hx.len
 have hly := hy.len
 refine zzm (args := [.agg #[x.v, y.v], .agg #[.int .i64 W.b, .int .i64 W.f, .int .i64 W.r, .int .i64 W.o]]) Tryz.func50 rfl Tryz.ntmps50 (rs := [.cell 4 81, .cell 5 81, .tmp 6]) Tryz.results50 (le_b rfl) (le_b rfl) d ?_
 refine sq9 (zzk 2 ⟨93, [x.v, y.v]⟩ (zzk 3 ⟨66, W.cs⟩ (zzk 4 ⟨81, [.slice none 0 0, .slice none 0 0]⟩ (zzk 5 ⟨81, [.slice none 0 0, .slice none 0 0]⟩ (zza 6 (zI 0) (zzb (zzd (sq9 (zzi 14 (.v (.agg #[x.v, y.v])) ty93 zze (zzi 15 (.v (W.v)) ty66 zze (zzg 16 125 _ fun _ _ a0 bs => Post.mono (k_wvValid (W := W) bs (hx.ext a0) hpx hnx (hy.ext a0) hpy hny hW hf) ?_)))))))))))
 rintro _ u12 bl rfl
 refine zza 17 (zB false) (zzb (zys xj (zzs (zzp ?_))))
 refine sq9 (zzk 7 ⟨173, [.slice none 0 0, .slice none 0 0, .slice none 0 0, .slice none 0 0]⟩ (zzb (zzd (sq9 (zza 20 (zI 0) (zzb (zzt (sw_rounds 2 ?_))))))))
 refine sq9 (zza 21 (zB true) (zzb (zzd (zyr xj (zzs (zzp ?_))))))
 refine zzd (zzt (sq9 (zza 22 (zI 0) (zza 8 (zI 0) (zzb (zzz [0, 0, 0, 6, 0, 30, 63, 127] [(0, []), (1, []), (2, []), (4, []), (3, []), (5, []), (6, []), (7, [])] xj xj (zza 23 (zI 0) (zzi 24 (.v (.agg #[x.v, y.v])) ty93 zze (zza 25 (zI 0) (zzi 27 (.v (W.v)) ty66 zze (zzg 26 126 _ fun _ _ bn bI => Post.mono (k_branch0 (x := x) (y := y) bI) ?_)))))))))))
 rintro _ u16 bm rfl
 refine zzg 28 129 _ fun _ _ bi bA => Post.mono (k_product (W := W) bA (hx.ext (a0.t (bl.t (bn.t (bm.t bi))))) hpx hnx hW) ?_
 rintro _ u24 bK ⟨aF, au, rfl, bp, aX⟩
 have hly20 := bp.len
 have ak : (Nt.prodB W.f L L.length).length ≤ 9 := by have h9 := (Nt.zwg W.f L L.length).1; omega
 have hs28 := (Nt.prodS (f := W.f) xq hpx (Nat.le_refl _) hnx).1
 have hly21 := aX.len
 have aa : (Nt.prodA W.f L L.length).length ≤ 9 := by have h9 := (Nt.zwg W.f L L.length).2; omega
 have hs30 := (Nt.prodS (f := W.f) xq hpx (Nat.le_refl _) hnx).2
 refine zza 29 (.adr 7 0) (zzj ⟨173, [aF.v, au.v, .slice none 0 0, .slice none 0 0]⟩ ty81 ?_)
 refine zzx ?_
 refine zzp (zzf (zza 30 (zI 1) (zza 20 (zI 1) (zzx ?_))))
 refine rn_next ?_
 refine sw_weak (T := St.of 74 [(2, .adr 2 0), (3, .adr 3 0), (4, .adr 4 0), (5, .adr 5 0), (7, .adr 7 0), (20, zI 1)] [(2, ⟨93, [x.v, y.v]⟩), (3, ⟨66, [.int .i64 W.b, .int .i64 W.f, .int .i64 W.r, .int .i64 W.o]⟩), (4, ⟨81, [.slice none 0 0, .slice none 0 0]⟩), (5, ⟨81, [.slice none 0 0, .slice none 0 0]⟩), (7, ⟨173, [aF.v, au.v, .slice none 0 0, .slice none 0 0]⟩)]) yz ?_
 refine sq9 (zza 21 (zB true) (zzb (zzd (zyr xj (zzs (zzp ?_))))))
 refine zzd (zzt (sq9 (zza 22 (zI 1) (zza 8 (zI 1) (zzb (zzz [0, 0, 0, 6, 0, 30, 63, 127] [(0, []), (1, []), (2, []), (4, []), (3, []), (5, []), (6, []), (7, [])] xj xj (zza 23 (zI 1) (zzi 24 (.v (.agg #[x.v, y.v])) ty93 zze (zza 25 (zI 1) (zzi 27 (.v (W.v)) ty66 zze (zzg 26 126 _ fun _ _ aT bt => Post.mono (k_branch1 (x := x) (y := y) bt) ?_)))))))))))
 rintro _ u32 aR rfl
 refine zzg 28 129 _ fun _ _ aW br => Post.mono (k_product (W := W) br (hy.ext (a0.t (bl.t (bn.t (bm.t (bi.t (bK.t (aT.t (aR.t aW))))))))) hpy hny hW) ?_
 rintro _ u40 aZ ⟨a1, aI, rfl, bg, aY⟩
 have hly36 := bg.len
 have al : (Nt.prodB W.f M M.length).length ≤ 9 := by have h9 := (Nt.zwg W.f M M.length).1; omega
 have hs44 := (Nt.prodS (f := W.f) xq hpy (Nat.le_refl _) hny).1
 have hly37 := aY.len
 have ab : (Nt.prodA W.f M M.length).length ≤ 9 := by have h9 := (Nt.zwg W.f M M.length).2; omega
 have hs46 := (Nt.prodS (f := W.f) xq hpy (Nat.le_refl _) hny).2
 refine zza 29 (.adr 7 2) (zzj ⟨173, [aF.v, au.v, a1.v, aI.v]⟩ ty81 ?_)
 refine zzx ?_
 refine zzp (zzf (zza 30 (zI 2) (zza 20 (zI 2) (zzx ?_))))
 refine rn_next ?_
 refine sw_weak (T := St.of 74 [(2, .adr 2 0), (3, .adr 3 0), (4, .adr 4 0), (5, .adr 5 0), (7, .adr 7 0), (20, zI 2)] [(2, ⟨93, [x.v, y.v]⟩), (3, ⟨66, [.int .i64 W.b, .int .i64 W.f, .int .i64 W.r, .int .i64 W.o]⟩), (4, ⟨81, [.slice none 0 0, .slice none 0 0]⟩), (5, ⟨81, [.slice none 0 0, .slice none 0 0]⟩), (7, ⟨173, [aF.v, au.v, a1.v, aI.v]⟩)]) yz ?_
 refine sq9 (zza 21 (zB false) (zzb (zzd (zys xj (zyc (zzp (sq9 (zza 31 (.adr 7 0) (zza 32 (.adr 7 0) (zzi 33 (.v (aF.v)) ty27 zzl (zza 34 (.adr 7 2) ?_)))))))))))
 refine zza 35 (.adr 7 3) (zzi 36 (.v (aI.v)) ty27 zzl (zzg 37 130 _ fun _ _ aw bG => Post.mono (k_poMul bG (bp.ext (aT.t (aR.t (aW.t (aZ.t aw))))).raw (aY.ext aw).raw (Nat.le_trans (Nt.mlK_mono ak ab (Nat.le_refl _) (Nat.le_refl _)) (by decide +kernel)) (by have h9 := ak; omega) (by have h9 := ab; omega) (by have h9 := ak; omega) (by have h9 := ab; omega)) ?_))
 rintro _ u50 aG ⟨aV, rfl, bf⟩
 have hly48 := bf.len
 have am : (Nt.trimQ (Nt.mulQ (Nt.prodB W.f L L.length) (Nt.prodA W.f M M.length))).length ≤ 17 := Nt.zxv ak ab
 have a6 : Nt.Sm (Nt.trimQ (Nt.mulQ (Nt.prodB W.f L L.length) (Nt.prodA W.f M M.length))) (Nt.wD W.f ^ L.length * Nt.wD W.f ^ M.length) 425 := ((Nt.Sm.mulR hs28 hs46).trim.more xq)
 have aS : PolN _ aV (Nt.trimQ (Nt.mulQ (Nt.prodB W.f L L.length) (Nt.prodA W.f M M.length))) 14 := PolN.fit26 bf a6 (by exact ⟨by omega, by omega, by omega, by decide⟩)
 refine zza 9 (.v (aV.v)) (zzb (sq9 (zza 38 (.adr 7 2) (zza 39 (.adr 7 2) (zzi 40 (.v (a1.v)) ty27 zzl (zza 41 (.adr 7 0) (zza 42 (.adr 7 1) (zzi 43 (.v (au.v)) ty27 zzl (zzg 44 130 _ fun _ _ aq bq => Post.mono (k_poMul bq (bg.ext (aw.t (aG.t aq))).raw (aX.ext (aT.t (aR.t (aW.t (aZ.t (aw.t (aG.t aq))))))).raw (Nat.le_trans (Nt.mlK_mono al aa (Nat.le_refl _) (Nat.le_refl _)) (by decide +kernel)) (by have h9 := al; omega) (by have h9 := aa; omega) (by have h9 := al; omega) (by have h9 := aa; omega)) ?_)))))))))
 rintro _ u59 aE ⟨aQ, rfl, be⟩
 have hly57 := be.len
 have aj : (Nt.trimQ (Nt.mulQ (Nt.prodB W.f M M.length) (Nt.prodA W.f L L.length))).length ≤ 17 := Nt.zxv al aa
 have a5 : Nt.Sm (Nt.trimQ (Nt.mulQ (Nt.prodB W.f M M.length) (Nt.prodA W.f L L.length))) (Nt.wD W.f ^ M.length * Nt.wD W.f ^ L.length) 425 := ((Nt.Sm.mulR hs44 hs30).trim.more xq)
 have aO : PolN _ aQ (Nt.trimQ (Nt.mulQ (Nt.prodB W.f M M.length) (Nt.prodA W.f L L.length))) 14 := PolN.fit26 be a5 (by exact ⟨by omega, by omega, by omega, by decide⟩)
 refine zza 10 (.v (aQ.v)) (zzc 74 [(4, .adr 4 0), (5, .adr 5 0), (7, .adr 7 0), (9, .v (aV.v)), (10, .v (aQ.v))] [(4, ⟨81, [.slice none 0 0, .slice none 0 0]⟩), (5, ⟨81, [.slice none 0 0, .slice none 0 0]⟩), (7, ⟨173, [aF.v, au.v, a1.v, aI.v]⟩)] (sq9 (zzg 45 114 _ fun _ _ av bv => Post.mono (k_ratFrac bv (a := 1) (b := 2) xq xq xq xq) ?_)))
 rintro _ u68 ap ⟨a2, rfl, bc⟩
 refine zzk 11 ⟨32, zw3⟩ (zzj ⟨32, a2.cs⟩ ty32 ?_)
 refine zzb (zzd (zzz [0, 0, 3, 0, 15, 0, 32, 96, 0, 256, 768, 2047, 4095, 0, 16383] [(0, []), (1, []), (3, []), (5, []), (6, []), (7, []), (8, []), (9, []), (10, []), (13, []), (2, []), (4, []), (11, []), (12, []), (14, [])] xj xj (zza 46 (.v (aV.v)) (zza 47 (.v (aQ.v)) (zzi 49 (.v (a2.v)) ty32 zze (zza 51 (.adr 7 0) (zza 52 (.adr 7 1) (zzi 53 (.v (au.v)) ty27 zzl (zza 54 (.adr 7 2) (zza 55 (.adr 7 3) (zzi 56 (.v (aI.v)) ty27 zzl ?_)))))))))))
 refine zzk 12 ⟨81, [.slice none 0 0, .slice none 0 0]⟩ (zzg 48 115 _ fun _ _ ah bJ => Post.mono (k_poAdd bJ (aS.ext (aq.t (aE.t (av.t (ap.t ah))))).raw (aO.ext (av.t (ap.t ah))).raw xq xq (by have h9 := am; omega) (by have h9 := aj; omega)) ?_)
 rintro _ u74 ax ⟨bC, rfl, bj⟩
 have hly72 := bj.len
 have aM : (Nt.trimQ (Nt.addQ (Nt.trimQ (Nt.mulQ (Nt.prodB W.f L L.length) (Nt.prodA W.f M M.length))) (Nt.trimQ (Nt.mulQ (Nt.prodB W.f M M.length) (Nt.prodA W.f L L.length))))).length ≤ 17 := Nt.add_lenQ am aj
 have a9 : PolN _ bC (Nt.trimQ (Nt.addQ (Nt.trimQ (Nt.mulQ (Nt.prodB W.f L L.length) (Nt.prodA W.f M M.length))) (Nt.trimQ (Nt.mulQ (Nt.prodB W.f M M.length) (Nt.prodA W.f L L.length))))) 29 := PolN.more bj xq
 refine zzg 50 116 _ fun _ _ an bw => Post.mono (k_poScale bw (a9.ext an).raw (bc.ext (ah.t (ax.t an))).raw xq (by have h9 := aM; omega) xq) ?_
 rintro _ u82 aD ⟨aA, rfl, bd⟩
 have hly80 := bd.len
 have bx : (Nt.trimQ ((Nt.trimQ (Nt.addQ (Nt.trimQ (Nt.mulQ (Nt.prodB W.f L L.length) (Nt.prodA W.f M M.length))) (Nt.trimQ (Nt.mulQ (Nt.prodB W.f M M.length) (Nt.prodA W.f L L.length))))).map (· * (((1 : Int) : Rat) / ((2 : Int) : Rat))))).length ≤ 17 := Nt.map_lenQ aM
 have a3 : PolN _ aA (Nt.trimQ ((Nt.trimQ (Nt.addQ (Nt.trimQ (Nt.mulQ (Nt.prodB W.f L L.length) (Nt.prodA W.f M M.length))) (Nt.trimQ (Nt.mulQ (Nt.prodB W.f M M.length) (Nt.prodA W.f L L.length))))).map (· * (((1 : Int) : Rat) / ((2 : Int) : Rat))))) 31 := PolN.more bd xq
 refine zzg 57 130 _ fun _ _ ar bB => Post.mono (k_poMul bB (aX.ext (aT.t (aR.t (aW.t (aZ.t (aw.t (aG.t (aq.t (aE.t (av.t (ap.t (ah.t (ax.t (an.t (aD.t ar))))))))))))))).raw (aY.ext (aw.t (aG.t (aq.t (aE.t (av.t (ap.t (ah.t (ax.t (an.t (aD.t ar))))))))))).raw (Nat.le_trans (Nt.mlK_mono aa ab (Nat.le_refl _) (Nat.le_refl _)) (by decide +kernel)) (by have h9 := aa; omega) (by have h9 := ab; omega) (by have h9 := aa; omega) (by have h9 := ab; omega)) ?_
 rintro _ u90 aH ⟨az, rfl, bb⟩
 have hly88 := bb.len
 have bz : (Nt.trimQ (Nt.mulQ (Nt.prodA W.f L L.length) (Nt.prodA W.f M M.length))).length ≤ 17 := Nt.zxv aa ab
 have a7 : Nt.Sm (Nt.trimQ (Nt.mulQ (Nt.prodA W.f L L.length) (Nt.prodA W.f M M.length))) (Nt.wD W.f ^ L.length * Nt.wD W.f ^ M.length) 425 := ((Nt.Sm.mulR hs30 hs46).trim.more xq)
 have ba : PolN _ az (Nt.trimQ (Nt.mulQ (Nt.prodA W.f L L.length) (Nt.prodA W.f M M.length))) 14 := PolN.fit26 bb a7 (by exact ⟨by omega, by omega, by omega, by decide⟩)
 refine zza 58 (.v (.agg #[aA.v, az.v])) (zzj ⟨81, [aA.v, az.v]⟩ ty81 ?_)
 refine zzb (zzd (zzz [0, 0, 3, 0, 15, 0, 32, 96, 0, 256, 768, 2047, 4095, 0, 16383] [(0, []), (1, []), (3, []), (5, []), (6, []), (7, []), (8, []), (9, []), (10, []), (13, []), (2, []), (4, []), (11, []), (12, []), (14, [])] xj xj (zza 59 (.v (aV.v)) (zza 60 (.v (aQ.v)) (zzi 62 (.v (a2.v)) ty32 zze (zza 64 (.adr 7 0) (zza 65 (.adr 7 1) (zzi 66 (.v (au.v)) ty27 zzl (zza 67 (.adr 7 2) (zza 68 (.adr 7 3) (zzi 69 (.v (aI.v)) ty27 zzl ?_)))))))))))
 refine zzk 13 ⟨81, [.slice none 0 0, .slice none 0 0]⟩ (zzg 61 131 _ fun _ _ aC bH => Post.mono (k_poSub bH (aS.ext (aq.t (aE.t (av.t (ap.t (ah.t (ax.t (an.t (aD.t (ar.t (aH.t aC))))))))))).raw (aO.ext (av.t (ap.t (ah.t (ax.t (an.t (aD.t (ar.t (aH.t aC))))))))).raw xq xq (by have h9 := am; omega) (by have h9 := aj; omega)) ?_)
 rintro _ u99 af ⟨bF, rfl, bh⟩
 have hly97 := bh.len
 have ay : (Nt.trimQ (Nt.addQ (Nt.trimQ (Nt.mulQ (Nt.prodB W.f L L.length) (Nt.prodA W.f M M.length))) ((Nt.trimQ (Nt.mulQ (Nt.prodB W.f M M.length) (Nt.prodA W.f L L.length))).map (fun z => -z)))).length ≤ 17 := Nt.add_lenQ am (show ((Nt.trimQ (Nt.mulQ (Nt.prodB W.f M M.length) (Nt.prodA W.f L L.length))).map (fun z => -z)).length ≤ 17 by rw [List.length_map]; exact aj)
 have aU : PolN _ bF (Nt.trimQ (Nt.addQ (Nt.trimQ (Nt.mulQ (Nt.prodB W.f L L.length) (Nt.prodA W.f M M.length))) ((Nt.trimQ (Nt.mulQ (Nt.prodB W.f M M.length) (Nt.prodA W.f L L.length))).map (fun z => -z)))) 29 := PolN.more bh xq
 refine zzg 63 116 _ fun _ _ ae a8 => Post.mono (k_poScale a8 (aU.ext ae).raw (bc.ext (ah.t (ax.t (an.t (aD.t (ar.t (aH.t (aC.t (af.t ae))))))))).raw xq (by have h9 := ay; omega) xq) ?_
 rintro _ bE ai ⟨ac, rfl, aP⟩
 have hly105 := aP.len
 have bk : (Nt.trimQ ((Nt.trimQ (Nt.addQ (Nt.trimQ (Nt.mulQ (Nt.prodB W.f L L.length) (Nt.prodA W.f M M.length))) ((Nt.trimQ (Nt.mulQ (Nt.prodB W.f M M.length) (Nt.prodA W.f L L.length))).map (fun z => -z)))).map (· * (((1 : Int) : Rat) / ((2 : Int) : Rat))))).length ≤ 17 := Nt.map_lenQ ay
 have aN : PolN _ ac (Nt.trimQ ((Nt.trimQ (Nt.addQ (Nt.trimQ (Nt.mulQ (Nt.prodB W.f L L.length) (Nt.prodA W.f M M.length))) ((Nt.trimQ (Nt.mulQ (Nt.prodB W.f M M.length) (Nt.prodA W.f L L.length))).map (fun z => -z)))).map (· * (((1 : Int) : Rat) / ((2 : Int) : Rat))))) 31 := PolN.more aP xq
 refine zzg 70 130 _ fun _ _ ag a4 => Post.mono (k_poMul a4 (aX.ext (aT.t (aR.t (aW.t (aZ.t (aw.t (aG.t (aq.t (aE.t (av.t (ap.t (ah.t (ax.t (an.t (aD.t (ar.t (aH.t (aC.t (af.t (ae.t (ai.t ag))))))))))))))))))))).raw (aY.ext (aw.t (aG.t (aq.t (aE.t (av.t (ap.t (ah.t (ax.t (an.t (aD.t (ar.t (aH.t (aC.t (af.t (ae.t (ai.t ag))))))))))))))))).raw (Nat.le_trans (Nt.mlK_mono aa ab (Nat.le_refl _) (Nat.le_refl _)) (by decide +kernel)) (by have h9 := aa; omega) (by have h9 := ab; omega) (by have h9 := aa; omega) (by have h9 := ab; omega)) ?_
 rintro _ bD aB ⟨ad, rfl, aJ⟩
 have hly113 := aJ.len
 have bo : (Nt.trimQ (Nt.mulQ (Nt.prodA W.f L L.length) (Nt.prodA W.f M M.length))).length ≤ 17 := Nt.zxv aa ab
 have aK : Nt.Sm (Nt.trimQ (Nt.mulQ (Nt.prodA W.f L L.length) (Nt.prodA W.f M M.length))) (Nt.wD W.f ^ L.length * Nt.wD W.f ^ M.length) 425 := ((Nt.Sm.mulR hs30 hs46).trim.more xq)
 have aL : PolN _ ad (Nt.trimQ (Nt.mulQ (Nt.prodA W.f L L.length) (Nt.prodA W.f M M.length))) 14 := PolN.fit26 aJ aK (by exact ⟨by omega, by omega, by omega, by decide⟩)
 refine zza 71 (.v (.agg #[ac.v, ad.v])) (zzj ⟨81, [ac.v, ad.v]⟩ ty81 ?_)
 refine zzc 74 [(4, .adr 4 0), (5, .adr 5 0), (12, .adr 12 0), (13, .adr 13 0)] [(4, ⟨81, [.slice none 0 0, .slice none 0 0]⟩), (5, ⟨81, [.slice none 0 0, .slice none 0 0]⟩), (12, ⟨81, [aA.v, az.v]⟩), (13, ⟨81, [ac.v, ad.v]⟩)] (zzd (zzz [0, 0, 1, 7, 15] [(0, []), (1, []), (2, [13]), (3, []), (4, [])] xj xj (zzi 72 (.v (.agg #[aA.v, az.v])) ty81 zze (zzi 73 (.v (.agg #[ac.v, ad.v])) ty81 zze (zzj ⟨81, [aA.v, az.v]⟩ ty81 ?_)))))
 refine zzj ⟨81, [ac.v, ad.v]⟩ ty81 ?_
 refine zza 6 (zI 0) (zzb (zzo (ret0 [.agg #[aA.v, az.v], .agg #[ac.v, ad.v], .int .i64 0] ⟨zzr ty81 zze, zzr ty81 zze, zzq, trivial⟩ fun bu ao => ?_)))
 exact ⟨aA, az, ac, ad, rfl, PolN.more (K := 31) (a3.ext (ar.t (aH.t (aC.t (af.t (ae.t (ai.t (ag.t (aB.t ao))))))))) yj, PolN.more (K := 14) (ba.ext (aC.t (af.t (ae.t (ai.t (ag.t (aB.t ao))))))) yj, PolN.more (K := 31) (aN.ext (ag.t (aB.t ao))) yj, PolN.more (K := 14) (aL.ext ao) yj⟩
theorem k_wAllPass {u w : World} {W : WL} {p : PL} (d : Dat u w) (hW : WdOK W) (hf : 1 ≤ W.f) (hp : PasOK W.f p) : Calls Tryz.prog 132 #[p.v, W.v] w (Post u w fun v u' => ∃ y z : Sl, v = .tuple #[.agg #[y.v, z.v], .int .i64 0] ∧ PolN u' y (Nt.trimQ (Nt.secB W.f p)) 10 ∧ PolN u' z (Nt.trimQ (Nt.secA W.f p)) 10) := by
 obtain ⟨hw1, hw2, hw3, hw4, hw5, hw6, hw7, hw8⟩ := id hW
 refine zzm (args := [.agg #[.int .i64 p.o, .int .i64 p.g, .int .i64 p.h], .agg #[.int .i64 W.b, .int .i64 W.f, .int .i64 W.r, .int .i64 W.o]]) Tryz.func132 rfl Tryz.ntmps132 (rs := [.cell 4 81, .tmp 5]) Tryz.results132 (le_b rfl) (le_b rfl) d ?_
 refine sq9 (zzk 2 ⟨168, [.int .i64 p.o, .int .i64 p.g, .int .i64 p.h]⟩ (zzk 3 ⟨66, W.cs⟩ (zzk 4 ⟨81, [.slice none 0 0, .slice none 0 0]⟩ (zza 5 (zI 0) (zzb (zzd (sq9 (zzi 6 (.v (W.v)) ty66 zze (zzg 7 175 _ fun _ _ _ ah => Post.mono (k_suitable (W := W) ah hW hf) ?_)))))))))
 rintro _ u12 g13 rfl
 refine zza 8 (zB false) (zzb (zys xj (zzs (zzp ?_))))
 refine zzd (sq9 (zzi 10 (.v (.agg #[.int .i64 p.o, .int .i64 p.g, .int .i64 p.h])) ty168 zze (zzi 11 (.v (W.v)) ty66 zze (zzg 12 176 _ fun _ _ _ af => Post.mono (k_permitted (p := p) (W := W) af hW hp) ?_))))
 rintro _ u16 g17 rfl
 refine zza 13 (zB false) (zzb (zys xj (zzs (zzp ?_))))
 refine sq9 (zzi 15 (.v (.agg #[.int .i64 p.o, .int .i64 p.g, .int .i64 p.h])) ty168 zze (zzi 16 (.v (W.v)) ty66 zze (zzg 17 178 _ fun _ _ _ ag => Post.mono (k_section (p := p) (W := W) ag hW hp) ?_)))
 rintro _ u24 g25 ⟨aa, ab, rfl, ae, ac⟩
 have hly20 := ae.len
 have hmy20 := Nat.le_trans (Nt.zzh (Nt.secB W.f p)) (Nt.sec_len W.f p).1
 have hly21 := ac.len
 have hmy21 := Nat.le_trans (Nt.zzh (Nt.secA W.f p)) (Nt.sec_len W.f p).2
 refine zzj ⟨81, [aa.v, ab.v]⟩ ty81 ?_
 refine zza 5 (zI 0) (zzb (zzo (ret0 [.agg #[aa.v, ab.v], .int .i64 0] ⟨zzr ty81 zze, zzq, trivial⟩ fun u27 ad => ?_)))
 exact ⟨aa, ab, rfl, (ae.ext ad), (ac.ext ad)⟩
end Go.Proofs.YtgmkhhfbckjaeaaGreat
