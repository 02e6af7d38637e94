/- Parts of the proof: contracts of functions, each walked once, and plain laws. -/
import Derived.Test.YtdmpfhhhlhoeiaaGreatLflC
import Derived.ArgAppend
namespace Go.Proofs.YtdmpfhhhlhoeiaaGreat
open Go.RowKit
set_option linter.unusedVariables false
theorem k_cut {u w : World} {x : Sl} {l : List Rat} {K : Nat} (d : Dat u w) (hx : PolV u x l K) (hK : K ≤ 100000000) (hx9 : l.length ≤ 1000000000) : Calls Tryz.prog 128 #[x.v] w (Post u w fun v u' => v = .slice x.a (Nt.trimQ l).length x.c) := by
 have hlen := hx.len
 refine zzl (args := [.slice x.a x.n x.c]) Tryz.func128 rfl Tryz.ntmps128 (rs := [.tmp 2]) Tryz.results128 (le_b rfl) (le_b rfl) d ?_
 refine sq9 ?_
 refine zza 2 (.v (.slice none 0 0)) ?_
 refine zzb 22 [(0, .v x.v)] [] ?_
 refine sq9 ?_
 refine zza 4 (.v x.v) ?_
 refine zza 5 (.v (.int .i64 (x.n : Int))) ?_
 refine zza 3 (.v (.int .i64 (x.n : Int))) ?_
 refine zzb 22 [(0, .v x.v), (3, .v (.int .i64 (x.n : Int)))] [] ?_
 refine zzc ?_
 refine zzs ?_
 refine zym (I := fun m11 S' u' => ∃ (n : Nat), (m11 = n) ∧ (n ≤ l.length) ∧ (∀ i, n ≤ i → Nt.co l i = 0) ∧ (S' = St.of 22 [(0, .v (.slice x.a x.n x.c)), (3, .v (.int .i64 (n : Int)))] []) ∧ (Ext u u')) (fun m S u1 u2 e h => by obtain ⟨n, hm, p0, p1, hS, hE⟩ := h; exact ⟨n, hm, p0, p1, hS, hE.trans e⟩) _ (T := St.of 22 [(0, .v (.slice x.a x.n x.c)), (3, .v (.int .i64 (x.n : Int)))] []) (by exact zzu _ _ _) ⟨x.n, rfl, by omega, fun i hi => Nt.co_ge (by omega), rfl, Ext.refl _⟩ ?_
 rintro m11 _ u11 ⟨n, hm11, hn, hz, rfl, e11⟩
 refine zzc ?_
 refine sq9 ?_
 refine zza 6 (.v (.int .i64 (n : Int))) ?_
 refine zza 7 (.v (.bool (decide ((0 : Int) < (n : Int))))) ?_
 rcases Bool.eq_false_or_eq_true (decide ((0 : Int) < (n : Int))) with hs12 | hs12
 ·refine zyp 8 (x := .v (.bool (decide ((0 : Int) < (n : Int))))) (.v (.bool true)) (by rw [hs12]) ?_
  have qhs12 := of_decide_eq_true hs12
  refine zza 9 (.v x.v) ?_ (hw := w1 2 true 8)
  refine zza 10 (.v (.int .i64 (n : Int))) ?_ (hw := w1 2 true 8)
  refine zyp 11 (x := .v (.int .i64 (IntKind.i64.wrap ((n : Int) - 1)))) (.v (.int .i64 ((n - 1 : Nat) : Int))) (eqI (by rw [IntWalk.i64_in _ (by omega)]; omega)) ?_ (hw := w1 2 true 8)
  have hl13 := (hx.ext e11).len
  obtain ⟨r13, b13, o13, hA13, hc13, hr13⟩ := pol_at (hx.ext e11) (i := n - 1) (by omega)
  refine zzz 12 (o13 + (n - 1) * 3) (n := x.n) (off := o13) (sz := 3) (i := ((n - 1 : Nat) : Int)) (by omega) hA13 (by omega) (by omega) sl29 ?_ (hw := w1 2 true 8)
  refine zyl 13 r13.cs hc13 ty41 ?_ (hw := w1 2 true 8)
  refine zzf 14 131 [r13.v] ?_ (hw := w1 2 true 8)
  intro w14 u14 e14 d14
  have k17 := k_ratSign d14 (hr13.ext e14)
  with_reducible refine Post.mono k17 ?_
  rintro _ u15 g16 rfl
  refine zza 15 (.v (.bool ((Nt.sgQ (l.getD (n - 1) 0)) == 0))) ?_ (hw := w1 2 true 8)
  refine zza 16 (.v (.bool ((Nt.sgQ (l.getD (n - 1) 0)) == 0))) ?_
  refine zzb 22 [(0, .v x.v), (3, .v (.int .i64 (n : Int))), (16, .v (.bool ((Nt.sgQ (l.getD (n - 1) 0)) == 0)))] [] ?_
  refine zzt (b := (Nt.sgQ (l.getD (n - 1) 0)) == 0) (by kernel_rfl) (fun hb18 => ?_) (fun hb18 => ?_)
  ·replace hb18 : ((Nt.sgQ (l.getD (n - 1) 0)) == 0) = true := hb18
   refine zzr (zzo ?_)
   refine zzs ?_
   refine zze ?_
   refine zza 17 (.v (.int .i64 (n : Int))) ?_
   refine zyp 18 (x := .v (.int .i64 (IntKind.i64.wrap ((n : Int) - 1)))) (.v (.int .i64 ((n - 1 : Nat) : Int))) (eqI (by rw [IntWalk.i64_in _ (by omega)]; omega)) ?_
   refine zza 3 (.v (.int .i64 ((n - 1 : Nat) : Int))) ?_
   refine zzw ?_
   refine ⟨_, ?_, St.of 22 [(0, .v (.slice x.a x.n x.c)), (3, .v (.int .i64 ((n - 1 : Nat) : Int)))] [], by exact zzu _ _ _, n - 1, rfl, by omega, (fun i hi => by by_cases e : i = n - 1; (rw [e]; have h9 := hb18; rw [Nt.sgQ_eq] at h9; exact of_decide_eq_true h9); exact hz i (by omega)), rfl, (e11.trans (e14.trans g16.ext))⟩
   omega
  ·replace hb18 : ((Nt.sgQ (l.getD (n - 1) 0)) == 0) = false := hb18
   refine zyb ?_
   refine zzo ?_
   refine sq9 ?_
   refine zza 19 (.v x.v) ?_
   refine zza 20 (.v (.int .i64 (n : Int))) ?_
   have hl19 := (hx.ext (e11.trans (e14.trans g16.ext))).len
   have hc19 := (hx.ext (e11.trans (e14.trans g16.ext))).cap
   refine sy_front 21 (n := x.n) (c := x.c) n sl29 rfl (by omega) ?_
   refine zza 2 (.v (.slice x.a n x.c)) ?_
   refine zzb 22 [(2, .v (.slice x.a n x.c))] [] ?_
   refine zzn (ret0 [.slice x.a n x.c] ⟨zzp, trivial⟩ fun u20 e21 => ?_)
   have e := Nt.trim_len_of (l := l) hn hz (fun _ h => by have h9 := hb18; rw [Nt.sgQ_eq] at h9; exact of_decide_eq_false h9 h)
   show Value.slice _ _ _ = Value.slice _ _ _
   rw [e]
 ·refine zyp 8 (x := .v (.bool (decide ((0 : Int) < (n : Int))))) (.v (.bool false)) (by rw [hs12]) ?_
  have qhs12 := of_decide_eq_false hs12
  refine zzm 9 (uw 2 true false 8) ?_
  refine zzm 10 (uw 2 true false 8) ?_
  refine zzm 11 (uw 2 true false 8) ?_
  refine zzm 12 (uw 2 true false 8) ?_
  refine zzm 13 (uw 2 true false 8) ?_
  refine zzm 14 (uw 2 true false 8) ?_
  refine zzm 15 (uw 2 true false 8) ?_
  refine zza 16 (.v (.bool false)) ?_
  refine zzb 22 [(0, .v x.v), (3, .v (.int .i64 (n : Int))), (16, .v (.bool false))] [] ?_
  refine zyr (by kernel_rfl) ?_
  refine zyb ?_
  refine zzo ?_
  refine sq9 ?_
  refine zza 19 (.v x.v) ?_
  refine zza 20 (.v (.int .i64 (n : Int))) ?_
  have hl22 := (hx.ext e11).len
  have hc22 := (hx.ext e11).cap
  refine sy_front 21 (n := x.n) (c := x.c) n sl29 rfl (by omega) ?_
  refine zza 2 (.v (.slice x.a n x.c)) ?_
  refine zzb 22 [(2, .v (.slice x.a n x.c))] [] ?_
  refine zzn (ret0 [.slice x.a n x.c] ⟨zzp, trivial⟩ fun u23 e24 => ?_)
  have e := Nt.trim_len_of (l := l) hn hz (fun h => absurd h (by omega))
  show Value.slice _ _ _ = Value.slice _ _ _
  rw [e]
def NewR (u : World) (n : Nat) (t : List Rat) (K : Nat) (v : Value) (u' : World) : Prop := ∃ (b : Nat) (L : List RL), v = .slice (some ⟨b, 0, none⟩) n n ∧ u.heap.size ≤ b ∧ u'.heap[b]? = some (.cells (rcs L).toArray 41 (0, 0)) ∧ L.length = n ∧ RatsN u' L t K
theorem k_poScale {u w : World} {x : Sl} {l : List Rat} {r : RL} {q : Rat} {K M : Nat} (d : Dat u w) (hx : PolV u x l K) (hr : RatV u r q M) (hK : K ≤ 50000000) (hx9 : l.length ≤ 1000000000) (hM : M ≤ 50000000) : Calls Tryz.prog 50 #[x.v, r.v] w (Post u w fun v u' => ∃ y : Sl, v = y.v ∧ PolN u' y (Nt.trimQ (l.map (· * q))) (K + M)) := by
 have hlen := hx.len
 refine zzl (args := [.slice x.a x.n x.c, r.v]) Tryz.func50 rfl Tryz.ntmps50 (rs := [.tmp 4]) Tryz.results50 (le_b rfl) (le_b rfl) d ?_
 refine sq9 ?_
 refine zzj 3 ⟨41, r.cs⟩ ?_
 refine zza 4 (.v (.slice none 0 0)) ?_
 refine zzb 27 [(0, .v x.v), (3, .adr 3 0)] [(3, ⟨41, r.cs⟩)] ?_
 refine sq9 ?_
 refine zza 7 (.v x.v) ?_
 refine zza 8 (.v (.int .i64 (x.n : Int))) ?_
 refine sy_make 9 (T := 29) (E := 41) (z := .agg #[.bool false, .slice none 0 0, .slice none 0 0]) (size := 3) (bytes := 56) x.n (rcs (List.replicate x.n rl0)) (by kernel_rfl) (by kernel_rfl) rfl rfl (by omega) (by unfold maxLen; omega) (made_rcs _) ?_
 refine zza 5 (.slc 9 0 x.n x.n) ?_
 refine zzb 27 [(0, .v x.v), (3, .adr 3 0), (5, .slc 9 0 x.n x.n)] [(3, ⟨41, r.cs⟩), (9, ⟨41, rcs (List.replicate x.n rl0)⟩)] ?_
 refine zzc ?_
 refine sq9 ?_
 refine zza 10 (.slc 9 0 x.n x.n) ?_
 refine zza 11 (.v (.int .i64 (x.n : Int))) ?_
 refine zza 12 (.v (.int .i64 0)) ?_
 refine zzb 27 [(0, .v x.v), (3, .adr 3 0), (5, .slc 9 0 x.n x.n), (11, .v (.int .i64 (x.n : Int))), (12, .v (.int .i64 0))] [(3, ⟨41, r.cs⟩), (9, ⟨41, rcs (List.replicate x.n rl0)⟩)] ?_
 refine zzs ?_
 refine zym (I := fun m11 S' u' => ∃ (i : Nat) (L : List RL), (m11 = x.n - i) ∧ (i ≤ x.n) ∧ (L.length = x.n) ∧ (S' = St.of 27 [(0, .v (.slice x.a x.n x.c)), (3, .adr 3 0), (5, .slc 9 0 x.n x.n), (11, .v (.int .i64 (x.n : Int))), (12, .v (.int .i64 (i : Int)))] [(3, ⟨41, r.cs⟩), (9, ⟨41, rcs L⟩)]) ∧ (Ext u u') ∧ (RatsN u' (L.take i) ((l.map (· * q)).take i) (K + M))) (fun m S u1 u2 e h => by obtain ⟨i, L, hm, p0, p1, hS, hE, f0⟩ := h; exact ⟨i, L, hm, p0, p1, hS, hE.trans e, f0.ext e⟩) _ (T := St.of 27 [(0, .v (.slice x.a x.n x.c)), (3, .adr 3 0), (5, .slc 9 0 x.n x.n), (11, .v (.int .i64 (x.n : Int))), (12, .v (.int .i64 0))] [(3, ⟨41, r.cs⟩), (9, ⟨41, rcs (List.replicate x.n rl0)⟩)]) (by exact zzu _ _ _) ⟨0, List.replicate x.n rl0, rfl, by omega, by simp, rfl, Ext.refl _, RatsN.tnil _ _ _ _⟩ ?_
 rintro m11 _ u11 ⟨i, L, hm11, hi, hL, rfl, e11, hR⟩
 refine sq9 ?_
 refine zza 13 (.v (.bool (decide ((i : Int) < (x.n : Int))))) ?_
 refine zzb 27 [(0, .v x.v), (3, .adr 3 0), (5, .slc 9 0 x.n x.n), (11, .v (.int .i64 (x.n : Int))), (12, .v (.int .i64 (i : Int))), (13, .v (.bool (decide ((i : Int) < (x.n : Int)))))] [(3, ⟨41, r.cs⟩), (9, ⟨41, rcs L⟩)] ?_
 refine zzc ?_
 refine zzt (b := decide ((i : Int) < (x.n : Int))) (by kernel_rfl) (fun hb12 => ?_) (fun hb12 => ?_)
 ·replace hb12 : (decide ((i : Int) < (x.n : Int))) = true := hb12
  have qhb12 := of_decide_eq_true hb12
  refine zzr (zzo ?_)
  refine zzc ?_
  refine zzs ?_
  refine sq9 ?_
  refine zza 14 (.v (.int .i64 (i : Int))) ?_
  refine zza 6 (.v (.int .i64 (i : Int))) ?_
  refine zzb 27 [(0, .v x.v), (3, .adr 3 0), (5, .slc 9 0 x.n x.n), (6, .v (.int .i64 (i : Int))), (11, .v (.int .i64 (x.n : Int))), (12, .v (.int .i64 (i : Int)))] [(3, ⟨41, r.cs⟩), (9, ⟨41, rcs L⟩)] ?_
  refine zzy [0, 0, 0, 0, 12, 28, 0, 124, 255, 511] [(0, []), (1, []), (2, []), (3, []), (4, []), (5, []), (6, []), (7, []), (8, []), (9, [])] (by kernel_rfl) (by kernel_rfl) ?_
  refine zza 15 (.slc 9 0 x.n x.n) ?_
  refine zza 16 (.v (.int .i64 (i : Int))) ?_
  refine zza 17 (.v x.v) ?_
  refine zza 18 (.v (.int .i64 (i : Int))) ?_
  have hl13 := (hx.ext e11).len
  obtain ⟨r13, b13, o13, hA13, hc13, hr13⟩ := pol_at (hx.ext e11) (i := i) (by omega)
  refine zzz 19 (o13 + i * 3) (n := x.n) (off := o13) (sz := 3) (i := (i : Int)) (by omega) hA13 (by omega) (by omega) sl29 ?_
  refine zyl 20 r13.cs hc13 ty41 ?_
  refine zzh 21 (.v (r.v)) ty41 zzd ?_
  refine zzf 22 62 [r13.v, r.v] ?_
  intro w14 u14 e14 d14
  have k19 := k_ratMul d14 (hr13.ext e14) (hr.ext (e11.trans e14)) (by omega) (by omega)
  with_reducible refine Post.mono k19 ?_
  rintro _ u17 g18 ⟨r15, rfl, h16⟩
  refine zyv 23 (off' := i * 3) (n := x.n) (off := 0) (sz := 3) (i := (i : Int)) sl29 (by omega) (by omega) (by omega) ?_
  refine zyu (V := ⟨41, rcs L⟩) (off := i * 3) (rcs ((L).set i r15)) ty41 (by rw [zyx]; first|omega|(simp;omega)) (zyw (r := r15) (i := i) (by first|omega|(simp;omega)) rfl) ?_
  refine zzw ?_
  refine zzo ?_
  refine zze ?_
  refine zyp 24 (x := .v (.int .i64 (IntKind.i64.wrap ((i : Int) + 1)))) (.v (.int .i64 ((i + 1 : Nat) : Int))) (eqI (by rw [IntWalk.i64_in _ (by omega)]; omega)) ?_
  refine zza 12 (.v (.int .i64 ((i + 1 : Nat) : Int))) ?_
  refine zzw ?_
  have ht20 : i < (l.map (· * q)).length := by simp; omega
  refine ⟨_, ?_, St.of 27 [(0, .v (.slice x.a x.n x.c)), (3, .adr 3 0), (5, .slc 9 0 x.n x.n), (11, .v (.int .i64 (x.n : Int))), (12, .v (.int .i64 ((i + 1 : Nat) : Int)))] [(3, ⟨41, r.cs⟩), (9, ⟨41, rcs ((L).set i r15)⟩)], by exact zzu _ _ _, i + 1, (L).set i r15, rfl, by omega, by simpa using hL, rfl, (e11.trans (e14.trans g18.ext)), RatsN.tstep (hR.ext (e14.trans g18.ext)) (by omega) ht20 (RatN.more (K := (K + M)) h16 (by omega)) (by simp [List.getElem?_eq_getElem (show i < l.length by omega)])⟩
  omega
 ·replace hb12 : (decide ((i : Int) < (x.n : Int))) = false := hb12
  have qhb12 := of_decide_eq_false hb12
  refine zyb ?_
  refine zzo ?_
  refine zzc ?_
  refine zyo (r := 5) (t := 9) [5, 9] (by repeat first | exact noAt_of | refine zyc ?_ | refine zye ?_ | refine zyd ?_ | refine zzx ?_ | refine zya ?_) (by kernel_rfl) (by rfl) (by rfl) (by kernel_rfl) (fun b21 u22 e23 hb24 hh25 => ?_)
  have hp26 : PolN u22 ⟨some ⟨b21, 0, none⟩, x.n, x.n⟩ (l.map (· * q)) (K + M) := pol_data1 hh25 (by unfold maxLen; omega) (RatsN.tdone (hR.ext e23) (by omega) (by simp; omega)) (by omega)
  refine zze ?_
  refine zza 25 (.v (.slice (some ⟨b21, 0, none⟩) x.n x.n)) ?_
  refine zzf 26 128 [.slice (some ⟨b21, 0, none⟩) x.n x.n] ?_
  intro w27 u27 e27 d27
  have k30 := k_cut d27 (hp26.ext e27).raw (by omega) (by first|omega|(simp;omega) | (refine Nat.le_trans (Nt.zzg _) ?_; first|omega|(simp;omega)) | (refine Nat.le_trans (Nt.zzg _) ?_; simp only [List.length_map]; refine Nat.le_trans (Nt.zzg _) ?_; first|omega|(simp;omega)))
  with_reducible refine Post.mono k30 ?_
  rintro _ u28 g29 rfl
  refine zza 4 (.v (.slice (some ⟨b21, 0, none⟩) (Nt.trimQ (l.map (· * q))).length x.n)) ?_
  refine zzb 27 [(4, .v (.slice (some ⟨b21, 0, none⟩) (Nt.trimQ (l.map (· * q))).length x.n))] [] ?_
  refine zzn (ret0 [.slice (some ⟨b21, 0, none⟩) (Nt.trimQ (l.map (· * q))).length x.n] ⟨zzp, trivial⟩ fun u31 e32 => ?_)
  refine ⟨(⟨some ⟨b21, 0, none⟩, (Nt.trimQ (l.map (· * q))).length, x.n⟩ : Sl), rfl, ?_⟩
  exact ((cut_N (hp26.ext (e27.trans g29.ext))).ext e32)
theorem k_poTrim {u w : World} {x : Sl} {l : List Rat} {K : Nat} (d : Dat u w) (hx : PolV u x l K) (hK : K ≤ 50000000) (hx9 : l.length ≤ 1000000000) : Calls Tryz.prog 53 #[x.v] w (Post u w fun v u' => ∃ y : Sl, v = y.v ∧ PolN u' y (Nt.trimQ l) K) := by
 have hlen := hx.len
 have htl := Nt.zzg l
 refine zzl (args := [.slice x.a x.n x.c]) Tryz.func53 rfl Tryz.ntmps53 (rs := [.tmp 2]) Tryz.results53 (le_b rfl) (le_b rfl) d ?_
 refine sq9 ?_
 refine zza 2 (.v (.slice none 0 0)) ?_
 refine zzb 24 [(0, .v x.v)] [] ?_
 refine sq9 ?_
 refine zza 5 (.v x.v) ?_
 refine zzf 6 128 [x.v] ?_
 intro w11 u11 e11 d11
 have k14 := k_cut d11 (hx.ext e11) (by omega) (by first|omega|(simp;omega) | (refine Nat.le_trans (Nt.zzg _) ?_; first|omega|(simp;omega)) | (refine Nat.le_trans (Nt.zzg _) ?_; simp only [List.length_map]; refine Nat.le_trans (Nt.zzg _) ?_; first|omega|(simp;omega)))
 with_reducible refine Post.mono k14 ?_
 rintro _ u12 g13 rfl
 refine zza 7 (.v (.int .i64 (((Nt.trimQ l).length : Nat) : Int))) ?_
 refine sy_make 8 (T := 29) (E := 41) (z := .agg #[.bool false, .slice none 0 0, .slice none 0 0]) (size := 3) (bytes := 56) ((Nt.trimQ l).length) (rcs (List.replicate ((Nt.trimQ l).length) rl0)) (by kernel_rfl) (by kernel_rfl) rfl rfl (by omega) (by unfold maxLen; omega) (made_rcs _) ?_
 refine zza 3 (.slc 8 0 ((Nt.trimQ l).length) ((Nt.trimQ l).length)) ?_
 refine zzb 24 [(0, .v x.v), (3, .slc 8 0 ((Nt.trimQ l).length) ((Nt.trimQ l).length))] [(8, ⟨41, rcs (List.replicate ((Nt.trimQ l).length) rl0)⟩)] ?_
 refine zzc ?_
 refine sq9 ?_
 refine zza 9 (.slc 8 0 ((Nt.trimQ l).length) ((Nt.trimQ l).length)) ?_
 refine zza 10 (.v (.int .i64 (((Nt.trimQ l).length : Nat) : Int))) ?_
 refine zza 11 (.v (.int .i64 0)) ?_
 refine zzb 24 [(0, .v x.v), (3, .slc 8 0 ((Nt.trimQ l).length) ((Nt.trimQ l).length)), (10, .v (.int .i64 (((Nt.trimQ l).length : Nat) : Int))), (11, .v (.int .i64 0))] [(8, ⟨41, rcs (List.replicate ((Nt.trimQ l).length) rl0)⟩)] ?_
 refine zzs ?_
 refine zym (I := fun m15 S' u' => ∃ (i : Nat) (L : List RL), (m15 = ((Nt.trimQ l).length) - i) ∧ (i ≤ (Nt.trimQ l).length) ∧ (L.length = (Nt.trimQ l).length) ∧ (S' = St.of 24 [(0, .v (.slice x.a x.n x.c)), (3, .slc 8 0 ((Nt.trimQ l).length) ((Nt.trimQ l).length)), (10, .v (.int .i64 (((Nt.trimQ l).length : Nat) : Int))), (11, .v (.int .i64 (i : Int)))] [(8, ⟨41, rcs L⟩)]) ∧ (Ext u12 u') ∧ (RatsN u' (L.take i) ((Nt.trimQ l).take i) K)) (fun m S u1 u2 e h => by obtain ⟨i, L, hm, p0, p1, hS, hE, f0⟩ := h; exact ⟨i, L, hm, p0, p1, hS, hE.trans e, f0.ext e⟩) _ (T := St.of 24 [(0, .v (.slice x.a x.n x.c)), (3, .slc 8 0 ((Nt.trimQ l).length) ((Nt.trimQ l).length)), (10, .v (.int .i64 (((Nt.trimQ l).length : Nat) : Int))), (11, .v (.int .i64 0))] [(8, ⟨41, rcs (List.replicate ((Nt.trimQ l).length) rl0)⟩)]) (by exact zzu _ _ _) ⟨0, List.replicate ((Nt.trimQ l).length) rl0, rfl, by omega, by simp, rfl, Ext.refl _, RatsN.tnil _ _ _ _⟩ ?_
 rintro m15 _ u15 ⟨i, L, hm15, hi, hL, rfl, e15, hR⟩
 refine sq9 ?_
 refine zza 12 (.v (.bool (decide ((i : Int) < (((Nt.trimQ l).length : Nat) : Int))))) ?_
 refine zzb 24 [(0, .v x.v), (3, .slc 8 0 ((Nt.trimQ l).length) ((Nt.trimQ l).length)), (10, .v (.int .i64 (((Nt.trimQ l).length : Nat) : Int))), (11, .v (.int .i64 (i : Int))), (12, .v (.bool (decide ((i : Int) < (((Nt.trimQ l).length : Nat) : Int)))))] [(8, ⟨41, rcs L⟩)] ?_
 refine zzc ?_
 refine zzt (b := decide ((i : Int) < (((Nt.trimQ l).length : Nat) : Int))) (by kernel_rfl) (fun hb16 => ?_) (fun hb16 => ?_)
 ·replace hb16 : (decide ((i : Int) < (((Nt.trimQ l).length : Nat) : Int))) = true := hb16
  have qhb16 := of_decide_eq_true hb16
  refine zzr (zzo ?_)
  refine zzc ?_
  refine zzs ?_
  refine sq9 ?_
  refine zza 13 (.v (.int .i64 (i : Int))) ?_
  refine zza 4 (.v (.int .i64 (i : Int))) ?_
  refine zzb 24 [(0, .v x.v), (3, .slc 8 0 ((Nt.trimQ l).length) ((Nt.trimQ l).length)), (4, .v (.int .i64 (i : Int))), (10, .v (.int .i64 (((Nt.trimQ l).length : Nat) : Int))), (11, .v (.int .i64 (i : Int)))] [(8, ⟨41, rcs L⟩)] ?_
  refine zze ?_
  refine zza 14 (.slc 8 0 ((Nt.trimQ l).length) ((Nt.trimQ l).length)) ?_
  refine zza 15 (.v (.int .i64 (i : Int))) ?_
  refine zza 16 (.v x.v) ?_
  refine zza 17 (.v (.int .i64 (i : Int))) ?_
  have hl17 := (hx.ext (e11.trans (g13.ext.trans e15))).len
  obtain ⟨r17, b17, o17, hA17, hc17, hr17⟩ := pol_at (hx.ext (e11.trans (g13.ext.trans e15))) (i := i) (by omega)
  refine zzz 18 (o17 + i * 3) (n := x.n) (off := o17) (sz := 3) (i := (i : Int)) (by omega) hA17 (by omega) (by omega) sl29 ?_
  refine zyl 19 r17.cs hc17 ty41 ?_
  refine zzf 20 58 [r17.v] ?_
  intro w18 u18 e18 d18
  have k23 := k_ratTrim d18 (hr17.ext e18) (by omega)
  with_reducible refine Post.mono k23 ?_
  rintro _ u21 g22 ⟨r19, rfl, h20⟩
  refine zyv 21 (off' := i * 3) (n := (Nt.trimQ l).length) (off := 0) (sz := 3) (i := (i : Int)) sl29 (by omega) (by omega) (by omega) ?_
  refine zyu (V := ⟨41, rcs L⟩) (off := i * 3) (rcs ((L).set i r19)) ty41 (by rw [zyx]; first|omega|(simp;omega)) (zyw (r := r19) (i := i) (by first|omega|(simp;omega)) rfl) ?_
  refine zzw ?_
  refine zzo ?_
  refine zze ?_
  refine zyp 22 (x := .v (.int .i64 (IntKind.i64.wrap ((i : Int) + 1)))) (.v (.int .i64 ((i + 1 : Nat) : Int))) (eqI (by rw [IntWalk.i64_in _ (by omega)]; omega)) ?_
  refine zza 11 (.v (.int .i64 ((i + 1 : Nat) : Int))) ?_
  refine zzw ?_
  have ht24 : i < (Nt.trimQ l).length := by skip; omega
  refine ⟨_, ?_, St.of 24 [(0, .v (.slice x.a x.n x.c)), (3, .slc 8 0 ((Nt.trimQ l).length) ((Nt.trimQ l).length)), (10, .v (.int .i64 (((Nt.trimQ l).length : Nat) : Int))), (11, .v (.int .i64 ((i + 1 : Nat) : Int)))] [(8, ⟨41, rcs ((L).set i r19)⟩)], by exact zzu _ _ _, i + 1, (L).set i r19, rfl, by omega, by simpa using hL, rfl, (e15.trans (e18.trans g22.ext)), RatsN.tstep (hR.ext (e18.trans g22.ext)) (by omega) ht24 (RatN.more (K := K) h20 (by omega)) (Nt.trim_co l i).symm⟩
  omega
 ·replace hb16 : (decide ((i : Int) < (((Nt.trimQ l).length : Nat) : Int))) = false := hb16
  have qhb16 := of_decide_eq_false hb16
  refine zyb ?_
  refine zzo ?_
  refine zzc ?_
  refine zyo (r := 3) (t := 8) [3, 8] (by repeat first | exact noAt_of | refine zyc ?_ | refine zye ?_ | refine zyd ?_ | refine zzx ?_ | refine zya ?_) (by kernel_rfl) (by rfl) (by rfl) (by kernel_rfl) (fun b25 u26 e27 hb28 hh29 => ?_)
  have hp30 : PolN u26 ⟨some ⟨b25, 0, none⟩, (Nt.trimQ l).length, (Nt.trimQ l).length⟩ (Nt.trimQ l) K := pol_data1 hh29 (by unfold maxLen; omega) (RatsN.tdone (hR.ext e27) (by omega) (by skip; omega)) (by omega)
  refine zze ?_
  refine zza 23 (.v (.slice (some ⟨b25, 0, none⟩) ((Nt.trimQ l).length) ((Nt.trimQ l).length))) ?_
  refine zza 2 (.v (.slice (some ⟨b25, 0, none⟩) ((Nt.trimQ l).length) ((Nt.trimQ l).length))) ?_
  refine zzb 24 [(2, .v (.slice (some ⟨b25, 0, none⟩) ((Nt.trimQ l).length) ((Nt.trimQ l).length)))] [] ?_
  refine zzn (ret0 [.slice (some ⟨b25, 0, none⟩) ((Nt.trimQ l).length) ((Nt.trimQ l).length)] ⟨zzp, trivial⟩ fun u31 e32 => ?_)
  refine ⟨(⟨some ⟨b25, 0, none⟩, (Nt.trimQ l).length, (Nt.trimQ l).length⟩ : Sl), rfl, ?_⟩
  exact (hp30.ext e32)
theorem k_poAdd {u w : World} {x : Sl} {l : List Rat} {y : Sl} {m : List Rat} {K M : Nat} (d : Dat u w) (hx : PolV u x l K) (hy : PolV u y m M) (hK : K ≤ 40000000) (hM : M ≤ 40000000) (hx9 : l.length ≤ 1000000000) (hy9 : m.length ≤ 1000000000) : Calls Tryz.prog 49 #[x.v, y.v] w (Post u w fun v u' => ∃ y : Sl, v = y.v ∧ PolN u' y (Nt.trimQ (Nt.addQ l m)) (K + M + 1)) := by
 have hlen := hx.len
 have hlen2 := hy.len
 refine zzl (args := [.slice x.a x.n x.c, .slice y.a y.n y.c]) Tryz.func49 rfl Tryz.ntmps49 (rs := [.tmp 4]) Tryz.results49 (le_b rfl) (le_b rfl) d ?_
 refine sq9 ?_
 refine zza 4 (.v (.slice none 0 0)) ?_
 refine zzb 49 [(0, .v x.v), (1, .v y.v)] [] ?_
 refine zzc ?_
 refine sq9 ?_
 refine zza 7 (.v x.v) ?_
 refine zza 8 (.v (.int .i64 (x.n : Int))) ?_
 refine zza 9 (.v y.v) ?_
 refine zza 10 (.v (.int .i64 (y.n : Int))) ?_
 refine zza 11 (.v (.bool (decide ((x.n : Int) < (y.n : Int))))) ?_
 refine zzb 49 [(0, .v x.v), (1, .v y.v), (11, .v (.bool (decide ((x.n : Int) < (y.n : Int)))))] [] ?_
 refine zzt (b := decide ((x.n : Int) < (y.n : Int))) (by kernel_rfl) (fun hb11 => ?_) (fun hb11 => ?_)
 ·replace hb11 : (decide ((x.n : Int) < (y.n : Int))) = true := hb11
  have qhb11 := of_decide_eq_true hb11
  refine zze ?_
  refine zza 12 (.v y.v) ?_
  refine zza 13 (.v x.v) ?_
  refine zza 0 (.v y.v) ?_
  refine zza 1 (.v x.v) ?_
  refine zzb 49 [(0, .v y.v), (1, .v x.v)] [] ?_
  refine sq9 ?_
  refine zza 14 (.v y.v) ?_
  refine zza 15 (.v (.int .i64 (y.n : Int))) ?_
  refine sy_make 16 (T := 29) (E := 41) (z := .agg #[.bool false, .slice none 0 0, .slice none 0 0]) (size := 3) (bytes := 56) y.n (rcs (List.replicate y.n rl0)) (by kernel_rfl) (by kernel_rfl) rfl rfl (by omega) (by unfold maxLen; omega) (made_rcs _) ?_
  refine zza 5 (.slc 16 0 y.n y.n) ?_
  refine zzb 49 [(0, .v y.v), (1, .v x.v), (5, .slc 16 0 y.n y.n)] [(16, ⟨41, rcs (List.replicate y.n rl0)⟩)] ?_
  refine zzc ?_
  refine sq9 ?_
  refine zza 17 (.slc 16 0 y.n y.n) ?_
  refine zza 18 (.v (.int .i64 (y.n : Int))) ?_
  refine zza 19 (.v (.int .i64 0)) ?_
  refine zzb 49 [(0, .v y.v), (1, .v x.v), (5, .slc 16 0 y.n y.n), (18, .v (.int .i64 (y.n : Int))), (19, .v (.int .i64 0))] [(16, ⟨41, rcs (List.replicate y.n rl0)⟩)] ?_
  refine zzs ?_
  refine zym (I := fun m12 S' u' => ∃ (i : Nat) (L : List RL), (m12 = y.n - i) ∧ (i ≤ y.n) ∧ (L.length = y.n) ∧ (S' = St.of 49 [(0, .v (.slice y.a y.n y.c)), (1, .v (.slice x.a x.n x.c)), (5, .slc 16 0 y.n y.n), (18, .v (.int .i64 (y.n : Int))), (19, .v (.int .i64 (i : Int)))] [(16, ⟨41, rcs L⟩)]) ∧ (Ext u u') ∧ (RatsN u' (L.take i) ((Nt.addQ l m).take i) (K + M + 1))) (fun m S u1 u2 e h => by obtain ⟨i, L, hm, p0, p1, hS, hE, f0⟩ := h; exact ⟨i, L, hm, p0, p1, hS, hE.trans e, f0.ext e⟩) _ (T := St.of 49 [(0, .v (.slice y.a y.n y.c)), (1, .v (.slice x.a x.n x.c)), (5, .slc 16 0 y.n y.n), (18, .v (.int .i64 (y.n : Int))), (19, .v (.int .i64 0))] [(16, ⟨41, rcs (List.replicate y.n rl0)⟩)]) (by exact zzu _ _ _) ⟨0, List.replicate y.n rl0, rfl, by omega, by simp, rfl, Ext.refl _, RatsN.tnil _ _ _ _⟩ ?_
  rintro m12 _ u12 ⟨i, L, hm12, hi, hL, rfl, e12, hR⟩
  refine sq9 ?_
  refine zza 20 (.v (.bool (decide ((i : Int) < (y.n : Int))))) ?_
  refine zzb 49 [(0, .v y.v), (1, .v x.v), (5, .slc 16 0 y.n y.n), (18, .v (.int .i64 (y.n : Int))), (19, .v (.int .i64 (i : Int))), (20, .v (.bool (decide ((i : Int) < (y.n : Int)))))] [(16, ⟨41, rcs L⟩)] ?_
  refine zzc ?_
  refine zzt (b := decide ((i : Int) < (y.n : Int))) (by kernel_rfl) (fun hb13 => ?_) (fun hb13 => ?_)
  ·replace hb13 : (decide ((i : Int) < (y.n : Int))) = true := hb13
   have qhb13 := of_decide_eq_true hb13
   refine zzr (zzo ?_)
   refine zzc ?_
   refine zzs ?_
   refine sq9 ?_
   refine zza 21 (.v (.int .i64 (i : Int))) ?_
   refine zza 6 (.v (.int .i64 (i : Int))) ?_
   refine zzb 49 [(0, .v y.v), (1, .v x.v), (5, .slc 16 0 y.n y.n), (6, .v (.int .i64 (i : Int))), (18, .v (.int .i64 (y.n : Int))), (19, .v (.int .i64 (i : Int)))] [(16, ⟨41, rcs L⟩)] ?_
   refine sq9 ?_
   refine zza 22 (.v (.int .i64 (i : Int))) ?_
   refine zza 23 (.v x.v) ?_
   refine zza 24 (.v (.int .i64 (x.n : Int))) ?_
   refine zza 25 (.v (.bool (decide ((i : Int) < (x.n : Int))))) ?_
   refine zzb 49 [(0, .v y.v), (1, .v x.v), (5, .slc 16 0 y.n y.n), (6, .v (.int .i64 (i : Int))), (18, .v (.int .i64 (y.n : Int))), (19, .v (.int .i64 (i : Int))), (25, .v (.bool (decide ((i : Int) < (x.n : Int)))))] [(16, ⟨41, rcs L⟩)] ?_
   refine zzt (b := decide ((i : Int) < (x.n : Int))) (by kernel_rfl) (fun hb14 => ?_) (fun hb14 => ?_)
   ·replace hb14 : (decide ((i : Int) < (x.n : Int))) = true := hb14
    have qhb14 := of_decide_eq_true hb14
    refine zzy [0, 0, 0, 0, 12, 28, 0, 0, 192, 448, 1020, 2047, 4095] [(0, []), (1, []), (2, []), (3, []), (4, []), (5, []), (6, []), (7, []), (8, []), (9, []), (10, []), (11, []), (12, [])] (by kernel_rfl) (by kernel_rfl) ?_
    refine zza 26 (.slc 16 0 y.n y.n) ?_
    refine zza 27 (.v (.int .i64 (i : Int))) ?_
    refine zza 28 (.v y.v) ?_
    refine zza 29 (.v (.int .i64 (i : Int))) ?_
    have hl15 := (hy.ext e12).len
    obtain ⟨r15, b15, o15, hA15, hc15, hr15⟩ := pol_at (hy.ext e12) (i := i) (by omega)
    refine zzz 30 (o15 + i * 3) (n := y.n) (off := o15) (sz := 3) (i := (i : Int)) (by omega) hA15 (by omega) (by omega) sl29 ?_
    refine zyl 31 r15.cs hc15 ty41 ?_
    refine zza 32 (.v x.v) ?_
    refine zza 33 (.v (.int .i64 (i : Int))) ?_
    have hl16 := (hx.ext e12).len
    obtain ⟨r16, b16, o16, hA16, hc16, hr16⟩ := pol_at (hx.ext e12) (i := i) (by omega)
    refine zzz 34 (o16 + i * 3) (n := x.n) (off := o16) (sz := 3) (i := (i : Int)) (by omega) hA16 (by omega) (by omega) sl29 ?_
    refine zyl 35 r16.cs hc16 ty41 ?_
    refine zzf 36 127 [r15.v, r16.v] ?_
    intro w17 u17 e17 d17
    have k22 := k_ratAdd d17 (hr15.ext e17) (hr16.ext e17) (by omega) (by omega)
    with_reducible refine Post.mono k22 ?_
    rintro _ u20 g21 ⟨r18, rfl, h19⟩
    refine zyv 37 (off' := i * 3) (n := y.n) (off := 0) (sz := 3) (i := (i : Int)) sl29 (by omega) (by omega) (by omega) ?_
    refine zyu (V := ⟨41, rcs L⟩) (off := i * 3) (rcs ((L).set i r18)) ty41 (by rw [zyx]; first|omega|(simp;omega)) (zyw (r := r18) (i := i) (by first|omega|(simp;omega)) rfl) ?_
    refine zzw ?_
    refine zzo ?_
    refine zze ?_
    refine zyp 46 (x := .v (.int .i64 (IntKind.i64.wrap ((i : Int) + 1)))) (.v (.int .i64 ((i + 1 : Nat) : Int))) (eqI (by rw [IntWalk.i64_in _ (by omega)]; omega)) ?_
    refine zza 19 (.v (.int .i64 ((i + 1 : Nat) : Int))) ?_
    refine zzw ?_
    have ht23 : i < (Nt.addQ l m).length := by rw [Nt.addQ_len]; omega
    refine ⟨_, ?_, St.of 49 [(0, .v (.slice y.a y.n y.c)), (1, .v (.slice x.a x.n x.c)), (5, .slc 16 0 y.n y.n), (18, .v (.int .i64 (y.n : Int))), (19, .v (.int .i64 ((i + 1 : Nat) : Int)))] [(16, ⟨41, rcs ((L).set i r18)⟩)], by exact zzu _ _ _, i + 1, (L).set i r18, rfl, by omega, by simpa using hL, rfl, (e12.trans (e17.trans g21.ext)), RatsN.tstep (hR.ext (e17.trans g21.ext)) (by omega) ht23 (RatN.more (K := (M + K + 1)) h19 (by omega)) (by have h9 := Nt.addQ_co l m i; unfold Nt.co at h9; show _ = List.getD _ _ _; rw [h9]; exact Rat.add_comm _ _)⟩
    omega
   ·replace hb14 : (decide ((i : Int) < (x.n : Int))) = false := hb14
    have qhb14 := of_decide_eq_false hb14
    refine zze ?_
    refine zza 38 (.slc 16 0 y.n y.n) ?_
    refine zza 39 (.v (.int .i64 (i : Int))) ?_
    refine zza 40 (.v y.v) ?_
    refine zza 41 (.v (.int .i64 (i : Int))) ?_
    have hl24 := (hy.ext e12).len
    obtain ⟨r24, b24, o24, hA24, hc24, hr24⟩ := pol_at (hy.ext e12) (i := i) (by omega)
    refine zzz 42 (o24 + i * 3) (n := y.n) (off := o24) (sz := 3) (i := (i : Int)) (by omega) hA24 (by omega) (by omega) sl29 ?_
    refine zyl 43 r24.cs hc24 ty41 ?_
    refine zzf 44 58 [r24.v] ?_
    intro w25 u25 e25 d25
    have k30 := k_ratTrim d25 (hr24.ext e25) (by omega)
    with_reducible refine Post.mono k30 ?_
    rintro _ u28 g29 ⟨r26, rfl, h27⟩
    refine zyv 45 (off' := i * 3) (n := y.n) (off := 0) (sz := 3) (i := (i : Int)) sl29 (by omega) (by omega) (by omega) ?_
    refine zyu (V := ⟨41, rcs L⟩) (off := i * 3) (rcs ((L).set i r26)) ty41 (by rw [zyx]; first|omega|(simp;omega)) (zyw (r := r26) (i := i) (by first|omega|(simp;omega)) rfl) ?_
    refine zzw ?_
    refine zzo ?_
    refine zze ?_
    refine zyp 46 (x := .v (.int .i64 (IntKind.i64.wrap ((i : Int) + 1)))) (.v (.int .i64 ((i + 1 : Nat) : Int))) (eqI (by rw [IntWalk.i64_in _ (by omega)]; omega)) ?_
    refine zza 19 (.v (.int .i64 ((i + 1 : Nat) : Int))) ?_
    refine zzw ?_
    have ht31 : i < (Nt.addQ l m).length := by rw [Nt.addQ_len]; omega
    refine ⟨_, ?_, St.of 49 [(0, .v (.slice y.a y.n y.c)), (1, .v (.slice x.a x.n x.c)), (5, .slc 16 0 y.n y.n), (18, .v (.int .i64 (y.n : Int))), (19, .v (.int .i64 ((i + 1 : Nat) : Int)))] [(16, ⟨41, rcs ((L).set i r26)⟩)], by exact zzu _ _ _, i + 1, (L).set i r26, rfl, by omega, by simpa using hL, rfl, (e12.trans (e25.trans g29.ext)), RatsN.tstep (hR.ext (e25.trans g29.ext)) (by omega) ht31 (RatN.more (K := M) h27 (by omega)) (by have h9 := Nt.addQ_co l m i; unfold Nt.co at h9; show _ = List.getD _ _ _; rw [h9]; rw [show l.getD i 0 = 0 from Nt.co_ge (by omega)]; grind)⟩
    omega
  ·replace hb13 : (decide ((i : Int) < (y.n : Int))) = false := hb13
   have qhb13 := of_decide_eq_false hb13
   refine zyb ?_
   refine zzo ?_
   refine zzc ?_
   refine zyo (r := 5) (t := 16) [5, 16] (by repeat first | exact noAt_of | refine zyc ?_ | refine zye ?_ | refine zyd ?_ | refine zzx ?_ | refine zya ?_) (by kernel_rfl) (by rfl) (by rfl) (by kernel_rfl) (fun b32 u33 e34 hb35 hh36 => ?_)
   have hp37 : PolN u33 ⟨some ⟨b32, 0, none⟩, y.n, y.n⟩ (Nt.addQ l m) (K + M + 1) := pol_data1 hh36 (by unfold maxLen; omega) (RatsN.tdone (hR.ext e34) (by omega) (by rw [Nt.addQ_len]; omega)) (by omega)
   refine zze ?_
   refine zza 47 (.v (.slice (some ⟨b32, 0, none⟩) y.n y.n)) ?_
   refine zzf 48 128 [.slice (some ⟨b32, 0, none⟩) y.n y.n] ?_
   intro w38 u38 e38 d38
   have k41 := k_cut d38 (hp37.ext e38).raw (by omega) (by first|omega|(simp;omega) | (refine Nat.le_trans (Nt.zzg _) ?_; first|omega|(simp;omega)) | (refine Nat.le_trans (Nt.zzg _) ?_; simp only [List.length_map]; refine Nat.le_trans (Nt.zzg _) ?_; first|omega|(simp;omega)))
   with_reducible refine Post.mono k41 ?_
   rintro _ u39 g40 rfl
   refine zza 4 (.v (.slice (some ⟨b32, 0, none⟩) (Nt.trimQ (Nt.addQ l m)).length y.n)) ?_
   refine zzb 49 [(4, .v (.slice (some ⟨b32, 0, none⟩) (Nt.trimQ (Nt.addQ l m)).length y.n))] [] ?_
   refine zzn (ret0 [.slice (some ⟨b32, 0, none⟩) (Nt.trimQ (Nt.addQ l m)).length y.n] ⟨zzp, trivial⟩ fun u42 e43 => ?_)
   refine ⟨(⟨some ⟨b32, 0, none⟩, (Nt.trimQ (Nt.addQ l m)).length, y.n⟩ : Sl), rfl, ?_⟩
   exact ((cut_N (hp37.ext (e38.trans g40.ext))).ext e43)
 ·replace hb11 : (decide ((x.n : Int) < (y.n : Int))) = false := hb11
  have qhb11 := of_decide_eq_false hb11
  refine zzr (zzo ?_)
  refine sq9 ?_
  refine zza 14 (.v x.v) ?_
  refine zza 15 (.v (.int .i64 (x.n : Int))) ?_
  refine sy_make 16 (T := 29) (E := 41) (z := .agg #[.bool false, .slice none 0 0, .slice none 0 0]) (size := 3) (bytes := 56) x.n (rcs (List.replicate x.n rl0)) (by kernel_rfl) (by kernel_rfl) rfl rfl (by omega) (by unfold maxLen; omega) (made_rcs _) ?_
  refine zza 5 (.slc 16 0 x.n x.n) ?_
  refine zzb 49 [(0, .v x.v), (1, .v y.v), (5, .slc 16 0 x.n x.n)] [(16, ⟨41, rcs (List.replicate x.n rl0)⟩)] ?_
  refine zzc ?_
  refine sq9 ?_
  refine zza 17 (.slc 16 0 x.n x.n) ?_
  refine zza 18 (.v (.int .i64 (x.n : Int))) ?_
  refine zza 19 (.v (.int .i64 0)) ?_
  refine zzb 49 [(0, .v x.v), (1, .v y.v), (5, .slc 16 0 x.n x.n), (18, .v (.int .i64 (x.n : Int))), (19, .v (.int .i64 0))] [(16, ⟨41, rcs (List.replicate x.n rl0)⟩)] ?_
  refine zzs ?_
  refine zym (I := fun m44 S' u' => ∃ (i : Nat) (L : List RL), (m44 = x.n - i) ∧ (i ≤ x.n) ∧ (L.length = x.n) ∧ (S' = St.of 49 [(0, .v (.slice x.a x.n x.c)), (1, .v (.slice y.a y.n y.c)), (5, .slc 16 0 x.n x.n), (18, .v (.int .i64 (x.n : Int))), (19, .v (.int .i64 (i : Int)))] [(16, ⟨41, rcs L⟩)]) ∧ (Ext u u') ∧ (RatsN u' (L.take i) ((Nt.addQ l m).take i) (K + M + 1))) (fun m S u1 u2 e h => by obtain ⟨i, L, hm, p0, p1, hS, hE, f0⟩ := h; exact ⟨i, L, hm, p0, p1, hS, hE.trans e, f0.ext e⟩) _ (T := St.of 49 [(0, .v (.slice x.a x.n x.c)), (1, .v (.slice y.a y.n y.c)), (5, .slc 16 0 x.n x.n), (18, .v (.int .i64 (x.n : Int))), (19, .v (.int .i64 0))] [(16, ⟨41, rcs (List.replicate x.n rl0)⟩)]) (by exact zzu _ _ _) ⟨0, List.replicate x.n rl0, rfl, by omega, by simp, rfl, Ext.refl _, RatsN.tnil _ _ _ _⟩ ?_
  rintro m44 _ u44 ⟨i, L, hm44, hi, hL, rfl, e44, hR⟩
  refine sq9 ?_
  refine zza 20 (.v (.bool (decide ((i : Int) < (x.n : Int))))) ?_
  refine zzb 49 [(0, .v x.v), (1, .v y.v), (5, .slc 16 0 x.n x.n), (18, .v (.int .i64 (x.n : Int))), (19, .v (.int .i64 (i : Int))), (20, .v (.bool (decide ((i : Int) < (x.n : Int)))))] [(16, ⟨41, rcs L⟩)] ?_
  refine zzc ?_
  refine zzt (b := decide ((i : Int) < (x.n : Int))) (by kernel_rfl) (fun hb45 => ?_) (fun hb45 => ?_)
  ·replace hb45 : (decide ((i : Int) < (x.n : Int))) = true := hb45
   have qhb45 := of_decide_eq_true hb45
   refine zzr (zzo ?_)
   refine zzc ?_
   refine zzs ?_
   refine sq9 ?_
   refine zza 21 (.v (.int .i64 (i : Int))) ?_
   refine zza 6 (.v (.int .i64 (i : Int))) ?_
   refine zzb 49 [(0, .v x.v), (1, .v y.v), (5, .slc 16 0 x.n x.n), (6, .v (.int .i64 (i : Int))), (18, .v (.int .i64 (x.n : Int))), (19, .v (.int .i64 (i : Int)))] [(16, ⟨41, rcs L⟩)] ?_
   refine sq9 ?_
   refine zza 22 (.v (.int .i64 (i : Int))) ?_
   refine zza 23 (.v y.v) ?_
   refine zza 24 (.v (.int .i64 (y.n : Int))) ?_
   refine zza 25 (.v (.bool (decide ((i : Int) < (y.n : Int))))) ?_
   refine zzb 49 [(0, .v x.v), (1, .v y.v), (5, .slc 16 0 x.n x.n), (6, .v (.int .i64 (i : Int))), (18, .v (.int .i64 (x.n : Int))), (19, .v (.int .i64 (i : Int))), (25, .v (.bool (decide ((i : Int) < (y.n : Int)))))] [(16, ⟨41, rcs L⟩)] ?_
   refine zzt (b := decide ((i : Int) < (y.n : Int))) (by kernel_rfl) (fun hb46 => ?_) (fun hb46 => ?_)
   ·replace hb46 : (decide ((i : Int) < (y.n : Int))) = true := hb46
    have qhb46 := of_decide_eq_true hb46
    refine zzy [0, 0, 0, 0, 12, 28, 0, 0, 192, 448, 1020, 2047, 4095] [(0, []), (1, []), (2, []), (3, []), (4, []), (5, []), (6, []), (7, []), (8, []), (9, []), (10, []), (11, []), (12, [])] (by kernel_rfl) (by kernel_rfl) ?_
    refine zza 26 (.slc 16 0 x.n x.n) ?_
    refine zza 27 (.v (.int .i64 (i : Int))) ?_
    refine zza 28 (.v x.v) ?_
    refine zza 29 (.v (.int .i64 (i : Int))) ?_
    have hl47 := (hx.ext e44).len
    obtain ⟨r47, b47, o47, hA47, hc47, hr47⟩ := pol_at (hx.ext e44) (i := i) (by omega)
    refine zzz 30 (o47 + i * 3) (n := x.n) (off := o47) (sz := 3) (i := (i : Int)) (by omega) hA47 (by omega) (by omega) sl29 ?_
    refine zyl 31 r47.cs hc47 ty41 ?_
    refine zza 32 (.v y.v) ?_
    refine zza 33 (.v (.int .i64 (i : Int))) ?_
    have hl48 := (hy.ext e44).len
    obtain ⟨r48, b48, o48, hA48, hc48, hr48⟩ := pol_at (hy.ext e44) (i := i) (by omega)
    refine zzz 34 (o48 + i * 3) (n := y.n) (off := o48) (sz := 3) (i := (i : Int)) (by omega) hA48 (by omega) (by omega) sl29 ?_
    refine zyl 35 r48.cs hc48 ty41 ?_
    refine zzf 36 127 [r47.v, r48.v] ?_
    intro w49 u49 e49 d49
    have k54 := k_ratAdd d49 (hr47.ext e49) (hr48.ext e49) (by omega) (by omega)
    with_reducible refine Post.mono k54 ?_
    rintro _ u52 g53 ⟨r50, rfl, h51⟩
    refine zyv 37 (off' := i * 3) (n := x.n) (off := 0) (sz := 3) (i := (i : Int)) sl29 (by omega) (by omega) (by omega) ?_
    refine zyu (V := ⟨41, rcs L⟩) (off := i * 3) (rcs ((L).set i r50)) ty41 (by rw [zyx]; first|omega|(simp;omega)) (zyw (r := r50) (i := i) (by first|omega|(simp;omega)) rfl) ?_
    refine zzw ?_
    refine zzo ?_
    refine zze ?_
    refine zyp 46 (x := .v (.int .i64 (IntKind.i64.wrap ((i : Int) + 1)))) (.v (.int .i64 ((i + 1 : Nat) : Int))) (eqI (by rw [IntWalk.i64_in _ (by omega)]; omega)) ?_
    refine zza 19 (.v (.int .i64 ((i + 1 : Nat) : Int))) ?_
    refine zzw ?_
    have ht55 : i < (Nt.addQ l m).length := by rw [Nt.addQ_len]; omega
    refine ⟨_, ?_, St.of 49 [(0, .v (.slice x.a x.n x.c)), (1, .v (.slice y.a y.n y.c)), (5, .slc 16 0 x.n x.n), (18, .v (.int .i64 (x.n : Int))), (19, .v (.int .i64 ((i + 1 : Nat) : Int)))] [(16, ⟨41, rcs ((L).set i r50)⟩)], by exact zzu _ _ _, i + 1, (L).set i r50, rfl, by omega, by simpa using hL, rfl, (e44.trans (e49.trans g53.ext)), RatsN.tstep (hR.ext (e49.trans g53.ext)) (by omega) ht55 (RatN.more (K := (K + M + 1)) h51 (by omega)) (by have h9 := Nt.addQ_co l m i; unfold Nt.co at h9; show _ = List.getD _ _ _; rw [h9])⟩
    omega
   ·replace hb46 : (decide ((i : Int) < (y.n : Int))) = false := hb46
    have qhb46 := of_decide_eq_false hb46
    refine zze ?_
    refine zza 38 (.slc 16 0 x.n x.n) ?_
    refine zza 39 (.v (.int .i64 (i : Int))) ?_
    refine zza 40 (.v x.v) ?_
    refine zza 41 (.v (.int .i64 (i : Int))) ?_
    have hl56 := (hx.ext e44).len
    obtain ⟨r56, b56, o56, hA56, hc56, hr56⟩ := pol_at (hx.ext e44) (i := i) (by omega)
    refine zzz 42 (o56 + i * 3) (n := x.n) (off := o56) (sz := 3) (i := (i : Int)) (by omega) hA56 (by omega) (by omega) sl29 ?_
    refine zyl 43 r56.cs hc56 ty41 ?_
    refine zzf 44 58 [r56.v] ?_
    intro w57 u57 e57 d57
    have k62 := k_ratTrim d57 (hr56.ext e57) (by omega)
    with_reducible refine Post.mono k62 ?_
    rintro _ u60 g61 ⟨r58, rfl, h59⟩
    refine zyv 45 (off' := i * 3) (n := x.n) (off := 0) (sz := 3) (i := (i : Int)) sl29 (by omega) (by omega) (by omega) ?_
    refine zyu (V := ⟨41, rcs L⟩) (off := i * 3) (rcs ((L).set i r58)) ty41 (by rw [zyx]; first|omega|(simp;omega)) (zyw (r := r58) (i := i) (by first|omega|(simp;omega)) rfl) ?_
    refine zzw ?_
    refine zzo ?_
    refine zze ?_
    refine zyp 46 (x := .v (.int .i64 (IntKind.i64.wrap ((i : Int) + 1)))) (.v (.int .i64 ((i + 1 : Nat) : Int))) (eqI (by rw [IntWalk.i64_in _ (by omega)]; omega)) ?_
    refine zza 19 (.v (.int .i64 ((i + 1 : Nat) : Int))) ?_
    refine zzw ?_
    have ht63 : i < (Nt.addQ l m).length := by rw [Nt.addQ_len]; omega
    refine ⟨_, ?_, St.of 49 [(0, .v (.slice x.a x.n x.c)), (1, .v (.slice y.a y.n y.c)), (5, .slc 16 0 x.n x.n), (18, .v (.int .i64 (x.n : Int))), (19, .v (.int .i64 ((i + 1 : Nat) : Int)))] [(16, ⟨41, rcs ((L).set i r58)⟩)], by exact zzu _ _ _, i + 1, (L).set i r58, rfl, by omega, by simpa using hL, rfl, (e44.trans (e57.trans g61.ext)), RatsN.tstep (hR.ext (e57.trans g61.ext)) (by omega) ht63 (RatN.more (K := K) h59 (by omega)) (by have h9 := Nt.addQ_co l m i; unfold Nt.co at h9; show _ = List.getD _ _ _; rw [h9]; rw [show m.getD i 0 = 0 from Nt.co_ge (by omega)]; grind)⟩
    omega
  ·replace hb45 : (decide ((i : Int) < (x.n : Int))) = false := hb45
   have qhb45 := of_decide_eq_false hb45
   refine zyb ?_
   refine zzo ?_
   refine zzc ?_
   refine zyo (r := 5) (t := 16) [5, 16] (by repeat first | exact noAt_of | refine zyc ?_ | refine zye ?_ | refine zyd ?_ | refine zzx ?_ | refine zya ?_) (by kernel_rfl) (by rfl) (by rfl) (by kernel_rfl) (fun b64 u65 e66 hb67 hh68 => ?_)
   have hp69 : PolN u65 ⟨some ⟨b64, 0, none⟩, x.n, x.n⟩ (Nt.addQ l m) (K + M + 1) := pol_data1 hh68 (by unfold maxLen; omega) (RatsN.tdone (hR.ext e66) (by omega) (by rw [Nt.addQ_len]; omega)) (by omega)
   refine zze ?_
   refine zza 47 (.v (.slice (some ⟨b64, 0, none⟩) x.n x.n)) ?_
   refine zzf 48 128 [.slice (some ⟨b64, 0, none⟩) x.n x.n] ?_
   intro w70 u70 e70 d70
   have k73 := k_cut d70 (hp69.ext e70).raw (by omega) (by first|omega|(simp;omega) | (refine Nat.le_trans (Nt.zzg _) ?_; first|omega|(simp;omega)) | (refine Nat.le_trans (Nt.zzg _) ?_; simp only [List.length_map]; refine Nat.le_trans (Nt.zzg _) ?_; first|omega|(simp;omega)))
   with_reducible refine Post.mono k73 ?_
   rintro _ u71 g72 rfl
   refine zza 4 (.v (.slice (some ⟨b64, 0, none⟩) (Nt.trimQ (Nt.addQ l m)).length x.n)) ?_
   refine zzb 49 [(4, .v (.slice (some ⟨b64, 0, none⟩) (Nt.trimQ (Nt.addQ l m)).length x.n))] [] ?_
   refine zzn (ret0 [.slice (some ⟨b64, 0, none⟩) (Nt.trimQ (Nt.addQ l m)).length x.n] ⟨zzp, trivial⟩ fun u74 e75 => ?_)
   refine ⟨(⟨some ⟨b64, 0, none⟩, (Nt.trimQ (Nt.addQ l m)).length, x.n⟩ : Sl), rfl, ?_⟩
   exact ((cut_N (hp69.ext (e70.trans g72.ext))).ext e75)
set_option maxHeartbeats 2000000 in
theorem k_r5Trim {u w : World} {x : Sl} {l : List Rat} {K : Nat} (d : Dat u w) (hx : PolV u x l K) (hK : K ≤ 50000000) (hx9 : l.length ≤ 1000000000) : Calls Tryz.prog 82 #[x.v] w (Post u w fun v u' => ∃ y : Sl, v = y.v ∧ PolN u' y (Nt.trimQ l) K) := by
 have hlen := hx.len
 have htl := Nt.zzg l
 refine zzl (args := [.slice x.a x.n x.c]) Tryz.func82 rfl Tryz.ntmps82 (rs := [.tmp 2]) Tryz.results82 (le_b rfl) (le_b rfl) d ?_
 refine sq9 ?_
 refine zza 2 (.v (.slice none 0 0)) ?_
 refine zzb 37 [(0, .v x.v)] [] ?_
 refine sq9 ?_
 refine zza 7 (.v x.v) ?_
 refine zza 8 (.v (.int .i64 (x.n : Int))) ?_
 refine zza 3 (.v (.int .i64 (x.n : Int))) ?_
 refine zzb 37 [(0, .v x.v), (3, .v (.int .i64 (x.n : Int)))] [] ?_
 refine zzc ?_
 refine zzs ?_
 refine zym (I := fun m11 S' u' => ∃ (n : Nat), (m11 = n) ∧ (n ≤ l.length) ∧ (∀ i, n ≤ i → Nt.co l i = 0) ∧ (S' = St.of 37 [(0, .v (.slice x.a x.n x.c)), (3, .v (.int .i64 (n : Int)))] []) ∧ (Ext u u')) (fun m S u1 u2 e h => by obtain ⟨n, hm, p0, p1, hS, hE⟩ := h; exact ⟨n, hm, p0, p1, hS, hE.trans e⟩) _ (T := St.of 37 [(0, .v (.slice x.a x.n x.c)), (3, .v (.int .i64 (x.n : Int)))] []) (by exact zzu _ _ _) ⟨x.n, rfl, by omega, fun i hi => Nt.co_ge (by omega), rfl, Ext.refl _⟩ ?_
 rintro m11 _ u11 ⟨n, hm11, hn, hz, rfl, e11⟩
 refine zzc ?_
 refine sq9 ?_
 refine zza 9 (.v (.int .i64 (n : Int))) ?_
 refine zza 10 (.v (.bool (decide ((0 : Int) < (n : Int))))) ?_
 rcases Bool.eq_false_or_eq_true (decide ((0 : Int) < (n : Int))) with hs12 | hs12
 ·refine zyp 11 (x := .v (.bool (decide ((0 : Int) < (n : Int))))) (.v (.bool true)) (by rw [hs12]) ?_
  have qhs12 := of_decide_eq_true hs12
  refine zza 12 (.v x.v) ?_ (hw := w1 2 true 11)
  refine zza 13 (.v (.int .i64 (n : Int))) ?_ (hw := w1 2 true 11)
  refine zyp 14 (x := .v (.int .i64 (IntKind.i64.wrap ((n : Int) - 1)))) (.v (.int .i64 ((n - 1 : Nat) : Int))) (eqI (by rw [IntWalk.i64_in _ (by omega)]; omega)) ?_ (hw := w1 2 true 11)
  have hl13 := (hx.ext e11).len
  obtain ⟨r13, b13, o13, hA13, hc13, hr13⟩ := pol_at (hx.ext e11) (i := n - 1) (by omega)
  refine zzz 15 (o13 + (n - 1) * 3) (n := x.n) (off := o13) (sz := 3) (i := ((n - 1 : Nat) : Int)) (by omega) hA13 (by omega) (by omega) sl29 ?_ (hw := w1 2 true 11)
  refine zyl 16 r13.cs hc13 ty41 ?_ (hw := w1 2 true 11)
  refine zzf 17 157 [r13.v] ?_ (hw := w1 2 true 11)
  intro w14 u14 e14 d14
  have k17 := k_rqSign d14 (hr13.ext e14) (by omega)
  with_reducible refine Post.mono k17 ?_
  rintro _ u15 g16 rfl
  refine zza 18 (.v (.bool ((Nt.sgQ (l.getD (n - 1) 0)) == 0))) ?_ (hw := w1 2 true 11)
  refine zza 19 (.v (.bool ((Nt.sgQ (l.getD (n - 1) 0)) == 0))) ?_
  refine zzb 37 [(0, .v x.v), (3, .v (.int .i64 (n : Int))), (19, .v (.bool ((Nt.sgQ (l.getD (n - 1) 0)) == 0)))] [] ?_
  refine zzt (b := (Nt.sgQ (l.getD (n - 1) 0)) == 0) (by kernel_rfl) (fun hb18 => ?_) (fun hb18 => ?_)
  ·replace hb18 : ((Nt.sgQ (l.getD (n - 1) 0)) == 0) = true := hb18
   refine zzr (zzo ?_)
   refine zzs ?_
   refine zze ?_
   refine zza 20 (.v (.int .i64 (n : Int))) ?_
   refine zyp 21 (x := .v (.int .i64 (IntKind.i64.wrap ((n : Int) - 1)))) (.v (.int .i64 ((n - 1 : Nat) : Int))) (eqI (by rw [IntWalk.i64_in _ (by omega)]; omega)) ?_
   refine zza 3 (.v (.int .i64 ((n - 1 : Nat) : Int))) ?_
   refine zzw ?_
   refine ⟨_, ?_, St.of 37 [(0, .v (.slice x.a x.n x.c)), (3, .v (.int .i64 ((n - 1 : Nat) : Int)))] [], by exact zzu _ _ _, n - 1, rfl, by omega, (fun i hi => by by_cases e : i = n - 1; (rw [e]; have h9 := hb18; rw [Nt.sgQ_eq] at h9; exact of_decide_eq_true h9); exact hz i (by omega)), rfl, (e11.trans (e14.trans g16.ext))⟩
   omega
  ·replace hb18 : ((Nt.sgQ (l.getD (n - 1) 0)) == 0) = false := hb18
   refine zyb ?_
   refine zzo ?_
   refine zzc ?_
   have he9 := Nt.trim_len_of (l := l) hn hz (fun _ h => by have h9 := hb18; rw [Nt.sgQ_eq] at h9; exact of_decide_eq_false h9 h)
   clear hz
   refine zze ?_
   refine zza 4 (.v (.slice none 0 0)) ?_
   refine zzb 37 [(0, .v x.v), (3, .v (.int .i64 (n : Int))), (4, .v (.slice none 0 0))] [] ?_
   refine zzc ?_
   refine sq9 ?_
   refine zza 22 (.v x.v) ?_
   refine zza 23 (.v (.int .i64 (n : Int))) ?_
   have hl19 := (hx.ext (e11.trans (e14.trans g16.ext))).len
   have hc19 := (hx.ext (e11.trans (e14.trans g16.ext))).cap
   refine sy_front 24 (n := x.n) (c := x.c) n sl29 rfl (by omega) ?_
   refine zza 25 (.v (.int .i64 (n : Int))) ?_
   refine zza 26 (.v (.int .i64 0)) ?_
   refine zzb 37 [(4, .v (.slice none 0 0)), (24, .v (.slice x.a n x.c)), (25, .v (.int .i64 (n : Int))), (26, .v (.int .i64 0))] [] ?_
   refine zzs ?_
   refine zym (I := fun m20 S' u' => (m20 = n ∧ S' = St.of 37 [(4, .v (.slice none 0 0)), (24, .v (.slice x.a n x.c)), (25, .v (.int .i64 (n : Int))), (26, .v (.int .i64 0))] [] ∧ Ext u15 u') ∨ (∃ (i : Nat) (L : List RL) (cs : List Value) (cp : Nat), m20 = n - i ∧ i ≤ n ∧ 0 < i ∧ L.length = i ∧ cs.length = cp * 3 ∧ i ≤ cp ∧ cp ≤ maxLen ∧ cs.take (i * 3) = rcs L ∧ S' = St.of 37 [(4, .slc 34 0 i cp), (24, .v (.slice x.a n x.c)), (25, .v (.int .i64 (n : Int))), (26, .v (.int .i64 (i : Int)))] [(34, ⟨41, cs⟩)] ∧ Ext u15 u' ∧ RatsN u' L ((Nt.trimQ l).take i) K)) (fun m S u1 u2 e h => by rcases h with ⟨a, b, c⟩ | ⟨a1, a2, a3, a4, b1, b2, b3, b4, b5, b6, b7, b8, b9, b10, b11⟩; exact .inl ⟨a, b, c.trans e⟩; exact .inr ⟨a1, a2, a3, a4, b1, b2, b3, b4, b5, b6, b7, b8, b9, b10.trans e, b11.ext e⟩) _ (T := St.of 37 [(4, .v (.slice none 0 0)), (24, .v (.slice x.a n x.c)), (25, .v (.int .i64 (n : Int))), (26, .v (.int .i64 0))] []) (by exact zzu _ _ _) (.inl ⟨rfl, rfl, Ext.refl _⟩) ?_
   rintro m20 _ u20 (⟨hm20, rfl, e20⟩ | ⟨i, L, cs, cp, hm20, hi, hp, hL, hc, hle, hmx, ht, rfl, e20, hR⟩)
   ·change SW _ _ _ _ (St.of 37 [(4, .v (.slice none 0 0)), (24, .v (.slice x.a n x.c)), (25, .v (.int .i64 (n : Int))), (26, .v (.int .i64 0))] []) _ _
    refine sq9 ?_
    refine zza 27 (.v (.bool (decide ((0 : Int) < (n : Int))))) ?_
    refine zzb 37 [(4, .v (.slice none 0 0)), (24, .v (.slice x.a n x.c)), (25, .v (.int .i64 (n : Int))), (26, .v (.int .i64 0)), (27, .v (.bool (decide ((0 : Int) < (n : Int)))))] [] ?_
    refine zzc ?_
    refine zzt (b := decide ((0 : Int) < (n : Int))) (by kernel_rfl) (fun hb21 => ?_) (fun hb21 => ?_)
    ·replace hb21 : (decide ((0 : Int) < (n : Int))) = true := hb21
     have qhb21 := of_decide_eq_true hb21
     refine zzr (zzo ?_)
     refine zzc ?_
     refine zzs ?_
     refine sq9 ?_
     have hl22 := ((pol_take (hx.ext (e11.trans (e14.trans g16.ext))) (by omega)).ext e20).len
     change n = _ at hl22
     obtain ⟨r22, b22, o22, hA22, hc22, hr22⟩ := pol_at ((pol_take (hx.ext (e11.trans (e14.trans g16.ext))) (by omega)).ext e20) (i := 0) (by omega)
     refine zzz 28 (o22 + 0 * 3) (n := n) (off := o22) (sz := 3) (i := 0) (by omega) hA22 (by omega) (by omega) sl29 ?_
     refine zyl 29 r22.cs hc22 ty41 ?_
     refine zzj 6 ⟨41, [.bool false, .slice none 0 0, .slice none 0 0]⟩ ?_
     refine zzi ⟨41, r22.cs⟩ ty41 ?_
     refine zzb 37 [(4, .v (.slice none 0 0)), (6, .adr 6 0), (24, .v (.slice x.a n x.c)), (25, .v (.int .i64 (n : Int))), (26, .v (.int .i64 0))] [(6, ⟨41, r22.cs⟩)] ?_
     refine zze ?_
     refine zza 30 (.v (.slice none 0 0)) ?_
     refine zzh 31 (.v (r22.v)) ty41 zzd ?_
     refine zzf 32 158 [r22.v] ?_
     intro w23 u23 e23 d23
     have k28 := k_rqTrim d23 (hr22.ext e23) (by omega)
     with_reducible refine Post.mono k28 ?_
     rintro _ u26 g27 ⟨r24, rfl, h25⟩
     refine sy_data 33 ⟨41, r24.cs⟩ 1 (fun b29 u30 e31 h32 => ?_)
     have hp33 : PolN u30 (⟨some ⟨b29, 0, none⟩, 1, 1⟩ : Sl) [((l.take n).getD 0 0)] K := pol_lit (L := [r24]) h32 (rats1 (h25.ext e31)) rfl (by decide)
     refine sy_app0 34 (T := 29) (E := 41) (z := .agg #[.bool false, .slice none 0 0, .slice none 0 0]) (size := 3) (bytes := 56) (b := b29) (off := 0) (m := 1) r24.cs (by kernel_rfl) (by kernel_rfl) (by kernel_rfl) (by decide) rfl (lit_news ((Ext.refl _).cells h32)) (rl_one r24) (by decide) (by decide) (by decide) ?_
     intro c34 cs34 ha34 hb34 hc34 hd34
     refine zza 4 (.slc 34 0 1 c34) ?_
     refine zzw ?_
     refine zzo ?_
     refine zze ?_
     refine zza 35 (.v (.int .i64 1)) ?_
     refine zza 26 (.v (.int .i64 1)) ?_
     refine zzw ?_
     have ht35 : 0 < (Nt.trimQ l).length := by skip; omega
     refine ⟨_, ?_, St.of 37 [(4, .slc 34 0 1 c34), (24, .v (.slice x.a n x.c)), (25, .v (.int .i64 (n : Int))), (26, .v (.int .i64 1))] [(34, ⟨41, cs34⟩)], by exact zzu _ _ _, .inr ⟨1, [r24], cs34, c34, rfl, by omega, by omega, by simp, hc34, by omega, hb34, hd34, rfl, (e20.trans (e23.trans (g27.ext.trans e31))), (app_first (RatN.more (K := K) (h25.ext e31) (by omega)) ht35 (by rw [List.getD_eq_getElem?_getD, List.getElem?_take_of_lt (by omega), ← List.getD_eq_getElem?_getD]; exact (Nt.trim_co l 0).symm))⟩⟩
     omega
    ·replace hb21 : (decide ((0 : Int) < (n : Int))) = false := hb21
     have qhb21 := of_decide_eq_false hb21
     refine zyb ?_
     refine zzo ?_
     refine zzc ?_
     have hp36 : PolN u20 ⟨none, 0, 0⟩ (Nt.trimQ l) K := by have h9 : Nt.trimQ l = [] := List.eq_nil_of_length_eq_zero (by skip; omega); rw [h9]; exact pol_nil _ _
     refine zze ?_
     refine zza 36 (.v (.slice none 0 0)) ?_
     refine zza 2 (.v (.slice none 0 0)) ?_
     refine zzb 37 [(2, .v (.slice none 0 0))] [] ?_
     refine zzn (ret0 [.slice none 0 0] ⟨zzp, trivial⟩ fun u37 e38 => ?_)
     refine ⟨⟨none, 0, 0⟩, rfl, ?_⟩
     exact (hp36.ext e38)
   ·change SW _ _ _ _ (St.of 37 [(4, .slc 34 0 i cp), (24, .v (.slice x.a n x.c)), (25, .v (.int .i64 (n : Int))), (26, .v (.int .i64 (i : Int)))] [(34, ⟨41, cs⟩)]) _ _
    refine sq9 ?_
    refine zza 27 (.v (.bool (decide ((i : Int) < (n : Int))))) ?_
    refine zzb 37 [(4, .slc 34 0 i cp), (24, .v (.slice x.a n x.c)), (25, .v (.int .i64 (n : Int))), (26, .v (.int .i64 (i : Int))), (27, .v (.bool (decide ((i : Int) < (n : Int)))))] [(34, ⟨41, cs⟩)] ?_
    refine zzc ?_
    refine zzt (b := decide ((i : Int) < (n : Int))) (by kernel_rfl) (fun hb39 => ?_) (fun hb39 => ?_)
    ·replace hb39 : (decide ((i : Int) < (n : Int))) = true := hb39
     have qhb39 := of_decide_eq_true hb39
     refine zzr (zzo ?_)
     refine zzc ?_
     refine zzs ?_
     refine sq9 ?_
     have hl40 := ((pol_take (hx.ext (e11.trans (e14.trans g16.ext))) (by omega)).ext e20).len
     change n = _ at hl40
     obtain ⟨r40, b40, o40, hA40, hc40, hr40⟩ := pol_at ((pol_take (hx.ext (e11.trans (e14.trans g16.ext))) (by omega)).ext e20) (i := i) (by omega)
     refine zzz 28 (o40 + i * 3) (n := n) (off := o40) (sz := 3) (i := (i : Int)) (by omega) hA40 (by omega) (by omega) sl29 ?_
     refine zyl 29 r40.cs hc40 ty41 ?_
     refine zzj 6 ⟨41, [.bool false, .slice none 0 0, .slice none 0 0]⟩ ?_
     refine zzi ⟨41, r40.cs⟩ ty41 ?_
     refine zzb 37 [(4, .slc 34 0 i cp), (6, .adr 6 0), (24, .v (.slice x.a n x.c)), (25, .v (.int .i64 (n : Int))), (26, .v (.int .i64 (i : Int)))] [(6, ⟨41, r40.cs⟩), (34, ⟨41, cs⟩)] ?_
     refine zze ?_
     refine zza 30 (.slc 34 0 i cp) ?_
     refine zzh 31 (.v (r40.v)) ty41 zzd ?_
     refine zzf 32 158 [r40.v] ?_
     intro w41 u41 e41 d41
     have k46 := k_rqTrim d41 (hr40.ext e41) (by omega)
     with_reducible refine Post.mono k46 ?_
     rintro _ u44 g45 ⟨r42, rfl, h43⟩
     refine sy_data 33 ⟨41, r42.cs⟩ 1 (fun b47 u48 e49 h50 => ?_)
     have hp51 : PolN u48 (⟨some ⟨b47, 0, none⟩, 1, 1⟩ : Sl) [((l.take n).getD i 0)] K := pol_lit (L := [r42]) h50 (rats1 (h43.ext e49)) rfl (by decide)
     refine sy_app1 34 (T := 29) (E := 41) (z := .agg #[.bool false, .slice none 0 0, .slice none 0 0]) (size := 3) (bytes := 56) (b := b47) (off := 0) (m := 1) (n := i) (cap := cp) (t := 34) (cs0 := cs) [4, 30, 34] r42.cs (by kernel_rfl) (by kernel_rfl) (by kernel_rfl) (by decide) rfl (lit_news ((Ext.refl _).cells h50)) (rl_one r42) (by decide) (by unfold maxLen; omega) (by omega) (by omega) (by omega) (by omega) (by repeat first | exact noAt_of | refine zyc ?_ | refine zye ?_ | refine zyd ?_ | refine zzx ?_ | refine zya ?_) ?_
     intro c52 cs52 ha52 hb52 hc52 hd52
     have hd52r : cs52.take ((i + 1) * 3) = rcs (L ++ [r42]) := by rw [hd52, ht, rcs_app]; rfl
     refine zza 4 (.slc 34 0 (i + 1) c52) ?_
     refine zzw ?_
     refine zzo ?_
     refine zze ?_
     refine zyp 35 (x := .v (.int .i64 (IntKind.i64.wrap ((i : Int) + 1)))) (.v (.int .i64 ((i + 1 : Nat) : Int))) (eqI (by rw [IntWalk.i64_in _ (by omega)]; omega)) ?_
     refine zza 26 (.v (.int .i64 ((i + 1 : Nat) : Int))) ?_
     refine zzw ?_
     have ht53 : i < (Nt.trimQ l).length := by skip; omega
     refine ⟨_, ?_, St.of 37 [(4, .slc 34 0 (i + 1) c52), (24, .v (.slice x.a n x.c)), (25, .v (.int .i64 (n : Int))), (26, .v (.int .i64 ((i + 1 : Nat) : Int)))] [(34, ⟨41, cs52⟩)], by exact zzu _ _ _, .inr ⟨i + 1, L ++ [r42], cs52, c52, rfl, by omega, by omega, by simp; omega, hc52, by omega, hb52, hd52r, rfl, (e20.trans (e41.trans (g45.ext.trans e49))), (app_next (hR.ext (e41.trans (g45.ext.trans e49))) (RatN.more (K := K) (h43.ext e49) (by omega)) ht53 (by rw [List.getD_eq_getElem?_getD, List.getElem?_take_of_lt (by omega), ← List.getD_eq_getElem?_getD]; exact (Nt.trim_co l i).symm))⟩⟩
     omega
    ·replace hb39 : (decide ((i : Int) < (n : Int))) = false := hb39
     have qhb39 := of_decide_eq_false hb39
     refine zyb ?_
     refine zzo ?_
     refine zzc ?_
     refine zyo (r := 4) (t := 34) [4, 34] (by repeat first | exact noAt_of | refine zyc ?_ | refine zye ?_ | refine zyd ?_ | refine zzx ?_ | refine zya ?_) (by kernel_rfl) (by rfl) (by rfl) (by kernel_rfl) (fun b55 u56 e57 hb58 hh59 => ?_)
     have hp54 : PolN u56 ⟨some ⟨b55, 0, none⟩, i, cp⟩ (Nt.trimQ l) K := by have h8 := pol_data hh59 ht hc hle hmx (hR.ext e57); rw [List.take_of_length_le (l := Nt.trimQ l) (by skip; omega)] at h8; exact h8
     refine zze ?_
     refine zza 36 (.v (.slice (some ⟨b55, 0, none⟩) i cp)) ?_
     refine zza 2 (.v (.slice (some ⟨b55, 0, none⟩) i cp)) ?_
     refine zzb 37 [(2, .v (.slice (some ⟨b55, 0, none⟩) i cp))] [] ?_
     refine zzn (ret0 [.slice (some ⟨b55, 0, none⟩) i cp] ⟨zzp, trivial⟩ fun u60 e61 => ?_)
     refine ⟨(⟨some ⟨b55, 0, none⟩, i, cp⟩ : Sl), rfl, ?_⟩
     exact (hp54.ext e61)
 ·refine zyp 11 (x := .v (.bool (decide ((0 : Int) < (n : Int))))) (.v (.bool false)) (by rw [hs12]) ?_
  have qhs12 := of_decide_eq_false hs12
  refine zzm 12 (uw 2 true false 11) ?_
  refine zzm 13 (uw 2 true false 11) ?_
  refine zzm 14 (uw 2 true false 11) ?_
  refine zzm 15 (uw 2 true false 11) ?_
  refine zzm 16 (uw 2 true false 11) ?_
  refine zzm 17 (uw 2 true false 11) ?_
  refine zzm 18 (uw 2 true false 11) ?_
  refine zza 19 (.v (.bool false)) ?_
  refine zzb 37 [(0, .v x.v), (3, .v (.int .i64 (n : Int))), (19, .v (.bool false))] [] ?_
  refine zyr (by kernel_rfl) ?_
  refine zyb ?_
  refine zzo ?_
  refine zzc ?_
  have he9 := Nt.trim_len_of (l := l) hn hz (fun h => absurd h (by omega))
  clear hz
  refine zze ?_
  refine zza 4 (.v (.slice none 0 0)) ?_
  refine zzb 37 [(0, .v x.v), (3, .v (.int .i64 (n : Int))), (4, .v (.slice none 0 0))] [] ?_
  refine zzc ?_
  refine sq9 ?_
  refine zza 22 (.v x.v) ?_
  refine zza 23 (.v (.int .i64 (n : Int))) ?_
  have hl62 := (hx.ext e11).len
  have hc62 := (hx.ext e11).cap
  refine sy_front 24 (n := x.n) (c := x.c) n sl29 rfl (by omega) ?_
  refine zza 25 (.v (.int .i64 (n : Int))) ?_
  refine zza 26 (.v (.int .i64 0)) ?_
  refine zzb 37 [(4, .v (.slice none 0 0)), (24, .v (.slice x.a n x.c)), (25, .v (.int .i64 (n : Int))), (26, .v (.int .i64 0))] [] ?_
  refine zzs ?_
  refine zym (I := fun m63 S' u' => (m63 = n ∧ S' = St.of 37 [(4, .v (.slice none 0 0)), (24, .v (.slice x.a n x.c)), (25, .v (.int .i64 (n : Int))), (26, .v (.int .i64 0))] [] ∧ Ext u11 u') ∨ (∃ (i : Nat) (L : List RL) (cs : List Value) (cp : Nat), m63 = n - i ∧ i ≤ n ∧ 0 < i ∧ L.length = i ∧ cs.length = cp * 3 ∧ i ≤ cp ∧ cp ≤ maxLen ∧ cs.take (i * 3) = rcs L ∧ S' = St.of 37 [(4, .slc 34 0 i cp), (24, .v (.slice x.a n x.c)), (25, .v (.int .i64 (n : Int))), (26, .v (.int .i64 (i : Int)))] [(34, ⟨41, cs⟩)] ∧ Ext u11 u' ∧ RatsN u' L ((Nt.trimQ l).take i) K)) (fun m S u1 u2 e h => by rcases h with ⟨a, b, c⟩ | ⟨a1, a2, a3, a4, b1, b2, b3, b4, b5, b6, b7, b8, b9, b10, b11⟩; exact .inl ⟨a, b, c.trans e⟩; exact .inr ⟨a1, a2, a3, a4, b1, b2, b3, b4, b5, b6, b7, b8, b9, b10.trans e, b11.ext e⟩) _ (T := St.of 37 [(4, .v (.slice none 0 0)), (24, .v (.slice x.a n x.c)), (25, .v (.int .i64 (n : Int))), (26, .v (.int .i64 0))] []) (by exact zzu _ _ _) (.inl ⟨rfl, rfl, Ext.refl _⟩) ?_
  rintro m63 _ u63 (⟨hm63, rfl, e63⟩ | ⟨i, L, cs, cp, hm63, hi, hp, hL, hc, hle, hmx, ht, rfl, e63, hR⟩)
  ·change SW _ _ _ _ (St.of 37 [(4, .v (.slice none 0 0)), (24, .v (.slice x.a n x.c)), (25, .v (.int .i64 (n : Int))), (26, .v (.int .i64 0))] []) _ _
   refine sq9 ?_
   refine zza 27 (.v (.bool (decide ((0 : Int) < (n : Int))))) ?_
   refine zzb 37 [(4, .v (.slice none 0 0)), (24, .v (.slice x.a n x.c)), (25, .v (.int .i64 (n : Int))), (26, .v (.int .i64 0)), (27, .v (.bool (decide ((0 : Int) < (n : Int)))))] [] ?_
   refine zzc ?_
   refine zzt (b := decide ((0 : Int) < (n : Int))) (by kernel_rfl) (fun hb64 => ?_) (fun hb64 => ?_)
   ·replace hb64 : (decide ((0 : Int) < (n : Int))) = true := hb64
    have qhb64 := of_decide_eq_true hb64
    refine zzr (zzo ?_)
    refine zzc ?_
    refine zzs ?_
    refine sq9 ?_
    have hl65 := ((pol_take (hx.ext e11) (by omega)).ext e63).len
    change n = _ at hl65
    obtain ⟨r65, b65, o65, hA65, hc65, hr65⟩ := pol_at ((pol_take (hx.ext e11) (by omega)).ext e63) (i := 0) (by omega)
    refine zzz 28 (o65 + 0 * 3) (n := n) (off := o65) (sz := 3) (i := 0) (by omega) hA65 (by omega) (by omega) sl29 ?_
    refine zyl 29 r65.cs hc65 ty41 ?_
    refine zzj 6 ⟨41, [.bool false, .slice none 0 0, .slice none 0 0]⟩ ?_
    refine zzi ⟨41, r65.cs⟩ ty41 ?_
    refine zzb 37 [(4, .v (.slice none 0 0)), (6, .adr 6 0), (24, .v (.slice x.a n x.c)), (25, .v (.int .i64 (n : Int))), (26, .v (.int .i64 0))] [(6, ⟨41, r65.cs⟩)] ?_
    refine zze ?_
    refine zza 30 (.v (.slice none 0 0)) ?_
    refine zzh 31 (.v (r65.v)) ty41 zzd ?_
    refine zzf 32 158 [r65.v] ?_
    intro w66 u66 e66 d66
    have k71 := k_rqTrim d66 (hr65.ext e66) (by omega)
    with_reducible refine Post.mono k71 ?_
    rintro _ u69 g70 ⟨r67, rfl, h68⟩
    refine sy_data 33 ⟨41, r67.cs⟩ 1 (fun b72 u73 e74 h75 => ?_)
    have hp76 : PolN u73 (⟨some ⟨b72, 0, none⟩, 1, 1⟩ : Sl) [((l.take n).getD 0 0)] K := pol_lit (L := [r67]) h75 (rats1 (h68.ext e74)) rfl (by decide)
    refine sy_app0 34 (T := 29) (E := 41) (z := .agg #[.bool false, .slice none 0 0, .slice none 0 0]) (size := 3) (bytes := 56) (b := b72) (off := 0) (m := 1) r67.cs (by kernel_rfl) (by kernel_rfl) (by kernel_rfl) (by decide) rfl (lit_news ((Ext.refl _).cells h75)) (rl_one r67) (by decide) (by decide) (by decide) ?_
    intro c77 cs77 ha77 hb77 hc77 hd77
    refine zza 4 (.slc 34 0 1 c77) ?_
    refine zzw ?_
    refine zzo ?_
    refine zze ?_
    refine zza 35 (.v (.int .i64 1)) ?_
    refine zza 26 (.v (.int .i64 1)) ?_
    refine zzw ?_
    have ht78 : 0 < (Nt.trimQ l).length := by skip; omega
    refine ⟨_, ?_, St.of 37 [(4, .slc 34 0 1 c77), (24, .v (.slice x.a n x.c)), (25, .v (.int .i64 (n : Int))), (26, .v (.int .i64 1))] [(34, ⟨41, cs77⟩)], by exact zzu _ _ _, .inr ⟨1, [r67], cs77, c77, rfl, by omega, by omega, by simp, hc77, by omega, hb77, hd77, rfl, (e63.trans (e66.trans (g70.ext.trans e74))), (app_first (RatN.more (K := K) (h68.ext e74) (by omega)) ht78 (by rw [List.getD_eq_getElem?_getD, List.getElem?_take_of_lt (by omega), ← List.getD_eq_getElem?_getD]; exact (Nt.trim_co l 0).symm))⟩⟩
    omega
   ·replace hb64 : (decide ((0 : Int) < (n : Int))) = false := hb64
    have qhb64 := of_decide_eq_false hb64
    refine zyb ?_
    refine zzo ?_
    refine zzc ?_
    have hp79 : PolN u63 ⟨none, 0, 0⟩ (Nt.trimQ l) K := by have h9 : Nt.trimQ l = [] := List.eq_nil_of_length_eq_zero (by skip; omega); rw [h9]; exact pol_nil _ _
    refine zze ?_
    refine zza 36 (.v (.slice none 0 0)) ?_
    refine zza 2 (.v (.slice none 0 0)) ?_
    refine zzb 37 [(2, .v (.slice none 0 0))] [] ?_
    refine zzn (ret0 [.slice none 0 0] ⟨zzp, trivial⟩ fun u80 e81 => ?_)
    refine ⟨⟨none, 0, 0⟩, rfl, ?_⟩
    exact (hp79.ext e81)
  ·change SW _ _ _ _ (St.of 37 [(4, .slc 34 0 i cp), (24, .v (.slice x.a n x.c)), (25, .v (.int .i64 (n : Int))), (26, .v (.int .i64 (i : Int)))] [(34, ⟨41, cs⟩)]) _ _
   refine sq9 ?_
   refine zza 27 (.v (.bool (decide ((i : Int) < (n : Int))))) ?_
   refine zzb 37 [(4, .slc 34 0 i cp), (24, .v (.slice x.a n x.c)), (25, .v (.int .i64 (n : Int))), (26, .v (.int .i64 (i : Int))), (27, .v (.bool (decide ((i : Int) < (n : Int)))))] [(34, ⟨41, cs⟩)] ?_
   refine zzc ?_
   refine zzt (b := decide ((i : Int) < (n : Int))) (by kernel_rfl) (fun hb82 => ?_) (fun hb82 => ?_)
   ·replace hb82 : (decide ((i : Int) < (n : Int))) = true := hb82
    have qhb82 := of_decide_eq_true hb82
    refine zzr (zzo ?_)
    refine zzc ?_
    refine zzs ?_
    refine sq9 ?_
    have hl83 := ((pol_take (hx.ext e11) (by omega)).ext e63).len
    change n = _ at hl83
    obtain ⟨r83, b83, o83, hA83, hc83, hr83⟩ := pol_at ((pol_take (hx.ext e11) (by omega)).ext e63) (i := i) (by omega)
    refine zzz 28 (o83 + i * 3) (n := n) (off := o83) (sz := 3) (i := (i : Int)) (by omega) hA83 (by omega) (by omega) sl29 ?_
    refine zyl 29 r83.cs hc83 ty41 ?_
    refine zzj 6 ⟨41, [.bool false, .slice none 0 0, .slice none 0 0]⟩ ?_
    refine zzi ⟨41, r83.cs⟩ ty41 ?_
    refine zzb 37 [(4, .slc 34 0 i cp), (6, .adr 6 0), (24, .v (.slice x.a n x.c)), (25, .v (.int .i64 (n : Int))), (26, .v (.int .i64 (i : Int)))] [(6, ⟨41, r83.cs⟩), (34, ⟨41, cs⟩)] ?_
    refine zze ?_
    refine zza 30 (.slc 34 0 i cp) ?_
    refine zzh 31 (.v (r83.v)) ty41 zzd ?_
    refine zzf 32 158 [r83.v] ?_
    intro w84 u84 e84 d84
    have k89 := k_rqTrim d84 (hr83.ext e84) (by omega)
    with_reducible refine Post.mono k89 ?_
    rintro _ u87 g88 ⟨r85, rfl, h86⟩
    refine sy_data 33 ⟨41, r85.cs⟩ 1 (fun b90 u91 e92 h93 => ?_)
    have hp94 : PolN u91 (⟨some ⟨b90, 0, none⟩, 1, 1⟩ : Sl) [((l.take n).getD i 0)] K := pol_lit (L := [r85]) h93 (rats1 (h86.ext e92)) rfl (by decide)
    refine sy_app1 34 (T := 29) (E := 41) (z := .agg #[.bool false, .slice none 0 0, .slice none 0 0]) (size := 3) (bytes := 56) (b := b90) (off := 0) (m := 1) (n := i) (cap := cp) (t := 34) (cs0 := cs) [4, 30, 34] r85.cs (by kernel_rfl) (by kernel_rfl) (by kernel_rfl) (by decide) rfl (lit_news ((Ext.refl _).cells h93)) (rl_one r85) (by decide) (by unfold maxLen; omega) (by omega) (by omega) (by omega) (by omega) (by repeat first | exact noAt_of | refine zyc ?_ | refine zye ?_ | refine zyd ?_ | refine zzx ?_ | refine zya ?_) ?_
    intro c95 cs95 ha95 hb95 hc95 hd95
    have hd95r : cs95.take ((i + 1) * 3) = rcs (L ++ [r85]) := by rw [hd95, ht, rcs_app]; rfl
    refine zza 4 (.slc 34 0 (i + 1) c95) ?_
    refine zzw ?_
    refine zzo ?_
    refine zze ?_
    refine zyp 35 (x := .v (.int .i64 (IntKind.i64.wrap ((i : Int) + 1)))) (.v (.int .i64 ((i + 1 : Nat) : Int))) (eqI (by rw [IntWalk.i64_in _ (by omega)]; omega)) ?_
    refine zza 26 (.v (.int .i64 ((i + 1 : Nat) : Int))) ?_
    refine zzw ?_
    have ht96 : i < (Nt.trimQ l).length := by skip; omega
    refine ⟨_, ?_, St.of 37 [(4, .slc 34 0 (i + 1) c95), (24, .v (.slice x.a n x.c)), (25, .v (.int .i64 (n : Int))), (26, .v (.int .i64 ((i + 1 : Nat) : Int)))] [(34, ⟨41, cs95⟩)], by exact zzu _ _ _, .inr ⟨i + 1, L ++ [r85], cs95, c95, rfl, by omega, by omega, by simp; omega, hc95, by omega, hb95, hd95r, rfl, (e63.trans (e84.trans (g88.ext.trans e92))), (app_next (hR.ext (e84.trans (g88.ext.trans e92))) (RatN.more (K := K) (h86.ext e92) (by omega)) ht96 (by rw [List.getD_eq_getElem?_getD, List.getElem?_take_of_lt (by omega), ← List.getD_eq_getElem?_getD]; exact (Nt.trim_co l i).symm))⟩⟩
    omega
   ·replace hb82 : (decide ((i : Int) < (n : Int))) = false := hb82
    have qhb82 := of_decide_eq_false hb82
    refine zyb ?_
    refine zzo ?_
    refine zzc ?_
    refine zyo (r := 4) (t := 34) [4, 34] (by repeat first | exact noAt_of | refine zyc ?_ | refine zye ?_ | refine zyd ?_ | refine zzx ?_ | refine zya ?_) (by kernel_rfl) (by rfl) (by rfl) (by kernel_rfl) (fun b98 u99 e100 hb101 hh102 => ?_)
    have hp97 : PolN u99 ⟨some ⟨b98, 0, none⟩, i, cp⟩ (Nt.trimQ l) K := by have h8 := pol_data hh102 ht hc hle hmx (hR.ext e100); rw [List.take_of_length_le (l := Nt.trimQ l) (by skip; omega)] at h8; exact h8
    refine zze ?_
    refine zza 36 (.v (.slice (some ⟨b98, 0, none⟩) i cp)) ?_
    refine zza 2 (.v (.slice (some ⟨b98, 0, none⟩) i cp)) ?_
    refine zzb 37 [(2, .v (.slice (some ⟨b98, 0, none⟩) i cp))] [] ?_
    refine zzn (ret0 [.slice (some ⟨b98, 0, none⟩) i cp] ⟨zzp, trivial⟩ fun u103 e104 => ?_)
    refine ⟨(⟨some ⟨b98, 0, none⟩, i, cp⟩ : Sl), rfl, ?_⟩
    exact (hp97.ext e104)
theorem k_poDegree {u w : World} {x : Sl} {l : List Rat} {K : Nat} (d : Dat u w) (hx : PolV u x l K) (hK : K ≤ 100000000) (hx9 : l.length ≤ 1000000000) : Calls Tryz.prog 130 #[x.v] w (Post u w fun v u' => v = .int .i64 (((Nt.trimQ l).length : Int) - 1)) := by
 have hlen := hx.len
 have htl := Nt.zzg l
 refine zzl (args := [.slice x.a x.n x.c]) Tryz.func130 rfl Tryz.ntmps130 (rs := [.tmp 2]) Tryz.results130 (le_b rfl) (le_b rfl) d ?_
 refine sq9 ?_
 refine zza 2 (.v (.int .i64 0)) ?_
 refine zzb 7 [(0, .v x.v)] [] ?_
 refine sq9 ?_
 refine zza 3 (.v x.v) ?_
 refine zzf 4 128 [x.v] ?_
 intro w11 u11 e11 d11
 have k14 := k_cut d11 (hx.ext e11) (by omega) (by first|omega|(simp;omega) | (refine Nat.le_trans (Nt.zzg _) ?_; first|omega|(simp;omega)) | (refine Nat.le_trans (Nt.zzg _) ?_; simp only [List.length_map]; refine Nat.le_trans (Nt.zzg _) ?_; first|omega|(simp;omega)))
 with_reducible refine Post.mono k14 ?_
 rintro _ u12 g13 rfl
 refine zza 5 (.v (.int .i64 (((Nt.trimQ l).length : Nat) : Int))) ?_
 refine zyp 6 (x := .v (.int .i64 (IntKind.i64.wrap (((Nt.trimQ l).length : Int) - 1)))) (.v (.int .i64 (((Nt.trimQ l).length : Int) - 1))) (by rw [IntWalk.i64_in _ (by omega)]) ?_
 refine zza 2 (.v (.int .i64 (((Nt.trimQ l).length : Int) - 1))) ?_
 refine zzb 7 [(2, .v (.int .i64 (((Nt.trimQ l).length : Int) - 1)))] [] ?_
 refine zzn (ret0 [.int .i64 (((Nt.trimQ l).length : Int) - 1)] ⟨zzp, trivial⟩ fun u15 e16 => ?_)
 rfl
set_option maxHeartbeats 1000000 in
theorem k_sameList {u w : World} {x : Sl} {l : List Rat} {y : Sl} {m : List Rat} {K M : Nat} (d : Dat u w) (hx : PolN u x l K) (hy : PolN u y m M) (hx9 : l.length ≤ 1000000000) (hy9 : m.length ≤ 1000000000) : Calls Tryz.prog 184 #[x.v, y.v] w (Post u w fun v u' => v = .bool (decide (l = m))) := by
 have hlen := hx.len
 have hlen2 := hy.len
 refine zzl (args := [.slice x.a x.n x.c, .slice y.a y.n y.c]) Tryz.func184 rfl Tryz.ntmps184 (rs := [.tmp 4]) Tryz.results184 (le_b rfl) (le_b rfl) d ?_
 refine sq9 ?_
 refine zza 4 (.v (.bool false)) ?_
 refine zzb 27 [(0, .v x.v), (1, .v y.v)] [] ?_
 refine zzc ?_
 refine sq9 ?_
 refine zza 6 (.v x.v) ?_
 refine zza 7 (.v (.int .i64 (x.n : Int))) ?_
 refine zza 8 (.v y.v) ?_
 refine zza 9 (.v (.int .i64 (y.n : Int))) ?_
 refine zza 10 (.v (.bool ((x.n : Int) != (y.n : Int)))) ?_
 refine zzb 27 [(0, .v x.v), (1, .v y.v), (10, .v (.bool ((x.n : Int) != (y.n : Int))))] [] ?_
 refine zzt (b := (x.n : Int) != (y.n : Int)) (by kernel_rfl) (fun hb11 => ?_) (fun hb11 => ?_)
 ·replace hb11 : ((x.n : Int) != (y.n : Int)) = true := hb11
  refine sq9 ?_
  refine zza 4 (.v (.bool false)) ?_
  refine zzb 27 [(4, .v (.bool false))] [] ?_
  refine zzn (zzv (ret0 [.bool false] ⟨zzp, trivial⟩ fun u12 e13 => ?_))
  have e9 : l ≠ m := by intro e; have h9 := congrArg List.length e; have h8 := hb11; simp at h8; omega
  show Value.bool false = Value.bool _
  rw [decide_eq_false e9]
 ·replace hb11 : ((x.n : Int) != (y.n : Int)) = false := hb11
  have hnn : x.n = y.n := by have h9 : (x.n : Int) = (y.n : Int) := (by simpa using hb11); omega
  refine zzr (zzo ?_)
  refine zzc ?_
  refine sq9 ?_
  refine zza 5 (.v (.int .i64 0)) ?_
  refine zzb 27 [(0, .v x.v), (1, .v y.v), (5, .v (.int .i64 0))] [] ?_
  refine zzs ?_
  refine zym (I := fun m14 S' u' => ∃ (i : Nat), (m14 = x.n - i) ∧ (i ≤ x.n) ∧ (∀ j, j < i → l.getD j 0 = m.getD j 0) ∧ (S' = St.of 27 [(0, .v (.slice x.a x.n x.c)), (1, .v (.slice y.a y.n y.c)), (5, .v (.int .i64 (i : Int)))] []) ∧ (Ext u u')) (fun m S u1 u2 e h => by obtain ⟨i, hm, p0, p1, hS, hE⟩ := h; exact ⟨i, hm, p0, p1, hS, hE.trans e⟩) _ (T := St.of 27 [(0, .v (.slice x.a x.n x.c)), (1, .v (.slice y.a y.n y.c)), (5, .v (.int .i64 0))] []) (by exact zzu _ _ _) ⟨0, rfl, by omega, fun j hj => by omega, rfl, Ext.refl _⟩ ?_
  rintro m14 _ u14 ⟨i, hm14, hi, hz, rfl, e14⟩
  refine zzc ?_
  refine sq9 ?_
  refine zza 11 (.v (.int .i64 (i : Int))) ?_
  refine zza 12 (.v x.v) ?_
  refine zza 13 (.v (.int .i64 (x.n : Int))) ?_
  refine zza 14 (.v (.bool (decide ((i : Int) < (x.n : Int))))) ?_
  refine zzb 27 [(0, .v x.v), (1, .v y.v), (5, .v (.int .i64 (i : Int))), (14, .v (.bool (decide ((i : Int) < (x.n : Int)))))] [] ?_
  refine zzt (b := decide ((i : Int) < (x.n : Int))) (by kernel_rfl) (fun hb15 => ?_) (fun hb15 => ?_)
  ·replace hb15 : (decide ((i : Int) < (x.n : Int))) = true := hb15
   have qhb15 := of_decide_eq_true hb15
   refine zzr (zzo ?_)
   refine zzc ?_
   refine zzs ?_
   refine zzc ?_
   refine zzy [0, 0, 3, 7, 0, 0, 48, 112, 255, 511] [(0, []), (1, []), (2, []), (3, []), (4, []), (5, []), (6, []), (7, []), (8, []), (9, [])] (by kernel_rfl) (by kernel_rfl) ?_
   refine zza 17 (.v x.v) ?_
   refine zza 18 (.v (.int .i64 (i : Int))) ?_
   have hl16 := (hx.ext e14).len
   obtain ⟨r16, b16, o16, hA16, hc16, hr16⟩ := pol_atN (hx.ext e14) (i := i) (by omega)
   refine zzz 19 (o16 + i * 3) (n := x.n) (off := o16) (sz := 3) (i := (i : Int)) (by omega) hA16 (by omega) (by omega) sl28 ?_
   refine zyl 20 r16.cs hc16 ty41 ?_
   refine zza 21 (.v y.v) ?_
   refine zza 22 (.v (.int .i64 (i : Int))) ?_
   have hl17 := (hy.ext e14).len
   obtain ⟨r17, b17, o17, hA17, hc17, hr17⟩ := pol_atN (hy.ext e14) (i := i) (by omega)
   refine zzz 23 (o17 + i * 3) (n := y.n) (off := o17) (sz := 3) (i := (i : Int)) (by omega) hA17 (by omega) (by omega) sl28 ?_
   refine zyl 24 r17.cs hc17 ty41 ?_
   refine zzf 25 208 [r16.v, r17.v] ?_
   intro w18 u18 e18 d18
   have k21 := k_rqSame d18 (hr16.ext e18) (hr17.ext e18)
   with_reducible refine Post.mono k21 ?_
   rintro _ u19 g20 rfl
   refine zza 26 (.v (.bool (!(decide ((l.getD i 0) = (m.getD i 0)))))) ?_
   refine zzb 27 [(0, .v x.v), (1, .v y.v), (5, .v (.int .i64 (i : Int))), (26, .v (.bool (!(decide ((l.getD i 0) = (m.getD i 0))))))] [] ?_
   refine zzt (b := !(decide ((l.getD i 0) = (m.getD i 0)))) (by kernel_rfl) (fun hb22 => ?_) (fun hb22 => ?_)
   ·replace hb22 : (!(decide ((l.getD i 0) = (m.getD i 0)))) = true := hb22
    refine sq9 ?_
    refine zza 4 (.v (.bool false)) ?_
    refine zzb 27 [(4, .v (.bool false))] [] ?_
    refine zzn (zyt (zzv (zys (zyt (zzv (ret0 [.bool false] ⟨zzp, trivial⟩ fun u23 e24 => ?_))))))
    have e9 : l ≠ m := by intro e; have h9 := hb22; rw [e] at h9; simp at h9
    show Value.bool false = Value.bool _
    rw [decide_eq_false e9]
   ·replace hb22 : (!(decide ((l.getD i 0) = (m.getD i 0)))) = false := hb22
    refine zzr (zzo ?_)
    refine zze ?_
    refine zza 15 (.v (.int .i64 (i : Int))) ?_
    refine zyp 16 (x := .v (.int .i64 (IntKind.i64.wrap ((i : Int) + 1)))) (.v (.int .i64 ((i + 1 : Nat) : Int))) (eqI (by rw [IntWalk.i64_in _ (by omega)]; omega)) ?_
    refine zza 5 (.v (.int .i64 ((i + 1 : Nat) : Int))) ?_
    refine zzw ?_
    refine ⟨_, ?_, St.of 27 [(0, .v (.slice x.a x.n x.c)), (1, .v (.slice y.a y.n y.c)), (5, .v (.int .i64 ((i + 1 : Nat) : Int)))] [], by exact zzu _ _ _, i + 1, rfl, by omega, (fun j hj => by by_cases e : j = i; (rw [e]; have h9 := hb22; simpa using h9); exact hz j (by omega)), rfl, (e14.trans (e18.trans g20.ext))⟩
    omega
  ·replace hb15 : (decide ((i : Int) < (x.n : Int))) = false := hb15
   have qhb15 := of_decide_eq_false hb15
   refine zyb ?_
   refine zzo ?_
   refine sq9 ?_
   refine zza 4 (.v (.bool true)) ?_
   refine zzb 27 [(4, .v (.bool true))] [] ?_
   refine zzn (ret0 [.bool true] ⟨zzp, trivial⟩ fun u25 e26 => ?_)
   have e9 : l = m := Nt.list_ext (by omega) (fun j => by by_cases hj : j < i; exact hz j hj; rw [Nt.co_ge (by omega), Nt.co_ge (by omega)])
   show Value.bool true = Value.bool _
   rw [decide_eq_true e9]
theorem k_r5Equal {u w : World} {x : Sl} {l : List Rat} {y : Sl} {m : List Rat} {K M : Nat} (d : Dat u w) (hx : PolN u x l K) (hy : PolN u y m M) (hx9 : l.length ≤ 1000000000) (hy9 : m.length ≤ 1000000000) : Calls Tryz.prog 151 #[x.v, y.v] w (Post u w fun v u' => v = .bool (decide (l = m))) := by
 have hlen := hx.len
 have hlen2 := hy.len
 refine zzl (args := [.slice x.a x.n x.c, .slice y.a y.n y.c]) Tryz.func151 rfl Tryz.ntmps151 (rs := [.tmp 4]) Tryz.results151 (le_b rfl) (le_b rfl) d ?_
 refine sq9 ?_
 refine zza 4 (.v (.bool false)) ?_
 refine zzb 8 [(0, .v x.v), (1, .v y.v)] [] ?_
 refine sq9 ?_
 refine zza 5 (.v x.v) ?_
 refine zza 6 (.v y.v) ?_
 refine zzf 7 184 [x.v, y.v] ?_
 intro w11 u11 e11 d11
 have k14 := k_sameList d11 (hx.ext e11) (hy.ext e11) (by first|omega|(simp;omega) | (refine Nat.le_trans (Nt.zzg _) ?_; first|omega|(simp;omega)) | (refine Nat.le_trans (Nt.zzg _) ?_; simp only [List.length_map]; refine Nat.le_trans (Nt.zzg _) ?_; first|omega|(simp;omega))) (by first|omega|(simp;omega) | (refine Nat.le_trans (Nt.zzg _) ?_; first|omega|(simp;omega)) | (refine Nat.le_trans (Nt.zzg _) ?_; simp only [List.length_map]; refine Nat.le_trans (Nt.zzg _) ?_; first|omega|(simp;omega)))
 with_reducible refine Post.mono k14 ?_
 rintro _ u12 g13 rfl
 refine zza 4 (.v (.bool (decide (l = m)))) ?_
 refine zzb 8 [(4, .v (.bool (decide (l = m))))] [] ?_
 refine zzn (ret0 [.bool (decide (l = m))] ⟨zzp, trivial⟩ fun u15 e16 => ?_)
 rfl
namespace Nt
namespace Pol
theorem monic_zero : (0 : Pol).monic = 0 := by unfold monic; rw [mul_zero]
theorem IsGcd.mul {p q g : Pol} (h : IsGcd p q g) (r : Pol) : IsGcd (p * r) (q * r) (g * r).monic := by
 obtain ⟨u1, e1⟩ := h.l
 obtain ⟨u2, e2⟩ := h.r
 obtain ⟨s, t, e3⟩ := h.s
 by_cases h0 : g * r = 0
 ·rw [h0, monic_zero]
  exact ⟨.inl rfl, ⟨0, by rw [e1]; grind⟩, ⟨0, by rw [e2]; grind⟩, ⟨0, 0, by grind⟩⟩
 ·have h1 := lead_ne h0
  have h2 := C_inv h1
  refine ⟨.inr (monic_lead h0), ⟨C (g * r).lead * u1, ?_⟩, ⟨C (g * r).lead * u2, ?_⟩, ⟨C (1 / (g * r).lead) * s, C (1 / (g * r).lead) * t, ?_⟩⟩
  ·unfold monic; grind
  ·unfold monic; grind
  ·unfold monic; grind
theorem npow_zero (p : Pol) : npow p 0 = 1 := rfl
theorem npow_succ (p : Pol) (n : Nat) : npow p (n + 1) = npow p n * p := rfl
end Pol
section
variable {l m : List Rat} {D E A B n : Nat}
theorem Sm.npow (h : Sm l D A) (n : Nat) : Sm (Pol.npow (Pol.mk' l) n).l (D ^ n) (n * (A + l.length)) := by
 induction n with
 | zero =>
  rw [Pol.npow_zero, Nat.pow_zero, Nat.zero_mul]
  exact (show Sm (List.map (fun z : Int => (z : Rat)) [1]) 1 0 from Sm.ofInts (by decide)).trim
 | succ n ih =>
  rw [Pol.npow_succ, Nat.pow_succ, Nat.add_mul, Nat.one_mul]
  have h9 := (ih.mulR (h.trim : Sm (Pol.mk' l).l D A)).trim.more (B := n * (A + l.length) + (A + l.length)) (by have h8 := zzg l; change _ + A + (trimQ l).length ≤ _; omega)
  exact h9
theorem len_of_co {a : Nat} (h : ∀ i, a ≤ i → Nt.co l i = 0) : (trimQ l).length ≤ a := Pol.len_le (p := Pol.mk' l) fun i hi => by rw [Pol.mk_c]; exact h i hi
theorem mul_lenQ {a b : Nat} (h1 : l.length ≤ a) (h2 : m.length ≤ b) : (trimQ (mulQ l m)).length ≤ a + b - 1 := len_of_co fun i hi => mulQ_far (by omega)
theorem add_lenQ {a b : Nat} (h1 : l.length ≤ a) (h2 : m.length ≤ b) : (trimQ (addQ l m)).length ≤ max a b := Nat.le_trans (zzg _) (by rw [addQ_len]; omega)
theorem map_lenQ {a : Nat} {f : Rat → Rat} (h1 : l.length ≤ a) : (trimQ (l.map f)).length ≤ a := Nat.le_trans (zzg _) (by rw [List.length_map]; omega)
end
end Nt
namespace Nt
section
variable {p q : List Rat} {u v x y : Pol}
end
end Nt
end Go.Proofs.YtdmpfhhhlhoeiaaGreat
namespace Go.Proofs.YtdmpfhhhlhoeiaaGreat.Nt
open Go.RowKit
open Pol
set_option linter.unusedVariables false
section
variable {P q ps qs l m p : List Rat} {A B D E F a b K : Nat} {c x y : Rat}
def nxQ (q ps : List Rat) : List Rat := subN (ps.length - q.length) (ps.getD (ps.length - 1) 0 / q.getD (q.length - 1) 0) q (ps.take (ps.length - 1)) (q.length - 1)
theorem nx_co (hn : q.length ≤ ps.length) (hm : 0 < q.length) (hq : co q (q.length - 1) ≠ 0) (i : Nat) :
  co (nxQ q ps) i = co ps i - (if ps.length - q.length ≤ i then co ps (ps.length - 1) / co q (q.length - 1) * co q (i - (ps.length - q.length)) else 0) := by
 unfold nxQ
 rw [subN_co (by rw [List.length_take]; omega)]
 change _ - (if _ then co ps (ps.length - 1) / co q (q.length - 1) * _ else 0) = _
 obtain ⟨c, hc⟩ : ∃ c, co ps (ps.length - 1) / co q (q.length - 1) = c := ⟨_, rfl⟩
 rw [hc]
 by_cases h1 : i < ps.length - 1
 ·rw [co_take h1]
  change co ps i - _ = _
  by_cases h2 : ps.length - q.length ≤ i
  ·rw [if_pos h2, if_pos (by omega)]
  ·rw [if_neg h2, if_neg (by omega)]
 ·rw [co_ge (l := ps.take _) (by rw [List.length_take]; omega), if_neg (by omega), if_pos (by omega)]
  by_cases h2 : i = ps.length - 1
  ·rw [h2, show ps.length - 1 - (ps.length - q.length) = q.length - 1 by omega, ← hc]; grind
  ·rw [co_ge (by omega), co_ge (l := q) (by omega)]; grind
theorem nx_len (hn : q.length ≤ ps.length) (hm : 0 < q.length) : (trimQ (nxQ q ps)).length < ps.length := by
 have h9 := zzg (nxQ q ps)
 unfold nxQ at h9 ⊢
 rw [subN_len, List.length_take] at h9
 omega
structure RefI (P q qs ps : List Rat) : Prop where
 ql : qs.length = P.length + 1 - q.length
 pl : ps.length ≤ P.length
 qz : ∀ j, j + q.length ≤ ps.length → co qs j = 0
 eq : ∀ i, co P i = co (mulQ qs q) i + co ps i
theorem RefI.begin (P q : List Rat) : RefI P q (List.replicate (P.length + 1 - q.length) 0) P := by
 have h0 : ∀ j, co (List.replicate (P.length + 1 - q.length) 0) j = 0 := fun j => by
  unfold co; rw [List.getD_eq_getElem?_getD, List.getElem?_replicate]; split <;> rfl
 exact ⟨by simp, Nat.le_refl _, fun j _ => h0 j, fun i => by rw [mulQ_zero h0]; grind⟩
theorem RefI.step (h : RefI P q qs ps) (hn : q.length ≤ ps.length) (hm : 0 < q.length) (hq : co q (q.length - 1) ≠ 0) :
  RefI P q (qs.set (ps.length - q.length) (ps.getD (ps.length - 1) 0 / q.getD (q.length - 1) 0)) (trimQ (nxQ q ps)) := by
 have hl := nx_len hn hm
 have hp := h.pl
 have hk : ps.length - q.length < qs.length := by rw [h.ql]; omega
 refine ⟨by rw [List.length_set]; exact h.ql, by omega, fun j hj => ?_, fun i => ?_⟩
 ·rw [co_set hk, if_neg (by omega)]
  exact h.qz j (by omega)
 ·rw [mulQ_set hk (h.qz _ (by omega)), trim_co, nx_co hn hm hq, h.eq i]
  change _ = _ + (if _ then co ps (ps.length - 1) / co q (q.length - 1) * _ else 0) + _
  split <;> grind
theorem RefI.done (h : RefI P q qs ps) : Pol.mk' P = Pol.mk' qs * Pol.mk' q + Pol.mk' ps := by
 refine Pol.ext fun i => ?_
 rw [c_add, ← mk_mul, mk_c, mk_c, mk_c]
 exact h.eq i
theorem div_go (hB : WhL q b) (hq : 0 < q.length) (hl : co q (q.length - 1) ≠ 0) : ∀ (n k : Nat) (s t : List Rat) (f : Rat), k + n = p.length → (k = 0 ∨ q.length ≤ n + 1) → DivI p q n s t f → WhL t (a + k * (b + 1)) →
  ∃ s t f, DivR p q s t f ∧ WhL t (a + (p.length - q.length + 1) * (b + 1)) := by
 intro n
 have stop : ∀ (n k : Nat) (s t : List Rat) (f : Rat), k + n = p.length → (k = 0 ∨ q.length ≤ n + 1) → n < q.length → DivI p q n s t f → WhL t (a + k * (b + 1)) → ∃ s t f, DivR p q s t f ∧ WhL t (a + (p.length - q.length + 1) * (b + 1)) := by
  intro n k s t f hk hs h hD hW
  refine ⟨s, _, f, hD.done h, (hW.take _).more (Nat.add_le_add_left (Nat.mul_le_mul_right _ ?_) _)⟩
  omega
 induction n with
 | zero =>
  intro k s t f hk hs hD hW
  exact stop 0 k s t f hk hs hq hD hW
 | succ n ih =>
  intro k s t f hk hs hD hW
  by_cases h : n + 1 < q.length
  ·exact stop (n + 1) k s t f hk hs h hD hW
  ·have h1 := hD.step (by omega) (by omega) hq hl (x := co t n) (d := co q (q.length - 1)) hl rfl
   refine ih (k + 1) _ _ _ (by omega) (.inr (by omega)) h1 ?_
   have hd : Wh (co q (q.length - 1)) b := hB _
   refine WhL.more (WhL.subN (hW.map hd) (fun i => (hW n).mul (hB i)) (by rw [List.length_map, hD.tl]; omega)) ?_
   rw [Nat.add_mul]; omega
theorem div_exists (hA : WhL p a) (hB : WhL q b) (hq : Nrm q) (hq0 : 0 < q.length) : ∃ s t f, DivR p q s t f ∧ WhL t (a + (p.length - q.length + 1) * (b + 1)) :=
 div_go hB hq0 (nrm_last hq (by rintro rfl; simp at hq0)) p.length 0 _ _ _ (by omega) (.inl rfl) (DivI.begin p q) (by rw [Nat.zero_mul]; exact hA)
theorem monic_Cmul {k : Rat} (hk : k ≠ 0) (r : Pol) : (C k * r).monic = r.monic := by
 by_cases h0 : r = 0
 ·rw [h0, mul_zero]
 ·have h1 := lead_ne h0
  have h2 : (C k * r).lead = k * r.lead := by rw [lead_mul (C_ne hk) h0, lead_C hk]
  unfold monic
  rw [h2, ← mul_assoc, ← C_mul]
  congr 2
  grind
theorem C_unit {k : Rat} (hk : k ≠ 0) : C k * C (1 / k) = 1 := C_inv hk
structure GcdI (l m p q pa pb : List Rat) (A H : Nat) : Prop where
 ep : p = (mk' pa).monic.l
 eq : q = (mk' pb).monic.l
 nb : Nrm pb
 wa : WhL pa A
 wb : WhL pb A
 pt : (A + 1) * (A + 1) * 3 ^ pot pa.length pb.length ≤ H * H
 s : Same (mk' l) (mk' m) (mk' pa) (mk' pb)
theorem GcdI.begin {H : Nat} (hA : WhL (prim l) A) (hB : WhL (prim m) A) (hH : (A + 1) * (A + 1) * 3 ^ pot (trimQ l).length (trimQ m).length ≤ H * H) :
  GcdI l m (mk' l).monic.l (mk' m).monic.l (prim l) (prim m) A H := by
 have e : ∀ l, (mk' l).monic.l = (mk' (prim l)).monic.l := fun l => by
  obtain ⟨k, hk, e⟩ := prim_mk' l
  rw [e, monic_Cmul hk]
 exact ⟨e l, e m, prim_nrm m, hA, hB, by rw [prim_len, prim_len]; exact hH, prim_same l m⟩
theorem monic_nz {r : Pol} (h : r ≠ 0) : ∃ k : Rat, k ≠ 0 ∧ r.monic = C k * r := by
 have h1 := lead_ne h
 exact ⟨1 / r.lead, by intro k; have : (1 : Rat) = (1 / r.lead) * r.lead := by grind
                       rw [k] at this; grind, rfl⟩
theorem GcdI.step {pa pb : List Rat} {H : Nat} {u r : Pol} (h : GcdI l m p q pa pb A H) (hq : 0 < q.length) (e : mk' p = u * mk' q + r) (hr : r.len < (mk' q).len) :
  ∃ pc A', GcdI l m q r.monic.l pb pc A' H := by
 have hb0 : mk' pb ≠ 0 := by
  intro e0
  rw [h.eq, e0, monic_zero, zero_l] at hq
  simp at hq
 have hpb : 0 < pb.length := by
  cases hp : pb with
  | nil => exact absurd (by rw [hp]; rfl) hb0
  | cons x y => simp
 obtain ⟨s, t, f, hD, hW⟩ := div_exists h.wa h.wb h.nb hpb
 obtain ⟨β, hβ, eβ⟩ := monic_nz hb0
 have hpol := hD.pol
 have h2 : (prim t).length < pb.length := by rw [prim_len]; exact Nat.lt_of_le_of_lt (zzg t) hD.lt
 have h3 : (prim t).length ≤ pa.length := by rw [prim_len]; exact Nat.le_trans (zzg t) hD.tl
 refine ⟨prim t, A + (pa.length - pb.length + 1) * (A + 1), h.eq, ?_, prim_nrm t, h.wb.more (by omega), prim_of_wh hW, pot_step h.pt h2 h3, same_step h.s hD⟩
 have hf := C_unit hD.f0
 have hmq : mk' q = C β * mk' pb := by rw [h.eq, mk_l, eβ]
 have hCβ := C_unit hβ
 obtain ⟨α, hα, eα⟩ : ∃ α : Rat, α ≠ 0 ∧ mk' p = C α * mk' pa := by
  rw [h.ep, mk_l]
  by_cases h0 : mk' pa = 0
  ·exact ⟨1, by decide, by rw [h0, monic_zero, mul_zero]⟩
  ·obtain ⟨k, hk, e⟩ := monic_nz h0
   exact ⟨k, hk, e⟩
 have e2 : u * mk' q + r = (C (1 / f) * C α * mk' s * C (1 / β)) * mk' q + C (1 / f * α) * mk' t := by
  rw [← e, eα, hmq, C_mul]; grind
 have hκ : 1 / f * α ≠ 0 := by
  have := hD.f0
  intro k
  have h7 : α = f * (1 / f * α) := by grind
  rw [k] at h7; grind
 have hlt : (C (1 / f * α) * mk' t).len < (mk' q).len := by
  rw [len_Cmul hκ, hmq, len_Cmul hβ, mk_len_nrm h.nb]
  exact Nat.lt_of_le_of_lt (mk_len t) hD.lt
 have h5 := div_unique e2 hr hlt
 obtain ⟨k, hk, e3⟩ := prim_mk' t
 rw [h5.2, monic_Cmul hκ, e3, monic_Cmul hk]
theorem GcdI.done {pa pb : List Rat} {H : Nat} (h : GcdI l m p q pa pb A H) (hq : q.length = 0) : IsGcd (mk' l) (mk' m) (mk' p) ∧ (∃ k : Rat, k ≠ 0 ∧ ∀ i, co p i = k * co pa i) ∧ WhL pa H := by
 have hb0 : mk' pb = 0 := by
  apply Classical.byContradiction
  intro k
  have h1 := monic_lead k
  have h2 : (mk' pb).monic ≠ 0 := by intro e; rw [e] at h1; unfold lead at h1; rw [c_zero] at h1; exact absurd h1 (by decide)
  have h3 := len_pos h2
  rw [h.eq] at hq
  unfold len at h3
  omega
 have hs := h.s
 rw [hb0] at hs
 refine ⟨by rw [h.ep, mk_l]; exact hs.gcd, by rw [h.ep]; exact monic_scaled pa, h.wa.more ?_⟩
 have := pot_le h.pt; omega
theorem GcdI.le {pa pb : List Rat} {H : Nat} (h : GcdI l m p q pa pb A H) : A ≤ H := by have := pot_le h.pt; omega
theorem GcdI.steps {pa pb : List Rat} {H : Nat} (h : GcdI l m p q pa pb A H) (hq : 0 < q.length) : A + ((trimQ p).length - (trimQ q).length + 1) * (A + 1) ≤ H := by
 have h1 := pot_step h.pt (lr := 0)
 have hp : (trimQ p).length ≤ pa.length := by
  refine Nat.le_trans (zzg p) ?_
  rw [h.ep]
  refine Nat.le_trans (?_ : (mk' pa).monic.l.length ≤ (mk' pa).len) (mk_len pa)
  by_cases h0 : mk' pa = 0
  ·rw [h0, monic_zero]; exact Nat.le_refl _
  ·obtain ⟨k, hk, e⟩ := monic_nz h0
   rw [e]; exact Nat.le_of_eq (len_Cmul hk _)
 have hb0 : mk' pb ≠ 0 := by
  intro e0
  rw [h.eq, e0, monic_zero, zero_l] at hq
  simp at hq
 have hq2 : (trimQ q).length = pb.length := by
  rw [show trimQ q = q by rw [h.eq]; exact (mk' pb).monic.h, h.eq]
  obtain ⟨k, hk, e⟩ := monic_nz hb0
  rw [e]
  exact (len_Cmul hk (mk' pb)).trans (mk_len_nrm h.nb)
 have hpb : 0 < pb.length := by
  cases hp : pb with
  | nil => exact absurd (by rw [hp]; rfl) hb0
  | cons x y => simp
 have h2 := pot_le (h1 hpb (Nat.zero_le _))
 have h3 : ((trimQ p).length - (trimQ q).length + 1) * (A + 1) ≤ (pa.length - pb.length + 1) * (A + 1) := Nat.mul_le_mul_right _ (by omega)
 omega
end
end Go.Proofs.YtdmpfhhhlhoeiaaGreat.Nt
namespace Go.Proofs.YtdmpfhhhlhoeiaaGreat
open Go.RowKit
set_option linter.unusedVariables false
section
variable {P : Program} {u0 u u' w w' : World} {S : St} {B : Tmp → Nat} {a : Act} {c : Code} {w0 : Base}
variable {ops : Array Oper} {o : Oper} {p : List Tmp} {rest : List (Oper × List Tmp)} {K : St → World → Prop}
theorem sy_max0 (d : Tmp) {x : Operand} {k0 : IntKind} {n v : Int} {tys : Array TypeId} (hv : (if (0 : Int) > n then 0 else n) = v)
  (k : sym P ops w0 u0 true rest (S.set d (.v (.int k0 v))) u K)
  (hw : Wants ops o S := by exact wants0 (by kernel_rfl)) (hd : o.dst = some d := by kernel_rfl) (hop : o.op = .call { callee := .builtin .max, args := #[x, .const (.int k0 0)], argTypes := tys } := by rfl) (hf : freeB S d = true := by kernel_rfl)
  (hx : evO S x = some (.v (.int k0 n)) := by rfl) : sym P ops w0 u0 true ((o, p) :: rest) S u K := by
 refine .inr (.inr (.inl ⟨.inl rfl, fun B a w u' he hrep => ⟨hw B a hrep.regs, ?_⟩⟩))
 have hrun : ∀ ty w, (Builtin.max_ tys ty #[.int k0 n, .int k0 0]).run P w = .ok (.int k0 v) w := by
  intro ty w
  rw [← hv]
  rfl
 have hc0 : a.eval (Operand.const (.int k0 0)) = .int k0 0 := rfl
 unfold Oper.wp execOp
 simp only [hop, resolve, invoke, builtin, Sem.run_bind, Sem.run_pure, Result.andThen_ok, List.map_toArray, List.map_cons, List.map_nil, ev_of hrep.regs hx, SV.conc, hc0, hrun]
 have hr2 := hrep.set (d := o.dst) (x := some (.v (.int k0 v))) (v := .int k0 v) (fun s hs => (free_of hd hf s hs).1) (fun z e => by injection e with e; rw [← e]; rfl) (fun z t e ht => by injection e with e; rw [← e] at ht; cases ht)
 show ∃ S' B' u'' u2, Rep w0 u0 S' B' (a.put o.dst _) w u'' ∧ _
 refine ⟨_, B, u', u, hr2, fun _ => Ext.refl _, fun _ => Ext.refl _, he, ?_⟩
 rw [hd]; exact k
end
section
variable {u u' : World} {L : List RL} {l : List Rat} {q : Rat} {r : RL} {K i b n c : Nat} {x : Sl}
theorem RatsV.set (h : RatsV u L l K) (hi : i < l.length) (hr : RatV u r q K) : RatsV u (L.set i r) (l.set i q) K := by
 refine ⟨by simpa using h.1, fun j hj => ?_⟩
 rw [List.length_set] at hj
 rw [List.getD_eq_getElem?_getD, List.getD_eq_getElem?_getD, List.getElem?_set, List.getElem?_set]
 by_cases e : i = j
 ·subst e
  rw [if_pos rfl, if_pos rfl, if_pos hi, if_pos (by rw [h.1]; exact hi)]
  exact hr
 ·rw [if_neg e, if_neg e, ← List.getD_eq_getElem?_getD, ← List.getD_eq_getElem?_getD]
  exact h.2 j hj
theorem RatsV.zeros (u : World) (n : Nat) : RatsV u (List.replicate n rl0) (List.replicate n 0) 1 := by
 refine ⟨by simp, fun i hi => ?_⟩
 rw [List.length_replicate] at hi
 rw [List.getD_eq_getElem?_getD, List.getD_eq_getElem?_getD, List.getElem?_replicate, List.getElem?_replicate, if_pos hi, if_pos hi]
 exact rat_nil _
theorem RatsN.fitR {M : Nat} (h : RatsN u L l K) (k : ∀ i, Nt.rs (l.getD i 0) ≤ M) : RatsN u L l M := ⟨h.1, fun i hi => (h.2 i hi).fit (k i)⟩
theorem PolN.fitR {M : Nat} (h : PolN u x l K) (k : ∀ i, Nt.rs (l.getD i 0) ≤ M) : PolN u x l M := by obtain ⟨L, h1, h2⟩ := h; exact ⟨L, h1, h2.fitR k⟩
end
end Go.Proofs.YtdmpfhhhlhoeiaaGreat
namespace Go.Proofs.YtdmpfhhhlhoeiaaGreat
open Go.RowKit
set_option linter.unusedVariables false
set_option maxHeartbeats 2000000 in
theorem k_poSub {u w : World} {x : Sl} {l : List Rat} {y : Sl} {m : List Rat} {K M : Nat} (d : Dat u w) (hx : PolV u x l K) (hy : PolV u y m M) (hK : K ≤ 40000000) (hM : M ≤ 40000000) (hx9 : l.length ≤ 1000000000) (hy9 : m.length ≤ 1000000000) : Calls Tryz.prog 96 #[x.v, y.v] w (Post u w fun v u' => ∃ y : Sl, v = y.v ∧ PolN u' y (Nt.trimQ (Nt.addQ l (m.map (fun z => -z)))) (K + M + 1)) := by
 have hlen := hx.len
 have hlen2 := hy.len
 refine zzl (args := [.slice x.a x.n x.c, .slice y.a y.n y.c]) Tryz.func96 rfl Tryz.ntmps96 (rs := [.tmp 4]) Tryz.results96 (le_b rfl) (le_b rfl) d ?_
 refine sq9 ?_
 refine zza 4 (.v (.slice none 0 0)) ?_
 refine zzb 27 [(0, .v x.v), (1, .v y.v)] [] ?_
 refine sq9 ?_
 refine zza 7 (.v y.v) ?_
 refine zza 8 (.v (.int .i64 (y.n : Int))) ?_
 refine sy_make 9 (T := 29) (E := 41) (z := .agg #[.bool false, .slice none 0 0, .slice none 0 0]) (size := 3) (bytes := 56) y.n (rcs (List.replicate y.n rl0)) (by kernel_rfl) (by kernel_rfl) rfl rfl (by omega) (by unfold maxLen; omega) (made_rcs _) ?_
 refine zza 5 (.slc 9 0 y.n y.n) ?_
 refine zzb 27 [(0, .v x.v), (1, .v y.v), (5, .slc 9 0 y.n y.n)] [(9, ⟨41, rcs (List.replicate y.n rl0)⟩)] ?_
 refine zzc ?_
 refine sq9 ?_
 refine zza 10 (.slc 9 0 y.n y.n) ?_
 refine zza 11 (.v (.int .i64 (y.n : Int))) ?_
 refine zza 12 (.v (.int .i64 0)) ?_
 refine zzb 27 [(0, .v x.v), (1, .v y.v), (5, .slc 9 0 y.n y.n), (11, .v (.int .i64 (y.n : Int))), (12, .v (.int .i64 0))] [(9, ⟨41, rcs (List.replicate y.n rl0)⟩)] ?_
 refine zzs ?_
 refine zym (I := fun m11 S' u' => ∃ (i : Nat) (L : List RL), (m11 = y.n - i) ∧ (i ≤ y.n) ∧ (L.length = y.n) ∧ (S' = St.of 27 [(0, .v (.slice x.a x.n x.c)), (1, .v (.slice y.a y.n y.c)), (5, .slc 9 0 y.n y.n), (11, .v (.int .i64 (y.n : Int))), (12, .v (.int .i64 (i : Int)))] [(9, ⟨41, rcs L⟩)]) ∧ (Ext u u') ∧ (RatsN u' (L.take i) ((m.map (fun z => -z)).take i) M)) (fun m S u1 u2 e h => by obtain ⟨i, L, hm, p0, p1, hS, hE, f0⟩ := h; exact ⟨i, L, hm, p0, p1, hS, hE.trans e, f0.ext e⟩) _ (T := St.of 27 [(0, .v (.slice x.a x.n x.c)), (1, .v (.slice y.a y.n y.c)), (5, .slc 9 0 y.n y.n), (11, .v (.int .i64 (y.n : Int))), (12, .v (.int .i64 0))] [(9, ⟨41, rcs (List.replicate y.n rl0)⟩)]) (by exact zzu _ _ _) ⟨0, List.replicate y.n rl0, rfl, by omega, by simp, rfl, Ext.refl _, RatsN.tnil _ _ _ _⟩ ?_
 rintro m11 _ u11 ⟨i, L, hm11, hi, hL, rfl, e11, hR⟩
 refine sq9 ?_
 refine zza 13 (.v (.bool (decide ((i : Int) < (y.n : Int))))) ?_
 refine zzb 27 [(0, .v x.v), (1, .v y.v), (5, .slc 9 0 y.n y.n), (11, .v (.int .i64 (y.n : Int))), (12, .v (.int .i64 (i : Int))), (13, .v (.bool (decide ((i : Int) < (y.n : Int)))))] [(9, ⟨41, rcs L⟩)] ?_
 refine zzc ?_
 refine zzt (b := decide ((i : Int) < (y.n : Int))) (by kernel_rfl) (fun hb12 => ?_) (fun hb12 => ?_)
 ·replace hb12 : (decide ((i : Int) < (y.n : Int))) = true := hb12
  have qhb12 := of_decide_eq_true hb12
  refine zzr (zzo ?_)
  refine zzc ?_
  refine zzs ?_
  refine sq9 ?_
  refine zza 14 (.v (.int .i64 (i : Int))) ?_
  refine zza 6 (.v (.int .i64 (i : Int))) ?_
  refine zzb 27 [(0, .v x.v), (1, .v y.v), (5, .slc 9 0 y.n y.n), (6, .v (.int .i64 (i : Int))), (11, .v (.int .i64 (y.n : Int))), (12, .v (.int .i64 (i : Int)))] [(9, ⟨41, rcs L⟩)] ?_
  refine zze ?_
  refine zza 15 (.slc 9 0 y.n y.n) ?_
  refine zza 16 (.v (.int .i64 (i : Int))) ?_
  refine zza 17 (.v y.v) ?_
  refine zza 18 (.v (.int .i64 (i : Int))) ?_
  have hl13 := (hy.ext e11).len
  obtain ⟨r13, b13, o13, hA13, hc13, hr13⟩ := pol_at (hy.ext e11) (i := i) (by omega)
  refine zzz 19 (o13 + i * 3) (n := y.n) (off := o13) (sz := 3) (i := (i : Int)) (by omega) hA13 (by omega) (by omega) sl29 ?_
  refine zyl 20 r13.cs hc13 ty41 ?_
  refine zzf 21 159 [r13.v] ?_
  intro w14 u14 e14 d14
  have k19 := k_ratNeg d14 (hr13.ext e14) (by omega)
  with_reducible refine Post.mono k19 ?_
  rintro _ u17 g18 ⟨r15, rfl, h16⟩
  refine zyv 22 (off' := i * 3) (n := y.n) (off := 0) (sz := 3) (i := (i : Int)) sl29 (by omega) (by omega) (by omega) ?_
  refine zyu (V := ⟨41, rcs L⟩) (off := i * 3) (rcs ((L).set i r15)) ty41 (by rw [zyx]; first|omega|(simp;omega)) (zyw (r := r15) (i := i) (by first|omega|(simp;omega)) rfl) ?_
  refine zzw ?_
  refine zzo ?_
  refine zze ?_
  refine zyp 23 (x := .v (.int .i64 (IntKind.i64.wrap ((i : Int) + 1)))) (.v (.int .i64 ((i + 1 : Nat) : Int))) (eqI (by rw [IntWalk.i64_in _ (by omega)]; omega)) ?_
  refine zza 12 (.v (.int .i64 ((i + 1 : Nat) : Int))) ?_
  refine zzw ?_
  have ht20 : i < (m.map (fun z => -z)).length := by rw [List.length_map]; omega
  refine ⟨_, ?_, St.of 27 [(0, .v (.slice x.a x.n x.c)), (1, .v (.slice y.a y.n y.c)), (5, .slc 9 0 y.n y.n), (11, .v (.int .i64 (y.n : Int))), (12, .v (.int .i64 ((i + 1 : Nat) : Int)))] [(9, ⟨41, rcs ((L).set i r15)⟩)], by exact zzu _ _ _, i + 1, (L).set i r15, rfl, by omega, by simpa using hL, rfl, (e11.trans (e14.trans g18.ext)), RatsN.tstep (hR.ext (e14.trans g18.ext)) (by omega) ht20 (RatN.more (K := M) h16 (by omega)) (by simp [List.getElem?_eq_getElem (show i < m.length by omega)])⟩
  omega
 ·replace hb12 : (decide ((i : Int) < (y.n : Int))) = false := hb12
  have qhb12 := of_decide_eq_false hb12
  refine zyb ?_
  refine zzo ?_
  refine zzc ?_
  refine zyo (r := 5) (t := 9) [5, 9] (by repeat first | exact noAt_of | refine zyc ?_ | refine zye ?_ | refine zyd ?_ | refine zzx ?_ | refine zya ?_) (by kernel_rfl) (by rfl) (by rfl) (by kernel_rfl) (fun b21 u22 e23 hb24 hh25 => ?_)
  have hp26 : PolN u22 ⟨some ⟨b21, 0, none⟩, y.n, y.n⟩ (m.map (fun z => -z)) M := pol_data1 hh25 (by unfold maxLen; omega) (RatsN.tdone (hR.ext e23) (by omega) (by rw [List.length_map]; omega)) (by omega)
  refine zze ?_
  refine zza 24 (.v x.v) ?_
  refine zza 25 (.v (.slice (some ⟨b21, 0, none⟩) y.n y.n)) ?_
  refine zzf 26 49 [x.v, .slice (some ⟨b21, 0, none⟩) y.n y.n] ?_
  intro w27 u27 e27 d27
  have k32 := k_poAdd d27 (hx.ext (e11.trans (e23.trans e27))) (hp26.ext e27).raw (by omega) (by omega) (by first|omega|(simp;omega) | (refine Nat.le_trans (Nt.zzg _) ?_; first|omega|(simp;omega)) | (refine Nat.le_trans (Nt.zzg _) ?_; simp only [List.length_map]; refine Nat.le_trans (Nt.zzg _) ?_; first|omega|(simp;omega))) (by first|omega|(simp;omega) | (refine Nat.le_trans (Nt.zzg _) ?_; first|omega|(simp;omega)) | (refine Nat.le_trans (Nt.zzg _) ?_; simp only [List.length_map]; refine Nat.le_trans (Nt.zzg _) ?_; first|omega|(simp;omega)))
  with_reducible refine Post.mono k32 ?_
  rintro _ u30 g31 ⟨y28, rfl, h29⟩
  have hly28 := h29.len
  refine zza 4 (.v y28.v) ?_
  refine zzb 27 [(4, .v y28.v)] [] ?_
  refine zzn (ret0 [.slice y28.a y28.n y28.c] ⟨zzp, trivial⟩ fun u33 e34 => ?_)
  refine ⟨y28, rfl, ?_⟩
  exact (h29.ext e34)
set_option maxHeartbeats 1000000 in
theorem k_r5Same {u w : World} {x : Sl} {l : List Rat} {y : Sl} {m : List Rat} {K M : Nat} (d : Dat u w) (hx : PolV u x l K) (hy : PolV u y m M) (hK : K ≤ 40000000) (hM : M ≤ 40000000) (hx9 : l.length ≤ 1000000000) (hy9 : m.length ≤ 1000000000) : Calls Tryz.prog 74 #[x.v, y.v] w (Post u w fun v u' => v = .bool (decide (Nt.trimQ l = Nt.trimQ m))) := by
 have hlen := hx.len
 have hlen2 := hy.len
 have htl := Nt.zzg l
 have htm := Nt.zzg m
 refine zzl (args := [.slice x.a x.n x.c, .slice y.a y.n y.c]) Tryz.func74 rfl Tryz.ntmps74 (rs := [.tmp 4]) Tryz.results74 (le_b rfl) (le_b rfl) d ?_
 refine sq9 ?_
 refine zza 4 (.v (.bool false)) ?_
 refine zzb 10 [(0, .v x.v), (1, .v y.v)] [] ?_
 refine sq9 ?_
 refine zza 5 (.v x.v) ?_
 refine zzf 6 82 [x.v] ?_
 intro w11 u11 e11 d11
 have k16 := k_r5Trim d11 (hx.ext e11) (by omega) (by first|omega|(simp;omega) | (refine Nat.le_trans (Nt.zzg _) ?_; first|omega|(simp;omega)) | (refine Nat.le_trans (Nt.zzg _) ?_; simp only [List.length_map]; refine Nat.le_trans (Nt.zzg _) ?_; first|omega|(simp;omega)))
 with_reducible refine Post.mono k16 ?_
 rintro _ u14 g15 ⟨y12, rfl, h13⟩
 have hly12 := h13.len
 refine zza 7 (.v y.v) ?_
 refine zzf 8 82 [y.v] ?_
 intro w17 u17 e17 d17
 have k22 := k_r5Trim d17 (hy.ext (e11.trans (g15.ext.trans e17))) (by omega) (by first|omega|(simp;omega) | (refine Nat.le_trans (Nt.zzg _) ?_; first|omega|(simp;omega)) | (refine Nat.le_trans (Nt.zzg _) ?_; simp only [List.length_map]; refine Nat.le_trans (Nt.zzg _) ?_; first|omega|(simp;omega)))
 with_reducible refine Post.mono k22 ?_
 rintro _ u20 g21 ⟨y18, rfl, h19⟩
 have hly18 := h19.len
 refine zzf 9 151 [y12.v, y18.v] ?_
 intro w23 u23 e23 d23
 have k26 := k_r5Equal d23 (h13.ext (e17.trans (g21.ext.trans e23))) (h19.ext e23) (by first|omega|(simp;omega) | (refine Nat.le_trans (Nt.zzg _) ?_; first|omega|(simp;omega)) | (refine Nat.le_trans (Nt.zzg _) ?_; simp only [List.length_map]; refine Nat.le_trans (Nt.zzg _) ?_; first|omega|(simp;omega))) (by first|omega|(simp;omega) | (refine Nat.le_trans (Nt.zzg _) ?_; first|omega|(simp;omega)) | (refine Nat.le_trans (Nt.zzg _) ?_; simp only [List.length_map]; refine Nat.le_trans (Nt.zzg _) ?_; first|omega|(simp;omega)))
 with_reducible refine Post.mono k26 ?_
 rintro _ u24 g25 rfl
 refine zza 4 (.v (.bool (decide ((Nt.trimQ l) = (Nt.trimQ m))))) ?_
 refine zzb 10 [(4, .v (.bool (decide ((Nt.trimQ l) = (Nt.trimQ m)))))] [] ?_
 refine zzn (ret0 [.bool (decide ((Nt.trimQ l) = (Nt.trimQ m)))] ⟨zzp, trivial⟩ fun u27 e28 => ?_)
 rfl
end Go.Proofs.YtdmpfhhhlhoeiaaGreat
namespace Go.Proofs.YtdmpfhhhlhoeiaaGreat.Nt
open Go.RowKit
open Pol
set_option linter.unusedVariables false
def RSz (l : List Rat) (j : Nat) : Prop := l.length ≤ 1 + j ∧ ∃ D, D ≤ 2 ^ (2 + 6 * j) ∧ Sm l D (2 + 6 * j)
theorem RSz.more {l : List Rat} {i j : Nat} (h : RSz l i) (k : i ≤ j) : RSz l j := by
 obtain ⟨h1, D, h2, h3⟩ := h
 exact ⟨by omega, D, Nat.le_trans h2 (Nat.pow_le_pow_right (by omega) (by omega)), h3.more (by omega)⟩
theorem RSz.one {z : Nat} (hz : z < 3) : RSz [(((1 + z : Nat) : Int) : Rat)] 0 :=
 ⟨by simp, 1, by decide, Sm.ofAll (by omega) (fun x hx => by
  rw [List.mem_singleton.1 hx, show ((((1 : Nat) : Int)) : Rat) = 1 from rfl, Rat.mul_one]
  exact whNat (by omega))⟩
theorem RSz.neg {l : List Rat} {j : Nat} (h : RSz l j) : RSz (trimQ (l.map (· * (((-1) : Int) : Rat)))) j := by
 obtain ⟨h1, D, h2, h3⟩ := h
 refine ⟨map_lenQ h1, D, h2, Sm.trim ⟨h3.1, fun i => ?_⟩⟩
 rw [co_map (fun x => x * (((-1) : Int) : Rat)) (Rat.zero_mul _)]
 obtain ⟨z, hz, hb⟩ := h3.2 i
 refine ⟨-z, ?_, by rw [Int.natAbs_neg]; exact hb⟩
 rw [Rat.intCast_neg (a := z), ← hz]
 have e1 : (((-1) : Int) : Rat) = -1 := by decide +kernel
 rw [e1]; grind
theorem lin_sm {r : Rat} (h : Wh (r * (((12 : Nat) : Int) : Rat)) 4) : Sm [-r, ((1 : Int) : Rat)] 12 4 := Sm.ofAll (by omega) (fun x hx => by
 rcases List.mem_cons.1 hx with rfl | hx
 ·obtain ⟨z, hz, hb⟩ := h
  exact ⟨-z, by rw [Rat.intCast_neg, ← hz]; grind, by rw [Int.natAbs_neg]; exact hb⟩
 ·rw [List.mem_singleton.1 hx]
  exact ⟨12, by decide +kernel, by decide⟩)
theorem RSz.lin {l : List Rat} {j : Nat} {r : Rat} (h : RSz l j) (hr : Wh (r * (((12 : Nat) : Int) : Rat)) 4) : RSz (trimQ (mulQ l [-r, ((1 : Int) : Rat)])) (j + 1) := by
 obtain ⟨h1, D, h2, h3⟩ := h
 refine ⟨Nat.le_trans (mul_lenQ h1 (Nat.le_refl _)) (by simp; omega), D * 12, ?_, ((h3.mulR (lin_sm hr)).trim).more (by simp; omega)⟩
 rw [show 2 + 6 * (j + 1) = (2 + 6 * j) + 6 by omega, Nat.pow_add]
 exact Nat.mul_le_mul h2 (by decide)
def RFin (l : List Rat) : Prop := l.length ≤ 12 ∧ ∃ D, D ≤ 2 ^ 63 ∧ Sm l D 63
theorem RSz.fin {l : List Rat} (h : RSz l 9) : RFin l := by
 obtain ⟨h1, D, h2, h3⟩ := h
 exact ⟨by omega, D, Nat.le_trans h2 (by decide), h3.more (by decide)⟩
end Go.Proofs.YtdmpfhhhlhoeiaaGreat.Nt
namespace Go.Proofs.YtdmpfhhhlhoeiaaGreat.Nt
open Go.RowKit
open Pol
set_option linter.unusedVariables false
def lin (r : Rat) : Pol := mk' [-r, ((1 : Int) : Rat)]
def Cop (a b : Pol) : Prop := ∃ u v, u * a + v * b = 1
theorem Cop.symm {a b : Pol} (h : Cop a b) : Cop b a := by obtain ⟨u, v, e⟩ := h; exact ⟨v, u, by grind⟩
theorem Cop.mul {a b c : Pol} (h : Cop a c) (k : Cop b c) : Cop (a * b) c := by
 obtain ⟨u, v, e⟩ := h
 obtain ⟨u', v', e'⟩ := k
 refine ⟨u * u', u * a * v' + v * u' * b + v * v' * c, ?_⟩
 have : (u * a + v * c) * (u' * b + v' * c) = 1 := by rw [e, e', one_mul]
 grind
theorem Cop.mulR {a b c : Pol} (h : Cop c a) (k : Cop c b) : Cop c (a * b) := (h.symm.mul k.symm).symm
theorem Cop.add {a b : Pol} (h : Cop a b) (k : Pol) : Cop a (b + k * a) := by
 obtain ⟨u, v, e⟩ := h
 exact ⟨u - v * k, v, by grind⟩
theorem Cop.one (b : Pol) : Cop 1 b := ⟨1, 0, by grind⟩
def prA : List (Rat × Nat) → Pol
 | [] => 1
 | f :: fs => prA fs * npow (lin f.1) f.2
structure QOK (Q : Pol) (rs : List Rat) : Prop where
 ne : Q ≠ 0
 d : Cop Q Q.D
 r : ∀ r ∈ rs, Q.ev r ≠ 0
structure MadeF (P : Pol) (rs : List Rat) : Prop where
 nd : rs.Nodup
 wh : ∀ r ∈ rs, Wh (r * (((12 : Nat) : Int) : Rat)) 4
 ex : ∃ (c : Rat) (fs : List (Rat × Nat)), c ≠ 0 ∧ (∀ f ∈ fs, 1 ≤ f.2) ∧ fs.map (·.1) = rs.reverse ∧ P = C c * prA fs
theorem MadeF.begin (z : Nat) : MadeF (mk' [(((1 + z : Nat) : Int) : Rat)]) [] :=
 ⟨List.nodup_nil, (fun r hr => by cases hr), _, [], dz (show 0 < 1 + z by omega), (fun f hf => by cases hf), rfl, (mul_one _).symm⟩
theorem MadeF.neg {l : List Rat} (h : MadeF (mk' l) []) : MadeF (mk' (trimQ (l.map (· * (((-1) : Int) : Rat))))) [] := by
 obtain ⟨h1, h2, c, fs, h3, h4, h5, h6⟩ := h
 refine ⟨h1, h2, (((-1) : Int) : Rat) * c, fs, ?_, h4, h5, ?_⟩
 ·intro e
  rcases Rat.mul_eq_zero.1 e with e | e
  ·exact absurd e (by decide +kernel)
  ·exact h3 e
 ·rw [mk_trim, mk_map, h6, C_mul]; grind
theorem MadeF.step {P : Pol} {rs : List Rat} {r : Rat} {k : Nat} (h : MadeF P rs) (hr : r ∉ rs) (hk : 1 ≤ k) (hw : Wh (r * (((12 : Nat) : Int) : Rat)) 4) : MadeF (P * npow (lin r) k) (rs ++ [r]) := by
 obtain ⟨h1, h2, c, fs, h3, h4, h5, h6⟩ := h
 refine ⟨?_, ?_, c, (r, k) :: fs, h3, ?_, ?_, ?_⟩
 ·rw [List.nodup_append]
  refine ⟨h1, by simp, fun a ha b hb e => ?_⟩
  rw [List.mem_singleton.1 hb] at e
  exact hr (e ▸ ha)
 ·intro y hy
  rcases List.mem_append.1 hy with hy | hy
  ·exact h2 y hy
  ·rw [List.mem_singleton.1 hy]; exact hw
 ·intro f hf
  rcases List.mem_cons.1 hf with rfl | hf
  ·exact hk
  ·exact h4 f hf
 ·rw [List.map_cons, h5, List.reverse_append]; rfl
 ·show _ = C c * (prA fs * npow (lin r) k)
  rw [h6]; grind
end Go.Proofs.YtdmpfhhhlhoeiaaGreat.Nt
namespace Go.Proofs.YtdmpfhhhlhoeiaaGreat
set_option linter.unusedVariables false
namespace Nt
section
variable {a1 a2 b1 b2 c1 c2 d1 d2 : Rat}
def hl (a b c d : Rat) : Rat := lo (lo a b) (lo c d)
def hh (a b c d : Rat) : Rat := hi (hi a b) (hi c d)
end
end Nt
end Go.Proofs.YtdmpfhhhlhoeiaaGreat
namespace Go.Proofs.YtdmpfhhhlhoeiaaGreat.Nt
open Go.RowKit
open Pol
set_option linter.unusedVariables false
section
variable {l : List Rat} {x a b c : Rat} {i n D A B K : Nat} {q : Pol}
theorem evL_trim (l : List Rat) (x : Rat) : evL (trimQ l) x = evL l x := evL_congr (trim_co l) x
end
end Go.Proofs.YtdmpfhhhlhoeiaaGreat.Nt
namespace Go.Proofs.YtdmpfhhhlhoeiaaGreat.Nt
open Go.RowKit
open Pol
set_option linter.unusedVariables false
section
variable {l m W : List Rat} {x q : Rat} {i A B C : Nat}
def hp (q : Rat) (i : Nat) : Rat := (((q.den ^ (i - 1) : Nat) : Int) : Rat)
def hs (W : List Rat) (q : Rat) (i : Nat) : Rat := hp q i * evL (W.drop (W.length - i)) q
theorem ev_mulL (l m : List Rat) (x : Rat) : evL (trimQ (mulQ l m)) x = evL l x * evL m x := by
 rw [evL_trim, ← mk_ev, mk_mul, ev_mul, mk_ev, mk_ev]
theorem Sm.mem {D : Nat} (h : Sm l D A) : ∀ y ∈ l, Wh (y * ((D : Int) : Rat)) A := fun y hy => by
 obtain ⟨j, hj, e⟩ := List.getElem_of_mem hy
 have h9 := h.2 j
 unfold Nt.co at h9
 rw [List.getD_eq_getElem?_getD, List.getElem?_eq_getElem hj, Option.getD_some, e] at h9
 exact h9
end
end Go.Proofs.YtdmpfhhhlhoeiaaGreat.Nt
namespace Go.Proofs.YtdmpfhhhlhoeiaaGreat.Nt
open Go.RowKit
open Pol
set_option linter.unusedVariables false
def AP (B A : List Rat) : Prop := ∀ z w : Rat, z * w = 1 → evL B z * evL B w = evL A z * evL A w
theorem AP.one : AP [((1 : Int) : Rat)] [((1 : Int) : Rat)] := fun z w _ => rfl
theorem AP.mul {B A B' A' : List Rat} (h : AP B A) (k : AP B' A') : AP (trimQ (mulQ B B')) (trimQ (mulQ A A')) := fun z w e => by
 rw [ev_mulL, ev_mulL, ev_mulL, ev_mulL]
 have h1 := h z w e
 have h2 := k z w e
 grind
theorem AP.trim {B A : List Rat} (h : AP B A) : AP (trimQ B) (trimQ A) := fun z w e => by rw [evL_trim, evL_trim, evL_trim, evL_trim]; exact h z w e
end Go.Proofs.YtdmpfhhhlhoeiaaGreat.Nt
namespace Go.Proofs.YtdmpfhhhlhoeiaaGreat
open Go.RowKit
set_option linter.unusedVariables false
theorem k_mode {u w : World} {r : Int} (d : Dat u w) (h1 : 1 ≤ r) (h2 : r ≤ 3) : Calls Tryz.prog 152 #[.int .i64 r] w (Post u w fun v _ => v = .bool true) := by
 refine zzl (args := [.int .i64 r]) Tryz.func152 rfl Tryz.ntmps152 (rs := [.tmp 2]) Tryz.results152 (le_b rfl) (le_b rfl) d ?_
 refine sq9 ?_
 refine zza 2 (.v (.bool false)) ?_
 refine zzb 9 [(0, .v (.int .i64 r))] [] ?_
 refine sq9 ?_
 refine zza 3 (.v (.int .i64 r)) ?_
 refine zza 4 (.v (.bool (decide ((1 : Int) ≤ r)))) ?_
 refine zyp 5 (x := .v (.bool (decide ((1 : Int) ≤ r)))) (.v (.bool true)) (by rw [show (decide ((1 : Int) ≤ r)) = true from decide_eq_true (by omega)]) ?_
 refine zza 6 (.v (.int .i64 r)) ?_ (hw := w1 2 true 5)
 refine zza 7 (.v (.bool (decide (r ≤ 3)))) ?_ (hw := w1 2 true 5)
 refine zza 8 (.v (.bool (decide (r ≤ 3)))) ?_
 refine zza 2 (.v (.bool (decide (r ≤ 3)))) ?_
 refine zzb 9 [(2, .v (.bool (decide (r ≤ 3))))] [] ?_
 refine zzn (ret0 [.bool (decide (r ≤ 3))] ⟨zzp, trivial⟩ fun u12 e13 => ?_)
 show Value.bool _ = Value.bool _
 rw [show (decide (r ≤ 3)) = true from decide_eq_true (by omega)]
theorem k_fxValid {u w : World} {W : WL} (d : Dat u w) (hW : WdOK W) : Calls Tryz.prog 75 #[W.v] w (Post u w fun v _ => v = .bool true) := by
 obtain ⟨hw1, hw2, hw3, hw4, hw5, hw6, hw7, hw8⟩ := id hW
 refine zzl (args := [.agg #[.int .i64 W.b, .int .i64 W.f, .int .i64 W.r, .int .i64 W.o]]) Tryz.func75 rfl Tryz.ntmps75 (rs := [.tmp 2]) Tryz.results75 (le_b rfl) (le_b rfl) d ?_
 refine sq9 ?_
 refine zzj 1 ⟨24, [.int .i64 W.b, .int .i64 W.f, .int .i64 W.r, .int .i64 W.o]⟩ ?_
 refine zza 2 (.v (.bool false)) ?_
 refine zzb 36 [(1, .adr 1 0)] [(1, ⟨24, [.int .i64 W.b, .int .i64 W.f, .int .i64 W.r, .int .i64 W.o]⟩)] ?_
 refine zzc ?_
 refine sq9 ?_
 refine zza 3 (.adr 1 0) ?_
 refine zzh 4 (.v (.int .i64 W.b)) ty3 zzk ?_
 refine zza 5 (.v (.bool (decide (W.b < 4)))) ?_
 refine zyp 6 (x := .v (.bool (decide (W.b < 4)))) (.v (.bool false)) (by rw [show (decide (W.b < 4)) = false from decide_eq_false (by omega)]) ?_
 refine zza 7 (.adr 1 0) ?_ (hw := w1 3 false 6)
 refine zzh 8 (.v (.int .i64 W.b)) ty3 zzk ?_ (hw := w1 3 false 6)
 refine zza 9 (.v (.bool (decide ((24 : Int) < W.b)))) ?_ (hw := w1 3 false 6)
 refine zza 10 (.v (.bool (decide ((24 : Int) < W.b)))) ?_
 refine zyp 11 (x := .v (.bool (decide ((24 : Int) < W.b)))) (.v (.bool false)) (by rw [show (decide ((24 : Int) < W.b)) = false from decide_eq_false (by omega)]) ?_
 refine zza 12 (.adr 1 1) ?_ (hw := w1 8 false 11)
 refine zzh 13 (.v (.int .i64 W.f)) ty3 zzk ?_ (hw := w1 8 false 11)
 refine zza 14 (.v (.bool (decide (W.f < 0)))) ?_ (hw := w1 8 false 11)
 refine zza 15 (.v (.bool (decide (W.f < 0)))) ?_
 refine zyp 16 (x := .v (.bool (decide (W.f < 0)))) (.v (.bool false)) (by rw [show (decide (W.f < 0)) = false from decide_eq_false (by omega)]) ?_
 refine zza 17 (.adr 1 1) ?_ (hw := w1 13 false 16)
 refine zzh 18 (.v (.int .i64 W.f)) ty3 zzk ?_ (hw := w1 13 false 16)
 refine zza 19 (.adr 1 0) ?_ (hw := w1 13 false 16)
 refine zzh 20 (.v (.int .i64 W.b)) ty3 zzk ?_ (hw := w1 13 false 16)
 refine zza 21 (.v (.bool (decide (W.b ≤ W.f)))) ?_ (hw := w1 13 false 16)
 refine zza 22 (.v (.bool (decide (W.b ≤ W.f)))) ?_
 refine zzb 36 [(1, .adr 1 0), (22, .v (.bool (decide (W.b ≤ W.f))))] [(1, ⟨24, [.int .i64 W.b, .int .i64 W.f, .int .i64 W.r, .int .i64 W.o]⟩)] ?_
 refine zzt (b := decide (W.b ≤ W.f)) (by kernel_rfl) (fun hb => ?_) (fun hb => ?_)
 ·exact absurd hb (by rw [show (decide (W.b ≤ W.f)) = false from decide_eq_false (by omega)]; decide)
 ·clear hb
  refine zzr (zzo ?_)
  refine sq9 ?_
  refine zza 23 (.adr 1 2) ?_
  refine zzh 24 (.v (.int .i64 W.r)) ty3 zzk ?_
  refine zzf 25 152 [.int .i64 W.r] ?_
  intro w14 u14 e14 d14
  have k17 := k_mode (r := W.r) d14 (by omega) (by omega)
  with_reducible refine Post.mono k17 ?_
  rintro _ u15 g16 rfl
  refine zza 26 (.v (.bool true)) ?_
  refine zza 27 (.adr 1 3) ?_ (hw := w1 3 true 26)
  refine zzh 28 (.v (.int .i64 W.o)) ty3 zzk ?_ (hw := w1 3 true 26)
  refine zza 29 (.v (.bool (W.o == 1))) ?_ (hw := w1 3 true 26)
  rcases Bool.eq_false_or_eq_true (W.o == 1) with hs18 | hs18
  ·refine zyp 30 (x := .v (.bool (W.o == 1))) (.v (.bool true)) (by rw [hs18]) ?_ (hw := w1 3 true 26)
   refine zzm 31 (uw 7 false true 30) ?_
   refine zzm 32 (uw 7 false true 30) ?_
   refine zzm 33 (uw 7 false true 30) ?_
   refine zza 34 (.v (.bool true)) ?_ (hw := w1 3 true 26)
   refine zza 35 (.v (.bool true)) ?_
   refine zza 2 (.v (.bool true)) ?_
   refine zzb 36 [(2, .v (.bool true))] [] ?_
   refine zzn (ret0 [.bool true] ⟨zzp, trivial⟩ fun u19 e20 => ?_)
   rfl
  ·refine zyp 30 (x := .v (.bool (W.o == 1))) (.v (.bool false)) (by rw [hs18]) ?_ (hw := w1 3 true 26)
   refine zza 31 (.adr 1 3) ?_ (hw := w1 7 false 30)
   refine zzh 32 (.v (.int .i64 W.o)) ty3 zzk ?_ (hw := w1 7 false 30)
   refine zza 33 (.v (.bool (W.o == 2))) ?_ (hw := w1 7 false 30)
   refine zza 34 (.v (.bool (W.o == 2))) ?_ (hw := w1 3 true 26)
   refine zza 35 (.v (.bool (W.o == 2))) ?_
   refine zza 2 (.v (.bool (W.o == 2))) ?_
   refine zzb 36 [(2, .v (.bool (W.o == 2)))] [] ?_
   refine zzn (ret0 [.bool (W.o == 2)] ⟨zzp, trivial⟩ fun u21 e22 => ?_)
   show Value.bool _ = Value.bool _
   rw [show (W.o == 2) = true from (by have hz := hs18; simp at hz ⊢; omega)]
theorem k_fxLow {u w : World} {W : WL} (d : Dat u w) (hW : WdOK W) : Calls Tryz.prog 169 #[W.v] w (Post u w fun v _ => v = .int .i64 (-Nt.p2i (W.b - 1))) := by
 obtain ⟨hw1, hw2, hw3, hw4, hw5, hw6, hw7, hw8⟩ := id hW
 have hp1 := Nt.p2i_pos (W.b - 1)
 have hp2 := Nt.p2i_24 (n := W.b - 1) (by omega)
 refine zzl (args := [.agg #[.int .i64 W.b, .int .i64 W.f, .int .i64 W.r, .int .i64 W.o]]) Tryz.func169 rfl Tryz.ntmps169 (rs := [.tmp 2]) Tryz.results169 (le_b rfl) (le_b rfl) d ?_
 refine sq9 ?_
 refine zzj 1 ⟨24, [.int .i64 W.b, .int .i64 W.f, .int .i64 W.r, .int .i64 W.o]⟩ ?_
 refine zza 2 (.v (.int .i64 0)) ?_
 refine zzb 11 [(1, .adr 1 0)] [(1, ⟨24, [.int .i64 W.b, .int .i64 W.f, .int .i64 W.r, .int .i64 W.o]⟩)] ?_
 refine zzc ?_
 refine sq9 ?_
 refine zzh 3 (.v (.agg #[.int .i64 W.b, .int .i64 W.f, .int .i64 W.r, .int .i64 W.o])) ty24 zzd ?_
 refine zzf 4 75 [.agg #[.int .i64 W.b, .int .i64 W.f, .int .i64 W.r, .int .i64 W.o]] ?_
 intro w11 u11 e11 d11
 have k14 := k_fxValid (W := W) d11 hW
 with_reducible refine Post.mono k14 ?_
 rintro _ u12 g13 rfl
 refine zza 5 (.v (.bool false)) ?_
 refine zzb 11 [(1, .adr 1 0), (5, .v (.bool false))] [(1, ⟨24, [.int .i64 W.b, .int .i64 W.f, .int .i64 W.r, .int .i64 W.o]⟩)] ?_
 refine zyr (by kernel_rfl) ?_
 refine zzr (zzo ?_)
 refine sq9 ?_
 refine zza 6 (.adr 1 0) ?_
 refine zzh 7 (.v (.int .i64 W.b)) ty3 zzk ?_
 refine zyp 8 (x := .v (.int .i64 (IntKind.i64.wrap (W.b - 1)))) (.v (.int .i64 (W.b - 1))) (by rw [IntWalk.i64_in _ (by omega)]) ?_
 refine sy_shl 9 (k := .i64) (s := W.b - 1) (Nt.p2i (W.b - 1)) (by omega) (by show _ ≤ (64 : Int); omega) (shl_one (by omega) (by omega)) ?_
 refine zyp 10 (x := .v (.int .i64 (IntKind.i64.wrap (0 - Nt.p2i (W.b - 1))))) (.v (.int .i64 (-Nt.p2i (W.b - 1)))) (by rw [show (IntKind.i64.wrap (0 - Nt.p2i (W.b - 1))) = (-Nt.p2i (W.b - 1)) from (by rw [IntWalk.i64_in _ (by omega)]; omega)]) ?_
 refine zza 2 (.v (.int .i64 (-Nt.p2i (W.b - 1)))) ?_
 refine zzb 11 [(2, .v (.int .i64 (-Nt.p2i (W.b - 1))))] [] ?_
 refine zzn (ret0 [.int .i64 (-Nt.p2i (W.b - 1))] ⟨zzp, trivial⟩ fun u15 e16 => ?_)
 rfl
theorem k_fxHigh {u w : World} {W : WL} (d : Dat u w) (hW : WdOK W) : Calls Tryz.prog 170 #[W.v] w (Post u w fun v _ => v = .int .i64 (Nt.p2i (W.b - 1) - 1)) := by
 obtain ⟨hw1, hw2, hw3, hw4, hw5, hw6, hw7, hw8⟩ := id hW
 have hp1 := Nt.p2i_pos (W.b - 1)
 have hp2 := Nt.p2i_24 (n := W.b - 1) (by omega)
 refine zzl (args := [.agg #[.int .i64 W.b, .int .i64 W.f, .int .i64 W.r, .int .i64 W.o]]) Tryz.func170 rfl Tryz.ntmps170 (rs := [.tmp 2]) Tryz.results170 (le_b rfl) (le_b rfl) d ?_
 refine sq9 ?_
 refine zzj 1 ⟨24, [.int .i64 W.b, .int .i64 W.f, .int .i64 W.r, .int .i64 W.o]⟩ ?_
 refine zza 2 (.v (.int .i64 0)) ?_
 refine zzb 11 [(1, .adr 1 0)] [(1, ⟨24, [.int .i64 W.b, .int .i64 W.f, .int .i64 W.r, .int .i64 W.o]⟩)] ?_
 refine zzc ?_
 refine sq9 ?_
 refine zzh 3 (.v (.agg #[.int .i64 W.b, .int .i64 W.f, .int .i64 W.r, .int .i64 W.o])) ty24 zzd ?_
 refine zzf 4 75 [.agg #[.int .i64 W.b, .int .i64 W.f, .int .i64 W.r, .int .i64 W.o]] ?_
 intro w11 u11 e11 d11
 have k14 := k_fxValid (W := W) d11 hW
 with_reducible refine Post.mono k14 ?_
 rintro _ u12 g13 rfl
 refine zza 5 (.v (.bool false)) ?_
 refine zzb 11 [(1, .adr 1 0), (5, .v (.bool false))] [(1, ⟨24, [.int .i64 W.b, .int .i64 W.f, .int .i64 W.r, .int .i64 W.o]⟩)] ?_
 refine zyr (by kernel_rfl) ?_
 refine zzr (zzo ?_)
 refine sq9 ?_
 refine zza 6 (.adr 1 0) ?_
 refine zzh 7 (.v (.int .i64 W.b)) ty3 zzk ?_
 refine zyp 8 (x := .v (.int .i64 (IntKind.i64.wrap (W.b - 1)))) (.v (.int .i64 (W.b - 1))) (by rw [IntWalk.i64_in _ (by omega)]) ?_
 refine sy_shl 9 (k := .i64) (s := W.b - 1) (Nt.p2i (W.b - 1)) (by omega) (by show _ ≤ (64 : Int); omega) (shl_one (by omega) (by omega)) ?_
 refine zyp 10 (x := .v (.int .i64 (IntKind.i64.wrap ((Nt.p2i (W.b - 1)) - 1)))) (.v (.int .i64 ((Nt.p2i (W.b - 1)) - 1))) (by rw [IntWalk.i64_in _ (by omega)]) ?_
 refine zza 2 (.v (.int .i64 ((Nt.p2i (W.b - 1)) - 1))) ?_
 refine zzb 11 [(2, .v (.int .i64 ((Nt.p2i (W.b - 1)) - 1)))] [] ?_
 refine zzn (ret0 [.int .i64 ((Nt.p2i (W.b - 1)) - 1)] ⟨zzp, trivial⟩ fun u15 e16 => ?_)
 rfl
theorem k_fxFits {u w : World} {W : WL} {z : Int} (d : Dat u w) (hW : WdOK W) (h0 : -Nt.p2i (W.b - 1) ≤ z) (h1 : z < Nt.p2i (W.b - 1)) : Calls Tryz.prog 126 #[W.v, .int .i64 z] w (Post u w fun v _ => v = .bool true) := by
 obtain ⟨hw1, hw2, hw3, hw4, hw5, hw6, hw7, hw8⟩ := id hW
 refine zzl (args := [.agg #[.int .i64 W.b, .int .i64 W.f, .int .i64 W.r, .int .i64 W.o], .int .i64 z]) Tryz.func126 rfl Tryz.ntmps126 (rs := [.tmp 4]) Tryz.results126 (le_b rfl) (le_b rfl) d ?_
 refine sq9 ?_
 refine zzj 2 ⟨24, [.int .i64 W.b, .int .i64 W.f, .int .i64 W.r, .int .i64 W.o]⟩ ?_
 refine zza 4 (.v (.bool false)) ?_
 refine zzb 19 [(1, .v (.int .i64 z)), (2, .adr 2 0)] [(2, ⟨24, [.int .i64 W.b, .int .i64 W.f, .int .i64 W.r, .int .i64 W.o]⟩)] ?_
 refine sq9 ?_
 refine zzh 5 (.v (.agg #[.int .i64 W.b, .int .i64 W.f, .int .i64 W.r, .int .i64 W.o])) ty24 zzd ?_
 refine zzf 6 75 [.agg #[.int .i64 W.b, .int .i64 W.f, .int .i64 W.r, .int .i64 W.o]] ?_
 intro w11 u11 e11 d11
 have k14 := k_fxValid (W := W) d11 hW
 with_reducible refine Post.mono k14 ?_
 rintro _ u12 g13 rfl
 refine zza 7 (.v (.bool true)) ?_
 refine zza 8 (.v (.int .i64 z)) ?_ (hw := w1 2 true 7)
 refine zzh 9 (.v (.agg #[.int .i64 W.b, .int .i64 W.f, .int .i64 W.r, .int .i64 W.o])) ty24 zzd ?_ (hw := w1 2 true 7)
 refine zzf 10 169 [.agg #[.int .i64 W.b, .int .i64 W.f, .int .i64 W.r, .int .i64 W.o]] ?_ (hw := w1 2 true 7)
 intro w15 u15 e15 d15
 have k18 := k_fxLow (W := W) d15 hW
 with_reducible refine Post.mono k18 ?_
 rintro _ u16 g17 rfl
 refine zza 11 (.v (.bool (decide ((-Nt.p2i (W.b - 1)) ≤ z)))) ?_ (hw := w1 2 true 7)
 refine zza 12 (.v (.bool (decide ((-Nt.p2i (W.b - 1)) ≤ z)))) ?_
 refine zyp 13 (x := .v (.bool (decide ((-Nt.p2i (W.b - 1)) ≤ z)))) (.v (.bool true)) (by rw [show (decide ((-Nt.p2i (W.b - 1)) ≤ z)) = true from decide_eq_true (by omega)]) ?_
 refine zza 14 (.v (.int .i64 z)) ?_ (hw := w1 8 true 13)
 refine zzh 15 (.v (.agg #[.int .i64 W.b, .int .i64 W.f, .int .i64 W.r, .int .i64 W.o])) ty24 zzd ?_ (hw := w1 8 true 13)
 refine zzf 16 170 [.agg #[.int .i64 W.b, .int .i64 W.f, .int .i64 W.r, .int .i64 W.o]] ?_ (hw := w1 8 true 13)
 intro w20 u20 e20 d20
 have k23 := k_fxHigh (W := W) d20 hW
 with_reducible refine Post.mono k23 ?_
 rintro _ u21 g22 rfl
 refine zza 17 (.v (.bool (decide (z ≤ (Nt.p2i (W.b - 1) - 1))))) ?_ (hw := w1 8 true 13)
 refine zza 18 (.v (.bool (decide (z ≤ (Nt.p2i (W.b - 1) - 1))))) ?_
 refine zza 4 (.v (.bool (decide (z ≤ (Nt.p2i (W.b - 1) - 1))))) ?_
 refine zzb 19 [(4, .v (.bool (decide (z ≤ (Nt.p2i (W.b - 1) - 1)))))] [] ?_
 refine zzn (ret0 [.bool (decide (z ≤ (Nt.p2i (W.b - 1) - 1)))] ⟨zzp, trivial⟩ fun u24 e25 => ?_)
 show Value.bool _ = Value.bool _
 rw [show (decide (z ≤ (Nt.p2i (W.b - 1) - 1))) = true from decide_eq_true (by omega)]
theorem k_fxValue {u w : World} {W : WL} {z : Int} (d : Dat u w) (hW : WdOK W) (h0 : -16777216 ≤ z) (h1 : z ≤ 16777216) : Calls Tryz.prog 48 #[W.v, .int .i64 z] w (Post u w fun v u' => ∃ r : RL, v = r.v ∧ RatN u' r (((z : Int) : Rat) / ((Nt.p2i W.f : Int) : Rat)) 2) := by
 obtain ⟨hw1, hw2, hw3, hw4, hw5, hw6, hw7, hw8⟩ := id hW
 have hp1 := Nt.p2i_pos W.f
 have hp2 := Nt.p2i_24 (n := W.f) (by omega)
 refine zzl (args := [.agg #[.int .i64 W.b, .int .i64 W.f, .int .i64 W.r, .int .i64 W.o], .int .i64 z]) Tryz.func48 rfl Tryz.ntmps48 (rs := [.cell 4 41]) Tryz.results48 (le_b rfl) (le_b rfl) d ?_
 refine sq9 ?_
 refine zzj 2 ⟨24, [.int .i64 W.b, .int .i64 W.f, .int .i64 W.r, .int .i64 W.o]⟩ ?_
 refine zzj 4 ⟨41, [.bool false, .slice none 0 0, .slice none 0 0]⟩ ?_
 refine zzb 14 [(1, .v (.int .i64 z)), (2, .adr 2 0), (4, .adr 4 0)] [(2, ⟨24, [.int .i64 W.b, .int .i64 W.f, .int .i64 W.r, .int .i64 W.o]⟩), (4, ⟨41, [.bool false, .slice none 0 0, .slice none 0 0]⟩)] ?_
 refine zzc ?_
 refine sq9 ?_
 refine zzh 5 (.v (.agg #[.int .i64 W.b, .int .i64 W.f, .int .i64 W.r, .int .i64 W.o])) ty24 zzd ?_
 refine zzf 6 75 [.agg #[.int .i64 W.b, .int .i64 W.f, .int .i64 W.r, .int .i64 W.o]] ?_
 intro w11 u11 e11 d11
 have k14 := k_fxValid (W := W) d11 hW
 with_reducible refine Post.mono k14 ?_
 rintro _ u12 g13 rfl
 refine zza 7 (.v (.bool false)) ?_
 refine zzb 14 [(1, .v (.int .i64 z)), (2, .adr 2 0), (4, .adr 4 0), (7, .v (.bool false))] [(2, ⟨24, [.int .i64 W.b, .int .i64 W.f, .int .i64 W.r, .int .i64 W.o]⟩), (4, ⟨41, [.bool false, .slice none 0 0, .slice none 0 0]⟩)] ?_
 refine zyr (by kernel_rfl) ?_
 refine zzr (zzo ?_)
 refine sq9 ?_
 refine zza 9 (.v (.int .i64 z)) ?_
 refine zza 10 (.adr 2 1) ?_
 refine zzh 11 (.v (.int .i64 W.f)) ty3 zzk ?_
 refine sy_shl 12 (k := .i64) (s := W.f) (Nt.p2i W.f) (by omega) (by show _ ≤ (64 : Int); omega) (shl_one (by omega) (by omega)) ?_
 refine zzf 13 95 [.int .i64 z, .int .i64 (Nt.p2i W.f)] ?_
 intro w15 u15 e15 d15
 have k20 := k_ratFrac d15 (a := z) (b := Nt.p2i W.f) (by omega) (by omega) (by omega) (by omega)
 with_reducible refine Post.mono k20 ?_
 rintro _ u18 g19 ⟨r16, rfl, h17⟩
 refine zzi ⟨41, r16.cs⟩ ty41 ?_
 refine zzb 14 [(4, .adr 4 0)] [(4, ⟨41, r16.cs⟩)] ?_
 refine zzn (ret0 [r16.v] ⟨zzq ty41 zzd, trivial⟩ fun u21 e22 => ?_)
 exact ⟨r16, rfl, (h17.ext e22)⟩
theorem k_within {u w : World} {n m : Int} (d : Dat u w) (hm : 1 ≤ m) (hm2 : m ≤ 4611686018427387904) (hn0 : -9223372036854775808 ≤ n) (hn1 : n ≤ 9223372036854775807) : Calls Tryz.prog 45 #[.int .i64 n, .int .i64 m] w (Post u w fun v _ => v = .int .i64 (n % m)) := by
 refine zzl (args := [.int .i64 n, .int .i64 m]) Tryz.func45 rfl Tryz.ntmps45 (rs := [.tmp 4]) Tryz.results45 (le_b rfl) (le_b rfl) d ?_
 refine sq9 ?_
 refine zza 4 (.v (.int .i64 0)) ?_
 refine zzb 16 [(0, .v (.int .i64 n)), (1, .v (.int .i64 m))] [] ?_
 refine zzc ?_
 refine sq9 ?_
 refine zza 5 (.v (.int .i64 m)) ?_
 refine zyp 6 (x := .v (.bool (decide (m < 1)))) (.v (.bool false)) (by rw [show (decide (m < 1)) = false from (by simp; omega)]) ?_
 refine zzb 16 [(0, .v (.int .i64 n)), (1, .v (.int .i64 m)), (6, .v (.bool false))] [] ?_
 refine zyr (by kernel_rfl) ?_
 refine zzr (zzo ?_)
 refine sq9 ?_
 refine zza 7 (.v (.int .i64 n)) ?_
 refine zza 8 (.v (.int .i64 m)) ?_
 refine sy_rem 9 (Int.tmod n m) (by omega) rfl ?_
 refine zza 0 (.v (.int .i64 (Int.tmod n m))) ?_
 refine zzb 16 [(0, .v (.int .i64 (Int.tmod n m))), (1, .v (.int .i64 m))] [] ?_
 refine zzc ?_
 refine sq9 ?_
 refine zza 10 (.v (.int .i64 (Int.tmod n m))) ?_
 refine zza 11 (.v (.bool (decide ((Int.tmod n m) < 0)))) ?_
 refine zzb 16 [(0, .v (.int .i64 (Int.tmod n m))), (1, .v (.int .i64 m)), (11, .v (.bool (decide ((Int.tmod n m) < 0))))] [] ?_
 refine zzt (b := decide ((Int.tmod n m) < 0)) (by kernel_rfl) (fun hb11 => ?_) (fun hb11 => ?_)
 ·replace hb11 : (decide ((Int.tmod n m) < 0)) = true := hb11
  have qhb11 := of_decide_eq_true hb11
  refine zze ?_
  refine zza 12 (.v (.int .i64 (Int.tmod n m))) ?_
  refine zza 13 (.v (.int .i64 m)) ?_
  refine zyp 14 (x := .v (.int .i64 (IntKind.i64.wrap (Int.tmod n m + m)))) (.v (.int .i64 (Int.tmod n m + m))) (by rw [show (IntKind.i64.wrap (Int.tmod n m + m)) = (Int.tmod n m + m) from (IntWalk.i64_in _ (by have h2 := Int.lt_tmod_of_pos n (show 0 < m by omega); have h3 := Int.tmod_lt_of_pos n (show 0 < m by omega); omega))]) ?_
  refine zza 0 (.v (.int .i64 (Int.tmod n m + m))) ?_
  refine zzb 16 [(0, .v (.int .i64 (Int.tmod n m + m)))] [] ?_
  refine sq9 ?_
  refine zza 15 (.v (.int .i64 (Int.tmod n m + m))) ?_
  refine zza 4 (.v (.int .i64 (Int.tmod n m + m))) ?_
  refine zzb 16 [(4, .v (.int .i64 (Int.tmod n m + m)))] [] ?_
  refine zzn (ret0 [.int .i64 (Int.tmod n m + m)] ⟨zzp, trivial⟩ fun u12 e13 => ?_)
  show Value.int _ _ = Value.int _ _
  rw [mod_neg9 m hm n hb11]
 ·replace hb11 : (decide ((Int.tmod n m) < 0)) = false := hb11
  have qhb11 := of_decide_eq_false hb11
  refine zzr (zzo ?_)
  refine sq9 ?_
  refine zza 15 (.v (.int .i64 (Int.tmod n m))) ?_
  refine zza 4 (.v (.int .i64 (Int.tmod n m))) ?_
  refine zzb 16 [(4, .v (.int .i64 (Int.tmod n m)))] [] ?_
  refine zzn (ret0 [.int .i64 (Int.tmod n m)] ⟨zzp, trivial⟩ fun u14 e15 => ?_)
  show Value.int _ _ = Value.int _ _
  rw [mod_pos9 m hm n hb11]
theorem k_wunit {u w : World} {W : WL} (d : Dat u w) (hW : WdOK W) : Calls Tryz.prog 46 #[W.v] w (Post u w fun v _ => v = .int .i64 (Nt.p2i W.f)) := by
 obtain ⟨hw1, hw2, hw3, hw4, hw5, hw6, hw7, hw8⟩ := id hW
 refine zzl (args := [.agg #[.int .i64 W.b, .int .i64 W.f, .int .i64 W.r, .int .i64 W.o]]) Tryz.func46 rfl Tryz.ntmps46 (rs := [.tmp 2]) Tryz.results46 (le_b rfl) (le_b rfl) d ?_
 refine sq9 ?_
 refine zzj 1 ⟨24, [.int .i64 W.b, .int .i64 W.f, .int .i64 W.r, .int .i64 W.o]⟩ ?_
 refine zza 2 (.v (.int .i64 0)) ?_
 refine zzb 7 [(1, .adr 1 0)] [(1, ⟨24, [.int .i64 W.b, .int .i64 W.f, .int .i64 W.r, .int .i64 W.o]⟩)] ?_
 refine sq9 ?_
 refine zza 3 (.adr 1 1) ?_
 refine zzh 4 (.v (.int .i64 W.f)) ty3 zzk ?_
 refine sy_conv 5 W.f (fun w => by kernel_rfl) (IntWalk.u64_in _ (by omega)) ?_
 refine sy_shl 6 (k := .i64) (s := W.f) (Nt.p2i W.f) (by omega) (by show _ ≤ (64 : Int); omega) (shl_one (by omega) (by omega)) ?_
 refine zza 2 (.v (.int .i64 (Nt.p2i W.f))) ?_
 refine zzb 7 [(2, .v (.int .i64 (Nt.p2i W.f)))] [] ?_
 refine zzn (ret0 [.int .i64 (Nt.p2i W.f)] ⟨zzp, trivial⟩ fun u11 e12 => ?_)
 rfl
end Go.Proofs.YtdmpfhhhlhoeiaaGreat
namespace Go.Proofs.YtdmpfhhhlhoeiaaGreat
open Go.RowKit
set_option linter.unusedVariables false
namespace Nt
def wq (z f : Int) : Rat := ((z : Int) : Rat) / ((p2i f : Int) : Rat)
end Nt
namespace Nt
end Nt
section
variable {P : Program} {ops : Array Oper} {w0 : Base} {u0 : World} {S T : St} {B : Tmp → Nat} {a : Act} {w w' u u' : World} {o : Oper} {p : List Tmp} {seq : Bool} {rest : List (Oper × List Tmp)} {K : St → World → Prop}
theorem Rep.pubA (h : Rep w0 u0 S B a w u) {r t : Tmp} {V : Vr} {pubs : List Tmp} (hno : NoAt S pubs) (ht : t ∈ pubs) (hall : ∀ s ∈ pubs, ∀ V', S.var s = some V' → s = t) (hr : S.reg r = some (.adr t 0)) (hv : S.var t = some V) (htn : t < S.n) :
  Rep w0 u0 ((S.unpub pubs).set r (.v (.pointer (some ⟨B t, 0, none⟩)))) B a w (pubW u w [B t]) := by
 refine ⟨⟨fun s x hx => ?_, h.regs.size⟩, ⟨fun s x t' hx ht' => ?_⟩, h.defers, fun s V' hV => ?_, fun s s' V1 V2 h1 h2 e => ?_, pubW_dat h.dat, h.base, pubW_grow h.grow (fun b hb => ?_), h.bel⟩
 ·by_cases e : s = r
  ·subst e
   simp only [St.set, upd_same] at hx
   injection hx with hx
   subst hx
   exact h.regs.reg s (.adr t 0) hr
  ·simp only [St.set, upd_ne _ _ e] at hx
   exact h.regs.reg s x (unpub_spec_reg hx).1
 ·by_cases e : s = r
  ·subst e
   simp only [St.set, upd_same] at hx
   injection hx with hx
   subst hx; cases ht'
  ·simp only [St.set, upd_ne _ _ e] at hx
   obtain ⟨k1, k2⟩ := unpub_spec_reg hx
   obtain ⟨V', hV'⟩ := h.wf.reg s x t' k1 ht'
   exact ⟨V', by show (S.unpub pubs).var t' = _; rw [unpub_var (fun hm => k2 (hno s x t' k1 ht' hm))]; exact hV'⟩
 ·obtain ⟨k1, k2⟩ := unpub_spec_var hV
  obtain ⟨g1, g2, g3⟩ := h.var s V' k1
  refine ⟨g1, ?_, g3⟩
  rw [pubW_out]
  ·exact g2
  ·intro hm
   simp at hm
   exact k2 (h.inj s t V' V k1 hv hm ▸ ht)
 ·exact h.inj s s' V1 V2 (unpub_spec_var h1).1 (unpub_spec_var h2).1 e
 ·simp at hb; subst hb; exact (h.var t V hv).2.2.1 htn
theorem sw_pubA {c0 : Code} {Q : MP} {r t : Tmp} {V : Vr} (pubs : List Tmp) (hno : NoAt S pubs) (hall : (pubs.all fun s => Nat.beq s t || (S.var s).isNone) = true) (hr : S.reg r = some (.adr t 0)) (hv : S.var t = some V) (ht : pubs.contains t = true)
  (k : ∀ b u1, Ext u u1 → u0.heap.size ≤ b → (∀ ob, u.heap[b]? = some ob → ob = hidO) → u1.heap[b]? = some (.cells V.cs.toArray V.ty (0, 0)) → SW P w0 u0 c0 ((S.unpub pubs).set r (.v (.pointer (some ⟨b, 0, none⟩)))) u1 Q) (hlt : Nat.blt t S.n = true := by kernel_rfl) : SW P w0 u0 c0 S u Q := by
 intro B a w u' e hrep
 have hm := List.contains_iff_mem.1 ht
 obtain ⟨g1, g2, g3⟩ := hrep.var t V hv
 have hx : Ext u' (pubW u' w [B t]) := pubW_ext hrep.dat
 have hrep2 := hrep.pubA hno hm (fun s hs V' hV' => by
  have := List.all_eq_true.1 hall s hs
  simp only [Bool.or_eq_true, Option.isNone_iff_eq_none] at this
  rcases this with h | h
  ·exact Nat.eq_of_beq_eq_true h
  ·rw [hV'] at h; cases h) hr hv (Nat.le_of_ble_eq_true hlt)
 refine k (B t) (pubW u' w [B t]) (e.trans hx) (g3.1 (Nat.le_of_ble_eq_true hlt)) (fun ob hob => ?_) (by rw [pubW_in (by simp) (lt_of_get g2) hrep.dat.size]; exact g1) B a w _ (Ext.refl _) hrep2
 by_cases hh : ob = hidO
 ·exact hh
 ·have := e.vis _ ob hob hh
  rw [g2] at this; injection this with this; exact this.symm
theorem ExtB.old2 {b : Nat} {v : World} (h : ExtB b u u') (e : Ext v u) (hb : ∀ ob, v.heap[b]? = some ob → ob = hidO) : Ext v u' :=
 ⟨Nat.le_trans e.size h.size, fun k o hk hh => h.vis k o (fun e' => hh (hb o (e' ▸ hk))) (e.vis k o hk hh) hh⟩
theorem sy_fun (d : Tmp) {f : FuncId} {cs : List Operand} (vs : List Value) (k : sym P ops w0 u0 true rest (S.set d (.v (.func (.func f) #[] vs.toArray))) u K) (hw : Wants ops o S := by exact wants0 (by kernel_rfl)) (hd : o.dst = some d := by kernel_rfl) (hop : o.op = .makeFunc (.func f) #[] cs.toArray := by rfl) (hf : freeB S d = true := by kernel_rfl)
  (hev : cs.map (evO S) = vs.map (fun v => some (.v v)) := by rfl) : sym P ops w0 u0 true ((o, p) :: rest) S u K := by
 refine .inr (.inr (.inl ⟨.inl rfl, fun B a w u' he hrep => ⟨hw B a hrep.regs, ?_⟩⟩))
 have hcs : cs.map a.eval = vs := by
  clear hop k
  induction cs generalizing vs with
  | nil => cases vs with
   | nil => rfl
   | cons v vs => cases hev
  | cons c cs ih => cases vs with
   | nil => cases hev
   | cons v vs =>
    simp only [List.map_cons, List.cons.injEq] at hev ⊢
    refine ⟨?_, ih vs hev.2⟩
    rw [ev_of hrep.regs hev.1]; rfl
 have hrun : (execOp a.eval o).run P w = .ok (.value (.func (.func f) #[] vs.toArray)) w := by
  unfold execOp
  simp only [hop]
  simp [Instr.makeFunc, Sem.run_pure, ← hcs]
 unfold Oper.wp
 rw [hrun]
 have hr2 := hrep.set (d := o.dst) (x := some (.v (.func (.func f) #[] vs.toArray))) (v := .func (.func f) #[] vs.toArray) (fun s hs => (free_of hd hf s hs).1) (fun z e => by injection e with e; rw [← e]; rfl) (fun z t e ht => by injection e with e; rw [← e] at ht; cases ht)
 show ∃ S' B' u'' u2, Rep w0 u0 S' B' (a.put o.dst _) w u'' ∧ _
 refine ⟨_, B, u', u, hr2, fun _ => Ext.refl _, fun _ => Ext.refl _, he, ?_⟩
 rw [hd]; exact k
def SL (P : Program) (w0 : Base) (u0 : World) (ops : Array Oper) (l : List Oper) (S : St) (u : World) (Q : MP) : Prop :=
 ∀ B a w u', Ext u u' → Rep w0 u0 S B a w u' → wpList P ops (fun e a' w' => ∃ S' B' u'', Rep w0 u0 S' B' a' w' u'' ∧ Q.f e S' u'') l a w
theorem SL.mono {l : List Oper} {Q : MP} : Mono (fun S u => SL P w0 u0 ops l S u Q) := fun S u u' e h B a w u'' e' hr => h B a w u'' (e.trans e') hr
theorem sl_key {Q : Exit → Act → World → Prop} (hK : Mono K) (l2 : List Oper) (hQ : ∀ S u, K S u → ∀ B a w, Rep w0 u0 S B a w u → wpList P ops Q l2 a w) :
  ∀ (l : List Oper) (S : St) (B : Tmp → Nat) (a : Act) (w u : World), Rep w0 u0 S B a w u → sym P ops w0 u0 true (l.map fun o => (o, [])) S u K → wpList P ops Q (l ++ l2) a w := by
 intro l
 induction l with
 | nil => intro S B a w u hr h; exact hQ S u h B a w hr
 | cons o l ih =>
  intro S B a w u hr h
  have hs := one_sound (Q := Q) (sym_mono hK) h (Ext.refl _) hr
  refine wpList_step fun K' hK' => ?_
  have hfin : ∀ a' w', (∃ S' B' u'', Rep w0 u0 S' B' a' w' u'' ∧ (true = false → Ext u u'') ∧ sym P ops w0 u0 true (l.map fun o => (o, [])) S' u'' K) → K' a' w' := by
   rintro a' w' ⟨S', B', u'', g1, _, g3⟩
   exact hK' _ _ (ih S' B' a' w' u'' g1 g3)
  show if Region.wanted o (yielded ops a.tmps) = true then _ else _
  split
  ·rename_i hw
   rw [if_pos hw] at hs
   exact Oper.wp_mono hfin hs
  ·rename_i hw
   rw [if_neg hw] at hs
   exact hfin _ _ hs
theorem sw_cut {id : Nat} {Q : MP} (n : Nat) (h : sym P ops w0 u0 true ((ops.toList.take n).map fun o => (o, [])) S u (fun S' u' => SL P w0 u0 ops (ops.toList.drop n) S' u' Q)) : SW P w0 u0 (.region id ops false) S u Q := by
 intro B a w u' e hr
 refine wp_region_list ?_
 have := sl_key (Q := fun e a' w' => ∃ S' B' u'', Rep w0 u0 S' B' a' w' u'' ∧ Q.f e S' u'') (SL.mono (l := ops.toList.drop n) (Q := Q)) (ops.toList.drop n) (fun S u h B a w hr => h B a w u (Ext.refl _) hr) (ops.toList.take n) S B a w u' hr (sym_mono SL.mono _ _ _ e h)
 rw [List.take_append_drop] at this
 exact this
theorem sl_sym {l : List Oper} {Q : MP} (h : sym P ops w0 u0 true (l.map fun o => (o, [])) S u (Q.f .normal)) : SL P w0 u0 ops l S u Q := by
 intro B a w u' e hr
 have := sl_key (P := P) (ops := ops) (Q := fun e a' w' => ∃ S' B' u'', Rep w0 u0 S' B' a' w' u'' ∧ Q.f e S' u'') (K := Q.f .normal) (Q.mono _) [] (fun S u h B a w hr => by exact ⟨S, B, u, hr, h⟩) l S B a w u' hr (sym_mono (Q.mono _) _ _ _ e h)
 rw [List.append_nil] at this
 exact this
theorem Rep.adoptA (hrep : Rep w0 u0 S B a w u') {r k : Tmp} {b : Nat} {cs : List Value} {ty : TypeId} (hr : S.reg r = some (.v (.pointer (some ⟨b, 0, none⟩)))) (hbu : u'.heap[b]? = some (.cells cs.toArray ty (0, 0))) (hb0 : u0.heap.size ≤ b) (hk : S.var k = none) (hkn : k < S.n) :
  Rep w0 u0 ⟨S.n, upd S.reg r (some (.adr k 0)), upd S.var k (some ⟨ty, cs⟩)⟩ (setB B k b) a w (hideB u' b) := by
 have hbw : w.heap[b]? = some (.cells cs.toArray ty (0, 0)) := hrep.dat.ext.cells hbu
 have hlt := lt_of_get hbu
 have hno : ∀ s x, S.reg s = some x → x.at? ≠ some k := fun s x hx hc => by
  obtain ⟨V, hV⟩ := hrep.wf.reg s x k hx hc; rw [hk] at hV; cases hV
 have hBt : ∀ t V, S.var t = some V → B t ≠ b := fun t V hV hc => by
  have := (hrep.var t V hV).2.1
  rw [hc, hbu] at this
  injection this with this
  unfold hidO at this; cases this
 refine ⟨⟨fun s x hx => ?_, hrep.regs.size⟩, ⟨fun s x t hx ht => ?_⟩, hrep.defers, fun t V hV => ?_, fun t t' V1 V2 h1 h2 he => ?_, ⟨by rw [hideB_size]; exact hrep.dat.size, fun b' o hb' hh => ?_⟩, hrep.base, ⟨by rw [hideB_size]; exact hrep.grow.size, fun b' hb' hf' => ?_⟩, hrep.bel⟩
 ·by_cases e1 : s = r
  ·subst e1
   simp only [upd_same] at hx
   injection hx with hx
   subst hx
   have := hrep.regs.reg s _ hr
   simpa [SV.conc, setB] using this
  ·simp only [upd_ne _ _ e1] at hx
   rw [conc_setB (hno s x hx)]
   exact hrep.regs.reg s x hx
 ·show ∃ V, upd S.var k (some ⟨ty, cs⟩) t = some V
  by_cases e2 : t = k
  ·subst e2; exact ⟨_, upd_same _ _ _⟩
  ·rw [upd_ne _ _ e2]
   by_cases e1 : s = r
   ·subst e1
    simp only [upd_same] at hx
    injection hx with hx
    subst hx
    injection ht with ht; exact absurd ht.symm e2
   ·simp only [upd_ne _ _ e1] at hx
    exact hrep.wf.reg s x t hx ht
 ·by_cases e2 : t = k
  ·subst e2
   simp only [upd_same] at hV
   injection hV with hV
   subst hV
   rw [show setB B t b t = b by simp [setB]]
   exact ⟨hbw, hideB_eq hlt, .mk0 hkn hb0⟩
  ·simp only [upd_ne _ _ e2] at hV
   obtain ⟨g1, g2, g3⟩ := hrep.var t V hV
   rw [show setB B k b t = B t by simp [setB, e2]]
   exact ⟨g1, by rw [hideB_ne (hBt t V hV)]; exact g2, g3⟩
 ·by_cases e1 : t = k
  ·by_cases e2 : t' = k
   ·rw [e1, e2]
   ·simp only [upd_ne _ _ e2] at h2
    simp [setB, e1, e2] at he
    exact absurd he.symm (hBt t' V2 h2)
  ·simp only [upd_ne _ _ e1] at h1
   by_cases e2 : t' = k
   ·simp [setB, e1, e2] at he
    exact absurd he (hBt t V1 h1)
   ·simp only [upd_ne _ _ e2] at h2
    simp [setB, e1, e2] at he
    exact hrep.inj t t' V1 V2 h1 h2 he
 ·by_cases e1 : b' = b
  ·subst e1
   rw [hideB_eq hlt] at hb'; injection hb' with hb'; exact absurd hb'.symm hh
  ·rw [hideB_ne e1] at hb'; exact hrep.dat.vis b' o hb' hh
 ·rw [hideB_ne (by omega)]; exact hrep.grow.old b' hb' hf'
theorem sl_adoptA {l : List Oper} {Q : MP} {r k : Tmp} {b : Nat} {cs : List Value} {ty : TypeId} (hr : S.reg r = some (.v (.pointer (some ⟨b, 0, none⟩)))) (hb : u.heap[b]? = some (.cells cs.toArray ty (0, 0))) (hb0 : u0.heap.size ≤ b) (hk : S.var k = none)
  (kk : ∀ u1, ExtB b u u1 → SL P w0 u0 ops l ⟨S.n, upd S.reg r (some (.adr k 0)), upd S.var k (some ⟨ty, cs⟩)⟩ u1 Q) (hkn : Nat.blt k S.n = true := by kernel_rfl) : SL P w0 u0 ops l S u Q := by
 intro B a w u' e hrep
 have hex : ExtB b u (hideB u' b) := ⟨by rw [hideB_size]; exact e.size, fun k' o hk' ho hh => by rw [hideB_ne hk']; exact e.vis k' o ho hh⟩
 exact kk (hideB u' b) hex (setB B k b) a w _ (Ext.refl _) (hrep.adoptA hr (e.cells hb) hb0 hk (Nat.le_of_ble_eq_true hkn))
theorem pubW_ext' {g : Nat} (hsz2 : u'.heap.size ≤ w'.heap.size) (hus : u'.heap.size = w.heap.size) (hnew : ∀ k, k < w.heap.size → w'.heap[k]? = w.heap[k]?) (hd : Dat u' w) (hge : w.heap.size ≤ g) : Ext (hide u' w') (pubW (hide u' w') w' [g]) := by
 refine ⟨Nat.le_of_eq (pubW_size _ _ _).symm, fun b ob hb hh => ?_⟩
 have hlt := lt_of_get hb
 rw [hide_size hsz2] at hlt
 by_cases e : b = g
 ·subst e
  rw [hide_new (by omega) hlt] at hb
  injection hb with hb; exact absurd hb.symm hh
 ·rw [pubW_out (by simpa using e)]; exact hb
theorem sy_appG (d : Tmp) {T E : TypeId} {s x : Operand} {z : Value} {size bytes : Nat} {m c n cap t2 b off : Nat} {A : Option Addr} {ty2 : TypeId} {cs0 : List Value} (news : List Value) (hA : A = some ⟨b, off, none⟩) (hT : P.underlying T = some (.slice E)) (hi : (P.info? E).map (fun i => (i.zero, i.size, i.bytes)) = some (some z, size, bytes)) (hzs : z.cells.size = size) (hsz : 0 < size)
  (hl : news.length = m * size) (h1 : ∀ v ∈ news, v.oneCell' = true) (hm : 0 < m) (h63 : n + m ≤ maxLen) (hbytes : (n + m) * bytes ≤ 140737488355328)
  (hcap : cap < n + m) (hcl : cs0.length = n * size) (hold : ∀ j v, cs0[j]? = some v → u.cell? ⟨b, off + j, none⟩ = some v)
  (k : ∀ (g c1 : Nat) (cs : List Value) (u1 : World), Ext u u1 → u.heap.size ≤ g → n + m ≤ c1 → c1 ≤ maxLen → cs.length = c1 * size → cs.take ((n + m) * size) = cs0 ++ news → u1.heap[g]? = some (.cells cs.toArray E (0, 0)) → sym P ops w0 u0 seq rest (S.set d (.v (.slice (some ⟨g, 0, none⟩) (n + m) c1))) u1 K)
  (hw : Wants ops o S := by exact wants0 (by kernel_rfl)) (hd : o.dst = some d := by kernel_rfl) (hop : o.op = .call { callee := .builtin .append, args := #[s, x], argTypes := #[T, T] } := by rfl) (hf : (freeB S d && (S.var d).isNone) = true := by kernel_rfl)
  (hs : evO S s = some (.v (.slice A n cap)) := by rfl) (hx : evO S x = some (.slc t2 0 m c) := by rfl) (hv2 : S.var t2 = some ⟨ty2, news⟩ := by rfl) : sym P ops w0 u0 seq ((o, p) :: rest) S u K := by
 subst hA
 simp only [Bool.and_eq_true, Option.isNone_iff_eq_none] at hf
 refine .inr (.inr (.inl ⟨.inr ⟨by rw [hop]; rfl, by rw [hop]; rfl⟩, fun B a w u' he hrep => ⟨hw B a hrep.regs, ?_⟩⟩))
 obtain ⟨q1, q2, q3⟩ := hrep.var t2 _ hv2
 obtain ⟨i, hi1, hz, hs1, hby⟩ := info_parts hi
 obtain ⟨v', w', hrun, ⟨g1, g2⟩, g3⟩ := run_append_arg_grows (P := P) (w := w) T o.type E i z size bytes hT hi1 hz hs1 hby hzs hsz ⟨b, off, none⟩ n cap cs0 hcl (fun j v hv => by rw [addr_add]; exact hrep.dat.ext.cell (he.cell (hold j v hv))) ⟨B t2, 0, none⟩ m c news hl (fun j v hv => by rw [addr_add, Nat.zero_add, cells_at q1]; simpa using hv) hcap h63 hbytes
 rcases g2 with ⟨_, hn0⟩ | ⟨g, c1, cs, rfl, hge, hgv, k1, k2, k3, k4⟩
 ·omega
 unfold Oper.wp execOp
 simp only [hop, resolve, invoke, builtin, Sem.run_bind, Sem.run_pure, Result.andThen_ok, List.map_toArray, List.map_cons, List.map_nil, ev_of hrep.regs hs, ev_of hrep.regs hx, SV.conc, hrun]
 have hdn := (free_of hd hf.1 d hd).1
 have hgw := lt_of_get hgv
 have hus : u'.heap.size = w.heap.size := hrep.dat.size
 have hgx : w'.heap[g]? = some (.cells cs.toList.toArray E (0, 0)) := by simpa using hgv
 have hsz2 : u'.heap.size ≤ w'.heap.size := by rw [hus]; exact g3.size
 have hreg : ∀ r y t, S.reg r = some y → y.at? = some t → t ≠ d := fun r y t hr ht e => by
  obtain ⟨V, hV⟩ := hrep.wf.reg r y t hr ht
  rw [e, hf.2] at hV; cases hV
 have hnew : ∀ k', k' < w.heap.size → w'.heap[k']? = w.heap[k']? := fun k' hk' => g3.block k' hk' (fun e => by cases e)
 refine ⟨S.set d (.v (.slice (some ⟨g, 0, none⟩) (n + m) c1)), B, pubW (hide u' w') w' [g], pubW (hide u' w') w' [g], ?_, ?_, ?_, Ext.refl _, ?_⟩
 ·have hdat : Dat (hide u' w') w' := ⟨hide_size hsz2, fun k' ob hk' hh => by
   by_cases hlt : k' < u'.heap.size
   ·rw [hide_old hlt] at hk'
    rw [hnew k' (by omega)]
    exact hrep.dat.vis k' ob hk' hh
   ·have h9 := lt_of_get hk'
    rw [hide_size hsz2] at h9
    rw [hide_new (by omega) h9] at hk'
    injection hk' with hk'; exact absurd hk'.symm hh⟩
  refine ⟨⟨fun r y hy => ?_, by rw [Act.put_size]; exact hrep.regs.size⟩, ⟨fun r y t hy ht => ?_⟩, by rw [put_defers]; exact hrep.defers, fun t V hV => ?_, fun t t' V1 V2 e1 e2 => hrep.inj t t' V1 V2 e1 e2, pubW_dat hdat, hrep.base, pubW_grow (hrep.grow.trans (hide_grow hsz2)) (fun b' hb' => ?_), ?_⟩
  ·rw [hd]
   by_cases e : r = d
   ·subst e
    simp only [St.set, upd_same] at hy
    injection hy with hy
    subst hy
    rw [Act.put_get_same _ _ (by rw [hrep.regs.size]; exact hdn)]
    rfl
   ·simp only [St.set, upd_ne _ _ e] at hy
    rw [Act.put_get_ne _ _ (fun k => e (by injection k with k; exact k.symm))]
    exact hrep.regs.reg r y hy
  ·by_cases e : r = d
   ·subst e
    simp only [St.set, upd_same] at hy
    injection hy with hy
    subst hy; cases ht
   ·simp only [St.set, upd_ne _ _ e] at hy
    exact hrep.wf.reg r y t hy ht
  ·obtain ⟨v1, v2, v3⟩ := hrep.var t V hV
   have hlt := lt_of_get v2
   refine ⟨by rw [hnew _ (by omega)]; exact v1, ?_, v3⟩
   rw [pubW_out (by simp; omega), hide_old hlt]
   exact v2
  ·simp at hb'
   subst hb'
   have := hrep.grow.size
   omega
  ·refine hrep.bel.trans ⟨g3.os, g3.tape, g3.output, g3.size, fun k' hk' => hnew k' ?_⟩
   have := hrep.bel.size; omega
 ·exact fun _ => (hide_grow hsz2).ext.trans (pubW_ext' hsz2 hus hnew hrep.dat hge)
 ·exact fun _ => he.trans ((hide_grow hsz2).ext.trans (pubW_ext' hsz2 hus hnew hrep.dat hge))
 ·refine k g c1 cs.toList _ (he.trans ((hide_grow hsz2).ext.trans (pubW_ext' hsz2 hus hnew hrep.dat hge))) (Nat.le_trans he.size (by omega)) k1 k2 (by simpa using k3) (by simpa using k4) ?_
  rw [pubW_in (by simp) (by rw [hide_size hsz2]; exact hgw) (hide_size hsz2)]
  exact hgx
end
theorem sy_front3 {P : Program} {ops : Array Oper} {w0 : Base} {u0 : World} {S : St} {u : World} {o : Oper} {p : List Tmp} {seq : Bool} {rest : List (Oper × List Tmp)} {K : St → World → Prop} (d : Tmp) {T : TypeId} {x h g : Operand} {A : Option Addr} {n c : Nat} {k k2 : IntKind} {i j : Int} (m : Nat) {sz : Nat} (hT : SlIs P T sz) (hi : i = m) (hj : j = m) (hm : m ≤ c)
  (kk : sym P ops w0 u0 seq rest (S.set d (.v (.slice A m m))) u K) (hw : Wants ops o S := by exact wants0 (by kernel_rfl)) (hd : o.dst = some d := by kernel_rfl) (hop : o.op = .slice T x none (some h) (some g) := by rfl) (hf : freeB S d = true := by kernel_rfl)
  (hx : evO S x = some (.v (.slice A n c)) := by rfl) (hh : evO S h = some (.v (.int k i)) := by rfl) (hg : evO S g = some (.v (.int k2 j)) := by rfl) : sym P ops w0 u0 seq ((o, p) :: rest) S u K := by
 subst hi hj
 obtain ⟨E, agg, hu, hE⟩ := hT
 refine .inl ⟨by rw [hop]; exact (by decide : (0 : Nat) ≠ 2), .set (.v (.slice A m m)), ⟨free_of hd hf, .inl ⟨(fun t ht => by cases ht), fun B a w u' hr he hdt => ⟨hw B a hr, ?_⟩⟩⟩, ?_⟩
 ·have e1 : (execOp a.eval o).run P w = (do pure (Next.value (← Instr.sliceAt T (a.eval x) none (some (a.eval h)) (some (a.eval g)))) : Sem Next).run P w := by unfold execOp; rw [hop]; rfl
  rw [e1, ev_eval hr hx, ev_eval hr hh, ev_eval hr hg]
  refine run_val ?_
  show (Instr.sliceAt T (.slice A n c) none (some (.int k m)) (some (.int k2 m))).run P w = .ok (.slice A m m) w
  have hs := (hE w).2
  simp [Instr.sliceAt, Instr.slice, Instr.sliceBounds, Instr.sliceBound, asIntOf, run_underlying hu, go_sem, hs, hm]
 ·show sym P ops w0 u0 seq rest (S.put o.dst (some _)) u K
  rw [hd]; exact kk
theorem sy_max2 {P : Program} {ops : Array Oper} {w0 : Base} {u0 : World} {S : St} {u : World} {o : Oper} {p : List Tmp} {rest : List (Oper × List Tmp)} {K : St → World → Prop} (d : Tmp) {x y : Operand} {k0 : IntKind} {n m v : Int} {tys : Array TypeId} (hv : (if m > n then m else n) = v)
  (k : sym P ops w0 u0 true rest (S.set d (.v (.int k0 v))) u K)
  (hw : Wants ops o S := by exact wants0 (by kernel_rfl)) (hd : o.dst = some d := by kernel_rfl) (hop : o.op = .call { callee := .builtin .max, args := #[x, y], argTypes := tys } := by rfl) (hf : freeB S d = true := by kernel_rfl)
  (hx : evO S x = some (.v (.int k0 n)) := by rfl) (hy : evO S y = some (.v (.int k0 m)) := by rfl) : sym P ops w0 u0 true ((o, p) :: rest) S u K := by
 refine .inr (.inr (.inl ⟨.inl rfl, fun B a w u' he hrep => ⟨hw B a hrep.regs, ?_⟩⟩))
 have hrun : ∀ ty w, (Builtin.max_ tys ty #[.int k0 n, .int k0 m]).run P w = .ok (.int k0 v) w := by
  intro ty w
  rw [← hv]
  rfl
 unfold Oper.wp execOp
 simp only [hop, resolve, invoke, builtin, Sem.run_bind, Sem.run_pure, Result.andThen_ok, List.map_toArray, List.map_cons, List.map_nil, ev_of hrep.regs hx, ev_of hrep.regs hy, SV.conc, hrun]
 have hr2 := hrep.set (d := o.dst) (x := some (.v (.int k0 v))) (v := .int k0 v) (fun s hs => (free_of hd hf s hs).1) (fun z e => by injection e with e; rw [← e]; rfl) (fun z t e ht => by injection e with e; rw [← e] at ht; cases ht)
 show ∃ S' B' u'' u2, Rep w0 u0 S' B' (a.put o.dst _) w u'' ∧ _
 refine ⟨_, B, u', u, hr2, fun _ => Ext.refl _, fun _ => Ext.refl _, he, ?_⟩
 rw [hd]; exact k
section
variable {u u' u1 : World} {L : List RL} {r : RL} {l : List Rat} {q : Rat} {K n b b6 : Nat} {cs : List Value} {t t6 : TypeId}
theorem rl_set_same {i : Nat} (h : i < L.length) : (L.set i r).getD i rl0 = r := by
 rw [List.getD_eq_getElem?_getD, List.getElem?_set_self h]; rfl
theorem var_cells (h : u.heap[b]? = some (.cells cs.toArray t (0, 0))) : ∀ i, i < cs.length → u.cell? ⟨b, 0 + i, none⟩ = cs[i]? := fun i _ => by rw [Nat.zero_add, cells_at h]; simp
theorem var_cell1 {v : Value} (h : u.heap[b]? = some (.cells [v].toArray t (0, 0))) : u.cell? ⟨b, 0, none⟩ = some v := by rw [cells_at h]; rfl
theorem SlR.extB0 {A : Option Addr} {m c : Nat} {z : List Int} (h : SlR .u32 u A m c z) (hb : u.heap[b]? = some (.cells cs.toArray t (0, 0))) (hn : ∀ v ∈ cs, ∀ y, v ≠ .int .u32 y) (e : ExtB b u u') : SlR .u32 u' A m c z := by
 obtain ⟨h1, h2, h3, h4⟩ := h
 refine ⟨h1, h2, h3, fun hp => ?_⟩
 obtain ⟨b', o, rfl, hlt, hc⟩ := h4 hp
 have hne : b' ≠ b := by
  rintro rfl
  have := hc 0 hp
  rw [cells_at hb] at this
  have h9 : cs[o + 0]? = some (.int .u32 (z[0]?.getD 0)) := by simpa using this
  exact hn _ (List.mem_of_getElem? h9) _ rfl
 refine ⟨b', o, rfl, Nat.lt_of_lt_of_le hlt e.size, fun i hi => ?_⟩
 have := hc i hi
 unfold World.cell? at this ⊢
 cases hb' : u.heap[b']? with
 | none => simp only [hb'] at this; cases this
 | some ob =>
  simp only [hb'] at this
  cases ob with
  | cells cs t' fr => rw [e.vis b' _ hne hb' (by unfold hidO; exact fun e => by cases e)]; exact this
  | _ => cases this
theorem RatN.extB0 (h : RatN u r q K) (hb : u.heap[b]? = some (.cells cs.toArray t (0, 0))) (hn : ∀ v ∈ cs, ∀ y, v ≠ .int .u32 y) (e : ExtB b u u') : RatN u' r q K :=
 ⟨⟨h.1.1, h.1.2.1, h.1.2.2.1.extB0 hb hn e, h.1.2.2.2⟩, h.2.1, h.2.2.1.extB0 hb hn e, h.2.2.2⟩
theorem newR_adopt (hb : u.heap.size ≤ b) (hh : u'.heap[b]? = some (.cells (rcs L).toArray t (0, 0))) (hL : L.length = n) (hR : RatsN u' L l K) (hm : n ≤ maxLen) (h6 : u.heap[b6]? = some (.cells cs.toArray t6 (0, 0))) (h6' : u'.heap[b6]? = some (.cells cs.toArray t6 (0, 0))) (hn : ∀ v ∈ cs, ∀ y, v ≠ .int .u32 y) (e : ExtB b6 u' u1) : PolN u1 ⟨some ⟨b, 0, none⟩, n, n⟩ l K := by
 have hlt := lt_of_get h6
 exact pol_data1 (e.vis b _ (by omega) hh (by unfold hidO; exact fun e => by cases e)) (by omega) ⟨hR.1, fun i hi => (hR.2 i hi).extB0 h6' hn e⟩ hL.symm
end
namespace Nt
def smallQ (q : Rat) : Bool := decide (absQ q < ((1 : Int) : Rat))
def upS (l : List Rat) (q : Rat) (m : Nat) : List Rat := (List.range l.length).map fun j => l.getD j 0 + q * l.getD (m + 1 - j) 0
def upL (k : List Rat) : Nat → List Rat
 | 0 => [((1 : Int) : Rat)]
 | i + 1 => upS (upL k i ++ [((0 : Int) : Rat)]) (k.getD i 0) i
theorem upS_len (l : List Rat) (q : Rat) (m : Nat) : (upS l q m).length = l.length := by unfold upS; simp
theorem upL_len (k : List Rat) (i : Nat) : (upL k i).length = i + 1 := by
 induction i with
 | zero => rfl
 | succ i ih => show (upS _ _ _).length = _; rw [upS_len, List.length_append, ih]; rfl
theorem getD_app0 (l : List Rat) (j : Nat) : (l ++ [((0 : Int) : Rat)]).getD j 0 = l.getD j 0 := by
 rw [List.getD_eq_getElem?_getD, List.getD_eq_getElem?_getD]
 by_cases h : j < l.length
 ·rw [List.getElem?_append_left h]
 ·rw [List.getElem?_append_right (by omega), List.getElem?_eq_none (l := l) (by omega)]
  cases e : j - l.length with
  | zero => rfl
  | succ n => rfl
theorem upS_at (l : List Rat) (q : Rat) (m j : Nat) (h : j < l.length) : (upS l q m).getD j 0 = l.getD j 0 + q * l.getD (m + 1 - j) 0 := by
 unfold upS
 rw [List.getD_eq_getElem?_getD (l := List.map _ _), List.getElem?_map, List.getElem?_range h]
 rfl
def upK (i : Nat) : Nat := 32 * 2 ^ i - 16
theorem upK_succ (i : Nat) : upK (i + 1) = 2 * upK i + 16 ∧ 16 ≤ upK i := by
 unfold upK
 have := Nat.one_le_two_pow (n := i)
 rw [Nat.pow_succ]
 omega
theorem upK_le {i : Nat} (h : i ≤ 6) : upK i ≤ 2032 := by
 unfold upK
 have := Nat.pow_le_pow_right (n := 2) (by decide) h
 omega
end Nt
set_option maxHeartbeats 1000000 in
theorem k_up1 {u w : World} {x : Sl} {l : List Rat} {r v : RL} {q y : Rat} {K M m j : Nat} {b6 b7 b8 : Nat} (d : Dat u w) (hx : PolN u x l K) (hr : RatV u r q M) (hv : RatN u v y K) (h8 : u.heap[b8]? = some (.cells r.cs.toArray 41 (0, 0))) (h6 : u.heap[b6]? = some (.cells [Value.slice x.a x.n x.c].toArray 28 (0, 0))) (h7 : u.heap[b7]? = some (.cells [Value.int .i64 (m : Int)].toArray 3 (0, 0))) (hm : m + 2 = l.length) (hj : j < l.length) (hK : K ≤ 10000000) (hM : M ≤ 10000000) (hl : l.length ≤ 1000000) : Calls Tryz.prog 129 #[.int .i64 (j : Int), v.v, .pointer (some ⟨b8, 0, none⟩), .pointer (some ⟨b6, 0, none⟩), .pointer (some ⟨b7, 0, none⟩)] w (Post u w fun v u' => ∃ r : RL, v = r.v ∧ RatN u' r (y + q * l.getD (m + 1 - j) 0) (2 * K + M + 1)) := by
 have hlen := hx.len
 refine zzl (args := [.int .i64 (j : Int), v.v, .pointer (some ⟨b8, 0, none⟩), .pointer (some ⟨b6, 0, none⟩), .pointer (some ⟨b7, 0, none⟩)]) Tryz.func129 rfl Tryz.ntmps129 (rs := [.cell 7 41]) Tryz.results129 (le_b rfl) (le_b rfl) d ?_
 refine sq9 ?_
 refine zzj 6 ⟨41, v.cs⟩ ?_
 refine zzj 7 ⟨41, [.bool false, .slice none 0 0, .slice none 0 0]⟩ ?_
 refine zzb 19 [(0, .v (.int .i64 (j : Int))), (2, .v (.pointer (some ⟨b8, 0, none⟩))), (3, .v (.pointer (some ⟨b6, 0, none⟩))), (4, .v (.pointer (some ⟨b7, 0, none⟩))), (6, .adr 6 0), (7, .adr 7 0)] [(6, ⟨41, v.cs⟩), (7, ⟨41, [.bool false, .slice none 0 0, .slice none 0 0]⟩)] ?_
 refine zzc ?_
 refine zzy [0, 0, 0, 0, 8, 0, 56, 124, 252, 510, 1023, 2047] [(0, []), (1, []), (2, []), (3, []), (4, []), (5, []), (6, []), (7, []), (8, []), (9, []), (10, []), (11, [])] (by kernel_rfl) (by kernel_rfl) ?_
 refine zzh 8 (.v (v.v)) ty41 zzd ?_
 refine zyl 9 (r.cs) (var_cells h8) ty41 ?_
 refine zyk 10 x.v (var_cell1 h6) ty28 ?_
 refine zyk 11 (.int .i64 (m : Int)) (var_cell1 h7) ty3 ?_
 refine zyp 12 (x := .v (.int .i64 (IntKind.i64.wrap ((m : Int) + 1)))) (.v (.int .i64 ((m + 1 : Nat) : Int))) (eqI (by rw [IntWalk.i64_in _ (by omega)]; omega)) ?_
 refine zza 13 (.v (.int .i64 (j : Int))) ?_
 refine zyp 14 (x := .v (.int .i64 (IntKind.i64.wrap (((m + 1 : Nat) : Int) - (j : Int))))) (.v (.int .i64 (((m + 1) - j : Nat) : Int))) (eqI (by rw [IntWalk.i64_in _ (by omega)]; omega)) ?_
 have hl11 := hx.len
 obtain ⟨r11, b11, o11, hA11, hc11, hr11⟩ := pol_atN hx (i := (m + 1) - j) (by omega)
 refine zzz 15 (o11 + ((m + 1) - j) * 3) (n := x.n) (off := o11) (sz := 3) (i := (((m + 1) - j : Nat) : Int)) (by omega) hA11 (by omega) (by omega) sl28 ?_
 refine zyl 16 r11.cs hc11 ty41 ?_
 refine zzf 17 62 [r.v, r11.v] ?_
 intro w12 u12 e12 d12
 have k17 := k_ratMul d12 (hr.ext e12) (hr11.ext e12).raw (by omega) (by omega)
 with_reducible refine Post.mono k17 ?_
 rintro _ u15 g16 ⟨r13, rfl, h14⟩
 refine zzf 18 127 [v.v, r13.v] ?_
 intro w18 u18 e18 d18
 have k23 := k_ratAdd d18 (hv.ext (e12.trans (g16.ext.trans e18))).raw (h14.ext e18).raw (by omega) (by omega)
 with_reducible refine Post.mono k23 ?_
 rintro _ u21 g22 ⟨r19, rfl, h20⟩
 refine zzi ⟨41, r19.cs⟩ ty41 ?_
 refine zzb 19 [(7, .adr 7 0)] [(7, ⟨41, r19.cs⟩)] ?_
 refine zzn (ret0 [r19.v] ⟨zzq ty41 zzd, trivial⟩ fun u24 e25 => ?_)
 exact ⟨r19, rfl, RatN.more (K := (K + (M + K) + 1)) (h20.ext e25) (by omega)⟩
set_option maxHeartbeats 2000000 in
theorem k_mapUp {u w : World} {x : Sl} {l : List Rat} {r : RL} {q : Rat} {K M m : Nat} {b6 b7 b8 : Nat} (d : Dat u w) (hx : PolN u x l K) (hr : RatV u r q M) (h8 : u.heap[b8]? = some (.cells r.cs.toArray 41 (0, 0))) (h6 : u.heap[b6]? = some (.cells [Value.slice x.a x.n x.c].toArray 28 (0, 0))) (h7 : u.heap[b7]? = some (.cells [Value.int .i64 (m : Int)].toArray 3 (0, 0))) (hm : m + 2 = l.length) (hK : K ≤ 10000000) (hM : M ≤ 10000000) (hl : l.length ≤ 1000000) : Calls Tryz.prog 55 #[x.v, .func (.func 129) #[] #[.pointer (some ⟨b8, 0, none⟩), .pointer (some ⟨b6, 0, none⟩), .pointer (some ⟨b7, 0, none⟩)]] w (Post u w fun v u' => NewR u x.n (Nt.upS l q m) (2 * K + M + 1) v u') := by
 have hlen := hx.len
 have hul := Nt.upS_len l q m
 refine zzl (args := [.slice x.a x.n x.c, .func (.func 129) #[] #[.pointer (some ⟨b8, 0, none⟩), .pointer (some ⟨b6, 0, none⟩), .pointer (some ⟨b7, 0, none⟩)]]) Tryz.func55 rfl Tryz.ntmps55 (rs := [.tmp 4]) Tryz.results55 (le_b rfl) (le_b rfl) d ?_
 refine sq9 ?_
 refine zza 4 (.v (.slice none 0 0)) ?_
 refine zzb 27 [(0, .v x.v), (1, .v (.func (.func 129) #[] #[.pointer (some ⟨b8, 0, none⟩), .pointer (some ⟨b6, 0, none⟩), .pointer (some ⟨b7, 0, none⟩)]))] [] ?_
 refine sq9 ?_
 refine zza 8 (.v x.v) ?_
 refine zza 9 (.v (.int .i64 (x.n : Int))) ?_
 refine sy_make 10 (T := 28) (E := 41) (z := .agg #[.bool false, .slice none 0 0, .slice none 0 0]) (size := 3) (bytes := 56) x.n (rcs (List.replicate x.n rl0)) (by kernel_rfl) (by kernel_rfl) rfl rfl (by omega) (by unfold maxLen; omega) (made_rcs _) ?_
 refine zza 5 (.slc 10 0 x.n x.n) ?_
 refine zzb 27 [(0, .v x.v), (1, .v (.func (.func 129) #[] #[.pointer (some ⟨b8, 0, none⟩), .pointer (some ⟨b6, 0, none⟩), .pointer (some ⟨b7, 0, none⟩)])), (5, .slc 10 0 x.n x.n)] [(10, ⟨41, rcs (List.replicate x.n rl0)⟩)] ?_
 refine zzc ?_
 refine sq9 ?_
 refine zza 11 (.v x.v) ?_
 refine zza 12 (.v (.int .i64 (x.n : Int))) ?_
 refine zza 13 (.v (.int .i64 0)) ?_
 refine zzb 27 [(1, .v (.func (.func 129) #[] #[.pointer (some ⟨b8, 0, none⟩), .pointer (some ⟨b6, 0, none⟩), .pointer (some ⟨b7, 0, none⟩)])), (5, .slc 10 0 x.n x.n), (11, .v x.v), (12, .v (.int .i64 (x.n : Int))), (13, .v (.int .i64 0))] [(10, ⟨41, rcs (List.replicate x.n rl0)⟩)] ?_
 refine zzs ?_
 refine zym (I := fun m11 S' u' => ∃ (i : Nat) (L : List RL), (m11 = x.n - i) ∧ (i ≤ x.n) ∧ (L.length = x.n) ∧ (S' = St.of 27 [(1, .v (.func (.func 129) #[] #[.pointer (some ⟨b8, 0, none⟩), .pointer (some ⟨b6, 0, none⟩), .pointer (some ⟨b7, 0, none⟩)])), (5, .slc 10 0 x.n x.n), (11, .v (.slice x.a x.n x.c)), (12, .v (.int .i64 (x.n : Int))), (13, .v (.int .i64 (i : Int)))] [(10, ⟨41, rcs L⟩)]) ∧ (Ext u u') ∧ (RatsN u' (L.take i) ((Nt.upS l q m).take i) (2 * K + M + 1))) (fun m S u1 u2 e h => by obtain ⟨i, L, hm, p0, p1, hS, hE, f0⟩ := h; exact ⟨i, L, hm, p0, p1, hS, hE.trans e, f0.ext e⟩) _ (T := St.of 27 [(1, .v (.func (.func 129) #[] #[.pointer (some ⟨b8, 0, none⟩), .pointer (some ⟨b6, 0, none⟩), .pointer (some ⟨b7, 0, none⟩)])), (5, .slc 10 0 x.n x.n), (11, .v (.slice x.a x.n x.c)), (12, .v (.int .i64 (x.n : Int))), (13, .v (.int .i64 0))] [(10, ⟨41, rcs (List.replicate x.n rl0)⟩)]) (by exact zzu _ _ _) ⟨0, List.replicate x.n rl0, rfl, by omega, by simp, rfl, Ext.refl _, RatsN.tnil _ _ _ _⟩ ?_
 rintro m11 _ u11 ⟨i, L, hm11, hi, hL, rfl, e11, hR⟩
 refine sq9 ?_
 refine zza 14 (.v (.bool (decide ((i : Int) < (x.n : Int))))) ?_
 refine zzb 27 [(1, .v (.func (.func 129) #[] #[.pointer (some ⟨b8, 0, none⟩), .pointer (some ⟨b6, 0, none⟩), .pointer (some ⟨b7, 0, none⟩)])), (5, .slc 10 0 x.n x.n), (11, .v x.v), (12, .v (.int .i64 (x.n : Int))), (13, .v (.int .i64 (i : Int))), (14, .v (.bool (decide ((i : Int) < (x.n : Int)))))] [(10, ⟨41, rcs L⟩)] ?_
 refine zzc ?_
 refine zzt (b := decide ((i : Int) < (x.n : Int))) (by kernel_rfl) (fun hb12 => ?_) (fun hb12 => ?_)
 ·replace hb12 : (decide ((i : Int) < (x.n : Int))) = true := hb12
  have qhb12 := of_decide_eq_true hb12
  refine zzr (zzo ?_)
  refine zzc ?_
  refine zzs ?_
  refine sq9 ?_
  refine zza 15 (.v (.int .i64 (i : Int))) ?_
  have hl13 := (hx.ext e11).len
  obtain ⟨r13, b13, o13, hA13, hc13, hr13⟩ := pol_atN (hx.ext e11) (i := i) (by omega)
  refine zzz 16 (o13 + i * 3) (n := x.n) (off := o13) (sz := 3) (i := (i : Int)) (by omega) hA13 (by omega) (by omega) sl28 ?_
  refine zyl 17 r13.cs hc13 ty41 ?_
  refine zzj 7 ⟨41, [.bool false, .slice none 0 0, .slice none 0 0]⟩ ?_
  refine zza 6 (.v (.int .i64 (i : Int))) ?_
  refine zzi ⟨41, r13.cs⟩ ty41 ?_
  refine zzb 27 [(1, .v (.func (.func 129) #[] #[.pointer (some ⟨b8, 0, none⟩), .pointer (some ⟨b6, 0, none⟩), .pointer (some ⟨b7, 0, none⟩)])), (5, .slc 10 0 x.n x.n), (6, .v (.int .i64 (i : Int))), (7, .adr 7 0), (11, .v x.v), (12, .v (.int .i64 (x.n : Int))), (13, .v (.int .i64 (i : Int)))] [(7, ⟨41, r13.cs⟩), (10, ⟨41, rcs L⟩)] ?_
  refine zze ?_
  refine zza 18 (.slc 10 0 x.n x.n) ?_
  refine zza 19 (.v (.int .i64 (i : Int))) ?_
  refine zza 20 (.v (.func (.func 129) #[] #[.pointer (some ⟨b8, 0, none⟩), .pointer (some ⟨b6, 0, none⟩), .pointer (some ⟨b7, 0, none⟩)])) ?_
  refine zza 21 (.v (.int .i64 (i : Int))) ?_
  refine zzh 22 (.v (r13.v)) ty41 zzd ?_
  refine zzf 23 129 [.int .i64 (i : Int), r13.v, .pointer (some ⟨b8, 0, none⟩), .pointer (some ⟨b6, 0, none⟩), .pointer (some ⟨b7, 0, none⟩)] ?_
  intro w14 u14 e14 d14
  have k19 := k_up1 (j := i) d14 (hx.ext (e11.trans e14)) (hr.ext (e11.trans e14)) (hr13.ext e14) ((e11.trans e14).cells h8) ((e11.trans e14).cells h6) ((e11.trans e14).cells h7) hm (by omega) (by omega) (by omega) (by omega)
  with_reducible refine Post.mono k19 ?_
  rintro _ u17 g18 ⟨r15, rfl, h16⟩
  refine zyv 24 (off' := i * 3) (n := x.n) (off := 0) (sz := 3) (i := (i : Int)) sl28 (by omega) (by omega) (by omega) ?_
  refine zyu (V := ⟨41, rcs L⟩) (off := i * 3) (rcs ((L).set i r15)) ty41 (by rw [zyx]; first|omega|(simp;omega)) (zyw (r := r15) (i := i) (by first|omega|(simp;omega)) rfl) ?_
  refine zzw ?_
  refine zzo ?_
  refine zze ?_
  refine zyp 25 (x := .v (.int .i64 (IntKind.i64.wrap ((i : Int) + 1)))) (.v (.int .i64 ((i + 1 : Nat) : Int))) (eqI (by rw [IntWalk.i64_in _ (by omega)]; omega)) ?_
  refine zza 13 (.v (.int .i64 ((i + 1 : Nat) : Int))) ?_
  refine zzw ?_
  have ht20 : i < (Nt.upS l q m).length := by rw [hul]; omega
  refine ⟨_, ?_, St.of 27 [(1, .v (.func (.func 129) #[] #[.pointer (some ⟨b8, 0, none⟩), .pointer (some ⟨b6, 0, none⟩), .pointer (some ⟨b7, 0, none⟩)])), (5, .slc 10 0 x.n x.n), (11, .v (.slice x.a x.n x.c)), (12, .v (.int .i64 (x.n : Int))), (13, .v (.int .i64 ((i + 1 : Nat) : Int)))] [(10, ⟨41, rcs ((L).set i r15)⟩)], by exact zzu _ _ _, i + 1, (L).set i r15, rfl, by omega, by simpa using hL, rfl, (e11.trans (e14.trans g18.ext)), RatsN.tstep (hR.ext (e14.trans g18.ext)) (by omega) ht20 (RatN.more (K := (2 * K + M + 1)) h16 (by omega)) (by rw [← Nt.upS_at l q m i (by omega)])⟩
  omega
 ·replace hb12 : (decide ((i : Int) < (x.n : Int))) = false := hb12
  have qhb12 := of_decide_eq_false hb12
  refine zyb ?_
  refine zzo ?_
  refine zzc ?_
  refine zyo (r := 5) (t := 10) [5, 10] (by repeat first | exact noAt_of | refine zyc ?_ | refine zye ?_ | refine zyd ?_ | refine zzx ?_ | refine zya ?_) (by kernel_rfl) (by rfl) (by rfl) (by kernel_rfl) (fun b21 u22 e23 hb24 hh25 => ?_)
  have hp26 : PolN u22 ⟨some ⟨b21, 0, none⟩, x.n, x.n⟩ (Nt.upS l q m) (2 * K + M + 1) := pol_data1 hh25 (by unfold maxLen; omega) (RatsN.tdone (hR.ext e23) (by omega) (by rw [hul]; omega)) (by omega)
  refine zze ?_
  refine zza 26 (.v (.slice (some ⟨b21, 0, none⟩) x.n x.n)) ?_
  refine zza 4 (.v (.slice (some ⟨b21, 0, none⟩) x.n x.n)) ?_
  refine zzb 27 [(4, .v (.slice (some ⟨b21, 0, none⟩) x.n x.n))] [] ?_
  refine zzn (ret0 [.slice (some ⟨b21, 0, none⟩) x.n x.n] ⟨zzp, trivial⟩ fun u27 e28 => ?_)
  exact ⟨b21, L, rfl, hb24, e28.cells hh25, by omega, (RatsN.tdone (hR.ext (e23.trans e28)) (by omega) (by rw [hul]; omega))⟩
theorem k_small {u w : World} {r : RL} {q : Rat} {K : Nat} (d : Dat u w) (hr : RatV u r q K) (hK : K ≤ 10000000) : Calls Tryz.prog 59 #[r.v] w (Post u w fun v u' => v = .bool (Nt.smallQ q)) := by
 refine zzl (args := [r.v]) Tryz.func59 rfl Tryz.ntmps59 (rs := [.tmp 2]) Tryz.results59 (le_b rfl) (le_b rfl) d ?_
 refine sq9 ?_
 refine zzj 1 ⟨41, r.cs⟩ ?_
 refine zza 2 (.v (.bool false)) ?_
 refine zzb 8 [(1, .adr 1 0)] [(1, ⟨41, r.cs⟩)] ?_
 refine sq9 ?_
 refine zzh 3 (.v (r.v)) ty41 zzd ?_
 refine zzf 4 139 [r.v] ?_
 intro w11 u11 e11 d11
 have k16 := k_ratAbs d11 (hr.ext e11) (by omega)
 with_reducible refine Post.mono k16 ?_
 rintro _ u14 g15 ⟨r12, rfl, h13⟩
 refine zzf 5 61 [.int .i64 1] ?_
 intro w17 u17 e17 d17
 have k22 := k_ratOf d17 (z := 1) (by omega) (by omega)
 with_reducible refine Post.mono k22 ?_
 rintro _ u20 g21 ⟨r18, rfl, h19⟩
 refine zzf 6 138 [r12.v, r18.v] ?_
 intro w23 u23 e23 d23
 have k26 := k_ratCompare d23 (h13.ext (e17.trans (g21.ext.trans e23))).raw (h19.ext e23).raw (by omega) (by omega)
 with_reducible refine Post.mono k26 ?_
 rintro _ u24 g25 rfl
 refine zza 7 (.v (.bool (decide ((Nt.cmpQ (Nt.absQ q) ((1 : Int) : Rat)) < 0)))) ?_
 refine zza 2 (.v (.bool (decide ((Nt.cmpQ (Nt.absQ q) ((1 : Int) : Rat)) < 0)))) ?_
 refine zzb 8 [(2, .v (.bool (decide ((Nt.cmpQ (Nt.absQ q) ((1 : Int) : Rat)) < 0))))] [] ?_
 refine zzn (ret0 [.bool (decide ((Nt.cmpQ (Nt.absQ q) ((1 : Int) : Rat)) < 0))] ⟨zzp, trivial⟩ fun u27 e28 => ?_)
 show Value.bool (decide (Nt.cmpQ _ _ < 0)) = Value.bool (Nt.smallQ q)
 unfold Nt.smallQ
 rw [← Nt.cmpQ_lt]
def UpV (l : List Rat) (v : Value) (u' : World) : Prop := (∃ i, i < l.length ∧ Nt.smallQ (l.getD i 0) = false ∧ v = .tuple #[.slice none 0 0, .int .i64 14]) ∨ ((∀ i, i < l.length → Nt.smallQ (l.getD i 0) = true) ∧ ∃ y : Sl, v = .tuple #[y.v, .int .i64 0] ∧ PolN u' y (Nt.trimQ (Nt.upL l l.length)) (Nt.upK l.length))
set_option maxHeartbeats 4000000 in
theorem k_stepUp {u w : World} {x : Sl} {l : List Rat} {M : Nat} (d : Dat u w) (hx : PolV u x l M) (hl : l.length ≤ 6) (hM : M ≤ 4) : Calls Tryz.prog 52 #[x.v] w (Post u w (UpV l)) := by
 have hlen := hx.len
 refine zzl (args := [.slice x.a x.n x.c]) Tryz.func52 rfl Tryz.ntmps52 (rs := [.tmp 2, .tmp 3]) Tryz.results52 (le_b rfl) (le_b rfl) d ?_
 refine sq9 ?_
 refine zza 2 (.v (.slice none 0 0)) ?_
 refine zza 3 (.v (.int .i64 0)) ?_
 refine zzb 41 [(0, .v x.v)] [] ?_
 refine zzc ?_
 refine sq9 ?_
 refine zza 9 (.v x.v) ?_
 refine zza 10 (.v (.int .i64 (x.n : Int))) ?_
 refine zza 11 (.v (.bool (decide ((48 : Int) < (x.n : Int))))) ?_
 refine zzb 41 [(0, .v x.v), (11, .v (.bool (decide ((48 : Int) < (x.n : Int)))))] [] ?_
 refine zzt (b := decide ((48 : Int) < (x.n : Int))) (by kernel_rfl) (fun hb => ?_) (fun hb => ?_)
 ·exact absurd hb (by rw [show (decide ((48 : Int) < (x.n : Int))) = false from decide_eq_false (by omega)]; decide)
 ·clear hb
  refine zzr (zzo ?_)
  refine zzc ?_
  refine sq9 ?_
  refine zza 12 (.v x.v) ?_
  refine zza 13 (.v (.int .i64 (x.n : Int))) ?_
  refine zza 14 (.v (.int .i64 0)) ?_
  refine zzb 41 [(0, .v x.v), (12, .v x.v), (13, .v (.int .i64 (x.n : Int))), (14, .v (.int .i64 0))] [] ?_
  refine zzs ?_
  refine zym (I := fun m11 S' u' => ∃ (i : Nat), (m11 = l.length - i) ∧ (i ≤ l.length) ∧ (∀ j, j < i → Nt.smallQ (l.getD j 0) = true) ∧ (S' = St.of 41 [(0, .v (.slice x.a x.n x.c)), (12, .v (.slice x.a x.n x.c)), (13, .v (.int .i64 (x.n : Int))), (14, .v (.int .i64 (i : Int)))] []) ∧ (Ext u u')) (fun m S u1 u2 e h => by obtain ⟨i, hm, p0, p1, hS, hE⟩ := h; exact ⟨i, hm, p0, p1, hS, hE.trans e⟩) _ (T := St.of 41 [(0, .v (.slice x.a x.n x.c)), (12, .v (.slice x.a x.n x.c)), (13, .v (.int .i64 (x.n : Int))), (14, .v (.int .i64 0))] []) (by exact zzu _ _ _) ⟨0, rfl, Nat.zero_le _, fun j hj => absurd hj (Nat.not_lt_zero j), rfl, Ext.refl _⟩ ?_
  rintro m11 _ u11 ⟨i, hm11, hi, hz, rfl, e11⟩
  refine sq9 ?_
  refine zza 15 (.v (.bool (decide ((i : Int) < (x.n : Int))))) ?_
  refine zzb 41 [(0, .v x.v), (12, .v x.v), (13, .v (.int .i64 (x.n : Int))), (14, .v (.int .i64 (i : Int))), (15, .v (.bool (decide ((i : Int) < (x.n : Int)))))] [] ?_
  refine zzc ?_
  refine zzt (b := decide ((i : Int) < (x.n : Int))) (by kernel_rfl) (fun hb12 => ?_) (fun hb12 => ?_)
  ·replace hb12 : (decide ((i : Int) < (x.n : Int))) = true := hb12
   have qhb12 := of_decide_eq_true hb12
   refine zzr (zzo ?_)
   refine zzc ?_
   refine zzs ?_
   refine sq9 ?_
   have hl13 := (hx.ext e11).len
   obtain ⟨r13, b13, o13, hA13, hc13, hr13⟩ := pol_at (hx.ext e11) (i := i) (by omega)
   refine zzz 16 (o13 + i * 3) (n := x.n) (off := o13) (sz := 3) (i := (i : Int)) (by omega) hA13 (by omega) (by omega) sl28 ?_
   refine zyl 17 r13.cs hc13 ty41 ?_
   refine zzj 5 ⟨41, [.bool false, .slice none 0 0, .slice none 0 0]⟩ ?_
   refine zzi ⟨41, r13.cs⟩ ty41 ?_
   refine zzb 41 [(0, .v x.v), (5, .adr 5 0), (12, .v x.v), (13, .v (.int .i64 (x.n : Int))), (14, .v (.int .i64 (i : Int)))] [(5, ⟨41, r13.cs⟩)] ?_
   refine sq9 ?_
   refine zzh 18 (.v (r13.v)) ty41 zzd ?_
   refine zzf 19 59 [r13.v] ?_
   intro w14 u14 e14 d14
   have k17 := k_small d14 (hr13.ext e14) (by omega)
   with_reducible refine Post.mono k17 ?_
   rintro _ u15 g16 rfl
   refine zza 20 (.v (.bool (!(Nt.smallQ (l.getD i 0))))) ?_
   refine zzb 41 [(0, .v x.v), (12, .v x.v), (13, .v (.int .i64 (x.n : Int))), (14, .v (.int .i64 (i : Int))), (20, .v (.bool (!(Nt.smallQ (l.getD i 0)))))] [] ?_
   refine zzt (b := !(Nt.smallQ (l.getD i 0))) (by kernel_rfl) (fun hb18 => ?_) (fun hb18 => ?_)
   ·replace hb18 : (!(Nt.smallQ (l.getD i 0))) = true := hb18
    refine sq9 ?_
    refine zza 2 (.v (.slice none 0 0)) ?_
    refine zza 3 (.v (.int .i64 14)) ?_
    refine zzb 41 [(2, .v (.slice none 0 0)), (3, .v (.int .i64 14))] [] ?_
    refine zzn (zyt (zzv (zys (zyt (zzv (ret0 [.slice none 0 0, .int .i64 14] ⟨zzp, zzp, trivial⟩ fun u19 e20 => ?_))))))
    exact .inl ⟨i, by omega, by simpa using hb18, rfl⟩
   ·replace hb18 : (!(Nt.smallQ (l.getD i 0))) = false := hb18
    refine zzr (zzo ?_)
    refine zze ?_
    refine zyp 21 (x := .v (.int .i64 (IntKind.i64.wrap ((i : Int) + 1)))) (.v (.int .i64 ((i + 1 : Nat) : Int))) (eqI (by rw [IntWalk.i64_in _ (by omega)]; omega)) ?_
    refine zza 14 (.v (.int .i64 ((i + 1 : Nat) : Int))) ?_
    refine zzw ?_
    refine ⟨_, ?_, St.of 41 [(0, .v (.slice x.a x.n x.c)), (12, .v (.slice x.a x.n x.c)), (13, .v (.int .i64 (x.n : Int))), (14, .v (.int .i64 ((i + 1 : Nat) : Int)))] [], by exact zzu _ _ _, i + 1, rfl, by omega, (fun j hj => by by_cases e : j = i; (rw [e]; simpa using hb18); exact hz j (by omega)), rfl, (e11.trans (e14.trans g16.ext))⟩
    omega
  ·replace hb12 : (decide ((i : Int) < (x.n : Int))) = false := hb12
   have qhb12 := of_decide_eq_false hb12
   refine zyb ?_
   refine zzo ?_
   refine sq9 ?_
   refine zzf 22 61 [.int .i64 1] ?_
   intro w21 u21 e21 d21
   have k26 := k_ratOf d21 (z := 1) (by omega) (by omega)
   with_reducible refine Post.mono k26 ?_
   rintro _ u24 g25 ⟨r22, rfl, h23⟩
   refine sy_data 23 ⟨41, r22.cs⟩ 1 (fun b27 u28 e29 h30 => ?_)
   have hp31 : PolN u28 (⟨some ⟨b27, 0, none⟩, 1, 1⟩ : Sl) [((1 : Int) : Rat)] 2 := pol_lit (L := [r22]) h30 (rats1 (h23.ext e29)) rfl (by decide)
   refine zzj 6 ⟨28, [.slice none 0 0]⟩ ?_
   refine zzi ⟨28, [.slice (some ⟨b27, 0, none⟩) 1 1]⟩ ty28 ?_
   refine zzb 41 [(0, .v x.v), (6, .adr 6 0)] [(6, ⟨28, [.slice (some ⟨b27, 0, none⟩) 1 1]⟩)] ?_
   refine zzc ?_
   refine sq9 ?_
   refine zza 24 (.v x.v) ?_
   refine zza 25 (.v (.int .i64 (x.n : Int))) ?_
   refine zza 26 (.v (.int .i64 0)) ?_
   refine zzb 41 [(6, .adr 6 0), (24, .v x.v), (25, .v (.int .i64 (x.n : Int))), (26, .v (.int .i64 0))] [(6, ⟨28, [.slice (some ⟨b27, 0, none⟩) 1 1]⟩)] ?_
   refine zzs ?_
   have hzs : ∀ j, j < l.length → Nt.smallQ (l.getD j 0) = true := fun j hj => hz j (by omega)
   refine zym (I := fun m32 S' u' => ∃ (i : Nat) (c : Sl), (m32 = l.length - i) ∧ (i ≤ l.length) ∧ (c.c = c.n) ∧ (S' = St.of 41 [(6, .adr 6 0), (24, .v (.slice x.a x.n x.c)), (25, .v (.int .i64 (x.n : Int))), (26, .v (.int .i64 (i : Int)))] [(6, ⟨28, [.slice c.a c.n c.c]⟩)]) ∧ (Ext u28 u') ∧ (PolN u' c (Nt.upL l i) (Nt.upK i))) (fun m S u1 u2 e h => by obtain ⟨i, c, hm, p0, p1, hS, hE, f0⟩ := h; exact ⟨i, c, hm, p0, p1, hS, hE.trans e, f0.ext e⟩) _ (T := St.of 41 [(6, .adr 6 0), (24, .v (.slice x.a x.n x.c)), (25, .v (.int .i64 (x.n : Int))), (26, .v (.int .i64 0))] [(6, ⟨28, [.slice (some ⟨b27, 0, none⟩) 1 1]⟩)]) (by exact zzu _ _ _) ⟨0, (⟨some ⟨b27, 0, none⟩, 1, 1⟩ : Sl), rfl, Nat.zero_le _, rfl, rfl, Ext.refl _, (PolN.more hp31 (by decide))⟩ ?_
   rintro m32 _ u32 ⟨i, c, hm32, hi, hcc, rfl, e32, hC⟩
   have hcl := hC.len
   have hul := Nt.upL_len l i
   have huk := Nt.upK_succ i
   have huk2 := Nt.upK_le (show i ≤ 6 by omega)
   refine sq9 ?_
   refine zza 27 (.v (.bool (decide ((i : Int) < (x.n : Int))))) ?_
   refine zzb 41 [(6, .adr 6 0), (24, .v x.v), (25, .v (.int .i64 (x.n : Int))), (26, .v (.int .i64 (i : Int))), (27, .v (.bool (decide ((i : Int) < (x.n : Int)))))] [(6, ⟨28, [c.v]⟩)] ?_
   refine zzc ?_
   refine zzt (b := decide ((i : Int) < (x.n : Int))) (by kernel_rfl) (fun hb33 => ?_) (fun hb33 => ?_)
   ·replace hb33 : (decide ((i : Int) < (x.n : Int))) = true := hb33
    have qhb33 := of_decide_eq_true hb33
    refine zzr (zzo ?_)
    refine zzc ?_
    refine zzs ?_
    refine sq9 ?_
    refine zza 28 (.v (.int .i64 (i : Int))) ?_
    have hl34 := (hx.ext (e11.trans (e21.trans (g25.ext.trans (e29.trans e32))))).len
    obtain ⟨r34, b34, o34, hA34, hc34, hr34⟩ := pol_at (hx.ext (e11.trans (e21.trans (g25.ext.trans (e29.trans e32))))) (i := i) (by omega)
    refine zzz 29 (o34 + i * 3) (n := x.n) (off := o34) (sz := 3) (i := (i : Int)) (by omega) hA34 (by omega) (by omega) sl28 ?_
    refine zyl 30 r34.cs hc34 ty41 ?_
    refine zzj 7 ⟨3, [.int .i64 0]⟩ ?_
    refine zzj 8 ⟨41, [.bool false, .slice none 0 0, .slice none 0 0]⟩ ?_
    refine zzi ⟨3, [.int .i64 (i : Int)]⟩ ty3 ?_
    refine zzi ⟨41, r34.cs⟩ ty41 ?_
    refine zzb 41 [(6, .adr 6 0), (7, .adr 7 0), (8, .adr 8 0), (24, .v x.v), (25, .v (.int .i64 (x.n : Int))), (26, .v (.int .i64 (i : Int)))] [(6, ⟨28, [c.v]⟩), (7, ⟨3, [.int .i64 (i : Int)]⟩), (8, ⟨41, r34.cs⟩)] ?_
    refine zzc ?_
    refine zzy [0, 0, 2, 7, 15] [(0, []), (1, []), (2, []), (3, []), (4, [])] (by kernel_rfl) (by kernel_rfl) ?_
    refine zzh 31 (.v c.v) ty28 zzk ?_
    refine zzf 32 61 [.int .i64 0] ?_
    intro w35 u35 e35 d35
    have k40 := k_ratOf d35 (z := 0) (by omega) (by omega)
    with_reducible refine Post.mono k40 ?_
    rintro _ u38 g39 ⟨r36, rfl, h37⟩
    refine sy_lit 33 ⟨41, r36.cs⟩ 1 ?_
    obtain ⟨Lx41, hS41, hR41⟩ := id (hC.ext (e35.trans g39.ext))
    obtain ⟨bx41, ox41, hA41, hC41⟩ := hS41.2.2.2 (by omega)
    refine sy_appG 34 (T := 28) (E := 41) (z := .agg #[.bool false, .slice none 0 0, .slice none 0 0]) (size := 3) (bytes := 56) (m := 1) (n := c.n) (cap := c.c) (t2 := 33) (b := bx41) (off := ox41) (cs0 := rcs Lx41) r36.cs hA41 (by kernel_rfl) (by kernel_rfl) (by kernel_rfl) (by decide) rfl (rl_one r36) (by decide) (by unfold maxLen; omega) (by omega) (by omega) hS41.1 (fun j v hv => by have h9 := hC41 j (List.getElem?_eq_some_iff.1 hv).1; rw [h9]; exact hv) ?_
    intro g41 c41 cs41 u41 e41 hg41 h141 h241 h341 h441 hh41
    have hp42 : PolN u41 ⟨some ⟨g41, 0, none⟩, c.n + 1, c41⟩ ((Nt.upL l i) ++ [((0 : Int) : Rat)]) (Nt.upK i) := pol_data (L := Lx41 ++ [r36]) hh41 (by rw [h441, rcs_app]; rfl) h341 h141 h241 (RatsN.snoc (hR41.ext e41) (RatN.more (K := 2) (h37.ext e41) (by omega)))
    refine zzi ⟨28, [.slice (some ⟨g41, 0, none⟩) (c.n + 1) c41]⟩ ty28 ?_
    refine zzb 41 [(6, .adr 6 0), (7, .adr 7 0), (8, .adr 8 0), (24, .v x.v), (25, .v (.int .i64 (x.n : Int))), (26, .v (.int .i64 (i : Int)))] [(6, ⟨28, [.slice (some ⟨g41, 0, none⟩) (c.n + 1) c41]⟩), (7, ⟨3, [.int .i64 (i : Int)]⟩), (8, ⟨41, r34.cs⟩)] ?_
    refine sw_pubA (r := 8) (t := 8) [8] (by repeat first | exact noAt_of | refine zyc ?_ | refine zye ?_ | refine zyd ?_ | refine zzx ?_ | refine zya ?_) (by kernel_rfl) (by rfl) (by rfl) (by kernel_rfl) (fun b43 u44 e45 hb46 hv47 hh48 => ?_)
    refine sw_pubA (r := 7) (t := 7) [7] (by repeat first | exact noAt_of | refine zyc ?_ | refine zye ?_ | refine zyd ?_ | refine zzx ?_ | refine zya ?_) (by kernel_rfl) (by rfl) (by rfl) (by kernel_rfl) (fun b49 u50 e51 hb52 hv53 hh54 => ?_)
    refine sw_pubA (r := 6) (t := 6) [6] (by repeat first | exact noAt_of | refine zyc ?_ | refine zye ?_ | refine zyd ?_ | refine zzx ?_ | refine zya ?_) (by kernel_rfl) (by rfl) (by rfl) (by kernel_rfl) (fun b55 u56 e57 hb58 hv59 hh60 => ?_)
    refine sw_cut 3 ?_
    refine zyk 35 (.slice (some ⟨g41, 0, none⟩) (c.n + 1) c41) (var_cell1 hh60) ty28 ?_
    refine sy_fun 36 [.pointer (some ⟨b43, 0, none⟩), .pointer (some ⟨b55, 0, none⟩), .pointer (some ⟨b49, 0, none⟩)] ?_
    refine zzf 37 55 [.slice (some ⟨g41, 0, none⟩) (c.n + 1) c41, .func (.func 129) #[] #[.pointer (some ⟨b43, 0, none⟩), .pointer (some ⟨b55, 0, none⟩), .pointer (some ⟨b49, 0, none⟩)]] ?_
    intro w61 u61 e61 d61
    have k70 := k_mapUp (m := i) d61 (hp42.ext (e45.trans (e51.trans (e57.trans e61)))) (hr34.ext (e35.trans (g39.ext.trans (e41.trans (e45.trans (e51.trans (e57.trans e61))))))) ((e51.trans (e57.trans e61)).cells hh48) (e61.cells hh60) ((e57.trans e61).cells hh54) (by simp [Nt.upL_len]) (by omega) (by omega) (by simp [Nt.upL_len]; omega)
    with_reducible refine Post.mono k70 ?_
    rintro _ u68 g69 ⟨b62, L63, rfl, hb64, hh65, hL66, hR67⟩
    refine zzw ?_
    refine sl_adoptA (r := 6) (k := 6) (by rfl) ((e61.trans g69.ext).cells hh60) hb58 (by kernel_rfl) (fun u71 eB72 => ?_)
    have hp73 : PolN u71 (⟨some ⟨b62, 0, none⟩, c.n + 1, c.n + 1⟩ : Sl) (Nt.upS ((Nt.upL l i) ++ [((0 : Int) : Rat)]) (l.getD i 0) i) (2 * (Nt.upK i) + M + 1) := newR_adopt hb64 ((Ext.refl _).cells hh65) hL66 (hR67.ext (Ext.refl _)) (by unfold maxLen; omega) (e61.cells hh60) ((e61.trans g69.ext).cells hh60) (by simp) eB72
    refine sl_sym ?_
    refine zzi ⟨28, [.slice (some ⟨b62, 0, none⟩) (c.n + 1) (c.n + 1)]⟩ ty28 ?_
    refine zzw ?_
    refine zzo ?_
    refine zze ?_
    refine zyp 38 (x := .v (.int .i64 (IntKind.i64.wrap ((i : Int) + 1)))) (.v (.int .i64 ((i + 1 : Nat) : Int))) (eqI (by rw [IntWalk.i64_in _ (by omega)]; omega)) ?_
    refine zza 26 (.v (.int .i64 ((i + 1 : Nat) : Int))) ?_
    refine zzw ?_
    refine ⟨_, ?_, St.of 41 [(6, .adr 6 0), (24, .v (.slice x.a x.n x.c)), (25, .v (.int .i64 (x.n : Int))), (26, .v (.int .i64 ((i + 1 : Nat) : Int)))] [(6, ⟨28, [.slice (some ⟨b62, 0, none⟩) (c.n + 1) (c.n + 1)]⟩)], by exact zzu _ _ _, i + 1, (⟨some ⟨b62, 0, none⟩, c.n + 1, c.n + 1⟩ : Sl), rfl, by omega, rfl, rfl, (e32.trans (e35.trans (g39.ext.trans (e41.trans (e45.trans (e51.trans (ExtB.old2 eB72 (e57.trans (e61.trans g69.ext)) hv59))))))), (show PolN _ _ (Nt.upL l (i + 1)) _ from PolN.more (K := (2 * (Nt.upK i) + M + 1)) hp73 (by omega))⟩
    omega
   ·replace hb33 : (decide ((i : Int) < (x.n : Int))) = false := hb33
    have qhb33 := of_decide_eq_false hb33
    refine zyb ?_
    refine zzo ?_
    refine sq9 ?_
    refine zzh 39 (.v c.v) ty28 zzk ?_
    refine zzf 40 53 [c.v] ?_
    intro w74 u74 e74 d74
    have k79 := k_poTrim d74 (hC.ext e74).raw (by omega) (by first|omega|(simp;omega) | (refine Nat.le_trans (Nt.zzg _) ?_; first|omega|(simp;omega)) | (refine Nat.le_trans (Nt.zzg _) ?_; simp only [List.length_map]; refine Nat.le_trans (Nt.zzg _) ?_; first|omega|(simp;omega)))
    with_reducible refine Post.mono k79 ?_
    rintro _ u77 g78 ⟨y75, rfl, h76⟩
    have hly75 := h76.len
    refine zza 2 (.v y75.v) ?_
    refine zza 3 (.v (.int .i64 0)) ?_
    refine zzb 41 [(2, .v y75.v), (3, .v (.int .i64 0))] [] ?_
    refine zzn (ret0 [.slice y75.a y75.n y75.c, .int .i64 0] ⟨zzp, zzp, trivial⟩ fun u80 e81 => ?_)
    have hi9 : i = l.length := by omega
    refine .inr ⟨hzs, y75, rfl, ?_⟩
    have h9 := (h76.ext e81)
    rw [hi9] at h9
    exact h9
namespace Nt
def divS (l : List Rat) (q : Rat) : List Rat := l.map (· / q)
theorem divS_len (l : List Rat) (q : Rat) : (divS l q).length = l.length := by unfold divS; simp
theorem divS_at (l : List Rat) (q : Rat) {j : Nat} (h : j < l.length) : (divS l q).getD j 0 = l.getD j 0 / q := by
 unfold divS
 rw [List.getD_eq_getElem?_getD, List.getElem?_map, List.getD_eq_getElem?_getD, List.getElem?_eq_getElem h]; rfl
def dnS (l : List Rat) (m : Nat) : List Rat := (List.range m).map fun j => (l.getD j 0 - l.getD m 0 * l.getD (m - j) 0) / (((1 : Int) : Rat) - l.getD m 0 * l.getD m 0)
theorem dnS_len (l : List Rat) (m : Nat) : (dnS l m).length = m := by unfold dnS; simp
theorem dnS_at (l : List Rat) {m j : Nat} (h : j < m) : (dnS l m).getD j 0 = (l.getD j 0 - l.getD m 0 * l.getD (m - j) 0) / (((1 : Int) : Rat) - l.getD m 0 * l.getD m 0) := by
 unfold dnS
 rw [List.getD_eq_getElem?_getD, List.getElem?_map, List.getElem?_range h]; rfl
def refL (D : Nat → List Rat) (n : Nat) : List Rat := (List.range n).map fun i => (D (i + 1)).getD (i + 1) 0
theorem refL_len (D : Nat → List Rat) (n : Nat) : (refL D n).length = n := by unfold refL; simp
theorem refL_at (D : Nat → List Rat) {n i : Nat} (h : i < n) : (refL D n).getD i 0 = (D (i + 1)).getD (i + 1) 0 := by
 unfold refL
 rw [List.getD_eq_getElem?_getD, List.getElem?_map, List.getElem?_range h]; rfl
theorem small_iff {q : Rat} : smallQ q = true ↔ -1 < q ∧ q < 1 := by
 have e1 : ((1 : Int) : Rat) = 1 := rfl
 unfold smallQ absQ
 rw [e1]
 split <;> rw [decide_eq_true_iff] <;> grind
theorem small_nz {q : Rat} (h : smallQ q = true) : ((1 : Int) : Rat) - q * q ≠ 0 := by
 have h := small_iff.1 h
 have e1 : ((1 : Int) : Rat) = 1 := rfl
 rw [e1]
 intro e
 have e2 : (1 - q) * (1 + q) = 0 := by grind
 rcases Rat.mul_eq_zero.1 e2 with h3 | h3 <;> grind
theorem divI (l : List Rat) : divS l ((1 : Int) : Rat) = l := by
 unfold divS
 have : (fun x : Rat => x / ((1 : Int) : Rat)) = id := by
  funext x
  show x / 1 = x
  grind
 rw [this, List.map_id]
structure Down (l : List Rat) (D : Nat → List Rat) (n S : Nat) : Prop where
 len : l.length = n + 1
 nz : l.getD 0 0 ≠ 0
 top : D n = divS l (l.getD 0 0)
 dlen : ∀ m, m ≤ n → (D m).length = m + 1
 step : ∀ m, m < n → D m = dnS (D (m + 1)) (m + 1)
 small : ∀ m, 1 ≤ m → m ≤ n → smallQ ((D m).getD m 0) = true
 sm : ∀ m, m ≤ n → ∃ E A, Sm (D m) E A ∧ E ≤ 2 ^ A ∧ dg A ≤ S
end Nt
theorem Nt.Down.fit {l : List Rat} {D : Nat → List Rat} {n S m K : Nat} {u : World} {x : Sl} (h : Nt.Down l D n S) (hm : m ≤ n) (hx : PolN u x (D m) K) : PolN u x (D m) S := by
 obtain ⟨E, A, h1, h2, h3⟩ := h.sm m hm
 exact (hx.fitS h1 h2).more h3
theorem getD_drop {α : Type} (l : List α) (m i : Nat) (z : α) : (l.drop m).getD i z = l.getD (m + i) z := by
 rw [List.getD_eq_getElem?_getD, List.getD_eq_getElem?_getD, List.getElem?_drop]
theorem RatsN.dstep {u : World} {L : List RL} {T : List Rat} {r : RL} {m K : Nat} (h : RatsN u (L.drop m) (T.drop m) K) (hm : 1 ≤ m) (hL : m ≤ L.length) (ht : L.length = T.length) (hr : RatN u r (T.getD (m - 1) 0) K) : RatsN u ((L.set (m - 1) r).drop (m - 1)) (T.drop (m - 1)) K := by
 refine ⟨by simp [ht], fun i hi => ?_⟩
 rw [getD_drop, getD_drop]
 simp at hi
 cases i with
 | zero =>
  rw [Nat.add_zero]
  have e : (L.set (m - 1) r).getD (m - 1) rl0 = r := by
   rw [List.getD_eq_getElem?_getD, List.getElem?_set_self (by omega)]; rfl
  rw [e]; exact hr
 | succ i =>
  have e : (L.set (m - 1) r).getD (m - 1 + (i + 1)) rl0 = L.getD (m + i) rl0 := by
   rw [show m - 1 + (i + 1) = m + i by omega, List.getD_eq_getElem?_getD, List.getD_eq_getElem?_getD, List.getElem?_set_ne (by omega)]
  have h9 := h.2 i (by simp; omega)
  rw [getD_drop, getD_drop] at h9
  rw [e, show m - 1 + (i + 1) = m + i by omega]
  exact h9
theorem RatsN.dnil {u : World} {L : List RL} {T : List Rat} {m K : Nat} (hL : L.length = m) (ht : T.length = m) : RatsN u (L.drop m) (T.drop m) K := by
 rw [List.drop_of_length_le (by omega), List.drop_of_length_le (by omega)]; exact RatsN.nil u K
theorem RatsN.dall {u : World} {L : List RL} {T : List Rat} {m K : Nat} (h : RatsN u (L.drop m) (T.drop m) K) (hm : m = 0) : RatsN u L T K := by subst hm; exact h
namespace Nt
theorem wq_small {z f : Int} (h0 : -p2i f < z) (h1 : z < p2i f) : -1 < wq z f ∧ wq z f < 1 := by
 have hF := p2i_pos f
 have hP : (0 : Rat) < ((p2i f : Int) : Rat) := Rat.intCast_pos.2 hF
 have k0 : -((p2i f : Int) : Rat) < (z : Rat) := by rw [← Rat.intCast_neg]; exact Rat.intCast_lt_intCast.2 h0
 have k1 : (z : Rat) < ((p2i f : Int) : Rat) := Rat.intCast_lt_intCast.2 h1
 have e : wq z f * ((p2i f : Int) : Rat) = (z : Rat) := by unfold wq; exact Rat.div_mul_cancel (Ne.symm (Rat.ne_of_lt hP))
 generalize ((p2i f : Int) : Rat) = P at *
 generalize wq z f = q at *
 constructor
 ·refine Rat.not_le.1 fun hc => ?_
  have := Rat.mul_le_mul_of_nonneg_right hc (Rat.le_of_lt hP)
  grind
 ·refine Rat.not_le.1 fun hc => ?_
  have := Rat.mul_le_mul_of_nonneg_right hc (Rat.le_of_lt hP)
  grind
end Nt
theorem pol_take3 {u : World} {x : Sl} {l : List Rat} {K n : Nat} (h : PolV u x l K) (hn : n ≤ l.length) : PolV u ⟨x.a, n, n⟩ (l.take n) K := by
 obtain ⟨L, ⟨h1, h2, h3, h4⟩, h5⟩ := pol_take h hn
 exact ⟨L, ⟨h1, Nat.le_refl n, Nat.le_trans h2 h3, h4⟩, h5⟩
namespace Nt
theorem upL_at (l : List Rat) {i j : Nat} (h : j < i + 2) : (upL l (i + 1)).getD j 0 = (upL l i).getD j 0 + l.getD i 0 * (upL l i).getD (i + 1 - j) 0 := by
 show (upS _ _ _).getD j 0 = _
 rw [upS_at _ _ _ _ (by rw [List.length_append, upL_len]; simpa using h), getD_app0, getD_app0]
theorem upL_take (k : List Rat) {n i : Nat} (h : i ≤ n) : upL (k.take n) i = upL k i := by
 induction i with
 | zero => rfl
 | succ i ih =>
  show upS _ _ _ = upS _ _ _
  rw [ih (by omega)]
  congr 1
  rw [List.getD_eq_getElem?_getD, List.getD_eq_getElem?_getD, List.getElem?_take_of_lt (by omega)]
theorem small_take {k : List Rat} (h : ∀ i, i < k.length → smallQ (k.getD i 0) = true) (n : Nat) : ∀ i, i < (k.take n).length → smallQ ((k.take n).getD i 0) = true := fun i hi => by
 rw [List.length_take] at hi
 rw [List.getD_eq_getElem?_getD, List.getElem?_take_of_lt (by omega), ← List.getD_eq_getElem?_getD]
 exact h i (by omega)
def revL (k : List Rat) (i : Nat) : List Rat := (List.range (i + 1)).map fun j => (upL k i).getD (i - j) 0
theorem revL_len (k : List Rat) (i : Nat) : (revL k i).length = i + 1 := by unfold revL; simp
theorem revL_at (k : List Rat) {i j : Nat} (h : j ≤ i) : (revL k i).getD j 0 = (upL k i).getD (i - j) 0 := by
 unfold revL
 rw [List.getD_eq_getElem?_getD, List.getElem?_map, List.getElem?_range (by omega)]
 rfl
theorem cmpQ_self (q : Rat) : (cmpQ q q != 0) = false := by
 have h : (cmpQ q q == (0 : Int)) = true := by rw [cmpQ_eq, decide_eq_true rfl]
 show (!(cmpQ q q == (0 : Int))) = false
 rw [h]; rfl
theorem trimD (l : List Rat) (i : Nat) : (trimQ l).getD i 0 = l.getD i 0 := trim_co l i
end Nt
theorem k_stepUpG {u w : World} {x : Sl} {l : List Rat} {M : Nat} (d : Dat u w) (hx : PolV u x l M) (hl : l.length ≤ 6) (hM : M ≤ 4) (hz : ∀ i, i < l.length → Nt.smallQ (l.getD i 0) = true) : Calls Tryz.prog 52 #[x.v] w (Post u w fun v u' => ∃ y : Sl, v = .tuple #[y.v, .int .i64 0] ∧ PolN u' y (Nt.trimQ (Nt.upL l l.length)) (Nt.upK l.length)) :=
 Post.mono (k_stepUp d hx hl hM) fun v u' _ h => by
  rcases h with ⟨i, h1, h2, _⟩ | ⟨_, h⟩
  ·rw [hz i h1] at h2; cases h2
  ·exact h
set_option maxHeartbeats 2000000 in
theorem k_reversed {u w : World} {x : Sl} {l : List Rat} {M i : Nat} (d : Dat u w) (hx : PolV u x l M) (hl : l.length ≤ 6) (hM : M ≤ 4) (hz : ∀ i, i < l.length → Nt.smallQ (l.getD i 0) = true) (hi : i ≤ l.length) : Calls Tryz.prog 51 #[x.v, .int .i64 (i : Int)] w (Post u w fun v u' => ∃ y : Sl, v = y.v ∧ PolN u' y (Nt.revL l i) (Nt.upK i)) := by
 have hlen := hx.len
 have huk := Nt.upK_succ i
 refine zzl (args := [.slice x.a x.n x.c, .int .i64 (i : Int)]) Tryz.func51 rfl Tryz.ntmps51 (rs := [.tmp 4]) Tryz.results51 (le_b rfl) (le_b rfl) d ?_
 refine sq9 ?_
 refine zza 4 (.v (.slice none 0 0)) ?_
 refine zzb 46 [(0, .v x.v), (1, .v (.int .i64 (i : Int)))] [] ?_
 refine sq9 ?_
 refine zza 10 (.v x.v) ?_
 refine zza 11 (.v (.int .i64 (i : Int))) ?_
 refine zza 12 (.v (.int .i64 (i : Int))) ?_
 have hl11 := hx.len
 have hc11 := hx.cap
 refine sy_front3 13 (n := x.n) (c := x.c) i sl28 rfl rfl (by omega) ?_
 refine zzf 14 52 [.slice x.a i i] ?_
 intro w12 u12 e12 d12
 have k17 := k_stepUpG d12 ((pol_take3 hx (by omega)).ext e12) (by rw [List.length_take]; omega) (by omega) (Nt.small_take hz i)
 with_reducible refine Post.mono k17 ?_
 rintro _ u15 g16 ⟨y13, rfl, h14⟩
 rw [List.length_take, Nat.min_eq_left (by omega), Nt.upL_take _ (Nat.le_refl _)] at h14
 have hly13 := h14.len
 have hmy13 := Nt.zzg (Nt.upL l i)
 rw [Nt.upL_len] at hmy13
 have hky13 := Nt.upK_le (show i ≤ 6 by omega)
 refine zza 9 (.v (.tuple #[y13.v, .int .i64 0])) ?_
 refine zza 15 (.v y13.v) ?_
 refine zza 16 (.v (.int .i64 0)) ?_
 refine zza 5 (.v y13.v) ?_
 refine zza 6 (.v (.int .i64 0)) ?_
 refine zzb 46 [(1, .v (.int .i64 (i : Int))), (5, .v y13.v)] [] ?_
 refine sq9 ?_
 refine zza 17 (.v (.int .i64 (i : Int))) ?_
 refine zyp 18 (x := .v (.int .i64 (IntKind.i64.wrap ((i : Int) + 1)))) (.v (.int .i64 ((i + 1 : Nat) : Int))) (eqI (by rw [IntWalk.i64_in _ (by omega)]; omega)) ?_
 refine sy_make 19 (T := 29) (E := 41) (z := .agg #[.bool false, .slice none 0 0, .slice none 0 0]) (size := 3) (bytes := 56) (i + 1) (rcs (List.replicate (i + 1) rl0)) (by kernel_rfl) (by kernel_rfl) rfl rfl (by omega) (by unfold maxLen; omega) (made_rcs _) ?_
 refine zza 7 (.slc 19 0 (i + 1) (i + 1)) ?_
 refine zzb 46 [(1, .v (.int .i64 (i : Int))), (5, .v y13.v), (7, .slc 19 0 (i + 1) (i + 1))] [(19, ⟨41, rcs (List.replicate (i + 1) rl0)⟩)] ?_
 refine zzc ?_
 refine sq9 ?_
 refine zza 20 (.slc 19 0 (i + 1) (i + 1)) ?_
 refine zza 21 (.v (.int .i64 ((i + 1 : Nat) : Int))) ?_
 refine zza 22 (.v (.int .i64 0)) ?_
 refine zzb 46 [(1, .v (.int .i64 (i : Int))), (5, .v y13.v), (7, .slc 19 0 (i + 1) (i + 1)), (21, .v (.int .i64 ((i + 1 : Nat) : Int))), (22, .v (.int .i64 0))] [(19, ⟨41, rcs (List.replicate (i + 1) rl0)⟩)] ?_
 refine zzs ?_
 refine zym (I := fun m18 S' u' => ∃ (j : Nat) (L : List RL), (m18 = i + 1 - j) ∧ (j ≤ i + 1) ∧ (L.length = i + 1) ∧ (S' = St.of 46 [(1, .v (.int .i64 (i : Int))), (5, .v (.slice y13.a y13.n y13.c)), (7, .slc 19 0 (i + 1) (i + 1)), (21, .v (.int .i64 ((i + 1 : Nat) : Int))), (22, .v (.int .i64 (j : Int)))] [(19, ⟨41, rcs L⟩)]) ∧ (Ext u15 u') ∧ (RatsN u' (L.take j) ((Nt.revL l i).take j) (Nt.upK i))) (fun m S u1 u2 e h => by obtain ⟨j, L, hm, p0, p1, hS, hE, f0⟩ := h; exact ⟨j, L, hm, p0, p1, hS, hE.trans e, f0.ext e⟩) _ (T := St.of 46 [(1, .v (.int .i64 (i : Int))), (5, .v (.slice y13.a y13.n y13.c)), (7, .slc 19 0 (i + 1) (i + 1)), (21, .v (.int .i64 ((i + 1 : Nat) : Int))), (22, .v (.int .i64 0))] [(19, ⟨41, rcs (List.replicate (i + 1) rl0)⟩)]) (by exact zzu _ _ _) ⟨0, List.replicate (i + 1) rl0, rfl, by omega, by simp, rfl, Ext.refl _, RatsN.tnil _ _ _ _⟩ ?_
 rintro m18 _ u18 ⟨j, L, hm18, hj, hL, rfl, e18, hR⟩
 refine sq9 ?_
 refine zza 23 (.v (.bool (decide ((j : Int) < ((i + 1 : Nat) : Int))))) ?_
 refine zzb 46 [(1, .v (.int .i64 (i : Int))), (5, .v y13.v), (7, .slc 19 0 (i + 1) (i + 1)), (21, .v (.int .i64 ((i + 1 : Nat) : Int))), (22, .v (.int .i64 (j : Int))), (23, .v (.bool (decide ((j : Int) < ((i + 1 : Nat) : Int)))))] [(19, ⟨41, rcs L⟩)] ?_
 refine zzc ?_
 refine zzt (b := decide ((j : Int) < ((i + 1 : Nat) : Int))) (by kernel_rfl) (fun hb19 => ?_) (fun hb19 => ?_)
 ·replace hb19 : (decide ((j : Int) < ((i + 1 : Nat) : Int))) = true := hb19
  have qhb19 := of_decide_eq_true hb19
  refine zzr (zzo ?_)
  refine zzc ?_
  refine zzs ?_
  refine sq9 ?_
  refine zza 24 (.v (.int .i64 (j : Int))) ?_
  refine zza 8 (.v (.int .i64 (j : Int))) ?_
  refine zzb 46 [(1, .v (.int .i64 (i : Int))), (5, .v y13.v), (7, .slc 19 0 (i + 1) (i + 1)), (8, .v (.int .i64 (j : Int))), (21, .v (.int .i64 ((i + 1 : Nat) : Int))), (22, .v (.int .i64 (j : Int)))] [(19, ⟨41, rcs L⟩)] ?_
  refine sq9 ?_
  refine zza 25 (.slc 19 0 (i + 1) (i + 1)) ?_
  refine zza 26 (.v (.int .i64 (j : Int))) ?_
  refine zzf 27 61 [.int .i64 0] ?_
  intro w20 u20 e20 d20
  have k25 := k_ratOf d20 (z := 0) (by omega) (by omega)
  with_reducible refine Post.mono k25 ?_
  rintro _ u23 g24 ⟨r21, rfl, h22⟩
  refine zyv 28 (off' := j * 3) (n := i + 1) (off := 0) (sz := 3) (i := (j : Int)) sl29 (by omega) (by omega) (by omega) ?_
  refine zyu (V := ⟨41, rcs L⟩) (off := j * 3) (rcs ((L).set j r21)) ty41 (by rw [zyx]; first|omega|(simp;omega)) (zyw (r := r21) (i := j) (by first|omega|(simp;omega)) rfl) ?_
  refine zzb 46 [(1, .v (.int .i64 (i : Int))), (5, .v y13.v), (7, .slc 19 0 (i + 1) (i + 1)), (8, .v (.int .i64 (j : Int))), (21, .v (.int .i64 ((i + 1 : Nat) : Int))), (22, .v (.int .i64 (j : Int)))] [(19, ⟨41, rcs ((L).set j r21)⟩)] ?_
  refine sq9 ?_
  refine zza 29 (.v (.int .i64 (i : Int))) ?_
  refine zza 30 (.v (.int .i64 (j : Int))) ?_
  refine zyp 31 (x := .v (.int .i64 (IntKind.i64.wrap ((i : Int) - (j : Int))))) (.v (.int .i64 ((i - j : Nat) : Int))) (eqI (by rw [IntWalk.i64_in _ (by omega)]; omega)) ?_
  refine zza 32 (.v y13.v) ?_
  refine zza 33 (.v (.int .i64 (y13.n : Int))) ?_
  refine zza 34 (.v (.bool (decide (((i - j : Nat) : Int) < (y13.n : Int))))) ?_
  refine zzb 46 [(1, .v (.int .i64 (i : Int))), (5, .v y13.v), (7, .slc 19 0 (i + 1) (i + 1)), (8, .v (.int .i64 (j : Int))), (21, .v (.int .i64 ((i + 1 : Nat) : Int))), (22, .v (.int .i64 (j : Int))), (34, .v (.bool (decide (((i - j : Nat) : Int) < (y13.n : Int)))))] [(19, ⟨41, rcs ((L).set j r21)⟩)] ?_
  refine zzt (b := decide (((i - j : Nat) : Int) < (y13.n : Int))) (by kernel_rfl) (fun hb26 => ?_) (fun hb26 => ?_)
  ·replace hb26 : (decide (((i - j : Nat) : Int) < (y13.n : Int))) = true := hb26
   have qhb26 := of_decide_eq_true hb26
   refine zze ?_
   refine zza 35 (.slc 19 0 (i + 1) (i + 1)) ?_
   refine zza 36 (.v (.int .i64 (j : Int))) ?_
   refine zza 37 (.v y13.v) ?_
   refine zza 38 (.v (.int .i64 (i : Int))) ?_
   refine zza 39 (.v (.int .i64 (j : Int))) ?_
   refine zyp 40 (x := .v (.int .i64 (IntKind.i64.wrap ((i : Int) - (j : Int))))) (.v (.int .i64 ((i - j : Nat) : Int))) (eqI (by rw [IntWalk.i64_in _ (by omega)]; omega)) ?_
   have hl27 := (h14.ext (e18.trans (e20.trans g24.ext))).len
   obtain ⟨r27, b27, o27, hA27, hc27, hr27⟩ := pol_atN (h14.ext (e18.trans (e20.trans g24.ext))) (i := i - j) (by omega)
   refine zzz 41 (o27 + (i - j) * 3) (n := y13.n) (off := o27) (sz := 3) (i := ((i - j : Nat) : Int)) (by omega) hA27 (by omega) (by omega) sl29 ?_
   refine zyl 42 r27.cs hc27 ty41 ?_
   refine zyv 43 (off' := j * 3) (n := i + 1) (off := 0) (sz := 3) (i := (j : Int)) sl29 (by omega) (by omega) (by omega) ?_
   refine zyu (V := ⟨41, rcs ((L).set j r21)⟩) (off := j * 3) (rcs ((L).set j r27)) ty41 (by rw [zyx]; first|omega|(simp;omega)) ((zyw (r := r27) (i := j) (by first|omega|(simp;omega)) rfl).trans (by rw [List.set_set])) ?_
   refine zzw ?_
   refine zzo ?_
   refine zze ?_
   refine zyp 44 (x := .v (.int .i64 (IntKind.i64.wrap ((j : Int) + 1)))) (.v (.int .i64 ((j + 1 : Nat) : Int))) (eqI (by rw [IntWalk.i64_in _ (by omega)]; omega)) ?_
   refine zza 22 (.v (.int .i64 ((j + 1 : Nat) : Int))) ?_
   refine zzw ?_
   have ht9 : j < (Nt.revL l i).length := by rw [Nt.revL_len]; omega
   refine ⟨_, ?_, St.of 46 [(1, .v (.int .i64 (i : Int))), (5, .v (.slice y13.a y13.n y13.c)), (7, .slc 19 0 (i + 1) (i + 1)), (21, .v (.int .i64 ((i + 1 : Nat) : Int))), (22, .v (.int .i64 ((j + 1 : Nat) : Int)))] [(19, ⟨41, rcs ((L).set j r27)⟩)], by exact zzu _ _ _, j + 1, (L).set j r27, rfl, by omega, by simpa using hL, rfl, (e18.trans (e20.trans g24.ext)), RatsN.tstep (hR.ext (e20.trans g24.ext)) (by omega) ht9 (RatN.more (K := (Nt.upK i)) hr27 (by omega)) (by rw [Nt.revL_at l (by omega)]; exact Nt.trimD _ _)⟩
   omega
  ·replace hb26 : (decide (((i - j : Nat) : Int) < (y13.n : Int))) = false := hb26
   have qhb26 := of_decide_eq_false hb26
   refine zzr (zzo ?_)
   refine zze ?_
   refine zyp 44 (x := .v (.int .i64 (IntKind.i64.wrap ((j : Int) + 1)))) (.v (.int .i64 ((j + 1 : Nat) : Int))) (eqI (by rw [IntWalk.i64_in _ (by omega)]; omega)) ?_
   refine zza 22 (.v (.int .i64 ((j + 1 : Nat) : Int))) ?_
   refine zzw ?_
   have ht9 : j < (Nt.revL l i).length := by rw [Nt.revL_len]; omega
   refine ⟨_, ?_, St.of 46 [(1, .v (.int .i64 (i : Int))), (5, .v (.slice y13.a y13.n y13.c)), (7, .slc 19 0 (i + 1) (i + 1)), (21, .v (.int .i64 ((i + 1 : Nat) : Int))), (22, .v (.int .i64 ((j + 1 : Nat) : Int)))] [(19, ⟨41, rcs ((L).set j r21)⟩)], by exact zzu _ _ _, j + 1, (L).set j r21, rfl, by omega, by simpa using hL, rfl, (e18.trans (e20.trans g24.ext)), RatsN.tstep (hR.ext (e20.trans g24.ext)) (by omega) ht9 (RatN.more (K := 2) h22 (by omega)) (by rw [Nt.revL_at l (by omega), ← Nt.trimD]; exact (Nt.co_ge (by omega)).symm)⟩
   omega
 ·replace hb19 : (decide ((j : Int) < ((i + 1 : Nat) : Int))) = false := hb19
  have qhb19 := of_decide_eq_false hb19
  refine zyb ?_
  refine zzo ?_
  refine zzc ?_
  refine zyo (r := 7) (t := 19) [7, 19] (by repeat first | exact noAt_of | refine zyc ?_ | refine zye ?_ | refine zyd ?_ | refine zzx ?_ | refine zya ?_) (by kernel_rfl) (by rfl) (by rfl) (by kernel_rfl) (fun b28 u29 e30 hb31 hh32 => ?_)
  have hp33 : PolN u29 ⟨some ⟨b28, 0, none⟩, i + 1, i + 1⟩ (Nt.revL l i) (Nt.upK i) := pol_data1 hh32 (by unfold maxLen; omega) (RatsN.tdone (hR.ext e30) (by omega) (by rw [Nt.revL_len]; omega)) (by omega)
  refine zze ?_
  refine zza 45 (.v (.slice (some ⟨b28, 0, none⟩) (i + 1) (i + 1))) ?_
  refine zza 4 (.v (.slice (some ⟨b28, 0, none⟩) (i + 1) (i + 1))) ?_
  refine zzb 46 [(4, .v (.slice (some ⟨b28, 0, none⟩) (i + 1) (i + 1)))] [] ?_
  refine zzn (ret0 [.slice (some ⟨b28, 0, none⟩) (i + 1) (i + 1)] ⟨zzp, trivial⟩ fun u34 e35 => ?_)
  exact ⟨(⟨some ⟨b28, 0, none⟩, i + 1, i + 1⟩ : Sl), rfl, (hp33.ext e35)⟩
theorem k_sameRats {u w : World} {x y : Sl} {l : List Rat} {K M : Nat} (d : Dat u w) (hx : PolV u x l K) (hy : PolV u y l M) (hK : K ≤ 10000000) (hM : M ≤ 10000000) : Calls Tryz.prog 73 #[x.v, y.v] w (Post u w fun v u' => v = .bool true) := by
 have hlen := hx.len
 have hlen2 := hy.len
 have hmx := hx.max
 unfold maxLen at hmx
 refine zzl (args := [.slice x.a x.n x.c, .slice y.a y.n y.c]) Tryz.func73 rfl Tryz.ntmps73 (rs := [.tmp 4]) Tryz.results73 (le_b rfl) (le_b rfl) d ?_
 refine sq9 ?_
 refine zza 4 (.v (.bool false)) ?_
 refine zzb 27 [(0, .v x.v), (1, .v y.v)] [] ?_
 refine zzc ?_
 refine sq9 ?_
 refine zza 6 (.v x.v) ?_
 refine zza 7 (.v (.int .i64 (x.n : Int))) ?_
 refine zza 8 (.v y.v) ?_
 refine zza 9 (.v (.int .i64 (y.n : Int))) ?_
 refine zza 10 (.v (.bool ((x.n : Int) != (y.n : Int)))) ?_
 refine zzb 27 [(0, .v x.v), (1, .v y.v), (10, .v (.bool ((x.n : Int) != (y.n : Int))))] [] ?_
 refine zzt (b := (x.n : Int) != (y.n : Int)) (by kernel_rfl) (fun hb => ?_) (fun hb => ?_)
 ·exact absurd hb (by rw [show ((x.n : Int) != (y.n : Int)) = false from (by rw [hlen, hlen2]; simp)]; decide)
 ·clear hb
  refine zzr (zzo ?_)
  refine zzc ?_
  refine sq9 ?_
  refine zza 5 (.v (.int .i64 0)) ?_
  refine zzb 27 [(0, .v x.v), (1, .v y.v), (5, .v (.int .i64 0))] [] ?_
  refine zzs ?_
  refine zym (I := fun m11 S' u' => ∃ (i : Nat), (m11 = l.length - i) ∧ (i ≤ l.length) ∧ (S' = St.of 27 [(0, .v (.slice x.a x.n x.c)), (1, .v (.slice y.a y.n y.c)), (5, .v (.int .i64 (i : Int)))] []) ∧ (Ext u u')) (fun m S u1 u2 e h => by obtain ⟨i, hm, p0, hS, hE⟩ := h; exact ⟨i, hm, p0, hS, hE.trans e⟩) _ (T := St.of 27 [(0, .v (.slice x.a x.n x.c)), (1, .v (.slice y.a y.n y.c)), (5, .v (.int .i64 0))] []) (by exact zzu _ _ _) ⟨0, rfl, Nat.zero_le _, rfl, Ext.refl _⟩ ?_
  rintro m11 _ u11 ⟨i, hm11, hi, rfl, e11⟩
  refine zzc ?_
  refine sq9 ?_
  refine zza 11 (.v (.int .i64 (i : Int))) ?_
  refine zza 12 (.v x.v) ?_
  refine zza 13 (.v (.int .i64 (x.n : Int))) ?_
  refine zza 14 (.v (.bool (decide ((i : Int) < (x.n : Int))))) ?_
  refine zzb 27 [(0, .v x.v), (1, .v y.v), (5, .v (.int .i64 (i : Int))), (14, .v (.bool (decide ((i : Int) < (x.n : Int)))))] [] ?_
  refine zzt (b := decide ((i : Int) < (x.n : Int))) (by kernel_rfl) (fun hb12 => ?_) (fun hb12 => ?_)
  ·replace hb12 : (decide ((i : Int) < (x.n : Int))) = true := hb12
   have qhb12 := of_decide_eq_true hb12
   refine zzr (zzo ?_)
   refine zzc ?_
   refine zzs ?_
   refine zzc ?_
   refine zzy [0, 0, 3, 7, 0, 0, 48, 112, 255, 511] [(0, []), (1, []), (2, []), (3, []), (4, []), (5, []), (6, []), (7, []), (8, []), (9, [])] (by kernel_rfl) (by kernel_rfl) ?_
   refine zza 17 (.v x.v) ?_
   refine zza 18 (.v (.int .i64 (i : Int))) ?_
   have hl13 := (hx.ext e11).len
   obtain ⟨r13, b13, o13, hA13, hc13, hr13⟩ := pol_at (hx.ext e11) (i := i) (by omega)
   refine zzz 19 (o13 + i * 3) (n := x.n) (off := o13) (sz := 3) (i := (i : Int)) (by omega) hA13 (by omega) (by omega) sl28 ?_
   refine zyl 20 r13.cs hc13 ty41 ?_
   refine zza 21 (.v y.v) ?_
   refine zza 22 (.v (.int .i64 (i : Int))) ?_
   have hl14 := (hy.ext e11).len
   obtain ⟨r14, b14, o14, hA14, hc14, hr14⟩ := pol_at (hy.ext e11) (i := i) (by omega)
   refine zzz 23 (o14 + i * 3) (n := y.n) (off := o14) (sz := 3) (i := (i : Int)) (by omega) hA14 (by omega) (by omega) sl28 ?_
   refine zyl 24 r14.cs hc14 ty41 ?_
   refine zzf 25 14 [r13.v, r14.v] ?_
   intro w15 u15 e15 d15
   have k18 := k_rqCompare d15 (hr13.ext e15) (hr14.ext e15) (by omega) (by omega)
   with_reducible refine Post.mono k18 ?_
   rintro _ u16 g17 rfl
   refine zza 26 (.v (.bool ((Nt.cmpQ (l.getD i 0) (l.getD i 0)) != 0))) ?_
   refine zzb 27 [(0, .v x.v), (1, .v y.v), (5, .v (.int .i64 (i : Int))), (26, .v (.bool ((Nt.cmpQ (l.getD i 0) (l.getD i 0)) != 0)))] [] ?_
   refine zzt (b := (Nt.cmpQ (l.getD i 0) (l.getD i 0)) != 0) (by kernel_rfl) (fun hb => ?_) (fun hb => ?_)
   ·exact absurd hb (by rw [show ((Nt.cmpQ (l.getD i 0) (l.getD i 0)) != 0) = false from (Nt.cmpQ_self _)]; decide)
   ·clear hb
    refine zzr (zzo ?_)
    refine zze ?_
    refine zza 15 (.v (.int .i64 (i : Int))) ?_
    refine zyp 16 (x := .v (.int .i64 (IntKind.i64.wrap ((i : Int) + 1)))) (.v (.int .i64 ((i + 1 : Nat) : Int))) (eqI (by rw [IntWalk.i64_in _ (by omega)]; omega)) ?_
    refine zza 5 (.v (.int .i64 ((i + 1 : Nat) : Int))) ?_
    refine zzw ?_
    refine ⟨_, ?_, St.of 27 [(0, .v (.slice x.a x.n x.c)), (1, .v (.slice y.a y.n y.c)), (5, .v (.int .i64 ((i + 1 : Nat) : Int)))] [], by exact zzu _ _ _, i + 1, rfl, by omega, rfl, (e11.trans (e15.trans g17.ext))⟩
    omega
  ·replace hb12 : (decide ((i : Int) < (x.n : Int))) = false := hb12
   have qhb12 := of_decide_eq_false hb12
   refine zyb ?_
   refine zzo ?_
   refine sq9 ?_
   refine zza 4 (.v (.bool true)) ?_
   refine zzb 27 [(4, .v (.bool true))] [] ?_
   refine zzn (ret0 [.bool true] ⟨zzp, trivial⟩ fun u19 e20 => ?_)
   rfl
namespace Nt
def tapR (b k : List Rat) : Nat → List Rat
 | 0 => trimQ b
 | t + 1 => if (tapR b k t).length = k.length - t + 1 then trimQ (addQ (tapR b k t) ((trimQ ((revL k (k.length - t)).map (· * (tapR b k t).getD (k.length - t) 0))).map (fun z => -z))) else tapR b k t
def tapV (b k : List Rat) (t : Nat) : Rat := if (tapR b k t).length = k.length - t + 1 then (tapR b k t).getD (k.length - t) 0 else ((0 : Int) : Rat)
def tapL (b k : List Rat) : List Rat := (List.range (k.length + 1)).map fun i => tapV b k (k.length - i)
def tapE (b k : List Rat) : Int := if k.all smallQ then (if k.length + 1 < (trimQ b).length then 12 else 0) else 14
def tapO (b k : List Rat) : List Rat := if tapE b k = 0 then tapL b k else []
def tapK (t : Nat) : Nat := 2104 * 2 ^ t - 2100
theorem tapK_succ (t : Nat) : tapK (t + 1) = 2 * tapK t + 2100 ∧ 4 ≤ tapK t := by
 unfold tapK
 have := Nat.one_le_two_pow (n := t)
 rw [Nat.pow_succ]
 omega
theorem tapK_le {t : Nat} (h : t ≤ 7) : tapK t ≤ 270000 := by
 unfold tapK
 have := Nat.pow_le_pow_right (n := 2) (by decide) h
 omega
theorem tapL_len (b k : List Rat) : (tapL b k).length = k.length + 1 := by unfold tapL; simp
theorem tapL_at (b k : List Rat) {t : Nat} (h : t ≤ k.length) : (tapL b k).getD (k.length - t) 0 = tapV b k t := by
 unfold tapL
 rw [List.getD_eq_getElem?_getD, List.getElem?_map, List.getElem?_range (by omega)]
 show tapV b k (k.length - (k.length - t)) = _
 rw [show k.length - (k.length - t) = t by omega]
theorem all_small {k : List Rat} (h : ∀ i, i < k.length → smallQ (k.getD i 0) = true) : k.all smallQ = true := by
 rw [List.all_eq_true]
 intro q hq
 obtain ⟨i, hi, rfl⟩ := List.getElem_of_mem hq
 have := h i hi
 rwa [List.getD_eq_getElem?_getD, List.getElem?_eq_getElem hi] at this
theorem not_all {k : List Rat} {i : Nat} (hi : i < k.length) (h : smallQ (k.getD i 0) = false) : k.all smallQ = false := by
 cases e : k.all smallQ with
 | false => rfl
 | true =>
  rw [List.all_eq_true] at e
  have h9 := e (k[i]) (List.getElem_mem hi)
  rw [List.getD_eq_getElem?_getD, List.getElem?_eq_getElem hi] at h
  have h : smallQ (k[i]) = false := h
  rw [h9] at h; cases h
theorem tapE_bad {b k : List Rat} {i : Nat} (hi : i < k.length) (h : smallQ (k.getD i 0) = false) : tapE b k = 14 ∧ tapO b k = [] := by
 have e : tapE b k = 14 := by unfold tapE; rw [not_all hi h]; rfl
 exact ⟨e, by unfold tapO; rw [e]; rfl⟩
theorem tapE_deg {b k : List Rat} (hz : ∀ i, i < k.length → smallQ (k.getD i 0) = true) (h : k.length + 1 < (trimQ b).length) : tapE b k = 12 ∧ tapO b k = [] := by
 have e : tapE b k = 12 := by unfold tapE; rw [all_small hz, if_pos rfl, if_pos h]
 exact ⟨e, by unfold tapO; rw [e]; rfl⟩
theorem tapE_ok {b k : List Rat} (hz : ∀ i, i < k.length → smallQ (k.getD i 0) = true) (h : (trimQ b).length ≤ k.length + 1) : tapE b k = 0 ∧ tapO b k = tapL b k := by
 have e : tapE b k = 0 := by unfold tapE; rw [all_small hz, if_pos rfl, if_neg (by omega)]
 exact ⟨e, by unfold tapO; rw [e]; rfl⟩
theorem tapR_trim (b k : List Rat) (t : Nat) : trimQ (tapR b k t) = tapR b k t := by
 induction t with
 | zero => exact trim_trim _
 | succ t ih =>
  unfold tapR
  split
  ·exact trim_trim _
  ·exact ih
theorem tapR_len (b k : List Rat) (t : Nat) : (tapR b k t).length ≤ b.length + k.length + 1 := by
 induction t with
 | zero => have h9 := zzg b; show (trimQ b).length ≤ _; omega
 | succ t ih =>
  unfold tapR
  split
  ·refine Nat.le_trans (zzg _) ?_
   rw [addQ_len, List.length_map]
   have h9 : (trimQ ((revL k (k.length - t)).map (· * (tapR b k t).getD (k.length - t) 0))).length ≤ k.length - t + 1 := map_lenQ (Nat.le_of_eq (revL_len _ _))
   omega
  ·exact ih
theorem tapR_yes {b k : List Rat} {t : Nat} (h : (tapR b k t).length = k.length - t + 1) : trimQ (addQ (tapR b k t) ((trimQ ((revL k (k.length - t)).map (· * (tapR b k t).getD (k.length - t) 0))).map (fun z => -z))) = tapR b k (t + 1) := by
 rw [tapR, if_pos h]
theorem tapR_no {b k : List Rat} {t : Nat} (h : (tapR b k t).length ≠ k.length - t + 1) : tapR b k t = tapR b k (t + 1) := by
 rw [tapR, if_neg h]
theorem tapV_yes {b k : List Rat} {t : Nat} (h : (tapR b k t).length = k.length - t + 1) : (tapR b k t).getD (k.length - t) 0 = tapV b k t := by
 unfold tapV; rw [if_pos h]
theorem tapV_no {b k : List Rat} {t : Nat} (h : (tapR b k t).length ≠ k.length - t + 1) : ((0 : Int) : Rat) = tapV b k t := by
 unfold tapV; rw [if_neg h]
end Nt
def RatsTop (u : World) (L : List RL) (l : List Rat) (s K : Nat) : Prop := ∀ j, s ≤ j → j < l.length → RatN u (L.getD j rl0) (l.getD j 0) K
theorem RatsTop.ext {u u' : World} {L : List RL} {l : List Rat} {s K : Nat} (h : RatsTop u L l s K) (e : Ext u u') : RatsTop u' L l s K := fun j h1 h2 => (h j h1 h2).ext e
theorem RatsTop.set {u : World} {L : List RL} {l : List Rat} {s s2 s3 K : Nat} {r : RL} (h : RatsTop u L l s2 K) (hs : s2 = s + 1) (hs3 : s3 = s) (hl : s < L.length) (hr : RatN u r (l.getD s 0) K) : RatsTop u (L.set s r) l s3 K := fun j h1 h2 => by
 subst hs3
 by_cases e : j = s3
 ·subst e; rw [rl_set_same hl]; exact hr
 ·have h9 := h j (by omega) h2
  rw [List.getD_eq_getElem?_getD, List.getElem?_set_ne (by omega), ← List.getD_eq_getElem?_getD]
  exact h9
theorem RatsTop.none {u : World} {L : List RL} {l : List Rat} {s K : Nat} (h : l.length ≤ s) : RatsTop u L l s K := fun j h1 h2 => by omega
theorem RatsTop.done {u : World} {L : List RL} {l : List Rat} {s K : Nat} (h : RatsTop u L l s K) (hs : s = 0) (hL : L.length = l.length) : RatsN u L l K := ⟨hL, fun i hi => by
 first
 | exact h i (by omega) hi
 | exact h i (by omega) (by omega)⟩
set_option maxHeartbeats 8000000 in
theorem k_taps {u w : World} {x y : Sl} {p l : List Rat} {K M : Nat} (d : Dat u w) (hx : PolV u x p K) (hy : PolV u y l M) (hl : l.length ≤ 6) (hM : M ≤ 4) (hK : K ≤ 4) (hp9 : p.length ≤ 1000) : Calls Tryz.prog 71 #[x.v, y.v] w (Post u w fun v u' => ∃ y : Sl, v = .tuple #[y.v, .int .i64 (Nt.tapE p l)] ∧ PolN u' y (Nt.tapO p l) 270000) := by
 have hlen := hx.len
 have hlen2 := hy.len
 have htp := Nt.zzg p
 refine zzl (args := [.slice x.a x.n x.c, .slice y.a y.n y.c]) Tryz.func71 rfl Tryz.ntmps71 (rs := [.tmp 4, .tmp 5]) Tryz.results71 (le_b rfl) (le_b rfl) d ?_
 refine sq9 ?_
 refine zza 4 (.v (.slice none 0 0)) ?_
 refine zza 5 (.v (.int .i64 0)) ?_
 refine zzb 64 [(0, .v x.v), (1, .v y.v)] [] ?_
 refine zzc ?_
 refine sq9 ?_
 refine zza 12 (.v y.v) ?_
 refine zzf 13 52 [y.v] ?_
 intro w11 u11 e11 d11
 have k15 := k_stepUp d11 (hy.ext e11) (by omega) (by omega)
 with_reducible refine Post.mono k15 ?_
 rintro _ u13 g14 (⟨i12, hi12, hs12, rfl⟩ | ⟨hz12, y12, rfl, hy12⟩)
 ·skip
  refine zza 11 (.v (.tuple #[.slice none 0 0, .int .i64 14])) ?_
  refine zza 14 (.v (.slice none 0 0)) ?_
  refine zza 15 (.v (.int .i64 14)) ?_
  refine zza 6 (.v (.slice none 0 0)) ?_
  refine zza 7 (.v (.int .i64 14)) ?_
  refine zzb 64 [(0, .v x.v), (1, .v y.v), (7, .v (.int .i64 14))] [] ?_
  refine sq9 ?_
  refine zza 16 (.v (.int .i64 14)) ?_
  refine zza 17 (.v (.bool true)) ?_
  refine zzb 64 [(0, .v x.v), (1, .v y.v), (7, .v (.int .i64 14)), (17, .v (.bool true))] [] ?_
  refine zyq (by kernel_rfl) ?_
  refine sq9 ?_
  refine zza 18 (.v (.int .i64 14)) ?_
  refine zza 4 (.v (.slice none 0 0)) ?_
  refine zza 5 (.v (.int .i64 14)) ?_
  refine zzb 64 [(4, .v (.slice none 0 0)), (5, .v (.int .i64 14))] [] ?_
  refine zzn (zzv (ret0 [.slice none 0 0, .int .i64 14] ⟨zzp, zzp, trivial⟩ fun u16 e17 => ?_))
  refine ⟨⟨none, 0, 0⟩, by rw [(Nt.tapE_bad hi12 hs12).1]; rfl, by rw [(Nt.tapE_bad hi12 hs12).2]; exact pol_nil _ _⟩
 ·have hly12 := hy12.len
  have hmy12 := Nt.zzg (Nt.upL l l.length)
  rw [Nt.upL_len] at hmy12
  have hky12 := Nt.upK_le (show l.length ≤ 6 by omega)
  refine zza 11 (.v (.tuple #[y12.v, .int .i64 0])) ?_
  refine zza 14 (.v y12.v) ?_
  refine zza 15 (.v (.int .i64 0)) ?_
  refine zza 6 (.v y12.v) ?_
  refine zza 7 (.v (.int .i64 0)) ?_
  refine zzb 64 [(0, .v x.v), (1, .v y.v), (7, .v (.int .i64 0))] [] ?_
  refine sq9 ?_
  refine zza 16 (.v (.int .i64 0)) ?_
  refine zza 17 (.v (.bool false)) ?_
  refine zzb 64 [(0, .v x.v), (1, .v y.v), (7, .v (.int .i64 0)), (17, .v (.bool false))] [] ?_
  refine zyr (by kernel_rfl) ?_
  refine zzr (zzo ?_)
  refine zzc ?_
  refine sq9 ?_
  refine zza 19 (.v x.v) ?_
  refine zzf 20 130 [x.v] ?_
  intro w18 u18 e18 d18
  have k21 := k_poDegree d18 (hx.ext (e11.trans (g14.ext.trans e18))) (by omega) (by first|omega|(simp;omega) | (refine Nat.le_trans (Nt.zzg _) ?_; first|omega|(simp;omega)) | (refine Nat.le_trans (Nt.zzg _) ?_; simp only [List.length_map]; refine Nat.le_trans (Nt.zzg _) ?_; first|omega|(simp;omega)))
  with_reducible refine Post.mono k21 ?_
  rintro _ u19 g20 rfl
  refine zza 21 (.v y.v) ?_
  refine zza 22 (.v (.int .i64 (y.n : Int))) ?_
  refine zza 23 (.v (.bool (decide ((y.n : Int) < (((Nt.trimQ p).length : Int) - 1))))) ?_
  refine zzb 64 [(0, .v x.v), (1, .v y.v), (23, .v (.bool (decide ((y.n : Int) < (((Nt.trimQ p).length : Int) - 1)))))] [] ?_
  refine zzt (b := decide ((y.n : Int) < (((Nt.trimQ p).length : Int) - 1))) (by kernel_rfl) (fun hb22 => ?_) (fun hb22 => ?_)
  ·replace hb22 : (decide ((y.n : Int) < (((Nt.trimQ p).length : Int) - 1))) = true := hb22
   have qhb22 := of_decide_eq_true hb22
   refine sq9 ?_
   refine zza 4 (.v (.slice none 0 0)) ?_
   refine zza 5 (.v (.int .i64 12)) ?_
   refine zzb 64 [(4, .v (.slice none 0 0)), (5, .v (.int .i64 12))] [] ?_
   refine zzn (zzv (ret0 [.slice none 0 0, .int .i64 12] ⟨zzp, zzp, trivial⟩ fun u23 e24 => ?_))
   refine ⟨⟨none, 0, 0⟩, by rw [(Nt.tapE_deg hz12 (by omega)).1]; rfl, by rw [(Nt.tapE_deg hz12 (by omega)).2]; exact pol_nil _ _⟩
  ·replace hb22 : (decide ((y.n : Int) < (((Nt.trimQ p).length : Int) - 1))) = false := hb22
   have qhb22 := of_decide_eq_false hb22
   refine zzr (zzo ?_)
   refine sq9 ?_
   refine zza 24 (.v x.v) ?_
   refine zzf 25 53 [x.v] ?_
   intro w25 u25 e25 d25
   have k30 := k_poTrim d25 (hx.ext (e11.trans (g14.ext.trans (e18.trans (g20.ext.trans e25))))) (by omega) (by first|omega|(simp;omega) | (refine Nat.le_trans (Nt.zzg _) ?_; first|omega|(simp;omega)) | (refine Nat.le_trans (Nt.zzg _) ?_; simp only [List.length_map]; refine Nat.le_trans (Nt.zzg _) ?_; first|omega|(simp;omega)))
   with_reducible refine Post.mono k30 ?_
   rintro _ u28 g29 ⟨y26, rfl, h27⟩
   have hly26 := h27.len
   refine zza 8 (.v y26.v) ?_
   refine zzb 64 [(1, .v y.v), (8, .v y26.v)] [] ?_
   refine sq9 ?_
   refine zza 26 (.v y.v) ?_
   refine zza 27 (.v (.int .i64 (y.n : Int))) ?_
   refine zyp 28 (x := .v (.int .i64 (IntKind.i64.wrap ((y.n : Int) + 1)))) (.v (.int .i64 ((y.n + 1 : Nat) : Int))) (eqI (by rw [IntWalk.i64_in _ (by omega)]; omega)) ?_
   refine sy_make 29 (T := 28) (E := 41) (z := .agg #[.bool false, .slice none 0 0, .slice none 0 0]) (size := 3) (bytes := 56) (y.n + 1) (rcs (List.replicate (y.n + 1) rl0)) (by kernel_rfl) (by kernel_rfl) rfl rfl (by omega) (by unfold maxLen; omega) (made_rcs _) ?_
   refine zza 9 (.slc 29 0 (y.n + 1) (y.n + 1)) ?_
   refine zzb 64 [(1, .v y.v), (8, .v y26.v), (9, .slc 29 0 (y.n + 1) (y.n + 1))] [(29, ⟨41, rcs (List.replicate (y.n + 1) rl0)⟩)] ?_
   refine zzc ?_
   refine sq9 ?_
   refine zza 30 (.v y.v) ?_
   refine zza 31 (.v (.int .i64 (y.n : Int))) ?_
   refine zza 10 (.v (.int .i64 (y.n : Int))) ?_
   refine zzb 64 [(1, .v y.v), (8, .v y26.v), (9, .slc 29 0 (y.n + 1) (y.n + 1)), (10, .v (.int .i64 (y.n : Int)))] [(29, ⟨41, rcs (List.replicate (y.n + 1) rl0)⟩)] ?_
   refine zzs ?_
   rw [show ((y.n : Nat) : Int) = ((l.length : Nat) : Int) by omega]
   have hz := hz12
   refine zym (I := fun m31 S' u' => ∃ (t : Nat) (L : List RL) (r : Sl), (m31 = l.length + 1 - t) ∧ (t ≤ l.length + 1) ∧ (L.length = l.length + 1) ∧ (S' = St.of 64 [(1, .v (.slice y.a y.n y.c)), (8, .v (.slice r.a r.n r.c)), (9, .slc 29 0 (y.n + 1) (y.n + 1)), (10, .v (.int .i64 ((l.length : Int) - ((t : Nat) : Int))))] [(29, ⟨41, rcs L⟩)]) ∧ (Ext u28 u') ∧ (PolN u' r (Nt.tapR p l t) (Nt.tapK t)) ∧ (RatsTop u' L (Nt.tapL p l) (l.length + 1 - t) 270000)) (fun m S u1 u2 e h => by obtain ⟨t, L, r, hm, p0, p1, hS, hE, f0, f1⟩ := h; exact ⟨t, L, r, hm, p0, p1, hS, hE.trans e, f0.ext e, f1.ext e⟩) _ (T := St.of 64 [(1, .v (.slice y.a y.n y.c)), (8, .v (.slice y26.a y26.n y26.c)), (9, .slc 29 0 (y.n + 1) (y.n + 1)), (10, .v (.int .i64 (l.length : Int)))] [(29, ⟨41, rcs (List.replicate (y.n + 1) rl0)⟩)]) (by exact zzu _ _ _) ⟨0, List.replicate (y.n + 1) rl0, y26, rfl, Nat.zero_le _, by simp; omega, rfl, Ext.refl _, (PolN.more h27 (by have h9 : Nt.tapK 0 = 4 := (by decide); omega)), (RatsTop.none (by rw [Nt.tapL_len]; omega))⟩ ?_
   rintro m31 _ u31 ⟨t, L, r, hm31, ht, hL, rfl, e31, hF, hR⟩
   have hrl := hF.len
   have htk := Nt.tapK_succ t
   have htk2 := Nt.tapK_le (show t ≤ 7 by omega)
   have hrb := Nt.tapR_len p l t
   have hrt := congrArg List.length (Nt.tapR_trim p l t)
   refine zzc ?_
   refine sq9 ?_
   refine zza 32 (.v (.int .i64 ((l.length : Int) - ((t : Nat) : Int)))) ?_
   refine zza 33 (.v (.bool (decide ((0 : Int) ≤ ((l.length : Int) - ((t : Nat) : Int)))))) ?_
   refine zzb 64 [(1, .v y.v), (8, .v r.v), (9, .slc 29 0 (y.n + 1) (y.n + 1)), (10, .v (.int .i64 ((l.length : Int) - ((t : Nat) : Int)))), (33, .v (.bool (decide ((0 : Int) ≤ ((l.length : Int) - ((t : Nat) : Int))))))] [(29, ⟨41, rcs L⟩)] ?_
   refine zzt (b := decide ((0 : Int) ≤ ((l.length : Int) - ((t : Nat) : Int)))) (by kernel_rfl) (fun hb32 => ?_) (fun hb32 => ?_)
   ·replace hb32 : (decide ((0 : Int) ≤ ((l.length : Int) - ((t : Nat) : Int)))) = true := hb32
    have qhb32 := of_decide_eq_true hb32
    refine zzr (zzo ?_)
    refine zzc ?_
    refine zzs ?_
    refine zzc ?_
    rw [show (l.length : Int) - ((t : Nat) : Int) = ((l.length - t : Nat) : Int) by omega]
    refine zze ?_
    refine zza 36 (.slc 29 0 (y.n + 1) (y.n + 1)) ?_
    refine zza 37 (.v (.int .i64 ((l.length - t : Nat) : Int))) ?_
    refine zzf 38 61 [.int .i64 0] ?_
    intro w33 u33 e33 d33
    have k38 := k_ratOf d33 (z := 0) (by omega) (by omega)
    with_reducible refine Post.mono k38 ?_
    rintro _ u36 g37 ⟨r34, rfl, h35⟩
    refine zyv 39 (off' := (l.length - t) * 3) (n := y.n + 1) (off := 0) (sz := 3) (i := ((l.length - t : Nat) : Int)) sl28 (by omega) (by omega) (by omega) ?_
    refine zyu (V := ⟨41, rcs L⟩) (off := (l.length - t) * 3) (rcs ((L).set (l.length - t) r34)) ty41 (by rw [zyx]; first|omega|(simp;omega)) (zyw (r := r34) (i := l.length - t) (by first|omega|(simp;omega)) rfl) ?_
    refine zzb 64 [(1, .v y.v), (8, .v r.v), (9, .slc 29 0 (y.n + 1) (y.n + 1)), (10, .v (.int .i64 ((l.length - t : Nat) : Int)))] [(29, ⟨41, rcs ((L).set (l.length - t) r34)⟩)] ?_
    refine sq9 ?_
    refine zza 40 (.v r.v) ?_
    refine zza 41 (.v (.int .i64 (r.n : Int))) ?_
    refine zza 42 (.v (.int .i64 ((l.length - t : Nat) : Int))) ?_
    refine zyp 43 (x := .v (.int .i64 (IntKind.i64.wrap (((l.length - t : Nat) : Int) + 1)))) (.v (.int .i64 (((l.length - t) + 1 : Nat) : Int))) (eqI (by rw [IntWalk.i64_in _ (by omega)]; omega)) ?_
    refine zza 44 (.v (.bool ((r.n : Int) == (((l.length - t) + 1 : Nat) : Int)))) ?_
    refine zzb 64 [(1, .v y.v), (8, .v r.v), (9, .slc 29 0 (y.n + 1) (y.n + 1)), (10, .v (.int .i64 ((l.length - t : Nat) : Int))), (44, .v (.bool ((r.n : Int) == (((l.length - t) + 1 : Nat) : Int))))] [(29, ⟨41, rcs ((L).set (l.length - t) r34)⟩)] ?_
    refine zzt (b := (r.n : Int) == (((l.length - t) + 1 : Nat) : Int)) (by kernel_rfl) (fun hb39 => ?_) (fun hb39 => ?_)
    ·replace hb39 : ((r.n : Int) == (((l.length - t) + 1 : Nat) : Int)) = true := hb39
     have qhb39 : (Nt.tapR p l t).length = l.length - t + 1 := by have h9 := eq_of_beq hb39; omega
     refine sq9 ?_
     refine zza 45 (.slc 29 0 (y.n + 1) (y.n + 1)) ?_
     refine zza 46 (.v (.int .i64 ((l.length - t : Nat) : Int))) ?_
     refine zza 47 (.v r.v) ?_
     refine zza 48 (.v (.int .i64 ((l.length - t : Nat) : Int))) ?_
     have hl40 := (hF.ext (e33.trans g37.ext)).len
     obtain ⟨r40, b40, o40, hA40, hc40, hr40⟩ := pol_atN (hF.ext (e33.trans g37.ext)) (i := l.length - t) (by omega)
     refine zzz 49 (o40 + (l.length - t) * 3) (n := r.n) (off := o40) (sz := 3) (i := ((l.length - t : Nat) : Int)) (by omega) hA40 (by omega) (by omega) sl29 ?_
     refine zyl 50 r40.cs hc40 ty41 ?_
     refine zzf 51 58 [r40.v] ?_
     intro w41 u41 e41 d41
     have k46 := k_ratTrim d41 (hr40.ext e41).raw (by omega)
     with_reducible refine Post.mono k46 ?_
     rintro _ u44 g45 ⟨r42, rfl, h43⟩
     refine zyv 52 (off' := (l.length - t) * 3) (n := y.n + 1) (off := 0) (sz := 3) (i := ((l.length - t : Nat) : Int)) sl28 (by omega) (by omega) (by omega) ?_
     refine zyu (V := ⟨41, rcs ((L).set (l.length - t) r34)⟩) (off := (l.length - t) * 3) (rcs ((L).set (l.length - t) r42)) ty41 (by rw [zyx]; first|omega|(simp;omega)) ((zyw (r := r42) (i := l.length - t) (by first|omega|(simp;omega)) rfl).trans (by rw [List.set_set])) ?_
     refine zzb 64 [(1, .v y.v), (8, .v r.v), (9, .slc 29 0 (y.n + 1) (y.n + 1)), (10, .v (.int .i64 ((l.length - t : Nat) : Int)))] [(29, ⟨41, rcs ((L).set (l.length - t) r42)⟩)] ?_
     refine zzy [0, 0, 0, 6, 0, 0, 48, 112, 254, 511, 1023] [(0, []), (1, []), (2, []), (4, []), (5, []), (6, []), (7, []), (3, []), (8, []), (9, []), (10, [])] (by kernel_rfl) (by kernel_rfl) ?_
     refine zza 53 (.v r.v) ?_
     refine zza 54 (.v y.v) ?_
     refine zza 55 (.v (.int .i64 ((l.length - t : Nat) : Int))) ?_
     refine zza 57 (.slc 29 0 (y.n + 1) (y.n + 1)) ?_
     refine zza 58 (.v (.int .i64 ((l.length - t : Nat) : Int))) ?_
     refine zyv 59 (off' := (l.length - t) * 3) (n := y.n + 1) (off := 0) (sz := 3) (i := ((l.length - t : Nat) : Int)) sl28 (by omega) (by omega) (by omega) ?_
     refine zzh 60 (V := ⟨41, rcs ((L).set (l.length - t) r42)⟩) (off := (l.length - t) * 3) (.v r42.v) ty41 (by have h9 := part_rcs (L := (L).set (l.length - t) r42) (i := l.length - t) (off := (l.length - t) * 3) (by first|omega|(simp;omega)) rfl; rw [rl_set_same (by first|omega|(simp;omega))] at h9; exact h9) ?_
     refine zzf 56 51 [y.v, .int .i64 ((l.length - t : Nat) : Int)] ?_
     intro w47 u47 e47 d47
     have k52 := (show Calls _ _ #[_, .int .i64 ((l.length - t : Nat) : Int)] _ _ from k_reversed (i := l.length - t) d47 (hy.ext (e11.trans (g14.ext.trans (e18.trans (g20.ext.trans (e25.trans (g29.ext.trans (e31.trans (e33.trans (g37.ext.trans (e41.trans (g45.ext.trans e47)))))))))))) (by omega) (by omega) hz (by omega))
     with_reducible refine Post.mono k52 ?_
     rintro _ u50 g51 ⟨y48, rfl, h49⟩
     have hly48 := h49.len
     have hmy48 := Nt.revL_len l (l.length - t)
     have hky48 := Nt.upK_le (show l.length - t ≤ 6 by omega)
     refine zzf 61 50 [y48.v, r42.v] ?_
     intro w53 u53 e53 d53
     have k58 := k_poScale d53 (h49.ext e53).raw (h43.ext (e47.trans (g51.ext.trans e53))).raw (by omega) (by first|omega|(simp;omega) | (refine Nat.le_trans (Nt.zzg _) ?_; first|omega|(simp;omega)) | (refine Nat.le_trans (Nt.zzg _) ?_; simp only [List.length_map]; refine Nat.le_trans (Nt.zzg _) ?_; first|omega|(simp;omega))) (by omega)
     with_reducible refine Post.mono k58 ?_
     rintro _ u56 g57 ⟨y54, rfl, h55⟩
     have hly54 := h55.len
     refine zzf 62 96 [r.v, y54.v] ?_
     intro w59 u59 e59 d59
     have k64 := k_poSub d59 (hF.ext (e33.trans (g37.ext.trans (e41.trans (g45.ext.trans (e47.trans (g51.ext.trans (e53.trans (g57.ext.trans e59))))))))).raw (h55.ext e59).raw (by omega) (by omega) (by first|omega|(simp;omega) | (refine Nat.le_trans (Nt.zzg _) ?_; first|omega|(simp;omega)) | (refine Nat.le_trans (Nt.zzg _) ?_; simp only [List.length_map]; refine Nat.le_trans (Nt.zzg _) ?_; first|omega|(simp;omega))) (by first|omega|(simp;omega) | (refine Nat.le_trans (Nt.zzg _) ?_; first|omega|(simp;omega)) | (refine Nat.le_trans (Nt.zzg _) ?_; simp only [List.length_map]; refine Nat.le_trans (Nt.zzg _) ?_; first|omega|(simp;omega)))
     with_reducible refine Post.mono k64 ?_
     rintro _ u62 g63 ⟨y60, rfl, h61⟩
     have hly60 := h61.len
     refine zza 8 (.v y60.v) ?_
     refine zzw ?_
     refine zzo ?_
     refine zze ?_
     refine zza 34 (.v (.int .i64 ((l.length - t : Nat) : Int))) ?_
     refine zyp 35 (x := .v (.int .i64 (IntKind.i64.wrap (((l.length - t : Nat) : Int) - 1)))) (.v (.int .i64 ((l.length : Int) - ((t + 1 : Nat) : Int)))) (eqI (by rw [IntWalk.i64_in _ (by omega)]; omega)) ?_
     refine zza 10 (.v (.int .i64 ((l.length : Int) - ((t + 1 : Nat) : Int)))) ?_
     refine zzw ?_
     have he9 := Nt.tapR_yes qhb39
     refine ⟨_, ?_, St.of 64 [(1, .v (.slice y.a y.n y.c)), (8, .v (.slice y60.a y60.n y60.c)), (9, .slc 29 0 (y.n + 1) (y.n + 1)), (10, .v (.int .i64 ((l.length : Int) - ((t + 1 : Nat) : Int))))] [(29, ⟨41, rcs ((L).set (l.length - t) r42)⟩)], by exact zzu _ _ _, t + 1, (L).set (l.length - t) r42, y60, rfl, by omega, by simpa using hL, rfl, (e31.trans (e33.trans (g37.ext.trans (e41.trans (g45.ext.trans (e47.trans (g51.ext.trans (e53.trans (g57.ext.trans (e59.trans g63.ext)))))))))), (by rw [← he9]; exact PolN.more (K := ((Nt.tapK t) + ((Nt.upK (l.length - t)) + (Nt.tapK t)) + 1)) h61 (by omega)), (RatsTop.set (s := l.length - t) (hR.ext (e33.trans (g37.ext.trans (e41.trans (g45.ext.trans (e47.trans (g51.ext.trans (e53.trans (g57.ext.trans (e59.trans g63.ext)))))))))) (by omega) (by omega) (by omega) (by rw [Nt.tapL_at p l (by omega), ← Nt.tapV_yes qhb39]; exact RatN.more (K := (Nt.tapK t)) (h43.ext (e47.trans (g51.ext.trans (e53.trans (g57.ext.trans (e59.trans g63.ext)))))) (by omega)))⟩
     omega
    ·replace hb39 : ((r.n : Int) == (((l.length - t) + 1 : Nat) : Int)) = false := hb39
     have qhb39 : (Nt.tapR p l t).length ≠ l.length - t + 1 := by have h9 := ne_of_beq_false hb39; omega
     refine zzr (zzo ?_)
     refine zze ?_
     refine zza 34 (.v (.int .i64 ((l.length - t : Nat) : Int))) ?_
     refine zyp 35 (x := .v (.int .i64 (IntKind.i64.wrap (((l.length - t : Nat) : Int) - 1)))) (.v (.int .i64 ((l.length : Int) - ((t + 1 : Nat) : Int)))) (eqI (by rw [IntWalk.i64_in _ (by omega)]; omega)) ?_
     refine zza 10 (.v (.int .i64 ((l.length : Int) - ((t + 1 : Nat) : Int)))) ?_
     refine zzw ?_
     have he9 := Nt.tapR_no qhb39
     refine ⟨_, ?_, St.of 64 [(1, .v (.slice y.a y.n y.c)), (8, .v (.slice r.a r.n r.c)), (9, .slc 29 0 (y.n + 1) (y.n + 1)), (10, .v (.int .i64 ((l.length : Int) - ((t + 1 : Nat) : Int))))] [(29, ⟨41, rcs ((L).set (l.length - t) r34)⟩)], by exact zzu _ _ _, t + 1, (L).set (l.length - t) r34, r, rfl, by omega, by simpa using hL, rfl, (e31.trans (e33.trans g37.ext)), (by rw [← he9]; exact PolN.more (K := (Nt.tapK t)) (hF.ext (e33.trans g37.ext)) (by omega)), (RatsTop.set (s := l.length - t) (hR.ext (e33.trans g37.ext)) (by omega) (by omega) (by omega) (by rw [Nt.tapL_at p l (by omega), ← Nt.tapV_no qhb39]; exact RatN.more (K := 2) h35 (by omega)))⟩
     omega
   ·replace hb32 : (decide ((0 : Int) ≤ ((l.length : Int) - ((t : Nat) : Int)))) = false := hb32
    have qhb32 := of_decide_eq_false hb32
    refine zyb ?_
    refine zzo ?_
    refine zzc ?_
    refine zyo (r := 9) (t := 29) [9, 29] (by repeat first | exact noAt_of | refine zyc ?_ | refine zye ?_ | refine zyd ?_ | refine zzx ?_ | refine zya ?_) (by kernel_rfl) (by rfl) (by rfl) (by kernel_rfl) (fun b65 u66 e67 hb68 hh69 => ?_)
    have hp70 : PolN u66 ⟨some ⟨b65, 0, none⟩, y.n + 1, y.n + 1⟩ (Nt.tapL p l) 270000 := pol_data1 hh69 (by unfold maxLen; omega) (RatsTop.done (hR.ext e67) (by omega) (by rw [Nt.tapL_len]; omega)) (by omega)
    refine zze ?_
    refine zza 63 (.v (.slice (some ⟨b65, 0, none⟩) (y.n + 1) (y.n + 1))) ?_
    refine zza 4 (.v (.slice (some ⟨b65, 0, none⟩) (y.n + 1) (y.n + 1))) ?_
    refine zza 5 (.v (.int .i64 0)) ?_
    refine zzb 64 [(4, .v (.slice (some ⟨b65, 0, none⟩) (y.n + 1) (y.n + 1))), (5, .v (.int .i64 0))] [] ?_
    refine zzn (ret0 [.slice (some ⟨b65, 0, none⟩) (y.n + 1) (y.n + 1), .int .i64 0] ⟨zzp, zzp, trivial⟩ fun u71 e72 => ?_)
    refine ⟨(⟨some ⟨b65, 0, none⟩, y.n + 1, y.n + 1⟩ : Sl), by rw [(Nt.tapE_ok hz12 (by omega)).1]; rfl, by rw [(Nt.tapE_ok hz12 (by omega)).2]; exact (hp70.ext e72)⟩
namespace Nt
theorem upL_zero (k : List Rat) (i : Nat) : (upL k i).getD 0 0 = 1 := by
 induction i with
 | zero => rfl
 | succ i ih =>
  rw [upL_at k (by omega), ih]
  have h : (upL k i).getD (i + 1 - 0) 0 = 0 := co_ge (by rw [upL_len]; omega)
  rw [h, Rat.mul_zero, Rat.add_zero]
end Nt
namespace Nt
def lastN (k : List Rat) : Nat → Nat
 | 0 => 0
 | n + 1 => if k.getD n 0 = 0 then lastN k n else n + 1
theorem lastN_le (k : List Rat) (n : Nat) : lastN k n ≤ n := by
 induction n with
 | zero => exact Nat.le_refl _
 | succ n ih => unfold lastN; split <;> omega
theorem lastN_zero (k : List Rat) (n : Nat) : ∀ i, lastN k n ≤ i → i < n → k.getD i 0 = 0 := by
 induction n with
 | zero => intro i _ h; omega
 | succ n ih =>
  intro i h1 h2
  unfold lastN at h1
  split at h1
  ·rename_i h
   rcases Nat.lt_or_ge i n with hl | hl
   ·exact ih i h1 hl
   ·rw [show i = n by omega]; exact h
  ·omega
theorem upL_top (k : List Rat) (m : Nat) : (upL k (m + 1)).getD (m + 1) 0 = k.getD m 0 := by
 rw [upL_at k (by omega), Nat.sub_self, upL_zero]
 have h : (upL k m).getD (m + 1) 0 = 0 := co_ge (by rw [upL_len]; omega)
 rw [h]; grind
theorem trim_up (k : List Rat) (n : Nat) : trimQ (upL k n) = upL k (lastN k n) := by
 induction n with
 | zero => exact (by decide +kernel : trimQ [((1 : Int) : Rat)] = [((1 : Int) : Rat)])
 | succ n ih =>
  unfold lastN
  split
  ·rename_i h
   rw [← ih]
   refine trim_ext fun i => ?_
   rcases Nat.lt_or_ge i (n + 2) with hl | hl
   ·show (upL k (n + 1)).getD i 0 = (upL k n).getD i 0
    rw [upL_at k hl, h]; grind
   ·rw [co_ge (by rw [upL_len]; omega), co_ge (by rw [upL_len]; omega)]
  ·rename_i h
   have e : (trimQ (upL k (n + 1))).length = n + 2 := trim_len_of (by rw [upL_len]; omega) (fun i hi => co_ge (by rw [upL_len]; omega)) (fun _ => by
    show (upL k (n + 1)).getD (n + 2 - 1) 0 ≠ 0
    rw [show n + 2 - 1 = n + 1 by omega, upL_top]; exact h)
   have h2 := trim_take (upL k (n + 1))
   rw [e, List.take_of_length_le (by rw [upL_len]; omega)] at h2
   exact h2.symm
theorem list_eq {l m : List Rat} (h : l.length = m.length) (k : ∀ i, i < l.length → l.getD i 0 = m.getD i 0) : l = m := by
 refine List.ext_getElem h fun i h1 h2 => ?_
 have := k i h1
 rw [List.getD_eq_getElem?_getD, List.getD_eq_getElem?_getD, List.getElem?_eq_getElem h1, List.getElem?_eq_getElem h2] at this
 exact this
theorem up_down (k : List Rat) {m : Nat} (h : smallQ (k.getD m 0) = true) : upL k m = dnS (upL k (m + 1)) (m + 1) := by
 refine list_eq (by rw [upL_len, dnS_len]) fun j hj => ?_
 rw [upL_len] at hj
 rw [dnS_at _ hj, upL_top, upL_at k (by omega), upL_at k (j := m + 1 - j) (by omega), show m + 1 - (m + 1 - j) = j by omega]
 have hz := small_nz h
 have e1 : ((1 : Int) : Rat) = 1 := rfl
 rw [e1] at *
 generalize (upL k m).getD j 0 = a
 generalize (upL k m).getD (m + 1 - j) 0 = b
 generalize k.getD m 0 = r at *
 have : a + r * b - r * (b + r * a) = a * (1 - r * r) := by grind
 rw [this]; grind
theorem up_sm {k : List Rat} {P b : Nat} (hP : 0 < P) (hk : ∀ i, Wh (k.getD i 0 * ((P : Int) : Rat)) b) (hPb : P ≤ 2 ^ b) (m : Nat) : Sm (upL k m) (P ^ m) ((b + 1) * m) ∧ P ^ m ≤ 2 ^ ((b + 1) * m) := by
 induction m with
 | zero => exact ⟨(Sm.ofInts (zs := [1]) (A := 0) (by decide)).more (Nat.zero_le _), Nat.le_refl _⟩
 | succ m ih =>
  obtain ⟨ih, ihP⟩ := ih
  have wP : Wh ((P : Int) : Rat) b := whNat hPb
  have eA : (b + 1) * (m + 1) = b + (b + 1) * m + 1 := by rw [Nat.mul_succ]; omega
  refine ⟨⟨Nat.pow_pos hP, fun j => ?_⟩, ?_⟩
  ·rw [eA]
   rcases Nat.lt_or_ge j (m + 2) with hl | hl
   ·show Wh ((upL k (m + 1)).getD j 0 * _) _
    rw [upL_at k hl]
    have e : ((upL k m).getD j 0 + k.getD m 0 * (upL k m).getD (m + 1 - j) 0) * (((P ^ (m + 1) : Nat) : Int) : Rat) = ((P : Int) : Rat) * ((upL k m).getD j 0 * (((P ^ m : Nat) : Int) : Rat)) + (k.getD m 0 * ((P : Int) : Rat)) * ((upL k m).getD (m + 1 - j) 0 * (((P ^ m : Nat) : Int) : Rat)) := by
     have e2 : (((P ^ (m + 1) : Nat) : Int) : Rat) = ((P : Int) : Rat) * (((P ^ m : Nat) : Int) : Rat) := by rw [Nat.pow_succ, Nat.mul_comm, ← Rat.intCast_mul]; simp
     rw [e2]; grind
    rw [e]
    exact (wP.mul (ih.2 j)).add ((hk m).mul (ih.2 (m + 1 - j)))
   ·rw [co_ge (by rw [upL_len]; omega), Rat.zero_mul]; exact Wh.zero _
  ·rw [Nat.pow_succ, eA, Nat.pow_succ, Nat.pow_add, Nat.mul_comm]
   refine Nat.le_trans (Nat.mul_le_mul hPb ihP) ?_
   omega
theorem up_Down {k : List Rat} {n P b S : Nat} (hz : ∀ i, i < n → smallQ (k.getD i 0) = true) (hP : 0 < P) (hk : ∀ i, Wh (k.getD i 0 * ((P : Int) : Rat)) b) (hPb : P ≤ 2 ^ b) (hS : dg ((b + 1) * n) ≤ S) : Down (trimQ (upL k n)) (upL k) (lastN k n) S := by
 have hl := lastN_le k n
 rw [trim_up]
 generalize lastN k n = e at *
 refine ⟨by rw [upL_len], ?_, ?_, fun m _ => by rw [upL_len], fun m hm => up_down k (hz m (by omega)), fun m h1 h2 => ?_, fun m hm => ?_⟩
 ·rw [upL_zero]; decide +kernel
 ·rw [upL_zero, show (1 : Rat) = ((1 : Int) : Rat) from rfl, divI]
 ·obtain ⟨j, rfl⟩ : ∃ j, m = j + 1 := ⟨m - 1, by omega⟩
  rw [upL_top]; exact hz j (by omega)
 ·obtain ⟨h1, h2⟩ := up_sm hP hk hPb m
  exact ⟨_, _, h1, h2, Nat.le_trans (dg_mono (Nat.mul_le_mul_left _ (by omega))) hS⟩
theorem ref_up (k : List Rat) {n i : Nat} (h : i < n) : (refL (upL k) n).getD i 0 = k.getD i 0 := by rw [refL_at _ h, upL_top]
end Nt
theorem ints_nil {u : World} : SlR .i64 u none 0 0 [] := ⟨rfl, Nat.le_refl _, Nat.zero_le _, fun h => absurd h (Nat.lt_irrefl 0)⟩
theorem all_nil {b : Int} : ∀ z ∈ ([] : List Int), -b ≤ z ∧ z ≤ b := fun z hz => by cases hz
theorem all_snoc {b : Int} {L : List Int} {z : Int} (h : ∀ z ∈ L, -b ≤ z ∧ z ≤ b) (h1 : -b ≤ z) (h2 : z ≤ b) : ∀ y ∈ L ++ [z], -b ≤ y ∧ y ≤ b := fun y hy => by
 rcases List.mem_append.1 hy with hy | hy
 ·exact h y hy
 ·simp at hy; subst hy; exact ⟨h1, h2⟩
theorem all_at {b : Int} {L : List Int} (h : ∀ z ∈ L, -b ≤ z ∧ z ≤ b) (hb : 0 ≤ b) (i : Nat) : -b ≤ L.getD i 0 ∧ L.getD i 0 ≤ b := ints_bd h ⟨by omega, hb⟩ i
namespace Nt
def wqL (f : Int) (l : List Int) : List Rat := l.map fun z => wq z f
theorem wqL_len (f : Int) (l : List Int) : (wqL f l).length = l.length := by unfold wqL; simp
theorem wqL_at (f : Int) (l : List Int) {i : Nat} (h : i < l.length) : (wqL f l).getD i 0 = wq (l.getD i 0) f := by
 unfold wqL
 rw [List.getD_eq_getElem?_getD, List.getElem?_map, List.getD_eq_getElem?_getD, List.getElem?_eq_getElem h]; rfl
theorem wqL_ge (f : Int) (l : List Int) {i : Nat} (h : l.length ≤ i) : (wqL f l).getD i 0 = 0 := co_ge (by rw [wqL_len]; exact h)
theorem wqL_small {f : Int} {l : List Int} (h : ∀ z ∈ l, -(p2i f - 1) ≤ z ∧ z ≤ p2i f - 1) : ∀ i, i < (wqL f l).length → smallQ ((wqL f l).getD i 0) = true := fun i hi => by
 rw [wqL_len] at hi
 rw [wqL_at f l hi]
 have hz := all_at h (by have := p2i_pos f; omega) i
 exact small_iff.2 (wq_small (by omega) (by omega))
theorem wqL_wh {f : Int} {l : List Int} {b : Nat} (hb : p2i f ≤ ((2 ^ b : Nat) : Int)) (h : ∀ z ∈ l, -(p2i f - 1) ≤ z ∧ z ≤ p2i f - 1) : ∀ i, Wh ((wqL f l).getD i 0 * ((((p2i f).toNat : Nat) : Int) : Rat)) b := fun i => by
 have hp := p2i_pos f
 rw [Int.toNat_of_nonneg (Int.le_of_lt hp)]
 rcases Nat.lt_or_ge i l.length with hl | hl
 ·rw [wqL_at f l hl]
  have hz := all_at h (by omega) i
  refine ⟨l.getD i 0, ?_, by omega⟩
  unfold wq
  exact Rat.div_mul_cancel (fun e => by have : p2i f = 0 := Rat.intCast_inj.1 e; omega)
 ·rw [wqL_ge f l hl, Rat.zero_mul]; exact Wh.zero _
def liS (f : Int) (k m : List Int) : Nat → List Rat
 | 0 => []
 | i + 1 => trimQ (addQ (liS f k m i) (trimQ ((revL (wqL f k) i).map (· * wq (m.getD i 0) f))))
theorem liS_len (f : Int) (k m : List Int) (n : Nat) : (liS f k m n).length ≤ n := by
 induction n with
 | zero => exact Nat.le_refl _
 | succ n ih =>
  have h9 : (trimQ ((revL (wqL f k) n).map (· * wq (m.getD n 0) f))).length ≤ n + 1 := map_lenQ (Nat.le_of_eq (revL_len _ _))
  refine Nat.le_trans (zzg _) ?_
  rw [addQ_len]
  omega
theorem li_down {f : Int} {k : List Int} (hf : f ≤ 8) (hk : k.length ≤ 6) (h : ∀ z ∈ k, -(p2i f - 1) ≤ z ∧ z ≤ p2i f - 1) : Down (trimQ (trimQ (upL (wqL f k) (wqL f k).length))) (upL (wqL f k)) (lastN (wqL f k) (wqL f k).length) 4 := by
 have hp := p2i_pos f
 have hp8 : p2i f ≤ ((2 ^ 8 : Nat) : Int) := p2i_mono (b := 8) hf
 rw [trim_trim]
 refine up_Down (P := (p2i f).toNat) (b := 8) (wqL_small h) (by omega) (wqL_wh hp8 h) (by omega) (Nat.le_trans (dg_mono (Nat.mul_le_mul_left _ (show (wqL f k).length ≤ 6 by rw [wqL_len]; exact hk))) (by decide))
end Nt
end Go.Proofs.YtdmpfhhhlhoeiaaGreat
namespace Go.Proofs.YtdmpfhhhlhoeiaaGreat
open Go.RowKit Go.ChangeShapes Go.WideShapes
set_option linter.unusedVariables false
theorem wrap64_ex (n : Int) : ∃ z, IntKind.i64.wrap n = z ∧ -9223372036854775808 ≤ z ∧ z ≤ 9223372036854775807 := ⟨_, rfl, by rw [IntKind.wrap_i64]; omega⟩
section
variable {u : World} {k : IntKind} {A A' : Option Addr} {n c m : Nat} {l : List Int}
end
theorem int_one (z : Int) : ∀ v ∈ [Value.int .i64 z], v.oneCell' = true := fun v hv => by
 rcases List.mem_cons.1 hv with rfl | hv
 ·rfl
 ·cases hv
section
variable {H : Type} {enc : TypeId × Value → H} {w : World} {base : Nat} {spare : Nat → Bool} {held : Bool} {r0 : Reach} {b0 : Nat} {v : Value} {d : DataW H} {p : List MemPlace}
end
end Go.Proofs.YtdmpfhhhlhoeiaaGreat
namespace Go.Proofs.YtdmpfhhhlhoeiaaGreat
open Go.RowKit
set_option linter.unusedVariables false
theorem k_withinB {u w : World} {n m : Int} (d : Dat u w) (hm : 1 ≤ m) (hm2 : m ≤ 4611686018427387904) (hn0 : -9223372036854775808 ≤ n) (hn1 : n ≤ 9223372036854775807) : Calls Tryz.prog 45 #[.int .i64 n, .int .i64 m] w (Post u w fun v _ => ∃ z : Int, v = .int .i64 z ∧ 0 ≤ z ∧ z < m) :=
 Post.mono (k_within d hm hm2 hn0 hn1) fun v u' _ h => ⟨n % m, h, Int.emod_nonneg _ (by omega), Int.emod_lt_of_pos _ (by omega)⟩
set_option maxHeartbeats 1000000 in
theorem k_word {u w : World} {k : Int} (d : Dat u w) (hk0 : -9223372036854775808 ≤ k) (hk1 : k ≤ 9223372036854775807) : Calls Tryz.prog 44 #[.int .i64 k, .int .i64 6, .int .i64 9, .int .i64 1] w (Post u w fun v _ => ∃ W : WL, v = W.v ∧ CoefOK W) := by
 refine zzl (args := [.int .i64 k, .int .i64 6, .int .i64 9, .int .i64 1]) Tryz.func44 rfl Tryz.ntmps44 (rs := [.cell 8 24]) Tryz.results44 (le_b rfl) (le_b rfl) d ?_
 refine sq9 ?_
 refine zzj 8 ⟨24, [.int .i64 0, .int .i64 0, .int .i64 0, .int .i64 0]⟩ ?_
 refine zzb 52 [(0, .v (.int .i64 k)), (1, .v (.int .i64 6)), (2, .v (.int .i64 9)), (3, .v (.int .i64 1)), (8, .adr 8 0)] [(8, ⟨24, [.int .i64 0, .int .i64 0, .int .i64 0, .int .i64 0]⟩)] ?_
 refine sq9 ?_
 refine zza 10 (.v (.int .i64 k)) ?_
 refine zzf 11 45 [.int .i64 k, .int .i64 1099511627776] ?_
 intro w11 u11 e11 d11
 have k17 := (show Calls _ _ #[.int .i64 k, .int .i64 1099511627776] _ _ from k_withinB (n := k) (m := 1099511627776) d11 (by omega) (by omega) (by omega) (by omega))
 with_reducible refine Post.mono k17 ?_
 rintro _ u15 g16 ⟨z12, rfl, h13, h14⟩
 refine zza 0 (.v (.int .i64 z12)) ?_
 refine zzb 52 [(0, .v (.int .i64 z12)), (1, .v (.int .i64 6)), (2, .v (.int .i64 9)), (3, .v (.int .i64 1)), (8, .adr 8 0)] [(8, ⟨24, [.int .i64 0, .int .i64 0, .int .i64 0, .int .i64 0]⟩)] ?_
 refine sq9 ?_
 refine zza 12 (.v (.int .i64 6)) ?_
 refine zza 13 (.v (.int .i64 z12)) ?_
 refine zza 14 (.v (.int .i64 9)) ?_
 refine zza 15 (.v (.int .i64 6)) ?_
 refine zza 16 (.v (.int .i64 3)) ?_
 refine zza 17 (.v (.int .i64 4)) ?_
 refine sy_rem 18 (n := z12) (m := 4) (z12 % 4) (by decide) (Int.tmod_eq_emod_of_nonneg (by omega)) ?_
 refine zyp 19 (x := .v (.int .i64 (IntKind.i64.wrap ((6 : Int) + (z12 % 4))))) (.v (.int .i64 ((6 : Int) + (z12 % 4)))) (by rw [IntWalk.i64_in _ (by omega)]) ?_
 refine zza 20 (.v (.agg #[.int .i64 ((6 : Int) + (z12 % 4)), .int .i64 0, .int .i64 0, .int .i64 0])) ?_
 refine zzj 9 ⟨24, [.int .i64 0, .int .i64 0, .int .i64 0, .int .i64 0]⟩ ?_
 refine zzi ⟨24, [.int .i64 ((6 : Int) + (z12 % 4)), .int .i64 0, .int .i64 0, .int .i64 0]⟩ ty24 ?_
 refine zzb 52 [(0, .v (.int .i64 z12)), (1, .v (.int .i64 6)), (2, .v (.int .i64 9)), (3, .v (.int .i64 1)), (8, .adr 8 0), (9, .adr 9 0)] [(8, ⟨24, [.int .i64 0, .int .i64 0, .int .i64 0, .int .i64 0]⟩), (9, ⟨24, [.int .i64 ((6 : Int) + (z12 % 4)), .int .i64 0, .int .i64 0, .int .i64 0]⟩)] ?_
 refine sq9 ?_
 refine zza 21 (.v (.int .i64 z12)) ?_
 refine zza 22 (.v (.int .i64 9)) ?_
 refine zza 23 (.v (.int .i64 6)) ?_
 refine zza 24 (.v (.int .i64 3)) ?_
 refine zza 25 (.v (.int .i64 4)) ?_
 refine sy_quo 26 (n := z12) (m := 4) (z12 / 4) (by decide) (by rw [Int.tdiv_eq_ediv_of_nonneg (by omega)]; exact IntWalk.i64_in _ (by omega)) ?_
 refine zza 0 (.v (.int .i64 (z12 / 4))) ?_
 refine zzb 52 [(0, .v (.int .i64 (z12 / 4))), (3, .v (.int .i64 1)), (8, .adr 8 0), (9, .adr 9 0)] [(8, ⟨24, [.int .i64 0, .int .i64 0, .int .i64 0, .int .i64 0]⟩), (9, ⟨24, [.int .i64 ((6 : Int) + (z12 % 4)), .int .i64 0, .int .i64 0, .int .i64 0]⟩)] ?_
 refine sq9 ?_
 refine zza 27 (.adr 9 0) ?_
 refine zzh 28 (.v (.int .i64 ((6 : Int) + (z12 % 4)))) ty3 zzk ?_
 refine zyp 29 (x := .v (.int .i64 (IntKind.i64.wrap (((6 : Int) + (z12 % 4)) - 1)))) (.v (.int .i64 (((6 : Int) + (z12 % 4)) - 1))) (by rw [IntWalk.i64_in _ (by omega)]) ?_
 refine zza 30 (.v (.int .i64 1)) ?_
 refine zyp 31 (x := .v (.int .i64 (IntKind.i64.wrap ((((6 : Int) + (z12 % 4)) - 1) - 1)))) (.v (.int .i64 ((((6 : Int) + (z12 % 4)) - 1) - 1))) (by rw [IntWalk.i64_in _ (by omega)]) ?_
 refine zza 32 (.v (.int .i64 (z12 / 4))) ?_
 refine sy_rem 33 (n := z12 / 4) (m := 2) ((z12 / 4) % 2) (by decide) (Int.tmod_eq_emod_of_nonneg (by omega)) ?_
 refine zyp 34 (x := .v (.int .i64 (IntKind.i64.wrap (((((6 : Int) + (z12 % 4)) - 1) - 1) - ((z12 / 4) % 2))))) (.v (.int .i64 (((((6 : Int) + (z12 % 4)) - 1) - 1) - ((z12 / 4) % 2)))) (by rw [IntWalk.i64_in _ (by omega)]) ?_
 refine zza 35 (.adr 9 1) ?_
 refine zzi ⟨24, [.int .i64 ((6 : Int) + (z12 % 4)), .int .i64 (((((6 : Int) + (z12 % 4)) - 1) - 1) - ((z12 / 4) % 2)), .int .i64 0, .int .i64 0]⟩ ty3 ?_
 refine zzb 52 [(0, .v (.int .i64 (z12 / 4))), (8, .adr 8 0), (9, .adr 9 0)] [(8, ⟨24, [.int .i64 0, .int .i64 0, .int .i64 0, .int .i64 0]⟩), (9, ⟨24, [.int .i64 ((6 : Int) + (z12 % 4)), .int .i64 (((((6 : Int) + (z12 % 4)) - 1) - 1) - ((z12 / 4) % 2)), .int .i64 0, .int .i64 0]⟩)] ?_
 refine sq9 ?_
 refine zza 36 (.v (.int .i64 (z12 / 4))) ?_
 refine sy_quo 37 (n := z12 / 4) (m := 2) ((z12 / 4) / 2) (by decide) (by rw [Int.tdiv_eq_ediv_of_nonneg (by omega)]; exact IntWalk.i64_in _ (by omega)) ?_
 refine zza 0 (.v (.int .i64 ((z12 / 4) / 2))) ?_
 refine zzb 52 [(0, .v (.int .i64 ((z12 / 4) / 2))), (8, .adr 8 0), (9, .adr 9 0)] [(8, ⟨24, [.int .i64 0, .int .i64 0, .int .i64 0, .int .i64 0]⟩), (9, ⟨24, [.int .i64 ((6 : Int) + (z12 % 4)), .int .i64 (((((6 : Int) + (z12 % 4)) - 1) - 1) - ((z12 / 4) % 2)), .int .i64 0, .int .i64 0]⟩)] ?_
 refine sq9 ?_
 refine zza 38 (.adr 9 1) ?_
 refine zzh 39 (.v (.int .i64 (((((6 : Int) + (z12 % 4)) - 1) - 1) - ((z12 / 4) % 2)))) ty3 zzk ?_
 refine sy_max0 40 (n := ((((6 : Int) + (z12 % 4)) - 1) - 1) - ((z12 / 4) % 2)) (v := ((((6 : Int) + (z12 % 4)) - 1) - 1) - ((z12 / 4) % 2)) (by split <;> omega) ?_
 refine zza 41 (.adr 9 1) ?_
 refine zzi ⟨24, [.int .i64 ((6 : Int) + (z12 % 4)), .int .i64 (((((6 : Int) + (z12 % 4)) - 1) - 1) - ((z12 / 4) % 2)), .int .i64 0, .int .i64 0]⟩ ty3 ?_
 refine zzb 52 [(0, .v (.int .i64 ((z12 / 4) / 2))), (8, .adr 8 0), (9, .adr 9 0)] [(8, ⟨24, [.int .i64 0, .int .i64 0, .int .i64 0, .int .i64 0]⟩), (9, ⟨24, [.int .i64 ((6 : Int) + (z12 % 4)), .int .i64 (((((6 : Int) + (z12 % 4)) - 1) - 1) - ((z12 / 4) % 2)), .int .i64 0, .int .i64 0]⟩)] ?_
 refine sq9 ?_
 refine zza 42 (.v (.int .i64 ((z12 / 4) / 2))) ?_
 refine sy_rem 43 (n := (z12 / 4) / 2) (m := 3) (((z12 / 4) / 2) % 3) (by decide) (Int.tmod_eq_emod_of_nonneg (by omega)) ?_
 refine zyp 44 (x := .v (.int .i64 (IntKind.i64.wrap ((1 : Int) + (((z12 / 4) / 2) % 3))))) (.v (.int .i64 ((1 : Int) + (((z12 / 4) / 2) % 3)))) (by rw [IntWalk.i64_in _ (by omega)]) ?_
 refine zza 45 (.v (.int .i64 ((z12 / 4) / 2))) ?_
 refine sy_quo 46 (n := (z12 / 4) / 2) (m := 3) (((z12 / 4) / 2) / 3) (by decide) (by rw [Int.tdiv_eq_ediv_of_nonneg (by omega)]; exact IntWalk.i64_in _ (by omega)) ?_
 refine sy_rem 47 (n := ((z12 / 4) / 2) / 3) (m := 2) ((((z12 / 4) / 2) / 3) % 2) (by decide) (Int.tmod_eq_emod_of_nonneg (by omega)) ?_
 refine zyp 48 (x := .v (.int .i64 (IntKind.i64.wrap ((1 : Int) + ((((z12 / 4) / 2) / 3) % 2))))) (.v (.int .i64 ((1 : Int) + ((((z12 / 4) / 2) / 3) % 2)))) (by rw [IntWalk.i64_in _ (by omega)]) ?_
 refine zza 49 (.adr 9 2) ?_
 refine zzi ⟨24, [.int .i64 ((6 : Int) + (z12 % 4)), .int .i64 (((((6 : Int) + (z12 % 4)) - 1) - 1) - ((z12 / 4) % 2)), .int .i64 ((1 : Int) + (((z12 / 4) / 2) % 3)), .int .i64 0]⟩ ty3 ?_
 refine zza 50 (.adr 9 3) ?_
 refine zzi ⟨24, [.int .i64 ((6 : Int) + (z12 % 4)), .int .i64 (((((6 : Int) + (z12 % 4)) - 1) - 1) - ((z12 / 4) % 2)), .int .i64 ((1 : Int) + (((z12 / 4) / 2) % 3)), .int .i64 ((1 : Int) + ((((z12 / 4) / 2) / 3) % 2))]⟩ ty3 ?_
 refine zzb 52 [(8, .adr 8 0), (9, .adr 9 0)] [(8, ⟨24, [.int .i64 0, .int .i64 0, .int .i64 0, .int .i64 0]⟩), (9, ⟨24, [.int .i64 ((6 : Int) + (z12 % 4)), .int .i64 (((((6 : Int) + (z12 % 4)) - 1) - 1) - ((z12 / 4) % 2)), .int .i64 ((1 : Int) + (((z12 / 4) / 2) % 3)), .int .i64 ((1 : Int) + ((((z12 / 4) / 2) / 3) % 2))]⟩)] ?_
 refine sq9 ?_
 refine zzh 51 (.v (.agg #[.int .i64 ((6 : Int) + (z12 % 4)), .int .i64 (((((6 : Int) + (z12 % 4)) - 1) - 1) - ((z12 / 4) % 2)), .int .i64 ((1 : Int) + (((z12 / 4) / 2) % 3)), .int .i64 ((1 : Int) + ((((z12 / 4) / 2) / 3) % 2))])) ty24 zzd ?_
 refine zzi ⟨24, [.int .i64 ((6 : Int) + (z12 % 4)), .int .i64 (((((6 : Int) + (z12 % 4)) - 1) - 1) - ((z12 / 4) % 2)), .int .i64 ((1 : Int) + (((z12 / 4) / 2) % 3)), .int .i64 ((1 : Int) + ((((z12 / 4) / 2) / 3) % 2))]⟩ ty24 ?_
 refine zzb 52 [(8, .adr 8 0)] [(8, ⟨24, [.int .i64 ((6 : Int) + (z12 % 4)), .int .i64 (((((6 : Int) + (z12 % 4)) - 1) - 1) - ((z12 / 4) % 2)), .int .i64 ((1 : Int) + (((z12 / 4) / 2) % 3)), .int .i64 ((1 : Int) + ((((z12 / 4) / 2) / 3) % 2))]⟩)] ?_
 refine zzn (ret0 [.agg #[.int .i64 ((6 : Int) + (z12 % 4)), .int .i64 (((((6 : Int) + (z12 % 4)) - 1) - 1) - ((z12 / 4) % 2)), .int .i64 ((1 : Int) + (((z12 / 4) / 2) % 3)), .int .i64 ((1 : Int) + ((((z12 / 4) / 2) / 3) % 2))]] ⟨zzq ty24 zzd, trivial⟩ fun u18 e19 => ?_)
 exact ⟨⟨(6 : Int) + (z12 % 4), ((((6 : Int) + (z12 % 4)) - 1) - 1) - ((z12 / 4) % 2), (1 : Int) + (((z12 / 4) / 2) % 3), (1 : Int) + ((((z12 / 4) / 2) / 3) % 2)⟩, rfl, by unfold CoefOK; dsimp only; omega⟩
theorem k_coef {u w : World} {k : Int} (d : Dat u w) (hk0 : -9223372036854775808 ≤ k) (hk1 : k ≤ 9223372036854775807) : Calls Tryz.prog 9 #[.int .i64 k] w (Post u w fun v _ => ∃ W : WL, v = W.v ∧ CoefOK W) := by
 refine zzl (args := [.int .i64 k]) Tryz.func9 rfl Tryz.ntmps9 (rs := [.cell 2 24]) Tryz.results9 (le_b rfl) (le_b rfl) d ?_
 refine sq9 ?_
 refine zzj 2 ⟨24, [.int .i64 0, .int .i64 0, .int .i64 0, .int .i64 0]⟩ ?_
 refine zzb 5 [(0, .v (.int .i64 k)), (2, .adr 2 0)] [(2, ⟨24, [.int .i64 0, .int .i64 0, .int .i64 0, .int .i64 0]⟩)] ?_
 refine sq9 ?_
 refine zza 3 (.v (.int .i64 k)) ?_
 refine zzf 4 44 [.int .i64 k, .int .i64 6, .int .i64 9, .int .i64 1] ?_
 intro w11 u11 e11 d11
 have k16 := k_word (k := k) d11 (by omega) (by omega)
 with_reducible refine Post.mono k16 ?_
 rintro _ u14 g15 ⟨W12, rfl, hW13⟩
 have hw17 := hW13.ok
 have hw17f : 1 ≤ W12.f := by have h9 := hW13; unfold CoefOK at h9; omega
 have hw17g : W12.f ≤ 24 := by have h9 := hW13; unfold CoefOK at h9; omega
 refine zzi ⟨24, [.int .i64 W12.b, .int .i64 W12.f, .int .i64 W12.r, .int .i64 W12.o]⟩ ty24 ?_
 refine zzb 5 [(2, .adr 2 0)] [(2, ⟨24, [.int .i64 W12.b, .int .i64 W12.f, .int .i64 W12.r, .int .i64 W12.o]⟩)] ?_
 refine zzn (ret0 [.agg #[.int .i64 W12.b, .int .i64 W12.f, .int .i64 W12.r, .int .i64 W12.o]] ⟨zzq ty24 zzd, trivial⟩ fun u18 e19 => ?_)
 exact ⟨W12, rfl, by assumption⟩
theorem k_wat {u w : World} {x : Sl} {l : List Int} {i : Nat} (d : Dat u w) (hx : SlR .i64 u x.a x.n x.c l) (hb : ∀ z ∈ l, -9223372036854775808 ≤ z ∧ z ≤ 9223372036854775807) (hi9 : i ≤ 1000000000) : Calls Tryz.prog 105 #[x.v, .int .i64 (i : Int)] w (Post u w fun v _ => v = .int .i64 (l.getD i 0)) := by
 have hlen : l.length = x.n := hx.1
 refine zzl (args := [.slice x.a x.n x.c, .int .i64 (i : Int)]) Tryz.func105 rfl Tryz.ntmps105 (rs := [.tmp 4]) Tryz.results105 (le_b rfl) (le_b rfl) d ?_
 refine sq9 ?_
 refine zza 4 (.v (.int .i64 0)) ?_
 refine zzb 17 [(0, .v x.v), (1, .v (.int .i64 (i : Int)))] [] ?_
 refine zzc ?_
 refine sq9 ?_
 refine zza 5 (.v (.int .i64 (i : Int))) ?_
 refine zza 6 (.v (.bool (decide ((0 : Int) ≤ (i : Int))))) ?_
 refine zyp 7 (x := .v (.bool (decide ((0 : Int) ≤ (i : Int))))) (.v (.bool true)) (by rw [show (decide ((0 : Int) ≤ (i : Int))) = true from decide_eq_true (by omega)]) ?_
 refine zza 8 (.v (.int .i64 (i : Int))) ?_ (hw := w1 2 true 7)
 refine zza 9 (.v x.v) ?_ (hw := w1 2 true 7)
 refine zza 10 (.v (.int .i64 (x.n : Int))) ?_ (hw := w1 2 true 7)
 refine zza 11 (.v (.bool (decide ((i : Int) < (x.n : Int))))) ?_ (hw := w1 2 true 7)
 refine zza 12 (.v (.bool (decide ((i : Int) < (x.n : Int))))) ?_
 refine zzb 17 [(0, .v x.v), (1, .v (.int .i64 (i : Int))), (12, .v (.bool (decide ((i : Int) < (x.n : Int)))))] [] ?_
 refine zzt (b := decide ((i : Int) < (x.n : Int))) (by kernel_rfl) (fun hb12 => ?_) (fun hb12 => ?_)
 ·replace hb12 : (decide ((i : Int) < (x.n : Int))) = true := hb12
  have qhb12 := of_decide_eq_true hb12
  refine sq9 ?_
  refine zza 13 (.v x.v) ?_
  refine zza 14 (.v (.int .i64 (i : Int))) ?_
  have hl13 := (hx).1
  obtain ⟨b13, o13, hA13, hc13⟩ := ints_at hx (i := i) (by omega)
  have hz13 := ints_bd hb (by omega) i
  refine zzz 15 (o13 + i * 1) (n := x.n) (off := o13) (sz := 1) (i := (i : Int)) (by omega) hA13 (by omega) (by omega) sl22 ?_
  refine zyk 16 (.int .i64 (l.getD i 0)) hc13 ty3 ?_
  refine zza 4 (.v (.int .i64 (l.getD i 0))) ?_
  refine zzb 17 [(4, .v (.int .i64 (l.getD i 0)))] [] ?_
  refine zzn (zzv (ret0 [.int .i64 (l.getD i 0)] ⟨zzp, trivial⟩ fun u14 e15 => ?_))
  rfl
 ·replace hb12 : (decide ((i : Int) < (x.n : Int))) = false := hb12
  have qhb12 := of_decide_eq_false hb12
  refine zzr (zzo ?_)
  refine sq9 ?_
  refine zza 4 (.v (.int .i64 0)) ?_
  refine zzb 17 [(4, .v (.int .i64 0))] [] ?_
  refine zzn (ret0 [.int .i64 0] ⟨zzp, trivial⟩ fun u16 e17 => ?_)
  show Value.int _ _ = Value.int _ _
  rw [show l.getD i 0 = 0 by rw [List.getD_eq_getElem?_getD, List.getElem?_eq_none (by omega)]; rfl]
end Go.Proofs.YtdmpfhhhlhoeiaaGreat
