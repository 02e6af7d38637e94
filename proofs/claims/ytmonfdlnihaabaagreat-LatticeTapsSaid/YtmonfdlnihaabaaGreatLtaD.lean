/- Parts of the proof: contracts of functions, each walked once, and plain laws. -/
import Derived.Test.YtmonfdlnihaabaaGreatLtaC
import Derived.ArgAppend
namespace Go.Proofs.YtmonfdlnihaabaaGreat
open Go.RowKit
set_option linter.unusedVariables false
theorem k_cut {u w : World} {x : Sl} {l : List Rat} {K : Nat} (d : Dat u w) (hx : PolV u x l K) (hK : K ≤ 100000000) (hx9 : l.length ≤ 1000000000) : Calls Tryz.prog 113 #[x.v] w (Post u w fun v u' => v = .slice x.a (Nt.trimQ l).length x.c) := by
 have hlen := hx.len
 refine zzl (args := [.slice x.a x.n x.c]) Tryz.func113 rfl Tryz.ntmps113 (rs := [.tmp 2]) Tryz.results113 (le_b rfl) (le_b rfl) d ?_
 refine sq9 ?_
 refine zza 2 (.v (.slice none 0 0)) ?_
 refine zzb 22 [(0, .v x.v)] [] ?_
 refine sq9 ?_
 refine zza 4 (.v x.v) ?_
 refine zza 5 (.v (.int .i64 (x.n : Int))) ?_
 refine zza 3 (.v (.int .i64 (x.n : Int))) ?_
 refine zzb 22 [(0, .v x.v), (3, .v (.int .i64 (x.n : Int)))] [] ?_
 refine zzc ?_
 refine zzs ?_
 refine zym (I := fun m11 S' u' => ∃ (n : Nat), (m11 = n) ∧ (n ≤ l.length) ∧ (∀ i, n ≤ i → Nt.co l i = 0) ∧ (S' = St.of 22 [(0, .v (.slice x.a x.n x.c)), (3, .v (.int .i64 (n : Int)))] []) ∧ (Ext u u')) (fun m S u1 u2 e h => by obtain ⟨n, hm, p0, p1, hS, hE⟩ := h; exact ⟨n, hm, p0, p1, hS, hE.trans e⟩) _ (T := St.of 22 [(0, .v (.slice x.a x.n x.c)), (3, .v (.int .i64 (x.n : Int)))] []) (by exact zzu _ _ _) ⟨x.n, rfl, by omega, fun i hi => Nt.co_ge (by omega), rfl, Ext.refl _⟩ ?_
 rintro m11 _ u11 ⟨n, hm11, hn, hz, rfl, e11⟩
 refine zzc ?_
 refine sq9 ?_
 refine zza 6 (.v (.int .i64 (n : Int))) ?_
 refine zza 7 (.v (.bool (decide ((0 : Int) < (n : Int))))) ?_
 rcases Bool.eq_false_or_eq_true (decide ((0 : Int) < (n : Int))) with hs12 | hs12
 ·refine zyp 8 (x := .v (.bool (decide ((0 : Int) < (n : Int))))) (.v (.bool true)) (by rw [hs12]) ?_
  have qhs12 := of_decide_eq_true hs12
  refine zza 9 (.v x.v) ?_ (hw := w1 2 true 8)
  refine zza 10 (.v (.int .i64 (n : Int))) ?_ (hw := w1 2 true 8)
  refine zyp 11 (x := .v (.int .i64 (IntKind.i64.wrap ((n : Int) - 1)))) (.v (.int .i64 ((n - 1 : Nat) : Int))) (eqI (by rw [IntWalk.i64_in _ (by omega)]; omega)) ?_ (hw := w1 2 true 8)
  have hl13 := (hx.ext e11).len
  obtain ⟨r13, b13, o13, hA13, hc13, hr13⟩ := pol_at (hx.ext e11) (i := n - 1) (by omega)
  refine zzz 12 (o13 + (n - 1) * 3) (n := x.n) (off := o13) (sz := 3) (i := ((n - 1 : Nat) : Int)) (by omega) hA13 (by omega) (by omega) sl32 ?_ (hw := w1 2 true 8)
  refine zyl 13 r13.cs hc13 ty29 ?_ (hw := w1 2 true 8)
  refine zzf 14 159 [r13.v] ?_ (hw := w1 2 true 8)
  intro w14 u14 e14 d14
  have k17 := k_ratSign d14 (hr13.ext e14)
  with_reducible refine Post.mono k17 ?_
  rintro _ u15 g16 rfl
  refine zza 15 (.v (.bool ((Nt.sgQ (l.getD (n - 1) 0)) == 0))) ?_ (hw := w1 2 true 8)
  refine zza 16 (.v (.bool ((Nt.sgQ (l.getD (n - 1) 0)) == 0))) ?_
  refine zzb 22 [(0, .v x.v), (3, .v (.int .i64 (n : Int))), (16, .v (.bool ((Nt.sgQ (l.getD (n - 1) 0)) == 0)))] [] ?_
  refine zzt (b := (Nt.sgQ (l.getD (n - 1) 0)) == 0) (by kernel_rfl) (fun hb18 => ?_) (fun hb18 => ?_)
  ·replace hb18 : ((Nt.sgQ (l.getD (n - 1) 0)) == 0) = true := hb18
   refine zzr (zzo ?_)
   refine zzs ?_
   refine zze ?_
   refine zza 17 (.v (.int .i64 (n : Int))) ?_
   refine zyp 18 (x := .v (.int .i64 (IntKind.i64.wrap ((n : Int) - 1)))) (.v (.int .i64 ((n - 1 : Nat) : Int))) (eqI (by rw [IntWalk.i64_in _ (by omega)]; omega)) ?_
   refine zza 3 (.v (.int .i64 ((n - 1 : Nat) : Int))) ?_
   refine zzw ?_
   refine ⟨_, ?_, St.of 22 [(0, .v (.slice x.a x.n x.c)), (3, .v (.int .i64 ((n - 1 : Nat) : Int)))] [], by exact zzu _ _ _, n - 1, rfl, by omega, (fun i hi => by by_cases e : i = n - 1; (rw [e]; have h9 := hb18; rw [Nt.sgQ_eq] at h9; exact of_decide_eq_true h9); exact hz i (by omega)), rfl, (e11.trans (e14.trans g16.ext))⟩
   omega
  ·replace hb18 : ((Nt.sgQ (l.getD (n - 1) 0)) == 0) = false := hb18
   refine zyb ?_
   refine zzo ?_
   refine sq9 ?_
   refine zza 19 (.v x.v) ?_
   refine zza 20 (.v (.int .i64 (n : Int))) ?_
   have hl19 := (hx.ext (e11.trans (e14.trans g16.ext))).len
   have hc19 := (hx.ext (e11.trans (e14.trans g16.ext))).cap
   refine sy_front 21 (n := x.n) (c := x.c) n sl32 rfl (by omega) ?_
   refine zza 2 (.v (.slice x.a n x.c)) ?_
   refine zzb 22 [(2, .v (.slice x.a n x.c))] [] ?_
   refine zzn (ret0 [.slice x.a n x.c] ⟨zzp, trivial⟩ fun u20 e21 => ?_)
   have e := Nt.trim_len_of (l := l) hn hz (fun _ h => by have h9 := hb18; rw [Nt.sgQ_eq] at h9; exact of_decide_eq_false h9 h)
   show Value.slice _ _ _ = Value.slice _ _ _
   rw [e]
 ·refine zyp 8 (x := .v (.bool (decide ((0 : Int) < (n : Int))))) (.v (.bool false)) (by rw [hs12]) ?_
  have qhs12 := of_decide_eq_false hs12
  refine zzm 9 (uw 2 true false 8) ?_
  refine zzm 10 (uw 2 true false 8) ?_
  refine zzm 11 (uw 2 true false 8) ?_
  refine zzm 12 (uw 2 true false 8) ?_
  refine zzm 13 (uw 2 true false 8) ?_
  refine zzm 14 (uw 2 true false 8) ?_
  refine zzm 15 (uw 2 true false 8) ?_
  refine zza 16 (.v (.bool false)) ?_
  refine zzb 22 [(0, .v x.v), (3, .v (.int .i64 (n : Int))), (16, .v (.bool false))] [] ?_
  refine zyr (by kernel_rfl) ?_
  refine zyb ?_
  refine zzo ?_
  refine sq9 ?_
  refine zza 19 (.v x.v) ?_
  refine zza 20 (.v (.int .i64 (n : Int))) ?_
  have hl22 := (hx.ext e11).len
  have hc22 := (hx.ext e11).cap
  refine sy_front 21 (n := x.n) (c := x.c) n sl32 rfl (by omega) ?_
  refine zza 2 (.v (.slice x.a n x.c)) ?_
  refine zzb 22 [(2, .v (.slice x.a n x.c))] [] ?_
  refine zzn (ret0 [.slice x.a n x.c] ⟨zzp, trivial⟩ fun u23 e24 => ?_)
  have e := Nt.trim_len_of (l := l) hn hz (fun h => absurd h (by omega))
  show Value.slice _ _ _ = Value.slice _ _ _
  rw [e]
def NewR (u : World) (n : Nat) (t : List Rat) (K : Nat) (v : Value) (u' : World) : Prop := ∃ (b : Nat) (L : List RL), v = .slice (some ⟨b, 0, none⟩) n n ∧ u.heap.size ≤ b ∧ u'.heap[b]? = some (.cells (rcs L).toArray 29 (0, 0)) ∧ L.length = n ∧ RatsN u' L t K
theorem k_poScale {u w : World} {x : Sl} {l : List Rat} {r : RL} {q : Rat} {K M : Nat} (d : Dat u w) (hx : PolV u x l K) (hr : RatV u r q M) (hK : K ≤ 50000000) (hx9 : l.length ≤ 1000000000) (hM : M ≤ 50000000) : Calls Tryz.prog 51 #[x.v, r.v] w (Post u w fun v u' => ∃ y : Sl, v = y.v ∧ PolN u' y (Nt.trimQ (l.map (· * q))) (K + M)) := by
 have hlen := hx.len
 refine zzl (args := [.slice x.a x.n x.c, r.v]) Tryz.func51 rfl Tryz.ntmps51 (rs := [.tmp 4]) Tryz.results51 (le_b rfl) (le_b rfl) d ?_
 refine sq9 ?_
 refine zzj 3 ⟨29, r.cs⟩ ?_
 refine zza 4 (.v (.slice none 0 0)) ?_
 refine zzb 27 [(0, .v x.v), (3, .adr 3 0)] [(3, ⟨29, r.cs⟩)] ?_
 refine sq9 ?_
 refine zza 7 (.v x.v) ?_
 refine zza 8 (.v (.int .i64 (x.n : Int))) ?_
 refine sy_make 9 (T := 32) (E := 29) (z := .agg #[.bool false, .slice none 0 0, .slice none 0 0]) (size := 3) (bytes := 56) x.n (rcs (List.replicate x.n rl0)) (by kernel_rfl) (by kernel_rfl) rfl rfl (by omega) (by unfold maxLen; omega) (made_rcs _) ?_
 refine zza 5 (.slc 9 0 x.n x.n) ?_
 refine zzb 27 [(0, .v x.v), (3, .adr 3 0), (5, .slc 9 0 x.n x.n)] [(3, ⟨29, r.cs⟩), (9, ⟨29, rcs (List.replicate x.n rl0)⟩)] ?_
 refine zzc ?_
 refine sq9 ?_
 refine zza 10 (.slc 9 0 x.n x.n) ?_
 refine zza 11 (.v (.int .i64 (x.n : Int))) ?_
 refine zza 12 (.v (.int .i64 0)) ?_
 refine zzb 27 [(0, .v x.v), (3, .adr 3 0), (5, .slc 9 0 x.n x.n), (11, .v (.int .i64 (x.n : Int))), (12, .v (.int .i64 0))] [(3, ⟨29, r.cs⟩), (9, ⟨29, rcs (List.replicate x.n rl0)⟩)] ?_
 refine zzs ?_
 refine zym (I := fun m11 S' u' => ∃ (i : Nat) (L : List RL), (m11 = x.n - i) ∧ (i ≤ x.n) ∧ (L.length = x.n) ∧ (S' = St.of 27 [(0, .v (.slice x.a x.n x.c)), (3, .adr 3 0), (5, .slc 9 0 x.n x.n), (11, .v (.int .i64 (x.n : Int))), (12, .v (.int .i64 (i : Int)))] [(3, ⟨29, r.cs⟩), (9, ⟨29, rcs L⟩)]) ∧ (Ext u u') ∧ (RatsN u' (L.take i) ((l.map (· * q)).take i) (K + M))) (fun m S u1 u2 e h => by obtain ⟨i, L, hm, p0, p1, hS, hE, f0⟩ := h; exact ⟨i, L, hm, p0, p1, hS, hE.trans e, f0.ext e⟩) _ (T := St.of 27 [(0, .v (.slice x.a x.n x.c)), (3, .adr 3 0), (5, .slc 9 0 x.n x.n), (11, .v (.int .i64 (x.n : Int))), (12, .v (.int .i64 0))] [(3, ⟨29, r.cs⟩), (9, ⟨29, rcs (List.replicate x.n rl0)⟩)]) (by exact zzu _ _ _) ⟨0, List.replicate x.n rl0, rfl, by omega, by simp, rfl, Ext.refl _, RatsN.tnil _ _ _ _⟩ ?_
 rintro m11 _ u11 ⟨i, L, hm11, hi, hL, rfl, e11, hR⟩
 refine sq9 ?_
 refine zza 13 (.v (.bool (decide ((i : Int) < (x.n : Int))))) ?_
 refine zzb 27 [(0, .v x.v), (3, .adr 3 0), (5, .slc 9 0 x.n x.n), (11, .v (.int .i64 (x.n : Int))), (12, .v (.int .i64 (i : Int))), (13, .v (.bool (decide ((i : Int) < (x.n : Int)))))] [(3, ⟨29, r.cs⟩), (9, ⟨29, rcs L⟩)] ?_
 refine zzc ?_
 refine zzt (b := decide ((i : Int) < (x.n : Int))) (by kernel_rfl) (fun hb12 => ?_) (fun hb12 => ?_)
 ·replace hb12 : (decide ((i : Int) < (x.n : Int))) = true := hb12
  have qhb12 := of_decide_eq_true hb12
  refine zzr (zzo ?_)
  refine zzc ?_
  refine zzs ?_
  refine sq9 ?_
  refine zza 14 (.v (.int .i64 (i : Int))) ?_
  refine zza 6 (.v (.int .i64 (i : Int))) ?_
  refine zzb 27 [(0, .v x.v), (3, .adr 3 0), (5, .slc 9 0 x.n x.n), (6, .v (.int .i64 (i : Int))), (11, .v (.int .i64 (x.n : Int))), (12, .v (.int .i64 (i : Int)))] [(3, ⟨29, r.cs⟩), (9, ⟨29, rcs L⟩)] ?_
  refine zzy [0, 0, 0, 0, 12, 28, 0, 124, 255, 511] [(0, []), (1, []), (2, []), (3, []), (4, []), (5, []), (6, []), (7, []), (8, []), (9, [])] (by kernel_rfl) (by kernel_rfl) ?_
  refine zza 15 (.slc 9 0 x.n x.n) ?_
  refine zza 16 (.v (.int .i64 (i : Int))) ?_
  refine zza 17 (.v x.v) ?_
  refine zza 18 (.v (.int .i64 (i : Int))) ?_
  have hl13 := (hx.ext e11).len
  obtain ⟨r13, b13, o13, hA13, hc13, hr13⟩ := pol_at (hx.ext e11) (i := i) (by omega)
  refine zzz 19 (o13 + i * 3) (n := x.n) (off := o13) (sz := 3) (i := (i : Int)) (by omega) hA13 (by omega) (by omega) sl32 ?_
  refine zyl 20 r13.cs hc13 ty29 ?_
  refine zzh 21 (.v (r.v)) ty29 zzd ?_
  refine zzf 22 112 [r13.v, r.v] ?_
  intro w14 u14 e14 d14
  have k19 := k_ratMul d14 (hr13.ext e14) (hr.ext (e11.trans e14)) (by omega) (by omega)
  with_reducible refine Post.mono k19 ?_
  rintro _ u17 g18 ⟨r15, rfl, h16⟩
  refine zyv 23 (off' := i * 3) (n := x.n) (off := 0) (sz := 3) (i := (i : Int)) sl32 (by omega) (by omega) (by omega) ?_
  refine zyu (V := ⟨29, rcs L⟩) (off := i * 3) (rcs ((L).set i r15)) ty29 (by rw [zyx]; first|omega|(simp;omega)) (zyw (r := r15) (i := i) (by first|omega|(simp;omega)) rfl) ?_
  refine zzw ?_
  refine zzo ?_
  refine zze ?_
  refine zyp 24 (x := .v (.int .i64 (IntKind.i64.wrap ((i : Int) + 1)))) (.v (.int .i64 ((i + 1 : Nat) : Int))) (eqI (by rw [IntWalk.i64_in _ (by omega)]; omega)) ?_
  refine zza 12 (.v (.int .i64 ((i + 1 : Nat) : Int))) ?_
  refine zzw ?_
  have ht20 : i < (l.map (· * q)).length := by simp; omega
  refine ⟨_, ?_, St.of 27 [(0, .v (.slice x.a x.n x.c)), (3, .adr 3 0), (5, .slc 9 0 x.n x.n), (11, .v (.int .i64 (x.n : Int))), (12, .v (.int .i64 ((i + 1 : Nat) : Int)))] [(3, ⟨29, r.cs⟩), (9, ⟨29, rcs ((L).set i r15)⟩)], by exact zzu _ _ _, i + 1, (L).set i r15, rfl, by omega, by simpa using hL, rfl, (e11.trans (e14.trans g18.ext)), RatsN.tstep (hR.ext (e14.trans g18.ext)) (by omega) ht20 (RatN.more (K := (K + M)) h16 (by omega)) (by simp [List.getElem?_eq_getElem (show i < l.length by omega)])⟩
  omega
 ·replace hb12 : (decide ((i : Int) < (x.n : Int))) = false := hb12
  have qhb12 := of_decide_eq_false hb12
  refine zyb ?_
  refine zzo ?_
  refine zzc ?_
  refine zyo (r := 5) (t := 9) [5, 9] (by repeat first | exact noAt_of | refine zyc ?_ | refine zye ?_ | refine zyd ?_ | refine zzx ?_ | refine zya ?_) (by kernel_rfl) (by rfl) (by rfl) (by kernel_rfl) (fun b21 u22 e23 hb24 hh25 => ?_)
  have hp26 : PolN u22 ⟨some ⟨b21, 0, none⟩, x.n, x.n⟩ (l.map (· * q)) (K + M) := pol_data1 hh25 (by unfold maxLen; omega) (RatsN.tdone (hR.ext e23) (by omega) (by simp; omega)) (by omega)
  refine zze ?_
  refine zza 25 (.v (.slice (some ⟨b21, 0, none⟩) x.n x.n)) ?_
  refine zzf 26 113 [.slice (some ⟨b21, 0, none⟩) x.n x.n] ?_
  intro w27 u27 e27 d27
  have k30 := k_cut d27 (hp26.ext e27).raw (by omega) (by first|omega|(simp;omega) | (refine Nat.le_trans (Nt.zzg _) ?_; first|omega|(simp;omega)) | (refine Nat.le_trans (Nt.zzg _) ?_; simp only [List.length_map]; refine Nat.le_trans (Nt.zzg _) ?_; first|omega|(simp;omega)))
  with_reducible refine Post.mono k30 ?_
  rintro _ u28 g29 rfl
  refine zza 4 (.v (.slice (some ⟨b21, 0, none⟩) (Nt.trimQ (l.map (· * q))).length x.n)) ?_
  refine zzb 27 [(4, .v (.slice (some ⟨b21, 0, none⟩) (Nt.trimQ (l.map (· * q))).length x.n))] [] ?_
  refine zzn (ret0 [.slice (some ⟨b21, 0, none⟩) (Nt.trimQ (l.map (· * q))).length x.n] ⟨zzp, trivial⟩ fun u31 e32 => ?_)
  refine ⟨(⟨some ⟨b21, 0, none⟩, (Nt.trimQ (l.map (· * q))).length, x.n⟩ : Sl), rfl, ?_⟩
  exact ((cut_N (hp26.ext (e27.trans g29.ext))).ext e32)
theorem k_poTrim {u w : World} {x : Sl} {l : List Rat} {K : Nat} (d : Dat u w) (hx : PolV u x l K) (hK : K ≤ 50000000) (hx9 : l.length ≤ 1000000000) : Calls Tryz.prog 47 #[x.v] w (Post u w fun v u' => ∃ y : Sl, v = y.v ∧ PolN u' y (Nt.trimQ l) K) := by
 have hlen := hx.len
 have htl := Nt.zzg l
 refine zzl (args := [.slice x.a x.n x.c]) Tryz.func47 rfl Tryz.ntmps47 (rs := [.tmp 2]) Tryz.results47 (le_b rfl) (le_b rfl) d ?_
 refine sq9 ?_
 refine zza 2 (.v (.slice none 0 0)) ?_
 refine zzb 24 [(0, .v x.v)] [] ?_
 refine sq9 ?_
 refine zza 5 (.v x.v) ?_
 refine zzf 6 113 [x.v] ?_
 intro w11 u11 e11 d11
 have k14 := k_cut d11 (hx.ext e11) (by omega) (by first|omega|(simp;omega) | (refine Nat.le_trans (Nt.zzg _) ?_; first|omega|(simp;omega)) | (refine Nat.le_trans (Nt.zzg _) ?_; simp only [List.length_map]; refine Nat.le_trans (Nt.zzg _) ?_; first|omega|(simp;omega)))
 with_reducible refine Post.mono k14 ?_
 rintro _ u12 g13 rfl
 refine zza 7 (.v (.int .i64 (((Nt.trimQ l).length : Nat) : Int))) ?_
 refine sy_make 8 (T := 32) (E := 29) (z := .agg #[.bool false, .slice none 0 0, .slice none 0 0]) (size := 3) (bytes := 56) ((Nt.trimQ l).length) (rcs (List.replicate ((Nt.trimQ l).length) rl0)) (by kernel_rfl) (by kernel_rfl) rfl rfl (by omega) (by unfold maxLen; omega) (made_rcs _) ?_
 refine zza 3 (.slc 8 0 ((Nt.trimQ l).length) ((Nt.trimQ l).length)) ?_
 refine zzb 24 [(0, .v x.v), (3, .slc 8 0 ((Nt.trimQ l).length) ((Nt.trimQ l).length))] [(8, ⟨29, rcs (List.replicate ((Nt.trimQ l).length) rl0)⟩)] ?_
 refine zzc ?_
 refine sq9 ?_
 refine zza 9 (.slc 8 0 ((Nt.trimQ l).length) ((Nt.trimQ l).length)) ?_
 refine zza 10 (.v (.int .i64 (((Nt.trimQ l).length : Nat) : Int))) ?_
 refine zza 11 (.v (.int .i64 0)) ?_
 refine zzb 24 [(0, .v x.v), (3, .slc 8 0 ((Nt.trimQ l).length) ((Nt.trimQ l).length)), (10, .v (.int .i64 (((Nt.trimQ l).length : Nat) : Int))), (11, .v (.int .i64 0))] [(8, ⟨29, rcs (List.replicate ((Nt.trimQ l).length) rl0)⟩)] ?_
 refine zzs ?_
 refine zym (I := fun m15 S' u' => ∃ (i : Nat) (L : List RL), (m15 = ((Nt.trimQ l).length) - i) ∧ (i ≤ (Nt.trimQ l).length) ∧ (L.length = (Nt.trimQ l).length) ∧ (S' = St.of 24 [(0, .v (.slice x.a x.n x.c)), (3, .slc 8 0 ((Nt.trimQ l).length) ((Nt.trimQ l).length)), (10, .v (.int .i64 (((Nt.trimQ l).length : Nat) : Int))), (11, .v (.int .i64 (i : Int)))] [(8, ⟨29, rcs L⟩)]) ∧ (Ext u12 u') ∧ (RatsN u' (L.take i) ((Nt.trimQ l).take i) K)) (fun m S u1 u2 e h => by obtain ⟨i, L, hm, p0, p1, hS, hE, f0⟩ := h; exact ⟨i, L, hm, p0, p1, hS, hE.trans e, f0.ext e⟩) _ (T := St.of 24 [(0, .v (.slice x.a x.n x.c)), (3, .slc 8 0 ((Nt.trimQ l).length) ((Nt.trimQ l).length)), (10, .v (.int .i64 (((Nt.trimQ l).length : Nat) : Int))), (11, .v (.int .i64 0))] [(8, ⟨29, rcs (List.replicate ((Nt.trimQ l).length) rl0)⟩)]) (by exact zzu _ _ _) ⟨0, List.replicate ((Nt.trimQ l).length) rl0, rfl, by omega, by simp, rfl, Ext.refl _, RatsN.tnil _ _ _ _⟩ ?_
 rintro m15 _ u15 ⟨i, L, hm15, hi, hL, rfl, e15, hR⟩
 refine sq9 ?_
 refine zza 12 (.v (.bool (decide ((i : Int) < (((Nt.trimQ l).length : Nat) : Int))))) ?_
 refine zzb 24 [(0, .v x.v), (3, .slc 8 0 ((Nt.trimQ l).length) ((Nt.trimQ l).length)), (10, .v (.int .i64 (((Nt.trimQ l).length : Nat) : Int))), (11, .v (.int .i64 (i : Int))), (12, .v (.bool (decide ((i : Int) < (((Nt.trimQ l).length : Nat) : Int)))))] [(8, ⟨29, rcs L⟩)] ?_
 refine zzc ?_
 refine zzt (b := decide ((i : Int) < (((Nt.trimQ l).length : Nat) : Int))) (by kernel_rfl) (fun hb16 => ?_) (fun hb16 => ?_)
 ·replace hb16 : (decide ((i : Int) < (((Nt.trimQ l).length : Nat) : Int))) = true := hb16
  have qhb16 := of_decide_eq_true hb16
  refine zzr (zzo ?_)
  refine zzc ?_
  refine zzs ?_
  refine sq9 ?_
  refine zza 13 (.v (.int .i64 (i : Int))) ?_
  refine zza 4 (.v (.int .i64 (i : Int))) ?_
  refine zzb 24 [(0, .v x.v), (3, .slc 8 0 ((Nt.trimQ l).length) ((Nt.trimQ l).length)), (4, .v (.int .i64 (i : Int))), (10, .v (.int .i64 (((Nt.trimQ l).length : Nat) : Int))), (11, .v (.int .i64 (i : Int)))] [(8, ⟨29, rcs L⟩)] ?_
  refine zze ?_
  refine zza 14 (.slc 8 0 ((Nt.trimQ l).length) ((Nt.trimQ l).length)) ?_
  refine zza 15 (.v (.int .i64 (i : Int))) ?_
  refine zza 16 (.v x.v) ?_
  refine zza 17 (.v (.int .i64 (i : Int))) ?_
  have hl17 := (hx.ext (e11.trans (g13.ext.trans e15))).len
  obtain ⟨r17, b17, o17, hA17, hc17, hr17⟩ := pol_at (hx.ext (e11.trans (g13.ext.trans e15))) (i := i) (by omega)
  refine zzz 18 (o17 + i * 3) (n := x.n) (off := o17) (sz := 3) (i := (i : Int)) (by omega) hA17 (by omega) (by omega) sl32 ?_
  refine zyl 19 r17.cs hc17 ty29 ?_
  refine zzf 20 49 [r17.v] ?_
  intro w18 u18 e18 d18
  have k23 := k_ratTrim d18 (hr17.ext e18) (by omega)
  with_reducible refine Post.mono k23 ?_
  rintro _ u21 g22 ⟨r19, rfl, h20⟩
  refine zyv 21 (off' := i * 3) (n := (Nt.trimQ l).length) (off := 0) (sz := 3) (i := (i : Int)) sl32 (by omega) (by omega) (by omega) ?_
  refine zyu (V := ⟨29, rcs L⟩) (off := i * 3) (rcs ((L).set i r19)) ty29 (by rw [zyx]; first|omega|(simp;omega)) (zyw (r := r19) (i := i) (by first|omega|(simp;omega)) rfl) ?_
  refine zzw ?_
  refine zzo ?_
  refine zze ?_
  refine zyp 22 (x := .v (.int .i64 (IntKind.i64.wrap ((i : Int) + 1)))) (.v (.int .i64 ((i + 1 : Nat) : Int))) (eqI (by rw [IntWalk.i64_in _ (by omega)]; omega)) ?_
  refine zza 11 (.v (.int .i64 ((i + 1 : Nat) : Int))) ?_
  refine zzw ?_
  have ht24 : i < (Nt.trimQ l).length := by skip; omega
  refine ⟨_, ?_, St.of 24 [(0, .v (.slice x.a x.n x.c)), (3, .slc 8 0 ((Nt.trimQ l).length) ((Nt.trimQ l).length)), (10, .v (.int .i64 (((Nt.trimQ l).length : Nat) : Int))), (11, .v (.int .i64 ((i + 1 : Nat) : Int)))] [(8, ⟨29, rcs ((L).set i r19)⟩)], by exact zzu _ _ _, i + 1, (L).set i r19, rfl, by omega, by simpa using hL, rfl, (e15.trans (e18.trans g22.ext)), RatsN.tstep (hR.ext (e18.trans g22.ext)) (by omega) ht24 (RatN.more (K := K) h20 (by omega)) (Nt.trim_co l i).symm⟩
  omega
 ·replace hb16 : (decide ((i : Int) < (((Nt.trimQ l).length : Nat) : Int))) = false := hb16
  have qhb16 := of_decide_eq_false hb16
  refine zyb ?_
  refine zzo ?_
  refine zzc ?_
  refine zyo (r := 3) (t := 8) [3, 8] (by repeat first | exact noAt_of | refine zyc ?_ | refine zye ?_ | refine zyd ?_ | refine zzx ?_ | refine zya ?_) (by kernel_rfl) (by rfl) (by rfl) (by kernel_rfl) (fun b25 u26 e27 hb28 hh29 => ?_)
  have hp30 : PolN u26 ⟨some ⟨b25, 0, none⟩, (Nt.trimQ l).length, (Nt.trimQ l).length⟩ (Nt.trimQ l) K := pol_data1 hh29 (by unfold maxLen; omega) (RatsN.tdone (hR.ext e27) (by omega) (by skip; omega)) (by omega)
  refine zze ?_
  refine zza 23 (.v (.slice (some ⟨b25, 0, none⟩) ((Nt.trimQ l).length) ((Nt.trimQ l).length))) ?_
  refine zza 2 (.v (.slice (some ⟨b25, 0, none⟩) ((Nt.trimQ l).length) ((Nt.trimQ l).length))) ?_
  refine zzb 24 [(2, .v (.slice (some ⟨b25, 0, none⟩) ((Nt.trimQ l).length) ((Nt.trimQ l).length)))] [] ?_
  refine zzn (ret0 [.slice (some ⟨b25, 0, none⟩) ((Nt.trimQ l).length) ((Nt.trimQ l).length)] ⟨zzp, trivial⟩ fun u31 e32 => ?_)
  refine ⟨(⟨some ⟨b25, 0, none⟩, (Nt.trimQ l).length, (Nt.trimQ l).length⟩ : Sl), rfl, ?_⟩
  exact (hp30.ext e32)
theorem k_poAdd {u w : World} {x : Sl} {l : List Rat} {y : Sl} {m : List Rat} {K M : Nat} (d : Dat u w) (hx : PolV u x l K) (hy : PolV u y m M) (hK : K ≤ 40000000) (hM : M ≤ 40000000) (hx9 : l.length ≤ 1000000000) (hy9 : m.length ≤ 1000000000) : Calls Tryz.prog 68 #[x.v, y.v] w (Post u w fun v u' => ∃ y : Sl, v = y.v ∧ PolN u' y (Nt.trimQ (Nt.addQ l m)) (K + M + 1)) := by
 have hlen := hx.len
 have hlen2 := hy.len
 refine zzl (args := [.slice x.a x.n x.c, .slice y.a y.n y.c]) Tryz.func68 rfl Tryz.ntmps68 (rs := [.tmp 4]) Tryz.results68 (le_b rfl) (le_b rfl) d ?_
 refine sq9 ?_
 refine zza 4 (.v (.slice none 0 0)) ?_
 refine zzb 49 [(0, .v x.v), (1, .v y.v)] [] ?_
 refine zzc ?_
 refine sq9 ?_
 refine zza 7 (.v x.v) ?_
 refine zza 8 (.v (.int .i64 (x.n : Int))) ?_
 refine zza 9 (.v y.v) ?_
 refine zza 10 (.v (.int .i64 (y.n : Int))) ?_
 refine zza 11 (.v (.bool (decide ((x.n : Int) < (y.n : Int))))) ?_
 refine zzb 49 [(0, .v x.v), (1, .v y.v), (11, .v (.bool (decide ((x.n : Int) < (y.n : Int)))))] [] ?_
 refine zzt (b := decide ((x.n : Int) < (y.n : Int))) (by kernel_rfl) (fun hb11 => ?_) (fun hb11 => ?_)
 ·replace hb11 : (decide ((x.n : Int) < (y.n : Int))) = true := hb11
  have qhb11 := of_decide_eq_true hb11
  refine zze ?_
  refine zza 12 (.v y.v) ?_
  refine zza 13 (.v x.v) ?_
  refine zza 0 (.v y.v) ?_
  refine zza 1 (.v x.v) ?_
  refine zzb 49 [(0, .v y.v), (1, .v x.v)] [] ?_
  refine sq9 ?_
  refine zza 14 (.v y.v) ?_
  refine zza 15 (.v (.int .i64 (y.n : Int))) ?_
  refine sy_make 16 (T := 32) (E := 29) (z := .agg #[.bool false, .slice none 0 0, .slice none 0 0]) (size := 3) (bytes := 56) y.n (rcs (List.replicate y.n rl0)) (by kernel_rfl) (by kernel_rfl) rfl rfl (by omega) (by unfold maxLen; omega) (made_rcs _) ?_
  refine zza 5 (.slc 16 0 y.n y.n) ?_
  refine zzb 49 [(0, .v y.v), (1, .v x.v), (5, .slc 16 0 y.n y.n)] [(16, ⟨29, rcs (List.replicate y.n rl0)⟩)] ?_
  refine zzc ?_
  refine sq9 ?_
  refine zza 17 (.slc 16 0 y.n y.n) ?_
  refine zza 18 (.v (.int .i64 (y.n : Int))) ?_
  refine zza 19 (.v (.int .i64 0)) ?_
  refine zzb 49 [(0, .v y.v), (1, .v x.v), (5, .slc 16 0 y.n y.n), (18, .v (.int .i64 (y.n : Int))), (19, .v (.int .i64 0))] [(16, ⟨29, rcs (List.replicate y.n rl0)⟩)] ?_
  refine zzs ?_
  refine zym (I := fun m12 S' u' => ∃ (i : Nat) (L : List RL), (m12 = y.n - i) ∧ (i ≤ y.n) ∧ (L.length = y.n) ∧ (S' = St.of 49 [(0, .v (.slice y.a y.n y.c)), (1, .v (.slice x.a x.n x.c)), (5, .slc 16 0 y.n y.n), (18, .v (.int .i64 (y.n : Int))), (19, .v (.int .i64 (i : Int)))] [(16, ⟨29, rcs L⟩)]) ∧ (Ext u u') ∧ (RatsN u' (L.take i) ((Nt.addQ l m).take i) (K + M + 1))) (fun m S u1 u2 e h => by obtain ⟨i, L, hm, p0, p1, hS, hE, f0⟩ := h; exact ⟨i, L, hm, p0, p1, hS, hE.trans e, f0.ext e⟩) _ (T := St.of 49 [(0, .v (.slice y.a y.n y.c)), (1, .v (.slice x.a x.n x.c)), (5, .slc 16 0 y.n y.n), (18, .v (.int .i64 (y.n : Int))), (19, .v (.int .i64 0))] [(16, ⟨29, rcs (List.replicate y.n rl0)⟩)]) (by exact zzu _ _ _) ⟨0, List.replicate y.n rl0, rfl, by omega, by simp, rfl, Ext.refl _, RatsN.tnil _ _ _ _⟩ ?_
  rintro m12 _ u12 ⟨i, L, hm12, hi, hL, rfl, e12, hR⟩
  refine sq9 ?_
  refine zza 20 (.v (.bool (decide ((i : Int) < (y.n : Int))))) ?_
  refine zzb 49 [(0, .v y.v), (1, .v x.v), (5, .slc 16 0 y.n y.n), (18, .v (.int .i64 (y.n : Int))), (19, .v (.int .i64 (i : Int))), (20, .v (.bool (decide ((i : Int) < (y.n : Int)))))] [(16, ⟨29, rcs L⟩)] ?_
  refine zzc ?_
  refine zzt (b := decide ((i : Int) < (y.n : Int))) (by kernel_rfl) (fun hb13 => ?_) (fun hb13 => ?_)
  ·replace hb13 : (decide ((i : Int) < (y.n : Int))) = true := hb13
   have qhb13 := of_decide_eq_true hb13
   refine zzr (zzo ?_)
   refine zzc ?_
   refine zzs ?_
   refine sq9 ?_
   refine zza 21 (.v (.int .i64 (i : Int))) ?_
   refine zza 6 (.v (.int .i64 (i : Int))) ?_
   refine zzb 49 [(0, .v y.v), (1, .v x.v), (5, .slc 16 0 y.n y.n), (6, .v (.int .i64 (i : Int))), (18, .v (.int .i64 (y.n : Int))), (19, .v (.int .i64 (i : Int)))] [(16, ⟨29, rcs L⟩)] ?_
   refine sq9 ?_
   refine zza 22 (.v (.int .i64 (i : Int))) ?_
   refine zza 23 (.v x.v) ?_
   refine zza 24 (.v (.int .i64 (x.n : Int))) ?_
   refine zza 25 (.v (.bool (decide ((i : Int) < (x.n : Int))))) ?_
   refine zzb 49 [(0, .v y.v), (1, .v x.v), (5, .slc 16 0 y.n y.n), (6, .v (.int .i64 (i : Int))), (18, .v (.int .i64 (y.n : Int))), (19, .v (.int .i64 (i : Int))), (25, .v (.bool (decide ((i : Int) < (x.n : Int)))))] [(16, ⟨29, rcs L⟩)] ?_
   refine zzt (b := decide ((i : Int) < (x.n : Int))) (by kernel_rfl) (fun hb14 => ?_) (fun hb14 => ?_)
   ·replace hb14 : (decide ((i : Int) < (x.n : Int))) = true := hb14
    have qhb14 := of_decide_eq_true hb14
    refine zzy [0, 0, 0, 0, 12, 28, 0, 0, 192, 448, 1020, 2047, 4095] [(0, []), (1, []), (2, []), (3, []), (4, []), (5, []), (6, []), (7, []), (8, []), (9, []), (10, []), (11, []), (12, [])] (by kernel_rfl) (by kernel_rfl) ?_
    refine zza 26 (.slc 16 0 y.n y.n) ?_
    refine zza 27 (.v (.int .i64 (i : Int))) ?_
    refine zza 28 (.v y.v) ?_
    refine zza 29 (.v (.int .i64 (i : Int))) ?_
    have hl15 := (hy.ext e12).len
    obtain ⟨r15, b15, o15, hA15, hc15, hr15⟩ := pol_at (hy.ext e12) (i := i) (by omega)
    refine zzz 30 (o15 + i * 3) (n := y.n) (off := o15) (sz := 3) (i := (i : Int)) (by omega) hA15 (by omega) (by omega) sl32 ?_
    refine zyl 31 r15.cs hc15 ty29 ?_
    refine zza 32 (.v x.v) ?_
    refine zza 33 (.v (.int .i64 (i : Int))) ?_
    have hl16 := (hx.ext e12).len
    obtain ⟨r16, b16, o16, hA16, hc16, hr16⟩ := pol_at (hx.ext e12) (i := i) (by omega)
    refine zzz 34 (o16 + i * 3) (n := x.n) (off := o16) (sz := 3) (i := (i : Int)) (by omega) hA16 (by omega) (by omega) sl32 ?_
    refine zyl 35 r16.cs hc16 ty29 ?_
    refine zzf 36 111 [r15.v, r16.v] ?_
    intro w17 u17 e17 d17
    have k22 := k_ratAdd d17 (hr15.ext e17) (hr16.ext e17) (by omega) (by omega)
    with_reducible refine Post.mono k22 ?_
    rintro _ u20 g21 ⟨r18, rfl, h19⟩
    refine zyv 37 (off' := i * 3) (n := y.n) (off := 0) (sz := 3) (i := (i : Int)) sl32 (by omega) (by omega) (by omega) ?_
    refine zyu (V := ⟨29, rcs L⟩) (off := i * 3) (rcs ((L).set i r18)) ty29 (by rw [zyx]; first|omega|(simp;omega)) (zyw (r := r18) (i := i) (by first|omega|(simp;omega)) rfl) ?_
    refine zzw ?_
    refine zzo ?_
    refine zze ?_
    refine zyp 46 (x := .v (.int .i64 (IntKind.i64.wrap ((i : Int) + 1)))) (.v (.int .i64 ((i + 1 : Nat) : Int))) (eqI (by rw [IntWalk.i64_in _ (by omega)]; omega)) ?_
    refine zza 19 (.v (.int .i64 ((i + 1 : Nat) : Int))) ?_
    refine zzw ?_
    have ht23 : i < (Nt.addQ l m).length := by rw [Nt.addQ_len]; omega
    refine ⟨_, ?_, St.of 49 [(0, .v (.slice y.a y.n y.c)), (1, .v (.slice x.a x.n x.c)), (5, .slc 16 0 y.n y.n), (18, .v (.int .i64 (y.n : Int))), (19, .v (.int .i64 ((i + 1 : Nat) : Int)))] [(16, ⟨29, rcs ((L).set i r18)⟩)], by exact zzu _ _ _, i + 1, (L).set i r18, rfl, by omega, by simpa using hL, rfl, (e12.trans (e17.trans g21.ext)), RatsN.tstep (hR.ext (e17.trans g21.ext)) (by omega) ht23 (RatN.more (K := (M + K + 1)) h19 (by omega)) (by have h9 := Nt.addQ_co l m i; unfold Nt.co at h9; show _ = List.getD _ _ _; rw [h9]; exact Rat.add_comm _ _)⟩
    omega
   ·replace hb14 : (decide ((i : Int) < (x.n : Int))) = false := hb14
    have qhb14 := of_decide_eq_false hb14
    refine zze ?_
    refine zza 38 (.slc 16 0 y.n y.n) ?_
    refine zza 39 (.v (.int .i64 (i : Int))) ?_
    refine zza 40 (.v y.v) ?_
    refine zza 41 (.v (.int .i64 (i : Int))) ?_
    have hl24 := (hy.ext e12).len
    obtain ⟨r24, b24, o24, hA24, hc24, hr24⟩ := pol_at (hy.ext e12) (i := i) (by omega)
    refine zzz 42 (o24 + i * 3) (n := y.n) (off := o24) (sz := 3) (i := (i : Int)) (by omega) hA24 (by omega) (by omega) sl32 ?_
    refine zyl 43 r24.cs hc24 ty29 ?_
    refine zzf 44 49 [r24.v] ?_
    intro w25 u25 e25 d25
    have k30 := k_ratTrim d25 (hr24.ext e25) (by omega)
    with_reducible refine Post.mono k30 ?_
    rintro _ u28 g29 ⟨r26, rfl, h27⟩
    refine zyv 45 (off' := i * 3) (n := y.n) (off := 0) (sz := 3) (i := (i : Int)) sl32 (by omega) (by omega) (by omega) ?_
    refine zyu (V := ⟨29, rcs L⟩) (off := i * 3) (rcs ((L).set i r26)) ty29 (by rw [zyx]; first|omega|(simp;omega)) (zyw (r := r26) (i := i) (by first|omega|(simp;omega)) rfl) ?_
    refine zzw ?_
    refine zzo ?_
    refine zze ?_
    refine zyp 46 (x := .v (.int .i64 (IntKind.i64.wrap ((i : Int) + 1)))) (.v (.int .i64 ((i + 1 : Nat) : Int))) (eqI (by rw [IntWalk.i64_in _ (by omega)]; omega)) ?_
    refine zza 19 (.v (.int .i64 ((i + 1 : Nat) : Int))) ?_
    refine zzw ?_
    have ht31 : i < (Nt.addQ l m).length := by rw [Nt.addQ_len]; omega
    refine ⟨_, ?_, St.of 49 [(0, .v (.slice y.a y.n y.c)), (1, .v (.slice x.a x.n x.c)), (5, .slc 16 0 y.n y.n), (18, .v (.int .i64 (y.n : Int))), (19, .v (.int .i64 ((i + 1 : Nat) : Int)))] [(16, ⟨29, rcs ((L).set i r26)⟩)], by exact zzu _ _ _, i + 1, (L).set i r26, rfl, by omega, by simpa using hL, rfl, (e12.trans (e25.trans g29.ext)), RatsN.tstep (hR.ext (e25.trans g29.ext)) (by omega) ht31 (RatN.more (K := M) h27 (by omega)) (by have h9 := Nt.addQ_co l m i; unfold Nt.co at h9; show _ = List.getD _ _ _; rw [h9]; rw [show l.getD i 0 = 0 from Nt.co_ge (by omega)]; grind)⟩
    omega
  ·replace hb13 : (decide ((i : Int) < (y.n : Int))) = false := hb13
   have qhb13 := of_decide_eq_false hb13
   refine zyb ?_
   refine zzo ?_
   refine zzc ?_
   refine zyo (r := 5) (t := 16) [5, 16] (by repeat first | exact noAt_of | refine zyc ?_ | refine zye ?_ | refine zyd ?_ | refine zzx ?_ | refine zya ?_) (by kernel_rfl) (by rfl) (by rfl) (by kernel_rfl) (fun b32 u33 e34 hb35 hh36 => ?_)
   have hp37 : PolN u33 ⟨some ⟨b32, 0, none⟩, y.n, y.n⟩ (Nt.addQ l m) (K + M + 1) := pol_data1 hh36 (by unfold maxLen; omega) (RatsN.tdone (hR.ext e34) (by omega) (by rw [Nt.addQ_len]; omega)) (by omega)
   refine zze ?_
   refine zza 47 (.v (.slice (some ⟨b32, 0, none⟩) y.n y.n)) ?_
   refine zzf 48 113 [.slice (some ⟨b32, 0, none⟩) y.n y.n] ?_
   intro w38 u38 e38 d38
   have k41 := k_cut d38 (hp37.ext e38).raw (by omega) (by first|omega|(simp;omega) | (refine Nat.le_trans (Nt.zzg _) ?_; first|omega|(simp;omega)) | (refine Nat.le_trans (Nt.zzg _) ?_; simp only [List.length_map]; refine Nat.le_trans (Nt.zzg _) ?_; first|omega|(simp;omega)))
   with_reducible refine Post.mono k41 ?_
   rintro _ u39 g40 rfl
   refine zza 4 (.v (.slice (some ⟨b32, 0, none⟩) (Nt.trimQ (Nt.addQ l m)).length y.n)) ?_
   refine zzb 49 [(4, .v (.slice (some ⟨b32, 0, none⟩) (Nt.trimQ (Nt.addQ l m)).length y.n))] [] ?_
   refine zzn (ret0 [.slice (some ⟨b32, 0, none⟩) (Nt.trimQ (Nt.addQ l m)).length y.n] ⟨zzp, trivial⟩ fun u42 e43 => ?_)
   refine ⟨(⟨some ⟨b32, 0, none⟩, (Nt.trimQ (Nt.addQ l m)).length, y.n⟩ : Sl), rfl, ?_⟩
   exact ((cut_N (hp37.ext (e38.trans g40.ext))).ext e43)
 ·replace hb11 : (decide ((x.n : Int) < (y.n : Int))) = false := hb11
  have qhb11 := of_decide_eq_false hb11
  refine zzr (zzo ?_)
  refine sq9 ?_
  refine zza 14 (.v x.v) ?_
  refine zza 15 (.v (.int .i64 (x.n : Int))) ?_
  refine sy_make 16 (T := 32) (E := 29) (z := .agg #[.bool false, .slice none 0 0, .slice none 0 0]) (size := 3) (bytes := 56) x.n (rcs (List.replicate x.n rl0)) (by kernel_rfl) (by kernel_rfl) rfl rfl (by omega) (by unfold maxLen; omega) (made_rcs _) ?_
  refine zza 5 (.slc 16 0 x.n x.n) ?_
  refine zzb 49 [(0, .v x.v), (1, .v y.v), (5, .slc 16 0 x.n x.n)] [(16, ⟨29, rcs (List.replicate x.n rl0)⟩)] ?_
  refine zzc ?_
  refine sq9 ?_
  refine zza 17 (.slc 16 0 x.n x.n) ?_
  refine zza 18 (.v (.int .i64 (x.n : Int))) ?_
  refine zza 19 (.v (.int .i64 0)) ?_
  refine zzb 49 [(0, .v x.v), (1, .v y.v), (5, .slc 16 0 x.n x.n), (18, .v (.int .i64 (x.n : Int))), (19, .v (.int .i64 0))] [(16, ⟨29, rcs (List.replicate x.n rl0)⟩)] ?_
  refine zzs ?_
  refine zym (I := fun m44 S' u' => ∃ (i : Nat) (L : List RL), (m44 = x.n - i) ∧ (i ≤ x.n) ∧ (L.length = x.n) ∧ (S' = St.of 49 [(0, .v (.slice x.a x.n x.c)), (1, .v (.slice y.a y.n y.c)), (5, .slc 16 0 x.n x.n), (18, .v (.int .i64 (x.n : Int))), (19, .v (.int .i64 (i : Int)))] [(16, ⟨29, rcs L⟩)]) ∧ (Ext u u') ∧ (RatsN u' (L.take i) ((Nt.addQ l m).take i) (K + M + 1))) (fun m S u1 u2 e h => by obtain ⟨i, L, hm, p0, p1, hS, hE, f0⟩ := h; exact ⟨i, L, hm, p0, p1, hS, hE.trans e, f0.ext e⟩) _ (T := St.of 49 [(0, .v (.slice x.a x.n x.c)), (1, .v (.slice y.a y.n y.c)), (5, .slc 16 0 x.n x.n), (18, .v (.int .i64 (x.n : Int))), (19, .v (.int .i64 0))] [(16, ⟨29, rcs (List.replicate x.n rl0)⟩)]) (by exact zzu _ _ _) ⟨0, List.replicate x.n rl0, rfl, by omega, by simp, rfl, Ext.refl _, RatsN.tnil _ _ _ _⟩ ?_
  rintro m44 _ u44 ⟨i, L, hm44, hi, hL, rfl, e44, hR⟩
  refine sq9 ?_
  refine zza 20 (.v (.bool (decide ((i : Int) < (x.n : Int))))) ?_
  refine zzb 49 [(0, .v x.v), (1, .v y.v), (5, .slc 16 0 x.n x.n), (18, .v (.int .i64 (x.n : Int))), (19, .v (.int .i64 (i : Int))), (20, .v (.bool (decide ((i : Int) < (x.n : Int)))))] [(16, ⟨29, rcs L⟩)] ?_
  refine zzc ?_
  refine zzt (b := decide ((i : Int) < (x.n : Int))) (by kernel_rfl) (fun hb45 => ?_) (fun hb45 => ?_)
  ·replace hb45 : (decide ((i : Int) < (x.n : Int))) = true := hb45
   have qhb45 := of_decide_eq_true hb45
   refine zzr (zzo ?_)
   refine zzc ?_
   refine zzs ?_
   refine sq9 ?_
   refine zza 21 (.v (.int .i64 (i : Int))) ?_
   refine zza 6 (.v (.int .i64 (i : Int))) ?_
   refine zzb 49 [(0, .v x.v), (1, .v y.v), (5, .slc 16 0 x.n x.n), (6, .v (.int .i64 (i : Int))), (18, .v (.int .i64 (x.n : Int))), (19, .v (.int .i64 (i : Int)))] [(16, ⟨29, rcs L⟩)] ?_
   refine sq9 ?_
   refine zza 22 (.v (.int .i64 (i : Int))) ?_
   refine zza 23 (.v y.v) ?_
   refine zza 24 (.v (.int .i64 (y.n : Int))) ?_
   refine zza 25 (.v (.bool (decide ((i : Int) < (y.n : Int))))) ?_
   refine zzb 49 [(0, .v x.v), (1, .v y.v), (5, .slc 16 0 x.n x.n), (6, .v (.int .i64 (i : Int))), (18, .v (.int .i64 (x.n : Int))), (19, .v (.int .i64 (i : Int))), (25, .v (.bool (decide ((i : Int) < (y.n : Int)))))] [(16, ⟨29, rcs L⟩)] ?_
   refine zzt (b := decide ((i : Int) < (y.n : Int))) (by kernel_rfl) (fun hb46 => ?_) (fun hb46 => ?_)
   ·replace hb46 : (decide ((i : Int) < (y.n : Int))) = true := hb46
    have qhb46 := of_decide_eq_true hb46
    refine zzy [0, 0, 0, 0, 12, 28, 0, 0, 192, 448, 1020, 2047, 4095] [(0, []), (1, []), (2, []), (3, []), (4, []), (5, []), (6, []), (7, []), (8, []), (9, []), (10, []), (11, []), (12, [])] (by kernel_rfl) (by kernel_rfl) ?_
    refine zza 26 (.slc 16 0 x.n x.n) ?_
    refine zza 27 (.v (.int .i64 (i : Int))) ?_
    refine zza 28 (.v x.v) ?_
    refine zza 29 (.v (.int .i64 (i : Int))) ?_
    have hl47 := (hx.ext e44).len
    obtain ⟨r47, b47, o47, hA47, hc47, hr47⟩ := pol_at (hx.ext e44) (i := i) (by omega)
    refine zzz 30 (o47 + i * 3) (n := x.n) (off := o47) (sz := 3) (i := (i : Int)) (by omega) hA47 (by omega) (by omega) sl32 ?_
    refine zyl 31 r47.cs hc47 ty29 ?_
    refine zza 32 (.v y.v) ?_
    refine zza 33 (.v (.int .i64 (i : Int))) ?_
    have hl48 := (hy.ext e44).len
    obtain ⟨r48, b48, o48, hA48, hc48, hr48⟩ := pol_at (hy.ext e44) (i := i) (by omega)
    refine zzz 34 (o48 + i * 3) (n := y.n) (off := o48) (sz := 3) (i := (i : Int)) (by omega) hA48 (by omega) (by omega) sl32 ?_
    refine zyl 35 r48.cs hc48 ty29 ?_
    refine zzf 36 111 [r47.v, r48.v] ?_
    intro w49 u49 e49 d49
    have k54 := k_ratAdd d49 (hr47.ext e49) (hr48.ext e49) (by omega) (by omega)
    with_reducible refine Post.mono k54 ?_
    rintro _ u52 g53 ⟨r50, rfl, h51⟩
    refine zyv 37 (off' := i * 3) (n := x.n) (off := 0) (sz := 3) (i := (i : Int)) sl32 (by omega) (by omega) (by omega) ?_
    refine zyu (V := ⟨29, rcs L⟩) (off := i * 3) (rcs ((L).set i r50)) ty29 (by rw [zyx]; first|omega|(simp;omega)) (zyw (r := r50) (i := i) (by first|omega|(simp;omega)) rfl) ?_
    refine zzw ?_
    refine zzo ?_
    refine zze ?_
    refine zyp 46 (x := .v (.int .i64 (IntKind.i64.wrap ((i : Int) + 1)))) (.v (.int .i64 ((i + 1 : Nat) : Int))) (eqI (by rw [IntWalk.i64_in _ (by omega)]; omega)) ?_
    refine zza 19 (.v (.int .i64 ((i + 1 : Nat) : Int))) ?_
    refine zzw ?_
    have ht55 : i < (Nt.addQ l m).length := by rw [Nt.addQ_len]; omega
    refine ⟨_, ?_, St.of 49 [(0, .v (.slice x.a x.n x.c)), (1, .v (.slice y.a y.n y.c)), (5, .slc 16 0 x.n x.n), (18, .v (.int .i64 (x.n : Int))), (19, .v (.int .i64 ((i + 1 : Nat) : Int)))] [(16, ⟨29, rcs ((L).set i r50)⟩)], by exact zzu _ _ _, i + 1, (L).set i r50, rfl, by omega, by simpa using hL, rfl, (e44.trans (e49.trans g53.ext)), RatsN.tstep (hR.ext (e49.trans g53.ext)) (by omega) ht55 (RatN.more (K := (K + M + 1)) h51 (by omega)) (by have h9 := Nt.addQ_co l m i; unfold Nt.co at h9; show _ = List.getD _ _ _; rw [h9])⟩
    omega
   ·replace hb46 : (decide ((i : Int) < (y.n : Int))) = false := hb46
    have qhb46 := of_decide_eq_false hb46
    refine zze ?_
    refine zza 38 (.slc 16 0 x.n x.n) ?_
    refine zza 39 (.v (.int .i64 (i : Int))) ?_
    refine zza 40 (.v x.v) ?_
    refine zza 41 (.v (.int .i64 (i : Int))) ?_
    have hl56 := (hx.ext e44).len
    obtain ⟨r56, b56, o56, hA56, hc56, hr56⟩ := pol_at (hx.ext e44) (i := i) (by omega)
    refine zzz 42 (o56 + i * 3) (n := x.n) (off := o56) (sz := 3) (i := (i : Int)) (by omega) hA56 (by omega) (by omega) sl32 ?_
    refine zyl 43 r56.cs hc56 ty29 ?_
    refine zzf 44 49 [r56.v] ?_
    intro w57 u57 e57 d57
    have k62 := k_ratTrim d57 (hr56.ext e57) (by omega)
    with_reducible refine Post.mono k62 ?_
    rintro _ u60 g61 ⟨r58, rfl, h59⟩
    refine zyv 45 (off' := i * 3) (n := x.n) (off := 0) (sz := 3) (i := (i : Int)) sl32 (by omega) (by omega) (by omega) ?_
    refine zyu (V := ⟨29, rcs L⟩) (off := i * 3) (rcs ((L).set i r58)) ty29 (by rw [zyx]; first|omega|(simp;omega)) (zyw (r := r58) (i := i) (by first|omega|(simp;omega)) rfl) ?_
    refine zzw ?_
    refine zzo ?_
    refine zze ?_
    refine zyp 46 (x := .v (.int .i64 (IntKind.i64.wrap ((i : Int) + 1)))) (.v (.int .i64 ((i + 1 : Nat) : Int))) (eqI (by rw [IntWalk.i64_in _ (by omega)]; omega)) ?_
    refine zza 19 (.v (.int .i64 ((i + 1 : Nat) : Int))) ?_
    refine zzw ?_
    have ht63 : i < (Nt.addQ l m).length := by rw [Nt.addQ_len]; omega
    refine ⟨_, ?_, St.of 49 [(0, .v (.slice x.a x.n x.c)), (1, .v (.slice y.a y.n y.c)), (5, .slc 16 0 x.n x.n), (18, .v (.int .i64 (x.n : Int))), (19, .v (.int .i64 ((i + 1 : Nat) : Int)))] [(16, ⟨29, rcs ((L).set i r58)⟩)], by exact zzu _ _ _, i + 1, (L).set i r58, rfl, by omega, by simpa using hL, rfl, (e44.trans (e57.trans g61.ext)), RatsN.tstep (hR.ext (e57.trans g61.ext)) (by omega) ht63 (RatN.more (K := K) h59 (by omega)) (by have h9 := Nt.addQ_co l m i; unfold Nt.co at h9; show _ = List.getD _ _ _; rw [h9]; rw [show m.getD i 0 = 0 from Nt.co_ge (by omega)]; grind)⟩
    omega
  ·replace hb45 : (decide ((i : Int) < (x.n : Int))) = false := hb45
   have qhb45 := of_decide_eq_false hb45
   refine zyb ?_
   refine zzo ?_
   refine zzc ?_
   refine zyo (r := 5) (t := 16) [5, 16] (by repeat first | exact noAt_of | refine zyc ?_ | refine zye ?_ | refine zyd ?_ | refine zzx ?_ | refine zya ?_) (by kernel_rfl) (by rfl) (by rfl) (by kernel_rfl) (fun b64 u65 e66 hb67 hh68 => ?_)
   have hp69 : PolN u65 ⟨some ⟨b64, 0, none⟩, x.n, x.n⟩ (Nt.addQ l m) (K + M + 1) := pol_data1 hh68 (by unfold maxLen; omega) (RatsN.tdone (hR.ext e66) (by omega) (by rw [Nt.addQ_len]; omega)) (by omega)
   refine zze ?_
   refine zza 47 (.v (.slice (some ⟨b64, 0, none⟩) x.n x.n)) ?_
   refine zzf 48 113 [.slice (some ⟨b64, 0, none⟩) x.n x.n] ?_
   intro w70 u70 e70 d70
   have k73 := k_cut d70 (hp69.ext e70).raw (by omega) (by first|omega|(simp;omega) | (refine Nat.le_trans (Nt.zzg _) ?_; first|omega|(simp;omega)) | (refine Nat.le_trans (Nt.zzg _) ?_; simp only [List.length_map]; refine Nat.le_trans (Nt.zzg _) ?_; first|omega|(simp;omega)))
   with_reducible refine Post.mono k73 ?_
   rintro _ u71 g72 rfl
   refine zza 4 (.v (.slice (some ⟨b64, 0, none⟩) (Nt.trimQ (Nt.addQ l m)).length x.n)) ?_
   refine zzb 49 [(4, .v (.slice (some ⟨b64, 0, none⟩) (Nt.trimQ (Nt.addQ l m)).length x.n))] [] ?_
   refine zzn (ret0 [.slice (some ⟨b64, 0, none⟩) (Nt.trimQ (Nt.addQ l m)).length x.n] ⟨zzp, trivial⟩ fun u74 e75 => ?_)
   refine ⟨(⟨some ⟨b64, 0, none⟩, (Nt.trimQ (Nt.addQ l m)).length, x.n⟩ : Sl), rfl, ?_⟩
   exact ((cut_N (hp69.ext (e70.trans g72.ext))).ext e75)
set_option maxHeartbeats 2000000 in
theorem k_r5Trim {u w : World} {x : Sl} {l : List Rat} {K : Nat} (d : Dat u w) (hx : PolV u x l K) (hK : K ≤ 50000000) (hx9 : l.length ≤ 1000000000) : Calls Tryz.prog 53 #[x.v] w (Post u w fun v u' => ∃ y : Sl, v = y.v ∧ PolN u' y (Nt.trimQ l) K) := by
 have hlen := hx.len
 have htl := Nt.zzg l
 refine zzl (args := [.slice x.a x.n x.c]) Tryz.func53 rfl Tryz.ntmps53 (rs := [.tmp 2]) Tryz.results53 (le_b rfl) (le_b rfl) d ?_
 refine sq9 ?_
 refine zza 2 (.v (.slice none 0 0)) ?_
 refine zzb 37 [(0, .v x.v)] [] ?_
 refine sq9 ?_
 refine zza 7 (.v x.v) ?_
 refine zza 8 (.v (.int .i64 (x.n : Int))) ?_
 refine zza 3 (.v (.int .i64 (x.n : Int))) ?_
 refine zzb 37 [(0, .v x.v), (3, .v (.int .i64 (x.n : Int)))] [] ?_
 refine zzc ?_
 refine zzs ?_
 refine zym (I := fun m11 S' u' => ∃ (n : Nat), (m11 = n) ∧ (n ≤ l.length) ∧ (∀ i, n ≤ i → Nt.co l i = 0) ∧ (S' = St.of 37 [(0, .v (.slice x.a x.n x.c)), (3, .v (.int .i64 (n : Int)))] []) ∧ (Ext u u')) (fun m S u1 u2 e h => by obtain ⟨n, hm, p0, p1, hS, hE⟩ := h; exact ⟨n, hm, p0, p1, hS, hE.trans e⟩) _ (T := St.of 37 [(0, .v (.slice x.a x.n x.c)), (3, .v (.int .i64 (x.n : Int)))] []) (by exact zzu _ _ _) ⟨x.n, rfl, by omega, fun i hi => Nt.co_ge (by omega), rfl, Ext.refl _⟩ ?_
 rintro m11 _ u11 ⟨n, hm11, hn, hz, rfl, e11⟩
 refine zzc ?_
 refine sq9 ?_
 refine zza 9 (.v (.int .i64 (n : Int))) ?_
 refine zza 10 (.v (.bool (decide ((0 : Int) < (n : Int))))) ?_
 rcases Bool.eq_false_or_eq_true (decide ((0 : Int) < (n : Int))) with hs12 | hs12
 ·refine zyp 11 (x := .v (.bool (decide ((0 : Int) < (n : Int))))) (.v (.bool true)) (by rw [hs12]) ?_
  have qhs12 := of_decide_eq_true hs12
  refine zza 12 (.v x.v) ?_ (hw := w1 2 true 11)
  refine zza 13 (.v (.int .i64 (n : Int))) ?_ (hw := w1 2 true 11)
  refine zyp 14 (x := .v (.int .i64 (IntKind.i64.wrap ((n : Int) - 1)))) (.v (.int .i64 ((n - 1 : Nat) : Int))) (eqI (by rw [IntWalk.i64_in _ (by omega)]; omega)) ?_ (hw := w1 2 true 11)
  have hl13 := (hx.ext e11).len
  obtain ⟨r13, b13, o13, hA13, hc13, hr13⟩ := pol_at (hx.ext e11) (i := n - 1) (by omega)
  refine zzz 15 (o13 + (n - 1) * 3) (n := x.n) (off := o13) (sz := 3) (i := ((n - 1 : Nat) : Int)) (by omega) hA13 (by omega) (by omega) sl32 ?_ (hw := w1 2 true 11)
  refine zyl 16 r13.cs hc13 ty29 ?_ (hw := w1 2 true 11)
  refine zzf 17 119 [r13.v] ?_ (hw := w1 2 true 11)
  intro w14 u14 e14 d14
  have k17 := k_rqSign d14 (hr13.ext e14) (by omega)
  with_reducible refine Post.mono k17 ?_
  rintro _ u15 g16 rfl
  refine zza 18 (.v (.bool ((Nt.sgQ (l.getD (n - 1) 0)) == 0))) ?_ (hw := w1 2 true 11)
  refine zza 19 (.v (.bool ((Nt.sgQ (l.getD (n - 1) 0)) == 0))) ?_
  refine zzb 37 [(0, .v x.v), (3, .v (.int .i64 (n : Int))), (19, .v (.bool ((Nt.sgQ (l.getD (n - 1) 0)) == 0)))] [] ?_
  refine zzt (b := (Nt.sgQ (l.getD (n - 1) 0)) == 0) (by kernel_rfl) (fun hb18 => ?_) (fun hb18 => ?_)
  ·replace hb18 : ((Nt.sgQ (l.getD (n - 1) 0)) == 0) = true := hb18
   refine zzr (zzo ?_)
   refine zzs ?_
   refine zze ?_
   refine zza 20 (.v (.int .i64 (n : Int))) ?_
   refine zyp 21 (x := .v (.int .i64 (IntKind.i64.wrap ((n : Int) - 1)))) (.v (.int .i64 ((n - 1 : Nat) : Int))) (eqI (by rw [IntWalk.i64_in _ (by omega)]; omega)) ?_
   refine zza 3 (.v (.int .i64 ((n - 1 : Nat) : Int))) ?_
   refine zzw ?_
   refine ⟨_, ?_, St.of 37 [(0, .v (.slice x.a x.n x.c)), (3, .v (.int .i64 ((n - 1 : Nat) : Int)))] [], by exact zzu _ _ _, n - 1, rfl, by omega, (fun i hi => by by_cases e : i = n - 1; (rw [e]; have h9 := hb18; rw [Nt.sgQ_eq] at h9; exact of_decide_eq_true h9); exact hz i (by omega)), rfl, (e11.trans (e14.trans g16.ext))⟩
   omega
  ·replace hb18 : ((Nt.sgQ (l.getD (n - 1) 0)) == 0) = false := hb18
   refine zyb ?_
   refine zzo ?_
   refine zzc ?_
   have he9 := Nt.trim_len_of (l := l) hn hz (fun _ h => by have h9 := hb18; rw [Nt.sgQ_eq] at h9; exact of_decide_eq_false h9 h)
   clear hz
   refine zze ?_
   refine zza 4 (.v (.slice none 0 0)) ?_
   refine zzb 37 [(0, .v x.v), (3, .v (.int .i64 (n : Int))), (4, .v (.slice none 0 0))] [] ?_
   refine zzc ?_
   refine sq9 ?_
   refine zza 22 (.v x.v) ?_
   refine zza 23 (.v (.int .i64 (n : Int))) ?_
   have hl19 := (hx.ext (e11.trans (e14.trans g16.ext))).len
   have hc19 := (hx.ext (e11.trans (e14.trans g16.ext))).cap
   refine sy_front 24 (n := x.n) (c := x.c) n sl32 rfl (by omega) ?_
   refine zza 25 (.v (.int .i64 (n : Int))) ?_
   refine zza 26 (.v (.int .i64 0)) ?_
   refine zzb 37 [(4, .v (.slice none 0 0)), (24, .v (.slice x.a n x.c)), (25, .v (.int .i64 (n : Int))), (26, .v (.int .i64 0))] [] ?_
   refine zzs ?_
   refine zym (I := fun m20 S' u' => (m20 = n ∧ S' = St.of 37 [(4, .v (.slice none 0 0)), (24, .v (.slice x.a n x.c)), (25, .v (.int .i64 (n : Int))), (26, .v (.int .i64 0))] [] ∧ Ext u15 u') ∨ (∃ (i : Nat) (L : List RL) (cs : List Value) (cp : Nat), m20 = n - i ∧ i ≤ n ∧ 0 < i ∧ L.length = i ∧ cs.length = cp * 3 ∧ i ≤ cp ∧ cp ≤ maxLen ∧ cs.take (i * 3) = rcs L ∧ S' = St.of 37 [(4, .slc 34 0 i cp), (24, .v (.slice x.a n x.c)), (25, .v (.int .i64 (n : Int))), (26, .v (.int .i64 (i : Int)))] [(34, ⟨29, cs⟩)] ∧ Ext u15 u' ∧ RatsN u' L ((Nt.trimQ l).take i) K)) (fun m S u1 u2 e h => by rcases h with ⟨a, b, c⟩ | ⟨a1, a2, a3, a4, b1, b2, b3, b4, b5, b6, b7, b8, b9, b10, b11⟩; exact .inl ⟨a, b, c.trans e⟩; exact .inr ⟨a1, a2, a3, a4, b1, b2, b3, b4, b5, b6, b7, b8, b9, b10.trans e, b11.ext e⟩) _ (T := St.of 37 [(4, .v (.slice none 0 0)), (24, .v (.slice x.a n x.c)), (25, .v (.int .i64 (n : Int))), (26, .v (.int .i64 0))] []) (by exact zzu _ _ _) (.inl ⟨rfl, rfl, Ext.refl _⟩) ?_
   rintro m20 _ u20 (⟨hm20, rfl, e20⟩ | ⟨i, L, cs, cp, hm20, hi, hp, hL, hc, hle, hmx, ht, rfl, e20, hR⟩)
   ·change SW _ _ _ _ (St.of 37 [(4, .v (.slice none 0 0)), (24, .v (.slice x.a n x.c)), (25, .v (.int .i64 (n : Int))), (26, .v (.int .i64 0))] []) _ _
    refine sq9 ?_
    refine zza 27 (.v (.bool (decide ((0 : Int) < (n : Int))))) ?_
    refine zzb 37 [(4, .v (.slice none 0 0)), (24, .v (.slice x.a n x.c)), (25, .v (.int .i64 (n : Int))), (26, .v (.int .i64 0)), (27, .v (.bool (decide ((0 : Int) < (n : Int)))))] [] ?_
    refine zzc ?_
    refine zzt (b := decide ((0 : Int) < (n : Int))) (by kernel_rfl) (fun hb21 => ?_) (fun hb21 => ?_)
    ·replace hb21 : (decide ((0 : Int) < (n : Int))) = true := hb21
     have qhb21 := of_decide_eq_true hb21
     refine zzr (zzo ?_)
     refine zzc ?_
     refine zzs ?_
     refine sq9 ?_
     have hl22 := ((pol_take (hx.ext (e11.trans (e14.trans g16.ext))) (by omega)).ext e20).len
     change n = _ at hl22
     obtain ⟨r22, b22, o22, hA22, hc22, hr22⟩ := pol_at ((pol_take (hx.ext (e11.trans (e14.trans g16.ext))) (by omega)).ext e20) (i := 0) (by omega)
     refine zzz 28 (o22 + 0 * 3) (n := n) (off := o22) (sz := 3) (i := 0) (by omega) hA22 (by omega) (by omega) sl32 ?_
     refine zyl 29 r22.cs hc22 ty29 ?_
     refine zzj 6 ⟨29, [.bool false, .slice none 0 0, .slice none 0 0]⟩ ?_
     refine zzi ⟨29, r22.cs⟩ ty29 ?_
     refine zzb 37 [(4, .v (.slice none 0 0)), (6, .adr 6 0), (24, .v (.slice x.a n x.c)), (25, .v (.int .i64 (n : Int))), (26, .v (.int .i64 0))] [(6, ⟨29, r22.cs⟩)] ?_
     refine zze ?_
     refine zza 30 (.v (.slice none 0 0)) ?_
     refine zzh 31 (.v (r22.v)) ty29 zzd ?_
     refine zzf 32 120 [r22.v] ?_
     intro w23 u23 e23 d23
     have k28 := k_rqTrim d23 (hr22.ext e23) (by omega)
     with_reducible refine Post.mono k28 ?_
     rintro _ u26 g27 ⟨r24, rfl, h25⟩
     refine sy_data 33 ⟨29, r24.cs⟩ 1 (fun b29 u30 e31 h32 => ?_)
     have hp33 : PolN u30 (⟨some ⟨b29, 0, none⟩, 1, 1⟩ : Sl) [((l.take n).getD 0 0)] K := pol_lit (L := [r24]) h32 (rats1 (h25.ext e31)) rfl (by decide)
     refine sy_app0 34 (T := 32) (E := 29) (z := .agg #[.bool false, .slice none 0 0, .slice none 0 0]) (size := 3) (bytes := 56) (b := b29) (off := 0) (m := 1) r24.cs (by kernel_rfl) (by kernel_rfl) (by kernel_rfl) (by decide) rfl (lit_news ((Ext.refl _).cells h32)) (rl_one r24) (by decide) (by decide) (by decide) ?_
     intro c34 cs34 ha34 hb34 hc34 hd34
     refine zza 4 (.slc 34 0 1 c34) ?_
     refine zzw ?_
     refine zzo ?_
     refine zze ?_
     refine zza 35 (.v (.int .i64 1)) ?_
     refine zza 26 (.v (.int .i64 1)) ?_
     refine zzw ?_
     have ht35 : 0 < (Nt.trimQ l).length := by skip; omega
     refine ⟨_, ?_, St.of 37 [(4, .slc 34 0 1 c34), (24, .v (.slice x.a n x.c)), (25, .v (.int .i64 (n : Int))), (26, .v (.int .i64 1))] [(34, ⟨29, cs34⟩)], by exact zzu _ _ _, .inr ⟨1, [r24], cs34, c34, rfl, by omega, by omega, by simp, hc34, by omega, hb34, hd34, rfl, (e20.trans (e23.trans (g27.ext.trans e31))), (app_first (RatN.more (K := K) (h25.ext e31) (by omega)) ht35 (by rw [List.getD_eq_getElem?_getD, List.getElem?_take_of_lt (by omega), ← List.getD_eq_getElem?_getD]; exact (Nt.trim_co l 0).symm))⟩⟩
     omega
    ·replace hb21 : (decide ((0 : Int) < (n : Int))) = false := hb21
     have qhb21 := of_decide_eq_false hb21
     refine zyb ?_
     refine zzo ?_
     refine zzc ?_
     have hp36 : PolN u20 ⟨none, 0, 0⟩ (Nt.trimQ l) K := by have h9 : Nt.trimQ l = [] := List.eq_nil_of_length_eq_zero (by skip; omega); rw [h9]; exact pol_nil _ _
     refine zze ?_
     refine zza 36 (.v (.slice none 0 0)) ?_
     refine zza 2 (.v (.slice none 0 0)) ?_
     refine zzb 37 [(2, .v (.slice none 0 0))] [] ?_
     refine zzn (ret0 [.slice none 0 0] ⟨zzp, trivial⟩ fun u37 e38 => ?_)
     refine ⟨⟨none, 0, 0⟩, rfl, ?_⟩
     exact (hp36.ext e38)
   ·change SW _ _ _ _ (St.of 37 [(4, .slc 34 0 i cp), (24, .v (.slice x.a n x.c)), (25, .v (.int .i64 (n : Int))), (26, .v (.int .i64 (i : Int)))] [(34, ⟨29, cs⟩)]) _ _
    refine sq9 ?_
    refine zza 27 (.v (.bool (decide ((i : Int) < (n : Int))))) ?_
    refine zzb 37 [(4, .slc 34 0 i cp), (24, .v (.slice x.a n x.c)), (25, .v (.int .i64 (n : Int))), (26, .v (.int .i64 (i : Int))), (27, .v (.bool (decide ((i : Int) < (n : Int)))))] [(34, ⟨29, cs⟩)] ?_
    refine zzc ?_
    refine zzt (b := decide ((i : Int) < (n : Int))) (by kernel_rfl) (fun hb39 => ?_) (fun hb39 => ?_)
    ·replace hb39 : (decide ((i : Int) < (n : Int))) = true := hb39
     have qhb39 := of_decide_eq_true hb39
     refine zzr (zzo ?_)
     refine zzc ?_
     refine zzs ?_
     refine sq9 ?_
     have hl40 := ((pol_take (hx.ext (e11.trans (e14.trans g16.ext))) (by omega)).ext e20).len
     change n = _ at hl40
     obtain ⟨r40, b40, o40, hA40, hc40, hr40⟩ := pol_at ((pol_take (hx.ext (e11.trans (e14.trans g16.ext))) (by omega)).ext e20) (i := i) (by omega)
     refine zzz 28 (o40 + i * 3) (n := n) (off := o40) (sz := 3) (i := (i : Int)) (by omega) hA40 (by omega) (by omega) sl32 ?_
     refine zyl 29 r40.cs hc40 ty29 ?_
     refine zzj 6 ⟨29, [.bool false, .slice none 0 0, .slice none 0 0]⟩ ?_
     refine zzi ⟨29, r40.cs⟩ ty29 ?_
     refine zzb 37 [(4, .slc 34 0 i cp), (6, .adr 6 0), (24, .v (.slice x.a n x.c)), (25, .v (.int .i64 (n : Int))), (26, .v (.int .i64 (i : Int)))] [(6, ⟨29, r40.cs⟩), (34, ⟨29, cs⟩)] ?_
     refine zze ?_
     refine zza 30 (.slc 34 0 i cp) ?_
     refine zzh 31 (.v (r40.v)) ty29 zzd ?_
     refine zzf 32 120 [r40.v] ?_
     intro w41 u41 e41 d41
     have k46 := k_rqTrim d41 (hr40.ext e41) (by omega)
     with_reducible refine Post.mono k46 ?_
     rintro _ u44 g45 ⟨r42, rfl, h43⟩
     refine sy_data 33 ⟨29, r42.cs⟩ 1 (fun b47 u48 e49 h50 => ?_)
     have hp51 : PolN u48 (⟨some ⟨b47, 0, none⟩, 1, 1⟩ : Sl) [((l.take n).getD i 0)] K := pol_lit (L := [r42]) h50 (rats1 (h43.ext e49)) rfl (by decide)
     refine sy_app1 34 (T := 32) (E := 29) (z := .agg #[.bool false, .slice none 0 0, .slice none 0 0]) (size := 3) (bytes := 56) (b := b47) (off := 0) (m := 1) (n := i) (cap := cp) (t := 34) (cs0 := cs) [4, 30, 34] r42.cs (by kernel_rfl) (by kernel_rfl) (by kernel_rfl) (by decide) rfl (lit_news ((Ext.refl _).cells h50)) (rl_one r42) (by decide) (by unfold maxLen; omega) (by omega) (by omega) (by omega) (by omega) (by repeat first | exact noAt_of | refine zyc ?_ | refine zye ?_ | refine zyd ?_ | refine zzx ?_ | refine zya ?_) ?_
     intro c52 cs52 ha52 hb52 hc52 hd52
     have hd52r : cs52.take ((i + 1) * 3) = rcs (L ++ [r42]) := by rw [hd52, ht, rcs_app]; rfl
     refine zza 4 (.slc 34 0 (i + 1) c52) ?_
     refine zzw ?_
     refine zzo ?_
     refine zze ?_
     refine zyp 35 (x := .v (.int .i64 (IntKind.i64.wrap ((i : Int) + 1)))) (.v (.int .i64 ((i + 1 : Nat) : Int))) (eqI (by rw [IntWalk.i64_in _ (by omega)]; omega)) ?_
     refine zza 26 (.v (.int .i64 ((i + 1 : Nat) : Int))) ?_
     refine zzw ?_
     have ht53 : i < (Nt.trimQ l).length := by skip; omega
     refine ⟨_, ?_, St.of 37 [(4, .slc 34 0 (i + 1) c52), (24, .v (.slice x.a n x.c)), (25, .v (.int .i64 (n : Int))), (26, .v (.int .i64 ((i + 1 : Nat) : Int)))] [(34, ⟨29, cs52⟩)], by exact zzu _ _ _, .inr ⟨i + 1, L ++ [r42], cs52, c52, rfl, by omega, by omega, by simp; omega, hc52, by omega, hb52, hd52r, rfl, (e20.trans (e41.trans (g45.ext.trans e49))), (app_next (hR.ext (e41.trans (g45.ext.trans e49))) (RatN.more (K := K) (h43.ext e49) (by omega)) ht53 (by rw [List.getD_eq_getElem?_getD, List.getElem?_take_of_lt (by omega), ← List.getD_eq_getElem?_getD]; exact (Nt.trim_co l i).symm))⟩⟩
     omega
    ·replace hb39 : (decide ((i : Int) < (n : Int))) = false := hb39
     have qhb39 := of_decide_eq_false hb39
     refine zyb ?_
     refine zzo ?_
     refine zzc ?_
     refine zyo (r := 4) (t := 34) [4, 34] (by repeat first | exact noAt_of | refine zyc ?_ | refine zye ?_ | refine zyd ?_ | refine zzx ?_ | refine zya ?_) (by kernel_rfl) (by rfl) (by rfl) (by kernel_rfl) (fun b55 u56 e57 hb58 hh59 => ?_)
     have hp54 : PolN u56 ⟨some ⟨b55, 0, none⟩, i, cp⟩ (Nt.trimQ l) K := by have h8 := pol_data hh59 ht hc hle hmx (hR.ext e57); rw [List.take_of_length_le (l := Nt.trimQ l) (by skip; omega)] at h8; exact h8
     refine zze ?_
     refine zza 36 (.v (.slice (some ⟨b55, 0, none⟩) i cp)) ?_
     refine zza 2 (.v (.slice (some ⟨b55, 0, none⟩) i cp)) ?_
     refine zzb 37 [(2, .v (.slice (some ⟨b55, 0, none⟩) i cp))] [] ?_
     refine zzn (ret0 [.slice (some ⟨b55, 0, none⟩) i cp] ⟨zzp, trivial⟩ fun u60 e61 => ?_)
     refine ⟨(⟨some ⟨b55, 0, none⟩, i, cp⟩ : Sl), rfl, ?_⟩
     exact (hp54.ext e61)
 ·refine zyp 11 (x := .v (.bool (decide ((0 : Int) < (n : Int))))) (.v (.bool false)) (by rw [hs12]) ?_
  have qhs12 := of_decide_eq_false hs12
  refine zzm 12 (uw 2 true false 11) ?_
  refine zzm 13 (uw 2 true false 11) ?_
  refine zzm 14 (uw 2 true false 11) ?_
  refine zzm 15 (uw 2 true false 11) ?_
  refine zzm 16 (uw 2 true false 11) ?_
  refine zzm 17 (uw 2 true false 11) ?_
  refine zzm 18 (uw 2 true false 11) ?_
  refine zza 19 (.v (.bool false)) ?_
  refine zzb 37 [(0, .v x.v), (3, .v (.int .i64 (n : Int))), (19, .v (.bool false))] [] ?_
  refine zyr (by kernel_rfl) ?_
  refine zyb ?_
  refine zzo ?_
  refine zzc ?_
  have he9 := Nt.trim_len_of (l := l) hn hz (fun h => absurd h (by omega))
  clear hz
  refine zze ?_
  refine zza 4 (.v (.slice none 0 0)) ?_
  refine zzb 37 [(0, .v x.v), (3, .v (.int .i64 (n : Int))), (4, .v (.slice none 0 0))] [] ?_
  refine zzc ?_
  refine sq9 ?_
  refine zza 22 (.v x.v) ?_
  refine zza 23 (.v (.int .i64 (n : Int))) ?_
  have hl62 := (hx.ext e11).len
  have hc62 := (hx.ext e11).cap
  refine sy_front 24 (n := x.n) (c := x.c) n sl32 rfl (by omega) ?_
  refine zza 25 (.v (.int .i64 (n : Int))) ?_
  refine zza 26 (.v (.int .i64 0)) ?_
  refine zzb 37 [(4, .v (.slice none 0 0)), (24, .v (.slice x.a n x.c)), (25, .v (.int .i64 (n : Int))), (26, .v (.int .i64 0))] [] ?_
  refine zzs ?_
  refine zym (I := fun m63 S' u' => (m63 = n ∧ S' = St.of 37 [(4, .v (.slice none 0 0)), (24, .v (.slice x.a n x.c)), (25, .v (.int .i64 (n : Int))), (26, .v (.int .i64 0))] [] ∧ Ext u11 u') ∨ (∃ (i : Nat) (L : List RL) (cs : List Value) (cp : Nat), m63 = n - i ∧ i ≤ n ∧ 0 < i ∧ L.length = i ∧ cs.length = cp * 3 ∧ i ≤ cp ∧ cp ≤ maxLen ∧ cs.take (i * 3) = rcs L ∧ S' = St.of 37 [(4, .slc 34 0 i cp), (24, .v (.slice x.a n x.c)), (25, .v (.int .i64 (n : Int))), (26, .v (.int .i64 (i : Int)))] [(34, ⟨29, cs⟩)] ∧ Ext u11 u' ∧ RatsN u' L ((Nt.trimQ l).take i) K)) (fun m S u1 u2 e h => by rcases h with ⟨a, b, c⟩ | ⟨a1, a2, a3, a4, b1, b2, b3, b4, b5, b6, b7, b8, b9, b10, b11⟩; exact .inl ⟨a, b, c.trans e⟩; exact .inr ⟨a1, a2, a3, a4, b1, b2, b3, b4, b5, b6, b7, b8, b9, b10.trans e, b11.ext e⟩) _ (T := St.of 37 [(4, .v (.slice none 0 0)), (24, .v (.slice x.a n x.c)), (25, .v (.int .i64 (n : Int))), (26, .v (.int .i64 0))] []) (by exact zzu _ _ _) (.inl ⟨rfl, rfl, Ext.refl _⟩) ?_
  rintro m63 _ u63 (⟨hm63, rfl, e63⟩ | ⟨i, L, cs, cp, hm63, hi, hp, hL, hc, hle, hmx, ht, rfl, e63, hR⟩)
  ·change SW _ _ _ _ (St.of 37 [(4, .v (.slice none 0 0)), (24, .v (.slice x.a n x.c)), (25, .v (.int .i64 (n : Int))), (26, .v (.int .i64 0))] []) _ _
   refine sq9 ?_
   refine zza 27 (.v (.bool (decide ((0 : Int) < (n : Int))))) ?_
   refine zzb 37 [(4, .v (.slice none 0 0)), (24, .v (.slice x.a n x.c)), (25, .v (.int .i64 (n : Int))), (26, .v (.int .i64 0)), (27, .v (.bool (decide ((0 : Int) < (n : Int)))))] [] ?_
   refine zzc ?_
   refine zzt (b := decide ((0 : Int) < (n : Int))) (by kernel_rfl) (fun hb64 => ?_) (fun hb64 => ?_)
   ·replace hb64 : (decide ((0 : Int) < (n : Int))) = true := hb64
    have qhb64 := of_decide_eq_true hb64
    refine zzr (zzo ?_)
    refine zzc ?_
    refine zzs ?_
    refine sq9 ?_
    have hl65 := ((pol_take (hx.ext e11) (by omega)).ext e63).len
    change n = _ at hl65
    obtain ⟨r65, b65, o65, hA65, hc65, hr65⟩ := pol_at ((pol_take (hx.ext e11) (by omega)).ext e63) (i := 0) (by omega)
    refine zzz 28 (o65 + 0 * 3) (n := n) (off := o65) (sz := 3) (i := 0) (by omega) hA65 (by omega) (by omega) sl32 ?_
    refine zyl 29 r65.cs hc65 ty29 ?_
    refine zzj 6 ⟨29, [.bool false, .slice none 0 0, .slice none 0 0]⟩ ?_
    refine zzi ⟨29, r65.cs⟩ ty29 ?_
    refine zzb 37 [(4, .v (.slice none 0 0)), (6, .adr 6 0), (24, .v (.slice x.a n x.c)), (25, .v (.int .i64 (n : Int))), (26, .v (.int .i64 0))] [(6, ⟨29, r65.cs⟩)] ?_
    refine zze ?_
    refine zza 30 (.v (.slice none 0 0)) ?_
    refine zzh 31 (.v (r65.v)) ty29 zzd ?_
    refine zzf 32 120 [r65.v] ?_
    intro w66 u66 e66 d66
    have k71 := k_rqTrim d66 (hr65.ext e66) (by omega)
    with_reducible refine Post.mono k71 ?_
    rintro _ u69 g70 ⟨r67, rfl, h68⟩
    refine sy_data 33 ⟨29, r67.cs⟩ 1 (fun b72 u73 e74 h75 => ?_)
    have hp76 : PolN u73 (⟨some ⟨b72, 0, none⟩, 1, 1⟩ : Sl) [((l.take n).getD 0 0)] K := pol_lit (L := [r67]) h75 (rats1 (h68.ext e74)) rfl (by decide)
    refine sy_app0 34 (T := 32) (E := 29) (z := .agg #[.bool false, .slice none 0 0, .slice none 0 0]) (size := 3) (bytes := 56) (b := b72) (off := 0) (m := 1) r67.cs (by kernel_rfl) (by kernel_rfl) (by kernel_rfl) (by decide) rfl (lit_news ((Ext.refl _).cells h75)) (rl_one r67) (by decide) (by decide) (by decide) ?_
    intro c77 cs77 ha77 hb77 hc77 hd77
    refine zza 4 (.slc 34 0 1 c77) ?_
    refine zzw ?_
    refine zzo ?_
    refine zze ?_
    refine zza 35 (.v (.int .i64 1)) ?_
    refine zza 26 (.v (.int .i64 1)) ?_
    refine zzw ?_
    have ht78 : 0 < (Nt.trimQ l).length := by skip; omega
    refine ⟨_, ?_, St.of 37 [(4, .slc 34 0 1 c77), (24, .v (.slice x.a n x.c)), (25, .v (.int .i64 (n : Int))), (26, .v (.int .i64 1))] [(34, ⟨29, cs77⟩)], by exact zzu _ _ _, .inr ⟨1, [r67], cs77, c77, rfl, by omega, by omega, by simp, hc77, by omega, hb77, hd77, rfl, (e63.trans (e66.trans (g70.ext.trans e74))), (app_first (RatN.more (K := K) (h68.ext e74) (by omega)) ht78 (by rw [List.getD_eq_getElem?_getD, List.getElem?_take_of_lt (by omega), ← List.getD_eq_getElem?_getD]; exact (Nt.trim_co l 0).symm))⟩⟩
    omega
   ·replace hb64 : (decide ((0 : Int) < (n : Int))) = false := hb64
    have qhb64 := of_decide_eq_false hb64
    refine zyb ?_
    refine zzo ?_
    refine zzc ?_
    have hp79 : PolN u63 ⟨none, 0, 0⟩ (Nt.trimQ l) K := by have h9 : Nt.trimQ l = [] := List.eq_nil_of_length_eq_zero (by skip; omega); rw [h9]; exact pol_nil _ _
    refine zze ?_
    refine zza 36 (.v (.slice none 0 0)) ?_
    refine zza 2 (.v (.slice none 0 0)) ?_
    refine zzb 37 [(2, .v (.slice none 0 0))] [] ?_
    refine zzn (ret0 [.slice none 0 0] ⟨zzp, trivial⟩ fun u80 e81 => ?_)
    refine ⟨⟨none, 0, 0⟩, rfl, ?_⟩
    exact (hp79.ext e81)
  ·change SW _ _ _ _ (St.of 37 [(4, .slc 34 0 i cp), (24, .v (.slice x.a n x.c)), (25, .v (.int .i64 (n : Int))), (26, .v (.int .i64 (i : Int)))] [(34, ⟨29, cs⟩)]) _ _
   refine sq9 ?_
   refine zza 27 (.v (.bool (decide ((i : Int) < (n : Int))))) ?_
   refine zzb 37 [(4, .slc 34 0 i cp), (24, .v (.slice x.a n x.c)), (25, .v (.int .i64 (n : Int))), (26, .v (.int .i64 (i : Int))), (27, .v (.bool (decide ((i : Int) < (n : Int)))))] [(34, ⟨29, cs⟩)] ?_
   refine zzc ?_
   refine zzt (b := decide ((i : Int) < (n : Int))) (by kernel_rfl) (fun hb82 => ?_) (fun hb82 => ?_)
   ·replace hb82 : (decide ((i : Int) < (n : Int))) = true := hb82
    have qhb82 := of_decide_eq_true hb82
    refine zzr (zzo ?_)
    refine zzc ?_
    refine zzs ?_
    refine sq9 ?_
    have hl83 := ((pol_take (hx.ext e11) (by omega)).ext e63).len
    change n = _ at hl83
    obtain ⟨r83, b83, o83, hA83, hc83, hr83⟩ := pol_at ((pol_take (hx.ext e11) (by omega)).ext e63) (i := i) (by omega)
    refine zzz 28 (o83 + i * 3) (n := n) (off := o83) (sz := 3) (i := (i : Int)) (by omega) hA83 (by omega) (by omega) sl32 ?_
    refine zyl 29 r83.cs hc83 ty29 ?_
    refine zzj 6 ⟨29, [.bool false, .slice none 0 0, .slice none 0 0]⟩ ?_
    refine zzi ⟨29, r83.cs⟩ ty29 ?_
    refine zzb 37 [(4, .slc 34 0 i cp), (6, .adr 6 0), (24, .v (.slice x.a n x.c)), (25, .v (.int .i64 (n : Int))), (26, .v (.int .i64 (i : Int)))] [(6, ⟨29, r83.cs⟩), (34, ⟨29, cs⟩)] ?_
    refine zze ?_
    refine zza 30 (.slc 34 0 i cp) ?_
    refine zzh 31 (.v (r83.v)) ty29 zzd ?_
    refine zzf 32 120 [r83.v] ?_
    intro w84 u84 e84 d84
    have k89 := k_rqTrim d84 (hr83.ext e84) (by omega)
    with_reducible refine Post.mono k89 ?_
    rintro _ u87 g88 ⟨r85, rfl, h86⟩
    refine sy_data 33 ⟨29, r85.cs⟩ 1 (fun b90 u91 e92 h93 => ?_)
    have hp94 : PolN u91 (⟨some ⟨b90, 0, none⟩, 1, 1⟩ : Sl) [((l.take n).getD i 0)] K := pol_lit (L := [r85]) h93 (rats1 (h86.ext e92)) rfl (by decide)
    refine sy_app1 34 (T := 32) (E := 29) (z := .agg #[.bool false, .slice none 0 0, .slice none 0 0]) (size := 3) (bytes := 56) (b := b90) (off := 0) (m := 1) (n := i) (cap := cp) (t := 34) (cs0 := cs) [4, 30, 34] r85.cs (by kernel_rfl) (by kernel_rfl) (by kernel_rfl) (by decide) rfl (lit_news ((Ext.refl _).cells h93)) (rl_one r85) (by decide) (by unfold maxLen; omega) (by omega) (by omega) (by omega) (by omega) (by repeat first | exact noAt_of | refine zyc ?_ | refine zye ?_ | refine zyd ?_ | refine zzx ?_ | refine zya ?_) ?_
    intro c95 cs95 ha95 hb95 hc95 hd95
    have hd95r : cs95.take ((i + 1) * 3) = rcs (L ++ [r85]) := by rw [hd95, ht, rcs_app]; rfl
    refine zza 4 (.slc 34 0 (i + 1) c95) ?_
    refine zzw ?_
    refine zzo ?_
    refine zze ?_
    refine zyp 35 (x := .v (.int .i64 (IntKind.i64.wrap ((i : Int) + 1)))) (.v (.int .i64 ((i + 1 : Nat) : Int))) (eqI (by rw [IntWalk.i64_in _ (by omega)]; omega)) ?_
    refine zza 26 (.v (.int .i64 ((i + 1 : Nat) : Int))) ?_
    refine zzw ?_
    have ht96 : i < (Nt.trimQ l).length := by skip; omega
    refine ⟨_, ?_, St.of 37 [(4, .slc 34 0 (i + 1) c95), (24, .v (.slice x.a n x.c)), (25, .v (.int .i64 (n : Int))), (26, .v (.int .i64 ((i + 1 : Nat) : Int)))] [(34, ⟨29, cs95⟩)], by exact zzu _ _ _, .inr ⟨i + 1, L ++ [r85], cs95, c95, rfl, by omega, by omega, by simp; omega, hc95, by omega, hb95, hd95r, rfl, (e63.trans (e84.trans (g88.ext.trans e92))), (app_next (hR.ext (e84.trans (g88.ext.trans e92))) (RatN.more (K := K) (h86.ext e92) (by omega)) ht96 (by rw [List.getD_eq_getElem?_getD, List.getElem?_take_of_lt (by omega), ← List.getD_eq_getElem?_getD]; exact (Nt.trim_co l i).symm))⟩⟩
    omega
   ·replace hb82 : (decide ((i : Int) < (n : Int))) = false := hb82
    have qhb82 := of_decide_eq_false hb82
    refine zyb ?_
    refine zzo ?_
    refine zzc ?_
    refine zyo (r := 4) (t := 34) [4, 34] (by repeat first | exact noAt_of | refine zyc ?_ | refine zye ?_ | refine zyd ?_ | refine zzx ?_ | refine zya ?_) (by kernel_rfl) (by rfl) (by rfl) (by kernel_rfl) (fun b98 u99 e100 hb101 hh102 => ?_)
    have hp97 : PolN u99 ⟨some ⟨b98, 0, none⟩, i, cp⟩ (Nt.trimQ l) K := by have h8 := pol_data hh102 ht hc hle hmx (hR.ext e100); rw [List.take_of_length_le (l := Nt.trimQ l) (by skip; omega)] at h8; exact h8
    refine zze ?_
    refine zza 36 (.v (.slice (some ⟨b98, 0, none⟩) i cp)) ?_
    refine zza 2 (.v (.slice (some ⟨b98, 0, none⟩) i cp)) ?_
    refine zzb 37 [(2, .v (.slice (some ⟨b98, 0, none⟩) i cp))] [] ?_
    refine zzn (ret0 [.slice (some ⟨b98, 0, none⟩) i cp] ⟨zzp, trivial⟩ fun u103 e104 => ?_)
    refine ⟨(⟨some ⟨b98, 0, none⟩, i, cp⟩ : Sl), rfl, ?_⟩
    exact (hp97.ext e104)
theorem k_poDegree {u w : World} {x : Sl} {l : List Rat} {K : Nat} (d : Dat u w) (hx : PolV u x l K) (hK : K ≤ 100000000) (hx9 : l.length ≤ 1000000000) : Calls Tryz.prog 46 #[x.v] w (Post u w fun v u' => v = .int .i64 (((Nt.trimQ l).length : Int) - 1)) := by
 have hlen := hx.len
 have htl := Nt.zzg l
 refine zzl (args := [.slice x.a x.n x.c]) Tryz.func46 rfl Tryz.ntmps46 (rs := [.tmp 2]) Tryz.results46 (le_b rfl) (le_b rfl) d ?_
 refine sq9 ?_
 refine zza 2 (.v (.int .i64 0)) ?_
 refine zzb 7 [(0, .v x.v)] [] ?_
 refine sq9 ?_
 refine zza 3 (.v x.v) ?_
 refine zzf 4 113 [x.v] ?_
 intro w11 u11 e11 d11
 have k14 := k_cut d11 (hx.ext e11) (by omega) (by first|omega|(simp;omega) | (refine Nat.le_trans (Nt.zzg _) ?_; first|omega|(simp;omega)) | (refine Nat.le_trans (Nt.zzg _) ?_; simp only [List.length_map]; refine Nat.le_trans (Nt.zzg _) ?_; first|omega|(simp;omega)))
 with_reducible refine Post.mono k14 ?_
 rintro _ u12 g13 rfl
 refine zza 5 (.v (.int .i64 (((Nt.trimQ l).length : Nat) : Int))) ?_
 refine zyp 6 (x := .v (.int .i64 (IntKind.i64.wrap (((Nt.trimQ l).length : Int) - 1)))) (.v (.int .i64 (((Nt.trimQ l).length : Int) - 1))) (by rw [IntWalk.i64_in _ (by omega)]) ?_
 refine zza 2 (.v (.int .i64 (((Nt.trimQ l).length : Int) - 1))) ?_
 refine zzb 7 [(2, .v (.int .i64 (((Nt.trimQ l).length : Int) - 1)))] [] ?_
 refine zzn (ret0 [.int .i64 (((Nt.trimQ l).length : Int) - 1)] ⟨zzp, trivial⟩ fun u15 e16 => ?_)
 rfl
set_option maxHeartbeats 1000000 in
theorem k_sameList {u w : World} {x : Sl} {l : List Rat} {y : Sl} {m : List Rat} {K M : Nat} (d : Dat u w) (hx : PolN u x l K) (hy : PolN u y m M) (hx9 : l.length ≤ 1000000000) (hy9 : m.length ≤ 1000000000) : Calls Tryz.prog 128 #[x.v, y.v] w (Post u w fun v u' => v = .bool (decide (l = m))) := by
 have hlen := hx.len
 have hlen2 := hy.len
 refine zzl (args := [.slice x.a x.n x.c, .slice y.a y.n y.c]) Tryz.func128 rfl Tryz.ntmps128 (rs := [.tmp 4]) Tryz.results128 (le_b rfl) (le_b rfl) d ?_
 refine sq9 ?_
 refine zza 4 (.v (.bool false)) ?_
 refine zzb 27 [(0, .v x.v), (1, .v y.v)] [] ?_
 refine zzc ?_
 refine sq9 ?_
 refine zza 6 (.v x.v) ?_
 refine zza 7 (.v (.int .i64 (x.n : Int))) ?_
 refine zza 8 (.v y.v) ?_
 refine zza 9 (.v (.int .i64 (y.n : Int))) ?_
 refine zza 10 (.v (.bool ((x.n : Int) != (y.n : Int)))) ?_
 refine zzb 27 [(0, .v x.v), (1, .v y.v), (10, .v (.bool ((x.n : Int) != (y.n : Int))))] [] ?_
 refine zzt (b := (x.n : Int) != (y.n : Int)) (by kernel_rfl) (fun hb11 => ?_) (fun hb11 => ?_)
 ·replace hb11 : ((x.n : Int) != (y.n : Int)) = true := hb11
  refine sq9 ?_
  refine zza 4 (.v (.bool false)) ?_
  refine zzb 27 [(4, .v (.bool false))] [] ?_
  refine zzn (zzv (ret0 [.bool false] ⟨zzp, trivial⟩ fun u12 e13 => ?_))
  have e9 : l ≠ m := by intro e; have h9 := congrArg List.length e; have h8 := hb11; simp at h8; omega
  show Value.bool false = Value.bool _
  rw [decide_eq_false e9]
 ·replace hb11 : ((x.n : Int) != (y.n : Int)) = false := hb11
  have hnn : x.n = y.n := by have h9 : (x.n : Int) = (y.n : Int) := (by simpa using hb11); omega
  refine zzr (zzo ?_)
  refine zzc ?_
  refine sq9 ?_
  refine zza 5 (.v (.int .i64 0)) ?_
  refine zzb 27 [(0, .v x.v), (1, .v y.v), (5, .v (.int .i64 0))] [] ?_
  refine zzs ?_
  refine zym (I := fun m14 S' u' => ∃ (i : Nat), (m14 = x.n - i) ∧ (i ≤ x.n) ∧ (∀ j, j < i → l.getD j 0 = m.getD j 0) ∧ (S' = St.of 27 [(0, .v (.slice x.a x.n x.c)), (1, .v (.slice y.a y.n y.c)), (5, .v (.int .i64 (i : Int)))] []) ∧ (Ext u u')) (fun m S u1 u2 e h => by obtain ⟨i, hm, p0, p1, hS, hE⟩ := h; exact ⟨i, hm, p0, p1, hS, hE.trans e⟩) _ (T := St.of 27 [(0, .v (.slice x.a x.n x.c)), (1, .v (.slice y.a y.n y.c)), (5, .v (.int .i64 0))] []) (by exact zzu _ _ _) ⟨0, rfl, by omega, fun j hj => by omega, rfl, Ext.refl _⟩ ?_
  rintro m14 _ u14 ⟨i, hm14, hi, hz, rfl, e14⟩
  refine zzc ?_
  refine sq9 ?_
  refine zza 11 (.v (.int .i64 (i : Int))) ?_
  refine zza 12 (.v x.v) ?_
  refine zza 13 (.v (.int .i64 (x.n : Int))) ?_
  refine zza 14 (.v (.bool (decide ((i : Int) < (x.n : Int))))) ?_
  refine zzb 27 [(0, .v x.v), (1, .v y.v), (5, .v (.int .i64 (i : Int))), (14, .v (.bool (decide ((i : Int) < (x.n : Int)))))] [] ?_
  refine zzt (b := decide ((i : Int) < (x.n : Int))) (by kernel_rfl) (fun hb15 => ?_) (fun hb15 => ?_)
  ·replace hb15 : (decide ((i : Int) < (x.n : Int))) = true := hb15
   have qhb15 := of_decide_eq_true hb15
   refine zzr (zzo ?_)
   refine zzc ?_
   refine zzs ?_
   refine zzc ?_
   refine zzy [0, 0, 3, 7, 0, 0, 48, 112, 255, 511] [(0, []), (1, []), (2, []), (3, []), (4, []), (5, []), (6, []), (7, []), (8, []), (9, [])] (by kernel_rfl) (by kernel_rfl) ?_
   refine zza 17 (.v x.v) ?_
   refine zza 18 (.v (.int .i64 (i : Int))) ?_
   have hl16 := (hx.ext e14).len
   obtain ⟨r16, b16, o16, hA16, hc16, hr16⟩ := pol_atN (hx.ext e14) (i := i) (by omega)
   refine zzz 19 (o16 + i * 3) (n := x.n) (off := o16) (sz := 3) (i := (i : Int)) (by omega) hA16 (by omega) (by omega) sl24 ?_
   refine zyl 20 r16.cs hc16 ty29 ?_
   refine zza 21 (.v y.v) ?_
   refine zza 22 (.v (.int .i64 (i : Int))) ?_
   have hl17 := (hy.ext e14).len
   obtain ⟨r17, b17, o17, hA17, hc17, hr17⟩ := pol_atN (hy.ext e14) (i := i) (by omega)
   refine zzz 23 (o17 + i * 3) (n := y.n) (off := o17) (sz := 3) (i := (i : Int)) (by omega) hA17 (by omega) (by omega) sl24 ?_
   refine zyl 24 r17.cs hc17 ty29 ?_
   refine zzf 25 171 [r16.v, r17.v] ?_
   intro w18 u18 e18 d18
   have k21 := k_rqSame d18 (hr16.ext e18) (hr17.ext e18)
   with_reducible refine Post.mono k21 ?_
   rintro _ u19 g20 rfl
   refine zza 26 (.v (.bool (!(decide ((l.getD i 0) = (m.getD i 0)))))) ?_
   refine zzb 27 [(0, .v x.v), (1, .v y.v), (5, .v (.int .i64 (i : Int))), (26, .v (.bool (!(decide ((l.getD i 0) = (m.getD i 0))))))] [] ?_
   refine zzt (b := !(decide ((l.getD i 0) = (m.getD i 0)))) (by kernel_rfl) (fun hb22 => ?_) (fun hb22 => ?_)
   ·replace hb22 : (!(decide ((l.getD i 0) = (m.getD i 0)))) = true := hb22
    refine sq9 ?_
    refine zza 4 (.v (.bool false)) ?_
    refine zzb 27 [(4, .v (.bool false))] [] ?_
    refine zzn (zyt (zzv (zys (zyt (zzv (ret0 [.bool false] ⟨zzp, trivial⟩ fun u23 e24 => ?_))))))
    have e9 : l ≠ m := by intro e; have h9 := hb22; rw [e] at h9; simp at h9
    show Value.bool false = Value.bool _
    rw [decide_eq_false e9]
   ·replace hb22 : (!(decide ((l.getD i 0) = (m.getD i 0)))) = false := hb22
    refine zzr (zzo ?_)
    refine zze ?_
    refine zza 15 (.v (.int .i64 (i : Int))) ?_
    refine zyp 16 (x := .v (.int .i64 (IntKind.i64.wrap ((i : Int) + 1)))) (.v (.int .i64 ((i + 1 : Nat) : Int))) (eqI (by rw [IntWalk.i64_in _ (by omega)]; omega)) ?_
    refine zza 5 (.v (.int .i64 ((i + 1 : Nat) : Int))) ?_
    refine zzw ?_
    refine ⟨_, ?_, St.of 27 [(0, .v (.slice x.a x.n x.c)), (1, .v (.slice y.a y.n y.c)), (5, .v (.int .i64 ((i + 1 : Nat) : Int)))] [], by exact zzu _ _ _, i + 1, rfl, by omega, (fun j hj => by by_cases e : j = i; (rw [e]; have h9 := hb22; simpa using h9); exact hz j (by omega)), rfl, (e14.trans (e18.trans g20.ext))⟩
    omega
  ·replace hb15 : (decide ((i : Int) < (x.n : Int))) = false := hb15
   have qhb15 := of_decide_eq_false hb15
   refine zyb ?_
   refine zzo ?_
   refine sq9 ?_
   refine zza 4 (.v (.bool true)) ?_
   refine zzb 27 [(4, .v (.bool true))] [] ?_
   refine zzn (ret0 [.bool true] ⟨zzp, trivial⟩ fun u25 e26 => ?_)
   have e9 : l = m := Nt.list_ext (by omega) (fun j => by by_cases hj : j < i; exact hz j hj; rw [Nt.co_ge (by omega), Nt.co_ge (by omega)])
   show Value.bool true = Value.bool _
   rw [decide_eq_true e9]
theorem k_r5Equal {u w : World} {x : Sl} {l : List Rat} {y : Sl} {m : List Rat} {K M : Nat} (d : Dat u w) (hx : PolN u x l K) (hy : PolN u y m M) (hx9 : l.length ≤ 1000000000) (hy9 : m.length ≤ 1000000000) : Calls Tryz.prog 62 #[x.v, y.v] w (Post u w fun v u' => v = .bool (decide (l = m))) := by
 have hlen := hx.len
 have hlen2 := hy.len
 refine zzl (args := [.slice x.a x.n x.c, .slice y.a y.n y.c]) Tryz.func62 rfl Tryz.ntmps62 (rs := [.tmp 4]) Tryz.results62 (le_b rfl) (le_b rfl) d ?_
 refine sq9 ?_
 refine zza 4 (.v (.bool false)) ?_
 refine zzb 8 [(0, .v x.v), (1, .v y.v)] [] ?_
 refine sq9 ?_
 refine zza 5 (.v x.v) ?_
 refine zza 6 (.v y.v) ?_
 refine zzf 7 128 [x.v, y.v] ?_
 intro w11 u11 e11 d11
 have k14 := k_sameList d11 (hx.ext e11) (hy.ext e11) (by first|omega|(simp;omega) | (refine Nat.le_trans (Nt.zzg _) ?_; first|omega|(simp;omega)) | (refine Nat.le_trans (Nt.zzg _) ?_; simp only [List.length_map]; refine Nat.le_trans (Nt.zzg _) ?_; first|omega|(simp;omega))) (by first|omega|(simp;omega) | (refine Nat.le_trans (Nt.zzg _) ?_; first|omega|(simp;omega)) | (refine Nat.le_trans (Nt.zzg _) ?_; simp only [List.length_map]; refine Nat.le_trans (Nt.zzg _) ?_; first|omega|(simp;omega)))
 with_reducible refine Post.mono k14 ?_
 rintro _ u12 g13 rfl
 refine zza 4 (.v (.bool (decide (l = m)))) ?_
 refine zzb 8 [(4, .v (.bool (decide (l = m))))] [] ?_
 refine zzn (ret0 [.bool (decide (l = m))] ⟨zzp, trivial⟩ fun u15 e16 => ?_)
 rfl
namespace Nt
namespace Pol
theorem monic_zero : (0 : Pol).monic = 0 := by unfold monic; rw [mul_zero]
theorem IsGcd.mul {p q g : Pol} (h : IsGcd p q g) (r : Pol) : IsGcd (p * r) (q * r) (g * r).monic := by
 obtain ⟨u1, e1⟩ := h.l
 obtain ⟨u2, e2⟩ := h.r
 obtain ⟨s, t, e3⟩ := h.s
 by_cases h0 : g * r = 0
 ·rw [h0, monic_zero]
  exact ⟨.inl rfl, ⟨0, by rw [e1]; grind⟩, ⟨0, by rw [e2]; grind⟩, ⟨0, 0, by grind⟩⟩
 ·have h1 := lead_ne h0
  have h2 := C_inv h1
  refine ⟨.inr (monic_lead h0), ⟨C (g * r).lead * u1, ?_⟩, ⟨C (g * r).lead * u2, ?_⟩, ⟨C (1 / (g * r).lead) * s, C (1 / (g * r).lead) * t, ?_⟩⟩
  ·unfold monic; grind
  ·unfold monic; grind
  ·unfold monic; grind
theorem npow_zero (p : Pol) : npow p 0 = 1 := rfl
theorem npow_succ (p : Pol) (n : Nat) : npow p (n + 1) = npow p n * p := rfl
end Pol
section
variable {l m : List Rat} {D E A B n : Nat}
theorem Sm.npow (h : Sm l D A) (n : Nat) : Sm (Pol.npow (Pol.mk' l) n).l (D ^ n) (n * (A + l.length)) := by
 induction n with
 | zero =>
  rw [Pol.npow_zero, Nat.pow_zero, Nat.zero_mul]
  exact (show Sm (List.map (fun z : Int => (z : Rat)) [1]) 1 0 from Sm.ofInts (by decide)).trim
 | succ n ih =>
  rw [Pol.npow_succ, Nat.pow_succ, Nat.add_mul, Nat.one_mul]
  have h9 := (ih.mulR (h.trim : Sm (Pol.mk' l).l D A)).trim.more (B := n * (A + l.length) + (A + l.length)) (by have h8 := zzg l; change _ + A + (trimQ l).length ≤ _; omega)
  exact h9
theorem len_of_co {a : Nat} (h : ∀ i, a ≤ i → Nt.co l i = 0) : (trimQ l).length ≤ a := Pol.len_le (p := Pol.mk' l) fun i hi => by rw [Pol.mk_c]; exact h i hi
theorem mul_lenQ {a b : Nat} (h1 : l.length ≤ a) (h2 : m.length ≤ b) : (trimQ (mulQ l m)).length ≤ a + b - 1 := len_of_co fun i hi => mulQ_far (by omega)
theorem add_lenQ {a b : Nat} (h1 : l.length ≤ a) (h2 : m.length ≤ b) : (trimQ (addQ l m)).length ≤ max a b := Nat.le_trans (zzg _) (by rw [addQ_len]; omega)
theorem map_lenQ {a : Nat} {f : Rat → Rat} (h1 : l.length ≤ a) : (trimQ (l.map f)).length ≤ a := Nat.le_trans (zzg _) (by rw [List.length_map]; omega)
end
end Nt
namespace Nt
section
variable {p q : List Rat} {u v x y : Pol}
end
end Nt
end Go.Proofs.YtmonfdlnihaabaaGreat
namespace Go.Proofs.YtmonfdlnihaabaaGreat.Nt
open Go.RowKit
open Pol
set_option linter.unusedVariables false
section
variable {P q ps qs l m p : List Rat} {A B D E F a b K : Nat} {c x y : Rat}
def nxQ (q ps : List Rat) : List Rat := subN (ps.length - q.length) (ps.getD (ps.length - 1) 0 / q.getD (q.length - 1) 0) q (ps.take (ps.length - 1)) (q.length - 1)
theorem nx_co (hn : q.length ≤ ps.length) (hm : 0 < q.length) (hq : co q (q.length - 1) ≠ 0) (i : Nat) :
  co (nxQ q ps) i = co ps i - (if ps.length - q.length ≤ i then co ps (ps.length - 1) / co q (q.length - 1) * co q (i - (ps.length - q.length)) else 0) := by
 unfold nxQ
 rw [subN_co (by rw [List.length_take]; omega)]
 change _ - (if _ then co ps (ps.length - 1) / co q (q.length - 1) * _ else 0) = _
 obtain ⟨c, hc⟩ : ∃ c, co ps (ps.length - 1) / co q (q.length - 1) = c := ⟨_, rfl⟩
 rw [hc]
 by_cases h1 : i < ps.length - 1
 ·rw [co_take h1]
  change co ps i - _ = _
  by_cases h2 : ps.length - q.length ≤ i
  ·rw [if_pos h2, if_pos (by omega)]
  ·rw [if_neg h2, if_neg (by omega)]
 ·rw [co_ge (l := ps.take _) (by rw [List.length_take]; omega), if_neg (by omega), if_pos (by omega)]
  by_cases h2 : i = ps.length - 1
  ·rw [h2, show ps.length - 1 - (ps.length - q.length) = q.length - 1 by omega, ← hc]; grind
  ·rw [co_ge (by omega), co_ge (l := q) (by omega)]; grind
theorem nx_len (hn : q.length ≤ ps.length) (hm : 0 < q.length) : (trimQ (nxQ q ps)).length < ps.length := by
 have h9 := zzg (nxQ q ps)
 unfold nxQ at h9 ⊢
 rw [subN_len, List.length_take] at h9
 omega
structure RefI (P q qs ps : List Rat) : Prop where
 ql : qs.length = P.length + 1 - q.length
 pl : ps.length ≤ P.length
 qz : ∀ j, j + q.length ≤ ps.length → co qs j = 0
 eq : ∀ i, co P i = co (mulQ qs q) i + co ps i
theorem RefI.begin (P q : List Rat) : RefI P q (List.replicate (P.length + 1 - q.length) 0) P := by
 have h0 : ∀ j, co (List.replicate (P.length + 1 - q.length) 0) j = 0 := fun j => by
  unfold co; rw [List.getD_eq_getElem?_getD, List.getElem?_replicate]; split <;> rfl
 exact ⟨by simp, Nat.le_refl _, fun j _ => h0 j, fun i => by rw [mulQ_zero h0]; grind⟩
theorem RefI.step (h : RefI P q qs ps) (hn : q.length ≤ ps.length) (hm : 0 < q.length) (hq : co q (q.length - 1) ≠ 0) :
  RefI P q (qs.set (ps.length - q.length) (ps.getD (ps.length - 1) 0 / q.getD (q.length - 1) 0)) (trimQ (nxQ q ps)) := by
 have hl := nx_len hn hm
 have hp := h.pl
 have hk : ps.length - q.length < qs.length := by rw [h.ql]; omega
 refine ⟨by rw [List.length_set]; exact h.ql, by omega, fun j hj => ?_, fun i => ?_⟩
 ·rw [co_set hk, if_neg (by omega)]
  exact h.qz j (by omega)
 ·rw [mulQ_set hk (h.qz _ (by omega)), trim_co, nx_co hn hm hq, h.eq i]
  change _ = _ + (if _ then co ps (ps.length - 1) / co q (q.length - 1) * _ else 0) + _
  split <;> grind
theorem RefI.done (h : RefI P q qs ps) : Pol.mk' P = Pol.mk' qs * Pol.mk' q + Pol.mk' ps := by
 refine Pol.ext fun i => ?_
 rw [c_add, ← mk_mul, mk_c, mk_c, mk_c]
 exact h.eq i
theorem div_go (hB : WhL q b) (hq : 0 < q.length) (hl : co q (q.length - 1) ≠ 0) : ∀ (n k : Nat) (s t : List Rat) (f : Rat), k + n = p.length → (k = 0 ∨ q.length ≤ n + 1) → DivI p q n s t f → WhL t (a + k * (b + 1)) →
  ∃ s t f, DivR p q s t f ∧ WhL t (a + (p.length - q.length + 1) * (b + 1)) := by
 intro n
 have stop : ∀ (n k : Nat) (s t : List Rat) (f : Rat), k + n = p.length → (k = 0 ∨ q.length ≤ n + 1) → n < q.length → DivI p q n s t f → WhL t (a + k * (b + 1)) → ∃ s t f, DivR p q s t f ∧ WhL t (a + (p.length - q.length + 1) * (b + 1)) := by
  intro n k s t f hk hs h hD hW
  refine ⟨s, _, f, hD.done h, (hW.take _).more (Nat.add_le_add_left (Nat.mul_le_mul_right _ ?_) _)⟩
  omega
 induction n with
 | zero =>
  intro k s t f hk hs hD hW
  exact stop 0 k s t f hk hs hq hD hW
 | succ n ih =>
  intro k s t f hk hs hD hW
  by_cases h : n + 1 < q.length
  ·exact stop (n + 1) k s t f hk hs h hD hW
  ·have h1 := hD.step (by omega) (by omega) hq hl (x := co t n) (d := co q (q.length - 1)) hl rfl
   refine ih (k + 1) _ _ _ (by omega) (.inr (by omega)) h1 ?_
   have hd : Wh (co q (q.length - 1)) b := hB _
   refine WhL.more (WhL.subN (hW.map hd) (fun i => (hW n).mul (hB i)) (by rw [List.length_map, hD.tl]; omega)) ?_
   rw [Nat.add_mul]; omega
theorem div_exists (hA : WhL p a) (hB : WhL q b) (hq : Nrm q) (hq0 : 0 < q.length) : ∃ s t f, DivR p q s t f ∧ WhL t (a + (p.length - q.length + 1) * (b + 1)) :=
 div_go hB hq0 (nrm_last hq (by rintro rfl; simp at hq0)) p.length 0 _ _ _ (by omega) (.inl rfl) (DivI.begin p q) (by rw [Nat.zero_mul]; exact hA)
theorem monic_Cmul {k : Rat} (hk : k ≠ 0) (r : Pol) : (C k * r).monic = r.monic := by
 by_cases h0 : r = 0
 ·rw [h0, mul_zero]
 ·have h1 := lead_ne h0
  have h2 : (C k * r).lead = k * r.lead := by rw [lead_mul (C_ne hk) h0, lead_C hk]
  unfold monic
  rw [h2, ← mul_assoc, ← C_mul]
  congr 2
  grind
theorem C_unit {k : Rat} (hk : k ≠ 0) : C k * C (1 / k) = 1 := C_inv hk
structure GcdI (l m p q pa pb : List Rat) (A H : Nat) : Prop where
 ep : p = (mk' pa).monic.l
 eq : q = (mk' pb).monic.l
 nb : Nrm pb
 wa : WhL pa A
 wb : WhL pb A
 pt : (A + 1) * (A + 1) * 3 ^ pot pa.length pb.length ≤ H * H
 s : Same (mk' l) (mk' m) (mk' pa) (mk' pb)
theorem GcdI.begin {H : Nat} (hA : WhL (prim l) A) (hB : WhL (prim m) A) (hH : (A + 1) * (A + 1) * 3 ^ pot (trimQ l).length (trimQ m).length ≤ H * H) :
  GcdI l m (mk' l).monic.l (mk' m).monic.l (prim l) (prim m) A H := by
 have e : ∀ l, (mk' l).monic.l = (mk' (prim l)).monic.l := fun l => by
  obtain ⟨k, hk, e⟩ := prim_mk' l
  rw [e, monic_Cmul hk]
 exact ⟨e l, e m, prim_nrm m, hA, hB, by rw [prim_len, prim_len]; exact hH, prim_same l m⟩
theorem monic_nz {r : Pol} (h : r ≠ 0) : ∃ k : Rat, k ≠ 0 ∧ r.monic = C k * r := by
 have h1 := lead_ne h
 exact ⟨1 / r.lead, by intro k; have : (1 : Rat) = (1 / r.lead) * r.lead := by grind
                       rw [k] at this; grind, rfl⟩
theorem GcdI.step {pa pb : List Rat} {H : Nat} {u r : Pol} (h : GcdI l m p q pa pb A H) (hq : 0 < q.length) (e : mk' p = u * mk' q + r) (hr : r.len < (mk' q).len) :
  ∃ pc A', GcdI l m q r.monic.l pb pc A' H := by
 have hb0 : mk' pb ≠ 0 := by
  intro e0
  rw [h.eq, e0, monic_zero, zero_l] at hq
  simp at hq
 have hpb : 0 < pb.length := by
  cases hp : pb with
  | nil => exact absurd (by rw [hp]; rfl) hb0
  | cons x y => simp
 obtain ⟨s, t, f, hD, hW⟩ := div_exists h.wa h.wb h.nb hpb
 obtain ⟨β, hβ, eβ⟩ := monic_nz hb0
 have hpol := hD.pol
 have h2 : (prim t).length < pb.length := by rw [prim_len]; exact Nat.lt_of_le_of_lt (zzg t) hD.lt
 have h3 : (prim t).length ≤ pa.length := by rw [prim_len]; exact Nat.le_trans (zzg t) hD.tl
 refine ⟨prim t, A + (pa.length - pb.length + 1) * (A + 1), h.eq, ?_, prim_nrm t, h.wb.more (by omega), prim_of_wh hW, pot_step h.pt h2 h3, same_step h.s hD⟩
 have hf := C_unit hD.f0
 have hmq : mk' q = C β * mk' pb := by rw [h.eq, mk_l, eβ]
 have hCβ := C_unit hβ
 obtain ⟨α, hα, eα⟩ : ∃ α : Rat, α ≠ 0 ∧ mk' p = C α * mk' pa := by
  rw [h.ep, mk_l]
  by_cases h0 : mk' pa = 0
  ·exact ⟨1, by decide, by rw [h0, monic_zero, mul_zero]⟩
  ·obtain ⟨k, hk, e⟩ := monic_nz h0
   exact ⟨k, hk, e⟩
 have e2 : u * mk' q + r = (C (1 / f) * C α * mk' s * C (1 / β)) * mk' q + C (1 / f * α) * mk' t := by
  rw [← e, eα, hmq, C_mul]; grind
 have hκ : 1 / f * α ≠ 0 := by
  have := hD.f0
  intro k
  have h7 : α = f * (1 / f * α) := by grind
  rw [k] at h7; grind
 have hlt : (C (1 / f * α) * mk' t).len < (mk' q).len := by
  rw [len_Cmul hκ, hmq, len_Cmul hβ, mk_len_nrm h.nb]
  exact Nat.lt_of_le_of_lt (mk_len t) hD.lt
 have h5 := div_unique e2 hr hlt
 obtain ⟨k, hk, e3⟩ := prim_mk' t
 rw [h5.2, monic_Cmul hκ, e3, monic_Cmul hk]
theorem GcdI.done {pa pb : List Rat} {H : Nat} (h : GcdI l m p q pa pb A H) (hq : q.length = 0) : IsGcd (mk' l) (mk' m) (mk' p) ∧ (∃ k : Rat, k ≠ 0 ∧ ∀ i, co p i = k * co pa i) ∧ WhL pa H := by
 have hb0 : mk' pb = 0 := by
  apply Classical.byContradiction
  intro k
  have h1 := monic_lead k
  have h2 : (mk' pb).monic ≠ 0 := by intro e; rw [e] at h1; unfold lead at h1; rw [c_zero] at h1; exact absurd h1 (by decide)
  have h3 := len_pos h2
  rw [h.eq] at hq
  unfold len at h3
  omega
 have hs := h.s
 rw [hb0] at hs
 refine ⟨by rw [h.ep, mk_l]; exact hs.gcd, by rw [h.ep]; exact monic_scaled pa, h.wa.more ?_⟩
 have := pot_le h.pt; omega
theorem GcdI.le {pa pb : List Rat} {H : Nat} (h : GcdI l m p q pa pb A H) : A ≤ H := by have := pot_le h.pt; omega
end
end Go.Proofs.YtmonfdlnihaabaaGreat.Nt
namespace Go.Proofs.YtmonfdlnihaabaaGreat
open Go.RowKit
set_option linter.unusedVariables false
section
variable {P : Program} {u0 u u' w w' : World} {S : St} {B : Tmp → Nat} {a : Act} {c : Code} {w0 : Base}
variable {ops : Array Oper} {o : Oper} {p : List Tmp} {rest : List (Oper × List Tmp)} {K : St → World → Prop}
theorem sy_appL0 {seq : Bool} (d : Tmp) {T E : TypeId} {s x : Operand} {z : Value} {size bytes : Nat} {m c t2 : Nat} {ty2 : TypeId} (news : List Value) (hT : P.underlying T = some (.slice E)) (hi : (P.info? E).map (fun i => (i.zero, i.size, i.bytes)) = some (some z, size, bytes)) (hzs : z.cells.size = size) (hsz : 0 < size)
  (hl : news.length = m * size) (h1 : ∀ v ∈ news, v.oneCell' = true) (hm : 0 < m) (h63 : m ≤ maxLen) (hbytes : m * bytes ≤ 140737488355328)
  (k : ∀ c1 cs, m ≤ c1 → c1 ≤ maxLen → cs.length = c1 * size → cs.take (m * size) = news → sym P ops w0 u0 seq rest (S.own d ⟨E, cs⟩ m c1) u K)
  (hw : Wants ops o S := by exact wants0 (by kernel_rfl)) (hd : o.dst = some d := by kernel_rfl) (hop : o.op = .call { callee := .builtin .append, args := #[s, x], argTypes := #[T, T] } := by rfl) (hf : (freeB S d && (S.var d).isNone) = true := by kernel_rfl)
  (hs : evO S s = some (.v (.slice none 0 0)) := by rfl) (hx : evO S x = some (.slc t2 0 m c) := by rfl) (hv2 : S.var t2 = some ⟨ty2, news⟩ := by rfl) : sym P ops w0 u0 seq ((o, p) :: rest) S u K := by
 simp only [Bool.and_eq_true, Option.isNone_iff_eq_none] at hf
 refine .inr (.inr (.inl ⟨.inr ⟨by rw [hop]; rfl, by rw [hop]; rfl⟩, fun B a w u' he hrep => ⟨hw B a hrep.regs, ?_⟩⟩))
 obtain ⟨q1, q2, q3⟩ := hrep.var t2 _ hv2
 obtain ⟨g, c1, cs, w', hrun, hgv, k1, k2, k3, k4, k5, k6⟩ := run_app (P := P) (u0 := u0) (w := w) (v := .slice none 0 0) (n := 0) (xs := []) (ad := ⟨B t2, 0, none⟩) (c := c) hT hi hzs hsz ⟨by simp, .inl ⟨rfl, rfl⟩⟩ hl (fun j v hv => by rw [addr_add, Nat.zero_add, cells_at q1]; simpa using hv) h1 hm (by omega) (by simpa using hbytes) (by rw [← hrep.dat.size]; exact hrep.grow.size) o.type
 rw [Nat.zero_add] at hrun k1 k4
 unfold Oper.wp execOp
 simp only [hop, resolve, invoke, builtin, Sem.run_bind, Sem.run_pure, Result.andThen_ok, List.map_toArray, List.map_cons, List.map_nil, ev_of hrep.regs hs, ev_of hrep.regs hx, SV.conc, hrun]
 have hr2 := hrep.grown (pubs := []) (fun r x t _ _ h => by cases h) (row := none) (fun b h => by cases h) k5 (d := d) (V := ⟨E, cs.toList⟩) (g := g) (n := m) (c := c1) (free_of hd hf.1 d hd).1 (.inl hf.2) (by simpa using hgv) (k6.imp (fun h => by cases h) id)
 rw [unpub_nil] at hr2
 have hsz2 : u'.heap.size ≤ w'.heap.size := by rw [hrep.dat.size]; exact k5.size
 show ∃ S' B' u'' u2, Rep w0 u0 S' B' (a.put o.dst _) w' u'' ∧ _
 rw [hd]
 exact ⟨_, _, _, u, hr2, (hide_grow hsz2).ext, Ext.refl _, he.trans (hide_grow hsz2).ext, k c1 cs.toList k1 k2 k3 (by simpa using k4)⟩
theorem sy_appL1 {seq : Bool} (d : Tmp) {T E : TypeId} {s x : Operand} {z : Value} {size bytes : Nat} {m c t n cap t2 : Nat} {ty2 : TypeId} {cs0 : List Value} (pubs : List Tmp) (news : List Value) (hT : P.underlying T = some (.slice E)) (hi : (P.info? E).map (fun i => (i.zero, i.size, i.bytes)) = some (some z, size, bytes)) (hzs : z.cells.size = size) (hsz : 0 < size)
  (hl : news.length = m * size) (h1 : ∀ v ∈ news, v.oneCell' = true) (hm : 0 < m) (h63 : n + m ≤ maxLen) (hbytes : (n + m) * bytes ≤ 140737488355328)
  (hn : n ≤ cap) (hcap : cap ≤ maxLen) (hcl : cs0.length = cap * size) (hno : NoAt S pubs)
  (k : ∀ c1 cs, n + m ≤ c1 → c1 ≤ maxLen → cs.length = c1 * size → cs.take ((n + m) * size) = cs0.take (n * size) ++ news → sym P ops w0 u0 seq rest ((S.unpub pubs).own d ⟨E, cs⟩ (n + m) c1) u K)
  (hw : Wants ops o S := by exact wants0 (by kernel_rfl)) (hd : o.dst = some d := by kernel_rfl) (hop : o.op = .call { callee := .builtin .append, args := #[s, x], argTypes := #[T, T] } := by rfl) (hf : (Nat.blt d S.n && ((S.var d).isNone || pubs.contains d) && pubs.contains t && Nat.blt t S.n) = true := by kernel_rfl)
  (hs : evO S s = some (.slc t 0 n cap) := by rfl) (hv : S.var t = some ⟨E, cs0⟩ := by rfl) (hx : evO S x = some (.slc t2 0 m c) := by rfl) (hv2 : S.var t2 = some ⟨ty2, news⟩ := by rfl) : sym P ops w0 u0 seq ((o, p) :: rest) S u K := by
 simp only [Bool.and_eq_true, Bool.or_eq_true, Option.isNone_iff_eq_none, List.contains_iff_mem] at hf
 refine .inr (.inr (.inl ⟨.inr ⟨by rw [hop]; rfl, by rw [hop]; rfl⟩, fun B a w u' he hrep => ⟨hw B a hrep.regs, ?_⟩⟩))
 have htn : t < S.n := Nat.le_of_ble_eq_true hf.2
 obtain ⟨v1, v2, v3⟩ := hrep.var t _ hv
 obtain ⟨q1, q2, q3⟩ := hrep.var t2 _ hv2
 have v3 := v3.1 htn
 obtain ⟨g, c1, cs, w', hrun, hgv, k1, k2, k3, k4, k5, k6⟩ := run_app (P := P) (u0 := u0) (w := w) (v := .slice (some ⟨B t, 0, none⟩) n cap) (n := n) (xs := cs0.take (n * size)) (ad := ⟨B t2, 0, none⟩) (c := c) hT hi hzs hsz
  ⟨by rw [List.length_take, hcl]; exact Nat.min_eq_left (Nat.mul_le_mul_right _ hn), .inr ⟨B t, cap, cs0.toArray, rfl, v3, v1, hn, hcap, by simpa using hcl, by simp⟩⟩ hl (fun j v hv => by rw [addr_add, Nat.zero_add, cells_at q1]; simpa using hv) h1 hm h63 hbytes (by rw [← hrep.dat.size]; exact hrep.grow.size) o.type
 unfold Oper.wp execOp
 simp only [hop, resolve, invoke, builtin, Sem.run_bind, Sem.run_pure, Result.andThen_ok, List.map_toArray, List.map_cons, List.map_nil, ev_of hrep.regs hs, ev_of hrep.regs hx, SV.conc, hrun]
 have hr2 := hrep.grown hno (row := some (B t)) (fun b h => by injection h with h; exact ⟨t, hf.1.2, htn, _, hv, h⟩) k5 (d := d) (V := ⟨E, cs.toList⟩) (g := g) (n := n + m) (c := c1) (Nat.le_of_ble_eq_true hf.1.1.1) hf.1.1.2 (by simpa using hgv) k6
 have hsz2 : u'.heap.size ≤ w'.heap.size := by rw [hrep.dat.size]; exact k5.size
 show ∃ S' B' u'' u2, Rep w0 u0 S' B' (a.put o.dst _) w' u'' ∧ _
 rw [hd]
 exact ⟨_, _, _, u, hr2, (hide_grow hsz2).ext, Ext.refl _, he.trans (hide_grow hsz2).ext, k c1 cs.toList k1 k2 k3 k4⟩
end
section
variable {u u' : World} {L : List RL} {l : List Rat} {q : Rat} {r : RL} {K i b n c : Nat} {x : Sl}
theorem RatsV.set (h : RatsV u L l K) (hi : i < l.length) (hr : RatV u r q K) : RatsV u (L.set i r) (l.set i q) K := by
 refine ⟨by simpa using h.1, fun j hj => ?_⟩
 rw [List.length_set] at hj
 rw [List.getD_eq_getElem?_getD, List.getD_eq_getElem?_getD, List.getElem?_set, List.getElem?_set]
 by_cases e : i = j
 ·subst e
  rw [if_pos rfl, if_pos rfl, if_pos hi, if_pos (by rw [h.1]; exact hi)]
  exact hr
 ·rw [if_neg e, if_neg e, ← List.getD_eq_getElem?_getD, ← List.getD_eq_getElem?_getD]
  exact h.2 j hj
theorem RatsV.zeros (u : World) (n : Nat) : RatsV u (List.replicate n rl0) (List.replicate n 0) 1 := by
 refine ⟨by simp, fun i hi => ?_⟩
 rw [List.length_replicate] at hi
 rw [List.getD_eq_getElem?_getD, List.getD_eq_getElem?_getD, List.getElem?_replicate, List.getElem?_replicate, if_pos hi, if_pos hi]
 exact rat_nil _
theorem RatsN.fitR {M : Nat} (h : RatsN u L l K) (k : ∀ i, Nt.rs (l.getD i 0) ≤ M) : RatsN u L l M := ⟨h.1, fun i hi => (h.2 i hi).fit (k i)⟩
theorem PolN.fitR {M : Nat} (h : PolN u x l K) (k : ∀ i, Nt.rs (l.getD i 0) ≤ M) : PolN u x l M := by obtain ⟨L, h1, h2⟩ := h; exact ⟨L, h1, h2.fitR k⟩
end
end Go.Proofs.YtmonfdlnihaabaaGreat
namespace Go.Proofs.YtmonfdlnihaabaaGreat
open Go.RowKit
set_option linter.unusedVariables false
set_option maxHeartbeats 2000000 in
theorem k_r5Scale {u w : World} {x : Sl} {l : List Rat} {r : RL} {q : Rat} {K M : Nat} (d : Dat u w) (hx : PolV u x l K) (hr : RatV u r q M) (hK : K ≤ 20000000) (hx9 : l.length ≤ 1000000000) (hM : M ≤ 20000000) : Calls Tryz.prog 21 #[x.v, r.v] w (Post u w fun v u' => ∃ y : Sl, v = y.v ∧ PolN u' y (Nt.trimQ (l.map (· * q))) (K + M + 1)) := by
 have hlen := hx.len
 refine zzl (args := [.slice x.a x.n x.c, r.v]) Tryz.func21 rfl Tryz.ntmps21 (rs := [.tmp 4]) Tryz.results21 (le_b rfl) (le_b rfl) d ?_
 refine sq9 ?_
 refine zzj 3 ⟨29, r.cs⟩ ?_
 refine zza 4 (.v (.slice none 0 0)) ?_
 refine zzb 23 [(0, .v x.v), (3, .adr 3 0)] [(3, ⟨29, r.cs⟩)] ?_
 refine sq9 ?_
 refine zza 5 (.v (.slice none 0 0)) ?_
 refine zzb 23 [(0, .v x.v), (3, .adr 3 0), (5, .v (.slice none 0 0))] [(3, ⟨29, r.cs⟩)] ?_
 refine zzc ?_
 refine sq9 ?_
 refine zza 8 (.v x.v) ?_
 refine zza 9 (.v (.int .i64 (x.n : Int))) ?_
 refine zza 10 (.v (.int .i64 0)) ?_
 refine zzb 23 [(3, .adr 3 0), (5, .v (.slice none 0 0)), (8, .v x.v), (9, .v (.int .i64 (x.n : Int))), (10, .v (.int .i64 0))] [(3, ⟨29, r.cs⟩)] ?_
 refine zzs ?_
 refine zym (I := fun m11 S' u' => (m11 = x.n ∧ S' = St.of 23 [(3, .adr 3 0), (5, .v (.slice none 0 0)), (8, .v (.slice x.a x.n x.c)), (9, .v (.int .i64 (x.n : Int))), (10, .v (.int .i64 0))] [(3, ⟨29, r.cs⟩)] ∧ Ext u u') ∨ (∃ (i : Nat) (L : List RL) (cs : List Value) (cp : Nat), m11 = x.n - i ∧ i ≤ x.n ∧ 0 < i ∧ L.length = i ∧ cs.length = cp * 3 ∧ i ≤ cp ∧ cp ≤ maxLen ∧ cs.take (i * 3) = rcs L ∧ S' = St.of 23 [(3, .adr 3 0), (5, .slc 19 0 i cp), (8, .v (.slice x.a x.n x.c)), (9, .v (.int .i64 (x.n : Int))), (10, .v (.int .i64 (i : Int)))] [(3, ⟨29, r.cs⟩), (19, ⟨29, cs⟩)] ∧ Ext u u' ∧ RatsN u' L ((l.map (· * q)).take i) (K + M + 1))) (fun m S u1 u2 e h => by rcases h with ⟨a, b, c⟩ | ⟨a1, a2, a3, a4, b1, b2, b3, b4, b5, b6, b7, b8, b9, b10, b11⟩; exact .inl ⟨a, b, c.trans e⟩; exact .inr ⟨a1, a2, a3, a4, b1, b2, b3, b4, b5, b6, b7, b8, b9, b10.trans e, b11.ext e⟩) _ (T := St.of 23 [(3, .adr 3 0), (5, .v (.slice none 0 0)), (8, .v (.slice x.a x.n x.c)), (9, .v (.int .i64 (x.n : Int))), (10, .v (.int .i64 0))] [(3, ⟨29, r.cs⟩)]) (by exact zzu _ _ _) (.inl ⟨rfl, rfl, Ext.refl _⟩) ?_
 rintro m11 _ u11 (⟨hm11, rfl, e11⟩ | ⟨i, L, cs, cp, hm11, hi, hp, hL, hc, hle, hmx, ht, rfl, e11, hR⟩)
 ·change SW _ _ _ _ (St.of 23 [(3, .adr 3 0), (5, .v (.slice none 0 0)), (8, .v (.slice x.a x.n x.c)), (9, .v (.int .i64 (x.n : Int))), (10, .v (.int .i64 0))] [(3, ⟨29, r.cs⟩)]) _ _
  refine sq9 ?_
  refine zza 11 (.v (.bool (decide ((0 : Int) < (x.n : Int))))) ?_
  refine zzb 23 [(3, .adr 3 0), (5, .v (.slice none 0 0)), (8, .v x.v), (9, .v (.int .i64 (x.n : Int))), (10, .v (.int .i64 0)), (11, .v (.bool (decide ((0 : Int) < (x.n : Int)))))] [(3, ⟨29, r.cs⟩)] ?_
  refine zzc ?_
  refine zzt (b := decide ((0 : Int) < (x.n : Int))) (by kernel_rfl) (fun hb12 => ?_) (fun hb12 => ?_)
  ·replace hb12 : (decide ((0 : Int) < (x.n : Int))) = true := hb12
   have qhb12 := of_decide_eq_true hb12
   refine zzr (zzo ?_)
   refine zzc ?_
   refine zzs ?_
   refine sq9 ?_
   have hl13 := (hx.ext e11).len
   obtain ⟨r13, b13, o13, hA13, hc13, hr13⟩ := pol_at (hx.ext e11) (i := 0) (by omega)
   refine zzz 12 (o13 + 0 * 3) (n := x.n) (off := o13) (sz := 3) (i := 0) (by omega) hA13 (by omega) (by omega) sl32 ?_
   refine zyl 13 r13.cs hc13 ty29 ?_
   refine zzj 7 ⟨29, [.bool false, .slice none 0 0, .slice none 0 0]⟩ ?_
   refine zzi ⟨29, r13.cs⟩ ty29 ?_
   refine zzb 23 [(3, .adr 3 0), (5, .v (.slice none 0 0)), (7, .adr 7 0), (8, .v x.v), (9, .v (.int .i64 (x.n : Int))), (10, .v (.int .i64 0))] [(3, ⟨29, r.cs⟩), (7, ⟨29, r13.cs⟩)] ?_
   refine zze ?_
   refine zza 14 (.v (.slice none 0 0)) ?_
   refine zzh 15 (.v (r13.v)) ty29 zzd ?_
   refine zzh 16 (.v (r.v)) ty29 zzd ?_
   refine zzf 17 61 [r13.v, r.v] ?_
   intro w14 u14 e14 d14
   have k19 := k_rqMul d14 (hr13.ext e14) (hr.ext (e11.trans e14)) (by omega) (by omega)
   with_reducible refine Post.mono k19 ?_
   rintro _ u17 g18 ⟨r15, rfl, h16⟩
   refine sy_data 18 ⟨29, r15.cs⟩ 1 (fun b20 u21 e22 h23 => ?_)
   have hp24 : PolN u21 (⟨some ⟨b20, 0, none⟩, 1, 1⟩ : Sl) [((l.getD 0 0) * q)] (K + M + 1) := pol_lit (L := [r15]) h23 (rats1 (h16.ext e22)) rfl (by decide)
   refine sy_app0 19 (T := 32) (E := 29) (z := .agg #[.bool false, .slice none 0 0, .slice none 0 0]) (size := 3) (bytes := 56) (b := b20) (off := 0) (m := 1) r15.cs (by kernel_rfl) (by kernel_rfl) (by kernel_rfl) (by decide) rfl (lit_news ((Ext.refl _).cells h23)) (rl_one r15) (by decide) (by decide) (by decide) ?_
   intro c25 cs25 ha25 hb25 hc25 hd25
   refine zza 5 (.slc 19 0 1 c25) ?_
   refine zzw ?_
   refine zzo ?_
   refine zze ?_
   refine zza 20 (.v (.int .i64 1)) ?_
   refine zza 10 (.v (.int .i64 1)) ?_
   refine zzw ?_
   have ht26 : 0 < (l.map (· * q)).length := by rw [List.length_map]; omega
   refine ⟨_, ?_, St.of 23 [(3, .adr 3 0), (5, .slc 19 0 1 c25), (8, .v (.slice x.a x.n x.c)), (9, .v (.int .i64 (x.n : Int))), (10, .v (.int .i64 1))] [(3, ⟨29, r.cs⟩), (19, ⟨29, cs25⟩)], by exact zzu _ _ _, .inr ⟨1, [r15], cs25, c25, rfl, by omega, by omega, by simp, hc25, by omega, hb25, hd25, rfl, (e11.trans (e14.trans (g18.ext.trans e22))), (app_first (RatN.more (K := (K + M + 1)) (h16.ext e22) (by omega)) ht26 (by simp [List.getElem?_eq_getElem (show 0 < l.length by omega)]))⟩⟩
   omega
  ·replace hb12 : (decide ((0 : Int) < (x.n : Int))) = false := hb12
   have qhb12 := of_decide_eq_false hb12
   refine zyb ?_
   refine zzo ?_
   refine zzc ?_
   have hp27 : PolN u11 ⟨none, 0, 0⟩ (l.map (· * q)) (K + M + 1) := by have h9 : l.map (· * q) = [] := List.eq_nil_of_length_eq_zero (by rw [List.length_map]; omega); rw [h9]; exact pol_nil _ _
   refine zze ?_
   refine zza 21 (.v (.slice none 0 0)) ?_
   refine zzf 22 53 [.slice none 0 0] ?_
   intro w28 u28 e28 d28
   have k33 := k_r5Trim d28 (hp27.ext e28).raw (by omega) (by first|omega|(simp;omega) | (refine Nat.le_trans (Nt.zzg _) ?_; first|omega|(simp;omega)) | (refine Nat.le_trans (Nt.zzg _) ?_; simp only [List.length_map]; refine Nat.le_trans (Nt.zzg _) ?_; first|omega|(simp;omega)))
   with_reducible refine Post.mono k33 ?_
   rintro _ u31 g32 ⟨y29, rfl, h30⟩
   have hly29 := h30.len
   refine zza 4 (.v y29.v) ?_
   refine zzb 23 [(4, .v y29.v)] [] ?_
   refine zzn (ret0 [.slice y29.a y29.n y29.c] ⟨zzp, trivial⟩ fun u34 e35 => ?_)
   refine ⟨y29, rfl, ?_⟩
   exact (h30.ext e35)
 ·change SW _ _ _ _ (St.of 23 [(3, .adr 3 0), (5, .slc 19 0 i cp), (8, .v (.slice x.a x.n x.c)), (9, .v (.int .i64 (x.n : Int))), (10, .v (.int .i64 (i : Int)))] [(3, ⟨29, r.cs⟩), (19, ⟨29, cs⟩)]) _ _
  refine sq9 ?_
  refine zza 11 (.v (.bool (decide ((i : Int) < (x.n : Int))))) ?_
  refine zzb 23 [(3, .adr 3 0), (5, .slc 19 0 i cp), (8, .v x.v), (9, .v (.int .i64 (x.n : Int))), (10, .v (.int .i64 (i : Int))), (11, .v (.bool (decide ((i : Int) < (x.n : Int)))))] [(3, ⟨29, r.cs⟩), (19, ⟨29, cs⟩)] ?_
  refine zzc ?_
  refine zzt (b := decide ((i : Int) < (x.n : Int))) (by kernel_rfl) (fun hb36 => ?_) (fun hb36 => ?_)
  ·replace hb36 : (decide ((i : Int) < (x.n : Int))) = true := hb36
   have qhb36 := of_decide_eq_true hb36
   refine zzr (zzo ?_)
   refine zzc ?_
   refine zzs ?_
   refine sq9 ?_
   have hl37 := (hx.ext e11).len
   obtain ⟨r37, b37, o37, hA37, hc37, hr37⟩ := pol_at (hx.ext e11) (i := i) (by omega)
   refine zzz 12 (o37 + i * 3) (n := x.n) (off := o37) (sz := 3) (i := (i : Int)) (by omega) hA37 (by omega) (by omega) sl32 ?_
   refine zyl 13 r37.cs hc37 ty29 ?_
   refine zzj 7 ⟨29, [.bool false, .slice none 0 0, .slice none 0 0]⟩ ?_
   refine zzi ⟨29, r37.cs⟩ ty29 ?_
   refine zzb 23 [(3, .adr 3 0), (5, .slc 19 0 i cp), (7, .adr 7 0), (8, .v x.v), (9, .v (.int .i64 (x.n : Int))), (10, .v (.int .i64 (i : Int)))] [(3, ⟨29, r.cs⟩), (7, ⟨29, r37.cs⟩), (19, ⟨29, cs⟩)] ?_
   refine zze ?_
   refine zza 14 (.slc 19 0 i cp) ?_
   refine zzh 15 (.v (r37.v)) ty29 zzd ?_
   refine zzh 16 (.v (r.v)) ty29 zzd ?_
   refine zzf 17 61 [r37.v, r.v] ?_
   intro w38 u38 e38 d38
   have k43 := k_rqMul d38 (hr37.ext e38) (hr.ext (e11.trans e38)) (by omega) (by omega)
   with_reducible refine Post.mono k43 ?_
   rintro _ u41 g42 ⟨r39, rfl, h40⟩
   refine sy_data 18 ⟨29, r39.cs⟩ 1 (fun b44 u45 e46 h47 => ?_)
   have hp48 : PolN u45 (⟨some ⟨b44, 0, none⟩, 1, 1⟩ : Sl) [((l.getD i 0) * q)] (K + M + 1) := pol_lit (L := [r39]) h47 (rats1 (h40.ext e46)) rfl (by decide)
   refine sy_app1 19 (T := 32) (E := 29) (z := .agg #[.bool false, .slice none 0 0, .slice none 0 0]) (size := 3) (bytes := 56) (b := b44) (off := 0) (m := 1) (n := i) (cap := cp) (t := 19) (cs0 := cs) [5, 14, 19] r39.cs (by kernel_rfl) (by kernel_rfl) (by kernel_rfl) (by decide) rfl (lit_news ((Ext.refl _).cells h47)) (rl_one r39) (by decide) (by unfold maxLen; omega) (by omega) (by omega) (by omega) (by omega) (by repeat first | exact noAt_of | refine zyc ?_ | refine zye ?_ | refine zyd ?_ | refine zzx ?_ | refine zya ?_) ?_
   intro c49 cs49 ha49 hb49 hc49 hd49
   have hd49r : cs49.take ((i + 1) * 3) = rcs (L ++ [r39]) := by rw [hd49, ht, rcs_app]; rfl
   refine zza 5 (.slc 19 0 (i + 1) c49) ?_
   refine zzw ?_
   refine zzo ?_
   refine zze ?_
   refine zyp 20 (x := .v (.int .i64 (IntKind.i64.wrap ((i : Int) + 1)))) (.v (.int .i64 ((i + 1 : Nat) : Int))) (eqI (by rw [IntWalk.i64_in _ (by omega)]; omega)) ?_
   refine zza 10 (.v (.int .i64 ((i + 1 : Nat) : Int))) ?_
   refine zzw ?_
   have ht50 : i < (l.map (· * q)).length := by rw [List.length_map]; omega
   refine ⟨_, ?_, St.of 23 [(3, .adr 3 0), (5, .slc 19 0 (i + 1) c49), (8, .v (.slice x.a x.n x.c)), (9, .v (.int .i64 (x.n : Int))), (10, .v (.int .i64 ((i + 1 : Nat) : Int)))] [(3, ⟨29, r.cs⟩), (19, ⟨29, cs49⟩)], by exact zzu _ _ _, .inr ⟨i + 1, L ++ [r39], cs49, c49, rfl, by omega, by omega, by simp; omega, hc49, by omega, hb49, hd49r, rfl, (e11.trans (e38.trans (g42.ext.trans e46))), (app_next (hR.ext (e38.trans (g42.ext.trans e46))) (RatN.more (K := (K + M + 1)) (h40.ext e46) (by omega)) ht50 (by simp [List.getElem?_eq_getElem (show i < l.length by omega)]))⟩⟩
   omega
  ·replace hb36 : (decide ((i : Int) < (x.n : Int))) = false := hb36
   have qhb36 := of_decide_eq_false hb36
   refine zyb ?_
   refine zzo ?_
   refine zzc ?_
   refine zyo (r := 5) (t := 19) [5, 19] (by repeat first | exact noAt_of | refine zyc ?_ | refine zye ?_ | refine zyd ?_ | refine zzx ?_ | refine zya ?_) (by kernel_rfl) (by rfl) (by rfl) (by kernel_rfl) (fun b52 u53 e54 hb55 hh56 => ?_)
   have hp51 : PolN u53 ⟨some ⟨b52, 0, none⟩, i, cp⟩ (l.map (· * q)) (K + M + 1) := by have h8 := pol_data hh56 ht hc hle hmx (hR.ext e54); rw [List.take_of_length_le (l := l.map (· * q)) (by rw [List.length_map]; omega)] at h8; exact h8
   refine zze ?_
   refine zza 21 (.v (.slice (some ⟨b52, 0, none⟩) i cp)) ?_
   refine zzf 22 53 [.slice (some ⟨b52, 0, none⟩) i cp] ?_
   intro w57 u57 e57 d57
   have k62 := k_r5Trim d57 (hp51.ext e57).raw (by omega) (by first|omega|(simp;omega) | (refine Nat.le_trans (Nt.zzg _) ?_; first|omega|(simp;omega)) | (refine Nat.le_trans (Nt.zzg _) ?_; simp only [List.length_map]; refine Nat.le_trans (Nt.zzg _) ?_; first|omega|(simp;omega)))
   with_reducible refine Post.mono k62 ?_
   rintro _ u60 g61 ⟨y58, rfl, h59⟩
   have hly58 := h59.len
   refine zza 4 (.v y58.v) ?_
   refine zzb 23 [(4, .v y58.v)] [] ?_
   refine zzn (ret0 [.slice y58.a y58.n y58.c] ⟨zzp, trivial⟩ fun u63 e64 => ?_)
   refine ⟨y58, rfl, ?_⟩
   exact (h59.ext e64)
set_option maxHeartbeats 2000000 in
theorem k_poSub {u w : World} {x : Sl} {l : List Rat} {y : Sl} {m : List Rat} {K M : Nat} (d : Dat u w) (hx : PolV u x l K) (hy : PolV u y m M) (hK : K ≤ 40000000) (hM : M ≤ 40000000) (hx9 : l.length ≤ 1000000000) (hy9 : m.length ≤ 1000000000) : Calls Tryz.prog 50 #[x.v, y.v] w (Post u w fun v u' => ∃ y : Sl, v = y.v ∧ PolN u' y (Nt.trimQ (Nt.addQ l (m.map (fun z => -z)))) (K + M + 1)) := by
 have hlen := hx.len
 have hlen2 := hy.len
 refine zzl (args := [.slice x.a x.n x.c, .slice y.a y.n y.c]) Tryz.func50 rfl Tryz.ntmps50 (rs := [.tmp 4]) Tryz.results50 (le_b rfl) (le_b rfl) d ?_
 refine sq9 ?_
 refine zza 4 (.v (.slice none 0 0)) ?_
 refine zzb 27 [(0, .v x.v), (1, .v y.v)] [] ?_
 refine sq9 ?_
 refine zza 7 (.v y.v) ?_
 refine zza 8 (.v (.int .i64 (y.n : Int))) ?_
 refine sy_make 9 (T := 32) (E := 29) (z := .agg #[.bool false, .slice none 0 0, .slice none 0 0]) (size := 3) (bytes := 56) y.n (rcs (List.replicate y.n rl0)) (by kernel_rfl) (by kernel_rfl) rfl rfl (by omega) (by unfold maxLen; omega) (made_rcs _) ?_
 refine zza 5 (.slc 9 0 y.n y.n) ?_
 refine zzb 27 [(0, .v x.v), (1, .v y.v), (5, .slc 9 0 y.n y.n)] [(9, ⟨29, rcs (List.replicate y.n rl0)⟩)] ?_
 refine zzc ?_
 refine sq9 ?_
 refine zza 10 (.slc 9 0 y.n y.n) ?_
 refine zza 11 (.v (.int .i64 (y.n : Int))) ?_
 refine zza 12 (.v (.int .i64 0)) ?_
 refine zzb 27 [(0, .v x.v), (1, .v y.v), (5, .slc 9 0 y.n y.n), (11, .v (.int .i64 (y.n : Int))), (12, .v (.int .i64 0))] [(9, ⟨29, rcs (List.replicate y.n rl0)⟩)] ?_
 refine zzs ?_
 refine zym (I := fun m11 S' u' => ∃ (i : Nat) (L : List RL), (m11 = y.n - i) ∧ (i ≤ y.n) ∧ (L.length = y.n) ∧ (S' = St.of 27 [(0, .v (.slice x.a x.n x.c)), (1, .v (.slice y.a y.n y.c)), (5, .slc 9 0 y.n y.n), (11, .v (.int .i64 (y.n : Int))), (12, .v (.int .i64 (i : Int)))] [(9, ⟨29, rcs L⟩)]) ∧ (Ext u u') ∧ (RatsN u' (L.take i) ((m.map (fun z => -z)).take i) M)) (fun m S u1 u2 e h => by obtain ⟨i, L, hm, p0, p1, hS, hE, f0⟩ := h; exact ⟨i, L, hm, p0, p1, hS, hE.trans e, f0.ext e⟩) _ (T := St.of 27 [(0, .v (.slice x.a x.n x.c)), (1, .v (.slice y.a y.n y.c)), (5, .slc 9 0 y.n y.n), (11, .v (.int .i64 (y.n : Int))), (12, .v (.int .i64 0))] [(9, ⟨29, rcs (List.replicate y.n rl0)⟩)]) (by exact zzu _ _ _) ⟨0, List.replicate y.n rl0, rfl, by omega, by simp, rfl, Ext.refl _, RatsN.tnil _ _ _ _⟩ ?_
 rintro m11 _ u11 ⟨i, L, hm11, hi, hL, rfl, e11, hR⟩
 refine sq9 ?_
 refine zza 13 (.v (.bool (decide ((i : Int) < (y.n : Int))))) ?_
 refine zzb 27 [(0, .v x.v), (1, .v y.v), (5, .slc 9 0 y.n y.n), (11, .v (.int .i64 (y.n : Int))), (12, .v (.int .i64 (i : Int))), (13, .v (.bool (decide ((i : Int) < (y.n : Int)))))] [(9, ⟨29, rcs L⟩)] ?_
 refine zzc ?_
 refine zzt (b := decide ((i : Int) < (y.n : Int))) (by kernel_rfl) (fun hb12 => ?_) (fun hb12 => ?_)
 ·replace hb12 : (decide ((i : Int) < (y.n : Int))) = true := hb12
  have qhb12 := of_decide_eq_true hb12
  refine zzr (zzo ?_)
  refine zzc ?_
  refine zzs ?_
  refine sq9 ?_
  refine zza 14 (.v (.int .i64 (i : Int))) ?_
  refine zza 6 (.v (.int .i64 (i : Int))) ?_
  refine zzb 27 [(0, .v x.v), (1, .v y.v), (5, .slc 9 0 y.n y.n), (6, .v (.int .i64 (i : Int))), (11, .v (.int .i64 (y.n : Int))), (12, .v (.int .i64 (i : Int)))] [(9, ⟨29, rcs L⟩)] ?_
  refine zze ?_
  refine zza 15 (.slc 9 0 y.n y.n) ?_
  refine zza 16 (.v (.int .i64 (i : Int))) ?_
  refine zza 17 (.v y.v) ?_
  refine zza 18 (.v (.int .i64 (i : Int))) ?_
  have hl13 := (hy.ext e11).len
  obtain ⟨r13, b13, o13, hA13, hc13, hr13⟩ := pol_at (hy.ext e11) (i := i) (by omega)
  refine zzz 19 (o13 + i * 3) (n := y.n) (off := o13) (sz := 3) (i := (i : Int)) (by omega) hA13 (by omega) (by omega) sl32 ?_
  refine zyl 20 r13.cs hc13 ty29 ?_
  refine zzf 21 118 [r13.v] ?_
  intro w14 u14 e14 d14
  have k19 := k_ratNeg d14 (hr13.ext e14) (by omega)
  with_reducible refine Post.mono k19 ?_
  rintro _ u17 g18 ⟨r15, rfl, h16⟩
  refine zyv 22 (off' := i * 3) (n := y.n) (off := 0) (sz := 3) (i := (i : Int)) sl32 (by omega) (by omega) (by omega) ?_
  refine zyu (V := ⟨29, rcs L⟩) (off := i * 3) (rcs ((L).set i r15)) ty29 (by rw [zyx]; first|omega|(simp;omega)) (zyw (r := r15) (i := i) (by first|omega|(simp;omega)) rfl) ?_
  refine zzw ?_
  refine zzo ?_
  refine zze ?_
  refine zyp 23 (x := .v (.int .i64 (IntKind.i64.wrap ((i : Int) + 1)))) (.v (.int .i64 ((i + 1 : Nat) : Int))) (eqI (by rw [IntWalk.i64_in _ (by omega)]; omega)) ?_
  refine zza 12 (.v (.int .i64 ((i + 1 : Nat) : Int))) ?_
  refine zzw ?_
  have ht20 : i < (m.map (fun z => -z)).length := by rw [List.length_map]; omega
  refine ⟨_, ?_, St.of 27 [(0, .v (.slice x.a x.n x.c)), (1, .v (.slice y.a y.n y.c)), (5, .slc 9 0 y.n y.n), (11, .v (.int .i64 (y.n : Int))), (12, .v (.int .i64 ((i + 1 : Nat) : Int)))] [(9, ⟨29, rcs ((L).set i r15)⟩)], by exact zzu _ _ _, i + 1, (L).set i r15, rfl, by omega, by simpa using hL, rfl, (e11.trans (e14.trans g18.ext)), RatsN.tstep (hR.ext (e14.trans g18.ext)) (by omega) ht20 (RatN.more (K := M) h16 (by omega)) (by simp [List.getElem?_eq_getElem (show i < m.length by omega)])⟩
  omega
 ·replace hb12 : (decide ((i : Int) < (y.n : Int))) = false := hb12
  have qhb12 := of_decide_eq_false hb12
  refine zyb ?_
  refine zzo ?_
  refine zzc ?_
  refine zyo (r := 5) (t := 9) [5, 9] (by repeat first | exact noAt_of | refine zyc ?_ | refine zye ?_ | refine zyd ?_ | refine zzx ?_ | refine zya ?_) (by kernel_rfl) (by rfl) (by rfl) (by kernel_rfl) (fun b21 u22 e23 hb24 hh25 => ?_)
  have hp26 : PolN u22 ⟨some ⟨b21, 0, none⟩, y.n, y.n⟩ (m.map (fun z => -z)) M := pol_data1 hh25 (by unfold maxLen; omega) (RatsN.tdone (hR.ext e23) (by omega) (by rw [List.length_map]; omega)) (by omega)
  refine zze ?_
  refine zza 24 (.v x.v) ?_
  refine zza 25 (.v (.slice (some ⟨b21, 0, none⟩) y.n y.n)) ?_
  refine zzf 26 68 [x.v, .slice (some ⟨b21, 0, none⟩) y.n y.n] ?_
  intro w27 u27 e27 d27
  have k32 := k_poAdd d27 (hx.ext (e11.trans (e23.trans e27))) (hp26.ext e27).raw (by omega) (by omega) (by first|omega|(simp;omega) | (refine Nat.le_trans (Nt.zzg _) ?_; first|omega|(simp;omega)) | (refine Nat.le_trans (Nt.zzg _) ?_; simp only [List.length_map]; refine Nat.le_trans (Nt.zzg _) ?_; first|omega|(simp;omega))) (by first|omega|(simp;omega) | (refine Nat.le_trans (Nt.zzg _) ?_; first|omega|(simp;omega)) | (refine Nat.le_trans (Nt.zzg _) ?_; simp only [List.length_map]; refine Nat.le_trans (Nt.zzg _) ?_; first|omega|(simp;omega)))
  with_reducible refine Post.mono k32 ?_
  rintro _ u30 g31 ⟨y28, rfl, h29⟩
  have hly28 := h29.len
  refine zza 4 (.v y28.v) ?_
  refine zzb 27 [(4, .v y28.v)] [] ?_
  refine zzn (ret0 [.slice y28.a y28.n y28.c] ⟨zzp, trivial⟩ fun u33 e34 => ?_)
  refine ⟨y28, rfl, ?_⟩
  exact (h29.ext e34)
set_option maxHeartbeats 1000000 in
theorem k_r5Same {u w : World} {x : Sl} {l : List Rat} {y : Sl} {m : List Rat} {K M : Nat} (d : Dat u w) (hx : PolV u x l K) (hy : PolV u y m M) (hK : K ≤ 40000000) (hM : M ≤ 40000000) (hx9 : l.length ≤ 1000000000) (hy9 : m.length ≤ 1000000000) : Calls Tryz.prog 22 #[x.v, y.v] w (Post u w fun v u' => v = .bool (decide (Nt.trimQ l = Nt.trimQ m))) := by
 have hlen := hx.len
 have hlen2 := hy.len
 have htl := Nt.zzg l
 have htm := Nt.zzg m
 refine zzl (args := [.slice x.a x.n x.c, .slice y.a y.n y.c]) Tryz.func22 rfl Tryz.ntmps22 (rs := [.tmp 4]) Tryz.results22 (le_b rfl) (le_b rfl) d ?_
 refine sq9 ?_
 refine zza 4 (.v (.bool false)) ?_
 refine zzb 10 [(0, .v x.v), (1, .v y.v)] [] ?_
 refine sq9 ?_
 refine zza 5 (.v x.v) ?_
 refine zzf 6 53 [x.v] ?_
 intro w11 u11 e11 d11
 have k16 := k_r5Trim d11 (hx.ext e11) (by omega) (by first|omega|(simp;omega) | (refine Nat.le_trans (Nt.zzg _) ?_; first|omega|(simp;omega)) | (refine Nat.le_trans (Nt.zzg _) ?_; simp only [List.length_map]; refine Nat.le_trans (Nt.zzg _) ?_; first|omega|(simp;omega)))
 with_reducible refine Post.mono k16 ?_
 rintro _ u14 g15 ⟨y12, rfl, h13⟩
 have hly12 := h13.len
 refine zza 7 (.v y.v) ?_
 refine zzf 8 53 [y.v] ?_
 intro w17 u17 e17 d17
 have k22 := k_r5Trim d17 (hy.ext (e11.trans (g15.ext.trans e17))) (by omega) (by first|omega|(simp;omega) | (refine Nat.le_trans (Nt.zzg _) ?_; first|omega|(simp;omega)) | (refine Nat.le_trans (Nt.zzg _) ?_; simp only [List.length_map]; refine Nat.le_trans (Nt.zzg _) ?_; first|omega|(simp;omega)))
 with_reducible refine Post.mono k22 ?_
 rintro _ u20 g21 ⟨y18, rfl, h19⟩
 have hly18 := h19.len
 refine zzf 9 62 [y12.v, y18.v] ?_
 intro w23 u23 e23 d23
 have k26 := k_r5Equal d23 (h13.ext (e17.trans (g21.ext.trans e23))) (h19.ext e23) (by first|omega|(simp;omega) | (refine Nat.le_trans (Nt.zzg _) ?_; first|omega|(simp;omega)) | (refine Nat.le_trans (Nt.zzg _) ?_; simp only [List.length_map]; refine Nat.le_trans (Nt.zzg _) ?_; first|omega|(simp;omega))) (by first|omega|(simp;omega) | (refine Nat.le_trans (Nt.zzg _) ?_; first|omega|(simp;omega)) | (refine Nat.le_trans (Nt.zzg _) ?_; simp only [List.length_map]; refine Nat.le_trans (Nt.zzg _) ?_; first|omega|(simp;omega)))
 with_reducible refine Post.mono k26 ?_
 rintro _ u24 g25 rfl
 refine zza 4 (.v (.bool (decide ((Nt.trimQ l) = (Nt.trimQ m))))) ?_
 refine zzb 10 [(4, .v (.bool (decide ((Nt.trimQ l) = (Nt.trimQ m)))))] [] ?_
 refine zzn (ret0 [.bool (decide ((Nt.trimQ l) = (Nt.trimQ m)))] ⟨zzp, trivial⟩ fun u27 e28 => ?_)
 rfl
set_option maxHeartbeats 1000000 in
theorem k_r5Degree {u w : World} {x : Sl} {l : List Rat} {K : Nat} (d : Dat u w) (hx : PolV u x l K) (hK : K ≤ 40000000) (hx9 : l.length ≤ 1000000000) : Calls Tryz.prog 17 #[x.v] w (Post u w fun v u' => v = .int .i64 (((Nt.trimQ l).length : Int) - 1)) := by
 have hlen := hx.len
 have htl := Nt.zzg l
 refine zzl (args := [.slice x.a x.n x.c]) Tryz.func17 rfl Tryz.ntmps17 (rs := [.tmp 2]) Tryz.results17 (le_b rfl) (le_b rfl) d ?_
 refine sq9 ?_
 refine zza 2 (.v (.int .i64 0)) ?_
 refine zzb 7 [(0, .v x.v)] [] ?_
 refine sq9 ?_
 refine zza 3 (.v x.v) ?_
 refine zzf 4 53 [x.v] ?_
 intro w11 u11 e11 d11
 have k16 := k_r5Trim d11 (hx.ext e11) (by omega) (by first|omega|(simp;omega) | (refine Nat.le_trans (Nt.zzg _) ?_; first|omega|(simp;omega)) | (refine Nat.le_trans (Nt.zzg _) ?_; simp only [List.length_map]; refine Nat.le_trans (Nt.zzg _) ?_; first|omega|(simp;omega)))
 with_reducible refine Post.mono k16 ?_
 rintro _ u14 g15 ⟨y12, rfl, h13⟩
 have hly12 := h13.len
 refine zza 5 (.v (.int .i64 (y12.n : Int))) ?_
 refine zyp 6 (x := .v (.int .i64 (IntKind.i64.wrap ((y12.n : Int) - 1)))) (.v (.int .i64 ((y12.n : Int) - 1))) (eqI (by rw [IntWalk.i64_in _ (by omega)])) ?_
 refine zza 2 (.v (.int .i64 ((y12.n : Int) - 1))) ?_
 refine zzb 7 [(2, .v (.int .i64 ((y12.n : Int) - 1)))] [] ?_
 refine zzn (ret0 [.int .i64 ((y12.n : Int) - 1)] ⟨zzp, trivial⟩ fun u17 e18 => ?_)
 show Value.int _ _ = Value.int _ _
 rw [show ((y12.n : Int) - 1) = (((Nt.trimQ l).length : Int) - 1) by omega]
set_option maxHeartbeats 1000000 in
theorem k_r5At {u w : World} {x : Sl} {l : List Rat} {K i : Nat} (d : Dat u w) (hx : PolV u x l K) (hK : K ≤ 40000000) (hx9 : l.length ≤ 1000000000) (hi9 : i ≤ 1000000000) : Calls Tryz.prog 60 #[x.v, .int .i64 (i : Int)] w (Post u w fun v u' => ∃ r : RL, v = r.v ∧ RatN u' r (l.getD i 0) (K + 2)) := by
 have hlen := hx.len
 refine zzl (args := [.slice x.a x.n x.c, .int .i64 (i : Int)]) Tryz.func60 rfl Tryz.ntmps60 (rs := [.cell 4 29]) Tryz.results60 (le_b rfl) (le_b rfl) d ?_
 refine sq9 ?_
 refine zzj 4 ⟨29, [.bool false, .slice none 0 0, .slice none 0 0]⟩ ?_
 refine zzb 19 [(0, .v x.v), (1, .v (.int .i64 (i : Int))), (4, .adr 4 0)] [(4, ⟨29, [.bool false, .slice none 0 0, .slice none 0 0]⟩)] ?_
 refine zzc ?_
 refine sq9 ?_
 refine zza 5 (.v (.int .i64 (i : Int))) ?_
 refine zza 6 (.v (.bool (decide ((i : Int) < 0)))) ?_
 refine zyp 7 (x := .v (.bool (decide ((i : Int) < 0)))) (.v (.bool false)) (by rw [show (decide ((i : Int) < 0)) = false from decide_eq_false (by omega)]) ?_
 refine zza 8 (.v (.int .i64 (i : Int))) ?_ (hw := w1 2 false 7)
 refine zza 9 (.v x.v) ?_ (hw := w1 2 false 7)
 refine zza 10 (.v (.int .i64 (x.n : Int))) ?_ (hw := w1 2 false 7)
 refine zza 11 (.v (.bool (decide ((x.n : Int) ≤ (i : Int))))) ?_ (hw := w1 2 false 7)
 refine zza 12 (.v (.bool (decide ((x.n : Int) ≤ (i : Int))))) ?_
 refine zzb 19 [(0, .v x.v), (1, .v (.int .i64 (i : Int))), (4, .adr 4 0), (12, .v (.bool (decide ((x.n : Int) ≤ (i : Int)))))] [(4, ⟨29, [.bool false, .slice none 0 0, .slice none 0 0]⟩)] ?_
 refine zzt (b := decide ((x.n : Int) ≤ (i : Int))) (by kernel_rfl) (fun hb12 => ?_) (fun hb12 => ?_)
 ·replace hb12 : (decide ((x.n : Int) ≤ (i : Int))) = true := hb12
  have qhb12 := of_decide_eq_true hb12
  refine sq9 ?_
  refine zzf 13 19 [.int .i64 0] ?_
  intro w13 u13 e13 d13
  have k18 := k_rqOf d13 (z := 0) (by omega) (by omega)
  with_reducible refine Post.mono k18 ?_
  rintro _ u16 g17 ⟨r14, rfl, h15⟩
  refine zzi ⟨29, r14.cs⟩ ty29 ?_
  refine zzb 19 [(4, .adr 4 0)] [(4, ⟨29, r14.cs⟩)] ?_
  refine zzn (zzv (ret0 [r14.v] ⟨zzq ty29 zzd, trivial⟩ fun u19 e20 => ?_))
  have e9 : l.getD i 0 = ((0 : Int) : Rat) := Nt.co_ge (by omega)
  rw [e9]
  exact ⟨r14, rfl, RatN.more (K := 2) (h15.ext e20) (by omega)⟩
 ·replace hb12 : (decide ((x.n : Int) ≤ (i : Int))) = false := hb12
  have qhb12 := of_decide_eq_false hb12
  refine zzr (zzo ?_)
  refine sq9 ?_
  refine zza 14 (.v x.v) ?_
  refine zza 15 (.v (.int .i64 (i : Int))) ?_
  have hl21 := hx.len
  obtain ⟨r21, b21, o21, hA21, hc21, hr21⟩ := pol_at hx (i := i) (by omega)
  refine zzz 16 (o21 + i * 3) (n := x.n) (off := o21) (sz := 3) (i := (i : Int)) (by omega) hA21 (by omega) (by omega) sl32 ?_
  refine zyl 17 r21.cs hc21 ty29 ?_
  refine zzf 18 120 [r21.v] ?_
  intro w22 u22 e22 d22
  have k27 := k_rqTrim d22 (hr21.ext e22) (by omega)
  with_reducible refine Post.mono k27 ?_
  rintro _ u25 g26 ⟨r23, rfl, h24⟩
  refine zzi ⟨29, r23.cs⟩ ty29 ?_
  refine zzb 19 [(4, .adr 4 0)] [(4, ⟨29, r23.cs⟩)] ?_
  refine zzn (ret0 [r23.v] ⟨zzq ty29 zzd, trivial⟩ fun u28 e29 => ?_)
  exact ⟨r23, rfl, RatN.more (K := K) (h24.ext e29) (by omega)⟩
set_option maxHeartbeats 4000000 in
theorem k_r5Add {u w : World} {x : Sl} {l : List Rat} {y : Sl} {m : List Rat} {K M : Nat} (d : Dat u w) (hx : PolV u x l K) (hy : PolV u y m M) (hK : K ≤ 20000000) (hM : M ≤ 20000000) (hx9 : l.length ≤ 1000000000) (hy9 : m.length ≤ 1000000000) : Calls Tryz.prog 20 #[x.v, y.v] w (Post u w fun v u' => ∃ y : Sl, v = y.v ∧ PolN u' y (Nt.trimQ (Nt.addQ l m)) (K + M + 6)) := by
 have hlen := hx.len
 have hlen2 := hy.len
 refine zzl (args := [.slice x.a x.n x.c, .slice y.a y.n y.c]) Tryz.func20 rfl Tryz.ntmps20 (rs := [.tmp 4]) Tryz.results20 (le_b rfl) (le_b rfl) d ?_
 refine sq9 ?_
 refine zza 4 (.v (.slice none 0 0)) ?_
 refine zzb 31 [(0, .v x.v), (1, .v y.v)] [] ?_
 refine sq9 ?_
 refine zza 5 (.v (.slice none 0 0)) ?_
 refine zzb 31 [(0, .v x.v), (1, .v y.v), (5, .v (.slice none 0 0))] [] ?_
 refine zzc ?_
 refine sq9 ?_
 refine zza 6 (.v (.int .i64 0)) ?_
 refine zzb 31 [(0, .v x.v), (1, .v y.v), (5, .v (.slice none 0 0)), (6, .v (.int .i64 0))] [] ?_
 refine zzs ?_
 refine zym (I := fun m11 S' u' => (m11 = max x.n y.n ∧ S' = St.of 31 [(0, .v (.slice x.a x.n x.c)), (1, .v (.slice y.a y.n y.c)), (5, .v (.slice none 0 0)), (6, .v (.int .i64 0))] [] ∧ Ext u u') ∨ (∃ (i : Nat) (L : List RL) (cs : List Value) (cp : Nat), m11 = (max x.n y.n) - i ∧ i ≤ max x.n y.n ∧ 0 < i ∧ L.length = i ∧ cs.length = cp * 3 ∧ i ≤ cp ∧ cp ≤ maxLen ∧ cs.take (i * 3) = rcs L ∧ S' = St.of 31 [(0, .v (.slice x.a x.n x.c)), (1, .v (.slice y.a y.n y.c)), (5, .slc 28 0 i cp), (6, .v (.int .i64 (i : Int)))] [(28, ⟨29, cs⟩)] ∧ Ext u u' ∧ RatsN u' L ((Nt.addQ l m).take i) (K + M + 6))) (fun m S u1 u2 e h => by rcases h with ⟨a, b, c⟩ | ⟨a1, a2, a3, a4, b1, b2, b3, b4, b5, b6, b7, b8, b9, b10, b11⟩; exact .inl ⟨a, b, c.trans e⟩; exact .inr ⟨a1, a2, a3, a4, b1, b2, b3, b4, b5, b6, b7, b8, b9, b10.trans e, b11.ext e⟩) _ (T := St.of 31 [(0, .v (.slice x.a x.n x.c)), (1, .v (.slice y.a y.n y.c)), (5, .v (.slice none 0 0)), (6, .v (.int .i64 0))] []) (by exact zzu _ _ _) (.inl ⟨rfl, rfl, Ext.refl _⟩) ?_
 rintro m11 _ u11 (⟨hm11, rfl, e11⟩ | ⟨i, L, cs, cp, hm11, hi, hp, hL, hc, hle, hmx, ht, rfl, e11, hR⟩)
 ·change SW _ _ _ _ (St.of 31 [(0, .v (.slice x.a x.n x.c)), (1, .v (.slice y.a y.n y.c)), (5, .v (.slice none 0 0)), (6, .v (.int .i64 0))] []) _ _
  refine zzc ?_
  refine sq9 ?_
  refine zza 7 (.v (.int .i64 0)) ?_
  refine zza 8 (.v x.v) ?_
  refine zza 9 (.v (.int .i64 (x.n : Int))) ?_
  refine zza 10 (.v (.bool (decide ((0 : Int) < (x.n : Int))))) ?_
  rcases Bool.eq_false_or_eq_true (decide ((0 : Int) < (x.n : Int))) with hs12 | hs12
  ·refine zyp 11 (x := .v (.bool (decide ((0 : Int) < (x.n : Int))))) (.v (.bool true)) (by rw [hs12]) ?_
   have qhs12 := of_decide_eq_true hs12
   refine zzm 12 (uw 4 false true 11) ?_
   refine zzm 13 (uw 4 false true 11) ?_
   refine zzm 14 (uw 4 false true 11) ?_
   refine zzm 15 (uw 4 false true 11) ?_
   refine zza 16 (.v (.bool true)) ?_
   refine zzb 31 [(0, .v x.v), (1, .v y.v), (5, .v (.slice none 0 0)), (6, .v (.int .i64 0)), (16, .v (.bool true))] [] ?_
   refine zyq (by kernel_rfl) ?_
   refine zzr (zzo ?_)
   refine zzc ?_
   refine zzs ?_
   refine zze ?_
   refine zza 19 (.v (.slice none 0 0)) ?_
   refine zza 20 (.v x.v) ?_
   refine zza 21 (.v (.int .i64 0)) ?_
   refine zzf 22 60 [x.v, .int .i64 0] ?_
   intro w13 u13 e13 d13
   have k18 := (show Calls _ _ #[_, .int .i64 (0)] _ _ from k_r5At (i := 0) d13 (hx.ext (e11.trans e13)) (by omega) (by first|omega|(simp;omega) | (refine Nat.le_trans (Nt.zzg _) ?_; first|omega|(simp;omega)) | (refine Nat.le_trans (Nt.zzg _) ?_; simp only [List.length_map]; refine Nat.le_trans (Nt.zzg _) ?_; first|omega|(simp;omega))) (by omega))
   with_reducible refine Post.mono k18 ?_
   rintro _ u16 g17 ⟨r14, rfl, h15⟩
   refine zza 23 (.v y.v) ?_
   refine zza 24 (.v (.int .i64 0)) ?_
   refine zzf 25 60 [y.v, .int .i64 0] ?_
   intro w19 u19 e19 d19
   have k24 := (show Calls _ _ #[_, .int .i64 (0)] _ _ from k_r5At (i := 0) d19 (hy.ext (e11.trans (e13.trans (g17.ext.trans e19)))) (by omega) (by first|omega|(simp;omega) | (refine Nat.le_trans (Nt.zzg _) ?_; first|omega|(simp;omega)) | (refine Nat.le_trans (Nt.zzg _) ?_; simp only [List.length_map]; refine Nat.le_trans (Nt.zzg _) ?_; first|omega|(simp;omega))) (by omega))
   with_reducible refine Post.mono k24 ?_
   rintro _ u22 g23 ⟨r20, rfl, h21⟩
   refine zzf 26 59 [r14.v, r20.v] ?_
   intro w25 u25 e25 d25
   have k30 := k_rqAdd d25 (h15.ext (e19.trans (g23.ext.trans e25))).raw (h21.ext e25).raw (by omega) (by omega)
   with_reducible refine Post.mono k30 ?_
   rintro _ u28 g29 ⟨r26, rfl, h27⟩
   refine sy_data 27 ⟨29, r26.cs⟩ 1 (fun b31 u32 e33 h34 => ?_)
   have hp35 : PolN u32 (⟨some ⟨b31, 0, none⟩, 1, 1⟩ : Sl) [((l.getD 0 0) + (m.getD 0 0))] ((K + 2) + (M + 2) + 2) := pol_lit (L := [r26]) h34 (rats1 (h27.ext e33)) rfl (by decide)
   refine sy_app0 28 (T := 32) (E := 29) (z := .agg #[.bool false, .slice none 0 0, .slice none 0 0]) (size := 3) (bytes := 56) (b := b31) (off := 0) (m := 1) r26.cs (by kernel_rfl) (by kernel_rfl) (by kernel_rfl) (by decide) rfl (lit_news ((Ext.refl _).cells h34)) (rl_one r26) (by decide) (by decide) (by decide) ?_
   intro c36 cs36 ha36 hb36 hc36 hd36
   refine zza 5 (.slc 28 0 1 c36) ?_
   refine zzw ?_
   refine zzo ?_
   refine zze ?_
   refine zza 17 (.v (.int .i64 0)) ?_
   refine zza 18 (.v (.int .i64 1)) ?_
   refine zza 6 (.v (.int .i64 1)) ?_
   refine zzw ?_
   have ht37 : 0 < (Nt.addQ l m).length := by rw [Nt.addQ_len]; omega
   refine ⟨_, ?_, St.of 31 [(0, .v (.slice x.a x.n x.c)), (1, .v (.slice y.a y.n y.c)), (5, .slc 28 0 1 c36), (6, .v (.int .i64 1))] [(28, ⟨29, cs36⟩)], by exact zzu _ _ _, .inr ⟨1, [r26], cs36, c36, rfl, by omega, by omega, by simp, hc36, by omega, hb36, hd36, rfl, (e11.trans (e13.trans (g17.ext.trans (e19.trans (g23.ext.trans (e25.trans (g29.ext.trans e33))))))), (app_first (RatN.more (K := ((K + 2) + (M + 2) + 2)) (h27.ext e33) (by omega)) ht37 (by have h9 := Nt.addQ_co l m (0); unfold Nt.co at h9; exact h9.symm))⟩⟩
   omega
  ·refine zyp 11 (x := .v (.bool (decide ((0 : Int) < (x.n : Int))))) (.v (.bool false)) (by rw [hs12]) ?_
   have qhs12 := of_decide_eq_false hs12
   refine zza 12 (.v (.int .i64 0)) ?_ (hw := w1 4 false 11)
   refine zza 13 (.v y.v) ?_ (hw := w1 4 false 11)
   refine zza 14 (.v (.int .i64 (y.n : Int))) ?_ (hw := w1 4 false 11)
   refine zza 15 (.v (.bool (decide ((0 : Int) < (y.n : Int))))) ?_ (hw := w1 4 false 11)
   refine zza 16 (.v (.bool (decide ((0 : Int) < (y.n : Int))))) ?_
   refine zzb 31 [(0, .v x.v), (1, .v y.v), (5, .v (.slice none 0 0)), (6, .v (.int .i64 0)), (16, .v (.bool (decide ((0 : Int) < (y.n : Int)))))] [] ?_
   refine zzt (b := decide ((0 : Int) < (y.n : Int))) (by kernel_rfl) (fun hb38 => ?_) (fun hb38 => ?_)
   ·replace hb38 : (decide ((0 : Int) < (y.n : Int))) = true := hb38
    have qhb38 := of_decide_eq_true hb38
    refine zzr (zzo ?_)
    refine zzc ?_
    refine zzs ?_
    refine zze ?_
    refine zza 19 (.v (.slice none 0 0)) ?_
    refine zza 20 (.v x.v) ?_
    refine zza 21 (.v (.int .i64 0)) ?_
    refine zzf 22 60 [x.v, .int .i64 0] ?_
    intro w39 u39 e39 d39
    have k44 := (show Calls _ _ #[_, .int .i64 (0)] _ _ from k_r5At (i := 0) d39 (hx.ext (e11.trans e39)) (by omega) (by first|omega|(simp;omega) | (refine Nat.le_trans (Nt.zzg _) ?_; first|omega|(simp;omega)) | (refine Nat.le_trans (Nt.zzg _) ?_; simp only [List.length_map]; refine Nat.le_trans (Nt.zzg _) ?_; first|omega|(simp;omega))) (by omega))
    with_reducible refine Post.mono k44 ?_
    rintro _ u42 g43 ⟨r40, rfl, h41⟩
    refine zza 23 (.v y.v) ?_
    refine zza 24 (.v (.int .i64 0)) ?_
    refine zzf 25 60 [y.v, .int .i64 0] ?_
    intro w45 u45 e45 d45
    have k50 := (show Calls _ _ #[_, .int .i64 (0)] _ _ from k_r5At (i := 0) d45 (hy.ext (e11.trans (e39.trans (g43.ext.trans e45)))) (by omega) (by first|omega|(simp;omega) | (refine Nat.le_trans (Nt.zzg _) ?_; first|omega|(simp;omega)) | (refine Nat.le_trans (Nt.zzg _) ?_; simp only [List.length_map]; refine Nat.le_trans (Nt.zzg _) ?_; first|omega|(simp;omega))) (by omega))
    with_reducible refine Post.mono k50 ?_
    rintro _ u48 g49 ⟨r46, rfl, h47⟩
    refine zzf 26 59 [r40.v, r46.v] ?_
    intro w51 u51 e51 d51
    have k56 := k_rqAdd d51 (h41.ext (e45.trans (g49.ext.trans e51))).raw (h47.ext e51).raw (by omega) (by omega)
    with_reducible refine Post.mono k56 ?_
    rintro _ u54 g55 ⟨r52, rfl, h53⟩
    refine sy_data 27 ⟨29, r52.cs⟩ 1 (fun b57 u58 e59 h60 => ?_)
    have hp61 : PolN u58 (⟨some ⟨b57, 0, none⟩, 1, 1⟩ : Sl) [((l.getD 0 0) + (m.getD 0 0))] ((K + 2) + (M + 2) + 2) := pol_lit (L := [r52]) h60 (rats1 (h53.ext e59)) rfl (by decide)
    refine sy_app0 28 (T := 32) (E := 29) (z := .agg #[.bool false, .slice none 0 0, .slice none 0 0]) (size := 3) (bytes := 56) (b := b57) (off := 0) (m := 1) r52.cs (by kernel_rfl) (by kernel_rfl) (by kernel_rfl) (by decide) rfl (lit_news ((Ext.refl _).cells h60)) (rl_one r52) (by decide) (by decide) (by decide) ?_
    intro c62 cs62 ha62 hb62 hc62 hd62
    refine zza 5 (.slc 28 0 1 c62) ?_
    refine zzw ?_
    refine zzo ?_
    refine zze ?_
    refine zza 17 (.v (.int .i64 0)) ?_
    refine zza 18 (.v (.int .i64 1)) ?_
    refine zza 6 (.v (.int .i64 1)) ?_
    refine zzw ?_
    have ht63 : 0 < (Nt.addQ l m).length := by rw [Nt.addQ_len]; omega
    refine ⟨_, ?_, St.of 31 [(0, .v (.slice x.a x.n x.c)), (1, .v (.slice y.a y.n y.c)), (5, .slc 28 0 1 c62), (6, .v (.int .i64 1))] [(28, ⟨29, cs62⟩)], by exact zzu _ _ _, .inr ⟨1, [r52], cs62, c62, rfl, by omega, by omega, by simp, hc62, by omega, hb62, hd62, rfl, (e11.trans (e39.trans (g43.ext.trans (e45.trans (g49.ext.trans (e51.trans (g55.ext.trans e59))))))), (app_first (RatN.more (K := ((K + 2) + (M + 2) + 2)) (h53.ext e59) (by omega)) ht63 (by have h9 := Nt.addQ_co l m (0); unfold Nt.co at h9; exact h9.symm))⟩⟩
    omega
   ·replace hb38 : (decide ((0 : Int) < (y.n : Int))) = false := hb38
    have qhb38 := of_decide_eq_false hb38
    refine zyb ?_
    refine zzo ?_
    refine zzc ?_
    have hp64 : PolN u11 ⟨none, 0, 0⟩ (Nt.addQ l m) (K + M + 6) := by have h9 : Nt.addQ l m = [] := List.eq_nil_of_length_eq_zero (by rw [Nt.addQ_len]; omega); rw [h9]; exact pol_nil _ _
    refine zze ?_
    refine zza 29 (.v (.slice none 0 0)) ?_
    refine zzf 30 53 [.slice none 0 0] ?_
    intro w65 u65 e65 d65
    have k70 := k_r5Trim d65 (hp64.ext e65).raw (by omega) (by first|omega|(simp;omega) | (refine Nat.le_trans (Nt.zzg _) ?_; first|omega|(simp;omega)) | (refine Nat.le_trans (Nt.zzg _) ?_; simp only [List.length_map]; refine Nat.le_trans (Nt.zzg _) ?_; first|omega|(simp;omega)))
    with_reducible refine Post.mono k70 ?_
    rintro _ u68 g69 ⟨y66, rfl, h67⟩
    have hly66 := h67.len
    refine zza 4 (.v y66.v) ?_
    refine zzb 31 [(4, .v y66.v)] [] ?_
    refine zzn (ret0 [.slice y66.a y66.n y66.c] ⟨zzp, trivial⟩ fun u71 e72 => ?_)
    refine ⟨y66, rfl, ?_⟩
    exact (h67.ext e72)
 ·change SW _ _ _ _ (St.of 31 [(0, .v (.slice x.a x.n x.c)), (1, .v (.slice y.a y.n y.c)), (5, .slc 28 0 i cp), (6, .v (.int .i64 (i : Int)))] [(28, ⟨29, cs⟩)]) _ _
  refine zzc ?_
  refine sq9 ?_
  refine zza 7 (.v (.int .i64 (i : Int))) ?_
  refine zza 8 (.v x.v) ?_
  refine zza 9 (.v (.int .i64 (x.n : Int))) ?_
  refine zza 10 (.v (.bool (decide ((i : Int) < (x.n : Int))))) ?_
  rcases Bool.eq_false_or_eq_true (decide ((i : Int) < (x.n : Int))) with hs73 | hs73
  ·refine zyp 11 (x := .v (.bool (decide ((i : Int) < (x.n : Int))))) (.v (.bool true)) (by rw [hs73]) ?_
   have qhs73 := of_decide_eq_true hs73
   refine zzm 12 (uw 4 false true 11) ?_
   refine zzm 13 (uw 4 false true 11) ?_
   refine zzm 14 (uw 4 false true 11) ?_
   refine zzm 15 (uw 4 false true 11) ?_
   refine zza 16 (.v (.bool true)) ?_
   refine zzb 31 [(0, .v x.v), (1, .v y.v), (5, .slc 28 0 i cp), (6, .v (.int .i64 (i : Int))), (16, .v (.bool true))] [(28, ⟨29, cs⟩)] ?_
   refine zyq (by kernel_rfl) ?_
   refine zzr (zzo ?_)
   refine zzc ?_
   refine zzs ?_
   refine zze ?_
   refine zza 19 (.slc 28 0 i cp) ?_
   refine zza 20 (.v x.v) ?_
   refine zza 21 (.v (.int .i64 (i : Int))) ?_
   refine zzf 22 60 [x.v, .int .i64 (i : Int)] ?_
   intro w74 u74 e74 d74
   have k79 := (show Calls _ _ #[_, .int .i64 ((i : Int))] _ _ from k_r5At (i := i) d74 (hx.ext (e11.trans e74)) (by omega) (by first|omega|(simp;omega) | (refine Nat.le_trans (Nt.zzg _) ?_; first|omega|(simp;omega)) | (refine Nat.le_trans (Nt.zzg _) ?_; simp only [List.length_map]; refine Nat.le_trans (Nt.zzg _) ?_; first|omega|(simp;omega))) (by omega))
   with_reducible refine Post.mono k79 ?_
   rintro _ u77 g78 ⟨r75, rfl, h76⟩
   refine zza 23 (.v y.v) ?_
   refine zza 24 (.v (.int .i64 (i : Int))) ?_
   refine zzf 25 60 [y.v, .int .i64 (i : Int)] ?_
   intro w80 u80 e80 d80
   have k85 := (show Calls _ _ #[_, .int .i64 ((i : Int))] _ _ from k_r5At (i := i) d80 (hy.ext (e11.trans (e74.trans (g78.ext.trans e80)))) (by omega) (by first|omega|(simp;omega) | (refine Nat.le_trans (Nt.zzg _) ?_; first|omega|(simp;omega)) | (refine Nat.le_trans (Nt.zzg _) ?_; simp only [List.length_map]; refine Nat.le_trans (Nt.zzg _) ?_; first|omega|(simp;omega))) (by omega))
   with_reducible refine Post.mono k85 ?_
   rintro _ u83 g84 ⟨r81, rfl, h82⟩
   refine zzf 26 59 [r75.v, r81.v] ?_
   intro w86 u86 e86 d86
   have k91 := k_rqAdd d86 (h76.ext (e80.trans (g84.ext.trans e86))).raw (h82.ext e86).raw (by omega) (by omega)
   with_reducible refine Post.mono k91 ?_
   rintro _ u89 g90 ⟨r87, rfl, h88⟩
   refine sy_data 27 ⟨29, r87.cs⟩ 1 (fun b92 u93 e94 h95 => ?_)
   have hp96 : PolN u93 (⟨some ⟨b92, 0, none⟩, 1, 1⟩ : Sl) [((l.getD i 0) + (m.getD i 0))] ((K + 2) + (M + 2) + 2) := pol_lit (L := [r87]) h95 (rats1 (h88.ext e94)) rfl (by decide)
   refine sy_app1 28 (T := 32) (E := 29) (z := .agg #[.bool false, .slice none 0 0, .slice none 0 0]) (size := 3) (bytes := 56) (b := b92) (off := 0) (m := 1) (n := i) (cap := cp) (t := 28) (cs0 := cs) [5, 19, 28] r87.cs (by kernel_rfl) (by kernel_rfl) (by kernel_rfl) (by decide) rfl (lit_news ((Ext.refl _).cells h95)) (rl_one r87) (by decide) (by unfold maxLen; omega) (by omega) (by omega) (by omega) (by omega) (by repeat first | exact noAt_of | refine zyc ?_ | refine zye ?_ | refine zyd ?_ | refine zzx ?_ | refine zya ?_) ?_
   intro c97 cs97 ha97 hb97 hc97 hd97
   have hd97r : cs97.take ((i + 1) * 3) = rcs (L ++ [r87]) := by rw [hd97, ht, rcs_app]; rfl
   refine zza 5 (.slc 28 0 (i + 1) c97) ?_
   refine zzw ?_
   refine zzo ?_
   refine zze ?_
   refine zza 17 (.v (.int .i64 (i : Int))) ?_
   refine zyp 18 (x := .v (.int .i64 (IntKind.i64.wrap ((i : Int) + 1)))) (.v (.int .i64 ((i + 1 : Nat) : Int))) (eqI (by rw [IntWalk.i64_in _ (by omega)]; omega)) ?_
   refine zza 6 (.v (.int .i64 ((i + 1 : Nat) : Int))) ?_
   refine zzw ?_
   have ht98 : i < (Nt.addQ l m).length := by rw [Nt.addQ_len]; omega
   refine ⟨_, ?_, St.of 31 [(0, .v (.slice x.a x.n x.c)), (1, .v (.slice y.a y.n y.c)), (5, .slc 28 0 (i + 1) c97), (6, .v (.int .i64 ((i + 1 : Nat) : Int)))] [(28, ⟨29, cs97⟩)], by exact zzu _ _ _, .inr ⟨i + 1, L ++ [r87], cs97, c97, rfl, by omega, by omega, by simp; omega, hc97, by omega, hb97, hd97r, rfl, (e11.trans (e74.trans (g78.ext.trans (e80.trans (g84.ext.trans (e86.trans (g90.ext.trans e94))))))), (app_next (hR.ext (e74.trans (g78.ext.trans (e80.trans (g84.ext.trans (e86.trans (g90.ext.trans e94))))))) (RatN.more (K := ((K + 2) + (M + 2) + 2)) (h88.ext e94) (by omega)) ht98 (by have h9 := Nt.addQ_co l m (i); unfold Nt.co at h9; exact h9.symm))⟩⟩
   omega
  ·refine zyp 11 (x := .v (.bool (decide ((i : Int) < (x.n : Int))))) (.v (.bool false)) (by rw [hs73]) ?_
   have qhs73 := of_decide_eq_false hs73
   refine zza 12 (.v (.int .i64 (i : Int))) ?_ (hw := w1 4 false 11)
   refine zza 13 (.v y.v) ?_ (hw := w1 4 false 11)
   refine zza 14 (.v (.int .i64 (y.n : Int))) ?_ (hw := w1 4 false 11)
   refine zza 15 (.v (.bool (decide ((i : Int) < (y.n : Int))))) ?_ (hw := w1 4 false 11)
   refine zza 16 (.v (.bool (decide ((i : Int) < (y.n : Int))))) ?_
   refine zzb 31 [(0, .v x.v), (1, .v y.v), (5, .slc 28 0 i cp), (6, .v (.int .i64 (i : Int))), (16, .v (.bool (decide ((i : Int) < (y.n : Int)))))] [(28, ⟨29, cs⟩)] ?_
   refine zzt (b := decide ((i : Int) < (y.n : Int))) (by kernel_rfl) (fun hb99 => ?_) (fun hb99 => ?_)
   ·replace hb99 : (decide ((i : Int) < (y.n : Int))) = true := hb99
    have qhb99 := of_decide_eq_true hb99
    refine zzr (zzo ?_)
    refine zzc ?_
    refine zzs ?_
    refine zze ?_
    refine zza 19 (.slc 28 0 i cp) ?_
    refine zza 20 (.v x.v) ?_
    refine zza 21 (.v (.int .i64 (i : Int))) ?_
    refine zzf 22 60 [x.v, .int .i64 (i : Int)] ?_
    intro w100 u100 e100 d100
    have k105 := (show Calls _ _ #[_, .int .i64 ((i : Int))] _ _ from k_r5At (i := i) d100 (hx.ext (e11.trans e100)) (by omega) (by first|omega|(simp;omega) | (refine Nat.le_trans (Nt.zzg _) ?_; first|omega|(simp;omega)) | (refine Nat.le_trans (Nt.zzg _) ?_; simp only [List.length_map]; refine Nat.le_trans (Nt.zzg _) ?_; first|omega|(simp;omega))) (by omega))
    with_reducible refine Post.mono k105 ?_
    rintro _ u103 g104 ⟨r101, rfl, h102⟩
    refine zza 23 (.v y.v) ?_
    refine zza 24 (.v (.int .i64 (i : Int))) ?_
    refine zzf 25 60 [y.v, .int .i64 (i : Int)] ?_
    intro w106 u106 e106 d106
    have k111 := (show Calls _ _ #[_, .int .i64 ((i : Int))] _ _ from k_r5At (i := i) d106 (hy.ext (e11.trans (e100.trans (g104.ext.trans e106)))) (by omega) (by first|omega|(simp;omega) | (refine Nat.le_trans (Nt.zzg _) ?_; first|omega|(simp;omega)) | (refine Nat.le_trans (Nt.zzg _) ?_; simp only [List.length_map]; refine Nat.le_trans (Nt.zzg _) ?_; first|omega|(simp;omega))) (by omega))
    with_reducible refine Post.mono k111 ?_
    rintro _ u109 g110 ⟨r107, rfl, h108⟩
    refine zzf 26 59 [r101.v, r107.v] ?_
    intro w112 u112 e112 d112
    have k117 := k_rqAdd d112 (h102.ext (e106.trans (g110.ext.trans e112))).raw (h108.ext e112).raw (by omega) (by omega)
    with_reducible refine Post.mono k117 ?_
    rintro _ u115 g116 ⟨r113, rfl, h114⟩
    refine sy_data 27 ⟨29, r113.cs⟩ 1 (fun b118 u119 e120 h121 => ?_)
    have hp122 : PolN u119 (⟨some ⟨b118, 0, none⟩, 1, 1⟩ : Sl) [((l.getD i 0) + (m.getD i 0))] ((K + 2) + (M + 2) + 2) := pol_lit (L := [r113]) h121 (rats1 (h114.ext e120)) rfl (by decide)
    refine sy_app1 28 (T := 32) (E := 29) (z := .agg #[.bool false, .slice none 0 0, .slice none 0 0]) (size := 3) (bytes := 56) (b := b118) (off := 0) (m := 1) (n := i) (cap := cp) (t := 28) (cs0 := cs) [5, 19, 28] r113.cs (by kernel_rfl) (by kernel_rfl) (by kernel_rfl) (by decide) rfl (lit_news ((Ext.refl _).cells h121)) (rl_one r113) (by decide) (by unfold maxLen; omega) (by omega) (by omega) (by omega) (by omega) (by repeat first | exact noAt_of | refine zyc ?_ | refine zye ?_ | refine zyd ?_ | refine zzx ?_ | refine zya ?_) ?_
    intro c123 cs123 ha123 hb123 hc123 hd123
    have hd123r : cs123.take ((i + 1) * 3) = rcs (L ++ [r113]) := by rw [hd123, ht, rcs_app]; rfl
    refine zza 5 (.slc 28 0 (i + 1) c123) ?_
    refine zzw ?_
    refine zzo ?_
    refine zze ?_
    refine zza 17 (.v (.int .i64 (i : Int))) ?_
    refine zyp 18 (x := .v (.int .i64 (IntKind.i64.wrap ((i : Int) + 1)))) (.v (.int .i64 ((i + 1 : Nat) : Int))) (eqI (by rw [IntWalk.i64_in _ (by omega)]; omega)) ?_
    refine zza 6 (.v (.int .i64 ((i + 1 : Nat) : Int))) ?_
    refine zzw ?_
    have ht124 : i < (Nt.addQ l m).length := by rw [Nt.addQ_len]; omega
    refine ⟨_, ?_, St.of 31 [(0, .v (.slice x.a x.n x.c)), (1, .v (.slice y.a y.n y.c)), (5, .slc 28 0 (i + 1) c123), (6, .v (.int .i64 ((i + 1 : Nat) : Int)))] [(28, ⟨29, cs123⟩)], by exact zzu _ _ _, .inr ⟨i + 1, L ++ [r113], cs123, c123, rfl, by omega, by omega, by simp; omega, hc123, by omega, hb123, hd123r, rfl, (e11.trans (e100.trans (g104.ext.trans (e106.trans (g110.ext.trans (e112.trans (g116.ext.trans e120))))))), (app_next (hR.ext (e100.trans (g104.ext.trans (e106.trans (g110.ext.trans (e112.trans (g116.ext.trans e120))))))) (RatN.more (K := ((K + 2) + (M + 2) + 2)) (h114.ext e120) (by omega)) ht124 (by have h9 := Nt.addQ_co l m (i); unfold Nt.co at h9; exact h9.symm))⟩⟩
    omega
   ·replace hb99 : (decide ((i : Int) < (y.n : Int))) = false := hb99
    have qhb99 := of_decide_eq_false hb99
    refine zyb ?_
    refine zzo ?_
    refine zzc ?_
    refine zyo (r := 5) (t := 28) [5, 28] (by repeat first | exact noAt_of | refine zyc ?_ | refine zye ?_ | refine zyd ?_ | refine zzx ?_ | refine zya ?_) (by kernel_rfl) (by rfl) (by rfl) (by kernel_rfl) (fun b126 u127 e128 hb129 hh130 => ?_)
    have hp125 : PolN u127 ⟨some ⟨b126, 0, none⟩, i, cp⟩ (Nt.addQ l m) (K + M + 6) := by have h8 := pol_data hh130 ht hc hle hmx (hR.ext e128); rw [List.take_of_length_le (l := Nt.addQ l m) (by rw [Nt.addQ_len]; omega)] at h8; exact h8
    refine zze ?_
    refine zza 29 (.v (.slice (some ⟨b126, 0, none⟩) i cp)) ?_
    refine zzf 30 53 [.slice (some ⟨b126, 0, none⟩) i cp] ?_
    intro w131 u131 e131 d131
    have k136 := k_r5Trim d131 (hp125.ext e131).raw (by omega) (by first|omega|(simp;omega) | (refine Nat.le_trans (Nt.zzg _) ?_; first|omega|(simp;omega)) | (refine Nat.le_trans (Nt.zzg _) ?_; simp only [List.length_map]; refine Nat.le_trans (Nt.zzg _) ?_; first|omega|(simp;omega)))
    with_reducible refine Post.mono k136 ?_
    rintro _ u134 g135 ⟨y132, rfl, h133⟩
    have hly132 := h133.len
    refine zza 4 (.v y132.v) ?_
    refine zzb 31 [(4, .v y132.v)] [] ?_
    refine zzn (ret0 [.slice y132.a y132.n y132.c] ⟨zzp, trivial⟩ fun u137 e138 => ?_)
    refine ⟨y132, rfl, ?_⟩
    exact (h133.ext e138)
set_option maxHeartbeats 1000000 in
theorem k_r5Sub {u w : World} {x : Sl} {l : List Rat} {y : Sl} {m : List Rat} {K M : Nat} (d : Dat u w) (hx : PolV u x l K) (hy : PolV u y m M) (hK : K ≤ 10000000) (hM : M ≤ 10000000) (hx9 : l.length ≤ 1000000000) (hy9 : m.length ≤ 1000000000) : Calls Tryz.prog 55 #[x.v, y.v] w (Post u w fun v u' => ∃ y : Sl, v = y.v ∧ PolN u' y (Nt.trimQ (Nt.addQ l (Nt.trimQ (m.map (· * (((-1) : Int) : Rat)))))) (K + M + 20)) := by
 have hlen := hx.len
 have hlen2 := hy.len
 refine zzl (args := [.slice x.a x.n x.c, .slice y.a y.n y.c]) Tryz.func55 rfl Tryz.ntmps55 (rs := [.tmp 4]) Tryz.results55 (le_b rfl) (le_b rfl) d ?_
 refine sq9 ?_
 refine zza 4 (.v (.slice none 0 0)) ?_
 refine zzb 10 [(0, .v x.v), (1, .v y.v)] [] ?_
 refine sq9 ?_
 refine zza 5 (.v x.v) ?_
 refine zza 6 (.v y.v) ?_
 refine zzf 7 19 [.int .i64 (-1)] ?_
 intro w11 u11 e11 d11
 have k16 := k_rqOf d11 (z := (-1)) (by omega) (by omega)
 with_reducible refine Post.mono k16 ?_
 rintro _ u14 g15 ⟨r12, rfl, h13⟩
 refine zzf 8 21 [y.v, r12.v] ?_
 intro w17 u17 e17 d17
 have k22 := k_r5Scale d17 (hy.ext (e11.trans (g15.ext.trans e17))) (h13.ext e17).raw (by omega) (by omega) (by omega)
 with_reducible refine Post.mono k22 ?_
 rintro _ u20 g21 ⟨y18, rfl, h19⟩
 have hly18 := h19.len
 refine zzf 9 20 [x.v, y18.v] ?_
 intro w23 u23 e23 d23
 have k28 := k_r5Add d23 (hx.ext (e11.trans (g15.ext.trans (e17.trans (g21.ext.trans e23))))) (h19.ext e23).raw (by omega) (by omega) (by first|omega|(simp;omega) | (refine Nat.le_trans (Nt.zzg _) ?_; first|omega|(simp;omega)) | (refine Nat.le_trans (Nt.zzg _) ?_; simp only [List.length_map]; refine Nat.le_trans (Nt.zzg _) ?_; first|omega|(simp;omega))) (by first|omega|(simp;omega) | (refine Nat.le_trans (Nt.zzg _) ?_; first|omega|(simp;omega)) | (refine Nat.le_trans (Nt.zzg _) ?_; simp only [List.length_map]; refine Nat.le_trans (Nt.zzg _) ?_; first|omega|(simp;omega)))
 with_reducible refine Post.mono k28 ?_
 rintro _ u26 g27 ⟨y24, rfl, h25⟩
 have hly24 := h25.len
 refine zza 4 (.v y24.v) ?_
 refine zzb 10 [(4, .v y24.v)] [] ?_
 refine zzn (ret0 [.slice y24.a y24.n y24.c] ⟨zzp, trivial⟩ fun u29 e30 => ?_)
 refine ⟨y24, rfl, PolN.more (K := (K + (M + 2 + 1) + 6)) ?_ (by omega)⟩
 exact (h25.ext e30)
end Go.Proofs.YtmonfdlnihaabaaGreat
namespace Go.Proofs.YtmonfdlnihaabaaGreat.Nt
open Go.RowKit
open Pol
set_option linter.unusedVariables false
def RSz (l : List Rat) (j : Nat) : Prop := l.length ≤ 1 + j ∧ ∃ D, D ≤ 2 ^ (2 + 6 * j) ∧ Sm l D (2 + 6 * j)
theorem RSz.more {l : List Rat} {i j : Nat} (h : RSz l i) (k : i ≤ j) : RSz l j := by
 obtain ⟨h1, D, h2, h3⟩ := h
 exact ⟨by omega, D, Nat.le_trans h2 (Nat.pow_le_pow_right (by omega) (by omega)), h3.more (by omega)⟩
theorem RSz.one {z : Nat} (hz : z < 3) : RSz [(((1 + z : Nat) : Int) : Rat)] 0 :=
 ⟨by simp, 1, by decide, Sm.ofAll (by omega) (fun x hx => by
  rw [List.mem_singleton.1 hx, show ((((1 : Nat) : Int)) : Rat) = 1 from rfl, Rat.mul_one]
  exact whNat (by omega))⟩
theorem RSz.neg {l : List Rat} {j : Nat} (h : RSz l j) : RSz (trimQ (l.map (· * (((-1) : Int) : Rat)))) j := by
 obtain ⟨h1, D, h2, h3⟩ := h
 refine ⟨map_lenQ h1, D, h2, Sm.trim ⟨h3.1, fun i => ?_⟩⟩
 rw [co_map (fun x => x * (((-1) : Int) : Rat)) (Rat.zero_mul _)]
 obtain ⟨z, hz, hb⟩ := h3.2 i
 refine ⟨-z, ?_, by rw [Int.natAbs_neg]; exact hb⟩
 rw [Rat.intCast_neg (a := z), ← hz]
 have e1 : (((-1) : Int) : Rat) = -1 := by decide +kernel
 rw [e1]; grind
theorem lin_sm {r : Rat} (h : Wh (r * (((12 : Nat) : Int) : Rat)) 4) : Sm [-r, ((1 : Int) : Rat)] 12 4 := Sm.ofAll (by omega) (fun x hx => by
 rcases List.mem_cons.1 hx with rfl | hx
 ·obtain ⟨z, hz, hb⟩ := h
  exact ⟨-z, by rw [Rat.intCast_neg, ← hz]; grind, by rw [Int.natAbs_neg]; exact hb⟩
 ·rw [List.mem_singleton.1 hx]
  exact ⟨12, by decide +kernel, by decide⟩)
theorem RSz.lin {l : List Rat} {j : Nat} {r : Rat} (h : RSz l j) (hr : Wh (r * (((12 : Nat) : Int) : Rat)) 4) : RSz (trimQ (mulQ l [-r, ((1 : Int) : Rat)])) (j + 1) := by
 obtain ⟨h1, D, h2, h3⟩ := h
 refine ⟨Nat.le_trans (mul_lenQ h1 (Nat.le_refl _)) (by simp; omega), D * 12, ?_, ((h3.mulR (lin_sm hr)).trim).more (by simp; omega)⟩
 rw [show 2 + 6 * (j + 1) = (2 + 6 * j) + 6 by omega, Nat.pow_add]
 exact Nat.mul_le_mul h2 (by decide)
def RFin (l : List Rat) : Prop := l.length ≤ 12 ∧ ∃ D, D ≤ 2 ^ 63 ∧ Sm l D 63
theorem RSz.fin {l : List Rat} (h : RSz l 9) : RFin l := by
 obtain ⟨h1, D, h2, h3⟩ := h
 exact ⟨by omega, D, Nat.le_trans h2 (by decide), h3.more (by decide)⟩
end Go.Proofs.YtmonfdlnihaabaaGreat.Nt
namespace Go.Proofs.YtmonfdlnihaabaaGreat.Nt
open Go.RowKit
open Pol
set_option linter.unusedVariables false
def lin (r : Rat) : Pol := mk' [-r, ((1 : Int) : Rat)]
def Cop (a b : Pol) : Prop := ∃ u v, u * a + v * b = 1
theorem Cop.symm {a b : Pol} (h : Cop a b) : Cop b a := by obtain ⟨u, v, e⟩ := h; exact ⟨v, u, by grind⟩
theorem Cop.mul {a b c : Pol} (h : Cop a c) (k : Cop b c) : Cop (a * b) c := by
 obtain ⟨u, v, e⟩ := h
 obtain ⟨u', v', e'⟩ := k
 refine ⟨u * u', u * a * v' + v * u' * b + v * v' * c, ?_⟩
 have : (u * a + v * c) * (u' * b + v' * c) = 1 := by rw [e, e', one_mul]
 grind
theorem Cop.mulR {a b c : Pol} (h : Cop c a) (k : Cop c b) : Cop c (a * b) := (h.symm.mul k.symm).symm
theorem Cop.add {a b : Pol} (h : Cop a b) (k : Pol) : Cop a (b + k * a) := by
 obtain ⟨u, v, e⟩ := h
 exact ⟨u - v * k, v, by grind⟩
theorem Cop.one (b : Pol) : Cop 1 b := ⟨1, 0, by grind⟩
def prA : List (Rat × Nat) → Pol
 | [] => 1
 | f :: fs => prA fs * npow (lin f.1) f.2
structure QOK (Q : Pol) (rs : List Rat) : Prop where
 ne : Q ≠ 0
 d : Cop Q Q.D
 r : ∀ r ∈ rs, Q.ev r ≠ 0
structure MadeF (P : Pol) (rs : List Rat) : Prop where
 nd : rs.Nodup
 wh : ∀ r ∈ rs, Wh (r * (((12 : Nat) : Int) : Rat)) 4
 ex : ∃ (c : Rat) (fs : List (Rat × Nat)), c ≠ 0 ∧ (∀ f ∈ fs, 1 ≤ f.2) ∧ fs.map (·.1) = rs.reverse ∧ P = C c * prA fs
theorem MadeF.begin (z : Nat) : MadeF (mk' [(((1 + z : Nat) : Int) : Rat)]) [] :=
 ⟨List.nodup_nil, (fun r hr => by cases hr), _, [], dz (show 0 < 1 + z by omega), (fun f hf => by cases hf), rfl, (mul_one _).symm⟩
theorem MadeF.neg {l : List Rat} (h : MadeF (mk' l) []) : MadeF (mk' (trimQ (l.map (· * (((-1) : Int) : Rat))))) [] := by
 obtain ⟨h1, h2, c, fs, h3, h4, h5, h6⟩ := h
 refine ⟨h1, h2, (((-1) : Int) : Rat) * c, fs, ?_, h4, h5, ?_⟩
 ·intro e
  rcases Rat.mul_eq_zero.1 e with e | e
  ·exact absurd e (by decide +kernel)
  ·exact h3 e
 ·rw [mk_trim, mk_map, h6, C_mul]; grind
theorem MadeF.step {P : Pol} {rs : List Rat} {r : Rat} {k : Nat} (h : MadeF P rs) (hr : r ∉ rs) (hk : 1 ≤ k) (hw : Wh (r * (((12 : Nat) : Int) : Rat)) 4) : MadeF (P * npow (lin r) k) (rs ++ [r]) := by
 obtain ⟨h1, h2, c, fs, h3, h4, h5, h6⟩ := h
 refine ⟨?_, ?_, c, (r, k) :: fs, h3, ?_, ?_, ?_⟩
 ·rw [List.nodup_append]
  refine ⟨h1, by simp, fun a ha b hb e => ?_⟩
  rw [List.mem_singleton.1 hb] at e
  exact hr (e ▸ ha)
 ·intro y hy
  rcases List.mem_append.1 hy with hy | hy
  ·exact h2 y hy
  ·rw [List.mem_singleton.1 hy]; exact hw
 ·intro f hf
  rcases List.mem_cons.1 hf with rfl | hf
  ·exact hk
  ·exact h4 f hf
 ·rw [List.map_cons, h5, List.reverse_append]; rfl
 ·show _ = C c * (prA fs * npow (lin r) k)
  rw [h6]; grind
end Go.Proofs.YtmonfdlnihaabaaGreat.Nt
namespace Go.Proofs.YtmonfdlnihaabaaGreat
set_option linter.unusedVariables false
namespace Nt
section
variable {a1 a2 b1 b2 c1 c2 d1 d2 : Rat}
def hl (a b c d : Rat) : Rat := lo (lo a b) (lo c d)
def hh (a b c d : Rat) : Rat := hi (hi a b) (hi c d)
end
end Nt
end Go.Proofs.YtmonfdlnihaabaaGreat
namespace Go.Proofs.YtmonfdlnihaabaaGreat.Nt
open Go.RowKit
open Pol
set_option linter.unusedVariables false
section
variable {l : List Rat} {x a b c : Rat} {i n D A B K : Nat} {q : Pol}
theorem evL_trim (l : List Rat) (x : Rat) : evL (trimQ l) x = evL l x := evL_congr (trim_co l) x
end
end Go.Proofs.YtmonfdlnihaabaaGreat.Nt
namespace Go.Proofs.YtmonfdlnihaabaaGreat.Nt
open Go.RowKit
open Pol
set_option linter.unusedVariables false
section
variable {l m W : List Rat} {x q : Rat} {i A B C : Nat}
def hp (q : Rat) (i : Nat) : Rat := (((q.den ^ (i - 1) : Nat) : Int) : Rat)
def hs (W : List Rat) (q : Rat) (i : Nat) : Rat := hp q i * evL (W.drop (W.length - i)) q
theorem ev_mulL (l m : List Rat) (x : Rat) : evL (trimQ (mulQ l m)) x = evL l x * evL m x := by
 rw [evL_trim, ← mk_ev, mk_mul, ev_mul, mk_ev, mk_ev]
theorem Sm.mem {D : Nat} (h : Sm l D A) : ∀ y ∈ l, Wh (y * ((D : Int) : Rat)) A := fun y hy => by
 obtain ⟨j, hj, e⟩ := List.getElem_of_mem hy
 have h9 := h.2 j
 unfold Nt.co at h9
 rw [List.getD_eq_getElem?_getD, List.getElem?_eq_getElem hj, Option.getD_some, e] at h9
 exact h9
end
end Go.Proofs.YtmonfdlnihaabaaGreat.Nt
namespace Go.Proofs.YtmonfdlnihaabaaGreat.Nt
open Go.RowKit
open Pol
set_option linter.unusedVariables false
def tsum (f : Nat → Rat) : Nat → Rat
 | 0 => 0
 | n + 1 => tsum f n + f n
def AP (B A : List Rat) : Prop := ∀ z w : Rat, z * w = 1 → evL B z * evL B w = evL A z * evL A w
theorem AP.one : AP [((1 : Int) : Rat)] [((1 : Int) : Rat)] := fun z w _ => rfl
theorem AP.mul {B A B' A' : List Rat} (h : AP B A) (k : AP B' A') : AP (trimQ (mulQ B B')) (trimQ (mulQ A A')) := fun z w e => by
 rw [ev_mulL, ev_mulL, ev_mulL, ev_mulL]
 have h1 := h z w e
 have h2 := k z w e
 grind
theorem AP.trim {B A : List Rat} (h : AP B A) : AP (trimQ B) (trimQ A) := fun z w e => by rw [evL_trim, evL_trim, evL_trim, evL_trim]; exact h z w e
end Go.Proofs.YtmonfdlnihaabaaGreat.Nt
namespace Go.Proofs.YtmonfdlnihaabaaGreat
open Go.RowKit
set_option linter.unusedVariables false
theorem k_mode {u w : World} {r : Int} (d : Dat u w) (h1 : 1 ≤ r) (h2 : r ≤ 3) : Calls Tryz.prog 139 #[.int .i64 r] w (Post u w fun v _ => v = .bool true) := by
 refine zzl (args := [.int .i64 r]) Tryz.func139 rfl Tryz.ntmps139 (rs := [.tmp 2]) Tryz.results139 (le_b rfl) (le_b rfl) d ?_
 refine sq9 ?_
 refine zza 2 (.v (.bool false)) ?_
 refine zzb 9 [(0, .v (.int .i64 r))] [] ?_
 refine sq9 ?_
 refine zza 3 (.v (.int .i64 r)) ?_
 refine zza 4 (.v (.bool (decide ((1 : Int) ≤ r)))) ?_
 refine zyp 5 (x := .v (.bool (decide ((1 : Int) ≤ r)))) (.v (.bool true)) (by rw [show (decide ((1 : Int) ≤ r)) = true from decide_eq_true (by omega)]) ?_
 refine zza 6 (.v (.int .i64 r)) ?_ (hw := w1 2 true 5)
 refine zza 7 (.v (.bool (decide (r ≤ 3)))) ?_ (hw := w1 2 true 5)
 refine zza 8 (.v (.bool (decide (r ≤ 3)))) ?_
 refine zza 2 (.v (.bool (decide (r ≤ 3)))) ?_
 refine zzb 9 [(2, .v (.bool (decide (r ≤ 3))))] [] ?_
 refine zzn (ret0 [.bool (decide (r ≤ 3))] ⟨zzp, trivial⟩ fun u12 e13 => ?_)
 show Value.bool _ = Value.bool _
 rw [show (decide (r ≤ 3)) = true from decide_eq_true (by omega)]
theorem k_fxValid {u w : World} {W : WL} (d : Dat u w) (hW : WdOK W) : Calls Tryz.prog 81 #[W.v] w (Post u w fun v _ => v = .bool true) := by
 obtain ⟨hw1, hw2, hw3, hw4, hw5, hw6, hw7, hw8⟩ := id hW
 refine zzl (args := [.agg #[.int .i64 W.b, .int .i64 W.f, .int .i64 W.r, .int .i64 W.o]]) Tryz.func81 rfl Tryz.ntmps81 (rs := [.tmp 2]) Tryz.results81 (le_b rfl) (le_b rfl) d ?_
 refine sq9 ?_
 refine zzj 1 ⟨51, [.int .i64 W.b, .int .i64 W.f, .int .i64 W.r, .int .i64 W.o]⟩ ?_
 refine zza 2 (.v (.bool false)) ?_
 refine zzb 36 [(1, .adr 1 0)] [(1, ⟨51, [.int .i64 W.b, .int .i64 W.f, .int .i64 W.r, .int .i64 W.o]⟩)] ?_
 refine zzc ?_
 refine sq9 ?_
 refine zza 3 (.adr 1 0) ?_
 refine zzh 4 (.v (.int .i64 W.b)) ty3 zzk ?_
 refine zza 5 (.v (.bool (decide (W.b < 4)))) ?_
 refine zyp 6 (x := .v (.bool (decide (W.b < 4)))) (.v (.bool false)) (by rw [show (decide (W.b < 4)) = false from decide_eq_false (by omega)]) ?_
 refine zza 7 (.adr 1 0) ?_ (hw := w1 3 false 6)
 refine zzh 8 (.v (.int .i64 W.b)) ty3 zzk ?_ (hw := w1 3 false 6)
 refine zza 9 (.v (.bool (decide ((24 : Int) < W.b)))) ?_ (hw := w1 3 false 6)
 refine zza 10 (.v (.bool (decide ((24 : Int) < W.b)))) ?_
 refine zyp 11 (x := .v (.bool (decide ((24 : Int) < W.b)))) (.v (.bool false)) (by rw [show (decide ((24 : Int) < W.b)) = false from decide_eq_false (by omega)]) ?_
 refine zza 12 (.adr 1 1) ?_ (hw := w1 8 false 11)
 refine zzh 13 (.v (.int .i64 W.f)) ty3 zzk ?_ (hw := w1 8 false 11)
 refine zza 14 (.v (.bool (decide (W.f < 0)))) ?_ (hw := w1 8 false 11)
 refine zza 15 (.v (.bool (decide (W.f < 0)))) ?_
 refine zyp 16 (x := .v (.bool (decide (W.f < 0)))) (.v (.bool false)) (by rw [show (decide (W.f < 0)) = false from decide_eq_false (by omega)]) ?_
 refine zza 17 (.adr 1 1) ?_ (hw := w1 13 false 16)
 refine zzh 18 (.v (.int .i64 W.f)) ty3 zzk ?_ (hw := w1 13 false 16)
 refine zza 19 (.adr 1 0) ?_ (hw := w1 13 false 16)
 refine zzh 20 (.v (.int .i64 W.b)) ty3 zzk ?_ (hw := w1 13 false 16)
 refine zza 21 (.v (.bool (decide (W.b ≤ W.f)))) ?_ (hw := w1 13 false 16)
 refine zza 22 (.v (.bool (decide (W.b ≤ W.f)))) ?_
 refine zzb 36 [(1, .adr 1 0), (22, .v (.bool (decide (W.b ≤ W.f))))] [(1, ⟨51, [.int .i64 W.b, .int .i64 W.f, .int .i64 W.r, .int .i64 W.o]⟩)] ?_
 refine zzt (b := decide (W.b ≤ W.f)) (by kernel_rfl) (fun hb => ?_) (fun hb => ?_)
 ·exact absurd hb (by rw [show (decide (W.b ≤ W.f)) = false from decide_eq_false (by omega)]; decide)
 ·clear hb
  refine zzr (zzo ?_)
  refine sq9 ?_
  refine zza 23 (.adr 1 2) ?_
  refine zzh 24 (.v (.int .i64 W.r)) ty3 zzk ?_
  refine zzf 25 139 [.int .i64 W.r] ?_
  intro w14 u14 e14 d14
  have k17 := k_mode (r := W.r) d14 (by omega) (by omega)
  with_reducible refine Post.mono k17 ?_
  rintro _ u15 g16 rfl
  refine zza 26 (.v (.bool true)) ?_
  refine zza 27 (.adr 1 3) ?_ (hw := w1 3 true 26)
  refine zzh 28 (.v (.int .i64 W.o)) ty3 zzk ?_ (hw := w1 3 true 26)
  refine zza 29 (.v (.bool (W.o == 1))) ?_ (hw := w1 3 true 26)
  rcases Bool.eq_false_or_eq_true (W.o == 1) with hs18 | hs18
  ·refine zyp 30 (x := .v (.bool (W.o == 1))) (.v (.bool true)) (by rw [hs18]) ?_ (hw := w1 3 true 26)
   refine zzm 31 (uw 7 false true 30) ?_
   refine zzm 32 (uw 7 false true 30) ?_
   refine zzm 33 (uw 7 false true 30) ?_
   refine zza 34 (.v (.bool true)) ?_ (hw := w1 3 true 26)
   refine zza 35 (.v (.bool true)) ?_
   refine zza 2 (.v (.bool true)) ?_
   refine zzb 36 [(2, .v (.bool true))] [] ?_
   refine zzn (ret0 [.bool true] ⟨zzp, trivial⟩ fun u19 e20 => ?_)
   rfl
  ·refine zyp 30 (x := .v (.bool (W.o == 1))) (.v (.bool false)) (by rw [hs18]) ?_ (hw := w1 3 true 26)
   refine zza 31 (.adr 1 3) ?_ (hw := w1 7 false 30)
   refine zzh 32 (.v (.int .i64 W.o)) ty3 zzk ?_ (hw := w1 7 false 30)
   refine zza 33 (.v (.bool (W.o == 2))) ?_ (hw := w1 7 false 30)
   refine zza 34 (.v (.bool (W.o == 2))) ?_ (hw := w1 3 true 26)
   refine zza 35 (.v (.bool (W.o == 2))) ?_
   refine zza 2 (.v (.bool (W.o == 2))) ?_
   refine zzb 36 [(2, .v (.bool (W.o == 2)))] [] ?_
   refine zzn (ret0 [.bool (W.o == 2)] ⟨zzp, trivial⟩ fun u21 e22 => ?_)
   show Value.bool _ = Value.bool _
   rw [show (W.o == 2) = true from (by have hz := hs18; simp at hz ⊢; omega)]
theorem k_fxLow {u w : World} {W : WL} (d : Dat u w) (hW : WdOK W) : Calls Tryz.prog 174 #[W.v] w (Post u w fun v _ => v = .int .i64 (-Nt.p2i (W.b - 1))) := by
 obtain ⟨hw1, hw2, hw3, hw4, hw5, hw6, hw7, hw8⟩ := id hW
 have hp1 := Nt.p2i_pos (W.b - 1)
 have hp2 := Nt.p2i_24 (n := W.b - 1) (by omega)
 refine zzl (args := [.agg #[.int .i64 W.b, .int .i64 W.f, .int .i64 W.r, .int .i64 W.o]]) Tryz.func174 rfl Tryz.ntmps174 (rs := [.tmp 2]) Tryz.results174 (le_b rfl) (le_b rfl) d ?_
 refine sq9 ?_
 refine zzj 1 ⟨51, [.int .i64 W.b, .int .i64 W.f, .int .i64 W.r, .int .i64 W.o]⟩ ?_
 refine zza 2 (.v (.int .i64 0)) ?_
 refine zzb 11 [(1, .adr 1 0)] [(1, ⟨51, [.int .i64 W.b, .int .i64 W.f, .int .i64 W.r, .int .i64 W.o]⟩)] ?_
 refine zzc ?_
 refine sq9 ?_
 refine zzh 3 (.v (.agg #[.int .i64 W.b, .int .i64 W.f, .int .i64 W.r, .int .i64 W.o])) ty51 zzd ?_
 refine zzf 4 81 [.agg #[.int .i64 W.b, .int .i64 W.f, .int .i64 W.r, .int .i64 W.o]] ?_
 intro w11 u11 e11 d11
 have k14 := k_fxValid (W := W) d11 hW
 with_reducible refine Post.mono k14 ?_
 rintro _ u12 g13 rfl
 refine zza 5 (.v (.bool false)) ?_
 refine zzb 11 [(1, .adr 1 0), (5, .v (.bool false))] [(1, ⟨51, [.int .i64 W.b, .int .i64 W.f, .int .i64 W.r, .int .i64 W.o]⟩)] ?_
 refine zyr (by kernel_rfl) ?_
 refine zzr (zzo ?_)
 refine sq9 ?_
 refine zza 6 (.adr 1 0) ?_
 refine zzh 7 (.v (.int .i64 W.b)) ty3 zzk ?_
 refine zyp 8 (x := .v (.int .i64 (IntKind.i64.wrap (W.b - 1)))) (.v (.int .i64 (W.b - 1))) (by rw [IntWalk.i64_in _ (by omega)]) ?_
 refine sy_shl 9 (k := .i64) (s := W.b - 1) (Nt.p2i (W.b - 1)) (by omega) (by show _ ≤ (64 : Int); omega) (shl_one (by omega) (by omega)) ?_
 refine zyp 10 (x := .v (.int .i64 (IntKind.i64.wrap (0 - Nt.p2i (W.b - 1))))) (.v (.int .i64 (-Nt.p2i (W.b - 1)))) (by rw [show (IntKind.i64.wrap (0 - Nt.p2i (W.b - 1))) = (-Nt.p2i (W.b - 1)) from (by rw [IntWalk.i64_in _ (by omega)]; omega)]) ?_
 refine zza 2 (.v (.int .i64 (-Nt.p2i (W.b - 1)))) ?_
 refine zzb 11 [(2, .v (.int .i64 (-Nt.p2i (W.b - 1))))] [] ?_
 refine zzn (ret0 [.int .i64 (-Nt.p2i (W.b - 1))] ⟨zzp, trivial⟩ fun u15 e16 => ?_)
 rfl
theorem k_fxHigh {u w : World} {W : WL} (d : Dat u w) (hW : WdOK W) : Calls Tryz.prog 175 #[W.v] w (Post u w fun v _ => v = .int .i64 (Nt.p2i (W.b - 1) - 1)) := by
 obtain ⟨hw1, hw2, hw3, hw4, hw5, hw6, hw7, hw8⟩ := id hW
 have hp1 := Nt.p2i_pos (W.b - 1)
 have hp2 := Nt.p2i_24 (n := W.b - 1) (by omega)
 refine zzl (args := [.agg #[.int .i64 W.b, .int .i64 W.f, .int .i64 W.r, .int .i64 W.o]]) Tryz.func175 rfl Tryz.ntmps175 (rs := [.tmp 2]) Tryz.results175 (le_b rfl) (le_b rfl) d ?_
 refine sq9 ?_
 refine zzj 1 ⟨51, [.int .i64 W.b, .int .i64 W.f, .int .i64 W.r, .int .i64 W.o]⟩ ?_
 refine zza 2 (.v (.int .i64 0)) ?_
 refine zzb 11 [(1, .adr 1 0)] [(1, ⟨51, [.int .i64 W.b, .int .i64 W.f, .int .i64 W.r, .int .i64 W.o]⟩)] ?_
 refine zzc ?_
 refine sq9 ?_
 refine zzh 3 (.v (.agg #[.int .i64 W.b, .int .i64 W.f, .int .i64 W.r, .int .i64 W.o])) ty51 zzd ?_
 refine zzf 4 81 [.agg #[.int .i64 W.b, .int .i64 W.f, .int .i64 W.r, .int .i64 W.o]] ?_
 intro w11 u11 e11 d11
 have k14 := k_fxValid (W := W) d11 hW
 with_reducible refine Post.mono k14 ?_
 rintro _ u12 g13 rfl
 refine zza 5 (.v (.bool false)) ?_
 refine zzb 11 [(1, .adr 1 0), (5, .v (.bool false))] [(1, ⟨51, [.int .i64 W.b, .int .i64 W.f, .int .i64 W.r, .int .i64 W.o]⟩)] ?_
 refine zyr (by kernel_rfl) ?_
 refine zzr (zzo ?_)
 refine sq9 ?_
 refine zza 6 (.adr 1 0) ?_
 refine zzh 7 (.v (.int .i64 W.b)) ty3 zzk ?_
 refine zyp 8 (x := .v (.int .i64 (IntKind.i64.wrap (W.b - 1)))) (.v (.int .i64 (W.b - 1))) (by rw [IntWalk.i64_in _ (by omega)]) ?_
 refine sy_shl 9 (k := .i64) (s := W.b - 1) (Nt.p2i (W.b - 1)) (by omega) (by show _ ≤ (64 : Int); omega) (shl_one (by omega) (by omega)) ?_
 refine zyp 10 (x := .v (.int .i64 (IntKind.i64.wrap ((Nt.p2i (W.b - 1)) - 1)))) (.v (.int .i64 ((Nt.p2i (W.b - 1)) - 1))) (by rw [IntWalk.i64_in _ (by omega)]) ?_
 refine zza 2 (.v (.int .i64 ((Nt.p2i (W.b - 1)) - 1))) ?_
 refine zzb 11 [(2, .v (.int .i64 ((Nt.p2i (W.b - 1)) - 1)))] [] ?_
 refine zzn (ret0 [.int .i64 ((Nt.p2i (W.b - 1)) - 1)] ⟨zzp, trivial⟩ fun u15 e16 => ?_)
 rfl
theorem k_fxFits {u w : World} {W : WL} {z : Int} (d : Dat u w) (hW : WdOK W) (h0 : -Nt.p2i (W.b - 1) ≤ z) (h1 : z < Nt.p2i (W.b - 1)) : Calls Tryz.prog 134 #[W.v, .int .i64 z] w (Post u w fun v _ => v = .bool true) := by
 obtain ⟨hw1, hw2, hw3, hw4, hw5, hw6, hw7, hw8⟩ := id hW
 refine zzl (args := [.agg #[.int .i64 W.b, .int .i64 W.f, .int .i64 W.r, .int .i64 W.o], .int .i64 z]) Tryz.func134 rfl Tryz.ntmps134 (rs := [.tmp 4]) Tryz.results134 (le_b rfl) (le_b rfl) d ?_
 refine sq9 ?_
 refine zzj 2 ⟨51, [.int .i64 W.b, .int .i64 W.f, .int .i64 W.r, .int .i64 W.o]⟩ ?_
 refine zza 4 (.v (.bool false)) ?_
 refine zzb 19 [(1, .v (.int .i64 z)), (2, .adr 2 0)] [(2, ⟨51, [.int .i64 W.b, .int .i64 W.f, .int .i64 W.r, .int .i64 W.o]⟩)] ?_
 refine sq9 ?_
 refine zzh 5 (.v (.agg #[.int .i64 W.b, .int .i64 W.f, .int .i64 W.r, .int .i64 W.o])) ty51 zzd ?_
 refine zzf 6 81 [.agg #[.int .i64 W.b, .int .i64 W.f, .int .i64 W.r, .int .i64 W.o]] ?_
 intro w11 u11 e11 d11
 have k14 := k_fxValid (W := W) d11 hW
 with_reducible refine Post.mono k14 ?_
 rintro _ u12 g13 rfl
 refine zza 7 (.v (.bool true)) ?_
 refine zza 8 (.v (.int .i64 z)) ?_ (hw := w1 2 true 7)
 refine zzh 9 (.v (.agg #[.int .i64 W.b, .int .i64 W.f, .int .i64 W.r, .int .i64 W.o])) ty51 zzd ?_ (hw := w1 2 true 7)
 refine zzf 10 174 [.agg #[.int .i64 W.b, .int .i64 W.f, .int .i64 W.r, .int .i64 W.o]] ?_ (hw := w1 2 true 7)
 intro w15 u15 e15 d15
 have k18 := k_fxLow (W := W) d15 hW
 with_reducible refine Post.mono k18 ?_
 rintro _ u16 g17 rfl
 refine zza 11 (.v (.bool (decide ((-Nt.p2i (W.b - 1)) ≤ z)))) ?_ (hw := w1 2 true 7)
 refine zza 12 (.v (.bool (decide ((-Nt.p2i (W.b - 1)) ≤ z)))) ?_
 refine zyp 13 (x := .v (.bool (decide ((-Nt.p2i (W.b - 1)) ≤ z)))) (.v (.bool true)) (by rw [show (decide ((-Nt.p2i (W.b - 1)) ≤ z)) = true from decide_eq_true (by omega)]) ?_
 refine zza 14 (.v (.int .i64 z)) ?_ (hw := w1 8 true 13)
 refine zzh 15 (.v (.agg #[.int .i64 W.b, .int .i64 W.f, .int .i64 W.r, .int .i64 W.o])) ty51 zzd ?_ (hw := w1 8 true 13)
 refine zzf 16 175 [.agg #[.int .i64 W.b, .int .i64 W.f, .int .i64 W.r, .int .i64 W.o]] ?_ (hw := w1 8 true 13)
 intro w20 u20 e20 d20
 have k23 := k_fxHigh (W := W) d20 hW
 with_reducible refine Post.mono k23 ?_
 rintro _ u21 g22 rfl
 refine zza 17 (.v (.bool (decide (z ≤ (Nt.p2i (W.b - 1) - 1))))) ?_ (hw := w1 8 true 13)
 refine zza 18 (.v (.bool (decide (z ≤ (Nt.p2i (W.b - 1) - 1))))) ?_
 refine zza 4 (.v (.bool (decide (z ≤ (Nt.p2i (W.b - 1) - 1))))) ?_
 refine zzb 19 [(4, .v (.bool (decide (z ≤ (Nt.p2i (W.b - 1) - 1)))))] [] ?_
 refine zzn (ret0 [.bool (decide (z ≤ (Nt.p2i (W.b - 1) - 1)))] ⟨zzp, trivial⟩ fun u24 e25 => ?_)
 show Value.bool _ = Value.bool _
 rw [show (decide (z ≤ (Nt.p2i (W.b - 1) - 1))) = true from decide_eq_true (by omega)]
theorem k_fxValue {u w : World} {W : WL} {z : Int} (d : Dat u w) (hW : WdOK W) (h0 : -16777216 ≤ z) (h1 : z ≤ 16777216) : Calls Tryz.prog 102 #[W.v, .int .i64 z] w (Post u w fun v u' => ∃ r : RL, v = r.v ∧ RatN u' r (((z : Int) : Rat) / ((Nt.p2i W.f : Int) : Rat)) 2) := by
 obtain ⟨hw1, hw2, hw3, hw4, hw5, hw6, hw7, hw8⟩ := id hW
 have hp1 := Nt.p2i_pos W.f
 have hp2 := Nt.p2i_24 (n := W.f) (by omega)
 refine zzl (args := [.agg #[.int .i64 W.b, .int .i64 W.f, .int .i64 W.r, .int .i64 W.o], .int .i64 z]) Tryz.func102 rfl Tryz.ntmps102 (rs := [.cell 4 29]) Tryz.results102 (le_b rfl) (le_b rfl) d ?_
 refine sq9 ?_
 refine zzj 2 ⟨51, [.int .i64 W.b, .int .i64 W.f, .int .i64 W.r, .int .i64 W.o]⟩ ?_
 refine zzj 4 ⟨29, [.bool false, .slice none 0 0, .slice none 0 0]⟩ ?_
 refine zzb 14 [(1, .v (.int .i64 z)), (2, .adr 2 0), (4, .adr 4 0)] [(2, ⟨51, [.int .i64 W.b, .int .i64 W.f, .int .i64 W.r, .int .i64 W.o]⟩), (4, ⟨29, [.bool false, .slice none 0 0, .slice none 0 0]⟩)] ?_
 refine zzc ?_
 refine sq9 ?_
 refine zzh 5 (.v (.agg #[.int .i64 W.b, .int .i64 W.f, .int .i64 W.r, .int .i64 W.o])) ty51 zzd ?_
 refine zzf 6 81 [.agg #[.int .i64 W.b, .int .i64 W.f, .int .i64 W.r, .int .i64 W.o]] ?_
 intro w11 u11 e11 d11
 have k14 := k_fxValid (W := W) d11 hW
 with_reducible refine Post.mono k14 ?_
 rintro _ u12 g13 rfl
 refine zza 7 (.v (.bool false)) ?_
 refine zzb 14 [(1, .v (.int .i64 z)), (2, .adr 2 0), (4, .adr 4 0), (7, .v (.bool false))] [(2, ⟨51, [.int .i64 W.b, .int .i64 W.f, .int .i64 W.r, .int .i64 W.o]⟩), (4, ⟨29, [.bool false, .slice none 0 0, .slice none 0 0]⟩)] ?_
 refine zyr (by kernel_rfl) ?_
 refine zzr (zzo ?_)
 refine sq9 ?_
 refine zza 9 (.v (.int .i64 z)) ?_
 refine zza 10 (.adr 2 1) ?_
 refine zzh 11 (.v (.int .i64 W.f)) ty3 zzk ?_
 refine sy_shl 12 (k := .i64) (s := W.f) (Nt.p2i W.f) (by omega) (by show _ ≤ (64 : Int); omega) (shl_one (by omega) (by omega)) ?_
 refine zzf 13 67 [.int .i64 z, .int .i64 (Nt.p2i W.f)] ?_
 intro w15 u15 e15 d15
 have k20 := k_ratFrac d15 (a := z) (b := Nt.p2i W.f) (by omega) (by omega) (by omega) (by omega)
 with_reducible refine Post.mono k20 ?_
 rintro _ u18 g19 ⟨r16, rfl, h17⟩
 refine zzi ⟨29, r16.cs⟩ ty29 ?_
 refine zzb 14 [(4, .adr 4 0)] [(4, ⟨29, r16.cs⟩)] ?_
 refine zzn (ret0 [r16.v] ⟨zzq ty29 zzd, trivial⟩ fun u21 e22 => ?_)
 exact ⟨r16, rfl, (h17.ext e22)⟩
theorem k_within {u w : World} {n m : Int} (d : Dat u w) (hm : 1 ≤ m) (hm2 : m ≤ 4611686018427387904) (hn0 : -9223372036854775808 ≤ n) (hn1 : n ≤ 9223372036854775807) : Calls Tryz.prog 9 #[.int .i64 n, .int .i64 m] w (Post u w fun v _ => v = .int .i64 (n % m)) := by
 refine zzl (args := [.int .i64 n, .int .i64 m]) Tryz.func9 rfl Tryz.ntmps9 (rs := [.tmp 4]) Tryz.results9 (le_b rfl) (le_b rfl) d ?_
 refine sq9 ?_
 refine zza 4 (.v (.int .i64 0)) ?_
 refine zzb 16 [(0, .v (.int .i64 n)), (1, .v (.int .i64 m))] [] ?_
 refine zzc ?_
 refine sq9 ?_
 refine zza 5 (.v (.int .i64 m)) ?_
 refine zyp 6 (x := .v (.bool (decide (m < 1)))) (.v (.bool false)) (by rw [show (decide (m < 1)) = false from (by simp; omega)]) ?_
 refine zzb 16 [(0, .v (.int .i64 n)), (1, .v (.int .i64 m)), (6, .v (.bool false))] [] ?_
 refine zyr (by kernel_rfl) ?_
 refine zzr (zzo ?_)
 refine sq9 ?_
 refine zza 7 (.v (.int .i64 n)) ?_
 refine zza 8 (.v (.int .i64 m)) ?_
 refine sy_rem 9 (Int.tmod n m) (by omega) rfl ?_
 refine zza 0 (.v (.int .i64 (Int.tmod n m))) ?_
 refine zzb 16 [(0, .v (.int .i64 (Int.tmod n m))), (1, .v (.int .i64 m))] [] ?_
 refine zzc ?_
 refine sq9 ?_
 refine zza 10 (.v (.int .i64 (Int.tmod n m))) ?_
 refine zza 11 (.v (.bool (decide ((Int.tmod n m) < 0)))) ?_
 refine zzb 16 [(0, .v (.int .i64 (Int.tmod n m))), (1, .v (.int .i64 m)), (11, .v (.bool (decide ((Int.tmod n m) < 0))))] [] ?_
 refine zzt (b := decide ((Int.tmod n m) < 0)) (by kernel_rfl) (fun hb11 => ?_) (fun hb11 => ?_)
 ·replace hb11 : (decide ((Int.tmod n m) < 0)) = true := hb11
  have qhb11 := of_decide_eq_true hb11
  refine zze ?_
  refine zza 12 (.v (.int .i64 (Int.tmod n m))) ?_
  refine zza 13 (.v (.int .i64 m)) ?_
  refine zyp 14 (x := .v (.int .i64 (IntKind.i64.wrap (Int.tmod n m + m)))) (.v (.int .i64 (Int.tmod n m + m))) (by rw [show (IntKind.i64.wrap (Int.tmod n m + m)) = (Int.tmod n m + m) from (IntWalk.i64_in _ (by have h2 := Int.lt_tmod_of_pos n (show 0 < m by omega); have h3 := Int.tmod_lt_of_pos n (show 0 < m by omega); omega))]) ?_
  refine zza 0 (.v (.int .i64 (Int.tmod n m + m))) ?_
  refine zzb 16 [(0, .v (.int .i64 (Int.tmod n m + m)))] [] ?_
  refine sq9 ?_
  refine zza 15 (.v (.int .i64 (Int.tmod n m + m))) ?_
  refine zza 4 (.v (.int .i64 (Int.tmod n m + m))) ?_
  refine zzb 16 [(4, .v (.int .i64 (Int.tmod n m + m)))] [] ?_
  refine zzn (ret0 [.int .i64 (Int.tmod n m + m)] ⟨zzp, trivial⟩ fun u12 e13 => ?_)
  show Value.int _ _ = Value.int _ _
  rw [mod_neg9 m hm n hb11]
 ·replace hb11 : (decide ((Int.tmod n m) < 0)) = false := hb11
  have qhb11 := of_decide_eq_false hb11
  refine zzr (zzo ?_)
  refine sq9 ?_
  refine zza 15 (.v (.int .i64 (Int.tmod n m))) ?_
  refine zza 4 (.v (.int .i64 (Int.tmod n m))) ?_
  refine zzb 16 [(4, .v (.int .i64 (Int.tmod n m)))] [] ?_
  refine zzn (ret0 [.int .i64 (Int.tmod n m)] ⟨zzp, trivial⟩ fun u14 e15 => ?_)
  show Value.int _ _ = Value.int _ _
  rw [mod_pos9 m hm n hb11]
end Go.Proofs.YtmonfdlnihaabaaGreat
namespace Go.Proofs.YtmonfdlnihaabaaGreat
open Go.RowKit
set_option linter.unusedVariables false
namespace Nt
def wq (z f : Int) : Rat := ((z : Int) : Rat) / ((p2i f : Int) : Rat)
end Nt
namespace Nt
end Nt
section
variable {P : Program} {ops : Array Oper} {w0 : Base} {u0 : World} {S T : St} {B : Tmp → Nat} {a : Act} {w w' u u' : World} {o : Oper} {p : List Tmp} {seq : Bool} {rest : List (Oper × List Tmp)} {K : St → World → Prop}
theorem Rep.pubA (h : Rep w0 u0 S B a w u) {r t : Tmp} {V : Vr} {pubs : List Tmp} (hno : NoAt S pubs) (ht : t ∈ pubs) (hall : ∀ s ∈ pubs, ∀ V', S.var s = some V' → s = t) (hr : S.reg r = some (.adr t 0)) (hv : S.var t = some V) (htn : t < S.n) :
  Rep w0 u0 ((S.unpub pubs).set r (.v (.pointer (some ⟨B t, 0, none⟩)))) B a w (pubW u w [B t]) := by
 refine ⟨⟨fun s x hx => ?_, h.regs.size⟩, ⟨fun s x t' hx ht' => ?_⟩, h.defers, fun s V' hV => ?_, fun s s' V1 V2 h1 h2 e => ?_, pubW_dat h.dat, h.base, pubW_grow h.grow (fun b hb => ?_), h.bel⟩
 ·by_cases e : s = r
  ·subst e
   simp only [St.set, upd_same] at hx
   injection hx with hx
   subst hx
   exact h.regs.reg s (.adr t 0) hr
  ·simp only [St.set, upd_ne _ _ e] at hx
   exact h.regs.reg s x (unpub_spec_reg hx).1
 ·by_cases e : s = r
  ·subst e
   simp only [St.set, upd_same] at hx
   injection hx with hx
   subst hx; cases ht'
  ·simp only [St.set, upd_ne _ _ e] at hx
   obtain ⟨k1, k2⟩ := unpub_spec_reg hx
   obtain ⟨V', hV'⟩ := h.wf.reg s x t' k1 ht'
   exact ⟨V', by show (S.unpub pubs).var t' = _; rw [unpub_var (fun hm => k2 (hno s x t' k1 ht' hm))]; exact hV'⟩
 ·obtain ⟨k1, k2⟩ := unpub_spec_var hV
  obtain ⟨g1, g2, g3⟩ := h.var s V' k1
  refine ⟨g1, ?_, g3⟩
  rw [pubW_out]
  ·exact g2
  ·intro hm
   simp at hm
   exact k2 (h.inj s t V' V k1 hv hm ▸ ht)
 ·exact h.inj s s' V1 V2 (unpub_spec_var h1).1 (unpub_spec_var h2).1 e
 ·simp at hb; subst hb; exact (h.var t V hv).2.2.1 htn
theorem sw_pubA {c0 : Code} {Q : MP} {r t : Tmp} {V : Vr} (pubs : List Tmp) (hno : NoAt S pubs) (hall : (pubs.all fun s => Nat.beq s t || (S.var s).isNone) = true) (hr : S.reg r = some (.adr t 0)) (hv : S.var t = some V) (ht : pubs.contains t = true)
  (k : ∀ b u1, Ext u u1 → u0.heap.size ≤ b → (∀ ob, u.heap[b]? = some ob → ob = hidO) → u1.heap[b]? = some (.cells V.cs.toArray V.ty (0, 0)) → SW P w0 u0 c0 ((S.unpub pubs).set r (.v (.pointer (some ⟨b, 0, none⟩)))) u1 Q) (hlt : Nat.blt t S.n = true := by kernel_rfl) : SW P w0 u0 c0 S u Q := by
 intro B a w u' e hrep
 have hm := List.contains_iff_mem.1 ht
 obtain ⟨g1, g2, g3⟩ := hrep.var t V hv
 have hx : Ext u' (pubW u' w [B t]) := pubW_ext hrep.dat
 have hrep2 := hrep.pubA hno hm (fun s hs V' hV' => by
  have := List.all_eq_true.1 hall s hs
  simp only [Bool.or_eq_true, Option.isNone_iff_eq_none] at this
  rcases this with h | h
  ·exact Nat.eq_of_beq_eq_true h
  ·rw [hV'] at h; cases h) hr hv (Nat.le_of_ble_eq_true hlt)
 refine k (B t) (pubW u' w [B t]) (e.trans hx) (g3.1 (Nat.le_of_ble_eq_true hlt)) (fun ob hob => ?_) (by rw [pubW_in (by simp) (lt_of_get g2) hrep.dat.size]; exact g1) B a w _ (Ext.refl _) hrep2
 by_cases hh : ob = hidO
 ·exact hh
 ·have := e.vis _ ob hob hh
  rw [g2] at this; injection this with this; exact this.symm
theorem ExtB.old2 {b : Nat} {v : World} (h : ExtB b u u') (e : Ext v u) (hb : ∀ ob, v.heap[b]? = some ob → ob = hidO) : Ext v u' :=
 ⟨Nat.le_trans e.size h.size, fun k o hk hh => h.vis k o (fun e' => hh (hb o (e' ▸ hk))) (e.vis k o hk hh) hh⟩
theorem sy_fun (d : Tmp) {f : FuncId} {cs : List Operand} (vs : List Value) (k : sym P ops w0 u0 true rest (S.set d (.v (.func (.func f) #[] vs.toArray))) u K) (hw : Wants ops o S := by exact wants0 (by kernel_rfl)) (hd : o.dst = some d := by kernel_rfl) (hop : o.op = .makeFunc (.func f) #[] cs.toArray := by rfl) (hf : freeB S d = true := by kernel_rfl)
  (hev : cs.map (evO S) = vs.map (fun v => some (.v v)) := by rfl) : sym P ops w0 u0 true ((o, p) :: rest) S u K := by
 refine .inr (.inr (.inl ⟨.inl rfl, fun B a w u' he hrep => ⟨hw B a hrep.regs, ?_⟩⟩))
 have hcs : cs.map a.eval = vs := by
  clear hop k
  induction cs generalizing vs with
  | nil => cases vs with
   | nil => rfl
   | cons v vs => cases hev
  | cons c cs ih => cases vs with
   | nil => cases hev
   | cons v vs =>
    simp only [List.map_cons, List.cons.injEq] at hev ⊢
    refine ⟨?_, ih vs hev.2⟩
    rw [ev_of hrep.regs hev.1]; rfl
 have hrun : (execOp a.eval o).run P w = .ok (.value (.func (.func f) #[] vs.toArray)) w := by
  unfold execOp
  simp only [hop]
  simp [Instr.makeFunc, Sem.run_pure, ← hcs]
 unfold Oper.wp
 rw [hrun]
 have hr2 := hrep.set (d := o.dst) (x := some (.v (.func (.func f) #[] vs.toArray))) (v := .func (.func f) #[] vs.toArray) (fun s hs => (free_of hd hf s hs).1) (fun z e => by injection e with e; rw [← e]; rfl) (fun z t e ht => by injection e with e; rw [← e] at ht; cases ht)
 show ∃ S' B' u'' u2, Rep w0 u0 S' B' (a.put o.dst _) w u'' ∧ _
 refine ⟨_, B, u', u, hr2, Ext.refl _, Ext.refl _, he, ?_⟩
 rw [hd]; exact k
def SL (P : Program) (w0 : Base) (u0 : World) (ops : Array Oper) (l : List Oper) (S : St) (u : World) (Q : MP) : Prop :=
 ∀ B a w u', Ext u u' → Rep w0 u0 S B a w u' → wpList P ops (fun e a' w' => ∃ S' B' u'', Rep w0 u0 S' B' a' w' u'' ∧ Q.f e S' u'') l a w
theorem SL.mono {l : List Oper} {Q : MP} : Mono (fun S u => SL P w0 u0 ops l S u Q) := fun S u u' e h B a w u'' e' hr => h B a w u'' (e.trans e') hr
theorem sl_key {Q : Exit → Act → World → Prop} (hK : Mono K) (l2 : List Oper) (hQ : ∀ S u, K S u → ∀ B a w, Rep w0 u0 S B a w u → wpList P ops Q l2 a w) :
  ∀ (l : List Oper) (S : St) (B : Tmp → Nat) (a : Act) (w u : World), Rep w0 u0 S B a w u → sym P ops w0 u0 true (l.map fun o => (o, [])) S u K → wpList P ops Q (l ++ l2) a w := by
 intro l
 induction l with
 | nil => intro S B a w u hr h; exact hQ S u h B a w hr
 | cons o l ih =>
  intro S B a w u hr h
  have hs := one_sound (Q := Q) (sym_mono hK) h (Ext.refl _) hr
  refine wpList_step fun K' hK' => ?_
  have hfin : ∀ a' w', (∃ S' B' u'', Rep w0 u0 S' B' a' w' u'' ∧ Ext u u'' ∧ sym P ops w0 u0 true (l.map fun o => (o, [])) S' u'' K) → K' a' w' := by
   rintro a' w' ⟨S', B', u'', g1, _, g3⟩
   exact hK' _ _ (ih S' B' a' w' u'' g1 g3)
  show if Region.wanted o (yielded ops a.tmps) = true then _ else _
  split
  ·rename_i hw
   rw [if_pos hw] at hs
   exact Oper.wp_mono hfin hs
  ·rename_i hw
   rw [if_neg hw] at hs
   exact hfin _ _ hs
theorem sw_cut {id : Nat} {Q : MP} (n : Nat) (h : sym P ops w0 u0 true ((ops.toList.take n).map fun o => (o, [])) S u (fun S' u' => SL P w0 u0 ops (ops.toList.drop n) S' u' Q)) : SW P w0 u0 (.region id ops false) S u Q := by
 intro B a w u' e hr
 refine wp_region_list ?_
 have := sl_key (Q := fun e a' w' => ∃ S' B' u'', Rep w0 u0 S' B' a' w' u'' ∧ Q.f e S' u'') (SL.mono (l := ops.toList.drop n) (Q := Q)) (ops.toList.drop n) (fun S u h B a w hr => h B a w u (Ext.refl _) hr) (ops.toList.take n) S B a w u' hr (sym_mono SL.mono _ _ _ e h)
 rw [List.take_append_drop] at this
 exact this
theorem sl_sym {l : List Oper} {Q : MP} (h : sym P ops w0 u0 true (l.map fun o => (o, [])) S u (Q.f .normal)) : SL P w0 u0 ops l S u Q := by
 intro B a w u' e hr
 have := sl_key (P := P) (ops := ops) (Q := fun e a' w' => ∃ S' B' u'', Rep w0 u0 S' B' a' w' u'' ∧ Q.f e S' u'') (K := Q.f .normal) (Q.mono _) [] (fun S u h B a w hr => by exact ⟨S, B, u, hr, h⟩) l S B a w u' hr (sym_mono (Q.mono _) _ _ _ e h)
 rw [List.append_nil] at this
 exact this
theorem Rep.adoptA (hrep : Rep w0 u0 S B a w u') {r k : Tmp} {b : Nat} {cs : List Value} {ty : TypeId} (hr : S.reg r = some (.v (.pointer (some ⟨b, 0, none⟩)))) (hbu : u'.heap[b]? = some (.cells cs.toArray ty (0, 0))) (hb0 : u0.heap.size ≤ b) (hk : S.var k = none) (hkn : k < S.n) :
  Rep w0 u0 ⟨S.n, upd S.reg r (some (.adr k 0)), upd S.var k (some ⟨ty, cs⟩)⟩ (setB B k b) a w (hideB u' b) := by
 have hbw : w.heap[b]? = some (.cells cs.toArray ty (0, 0)) := hrep.dat.ext.cells hbu
 have hlt := lt_of_get hbu
 have hno : ∀ s x, S.reg s = some x → x.at? ≠ some k := fun s x hx hc => by
  obtain ⟨V, hV⟩ := hrep.wf.reg s x k hx hc; rw [hk] at hV; cases hV
 have hBt : ∀ t V, S.var t = some V → B t ≠ b := fun t V hV hc => by
  have := (hrep.var t V hV).2.1
  rw [hc, hbu] at this
  injection this with this
  unfold hidO at this; cases this
 refine ⟨⟨fun s x hx => ?_, hrep.regs.size⟩, ⟨fun s x t hx ht => ?_⟩, hrep.defers, fun t V hV => ?_, fun t t' V1 V2 h1 h2 he => ?_, ⟨by rw [hideB_size]; exact hrep.dat.size, fun b' o hb' hh => ?_⟩, hrep.base, ⟨by rw [hideB_size]; exact hrep.grow.size, fun b' hb' => ?_⟩, hrep.bel⟩
 ·by_cases e1 : s = r
  ·subst e1
   simp only [upd_same] at hx
   injection hx with hx
   subst hx
   have := hrep.regs.reg s _ hr
   simpa [SV.conc, setB] using this
  ·simp only [upd_ne _ _ e1] at hx
   rw [conc_setB (hno s x hx)]
   exact hrep.regs.reg s x hx
 ·show ∃ V, upd S.var k (some ⟨ty, cs⟩) t = some V
  by_cases e2 : t = k
  ·subst e2; exact ⟨_, upd_same _ _ _⟩
  ·rw [upd_ne _ _ e2]
   by_cases e1 : s = r
   ·subst e1
    simp only [upd_same] at hx
    injection hx with hx
    subst hx
    injection ht with ht; exact absurd ht.symm e2
   ·simp only [upd_ne _ _ e1] at hx
    exact hrep.wf.reg s x t hx ht
 ·by_cases e2 : t = k
  ·subst e2
   simp only [upd_same] at hV
   injection hV with hV
   subst hV
   rw [show setB B t b t = b by simp [setB]]
   exact ⟨hbw, hideB_eq hlt, .mk0 hkn hb0⟩
  ·simp only [upd_ne _ _ e2] at hV
   obtain ⟨g1, g2, g3⟩ := hrep.var t V hV
   rw [show setB B k b t = B t by simp [setB, e2]]
   exact ⟨g1, by rw [hideB_ne (hBt t V hV)]; exact g2, g3⟩
 ·by_cases e1 : t = k
  ·by_cases e2 : t' = k
   ·rw [e1, e2]
   ·simp only [upd_ne _ _ e2] at h2
    simp [setB, e1, e2] at he
    exact absurd he.symm (hBt t' V2 h2)
  ·simp only [upd_ne _ _ e1] at h1
   by_cases e2 : t' = k
   ·simp [setB, e1, e2] at he
    exact absurd he (hBt t V1 h1)
   ·simp only [upd_ne _ _ e2] at h2
    simp [setB, e1, e2] at he
    exact hrep.inj t t' V1 V2 h1 h2 he
 ·by_cases e1 : b' = b
  ·subst e1
   rw [hideB_eq hlt] at hb'; injection hb' with hb'; exact absurd hb'.symm hh
  ·rw [hideB_ne e1] at hb'; exact hrep.dat.vis b' o hb' hh
 ·rw [hideB_ne (by omega)]; exact hrep.grow.old b' hb'
theorem Rep.adopt (hrep : Rep w0 u0 S B a w u') {r k : Tmp} {b n c : Nat} {cs : List Value} {ty : TypeId} (hr : S.reg r = some (.v (.slice (some ⟨b, 0, none⟩) n c))) (hbu : u'.heap[b]? = some (.cells cs.toArray ty (0, 0))) (hb0 : u0.heap.size ≤ b) (hk : S.var k = none) (hkn : k < S.n) :
  Rep w0 u0 ⟨S.n, upd S.reg r (some (.slc k 0 n c)), upd S.var k (some ⟨ty, cs⟩)⟩ (setB B k b) a w (hideB u' b) := by
 have hbw : w.heap[b]? = some (.cells cs.toArray ty (0, 0)) := hrep.dat.ext.cells hbu
 have hlt := lt_of_get hbu
 have hno : ∀ s x, S.reg s = some x → x.at? ≠ some k := fun s x hx hc => by
  obtain ⟨V, hV⟩ := hrep.wf.reg s x k hx hc; rw [hk] at hV; cases hV
 have hBt : ∀ t V, S.var t = some V → B t ≠ b := fun t V hV hc => by
  have := (hrep.var t V hV).2.1
  rw [hc, hbu] at this
  injection this with this
  unfold hidO at this; cases this
 refine ⟨⟨fun s x hx => ?_, hrep.regs.size⟩, ⟨fun s x t hx ht => ?_⟩, hrep.defers, fun t V hV => ?_, fun t t' V1 V2 h1 h2 he => ?_, ⟨by rw [hideB_size]; exact hrep.dat.size, fun b' o hb' hh => ?_⟩, hrep.base, ⟨by rw [hideB_size]; exact hrep.grow.size, fun b' hb' => ?_⟩, hrep.bel⟩
 ·by_cases e1 : s = r
  ·subst e1
   simp only [upd_same] at hx
   injection hx with hx
   subst hx
   have := hrep.regs.reg s _ hr
   simpa [SV.conc, setB] using this
  ·simp only [upd_ne _ _ e1] at hx
   rw [conc_setB (hno s x hx)]
   exact hrep.regs.reg s x hx
 ·show ∃ V, upd S.var k (some ⟨ty, cs⟩) t = some V
  by_cases e2 : t = k
  ·subst e2; exact ⟨_, upd_same _ _ _⟩
  ·rw [upd_ne _ _ e2]
   by_cases e1 : s = r
   ·subst e1
    simp only [upd_same] at hx
    injection hx with hx
    subst hx
    injection ht with ht; exact absurd ht.symm e2
   ·simp only [upd_ne _ _ e1] at hx
    exact hrep.wf.reg s x t hx ht
 ·by_cases e2 : t = k
  ·subst e2
   simp only [upd_same] at hV
   injection hV with hV
   subst hV
   rw [show setB B t b t = b by simp [setB]]
   exact ⟨hbw, hideB_eq hlt, .mk0 hkn hb0⟩
  ·simp only [upd_ne _ _ e2] at hV
   obtain ⟨g1, g2, g3⟩ := hrep.var t V hV
   rw [show setB B k b t = B t by simp [setB, e2]]
   exact ⟨g1, by rw [hideB_ne (hBt t V hV)]; exact g2, g3⟩
 ·by_cases e1 : t = k
  ·by_cases e2 : t' = k
   ·rw [e1, e2]
   ·simp only [upd_ne _ _ e2] at h2
    simp [setB, e1, e2] at he
    exact absurd he.symm (hBt t' V2 h2)
  ·simp only [upd_ne _ _ e1] at h1
   by_cases e2 : t' = k
   ·simp [setB, e1, e2] at he
    exact absurd he (hBt t V1 h1)
   ·simp only [upd_ne _ _ e2] at h2
    simp [setB, e1, e2] at he
    exact hrep.inj t t' V1 V2 h1 h2 he
 ·by_cases e1 : b' = b
  ·subst e1
   rw [hideB_eq hlt] at hb'; injection hb' with hb'; exact absurd hb'.symm hh
  ·rw [hideB_ne e1] at hb'; exact hrep.dat.vis b' o hb' hh
 ·rw [hideB_ne (by omega)]; exact hrep.grow.old b' hb'
theorem sl_adoptA {l : List Oper} {Q : MP} {r k : Tmp} {b : Nat} {cs : List Value} {ty : TypeId} (hr : S.reg r = some (.v (.pointer (some ⟨b, 0, none⟩)))) (hb : u.heap[b]? = some (.cells cs.toArray ty (0, 0))) (hb0 : u0.heap.size ≤ b) (hk : S.var k = none)
  (kk : ∀ u1, ExtB b u u1 → SL P w0 u0 ops l ⟨S.n, upd S.reg r (some (.adr k 0)), upd S.var k (some ⟨ty, cs⟩)⟩ u1 Q) (hkn : Nat.blt k S.n = true := by kernel_rfl) : SL P w0 u0 ops l S u Q := by
 intro B a w u' e hrep
 have hex : ExtB b u (hideB u' b) := ⟨by rw [hideB_size]; exact e.size, fun k' o hk' ho hh => by rw [hideB_ne hk']; exact e.vis k' o ho hh⟩
 exact kk (hideB u' b) hex (setB B k b) a w _ (Ext.refl _) (hrep.adoptA hr (e.cells hb) hb0 hk (Nat.le_of_ble_eq_true hkn))
theorem pubW_ext' {g : Nat} (hsz2 : u'.heap.size ≤ w'.heap.size) (hus : u'.heap.size = w.heap.size) (hnew : ∀ k, k < w.heap.size → w'.heap[k]? = w.heap[k]?) (hd : Dat u' w) (hge : w.heap.size ≤ g) : Ext (hide u' w') (pubW (hide u' w') w' [g]) := by
 refine ⟨Nat.le_of_eq (pubW_size _ _ _).symm, fun b ob hb hh => ?_⟩
 have hlt := lt_of_get hb
 rw [hide_size hsz2] at hlt
 by_cases e : b = g
 ·subst e
  rw [hide_new (by omega) hlt] at hb
  injection hb with hb; exact absurd hb.symm hh
 ·rw [pubW_out (by simpa using e)]; exact hb
theorem sy_appG (d : Tmp) {T E : TypeId} {s x : Operand} {z : Value} {size bytes : Nat} {m c n cap t2 b off : Nat} {A : Option Addr} {ty2 : TypeId} {cs0 : List Value} (news : List Value) (hA : A = some ⟨b, off, none⟩) (hT : P.underlying T = some (.slice E)) (hi : (P.info? E).map (fun i => (i.zero, i.size, i.bytes)) = some (some z, size, bytes)) (hzs : z.cells.size = size) (hsz : 0 < size)
  (hl : news.length = m * size) (h1 : ∀ v ∈ news, v.oneCell' = true) (hm : 0 < m) (h63 : n + m ≤ maxLen) (hbytes : (n + m) * bytes ≤ 140737488355328)
  (hcap : cap < n + m) (hcl : cs0.length = n * size) (hold : ∀ j v, cs0[j]? = some v → u.cell? ⟨b, off + j, none⟩ = some v)
  (k : ∀ (g c1 : Nat) (cs : List Value) (u1 : World), Ext u u1 → u.heap.size ≤ g → n + m ≤ c1 → c1 ≤ maxLen → cs.length = c1 * size → cs.take ((n + m) * size) = cs0 ++ news → u1.heap[g]? = some (.cells cs.toArray E (0, 0)) → sym P ops w0 u0 seq rest (S.set d (.v (.slice (some ⟨g, 0, none⟩) (n + m) c1))) u1 K)
  (hw : Wants ops o S := by exact wants0 (by kernel_rfl)) (hd : o.dst = some d := by kernel_rfl) (hop : o.op = .call { callee := .builtin .append, args := #[s, x], argTypes := #[T, T] } := by rfl) (hf : (freeB S d && (S.var d).isNone) = true := by kernel_rfl)
  (hs : evO S s = some (.v (.slice A n cap)) := by rfl) (hx : evO S x = some (.slc t2 0 m c) := by rfl) (hv2 : S.var t2 = some ⟨ty2, news⟩ := by rfl) : sym P ops w0 u0 seq ((o, p) :: rest) S u K := by
 subst hA
 simp only [Bool.and_eq_true, Option.isNone_iff_eq_none] at hf
 refine .inr (.inr (.inl ⟨.inr ⟨by rw [hop]; rfl, by rw [hop]; rfl⟩, fun B a w u' he hrep => ⟨hw B a hrep.regs, ?_⟩⟩))
 obtain ⟨q1, q2, q3⟩ := hrep.var t2 _ hv2
 obtain ⟨i, hi1, hz, hs1, hby⟩ := info_parts hi
 obtain ⟨v', w', hrun, ⟨g1, g2⟩, g3⟩ := run_append_arg_grows (P := P) (w := w) T o.type E i z size bytes hT hi1 hz hs1 hby hzs hsz ⟨b, off, none⟩ n cap cs0 hcl (fun j v hv => by rw [addr_add]; exact hrep.dat.ext.cell (he.cell (hold j v hv))) ⟨B t2, 0, none⟩ m c news hl (fun j v hv => by rw [addr_add, Nat.zero_add, cells_at q1]; simpa using hv) hcap h63 hbytes
 rcases g2 with ⟨_, hn0⟩ | ⟨g, c1, cs, rfl, hge, hgv, k1, k2, k3, k4⟩
 ·omega
 unfold Oper.wp execOp
 simp only [hop, resolve, invoke, builtin, Sem.run_bind, Sem.run_pure, Result.andThen_ok, List.map_toArray, List.map_cons, List.map_nil, ev_of hrep.regs hs, ev_of hrep.regs hx, SV.conc, hrun]
 have hdn := (free_of hd hf.1 d hd).1
 have hgw := lt_of_get hgv
 have hus : u'.heap.size = w.heap.size := hrep.dat.size
 have hgx : w'.heap[g]? = some (.cells cs.toList.toArray E (0, 0)) := by simpa using hgv
 have hsz2 : u'.heap.size ≤ w'.heap.size := by rw [hus]; exact g3.size
 have hreg : ∀ r y t, S.reg r = some y → y.at? = some t → t ≠ d := fun r y t hr ht e => by
  obtain ⟨V, hV⟩ := hrep.wf.reg r y t hr ht
  rw [e, hf.2] at hV; cases hV
 have hnew : ∀ k', k' < w.heap.size → w'.heap[k']? = w.heap[k']? := fun k' hk' => g3.block k' hk' (fun e => by cases e)
 refine ⟨S.set d (.v (.slice (some ⟨g, 0, none⟩) (n + m) c1)), B, pubW (hide u' w') w' [g], pubW (hide u' w') w' [g], ?_, ?_, ?_, Ext.refl _, ?_⟩
 ·have hdat : Dat (hide u' w') w' := ⟨hide_size hsz2, fun k' ob hk' hh => by
   by_cases hlt : k' < u'.heap.size
   ·rw [hide_old hlt] at hk'
    rw [hnew k' (by omega)]
    exact hrep.dat.vis k' ob hk' hh
   ·have h9 := lt_of_get hk'
    rw [hide_size hsz2] at h9
    rw [hide_new (by omega) h9] at hk'
    injection hk' with hk'; exact absurd hk'.symm hh⟩
  refine ⟨⟨fun r y hy => ?_, by rw [Act.put_size]; exact hrep.regs.size⟩, ⟨fun r y t hy ht => ?_⟩, by rw [put_defers]; exact hrep.defers, fun t V hV => ?_, fun t t' V1 V2 e1 e2 => hrep.inj t t' V1 V2 e1 e2, pubW_dat hdat, hrep.base, pubW_grow (hrep.grow.trans (hide_grow hsz2)) (fun b' hb' => ?_), ?_⟩
  ·rw [hd]
   by_cases e : r = d
   ·subst e
    simp only [St.set, upd_same] at hy
    injection hy with hy
    subst hy
    rw [Act.put_get_same _ _ (by rw [hrep.regs.size]; exact hdn)]
    rfl
   ·simp only [St.set, upd_ne _ _ e] at hy
    rw [Act.put_get_ne _ _ (fun k => e (by injection k with k; exact k.symm))]
    exact hrep.regs.reg r y hy
  ·by_cases e : r = d
   ·subst e
    simp only [St.set, upd_same] at hy
    injection hy with hy
    subst hy; cases ht
   ·simp only [St.set, upd_ne _ _ e] at hy
    exact hrep.wf.reg r y t hy ht
  ·obtain ⟨v1, v2, v3⟩ := hrep.var t V hV
   have hlt := lt_of_get v2
   refine ⟨by rw [hnew _ (by omega)]; exact v1, ?_, v3⟩
   rw [pubW_out (by simp; omega), hide_old hlt]
   exact v2
  ·simp at hb'
   subst hb'
   have := hrep.grow.size
   omega
  ·refine hrep.bel.trans ⟨g3.os, g3.tape, g3.output, g3.size, fun k' hk' => hnew k' ?_⟩
   have := hrep.bel.size; omega
 ·exact (hide_grow hsz2).ext.trans (pubW_ext' hsz2 hus hnew hrep.dat hge)
 ·exact he.trans ((hide_grow hsz2).ext.trans (pubW_ext' hsz2 hus hnew hrep.dat hge))
 ·refine k g c1 cs.toList _ (he.trans ((hide_grow hsz2).ext.trans (pubW_ext' hsz2 hus hnew hrep.dat hge))) (Nat.le_trans he.size (by omega)) k1 k2 (by simpa using k3) (by simpa using k4) ?_
  rw [pubW_in (by simp) (by rw [hide_size hsz2]; exact hgw) (hide_size hsz2)]
  exact hgx
end
theorem sy_front3 {P : Program} {ops : Array Oper} {w0 : Base} {u0 : World} {S : St} {u : World} {o : Oper} {p : List Tmp} {seq : Bool} {rest : List (Oper × List Tmp)} {K : St → World → Prop} (d : Tmp) {T : TypeId} {x h g : Operand} {A : Option Addr} {n c : Nat} {k k2 : IntKind} {i j : Int} (m : Nat) {sz : Nat} (hT : SlIs P T sz) (hi : i = m) (hj : j = m) (hm : m ≤ c)
  (kk : sym P ops w0 u0 seq rest (S.set d (.v (.slice A m m))) u K) (hw : Wants ops o S := by exact wants0 (by kernel_rfl)) (hd : o.dst = some d := by kernel_rfl) (hop : o.op = .slice T x none (some h) (some g) := by rfl) (hf : freeB S d = true := by kernel_rfl)
  (hx : evO S x = some (.v (.slice A n c)) := by rfl) (hh : evO S h = some (.v (.int k i)) := by rfl) (hg : evO S g = some (.v (.int k2 j)) := by rfl) : sym P ops w0 u0 seq ((o, p) :: rest) S u K := by
 subst hi hj
 obtain ⟨E, agg, hu, hE⟩ := hT
 refine .inl ⟨by rw [hop]; exact (by decide : (0 : Nat) ≠ 2), .set (.v (.slice A m m)), ⟨free_of hd hf, .inl ⟨(fun t ht => by cases ht), fun B a w u' hr he hdt => ⟨hw B a hr, ?_⟩⟩⟩, ?_⟩
 ·have e1 : (execOp a.eval o).run P w = (do pure (Next.value (← Instr.sliceAt T (a.eval x) none (some (a.eval h)) (some (a.eval g)))) : Sem Next).run P w := by unfold execOp; rw [hop]; rfl
  rw [e1, ev_eval hr hx, ev_eval hr hh, ev_eval hr hg]
  refine run_val ?_
  show (Instr.sliceAt T (.slice A n c) none (some (.int k m)) (some (.int k2 m))).run P w = .ok (.slice A m m) w
  have hs := (hE w).2
  simp [Instr.sliceAt, Instr.slice, Instr.sliceBounds, Instr.sliceBound, asIntOf, run_underlying hu, go_sem, hs, hm]
 ·show sym P ops w0 u0 seq rest (S.put o.dst (some _)) u K
  rw [hd]; exact kk
theorem sw_ren {P : Program} {w0 : Base} {u0 u : World} {S : St} {c0 : Code} {Q : MP} {r t : Tmp} {n c : Nat} {V : Vr} (k : Tmp) (pubs : List Tmp) (hno : NoAt S pubs) (hall : (pubs.all fun s => Nat.beq s t || (S.var s).isNone) = true) (hr : S.reg r = some (.slc t 0 n c)) (hv : S.var t = some V) (ht : pubs.contains t = true) (hk : (S.unpub pubs).var k = none)
  (kk : SW P w0 u0 c0 ⟨S.n, upd ((S.unpub pubs).set r (.v (.slice none 0 0))).reg r (some (.slc k 0 n c)), upd (S.unpub pubs).var k (some V)⟩ u Q) (hlt : Nat.blt t S.n = true := by kernel_rfl) (hkn : Nat.blt k S.n = true := by kernel_rfl) : SW P w0 u0 c0 S u Q := by
 intro B a w u' e hrep
 have hm := List.contains_iff_mem.1 ht
 obtain ⟨g1, g2, g3⟩ := hrep.var t V hv
 have hx : Ext u' (pubW u' w [B t]) := pubW_ext hrep.dat
 have hrep2 := hrep.pub hno hm (fun s hs V' hV' => by
  have := List.all_eq_true.1 hall s hs
  simp only [Bool.or_eq_true, Option.isNone_iff_eq_none] at this
  rcases this with h | h
  ·exact Nat.eq_of_beq_eq_true h
  ·rw [hV'] at h; cases h) hr hv (Nat.le_of_ble_eq_true hlt)
 have hin : (pubW u' w [B t]).heap[B t]? = some (.cells V.cs.toArray V.ty (0, 0)) := by rw [pubW_in (by simp) (lt_of_get g2) hrep.dat.size]; exact g1
 have hex : Ext u' (hideB (pubW u' w [B t]) (B t)) := ⟨by rw [hideB_size]; exact hx.size, fun k' o hk' hh => by
  have hne : k' ≠ B t := by
   rintro rfl
   rw [g2] at hk'; injection hk' with hk'; exact hh hk'.symm
  rw [hideB_ne hne]; exact hx.vis k' o hk' hh⟩
 obtain ⟨B2, h2⟩ : ∃ B2, Rep w0 u0 ⟨S.n, upd ((S.unpub pubs).set r (.v (.slice (some ⟨B t, 0, none⟩) n c))).reg r (some (.slc k 0 n c)), upd (S.unpub pubs).var k (some V)⟩ B2 a w (hideB (pubW u' w [B t]) (B t)) := ⟨_, hrep2.adopt (by simp [St.set, upd_same]) hin (g3.1 (Nat.le_of_ble_eq_true hlt)) hk (Nat.le_of_ble_eq_true hkn)⟩
 have hS : (⟨S.n, upd ((S.unpub pubs).set r (.v (.slice (some ⟨B t, 0, none⟩) n c))).reg r (some (.slc k 0 n c)), upd (S.unpub pubs).var k (some V)⟩ : St) = ⟨S.n, upd ((S.unpub pubs).set r (.v (.slice none 0 0))).reg r (some (.slc k 0 n c)), upd (S.unpub pubs).var k (some V)⟩ := by
  congr 1
  funext z
  by_cases e1 : z = r
  ·subst e1; rw [upd_same, upd_same]
  ·rw [upd_ne _ _ e1, upd_ne _ _ e1]; simp only [St.set, upd_ne _ _ e1]
 rw [hS] at h2
 exact kk B2 a w _ (e.trans hex) h2
theorem sy_max2 {P : Program} {ops : Array Oper} {w0 : Base} {u0 : World} {S : St} {u : World} {o : Oper} {p : List Tmp} {rest : List (Oper × List Tmp)} {K : St → World → Prop} (d : Tmp) {x y : Operand} {k0 : IntKind} {n m v : Int} {tys : Array TypeId} (hv : (if m > n then m else n) = v)
  (k : sym P ops w0 u0 true rest (S.set d (.v (.int k0 v))) u K)
  (hw : Wants ops o S := by exact wants0 (by kernel_rfl)) (hd : o.dst = some d := by kernel_rfl) (hop : o.op = .call { callee := .builtin .max, args := #[x, y], argTypes := tys } := by rfl) (hf : freeB S d = true := by kernel_rfl)
  (hx : evO S x = some (.v (.int k0 n)) := by rfl) (hy : evO S y = some (.v (.int k0 m)) := by rfl) : sym P ops w0 u0 true ((o, p) :: rest) S u K := by
 refine .inr (.inr (.inl ⟨.inl rfl, fun B a w u' he hrep => ⟨hw B a hrep.regs, ?_⟩⟩))
 have hrun : ∀ ty w, (Builtin.max_ tys ty #[.int k0 n, .int k0 m]).run P w = .ok (.int k0 v) w := by
  intro ty w
  rw [← hv]
  rfl
 unfold Oper.wp execOp
 simp only [hop, resolve, invoke, builtin, Sem.run_bind, Sem.run_pure, Result.andThen_ok, List.map_toArray, List.map_cons, List.map_nil, ev_of hrep.regs hx, ev_of hrep.regs hy, SV.conc, hrun]
 have hr2 := hrep.set (d := o.dst) (x := some (.v (.int k0 v))) (v := .int k0 v) (fun s hs => (free_of hd hf s hs).1) (fun z e => by injection e with e; rw [← e]; rfl) (fun z t e ht => by injection e with e; rw [← e] at ht; cases ht)
 show ∃ S' B' u'' u2, Rep w0 u0 S' B' (a.put o.dst _) w u'' ∧ _
 refine ⟨_, B, u', u, hr2, Ext.refl _, Ext.refl _, he, ?_⟩
 rw [hd]; exact k
section
variable {u u' u1 : World} {L : List RL} {r : RL} {l : List Rat} {q : Rat} {K n b b6 : Nat} {cs : List Value} {t t6 : TypeId}
theorem rl_set_same {i : Nat} (h : i < L.length) : (L.set i r).getD i rl0 = r := by
 rw [List.getD_eq_getElem?_getD, List.getElem?_set_self h]; rfl
theorem var_cells (h : u.heap[b]? = some (.cells cs.toArray t (0, 0))) : ∀ i, i < cs.length → u.cell? ⟨b, 0 + i, none⟩ = cs[i]? := fun i _ => by rw [Nat.zero_add, cells_at h]; simp
theorem var_cell1 {v : Value} (h : u.heap[b]? = some (.cells [v].toArray t (0, 0))) : u.cell? ⟨b, 0, none⟩ = some v := by rw [cells_at h]; rfl
theorem SlR.extB0 {A : Option Addr} {m c : Nat} {z : List Int} (h : SlR .u32 u A m c z) (hb : u.heap[b]? = some (.cells cs.toArray t (0, 0))) (hn : ∀ v ∈ cs, ∀ y, v ≠ .int .u32 y) (e : ExtB b u u') : SlR .u32 u' A m c z := by
 obtain ⟨h1, h2, h3, h4⟩ := h
 refine ⟨h1, h2, h3, fun hp => ?_⟩
 obtain ⟨b', o, rfl, hlt, hc⟩ := h4 hp
 have hne : b' ≠ b := by
  rintro rfl
  have := hc 0 hp
  rw [cells_at hb] at this
  have h9 : cs[o + 0]? = some (.int .u32 (z[0]?.getD 0)) := by simpa using this
  exact hn _ (List.mem_of_getElem? h9) _ rfl
 refine ⟨b', o, rfl, Nat.lt_of_lt_of_le hlt e.size, fun i hi => ?_⟩
 have := hc i hi
 unfold World.cell? at this ⊢
 cases hb' : u.heap[b']? with
 | none => simp only [hb'] at this; cases this
 | some ob =>
  simp only [hb'] at this
  cases ob with
  | cells cs t' fr => rw [e.vis b' _ hne hb' (by unfold hidO; exact fun e => by cases e)]; exact this
  | _ => cases this
theorem RatN.extB0 (h : RatN u r q K) (hb : u.heap[b]? = some (.cells cs.toArray t (0, 0))) (hn : ∀ v ∈ cs, ∀ y, v ≠ .int .u32 y) (e : ExtB b u u') : RatN u' r q K :=
 ⟨⟨h.1.1, h.1.2.1, h.1.2.2.1.extB0 hb hn e, h.1.2.2.2⟩, h.2.1, h.2.2.1.extB0 hb hn e, h.2.2.2⟩
theorem newR_adopt (hb : u.heap.size ≤ b) (hh : u'.heap[b]? = some (.cells (rcs L).toArray t (0, 0))) (hL : L.length = n) (hR : RatsN u' L l K) (hm : n ≤ maxLen) (h6 : u.heap[b6]? = some (.cells cs.toArray t6 (0, 0))) (h6' : u'.heap[b6]? = some (.cells cs.toArray t6 (0, 0))) (hn : ∀ v ∈ cs, ∀ y, v ≠ .int .u32 y) (e : ExtB b6 u' u1) : PolN u1 ⟨some ⟨b, 0, none⟩, n, n⟩ l K := by
 have hlt := lt_of_get h6
 exact pol_data1 (e.vis b _ (by omega) hh (by unfold hidO; exact fun e => by cases e)) (by omega) ⟨hR.1, fun i hi => (hR.2 i hi).extB0 h6' hn e⟩ hL.symm
end
namespace Nt
def smallQ (q : Rat) : Bool := decide (absQ q < ((1 : Int) : Rat))
def upS (l : List Rat) (q : Rat) (m : Nat) : List Rat := (List.range l.length).map fun j => l.getD j 0 + q * l.getD (m + 1 - j) 0
def upL (k : List Rat) : Nat → List Rat
 | 0 => [((1 : Int) : Rat)]
 | i + 1 => upS (upL k i ++ [((0 : Int) : Rat)]) (k.getD i 0) i
theorem upS_len (l : List Rat) (q : Rat) (m : Nat) : (upS l q m).length = l.length := by unfold upS; simp
theorem upL_len (k : List Rat) (i : Nat) : (upL k i).length = i + 1 := by
 induction i with
 | zero => rfl
 | succ i ih => show (upS _ _ _).length = _; rw [upS_len, List.length_append, ih]; rfl
theorem getD_app0 (l : List Rat) (j : Nat) : (l ++ [((0 : Int) : Rat)]).getD j 0 = l.getD j 0 := by
 rw [List.getD_eq_getElem?_getD, List.getD_eq_getElem?_getD]
 by_cases h : j < l.length
 ·rw [List.getElem?_append_left h]
 ·rw [List.getElem?_append_right (by omega), List.getElem?_eq_none (l := l) (by omega)]
  cases e : j - l.length with
  | zero => rfl
  | succ n => rfl
theorem upS_at (l : List Rat) (q : Rat) (m j : Nat) (h : j < l.length) : (upS l q m).getD j 0 = l.getD j 0 + q * l.getD (m + 1 - j) 0 := by
 unfold upS
 rw [List.getD_eq_getElem?_getD (l := List.map _ _), List.getElem?_map, List.getElem?_range h]
 rfl
def upK (i : Nat) : Nat := 32 * 2 ^ i - 16
theorem upK_succ (i : Nat) : upK (i + 1) = 2 * upK i + 16 ∧ 16 ≤ upK i := by
 unfold upK
 have := Nat.one_le_two_pow (n := i)
 rw [Nat.pow_succ]
 omega
theorem upK_le {i : Nat} (h : i ≤ 6) : upK i ≤ 2032 := by
 unfold upK
 have := Nat.pow_le_pow_right (n := 2) (by decide) h
 omega
end Nt
set_option maxHeartbeats 1000000 in
theorem k_up1 {u w : World} {x : Sl} {l : List Rat} {r v : RL} {q y : Rat} {K M m j : Nat} {b6 b7 b8 : Nat} (d : Dat u w) (hx : PolN u x l K) (hr : RatV u r q M) (hv : RatN u v y K) (h8 : u.heap[b8]? = some (.cells r.cs.toArray 29 (0, 0))) (h6 : u.heap[b6]? = some (.cells [Value.slice x.a x.n x.c].toArray 24 (0, 0))) (h7 : u.heap[b7]? = some (.cells [Value.int .i64 (m : Int)].toArray 3 (0, 0))) (hm : m + 2 = l.length) (hj : j < l.length) (hK : K ≤ 10000000) (hM : M ≤ 10000000) (hl : l.length ≤ 1000000) : Calls Tryz.prog 110 #[.int .i64 (j : Int), v.v, .pointer (some ⟨b8, 0, none⟩), .pointer (some ⟨b6, 0, none⟩), .pointer (some ⟨b7, 0, none⟩)] w (Post u w fun v u' => ∃ r : RL, v = r.v ∧ RatN u' r (y + q * l.getD (m + 1 - j) 0) (2 * K + M + 1)) := by
 have hlen := hx.len
 refine zzl (args := [.int .i64 (j : Int), v.v, .pointer (some ⟨b8, 0, none⟩), .pointer (some ⟨b6, 0, none⟩), .pointer (some ⟨b7, 0, none⟩)]) Tryz.func110 rfl Tryz.ntmps110 (rs := [.cell 7 29]) Tryz.results110 (le_b rfl) (le_b rfl) d ?_
 refine sq9 ?_
 refine zzj 6 ⟨29, v.cs⟩ ?_
 refine zzj 7 ⟨29, [.bool false, .slice none 0 0, .slice none 0 0]⟩ ?_
 refine zzb 19 [(0, .v (.int .i64 (j : Int))), (2, .v (.pointer (some ⟨b8, 0, none⟩))), (3, .v (.pointer (some ⟨b6, 0, none⟩))), (4, .v (.pointer (some ⟨b7, 0, none⟩))), (6, .adr 6 0), (7, .adr 7 0)] [(6, ⟨29, v.cs⟩), (7, ⟨29, [.bool false, .slice none 0 0, .slice none 0 0]⟩)] ?_
 refine zzc ?_
 refine zzy [0, 0, 0, 0, 8, 0, 56, 124, 252, 510, 1023, 2047] [(0, []), (1, []), (2, []), (3, []), (4, []), (5, []), (6, []), (7, []), (8, []), (9, []), (10, []), (11, [])] (by kernel_rfl) (by kernel_rfl) ?_
 refine zzh 8 (.v (v.v)) ty29 zzd ?_
 refine zyl 9 (r.cs) (var_cells h8) ty29 ?_
 refine zyk 10 x.v (var_cell1 h6) ty24 ?_
 refine zyk 11 (.int .i64 (m : Int)) (var_cell1 h7) ty3 ?_
 refine zyp 12 (x := .v (.int .i64 (IntKind.i64.wrap ((m : Int) + 1)))) (.v (.int .i64 ((m + 1 : Nat) : Int))) (eqI (by rw [IntWalk.i64_in _ (by omega)]; omega)) ?_
 refine zza 13 (.v (.int .i64 (j : Int))) ?_
 refine zyp 14 (x := .v (.int .i64 (IntKind.i64.wrap (((m + 1 : Nat) : Int) - (j : Int))))) (.v (.int .i64 (((m + 1) - j : Nat) : Int))) (eqI (by rw [IntWalk.i64_in _ (by omega)]; omega)) ?_
 have hl11 := hx.len
 obtain ⟨r11, b11, o11, hA11, hc11, hr11⟩ := pol_atN hx (i := (m + 1) - j) (by omega)
 refine zzz 15 (o11 + ((m + 1) - j) * 3) (n := x.n) (off := o11) (sz := 3) (i := (((m + 1) - j : Nat) : Int)) (by omega) hA11 (by omega) (by omega) sl24 ?_
 refine zyl 16 r11.cs hc11 ty29 ?_
 refine zzf 17 112 [r.v, r11.v] ?_
 intro w12 u12 e12 d12
 have k17 := k_ratMul d12 (hr.ext e12) (hr11.ext e12).raw (by omega) (by omega)
 with_reducible refine Post.mono k17 ?_
 rintro _ u15 g16 ⟨r13, rfl, h14⟩
 refine zzf 18 111 [v.v, r13.v] ?_
 intro w18 u18 e18 d18
 have k23 := k_ratAdd d18 (hv.ext (e12.trans (g16.ext.trans e18))).raw (h14.ext e18).raw (by omega) (by omega)
 with_reducible refine Post.mono k23 ?_
 rintro _ u21 g22 ⟨r19, rfl, h20⟩
 refine zzi ⟨29, r19.cs⟩ ty29 ?_
 refine zzb 19 [(7, .adr 7 0)] [(7, ⟨29, r19.cs⟩)] ?_
 refine zzn (ret0 [r19.v] ⟨zzq ty29 zzd, trivial⟩ fun u24 e25 => ?_)
 exact ⟨r19, rfl, RatN.more (K := (K + (M + K) + 1)) (h20.ext e25) (by omega)⟩
set_option maxHeartbeats 2000000 in
theorem k_mapUp {u w : World} {x : Sl} {l : List Rat} {r : RL} {q : Rat} {K M m : Nat} {b6 b7 b8 : Nat} (d : Dat u w) (hx : PolN u x l K) (hr : RatV u r q M) (h8 : u.heap[b8]? = some (.cells r.cs.toArray 29 (0, 0))) (h6 : u.heap[b6]? = some (.cells [Value.slice x.a x.n x.c].toArray 24 (0, 0))) (h7 : u.heap[b7]? = some (.cells [Value.int .i64 (m : Int)].toArray 3 (0, 0))) (hm : m + 2 = l.length) (hK : K ≤ 10000000) (hM : M ≤ 10000000) (hl : l.length ≤ 1000000) : Calls Tryz.prog 109 #[x.v, .func (.func 110) #[] #[.pointer (some ⟨b8, 0, none⟩), .pointer (some ⟨b6, 0, none⟩), .pointer (some ⟨b7, 0, none⟩)]] w (Post u w fun v u' => NewR u x.n (Nt.upS l q m) (2 * K + M + 1) v u') := by
 have hlen := hx.len
 have hul := Nt.upS_len l q m
 refine zzl (args := [.slice x.a x.n x.c, .func (.func 110) #[] #[.pointer (some ⟨b8, 0, none⟩), .pointer (some ⟨b6, 0, none⟩), .pointer (some ⟨b7, 0, none⟩)]]) Tryz.func109 rfl Tryz.ntmps109 (rs := [.tmp 4]) Tryz.results109 (le_b rfl) (le_b rfl) d ?_
 refine sq9 ?_
 refine zza 4 (.v (.slice none 0 0)) ?_
 refine zzb 27 [(0, .v x.v), (1, .v (.func (.func 110) #[] #[.pointer (some ⟨b8, 0, none⟩), .pointer (some ⟨b6, 0, none⟩), .pointer (some ⟨b7, 0, none⟩)]))] [] ?_
 refine sq9 ?_
 refine zza 8 (.v x.v) ?_
 refine zza 9 (.v (.int .i64 (x.n : Int))) ?_
 refine sy_make 10 (T := 24) (E := 29) (z := .agg #[.bool false, .slice none 0 0, .slice none 0 0]) (size := 3) (bytes := 56) x.n (rcs (List.replicate x.n rl0)) (by kernel_rfl) (by kernel_rfl) rfl rfl (by omega) (by unfold maxLen; omega) (made_rcs _) ?_
 refine zza 5 (.slc 10 0 x.n x.n) ?_
 refine zzb 27 [(0, .v x.v), (1, .v (.func (.func 110) #[] #[.pointer (some ⟨b8, 0, none⟩), .pointer (some ⟨b6, 0, none⟩), .pointer (some ⟨b7, 0, none⟩)])), (5, .slc 10 0 x.n x.n)] [(10, ⟨29, rcs (List.replicate x.n rl0)⟩)] ?_
 refine zzc ?_
 refine sq9 ?_
 refine zza 11 (.v x.v) ?_
 refine zza 12 (.v (.int .i64 (x.n : Int))) ?_
 refine zza 13 (.v (.int .i64 0)) ?_
 refine zzb 27 [(1, .v (.func (.func 110) #[] #[.pointer (some ⟨b8, 0, none⟩), .pointer (some ⟨b6, 0, none⟩), .pointer (some ⟨b7, 0, none⟩)])), (5, .slc 10 0 x.n x.n), (11, .v x.v), (12, .v (.int .i64 (x.n : Int))), (13, .v (.int .i64 0))] [(10, ⟨29, rcs (List.replicate x.n rl0)⟩)] ?_
 refine zzs ?_
 refine zym (I := fun m11 S' u' => ∃ (i : Nat) (L : List RL), (m11 = x.n - i) ∧ (i ≤ x.n) ∧ (L.length = x.n) ∧ (S' = St.of 27 [(1, .v (.func (.func 110) #[] #[.pointer (some ⟨b8, 0, none⟩), .pointer (some ⟨b6, 0, none⟩), .pointer (some ⟨b7, 0, none⟩)])), (5, .slc 10 0 x.n x.n), (11, .v (.slice x.a x.n x.c)), (12, .v (.int .i64 (x.n : Int))), (13, .v (.int .i64 (i : Int)))] [(10, ⟨29, rcs L⟩)]) ∧ (Ext u u') ∧ (RatsN u' (L.take i) ((Nt.upS l q m).take i) (2 * K + M + 1))) (fun m S u1 u2 e h => by obtain ⟨i, L, hm, p0, p1, hS, hE, f0⟩ := h; exact ⟨i, L, hm, p0, p1, hS, hE.trans e, f0.ext e⟩) _ (T := St.of 27 [(1, .v (.func (.func 110) #[] #[.pointer (some ⟨b8, 0, none⟩), .pointer (some ⟨b6, 0, none⟩), .pointer (some ⟨b7, 0, none⟩)])), (5, .slc 10 0 x.n x.n), (11, .v (.slice x.a x.n x.c)), (12, .v (.int .i64 (x.n : Int))), (13, .v (.int .i64 0))] [(10, ⟨29, rcs (List.replicate x.n rl0)⟩)]) (by exact zzu _ _ _) ⟨0, List.replicate x.n rl0, rfl, by omega, by simp, rfl, Ext.refl _, RatsN.tnil _ _ _ _⟩ ?_
 rintro m11 _ u11 ⟨i, L, hm11, hi, hL, rfl, e11, hR⟩
 refine sq9 ?_
 refine zza 14 (.v (.bool (decide ((i : Int) < (x.n : Int))))) ?_
 refine zzb 27 [(1, .v (.func (.func 110) #[] #[.pointer (some ⟨b8, 0, none⟩), .pointer (some ⟨b6, 0, none⟩), .pointer (some ⟨b7, 0, none⟩)])), (5, .slc 10 0 x.n x.n), (11, .v x.v), (12, .v (.int .i64 (x.n : Int))), (13, .v (.int .i64 (i : Int))), (14, .v (.bool (decide ((i : Int) < (x.n : Int)))))] [(10, ⟨29, rcs L⟩)] ?_
 refine zzc ?_
 refine zzt (b := decide ((i : Int) < (x.n : Int))) (by kernel_rfl) (fun hb12 => ?_) (fun hb12 => ?_)
 ·replace hb12 : (decide ((i : Int) < (x.n : Int))) = true := hb12
  have qhb12 := of_decide_eq_true hb12
  refine zzr (zzo ?_)
  refine zzc ?_
  refine zzs ?_
  refine sq9 ?_
  refine zza 15 (.v (.int .i64 (i : Int))) ?_
  have hl13 := (hx.ext e11).len
  obtain ⟨r13, b13, o13, hA13, hc13, hr13⟩ := pol_atN (hx.ext e11) (i := i) (by omega)
  refine zzz 16 (o13 + i * 3) (n := x.n) (off := o13) (sz := 3) (i := (i : Int)) (by omega) hA13 (by omega) (by omega) sl24 ?_
  refine zyl 17 r13.cs hc13 ty29 ?_
  refine zzj 7 ⟨29, [.bool false, .slice none 0 0, .slice none 0 0]⟩ ?_
  refine zza 6 (.v (.int .i64 (i : Int))) ?_
  refine zzi ⟨29, r13.cs⟩ ty29 ?_
  refine zzb 27 [(1, .v (.func (.func 110) #[] #[.pointer (some ⟨b8, 0, none⟩), .pointer (some ⟨b6, 0, none⟩), .pointer (some ⟨b7, 0, none⟩)])), (5, .slc 10 0 x.n x.n), (6, .v (.int .i64 (i : Int))), (7, .adr 7 0), (11, .v x.v), (12, .v (.int .i64 (x.n : Int))), (13, .v (.int .i64 (i : Int)))] [(7, ⟨29, r13.cs⟩), (10, ⟨29, rcs L⟩)] ?_
  refine zze ?_
  refine zza 18 (.slc 10 0 x.n x.n) ?_
  refine zza 19 (.v (.int .i64 (i : Int))) ?_
  refine zza 20 (.v (.func (.func 110) #[] #[.pointer (some ⟨b8, 0, none⟩), .pointer (some ⟨b6, 0, none⟩), .pointer (some ⟨b7, 0, none⟩)])) ?_
  refine zza 21 (.v (.int .i64 (i : Int))) ?_
  refine zzh 22 (.v (r13.v)) ty29 zzd ?_
  refine zzf 23 110 [.int .i64 (i : Int), r13.v, .pointer (some ⟨b8, 0, none⟩), .pointer (some ⟨b6, 0, none⟩), .pointer (some ⟨b7, 0, none⟩)] ?_
  intro w14 u14 e14 d14
  have k19 := k_up1 (j := i) d14 (hx.ext (e11.trans e14)) (hr.ext (e11.trans e14)) (hr13.ext e14) ((e11.trans e14).cells h8) ((e11.trans e14).cells h6) ((e11.trans e14).cells h7) hm (by omega) (by omega) (by omega) (by omega)
  with_reducible refine Post.mono k19 ?_
  rintro _ u17 g18 ⟨r15, rfl, h16⟩
  refine zyv 24 (off' := i * 3) (n := x.n) (off := 0) (sz := 3) (i := (i : Int)) sl24 (by omega) (by omega) (by omega) ?_
  refine zyu (V := ⟨29, rcs L⟩) (off := i * 3) (rcs ((L).set i r15)) ty29 (by rw [zyx]; first|omega|(simp;omega)) (zyw (r := r15) (i := i) (by first|omega|(simp;omega)) rfl) ?_
  refine zzw ?_
  refine zzo ?_
  refine zze ?_
  refine zyp 25 (x := .v (.int .i64 (IntKind.i64.wrap ((i : Int) + 1)))) (.v (.int .i64 ((i + 1 : Nat) : Int))) (eqI (by rw [IntWalk.i64_in _ (by omega)]; omega)) ?_
  refine zza 13 (.v (.int .i64 ((i + 1 : Nat) : Int))) ?_
  refine zzw ?_
  have ht20 : i < (Nt.upS l q m).length := by rw [hul]; omega
  refine ⟨_, ?_, St.of 27 [(1, .v (.func (.func 110) #[] #[.pointer (some ⟨b8, 0, none⟩), .pointer (some ⟨b6, 0, none⟩), .pointer (some ⟨b7, 0, none⟩)])), (5, .slc 10 0 x.n x.n), (11, .v (.slice x.a x.n x.c)), (12, .v (.int .i64 (x.n : Int))), (13, .v (.int .i64 ((i + 1 : Nat) : Int)))] [(10, ⟨29, rcs ((L).set i r15)⟩)], by exact zzu _ _ _, i + 1, (L).set i r15, rfl, by omega, by simpa using hL, rfl, (e11.trans (e14.trans g18.ext)), RatsN.tstep (hR.ext (e14.trans g18.ext)) (by omega) ht20 (RatN.more (K := (2 * K + M + 1)) h16 (by omega)) (by rw [← Nt.upS_at l q m i (by omega)])⟩
  omega
 ·replace hb12 : (decide ((i : Int) < (x.n : Int))) = false := hb12
  have qhb12 := of_decide_eq_false hb12
  refine zyb ?_
  refine zzo ?_
  refine zzc ?_
  refine zyo (r := 5) (t := 10) [5, 10] (by repeat first | exact noAt_of | refine zyc ?_ | refine zye ?_ | refine zyd ?_ | refine zzx ?_ | refine zya ?_) (by kernel_rfl) (by rfl) (by rfl) (by kernel_rfl) (fun b21 u22 e23 hb24 hh25 => ?_)
  have hp26 : PolN u22 ⟨some ⟨b21, 0, none⟩, x.n, x.n⟩ (Nt.upS l q m) (2 * K + M + 1) := pol_data1 hh25 (by unfold maxLen; omega) (RatsN.tdone (hR.ext e23) (by omega) (by rw [hul]; omega)) (by omega)
  refine zze ?_
  refine zza 26 (.v (.slice (some ⟨b21, 0, none⟩) x.n x.n)) ?_
  refine zza 4 (.v (.slice (some ⟨b21, 0, none⟩) x.n x.n)) ?_
  refine zzb 27 [(4, .v (.slice (some ⟨b21, 0, none⟩) x.n x.n))] [] ?_
  refine zzn (ret0 [.slice (some ⟨b21, 0, none⟩) x.n x.n] ⟨zzp, trivial⟩ fun u27 e28 => ?_)
  exact ⟨b21, L, rfl, hb24, e28.cells hh25, by omega, (RatsN.tdone (hR.ext (e23.trans e28)) (by omega) (by rw [hul]; omega))⟩
theorem k_small {u w : World} {r : RL} {q : Rat} {K : Nat} (d : Dat u w) (hr : RatV u r q K) (hK : K ≤ 10000000) : Calls Tryz.prog 108 #[r.v] w (Post u w fun v u' => v = .bool (Nt.smallQ q)) := by
 refine zzl (args := [r.v]) Tryz.func108 rfl Tryz.ntmps108 (rs := [.tmp 2]) Tryz.results108 (le_b rfl) (le_b rfl) d ?_
 refine sq9 ?_
 refine zzj 1 ⟨29, r.cs⟩ ?_
 refine zza 2 (.v (.bool false)) ?_
 refine zzb 8 [(1, .adr 1 0)] [(1, ⟨29, r.cs⟩)] ?_
 refine sq9 ?_
 refine zzh 3 (.v (r.v)) ty29 zzd ?_
 refine zzf 4 153 [r.v] ?_
 intro w11 u11 e11 d11
 have k16 := k_ratAbs d11 (hr.ext e11) (by omega)
 with_reducible refine Post.mono k16 ?_
 rintro _ u14 g15 ⟨r12, rfl, h13⟩
 refine zzf 5 48 [.int .i64 1] ?_
 intro w17 u17 e17 d17
 have k22 := k_ratOf d17 (z := 1) (by omega) (by omega)
 with_reducible refine Post.mono k22 ?_
 rintro _ u20 g21 ⟨r18, rfl, h19⟩
 refine zzf 6 152 [r12.v, r18.v] ?_
 intro w23 u23 e23 d23
 have k26 := k_ratCompare d23 (h13.ext (e17.trans (g21.ext.trans e23))).raw (h19.ext e23).raw (by omega) (by omega)
 with_reducible refine Post.mono k26 ?_
 rintro _ u24 g25 rfl
 refine zza 7 (.v (.bool (decide ((Nt.cmpQ (Nt.absQ q) ((1 : Int) : Rat)) < 0)))) ?_
 refine zza 2 (.v (.bool (decide ((Nt.cmpQ (Nt.absQ q) ((1 : Int) : Rat)) < 0)))) ?_
 refine zzb 8 [(2, .v (.bool (decide ((Nt.cmpQ (Nt.absQ q) ((1 : Int) : Rat)) < 0))))] [] ?_
 refine zzn (ret0 [.bool (decide ((Nt.cmpQ (Nt.absQ q) ((1 : Int) : Rat)) < 0))] ⟨zzp, trivial⟩ fun u27 e28 => ?_)
 show Value.bool (decide (Nt.cmpQ _ _ < 0)) = Value.bool (Nt.smallQ q)
 unfold Nt.smallQ
 rw [← Nt.cmpQ_lt]
theorem k_rsmall {u w : World} {r : RL} {q : Rat} {K : Nat} (d : Dat u w) (hr : RatV u r q K) (hK : K ≤ 10000000) : Calls Tryz.prog 58 #[r.v] w (Post u w fun v u' => v = .bool (Nt.smallQ q)) := by
 refine zzl (args := [r.v]) Tryz.func58 rfl Tryz.ntmps58 (rs := [.tmp 2]) Tryz.results58 (le_b rfl) (le_b rfl) d ?_
 refine sq9 ?_
 refine zzj 1 ⟨29, r.cs⟩ ?_
 refine zza 2 (.v (.bool false)) ?_
 refine zzb 7 [(1, .adr 1 0)] [(1, ⟨29, r.cs⟩)] ?_
 refine sq9 ?_
 refine zzh 3 (.v (r.v)) ty29 zzd ?_
 refine zzf 4 126 [r.v] ?_
 intro w11 u11 e11 d11
 have k16 := k_rqAbs d11 (hr.ext e11) (by omega)
 with_reducible refine Post.mono k16 ?_
 rintro _ u14 g15 ⟨r12, rfl, h13⟩
 refine zzf 5 19 [.int .i64 1] ?_
 intro w17 u17 e17 d17
 have k22 := k_rqOf d17 (z := 1) (by omega) (by omega)
 with_reducible refine Post.mono k22 ?_
 rintro _ u20 g21 ⟨r18, rfl, h19⟩
 refine zzf 6 125 [r12.v, r18.v] ?_
 intro w23 u23 e23 d23
 have k26 := k_rqLess d23 (h13.ext (e17.trans (g21.ext.trans e23))).raw (h19.ext e23).raw (by omega) (by omega)
 with_reducible refine Post.mono k26 ?_
 rintro _ u24 g25 rfl
 refine zza 2 (.v (.bool (decide ((Nt.absQ q) < ((1 : Int) : Rat))))) ?_
 refine zzb 7 [(2, .v (.bool (decide ((Nt.absQ q) < ((1 : Int) : Rat)))))] [] ?_
 refine zzn (ret0 [.bool (decide ((Nt.absQ q) < ((1 : Int) : Rat)))] ⟨zzp, trivial⟩ fun u27 e28 => ?_)
 rfl
def UpV (l : List Rat) (v : Value) (u' : World) : Prop := (∃ i, i < l.length ∧ Nt.smallQ (l.getD i 0) = false ∧ v = .tuple #[.slice none 0 0, .int .i64 14]) ∨ ((∀ i, i < l.length → Nt.smallQ (l.getD i 0) = true) ∧ ∃ y : Sl, v = .tuple #[y.v, .int .i64 0] ∧ PolN u' y (Nt.trimQ (Nt.upL l l.length)) (Nt.upK l.length))
set_option maxHeartbeats 4000000 in
theorem k_stepUp {u w : World} {x : Sl} {l : List Rat} {M : Nat} (d : Dat u w) (hx : PolV u x l M) (hl : l.length ≤ 6) (hM : M ≤ 4) : Calls Tryz.prog 45 #[x.v] w (Post u w (UpV l)) := by
 have hlen := hx.len
 refine zzl (args := [.slice x.a x.n x.c]) Tryz.func45 rfl Tryz.ntmps45 (rs := [.tmp 2, .tmp 3]) Tryz.results45 (le_b rfl) (le_b rfl) d ?_
 refine sq9 ?_
 refine zza 2 (.v (.slice none 0 0)) ?_
 refine zza 3 (.v (.int .i64 0)) ?_
 refine zzb 41 [(0, .v x.v)] [] ?_
 refine zzc ?_
 refine sq9 ?_
 refine zza 9 (.v x.v) ?_
 refine zza 10 (.v (.int .i64 (x.n : Int))) ?_
 refine zza 11 (.v (.bool (decide ((48 : Int) < (x.n : Int))))) ?_
 refine zzb 41 [(0, .v x.v), (11, .v (.bool (decide ((48 : Int) < (x.n : Int)))))] [] ?_
 refine zzt (b := decide ((48 : Int) < (x.n : Int))) (by kernel_rfl) (fun hb => ?_) (fun hb => ?_)
 ·exact absurd hb (by rw [show (decide ((48 : Int) < (x.n : Int))) = false from decide_eq_false (by omega)]; decide)
 ·clear hb
  refine zzr (zzo ?_)
  refine zzc ?_
  refine sq9 ?_
  refine zza 12 (.v x.v) ?_
  refine zza 13 (.v (.int .i64 (x.n : Int))) ?_
  refine zza 14 (.v (.int .i64 0)) ?_
  refine zzb 41 [(0, .v x.v), (12, .v x.v), (13, .v (.int .i64 (x.n : Int))), (14, .v (.int .i64 0))] [] ?_
  refine zzs ?_
  refine zym (I := fun m11 S' u' => ∃ (i : Nat), (m11 = l.length - i) ∧ (i ≤ l.length) ∧ (∀ j, j < i → Nt.smallQ (l.getD j 0) = true) ∧ (S' = St.of 41 [(0, .v (.slice x.a x.n x.c)), (12, .v (.slice x.a x.n x.c)), (13, .v (.int .i64 (x.n : Int))), (14, .v (.int .i64 (i : Int)))] []) ∧ (Ext u u')) (fun m S u1 u2 e h => by obtain ⟨i, hm, p0, p1, hS, hE⟩ := h; exact ⟨i, hm, p0, p1, hS, hE.trans e⟩) _ (T := St.of 41 [(0, .v (.slice x.a x.n x.c)), (12, .v (.slice x.a x.n x.c)), (13, .v (.int .i64 (x.n : Int))), (14, .v (.int .i64 0))] []) (by exact zzu _ _ _) ⟨0, rfl, Nat.zero_le _, fun j hj => absurd hj (Nat.not_lt_zero j), rfl, Ext.refl _⟩ ?_
  rintro m11 _ u11 ⟨i, hm11, hi, hz, rfl, e11⟩
  refine sq9 ?_
  refine zza 15 (.v (.bool (decide ((i : Int) < (x.n : Int))))) ?_
  refine zzb 41 [(0, .v x.v), (12, .v x.v), (13, .v (.int .i64 (x.n : Int))), (14, .v (.int .i64 (i : Int))), (15, .v (.bool (decide ((i : Int) < (x.n : Int)))))] [] ?_
  refine zzc ?_
  refine zzt (b := decide ((i : Int) < (x.n : Int))) (by kernel_rfl) (fun hb12 => ?_) (fun hb12 => ?_)
  ·replace hb12 : (decide ((i : Int) < (x.n : Int))) = true := hb12
   have qhb12 := of_decide_eq_true hb12
   refine zzr (zzo ?_)
   refine zzc ?_
   refine zzs ?_
   refine sq9 ?_
   have hl13 := (hx.ext e11).len
   obtain ⟨r13, b13, o13, hA13, hc13, hr13⟩ := pol_at (hx.ext e11) (i := i) (by omega)
   refine zzz 16 (o13 + i * 3) (n := x.n) (off := o13) (sz := 3) (i := (i : Int)) (by omega) hA13 (by omega) (by omega) sl24 ?_
   refine zyl 17 r13.cs hc13 ty29 ?_
   refine zzj 5 ⟨29, [.bool false, .slice none 0 0, .slice none 0 0]⟩ ?_
   refine zzi ⟨29, r13.cs⟩ ty29 ?_
   refine zzb 41 [(0, .v x.v), (5, .adr 5 0), (12, .v x.v), (13, .v (.int .i64 (x.n : Int))), (14, .v (.int .i64 (i : Int)))] [(5, ⟨29, r13.cs⟩)] ?_
   refine sq9 ?_
   refine zzh 18 (.v (r13.v)) ty29 zzd ?_
   refine zzf 19 108 [r13.v] ?_
   intro w14 u14 e14 d14
   have k17 := k_small d14 (hr13.ext e14) (by omega)
   with_reducible refine Post.mono k17 ?_
   rintro _ u15 g16 rfl
   refine zza 20 (.v (.bool (!(Nt.smallQ (l.getD i 0))))) ?_
   refine zzb 41 [(0, .v x.v), (12, .v x.v), (13, .v (.int .i64 (x.n : Int))), (14, .v (.int .i64 (i : Int))), (20, .v (.bool (!(Nt.smallQ (l.getD i 0)))))] [] ?_
   refine zzt (b := !(Nt.smallQ (l.getD i 0))) (by kernel_rfl) (fun hb18 => ?_) (fun hb18 => ?_)
   ·replace hb18 : (!(Nt.smallQ (l.getD i 0))) = true := hb18
    refine sq9 ?_
    refine zza 2 (.v (.slice none 0 0)) ?_
    refine zza 3 (.v (.int .i64 14)) ?_
    refine zzb 41 [(2, .v (.slice none 0 0)), (3, .v (.int .i64 14))] [] ?_
    refine zzn (zyt (zzv (zys (zyt (zzv (ret0 [.slice none 0 0, .int .i64 14] ⟨zzp, zzp, trivial⟩ fun u19 e20 => ?_))))))
    exact .inl ⟨i, by omega, by simpa using hb18, rfl⟩
   ·replace hb18 : (!(Nt.smallQ (l.getD i 0))) = false := hb18
    refine zzr (zzo ?_)
    refine zze ?_
    refine zyp 21 (x := .v (.int .i64 (IntKind.i64.wrap ((i : Int) + 1)))) (.v (.int .i64 ((i + 1 : Nat) : Int))) (eqI (by rw [IntWalk.i64_in _ (by omega)]; omega)) ?_
    refine zza 14 (.v (.int .i64 ((i + 1 : Nat) : Int))) ?_
    refine zzw ?_
    refine ⟨_, ?_, St.of 41 [(0, .v (.slice x.a x.n x.c)), (12, .v (.slice x.a x.n x.c)), (13, .v (.int .i64 (x.n : Int))), (14, .v (.int .i64 ((i + 1 : Nat) : Int)))] [], by exact zzu _ _ _, i + 1, rfl, by omega, (fun j hj => by by_cases e : j = i; (rw [e]; simpa using hb18); exact hz j (by omega)), rfl, (e11.trans (e14.trans g16.ext))⟩
    omega
  ·replace hb12 : (decide ((i : Int) < (x.n : Int))) = false := hb12
   have qhb12 := of_decide_eq_false hb12
   refine zyb ?_
   refine zzo ?_
   refine sq9 ?_
   refine zzf 22 48 [.int .i64 1] ?_
   intro w21 u21 e21 d21
   have k26 := k_ratOf d21 (z := 1) (by omega) (by omega)
   with_reducible refine Post.mono k26 ?_
   rintro _ u24 g25 ⟨r22, rfl, h23⟩
   refine sy_data 23 ⟨29, r22.cs⟩ 1 (fun b27 u28 e29 h30 => ?_)
   have hp31 : PolN u28 (⟨some ⟨b27, 0, none⟩, 1, 1⟩ : Sl) [((1 : Int) : Rat)] 2 := pol_lit (L := [r22]) h30 (rats1 (h23.ext e29)) rfl (by decide)
   refine zzj 6 ⟨24, [.slice none 0 0]⟩ ?_
   refine zzi ⟨24, [.slice (some ⟨b27, 0, none⟩) 1 1]⟩ ty24 ?_
   refine zzb 41 [(0, .v x.v), (6, .adr 6 0)] [(6, ⟨24, [.slice (some ⟨b27, 0, none⟩) 1 1]⟩)] ?_
   refine zzc ?_
   refine sq9 ?_
   refine zza 24 (.v x.v) ?_
   refine zza 25 (.v (.int .i64 (x.n : Int))) ?_
   refine zza 26 (.v (.int .i64 0)) ?_
   refine zzb 41 [(6, .adr 6 0), (24, .v x.v), (25, .v (.int .i64 (x.n : Int))), (26, .v (.int .i64 0))] [(6, ⟨24, [.slice (some ⟨b27, 0, none⟩) 1 1]⟩)] ?_
   refine zzs ?_
   have hzs : ∀ j, j < l.length → Nt.smallQ (l.getD j 0) = true := fun j hj => hz j (by omega)
   refine zym (I := fun m32 S' u' => ∃ (i : Nat) (c : Sl), (m32 = l.length - i) ∧ (i ≤ l.length) ∧ (c.c = c.n) ∧ (S' = St.of 41 [(6, .adr 6 0), (24, .v (.slice x.a x.n x.c)), (25, .v (.int .i64 (x.n : Int))), (26, .v (.int .i64 (i : Int)))] [(6, ⟨24, [.slice c.a c.n c.c]⟩)]) ∧ (Ext u28 u') ∧ (PolN u' c (Nt.upL l i) (Nt.upK i))) (fun m S u1 u2 e h => by obtain ⟨i, c, hm, p0, p1, hS, hE, f0⟩ := h; exact ⟨i, c, hm, p0, p1, hS, hE.trans e, f0.ext e⟩) _ (T := St.of 41 [(6, .adr 6 0), (24, .v (.slice x.a x.n x.c)), (25, .v (.int .i64 (x.n : Int))), (26, .v (.int .i64 0))] [(6, ⟨24, [.slice (some ⟨b27, 0, none⟩) 1 1]⟩)]) (by exact zzu _ _ _) ⟨0, (⟨some ⟨b27, 0, none⟩, 1, 1⟩ : Sl), rfl, Nat.zero_le _, rfl, rfl, Ext.refl _, (PolN.more hp31 (by decide))⟩ ?_
   rintro m32 _ u32 ⟨i, c, hm32, hi, hcc, rfl, e32, hC⟩
   have hcl := hC.len
   have hul := Nt.upL_len l i
   have huk := Nt.upK_succ i
   have huk2 := Nt.upK_le (show i ≤ 6 by omega)
   refine sq9 ?_
   refine zza 27 (.v (.bool (decide ((i : Int) < (x.n : Int))))) ?_
   refine zzb 41 [(6, .adr 6 0), (24, .v x.v), (25, .v (.int .i64 (x.n : Int))), (26, .v (.int .i64 (i : Int))), (27, .v (.bool (decide ((i : Int) < (x.n : Int)))))] [(6, ⟨24, [c.v]⟩)] ?_
   refine zzc ?_
   refine zzt (b := decide ((i : Int) < (x.n : Int))) (by kernel_rfl) (fun hb33 => ?_) (fun hb33 => ?_)
   ·replace hb33 : (decide ((i : Int) < (x.n : Int))) = true := hb33
    have qhb33 := of_decide_eq_true hb33
    refine zzr (zzo ?_)
    refine zzc ?_
    refine zzs ?_
    refine sq9 ?_
    refine zza 28 (.v (.int .i64 (i : Int))) ?_
    have hl34 := (hx.ext (e11.trans (e21.trans (g25.ext.trans (e29.trans e32))))).len
    obtain ⟨r34, b34, o34, hA34, hc34, hr34⟩ := pol_at (hx.ext (e11.trans (e21.trans (g25.ext.trans (e29.trans e32))))) (i := i) (by omega)
    refine zzz 29 (o34 + i * 3) (n := x.n) (off := o34) (sz := 3) (i := (i : Int)) (by omega) hA34 (by omega) (by omega) sl24 ?_
    refine zyl 30 r34.cs hc34 ty29 ?_
    refine zzj 7 ⟨3, [.int .i64 0]⟩ ?_
    refine zzj 8 ⟨29, [.bool false, .slice none 0 0, .slice none 0 0]⟩ ?_
    refine zzi ⟨3, [.int .i64 (i : Int)]⟩ ty3 ?_
    refine zzi ⟨29, r34.cs⟩ ty29 ?_
    refine zzb 41 [(6, .adr 6 0), (7, .adr 7 0), (8, .adr 8 0), (24, .v x.v), (25, .v (.int .i64 (x.n : Int))), (26, .v (.int .i64 (i : Int)))] [(6, ⟨24, [c.v]⟩), (7, ⟨3, [.int .i64 (i : Int)]⟩), (8, ⟨29, r34.cs⟩)] ?_
    refine zzc ?_
    refine zzy [0, 0, 2, 7, 15] [(0, []), (1, []), (2, []), (3, []), (4, [])] (by kernel_rfl) (by kernel_rfl) ?_
    refine zzh 31 (.v c.v) ty24 zzk ?_
    refine zzf 32 48 [.int .i64 0] ?_
    intro w35 u35 e35 d35
    have k40 := k_ratOf d35 (z := 0) (by omega) (by omega)
    with_reducible refine Post.mono k40 ?_
    rintro _ u38 g39 ⟨r36, rfl, h37⟩
    refine sy_lit 33 ⟨29, r36.cs⟩ 1 ?_
    obtain ⟨Lx41, hS41, hR41⟩ := id (hC.ext (e35.trans g39.ext))
    obtain ⟨bx41, ox41, hA41, hC41⟩ := hS41.2.2.2 (by omega)
    refine sy_appG 34 (T := 24) (E := 29) (z := .agg #[.bool false, .slice none 0 0, .slice none 0 0]) (size := 3) (bytes := 56) (m := 1) (n := c.n) (cap := c.c) (t2 := 33) (b := bx41) (off := ox41) (cs0 := rcs Lx41) r36.cs hA41 (by kernel_rfl) (by kernel_rfl) (by kernel_rfl) (by decide) rfl (rl_one r36) (by decide) (by unfold maxLen; omega) (by omega) (by omega) hS41.1 (fun j v hv => by have h9 := hC41 j (List.getElem?_eq_some_iff.1 hv).1; rw [h9]; exact hv) ?_
    intro g41 c41 cs41 u41 e41 hg41 h141 h241 h341 h441 hh41
    have hp42 : PolN u41 ⟨some ⟨g41, 0, none⟩, c.n + 1, c41⟩ ((Nt.upL l i) ++ [((0 : Int) : Rat)]) (Nt.upK i) := pol_data (L := Lx41 ++ [r36]) hh41 (by rw [h441, rcs_app]; rfl) h341 h141 h241 (RatsN.snoc (hR41.ext e41) (RatN.more (K := 2) (h37.ext e41) (by omega)))
    refine zzi ⟨24, [.slice (some ⟨g41, 0, none⟩) (c.n + 1) c41]⟩ ty24 ?_
    refine zzb 41 [(6, .adr 6 0), (7, .adr 7 0), (8, .adr 8 0), (24, .v x.v), (25, .v (.int .i64 (x.n : Int))), (26, .v (.int .i64 (i : Int)))] [(6, ⟨24, [.slice (some ⟨g41, 0, none⟩) (c.n + 1) c41]⟩), (7, ⟨3, [.int .i64 (i : Int)]⟩), (8, ⟨29, r34.cs⟩)] ?_
    refine sw_pubA (r := 8) (t := 8) [8] (by repeat first | exact noAt_of | refine zyc ?_ | refine zye ?_ | refine zyd ?_ | refine zzx ?_ | refine zya ?_) (by kernel_rfl) (by rfl) (by rfl) (by kernel_rfl) (fun b43 u44 e45 hb46 hv47 hh48 => ?_)
    refine sw_pubA (r := 7) (t := 7) [7] (by repeat first | exact noAt_of | refine zyc ?_ | refine zye ?_ | refine zyd ?_ | refine zzx ?_ | refine zya ?_) (by kernel_rfl) (by rfl) (by rfl) (by kernel_rfl) (fun b49 u50 e51 hb52 hv53 hh54 => ?_)
    refine sw_pubA (r := 6) (t := 6) [6] (by repeat first | exact noAt_of | refine zyc ?_ | refine zye ?_ | refine zyd ?_ | refine zzx ?_ | refine zya ?_) (by kernel_rfl) (by rfl) (by rfl) (by kernel_rfl) (fun b55 u56 e57 hb58 hv59 hh60 => ?_)
    refine sw_cut 3 ?_
    refine zyk 35 (.slice (some ⟨g41, 0, none⟩) (c.n + 1) c41) (var_cell1 hh60) ty24 ?_
    refine sy_fun 36 [.pointer (some ⟨b43, 0, none⟩), .pointer (some ⟨b55, 0, none⟩), .pointer (some ⟨b49, 0, none⟩)] ?_
    refine zzf 37 109 [.slice (some ⟨g41, 0, none⟩) (c.n + 1) c41, .func (.func 110) #[] #[.pointer (some ⟨b43, 0, none⟩), .pointer (some ⟨b55, 0, none⟩), .pointer (some ⟨b49, 0, none⟩)]] ?_
    intro w61 u61 e61 d61
    have k70 := k_mapUp (m := i) d61 (hp42.ext (e45.trans (e51.trans (e57.trans e61)))) (hr34.ext (e35.trans (g39.ext.trans (e41.trans (e45.trans (e51.trans (e57.trans e61))))))) ((e51.trans (e57.trans e61)).cells hh48) (e61.cells hh60) ((e57.trans e61).cells hh54) (by simp [Nt.upL_len]) (by omega) (by omega) (by simp [Nt.upL_len]; omega)
    with_reducible refine Post.mono k70 ?_
    rintro _ u68 g69 ⟨b62, L63, rfl, hb64, hh65, hL66, hR67⟩
    refine zzw ?_
    refine sl_adoptA (r := 6) (k := 6) (by rfl) ((e61.trans g69.ext).cells hh60) hb58 (by kernel_rfl) (fun u71 eB72 => ?_)
    have hp73 : PolN u71 (⟨some ⟨b62, 0, none⟩, c.n + 1, c.n + 1⟩ : Sl) (Nt.upS ((Nt.upL l i) ++ [((0 : Int) : Rat)]) (l.getD i 0) i) (2 * (Nt.upK i) + M + 1) := newR_adopt hb64 ((Ext.refl _).cells hh65) hL66 (hR67.ext (Ext.refl _)) (by unfold maxLen; omega) (e61.cells hh60) ((e61.trans g69.ext).cells hh60) (by simp) eB72
    refine sl_sym ?_
    refine zzi ⟨24, [.slice (some ⟨b62, 0, none⟩) (c.n + 1) (c.n + 1)]⟩ ty24 ?_
    refine zzw ?_
    refine zzo ?_
    refine zze ?_
    refine zyp 38 (x := .v (.int .i64 (IntKind.i64.wrap ((i : Int) + 1)))) (.v (.int .i64 ((i + 1 : Nat) : Int))) (eqI (by rw [IntWalk.i64_in _ (by omega)]; omega)) ?_
    refine zza 26 (.v (.int .i64 ((i + 1 : Nat) : Int))) ?_
    refine zzw ?_
    refine ⟨_, ?_, St.of 41 [(6, .adr 6 0), (24, .v (.slice x.a x.n x.c)), (25, .v (.int .i64 (x.n : Int))), (26, .v (.int .i64 ((i + 1 : Nat) : Int)))] [(6, ⟨24, [.slice (some ⟨b62, 0, none⟩) (c.n + 1) (c.n + 1)]⟩)], by exact zzu _ _ _, i + 1, (⟨some ⟨b62, 0, none⟩, c.n + 1, c.n + 1⟩ : Sl), rfl, by omega, rfl, rfl, (e32.trans (e35.trans (g39.ext.trans (e41.trans (e45.trans (e51.trans (ExtB.old2 eB72 (e57.trans (e61.trans g69.ext)) hv59))))))), (show PolN _ _ (Nt.upL l (i + 1)) _ from PolN.more (K := (2 * (Nt.upK i) + M + 1)) hp73 (by omega))⟩
    omega
   ·replace hb33 : (decide ((i : Int) < (x.n : Int))) = false := hb33
    have qhb33 := of_decide_eq_false hb33
    refine zyb ?_
    refine zzo ?_
    refine sq9 ?_
    refine zzh 39 (.v c.v) ty24 zzk ?_
    refine zzf 40 47 [c.v] ?_
    intro w74 u74 e74 d74
    have k79 := k_poTrim d74 (hC.ext e74).raw (by omega) (by first|omega|(simp;omega) | (refine Nat.le_trans (Nt.zzg _) ?_; first|omega|(simp;omega)) | (refine Nat.le_trans (Nt.zzg _) ?_; simp only [List.length_map]; refine Nat.le_trans (Nt.zzg _) ?_; first|omega|(simp;omega)))
    with_reducible refine Post.mono k79 ?_
    rintro _ u77 g78 ⟨y75, rfl, h76⟩
    have hly75 := h76.len
    refine zza 2 (.v y75.v) ?_
    refine zza 3 (.v (.int .i64 0)) ?_
    refine zzb 41 [(2, .v y75.v), (3, .v (.int .i64 0))] [] ?_
    refine zzn (ret0 [.slice y75.a y75.n y75.c, .int .i64 0] ⟨zzp, zzp, trivial⟩ fun u80 e81 => ?_)
    have hi9 : i = l.length := by omega
    refine .inr ⟨hzs, y75, rfl, ?_⟩
    have h9 := (h76.ext e81)
    rw [hi9] at h9
    exact h9
end Go.Proofs.YtmonfdlnihaabaaGreat
