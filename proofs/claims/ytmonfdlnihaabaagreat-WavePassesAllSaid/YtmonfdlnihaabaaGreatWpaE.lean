/- Contracts for PolyActs. Printed by wip/sym/g_pa.py. Contracts of words and of formats. Printed by wip/sym/g_wv.py. Contracts of wave digital filters. Printed by wip/sym/g_ww.py. Products of sections, the two filters. Printed by wip/sym/g_wx.py. Contracts of the reference of chapter 8. Printed by wip/sym/g_wk.py. -/
import Derived.Test.YtmonfdlnihaabaaGreatWpaD
namespace Go.Proofs.YtmonfdlnihaabaaGreat
open Go.RowKit
set_option linter.unusedVariables false
set_option maxHeartbeats 2000000 in
theorem k_poSub {u w : World} {x : Sl} {l : List Rat} {y : Sl} {m : List Rat} {K M : Nat} (d : Dat u w) (hx : PolV u x l K) (hy : PolV u y m M) (hK : K ≤ 40000000) (hM : M ≤ 40000000) (hx9 : l.length ≤ 1000000000) (hy9 : m.length ≤ 1000000000) : Calls Tryz.prog 50 #[x.v, y.v] w (Post u w fun v u' => ∃ y : Sl, v = y.v ∧ PolN u' y (Nt.trimQ (Nt.addQ l (m.map (fun z => -z)))) (K + M + 1)) := by
 have hlen := hx.len
 have hlen2 := hy.len
 refine zzl (args := [.slice x.a x.n x.c, .slice y.a y.n y.c]) Tryz.func50 rfl Tryz.ntmps50 (rs := [.tmp 4]) Tryz.results50 (le_b rfl) (le_b rfl) d ?_
 refine sq9 ?_
 refine zza 4 (.v (.slice none 0 0)) ?_
 refine zzb 27 [(0, .v x.v), (1, .v y.v)] [] ?_
 refine sq9 ?_
 refine zza 7 (.v y.v) ?_
 refine zza 8 (.v (.int .i64 (y.n : Int))) ?_
 refine sy_make 9 (T := 32) (E := 29) (z := .agg #[.bool false, .slice none 0 0, .slice none 0 0]) (size := 3) (bytes := 56) y.n (rcs (List.replicate y.n rl0)) (by kernel_rfl) (by kernel_rfl) rfl rfl (by omega) (by unfold maxLen; omega) (made_rcs _) ?_
 refine zza 5 (.slc 9 0 y.n y.n) ?_
 refine zzb 27 [(0, .v x.v), (1, .v y.v), (5, .slc 9 0 y.n y.n)] [(9, ⟨29, rcs (List.replicate y.n rl0)⟩)] ?_
 refine zzc ?_
 refine sq9 ?_
 refine zza 10 (.slc 9 0 y.n y.n) ?_
 refine zza 11 (.v (.int .i64 (y.n : Int))) ?_
 refine zza 12 (.v (.int .i64 0)) ?_
 refine zzb 27 [(0, .v x.v), (1, .v y.v), (5, .slc 9 0 y.n y.n), (11, .v (.int .i64 (y.n : Int))), (12, .v (.int .i64 0))] [(9, ⟨29, rcs (List.replicate y.n rl0)⟩)] ?_
 refine zzs ?_
 refine zym (I := fun m11 S' u' => ∃ (i : Nat) (L : List RL), (m11 = y.n - i) ∧ (i ≤ y.n) ∧ (L.length = y.n) ∧ (S' = St.of 27 [(0, .v (.slice x.a x.n x.c)), (1, .v (.slice y.a y.n y.c)), (5, .slc 9 0 y.n y.n), (11, .v (.int .i64 (y.n : Int))), (12, .v (.int .i64 (i : Int)))] [(9, ⟨29, rcs L⟩)]) ∧ (Ext u u') ∧ (RatsN u' (L.take i) ((m.map (fun z => -z)).take i) M)) (fun m S u1 u2 e h => by obtain ⟨i, L, hm, p0, p1, hS, hE, f0⟩ := h; exact ⟨i, L, hm, p0, p1, hS, hE.trans e, f0.ext e⟩) _ (T := St.of 27 [(0, .v (.slice x.a x.n x.c)), (1, .v (.slice y.a y.n y.c)), (5, .slc 9 0 y.n y.n), (11, .v (.int .i64 (y.n : Int))), (12, .v (.int .i64 0))] [(9, ⟨29, rcs (List.replicate y.n rl0)⟩)]) (by exact zzu _ _ _) ⟨0, List.replicate y.n rl0, rfl, by omega, by simp, rfl, Ext.refl _, RatsN.tnil _ _ _ _⟩ ?_
 rintro m11 _ u11 ⟨i, L, hm11, hi, hL, rfl, e11, hR⟩
 refine sq9 ?_
 refine zza 13 (.v (.bool (decide ((i : Int) < (y.n : Int))))) ?_
 refine zzb 27 [(0, .v x.v), (1, .v y.v), (5, .slc 9 0 y.n y.n), (11, .v (.int .i64 (y.n : Int))), (12, .v (.int .i64 (i : Int))), (13, .v (.bool (decide ((i : Int) < (y.n : Int)))))] [(9, ⟨29, rcs L⟩)] ?_
 refine zzc ?_
 refine zzt (b := decide ((i : Int) < (y.n : Int))) (by kernel_rfl) (fun hb12 => ?_) (fun hb12 => ?_)
 ·replace hb12 : (decide ((i : Int) < (y.n : Int))) = true := hb12
  have qhb12 := of_decide_eq_true hb12
  refine zzr (zzo ?_)
  refine zzc ?_
  refine zzs ?_
  refine sq9 ?_
  refine zza 14 (.v (.int .i64 (i : Int))) ?_
  refine zza 6 (.v (.int .i64 (i : Int))) ?_
  refine zzb 27 [(0, .v x.v), (1, .v y.v), (5, .slc 9 0 y.n y.n), (6, .v (.int .i64 (i : Int))), (11, .v (.int .i64 (y.n : Int))), (12, .v (.int .i64 (i : Int)))] [(9, ⟨29, rcs L⟩)] ?_
  refine zze ?_
  refine zza 15 (.slc 9 0 y.n y.n) ?_
  refine zza 16 (.v (.int .i64 (i : Int))) ?_
  refine zza 17 (.v y.v) ?_
  refine zza 18 (.v (.int .i64 (i : Int))) ?_
  have hl13 := (hy.ext e11).len
  obtain ⟨r13, b13, o13, hA13, hc13, hr13⟩ := pol_at (hy.ext e11) (i := i) (by omega)
  refine zzz 19 (o13 + i * 3) (n := y.n) (off := o13) (sz := 3) (i := (i : Int)) (by omega) hA13 (by omega) (by omega) sl32 ?_
  refine zyl 20 r13.cs hc13 ty29 ?_
  refine zzf 21 118 [r13.v] ?_
  intro w14 u14 e14 d14
  have k19 := k_ratNeg d14 (hr13.ext e14) (by omega)
  with_reducible refine Post.mono k19 ?_
  rintro _ u17 g18 ⟨r15, rfl, h16⟩
  refine zyv 22 (off' := i * 3) (n := y.n) (off := 0) (sz := 3) (i := (i : Int)) sl32 (by omega) (by omega) (by omega) ?_
  refine zyu (V := ⟨29, rcs L⟩) (off := i * 3) (rcs ((L).set i r15)) ty29 (by rw [zyx]; first|omega|(simp;omega)) (zyw (r := r15) (i := i) (by first|omega|(simp;omega)) rfl) ?_
  refine zzw ?_
  refine zzo ?_
  refine zze ?_
  refine zyp 23 (x := .v (.int .i64 (IntKind.i64.wrap ((i : Int) + 1)))) (.v (.int .i64 ((i + 1 : Nat) : Int))) (eqI (by rw [IntWalk.i64_in _ (by omega)]; omega)) ?_
  refine zza 12 (.v (.int .i64 ((i + 1 : Nat) : Int))) ?_
  refine zzw ?_
  have ht20 : i < (m.map (fun z => -z)).length := by rw [List.length_map]; omega
  refine ⟨_, ?_, St.of 27 [(0, .v (.slice x.a x.n x.c)), (1, .v (.slice y.a y.n y.c)), (5, .slc 9 0 y.n y.n), (11, .v (.int .i64 (y.n : Int))), (12, .v (.int .i64 ((i + 1 : Nat) : Int)))] [(9, ⟨29, rcs ((L).set i r15)⟩)], by exact zzu _ _ _, i + 1, (L).set i r15, rfl, by omega, by simpa using hL, rfl, (e11.trans (e14.trans g18.ext)), RatsN.tstep (hR.ext (e14.trans g18.ext)) (by omega) ht20 (RatN.more (K := M) h16 (by omega)) (by simp [List.getElem?_eq_getElem (show i < m.length by omega)])⟩
  omega
 ·replace hb12 : (decide ((i : Int) < (y.n : Int))) = false := hb12
  have qhb12 := of_decide_eq_false hb12
  refine zyb ?_
  refine zzo ?_
  refine zzc ?_
  refine zyo (r := 5) (t := 9) [5, 9] (by repeat first | exact noAt_of | refine zyc ?_ | refine zye ?_ | refine zyd ?_ | refine zzx ?_ | refine zya ?_) (by kernel_rfl) (by rfl) (by rfl) (by kernel_rfl) (fun b21 u22 e23 hb24 hh25 => ?_)
  have hp26 : PolN u22 ⟨some ⟨b21, 0, none⟩, y.n, y.n⟩ (m.map (fun z => -z)) M := pol_data1 hh25 (by unfold maxLen; omega) (RatsN.tdone (hR.ext e23) (by omega) (by rw [List.length_map]; omega)) (by omega)
  refine zze ?_
  refine zza 24 (.v x.v) ?_
  refine zza 25 (.v (.slice (some ⟨b21, 0, none⟩) y.n y.n)) ?_
  refine zzf 26 68 [x.v, .slice (some ⟨b21, 0, none⟩) y.n y.n] ?_
  intro w27 u27 e27 d27
  have k32 := k_poAdd d27 (hx.ext (e11.trans (e23.trans e27))) (hp26.ext e27).raw (by omega) (by omega) (by first|omega|(simp;omega) | (refine Nat.le_trans (Nt.zzg _) ?_; first|omega|(simp;omega)) | (refine Nat.le_trans (Nt.zzg _) ?_; simp only [List.length_map]; refine Nat.le_trans (Nt.zzg _) ?_; first|omega|(simp;omega))) (by first|omega|(simp;omega) | (refine Nat.le_trans (Nt.zzg _) ?_; first|omega|(simp;omega)) | (refine Nat.le_trans (Nt.zzg _) ?_; simp only [List.length_map]; refine Nat.le_trans (Nt.zzg _) ?_; first|omega|(simp;omega)))
  with_reducible refine Post.mono k32 ?_
  rintro _ u30 g31 ⟨y28, rfl, h29⟩
  have hly28 := h29.len
  refine zza 4 (.v y28.v) ?_
  refine zzb 27 [(4, .v y28.v)] [] ?_
  refine zzn (ret0 [.slice y28.a y28.n y28.c] ⟨zzp, trivial⟩ fun u33 e34 => ?_)
  refine ⟨y28, rfl, ?_⟩
  exact (h29.ext e34)
set_option maxHeartbeats 1000000 in
theorem k_r5Same {u w : World} {x : Sl} {l : List Rat} {y : Sl} {m : List Rat} {K M : Nat} (d : Dat u w) (hx : PolV u x l K) (hy : PolV u y m M) (hK : K ≤ 40000000) (hM : M ≤ 40000000) (hx9 : l.length ≤ 1000000000) (hy9 : m.length ≤ 1000000000) : Calls Tryz.prog 22 #[x.v, y.v] w (Post u w fun v u' => v = .bool (decide (Nt.trimQ l = Nt.trimQ m))) := by
 have hlen := hx.len
 have hlen2 := hy.len
 have htl := Nt.zzg l
 have htm := Nt.zzg m
 refine zzl (args := [.slice x.a x.n x.c, .slice y.a y.n y.c]) Tryz.func22 rfl Tryz.ntmps22 (rs := [.tmp 4]) Tryz.results22 (le_b rfl) (le_b rfl) d ?_
 refine sq9 ?_
 refine zza 4 (.v (.bool false)) ?_
 refine zzb 10 [(0, .v x.v), (1, .v y.v)] [] ?_
 refine sq9 ?_
 refine zza 5 (.v x.v) ?_
 refine zzf 6 53 [x.v] ?_
 intro w11 u11 e11 d11
 have k16 := k_r5Trim d11 (hx.ext e11) (by omega) (by first|omega|(simp;omega) | (refine Nat.le_trans (Nt.zzg _) ?_; first|omega|(simp;omega)) | (refine Nat.le_trans (Nt.zzg _) ?_; simp only [List.length_map]; refine Nat.le_trans (Nt.zzg _) ?_; first|omega|(simp;omega)))
 with_reducible refine Post.mono k16 ?_
 rintro _ u14 g15 ⟨y12, rfl, h13⟩
 have hly12 := h13.len
 refine zza 7 (.v y.v) ?_
 refine zzf 8 53 [y.v] ?_
 intro w17 u17 e17 d17
 have k22 := k_r5Trim d17 (hy.ext (e11.trans (g15.ext.trans e17))) (by omega) (by first|omega|(simp;omega) | (refine Nat.le_trans (Nt.zzg _) ?_; first|omega|(simp;omega)) | (refine Nat.le_trans (Nt.zzg _) ?_; simp only [List.length_map]; refine Nat.le_trans (Nt.zzg _) ?_; first|omega|(simp;omega)))
 with_reducible refine Post.mono k22 ?_
 rintro _ u20 g21 ⟨y18, rfl, h19⟩
 have hly18 := h19.len
 refine zzf 9 62 [y12.v, y18.v] ?_
 intro w23 u23 e23 d23
 have k26 := k_r5Equal d23 (h13.ext (e17.trans (g21.ext.trans e23))) (h19.ext e23) (by first|omega|(simp;omega) | (refine Nat.le_trans (Nt.zzg _) ?_; first|omega|(simp;omega)) | (refine Nat.le_trans (Nt.zzg _) ?_; simp only [List.length_map]; refine Nat.le_trans (Nt.zzg _) ?_; first|omega|(simp;omega))) (by first|omega|(simp;omega) | (refine Nat.le_trans (Nt.zzg _) ?_; first|omega|(simp;omega)) | (refine Nat.le_trans (Nt.zzg _) ?_; simp only [List.length_map]; refine Nat.le_trans (Nt.zzg _) ?_; first|omega|(simp;omega)))
 with_reducible refine Post.mono k26 ?_
 rintro _ u24 g25 rfl
 refine zza 4 (.v (.bool (decide ((Nt.trimQ l) = (Nt.trimQ m))))) ?_
 refine zzb 10 [(4, .v (.bool (decide ((Nt.trimQ l) = (Nt.trimQ m)))))] [] ?_
 refine zzn (ret0 [.bool (decide ((Nt.trimQ l) = (Nt.trimQ m)))] ⟨zzp, trivial⟩ fun u27 e28 => ?_)
 rfl
set_option maxHeartbeats 1000000 in
theorem k_r5At {u w : World} {x : Sl} {l : List Rat} {K i : Nat} (d : Dat u w) (hx : PolV u x l K) (hK : K ≤ 40000000) (hx9 : l.length ≤ 1000000000) (hi9 : i ≤ 1000000000) : Calls Tryz.prog 60 #[x.v, .int .i64 (i : Int)] w (Post u w fun v u' => ∃ r : RL, v = r.v ∧ RatN u' r (l.getD i 0) (K + 2)) := by
 have hlen := hx.len
 refine zzl (args := [.slice x.a x.n x.c, .int .i64 (i : Int)]) Tryz.func60 rfl Tryz.ntmps60 (rs := [.cell 4 29]) Tryz.results60 (le_b rfl) (le_b rfl) d ?_
 refine sq9 ?_
 refine zzj 4 ⟨29, [.bool false, .slice none 0 0, .slice none 0 0]⟩ ?_
 refine zzb 19 [(0, .v x.v), (1, .v (.int .i64 (i : Int))), (4, .adr 4 0)] [(4, ⟨29, [.bool false, .slice none 0 0, .slice none 0 0]⟩)] ?_
 refine zzc ?_
 refine sq9 ?_
 refine zza 5 (.v (.int .i64 (i : Int))) ?_
 refine zza 6 (.v (.bool (decide ((i : Int) < 0)))) ?_
 refine zyp 7 (x := .v (.bool (decide ((i : Int) < 0)))) (.v (.bool false)) (by rw [show (decide ((i : Int) < 0)) = false from decide_eq_false (by omega)]) ?_
 refine zza 8 (.v (.int .i64 (i : Int))) ?_ (hw := w1 2 false 7)
 refine zza 9 (.v x.v) ?_ (hw := w1 2 false 7)
 refine zza 10 (.v (.int .i64 (x.n : Int))) ?_ (hw := w1 2 false 7)
 refine zza 11 (.v (.bool (decide ((x.n : Int) ≤ (i : Int))))) ?_ (hw := w1 2 false 7)
 refine zza 12 (.v (.bool (decide ((x.n : Int) ≤ (i : Int))))) ?_
 refine zzb 19 [(0, .v x.v), (1, .v (.int .i64 (i : Int))), (4, .adr 4 0), (12, .v (.bool (decide ((x.n : Int) ≤ (i : Int)))))] [(4, ⟨29, [.bool false, .slice none 0 0, .slice none 0 0]⟩)] ?_
 refine zzt (b := decide ((x.n : Int) ≤ (i : Int))) (by kernel_rfl) (fun hb12 => ?_) (fun hb12 => ?_)
 ·replace hb12 : (decide ((x.n : Int) ≤ (i : Int))) = true := hb12
  have qhb12 := of_decide_eq_true hb12
  refine sq9 ?_
  refine zzf 13 19 [.int .i64 0] ?_
  intro w13 u13 e13 d13
  have k18 := k_rqOf d13 (z := 0) (by omega) (by omega)
  with_reducible refine Post.mono k18 ?_
  rintro _ u16 g17 ⟨r14, rfl, h15⟩
  refine zzi ⟨29, r14.cs⟩ ty29 ?_
  refine zzb 19 [(4, .adr 4 0)] [(4, ⟨29, r14.cs⟩)] ?_
  refine zzn (zzv (ret0 [r14.v] ⟨zzq ty29 zzd, trivial⟩ fun u19 e20 => ?_))
  have e9 : l.getD i 0 = ((0 : Int) : Rat) := Nt.co_ge (by omega)
  rw [e9]
  exact ⟨r14, rfl, RatN.more (K := 2) (h15.ext e20) (by omega)⟩
 ·replace hb12 : (decide ((x.n : Int) ≤ (i : Int))) = false := hb12
  have qhb12 := of_decide_eq_false hb12
  refine zzr (zzo ?_)
  refine sq9 ?_
  refine zza 14 (.v x.v) ?_
  refine zza 15 (.v (.int .i64 (i : Int))) ?_
  have hl21 := hx.len
  obtain ⟨r21, b21, o21, hA21, hc21, hr21⟩ := pol_at hx (i := i) (by omega)
  refine zzz 16 (o21 + i * 3) (n := x.n) (off := o21) (sz := 3) (i := (i : Int)) (by omega) hA21 (by omega) (by omega) sl32 ?_
  refine zyl 17 r21.cs hc21 ty29 ?_
  refine zzf 18 120 [r21.v] ?_
  intro w22 u22 e22 d22
  have k27 := k_rqTrim d22 (hr21.ext e22) (by omega)
  with_reducible refine Post.mono k27 ?_
  rintro _ u25 g26 ⟨r23, rfl, h24⟩
  refine zzi ⟨29, r23.cs⟩ ty29 ?_
  refine zzb 19 [(4, .adr 4 0)] [(4, ⟨29, r23.cs⟩)] ?_
  refine zzn (ret0 [r23.v] ⟨zzq ty29 zzd, trivial⟩ fun u28 e29 => ?_)
  exact ⟨r23, rfl, RatN.more (K := K) (h24.ext e29) (by omega)⟩
set_option maxHeartbeats 4000000 in
theorem k_r5Add {u w : World} {x : Sl} {l : List Rat} {y : Sl} {m : List Rat} {K M : Nat} (d : Dat u w) (hx : PolV u x l K) (hy : PolV u y m M) (hK : K ≤ 20000000) (hM : M ≤ 20000000) (hx9 : l.length ≤ 1000000000) (hy9 : m.length ≤ 1000000000) : Calls Tryz.prog 20 #[x.v, y.v] w (Post u w fun v u' => ∃ y : Sl, v = y.v ∧ PolN u' y (Nt.trimQ (Nt.addQ l m)) (K + M + 6)) := by
 have hlen := hx.len
 have hlen2 := hy.len
 refine zzl (args := [.slice x.a x.n x.c, .slice y.a y.n y.c]) Tryz.func20 rfl Tryz.ntmps20 (rs := [.tmp 4]) Tryz.results20 (le_b rfl) (le_b rfl) d ?_
 refine sq9 ?_
 refine zza 4 (.v (.slice none 0 0)) ?_
 refine zzb 31 [(0, .v x.v), (1, .v y.v)] [] ?_
 refine sq9 ?_
 refine zza 5 (.v (.slice none 0 0)) ?_
 refine zzb 31 [(0, .v x.v), (1, .v y.v), (5, .v (.slice none 0 0))] [] ?_
 refine zzc ?_
 refine sq9 ?_
 refine zza 6 (.v (.int .i64 0)) ?_
 refine zzb 31 [(0, .v x.v), (1, .v y.v), (5, .v (.slice none 0 0)), (6, .v (.int .i64 0))] [] ?_
 refine zzs ?_
 refine zym (I := fun m11 S' u' => (m11 = max x.n y.n ∧ S' = St.of 31 [(0, .v (.slice x.a x.n x.c)), (1, .v (.slice y.a y.n y.c)), (5, .v (.slice none 0 0)), (6, .v (.int .i64 0))] [] ∧ Ext u u') ∨ (∃ (i : Nat) (L : List RL) (cs : List Value) (cp : Nat), m11 = (max x.n y.n) - i ∧ i ≤ max x.n y.n ∧ 0 < i ∧ L.length = i ∧ cs.length = cp * 3 ∧ i ≤ cp ∧ cp ≤ maxLen ∧ cs.take (i * 3) = rcs L ∧ S' = St.of 31 [(0, .v (.slice x.a x.n x.c)), (1, .v (.slice y.a y.n y.c)), (5, .slc 28 0 i cp), (6, .v (.int .i64 (i : Int)))] [(28, ⟨29, cs⟩)] ∧ Ext u u' ∧ RatsN u' L ((Nt.addQ l m).take i) (K + M + 6))) (fun m S u1 u2 e h => by rcases h with ⟨a, b, c⟩ | ⟨a1, a2, a3, a4, b1, b2, b3, b4, b5, b6, b7, b8, b9, b10, b11⟩; exact .inl ⟨a, b, c.trans e⟩; exact .inr ⟨a1, a2, a3, a4, b1, b2, b3, b4, b5, b6, b7, b8, b9, b10.trans e, b11.ext e⟩) _ (T := St.of 31 [(0, .v (.slice x.a x.n x.c)), (1, .v (.slice y.a y.n y.c)), (5, .v (.slice none 0 0)), (6, .v (.int .i64 0))] []) (by exact zzu _ _ _) (.inl ⟨rfl, rfl, Ext.refl _⟩) ?_
 rintro m11 _ u11 (⟨hm11, rfl, e11⟩ | ⟨i, L, cs, cp, hm11, hi, hp, hL, hc, hle, hmx, ht, rfl, e11, hR⟩)
 ·change SW _ _ _ _ (St.of 31 [(0, .v (.slice x.a x.n x.c)), (1, .v (.slice y.a y.n y.c)), (5, .v (.slice none 0 0)), (6, .v (.int .i64 0))] []) _ _
  refine zzc ?_
  refine sq9 ?_
  refine zza 7 (.v (.int .i64 0)) ?_
  refine zza 8 (.v x.v) ?_
  refine zza 9 (.v (.int .i64 (x.n : Int))) ?_
  refine zza 10 (.v (.bool (decide ((0 : Int) < (x.n : Int))))) ?_
  rcases Bool.eq_false_or_eq_true (decide ((0 : Int) < (x.n : Int))) with hs12 | hs12
  ·refine zyp 11 (x := .v (.bool (decide ((0 : Int) < (x.n : Int))))) (.v (.bool true)) (by rw [hs12]) ?_
   have qhs12 := of_decide_eq_true hs12
   refine zzm 12 (uw 4 false true 11) ?_
   refine zzm 13 (uw 4 false true 11) ?_
   refine zzm 14 (uw 4 false true 11) ?_
   refine zzm 15 (uw 4 false true 11) ?_
   refine zza 16 (.v (.bool true)) ?_
   refine zzb 31 [(0, .v x.v), (1, .v y.v), (5, .v (.slice none 0 0)), (6, .v (.int .i64 0)), (16, .v (.bool true))] [] ?_
   refine zyq (by kernel_rfl) ?_
   refine zzr (zzo ?_)
   refine zzc ?_
   refine zzs ?_
   refine zze ?_
   refine zza 19 (.v (.slice none 0 0)) ?_
   refine zza 20 (.v x.v) ?_
   refine zza 21 (.v (.int .i64 0)) ?_
   refine zzf 22 60 [x.v, .int .i64 0] ?_
   intro w13 u13 e13 d13
   have k18 := (show Calls _ _ #[_, .int .i64 (0)] _ _ from k_r5At (i := 0) d13 (hx.ext (e11.trans e13)) (by omega) (by first|omega|(simp;omega) | (refine Nat.le_trans (Nt.zzg _) ?_; first|omega|(simp;omega)) | (refine Nat.le_trans (Nt.zzg _) ?_; simp only [List.length_map]; refine Nat.le_trans (Nt.zzg _) ?_; first|omega|(simp;omega))) (by omega))
   with_reducible refine Post.mono k18 ?_
   rintro _ u16 g17 ⟨r14, rfl, h15⟩
   refine zza 23 (.v y.v) ?_
   refine zza 24 (.v (.int .i64 0)) ?_
   refine zzf 25 60 [y.v, .int .i64 0] ?_
   intro w19 u19 e19 d19
   have k24 := (show Calls _ _ #[_, .int .i64 (0)] _ _ from k_r5At (i := 0) d19 (hy.ext (e11.trans (e13.trans (g17.ext.trans e19)))) (by omega) (by first|omega|(simp;omega) | (refine Nat.le_trans (Nt.zzg _) ?_; first|omega|(simp;omega)) | (refine Nat.le_trans (Nt.zzg _) ?_; simp only [List.length_map]; refine Nat.le_trans (Nt.zzg _) ?_; first|omega|(simp;omega))) (by omega))
   with_reducible refine Post.mono k24 ?_
   rintro _ u22 g23 ⟨r20, rfl, h21⟩
   refine zzf 26 59 [r14.v, r20.v] ?_
   intro w25 u25 e25 d25
   have k30 := k_rqAdd d25 (h15.ext (e19.trans (g23.ext.trans e25))).raw (h21.ext e25).raw (by omega) (by omega)
   with_reducible refine Post.mono k30 ?_
   rintro _ u28 g29 ⟨r26, rfl, h27⟩
   refine sy_data 27 ⟨29, r26.cs⟩ 1 (fun b31 u32 e33 h34 => ?_)
   have hp35 : PolN u32 (⟨some ⟨b31, 0, none⟩, 1, 1⟩ : Sl) [((l.getD 0 0) + (m.getD 0 0))] ((K + 2) + (M + 2) + 2) := pol_lit (L := [r26]) h34 (rats1 (h27.ext e33)) rfl (by decide)
   refine sy_app0 28 (T := 32) (E := 29) (z := .agg #[.bool false, .slice none 0 0, .slice none 0 0]) (size := 3) (bytes := 56) (b := b31) (off := 0) (m := 1) r26.cs (by kernel_rfl) (by kernel_rfl) (by kernel_rfl) (by decide) rfl (lit_news ((Ext.refl _).cells h34)) (rl_one r26) (by decide) (by decide) (by decide) ?_
   intro c36 cs36 ha36 hb36 hc36 hd36
   refine zza 5 (.slc 28 0 1 c36) ?_
   refine zzw ?_
   refine zzo ?_
   refine zze ?_
   refine zza 17 (.v (.int .i64 0)) ?_
   refine zza 18 (.v (.int .i64 1)) ?_
   refine zza 6 (.v (.int .i64 1)) ?_
   refine zzw ?_
   have ht37 : 0 < (Nt.addQ l m).length := by rw [Nt.addQ_len]; omega
   refine ⟨_, ?_, St.of 31 [(0, .v (.slice x.a x.n x.c)), (1, .v (.slice y.a y.n y.c)), (5, .slc 28 0 1 c36), (6, .v (.int .i64 1))] [(28, ⟨29, cs36⟩)], by exact zzu _ _ _, .inr ⟨1, [r26], cs36, c36, rfl, by omega, by omega, by simp, hc36, by omega, hb36, hd36, rfl, (e11.trans (e13.trans (g17.ext.trans (e19.trans (g23.ext.trans (e25.trans (g29.ext.trans e33))))))), (app_first (RatN.more (K := ((K + 2) + (M + 2) + 2)) (h27.ext e33) (by omega)) ht37 (by have h9 := Nt.addQ_co l m (0); unfold Nt.co at h9; exact h9.symm))⟩⟩
   omega
  ·refine zyp 11 (x := .v (.bool (decide ((0 : Int) < (x.n : Int))))) (.v (.bool false)) (by rw [hs12]) ?_
   have qhs12 := of_decide_eq_false hs12
   refine zza 12 (.v (.int .i64 0)) ?_ (hw := w1 4 false 11)
   refine zza 13 (.v y.v) ?_ (hw := w1 4 false 11)
   refine zza 14 (.v (.int .i64 (y.n : Int))) ?_ (hw := w1 4 false 11)
   refine zza 15 (.v (.bool (decide ((0 : Int) < (y.n : Int))))) ?_ (hw := w1 4 false 11)
   refine zza 16 (.v (.bool (decide ((0 : Int) < (y.n : Int))))) ?_
   refine zzb 31 [(0, .v x.v), (1, .v y.v), (5, .v (.slice none 0 0)), (6, .v (.int .i64 0)), (16, .v (.bool (decide ((0 : Int) < (y.n : Int)))))] [] ?_
   refine zzt (b := decide ((0 : Int) < (y.n : Int))) (by kernel_rfl) (fun hb38 => ?_) (fun hb38 => ?_)
   ·replace hb38 : (decide ((0 : Int) < (y.n : Int))) = true := hb38
    have qhb38 := of_decide_eq_true hb38
    refine zzr (zzo ?_)
    refine zzc ?_
    refine zzs ?_
    refine zze ?_
    refine zza 19 (.v (.slice none 0 0)) ?_
    refine zza 20 (.v x.v) ?_
    refine zza 21 (.v (.int .i64 0)) ?_
    refine zzf 22 60 [x.v, .int .i64 0] ?_
    intro w39 u39 e39 d39
    have k44 := (show Calls _ _ #[_, .int .i64 (0)] _ _ from k_r5At (i := 0) d39 (hx.ext (e11.trans e39)) (by omega) (by first|omega|(simp;omega) | (refine Nat.le_trans (Nt.zzg _) ?_; first|omega|(simp;omega)) | (refine Nat.le_trans (Nt.zzg _) ?_; simp only [List.length_map]; refine Nat.le_trans (Nt.zzg _) ?_; first|omega|(simp;omega))) (by omega))
    with_reducible refine Post.mono k44 ?_
    rintro _ u42 g43 ⟨r40, rfl, h41⟩
    refine zza 23 (.v y.v) ?_
    refine zza 24 (.v (.int .i64 0)) ?_
    refine zzf 25 60 [y.v, .int .i64 0] ?_
    intro w45 u45 e45 d45
    have k50 := (show Calls _ _ #[_, .int .i64 (0)] _ _ from k_r5At (i := 0) d45 (hy.ext (e11.trans (e39.trans (g43.ext.trans e45)))) (by omega) (by first|omega|(simp;omega) | (refine Nat.le_trans (Nt.zzg _) ?_; first|omega|(simp;omega)) | (refine Nat.le_trans (Nt.zzg _) ?_; simp only [List.length_map]; refine Nat.le_trans (Nt.zzg _) ?_; first|omega|(simp;omega))) (by omega))
    with_reducible refine Post.mono k50 ?_
    rintro _ u48 g49 ⟨r46, rfl, h47⟩
    refine zzf 26 59 [r40.v, r46.v] ?_
    intro w51 u51 e51 d51
    have k56 := k_rqAdd d51 (h41.ext (e45.trans (g49.ext.trans e51))).raw (h47.ext e51).raw (by omega) (by omega)
    with_reducible refine Post.mono k56 ?_
    rintro _ u54 g55 ⟨r52, rfl, h53⟩
    refine sy_data 27 ⟨29, r52.cs⟩ 1 (fun b57 u58 e59 h60 => ?_)
    have hp61 : PolN u58 (⟨some ⟨b57, 0, none⟩, 1, 1⟩ : Sl) [((l.getD 0 0) + (m.getD 0 0))] ((K + 2) + (M + 2) + 2) := pol_lit (L := [r52]) h60 (rats1 (h53.ext e59)) rfl (by decide)
    refine sy_app0 28 (T := 32) (E := 29) (z := .agg #[.bool false, .slice none 0 0, .slice none 0 0]) (size := 3) (bytes := 56) (b := b57) (off := 0) (m := 1) r52.cs (by kernel_rfl) (by kernel_rfl) (by kernel_rfl) (by decide) rfl (lit_news ((Ext.refl _).cells h60)) (rl_one r52) (by decide) (by decide) (by decide) ?_
    intro c62 cs62 ha62 hb62 hc62 hd62
    refine zza 5 (.slc 28 0 1 c62) ?_
    refine zzw ?_
    refine zzo ?_
    refine zze ?_
    refine zza 17 (.v (.int .i64 0)) ?_
    refine zza 18 (.v (.int .i64 1)) ?_
    refine zza 6 (.v (.int .i64 1)) ?_
    refine zzw ?_
    have ht63 : 0 < (Nt.addQ l m).length := by rw [Nt.addQ_len]; omega
    refine ⟨_, ?_, St.of 31 [(0, .v (.slice x.a x.n x.c)), (1, .v (.slice y.a y.n y.c)), (5, .slc 28 0 1 c62), (6, .v (.int .i64 1))] [(28, ⟨29, cs62⟩)], by exact zzu _ _ _, .inr ⟨1, [r52], cs62, c62, rfl, by omega, by omega, by simp, hc62, by omega, hb62, hd62, rfl, (e11.trans (e39.trans (g43.ext.trans (e45.trans (g49.ext.trans (e51.trans (g55.ext.trans e59))))))), (app_first (RatN.more (K := ((K + 2) + (M + 2) + 2)) (h53.ext e59) (by omega)) ht63 (by have h9 := Nt.addQ_co l m (0); unfold Nt.co at h9; exact h9.symm))⟩⟩
    omega
   ·replace hb38 : (decide ((0 : Int) < (y.n : Int))) = false := hb38
    have qhb38 := of_decide_eq_false hb38
    refine zyb ?_
    refine zzo ?_
    refine zzc ?_
    have hp64 : PolN u11 ⟨none, 0, 0⟩ (Nt.addQ l m) (K + M + 6) := by have h9 : Nt.addQ l m = [] := List.eq_nil_of_length_eq_zero (by rw [Nt.addQ_len]; omega); rw [h9]; exact pol_nil _ _
    refine zze ?_
    refine zza 29 (.v (.slice none 0 0)) ?_
    refine zzf 30 53 [.slice none 0 0] ?_
    intro w65 u65 e65 d65
    have k70 := k_r5Trim d65 (hp64.ext e65).raw (by omega) (by first|omega|(simp;omega) | (refine Nat.le_trans (Nt.zzg _) ?_; first|omega|(simp;omega)) | (refine Nat.le_trans (Nt.zzg _) ?_; simp only [List.length_map]; refine Nat.le_trans (Nt.zzg _) ?_; first|omega|(simp;omega)))
    with_reducible refine Post.mono k70 ?_
    rintro _ u68 g69 ⟨y66, rfl, h67⟩
    have hly66 := h67.len
    refine zza 4 (.v y66.v) ?_
    refine zzb 31 [(4, .v y66.v)] [] ?_
    refine zzn (ret0 [.slice y66.a y66.n y66.c] ⟨zzp, trivial⟩ fun u71 e72 => ?_)
    refine ⟨y66, rfl, ?_⟩
    exact (h67.ext e72)
 ·change SW _ _ _ _ (St.of 31 [(0, .v (.slice x.a x.n x.c)), (1, .v (.slice y.a y.n y.c)), (5, .slc 28 0 i cp), (6, .v (.int .i64 (i : Int)))] [(28, ⟨29, cs⟩)]) _ _
  refine zzc ?_
  refine sq9 ?_
  refine zza 7 (.v (.int .i64 (i : Int))) ?_
  refine zza 8 (.v x.v) ?_
  refine zza 9 (.v (.int .i64 (x.n : Int))) ?_
  refine zza 10 (.v (.bool (decide ((i : Int) < (x.n : Int))))) ?_
  rcases Bool.eq_false_or_eq_true (decide ((i : Int) < (x.n : Int))) with hs73 | hs73
  ·refine zyp 11 (x := .v (.bool (decide ((i : Int) < (x.n : Int))))) (.v (.bool true)) (by rw [hs73]) ?_
   have qhs73 := of_decide_eq_true hs73
   refine zzm 12 (uw 4 false true 11) ?_
   refine zzm 13 (uw 4 false true 11) ?_
   refine zzm 14 (uw 4 false true 11) ?_
   refine zzm 15 (uw 4 false true 11) ?_
   refine zza 16 (.v (.bool true)) ?_
   refine zzb 31 [(0, .v x.v), (1, .v y.v), (5, .slc 28 0 i cp), (6, .v (.int .i64 (i : Int))), (16, .v (.bool true))] [(28, ⟨29, cs⟩)] ?_
   refine zyq (by kernel_rfl) ?_
   refine zzr (zzo ?_)
   refine zzc ?_
   refine zzs ?_
   refine zze ?_
   refine zza 19 (.slc 28 0 i cp) ?_
   refine zza 20 (.v x.v) ?_
   refine zza 21 (.v (.int .i64 (i : Int))) ?_
   refine zzf 22 60 [x.v, .int .i64 (i : Int)] ?_
   intro w74 u74 e74 d74
   have k79 := (show Calls _ _ #[_, .int .i64 ((i : Int))] _ _ from k_r5At (i := i) d74 (hx.ext (e11.trans e74)) (by omega) (by first|omega|(simp;omega) | (refine Nat.le_trans (Nt.zzg _) ?_; first|omega|(simp;omega)) | (refine Nat.le_trans (Nt.zzg _) ?_; simp only [List.length_map]; refine Nat.le_trans (Nt.zzg _) ?_; first|omega|(simp;omega))) (by omega))
   with_reducible refine Post.mono k79 ?_
   rintro _ u77 g78 ⟨r75, rfl, h76⟩
   refine zza 23 (.v y.v) ?_
   refine zza 24 (.v (.int .i64 (i : Int))) ?_
   refine zzf 25 60 [y.v, .int .i64 (i : Int)] ?_
   intro w80 u80 e80 d80
   have k85 := (show Calls _ _ #[_, .int .i64 ((i : Int))] _ _ from k_r5At (i := i) d80 (hy.ext (e11.trans (e74.trans (g78.ext.trans e80)))) (by omega) (by first|omega|(simp;omega) | (refine Nat.le_trans (Nt.zzg _) ?_; first|omega|(simp;omega)) | (refine Nat.le_trans (Nt.zzg _) ?_; simp only [List.length_map]; refine Nat.le_trans (Nt.zzg _) ?_; first|omega|(simp;omega))) (by omega))
   with_reducible refine Post.mono k85 ?_
   rintro _ u83 g84 ⟨r81, rfl, h82⟩
   refine zzf 26 59 [r75.v, r81.v] ?_
   intro w86 u86 e86 d86
   have k91 := k_rqAdd d86 (h76.ext (e80.trans (g84.ext.trans e86))).raw (h82.ext e86).raw (by omega) (by omega)
   with_reducible refine Post.mono k91 ?_
   rintro _ u89 g90 ⟨r87, rfl, h88⟩
   refine sy_data 27 ⟨29, r87.cs⟩ 1 (fun b92 u93 e94 h95 => ?_)
   have hp96 : PolN u93 (⟨some ⟨b92, 0, none⟩, 1, 1⟩ : Sl) [((l.getD i 0) + (m.getD i 0))] ((K + 2) + (M + 2) + 2) := pol_lit (L := [r87]) h95 (rats1 (h88.ext e94)) rfl (by decide)
   refine sy_app1 28 (T := 32) (E := 29) (z := .agg #[.bool false, .slice none 0 0, .slice none 0 0]) (size := 3) (bytes := 56) (b := b92) (off := 0) (m := 1) (n := i) (cap := cp) (t := 28) (cs0 := cs) [5, 19, 28] r87.cs (by kernel_rfl) (by kernel_rfl) (by kernel_rfl) (by decide) rfl (lit_news ((Ext.refl _).cells h95)) (rl_one r87) (by decide) (by unfold maxLen; omega) (by omega) (by omega) (by omega) (by omega) (by repeat first | exact noAt_of | refine zyc ?_ | refine zye ?_ | refine zyd ?_ | refine zzx ?_ | refine zya ?_) ?_
   intro c97 cs97 ha97 hb97 hc97 hd97
   have hd97r : cs97.take ((i + 1) * 3) = rcs (L ++ [r87]) := by rw [hd97, ht, rcs_app]; rfl
   refine zza 5 (.slc 28 0 (i + 1) c97) ?_
   refine zzw ?_
   refine zzo ?_
   refine zze ?_
   refine zza 17 (.v (.int .i64 (i : Int))) ?_
   refine zyp 18 (x := .v (.int .i64 (IntKind.i64.wrap ((i : Int) + 1)))) (.v (.int .i64 ((i + 1 : Nat) : Int))) (eqI (by rw [IntWalk.i64_in _ (by omega)]; omega)) ?_
   refine zza 6 (.v (.int .i64 ((i + 1 : Nat) : Int))) ?_
   refine zzw ?_
   have ht98 : i < (Nt.addQ l m).length := by rw [Nt.addQ_len]; omega
   refine ⟨_, ?_, St.of 31 [(0, .v (.slice x.a x.n x.c)), (1, .v (.slice y.a y.n y.c)), (5, .slc 28 0 (i + 1) c97), (6, .v (.int .i64 ((i + 1 : Nat) : Int)))] [(28, ⟨29, cs97⟩)], by exact zzu _ _ _, .inr ⟨i + 1, L ++ [r87], cs97, c97, rfl, by omega, by omega, by simp; omega, hc97, by omega, hb97, hd97r, rfl, (e11.trans (e74.trans (g78.ext.trans (e80.trans (g84.ext.trans (e86.trans (g90.ext.trans e94))))))), (app_next (hR.ext (e74.trans (g78.ext.trans (e80.trans (g84.ext.trans (e86.trans (g90.ext.trans e94))))))) (RatN.more (K := ((K + 2) + (M + 2) + 2)) (h88.ext e94) (by omega)) ht98 (by have h9 := Nt.addQ_co l m (i); unfold Nt.co at h9; exact h9.symm))⟩⟩
   omega
  ·refine zyp 11 (x := .v (.bool (decide ((i : Int) < (x.n : Int))))) (.v (.bool false)) (by rw [hs73]) ?_
   have qhs73 := of_decide_eq_false hs73
   refine zza 12 (.v (.int .i64 (i : Int))) ?_ (hw := w1 4 false 11)
   refine zza 13 (.v y.v) ?_ (hw := w1 4 false 11)
   refine zza 14 (.v (.int .i64 (y.n : Int))) ?_ (hw := w1 4 false 11)
   refine zza 15 (.v (.bool (decide ((i : Int) < (y.n : Int))))) ?_ (hw := w1 4 false 11)
   refine zza 16 (.v (.bool (decide ((i : Int) < (y.n : Int))))) ?_
   refine zzb 31 [(0, .v x.v), (1, .v y.v), (5, .slc 28 0 i cp), (6, .v (.int .i64 (i : Int))), (16, .v (.bool (decide ((i : Int) < (y.n : Int)))))] [(28, ⟨29, cs⟩)] ?_
   refine zzt (b := decide ((i : Int) < (y.n : Int))) (by kernel_rfl) (fun hb99 => ?_) (fun hb99 => ?_)
   ·replace hb99 : (decide ((i : Int) < (y.n : Int))) = true := hb99
    have qhb99 := of_decide_eq_true hb99
    refine zzr (zzo ?_)
    refine zzc ?_
    refine zzs ?_
    refine zze ?_
    refine zza 19 (.slc 28 0 i cp) ?_
    refine zza 20 (.v x.v) ?_
    refine zza 21 (.v (.int .i64 (i : Int))) ?_
    refine zzf 22 60 [x.v, .int .i64 (i : Int)] ?_
    intro w100 u100 e100 d100
    have k105 := (show Calls _ _ #[_, .int .i64 ((i : Int))] _ _ from k_r5At (i := i) d100 (hx.ext (e11.trans e100)) (by omega) (by first|omega|(simp;omega) | (refine Nat.le_trans (Nt.zzg _) ?_; first|omega|(simp;omega)) | (refine Nat.le_trans (Nt.zzg _) ?_; simp only [List.length_map]; refine Nat.le_trans (Nt.zzg _) ?_; first|omega|(simp;omega))) (by omega))
    with_reducible refine Post.mono k105 ?_
    rintro _ u103 g104 ⟨r101, rfl, h102⟩
    refine zza 23 (.v y.v) ?_
    refine zza 24 (.v (.int .i64 (i : Int))) ?_
    refine zzf 25 60 [y.v, .int .i64 (i : Int)] ?_
    intro w106 u106 e106 d106
    have k111 := (show Calls _ _ #[_, .int .i64 ((i : Int))] _ _ from k_r5At (i := i) d106 (hy.ext (e11.trans (e100.trans (g104.ext.trans e106)))) (by omega) (by first|omega|(simp;omega) | (refine Nat.le_trans (Nt.zzg _) ?_; first|omega|(simp;omega)) | (refine Nat.le_trans (Nt.zzg _) ?_; simp only [List.length_map]; refine Nat.le_trans (Nt.zzg _) ?_; first|omega|(simp;omega))) (by omega))
    with_reducible refine Post.mono k111 ?_
    rintro _ u109 g110 ⟨r107, rfl, h108⟩
    refine zzf 26 59 [r101.v, r107.v] ?_
    intro w112 u112 e112 d112
    have k117 := k_rqAdd d112 (h102.ext (e106.trans (g110.ext.trans e112))).raw (h108.ext e112).raw (by omega) (by omega)
    with_reducible refine Post.mono k117 ?_
    rintro _ u115 g116 ⟨r113, rfl, h114⟩
    refine sy_data 27 ⟨29, r113.cs⟩ 1 (fun b118 u119 e120 h121 => ?_)
    have hp122 : PolN u119 (⟨some ⟨b118, 0, none⟩, 1, 1⟩ : Sl) [((l.getD i 0) + (m.getD i 0))] ((K + 2) + (M + 2) + 2) := pol_lit (L := [r113]) h121 (rats1 (h114.ext e120)) rfl (by decide)
    refine sy_app1 28 (T := 32) (E := 29) (z := .agg #[.bool false, .slice none 0 0, .slice none 0 0]) (size := 3) (bytes := 56) (b := b118) (off := 0) (m := 1) (n := i) (cap := cp) (t := 28) (cs0 := cs) [5, 19, 28] r113.cs (by kernel_rfl) (by kernel_rfl) (by kernel_rfl) (by decide) rfl (lit_news ((Ext.refl _).cells h121)) (rl_one r113) (by decide) (by unfold maxLen; omega) (by omega) (by omega) (by omega) (by omega) (by repeat first | exact noAt_of | refine zyc ?_ | refine zye ?_ | refine zyd ?_ | refine zzx ?_ | refine zya ?_) ?_
    intro c123 cs123 ha123 hb123 hc123 hd123
    have hd123r : cs123.take ((i + 1) * 3) = rcs (L ++ [r113]) := by rw [hd123, ht, rcs_app]; rfl
    refine zza 5 (.slc 28 0 (i + 1) c123) ?_
    refine zzw ?_
    refine zzo ?_
    refine zze ?_
    refine zza 17 (.v (.int .i64 (i : Int))) ?_
    refine zyp 18 (x := .v (.int .i64 (IntKind.i64.wrap ((i : Int) + 1)))) (.v (.int .i64 ((i + 1 : Nat) : Int))) (eqI (by rw [IntWalk.i64_in _ (by omega)]; omega)) ?_
    refine zza 6 (.v (.int .i64 ((i + 1 : Nat) : Int))) ?_
    refine zzw ?_
    have ht124 : i < (Nt.addQ l m).length := by rw [Nt.addQ_len]; omega
    refine ⟨_, ?_, St.of 31 [(0, .v (.slice x.a x.n x.c)), (1, .v (.slice y.a y.n y.c)), (5, .slc 28 0 (i + 1) c123), (6, .v (.int .i64 ((i + 1 : Nat) : Int)))] [(28, ⟨29, cs123⟩)], by exact zzu _ _ _, .inr ⟨i + 1, L ++ [r113], cs123, c123, rfl, by omega, by omega, by simp; omega, hc123, by omega, hb123, hd123r, rfl, (e11.trans (e100.trans (g104.ext.trans (e106.trans (g110.ext.trans (e112.trans (g116.ext.trans e120))))))), (app_next (hR.ext (e100.trans (g104.ext.trans (e106.trans (g110.ext.trans (e112.trans (g116.ext.trans e120))))))) (RatN.more (K := ((K + 2) + (M + 2) + 2)) (h114.ext e120) (by omega)) ht124 (by have h9 := Nt.addQ_co l m (i); unfold Nt.co at h9; exact h9.symm))⟩⟩
    omega
   ·replace hb99 : (decide ((i : Int) < (y.n : Int))) = false := hb99
    have qhb99 := of_decide_eq_false hb99
    refine zyb ?_
    refine zzo ?_
    refine zzc ?_
    refine zyo (r := 5) (t := 28) [5, 28] (by repeat first | exact noAt_of | refine zyc ?_ | refine zye ?_ | refine zyd ?_ | refine zzx ?_ | refine zya ?_) (by kernel_rfl) (by rfl) (by rfl) (by kernel_rfl) (fun b126 u127 e128 hb129 hh130 => ?_)
    have hp125 : PolN u127 ⟨some ⟨b126, 0, none⟩, i, cp⟩ (Nt.addQ l m) (K + M + 6) := by have h8 := pol_data hh130 ht hc hle hmx (hR.ext e128); rw [List.take_of_length_le (l := Nt.addQ l m) (by rw [Nt.addQ_len]; omega)] at h8; exact h8
    refine zze ?_
    refine zza 29 (.v (.slice (some ⟨b126, 0, none⟩) i cp)) ?_
    refine zzf 30 53 [.slice (some ⟨b126, 0, none⟩) i cp] ?_
    intro w131 u131 e131 d131
    have k136 := k_r5Trim d131 (hp125.ext e131).raw (by omega) (by first|omega|(simp;omega) | (refine Nat.le_trans (Nt.zzg _) ?_; first|omega|(simp;omega)) | (refine Nat.le_trans (Nt.zzg _) ?_; simp only [List.length_map]; refine Nat.le_trans (Nt.zzg _) ?_; first|omega|(simp;omega)))
    with_reducible refine Post.mono k136 ?_
    rintro _ u134 g135 ⟨y132, rfl, h133⟩
    have hly132 := h133.len
    refine zza 4 (.v y132.v) ?_
    refine zzb 31 [(4, .v y132.v)] [] ?_
    refine zzn (ret0 [.slice y132.a y132.n y132.c] ⟨zzp, trivial⟩ fun u137 e138 => ?_)
    refine ⟨y132, rfl, ?_⟩
    exact (h133.ext e138)
set_option maxHeartbeats 1000000 in
theorem k_r5Sub {u w : World} {x : Sl} {l : List Rat} {y : Sl} {m : List Rat} {K M : Nat} (d : Dat u w) (hx : PolV u x l K) (hy : PolV u y m M) (hK : K ≤ 10000000) (hM : M ≤ 10000000) (hx9 : l.length ≤ 1000000000) (hy9 : m.length ≤ 1000000000) : Calls Tryz.prog 55 #[x.v, y.v] w (Post u w fun v u' => ∃ y : Sl, v = y.v ∧ PolN u' y (Nt.trimQ (Nt.addQ l (Nt.trimQ (m.map (· * (((-1) : Int) : Rat)))))) (K + M + 20)) := by
 have hlen := hx.len
 have hlen2 := hy.len
 refine zzl (args := [.slice x.a x.n x.c, .slice y.a y.n y.c]) Tryz.func55 rfl Tryz.ntmps55 (rs := [.tmp 4]) Tryz.results55 (le_b rfl) (le_b rfl) d ?_
 refine sq9 ?_
 refine zza 4 (.v (.slice none 0 0)) ?_
 refine zzb 10 [(0, .v x.v), (1, .v y.v)] [] ?_
 refine sq9 ?_
 refine zza 5 (.v x.v) ?_
 refine zza 6 (.v y.v) ?_
 refine zzf 7 19 [.int .i64 (-1)] ?_
 intro w11 u11 e11 d11
 have k16 := k_rqOf d11 (z := (-1)) (by omega) (by omega)
 with_reducible refine Post.mono k16 ?_
 rintro _ u14 g15 ⟨r12, rfl, h13⟩
 refine zzf 8 21 [y.v, r12.v] ?_
 intro w17 u17 e17 d17
 have k22 := k_r5Scale d17 (hy.ext (e11.trans (g15.ext.trans e17))) (h13.ext e17).raw (by omega) (by omega) (by omega)
 with_reducible refine Post.mono k22 ?_
 rintro _ u20 g21 ⟨y18, rfl, h19⟩
 have hly18 := h19.len
 refine zzf 9 20 [x.v, y18.v] ?_
 intro w23 u23 e23 d23
 have k28 := k_r5Add d23 (hx.ext (e11.trans (g15.ext.trans (e17.trans (g21.ext.trans e23))))) (h19.ext e23).raw (by omega) (by omega) (by first|omega|(simp;omega) | (refine Nat.le_trans (Nt.zzg _) ?_; first|omega|(simp;omega)) | (refine Nat.le_trans (Nt.zzg _) ?_; simp only [List.length_map]; refine Nat.le_trans (Nt.zzg _) ?_; first|omega|(simp;omega))) (by first|omega|(simp;omega) | (refine Nat.le_trans (Nt.zzg _) ?_; first|omega|(simp;omega)) | (refine Nat.le_trans (Nt.zzg _) ?_; simp only [List.length_map]; refine Nat.le_trans (Nt.zzg _) ?_; first|omega|(simp;omega)))
 with_reducible refine Post.mono k28 ?_
 rintro _ u26 g27 ⟨y24, rfl, h25⟩
 have hly24 := h25.len
 refine zza 4 (.v y24.v) ?_
 refine zzb 10 [(4, .v y24.v)] [] ?_
 refine zzn (ret0 [.slice y24.a y24.n y24.c] ⟨zzp, trivial⟩ fun u29 e30 => ?_)
 refine ⟨y24, rfl, PolN.more (K := (K + (M + 2 + 1) + 6)) ?_ (by omega)⟩
 exact (h25.ext e30)
theorem k_mode {u w : World} {r : Int} (d : Dat u w) (h1 : 1 ≤ r) (h2 : r ≤ 3) : Calls Tryz.prog 139 #[.int .i64 r] w (Post u w fun v _ => v = .bool true) := by
 refine zzl (args := [.int .i64 r]) Tryz.func139 rfl Tryz.ntmps139 (rs := [.tmp 2]) Tryz.results139 (le_b rfl) (le_b rfl) d ?_
 refine sq9 ?_
 refine zza 2 (.v (.bool false)) ?_
 refine zzb 9 [(0, .v (.int .i64 r))] [] ?_
 refine sq9 ?_
 refine zza 3 (.v (.int .i64 r)) ?_
 refine zza 4 (.v (.bool (decide ((1 : Int) ≤ r)))) ?_
 refine zyp 5 (x := .v (.bool (decide ((1 : Int) ≤ r)))) (.v (.bool true)) (by rw [show (decide ((1 : Int) ≤ r)) = true from decide_eq_true (by omega)]) ?_
 refine zza 6 (.v (.int .i64 r)) ?_ (hw := w1 2 true 5)
 refine zza 7 (.v (.bool (decide (r ≤ 3)))) ?_ (hw := w1 2 true 5)
 refine zza 8 (.v (.bool (decide (r ≤ 3)))) ?_
 refine zza 2 (.v (.bool (decide (r ≤ 3)))) ?_
 refine zzb 9 [(2, .v (.bool (decide (r ≤ 3))))] [] ?_
 refine zzn (ret0 [.bool (decide (r ≤ 3))] ⟨zzp, trivial⟩ fun u12 e13 => ?_)
 show Value.bool _ = Value.bool _
 rw [show (decide (r ≤ 3)) = true from decide_eq_true (by omega)]
theorem k_fxValid {u w : World} {W : WL} (d : Dat u w) (hW : WdOK W) : Calls Tryz.prog 81 #[W.v] w (Post u w fun v _ => v = .bool true) := by
 obtain ⟨hw1, hw2, hw3, hw4, hw5, hw6, hw7, hw8⟩ := id hW
 refine zzl (args := [.agg #[.int .i64 W.b, .int .i64 W.f, .int .i64 W.r, .int .i64 W.o]]) Tryz.func81 rfl Tryz.ntmps81 (rs := [.tmp 2]) Tryz.results81 (le_b rfl) (le_b rfl) d ?_
 refine sq9 ?_
 refine zzj 1 ⟨51, [.int .i64 W.b, .int .i64 W.f, .int .i64 W.r, .int .i64 W.o]⟩ ?_
 refine zza 2 (.v (.bool false)) ?_
 refine zzb 36 [(1, .adr 1 0)] [(1, ⟨51, [.int .i64 W.b, .int .i64 W.f, .int .i64 W.r, .int .i64 W.o]⟩)] ?_
 refine zzc ?_
 refine sq9 ?_
 refine zza 3 (.adr 1 0) ?_
 refine zzh 4 (.v (.int .i64 W.b)) ty3 zzk ?_
 refine zza 5 (.v (.bool (decide (W.b < 4)))) ?_
 refine zyp 6 (x := .v (.bool (decide (W.b < 4)))) (.v (.bool false)) (by rw [show (decide (W.b < 4)) = false from decide_eq_false (by omega)]) ?_
 refine zza 7 (.adr 1 0) ?_ (hw := w1 3 false 6)
 refine zzh 8 (.v (.int .i64 W.b)) ty3 zzk ?_ (hw := w1 3 false 6)
 refine zza 9 (.v (.bool (decide ((24 : Int) < W.b)))) ?_ (hw := w1 3 false 6)
 refine zza 10 (.v (.bool (decide ((24 : Int) < W.b)))) ?_
 refine zyp 11 (x := .v (.bool (decide ((24 : Int) < W.b)))) (.v (.bool false)) (by rw [show (decide ((24 : Int) < W.b)) = false from decide_eq_false (by omega)]) ?_
 refine zza 12 (.adr 1 1) ?_ (hw := w1 8 false 11)
 refine zzh 13 (.v (.int .i64 W.f)) ty3 zzk ?_ (hw := w1 8 false 11)
 refine zza 14 (.v (.bool (decide (W.f < 0)))) ?_ (hw := w1 8 false 11)
 refine zza 15 (.v (.bool (decide (W.f < 0)))) ?_
 refine zyp 16 (x := .v (.bool (decide (W.f < 0)))) (.v (.bool false)) (by rw [show (decide (W.f < 0)) = false from decide_eq_false (by omega)]) ?_
 refine zza 17 (.adr 1 1) ?_ (hw := w1 13 false 16)
 refine zzh 18 (.v (.int .i64 W.f)) ty3 zzk ?_ (hw := w1 13 false 16)
 refine zza 19 (.adr 1 0) ?_ (hw := w1 13 false 16)
 refine zzh 20 (.v (.int .i64 W.b)) ty3 zzk ?_ (hw := w1 13 false 16)
 refine zza 21 (.v (.bool (decide (W.b ≤ W.f)))) ?_ (hw := w1 13 false 16)
 refine zza 22 (.v (.bool (decide (W.b ≤ W.f)))) ?_
 refine zzb 36 [(1, .adr 1 0), (22, .v (.bool (decide (W.b ≤ W.f))))] [(1, ⟨51, [.int .i64 W.b, .int .i64 W.f, .int .i64 W.r, .int .i64 W.o]⟩)] ?_
 refine zzt (b := decide (W.b ≤ W.f)) (by kernel_rfl) (fun hb => ?_) (fun hb => ?_)
 ·exact absurd hb (by rw [show (decide (W.b ≤ W.f)) = false from decide_eq_false (by omega)]; decide)
 ·clear hb
  refine zzr (zzo ?_)
  refine sq9 ?_
  refine zza 23 (.adr 1 2) ?_
  refine zzh 24 (.v (.int .i64 W.r)) ty3 zzk ?_
  refine zzf 25 139 [.int .i64 W.r] ?_
  intro w14 u14 e14 d14
  have k17 := k_mode (r := W.r) d14 (by omega) (by omega)
  with_reducible refine Post.mono k17 ?_
  rintro _ u15 g16 rfl
  refine zza 26 (.v (.bool true)) ?_
  refine zza 27 (.adr 1 3) ?_ (hw := w1 3 true 26)
  refine zzh 28 (.v (.int .i64 W.o)) ty3 zzk ?_ (hw := w1 3 true 26)
  refine zza 29 (.v (.bool (W.o == 1))) ?_ (hw := w1 3 true 26)
  rcases Bool.eq_false_or_eq_true (W.o == 1) with hs18 | hs18
  ·refine zyp 30 (x := .v (.bool (W.o == 1))) (.v (.bool true)) (by rw [hs18]) ?_ (hw := w1 3 true 26)
   refine zzm 31 (uw 7 false true 30) ?_
   refine zzm 32 (uw 7 false true 30) ?_
   refine zzm 33 (uw 7 false true 30) ?_
   refine zza 34 (.v (.bool true)) ?_ (hw := w1 3 true 26)
   refine zza 35 (.v (.bool true)) ?_
   refine zza 2 (.v (.bool true)) ?_
   refine zzb 36 [(2, .v (.bool true))] [] ?_
   refine zzn (ret0 [.bool true] ⟨zzp, trivial⟩ fun u19 e20 => ?_)
   rfl
  ·refine zyp 30 (x := .v (.bool (W.o == 1))) (.v (.bool false)) (by rw [hs18]) ?_ (hw := w1 3 true 26)
   refine zza 31 (.adr 1 3) ?_ (hw := w1 7 false 30)
   refine zzh 32 (.v (.int .i64 W.o)) ty3 zzk ?_ (hw := w1 7 false 30)
   refine zza 33 (.v (.bool (W.o == 2))) ?_ (hw := w1 7 false 30)
   refine zza 34 (.v (.bool (W.o == 2))) ?_ (hw := w1 3 true 26)
   refine zza 35 (.v (.bool (W.o == 2))) ?_
   refine zza 2 (.v (.bool (W.o == 2))) ?_
   refine zzb 36 [(2, .v (.bool (W.o == 2)))] [] ?_
   refine zzn (ret0 [.bool (W.o == 2)] ⟨zzp, trivial⟩ fun u21 e22 => ?_)
   show Value.bool _ = Value.bool _
   rw [show (W.o == 2) = true from (by have hz := hs18; simp at hz ⊢; omega)]
theorem k_fxLow {u w : World} {W : WL} (d : Dat u w) (hW : WdOK W) : Calls Tryz.prog 174 #[W.v] w (Post u w fun v _ => v = .int .i64 (-Nt.p2i (W.b - 1))) := by
 obtain ⟨hw1, hw2, hw3, hw4, hw5, hw6, hw7, hw8⟩ := id hW
 have hp1 := Nt.p2i_pos (W.b - 1)
 have hp2 := Nt.p2i_24 (n := W.b - 1) (by omega)
 refine zzl (args := [.agg #[.int .i64 W.b, .int .i64 W.f, .int .i64 W.r, .int .i64 W.o]]) Tryz.func174 rfl Tryz.ntmps174 (rs := [.tmp 2]) Tryz.results174 (le_b rfl) (le_b rfl) d ?_
 refine sq9 ?_
 refine zzj 1 ⟨51, [.int .i64 W.b, .int .i64 W.f, .int .i64 W.r, .int .i64 W.o]⟩ ?_
 refine zza 2 (.v (.int .i64 0)) ?_
 refine zzb 11 [(1, .adr 1 0)] [(1, ⟨51, [.int .i64 W.b, .int .i64 W.f, .int .i64 W.r, .int .i64 W.o]⟩)] ?_
 refine zzc ?_
 refine sq9 ?_
 refine zzh 3 (.v (.agg #[.int .i64 W.b, .int .i64 W.f, .int .i64 W.r, .int .i64 W.o])) ty51 zzd ?_
 refine zzf 4 81 [.agg #[.int .i64 W.b, .int .i64 W.f, .int .i64 W.r, .int .i64 W.o]] ?_
 intro w11 u11 e11 d11
 have k14 := k_fxValid (W := W) d11 hW
 with_reducible refine Post.mono k14 ?_
 rintro _ u12 g13 rfl
 refine zza 5 (.v (.bool false)) ?_
 refine zzb 11 [(1, .adr 1 0), (5, .v (.bool false))] [(1, ⟨51, [.int .i64 W.b, .int .i64 W.f, .int .i64 W.r, .int .i64 W.o]⟩)] ?_
 refine zyr (by kernel_rfl) ?_
 refine zzr (zzo ?_)
 refine sq9 ?_
 refine zza 6 (.adr 1 0) ?_
 refine zzh 7 (.v (.int .i64 W.b)) ty3 zzk ?_
 refine zyp 8 (x := .v (.int .i64 (IntKind.i64.wrap (W.b - 1)))) (.v (.int .i64 (W.b - 1))) (by rw [IntWalk.i64_in _ (by omega)]) ?_
 refine sy_shl 9 (k := .i64) (s := W.b - 1) (Nt.p2i (W.b - 1)) (by omega) (by show _ ≤ (64 : Int); omega) (shl_one (by omega) (by omega)) ?_
 refine zyp 10 (x := .v (.int .i64 (IntKind.i64.wrap (0 - Nt.p2i (W.b - 1))))) (.v (.int .i64 (-Nt.p2i (W.b - 1)))) (by rw [show (IntKind.i64.wrap (0 - Nt.p2i (W.b - 1))) = (-Nt.p2i (W.b - 1)) from (by rw [IntWalk.i64_in _ (by omega)]; omega)]) ?_
 refine zza 2 (.v (.int .i64 (-Nt.p2i (W.b - 1)))) ?_
 refine zzb 11 [(2, .v (.int .i64 (-Nt.p2i (W.b - 1))))] [] ?_
 refine zzn (ret0 [.int .i64 (-Nt.p2i (W.b - 1))] ⟨zzp, trivial⟩ fun u15 e16 => ?_)
 rfl
theorem k_fxHigh {u w : World} {W : WL} (d : Dat u w) (hW : WdOK W) : Calls Tryz.prog 175 #[W.v] w (Post u w fun v _ => v = .int .i64 (Nt.p2i (W.b - 1) - 1)) := by
 obtain ⟨hw1, hw2, hw3, hw4, hw5, hw6, hw7, hw8⟩ := id hW
 have hp1 := Nt.p2i_pos (W.b - 1)
 have hp2 := Nt.p2i_24 (n := W.b - 1) (by omega)
 refine zzl (args := [.agg #[.int .i64 W.b, .int .i64 W.f, .int .i64 W.r, .int .i64 W.o]]) Tryz.func175 rfl Tryz.ntmps175 (rs := [.tmp 2]) Tryz.results175 (le_b rfl) (le_b rfl) d ?_
 refine sq9 ?_
 refine zzj 1 ⟨51, [.int .i64 W.b, .int .i64 W.f, .int .i64 W.r, .int .i64 W.o]⟩ ?_
 refine zza 2 (.v (.int .i64 0)) ?_
 refine zzb 11 [(1, .adr 1 0)] [(1, ⟨51, [.int .i64 W.b, .int .i64 W.f, .int .i64 W.r, .int .i64 W.o]⟩)] ?_
 refine zzc ?_
 refine sq9 ?_
 refine zzh 3 (.v (.agg #[.int .i64 W.b, .int .i64 W.f, .int .i64 W.r, .int .i64 W.o])) ty51 zzd ?_
 refine zzf 4 81 [.agg #[.int .i64 W.b, .int .i64 W.f, .int .i64 W.r, .int .i64 W.o]] ?_
 intro w11 u11 e11 d11
 have k14 := k_fxValid (W := W) d11 hW
 with_reducible refine Post.mono k14 ?_
 rintro _ u12 g13 rfl
 refine zza 5 (.v (.bool false)) ?_
 refine zzb 11 [(1, .adr 1 0), (5, .v (.bool false))] [(1, ⟨51, [.int .i64 W.b, .int .i64 W.f, .int .i64 W.r, .int .i64 W.o]⟩)] ?_
 refine zyr (by kernel_rfl) ?_
 refine zzr (zzo ?_)
 refine sq9 ?_
 refine zza 6 (.adr 1 0) ?_
 refine zzh 7 (.v (.int .i64 W.b)) ty3 zzk ?_
 refine zyp 8 (x := .v (.int .i64 (IntKind.i64.wrap (W.b - 1)))) (.v (.int .i64 (W.b - 1))) (by rw [IntWalk.i64_in _ (by omega)]) ?_
 refine sy_shl 9 (k := .i64) (s := W.b - 1) (Nt.p2i (W.b - 1)) (by omega) (by show _ ≤ (64 : Int); omega) (shl_one (by omega) (by omega)) ?_
 refine zyp 10 (x := .v (.int .i64 (IntKind.i64.wrap ((Nt.p2i (W.b - 1)) - 1)))) (.v (.int .i64 ((Nt.p2i (W.b - 1)) - 1))) (by rw [IntWalk.i64_in _ (by omega)]) ?_
 refine zza 2 (.v (.int .i64 ((Nt.p2i (W.b - 1)) - 1))) ?_
 refine zzb 11 [(2, .v (.int .i64 ((Nt.p2i (W.b - 1)) - 1)))] [] ?_
 refine zzn (ret0 [.int .i64 ((Nt.p2i (W.b - 1)) - 1)] ⟨zzp, trivial⟩ fun u15 e16 => ?_)
 rfl
theorem k_fxFits {u w : World} {W : WL} {z : Int} (d : Dat u w) (hW : WdOK W) (h0 : -Nt.p2i (W.b - 1) ≤ z) (h1 : z < Nt.p2i (W.b - 1)) : Calls Tryz.prog 134 #[W.v, .int .i64 z] w (Post u w fun v _ => v = .bool true) := by
 obtain ⟨hw1, hw2, hw3, hw4, hw5, hw6, hw7, hw8⟩ := id hW
 refine zzl (args := [.agg #[.int .i64 W.b, .int .i64 W.f, .int .i64 W.r, .int .i64 W.o], .int .i64 z]) Tryz.func134 rfl Tryz.ntmps134 (rs := [.tmp 4]) Tryz.results134 (le_b rfl) (le_b rfl) d ?_
 refine sq9 ?_
 refine zzj 2 ⟨51, [.int .i64 W.b, .int .i64 W.f, .int .i64 W.r, .int .i64 W.o]⟩ ?_
 refine zza 4 (.v (.bool false)) ?_
 refine zzb 19 [(1, .v (.int .i64 z)), (2, .adr 2 0)] [(2, ⟨51, [.int .i64 W.b, .int .i64 W.f, .int .i64 W.r, .int .i64 W.o]⟩)] ?_
 refine sq9 ?_
 refine zzh 5 (.v (.agg #[.int .i64 W.b, .int .i64 W.f, .int .i64 W.r, .int .i64 W.o])) ty51 zzd ?_
 refine zzf 6 81 [.agg #[.int .i64 W.b, .int .i64 W.f, .int .i64 W.r, .int .i64 W.o]] ?_
 intro w11 u11 e11 d11
 have k14 := k_fxValid (W := W) d11 hW
 with_reducible refine Post.mono k14 ?_
 rintro _ u12 g13 rfl
 refine zza 7 (.v (.bool true)) ?_
 refine zza 8 (.v (.int .i64 z)) ?_ (hw := w1 2 true 7)
 refine zzh 9 (.v (.agg #[.int .i64 W.b, .int .i64 W.f, .int .i64 W.r, .int .i64 W.o])) ty51 zzd ?_ (hw := w1 2 true 7)
 refine zzf 10 174 [.agg #[.int .i64 W.b, .int .i64 W.f, .int .i64 W.r, .int .i64 W.o]] ?_ (hw := w1 2 true 7)
 intro w15 u15 e15 d15
 have k18 := k_fxLow (W := W) d15 hW
 with_reducible refine Post.mono k18 ?_
 rintro _ u16 g17 rfl
 refine zza 11 (.v (.bool (decide ((-Nt.p2i (W.b - 1)) ≤ z)))) ?_ (hw := w1 2 true 7)
 refine zza 12 (.v (.bool (decide ((-Nt.p2i (W.b - 1)) ≤ z)))) ?_
 refine zyp 13 (x := .v (.bool (decide ((-Nt.p2i (W.b - 1)) ≤ z)))) (.v (.bool true)) (by rw [show (decide ((-Nt.p2i (W.b - 1)) ≤ z)) = true from decide_eq_true (by omega)]) ?_
 refine zza 14 (.v (.int .i64 z)) ?_ (hw := w1 8 true 13)
 refine zzh 15 (.v (.agg #[.int .i64 W.b, .int .i64 W.f, .int .i64 W.r, .int .i64 W.o])) ty51 zzd ?_ (hw := w1 8 true 13)
 refine zzf 16 175 [.agg #[.int .i64 W.b, .int .i64 W.f, .int .i64 W.r, .int .i64 W.o]] ?_ (hw := w1 8 true 13)
 intro w20 u20 e20 d20
 have k23 := k_fxHigh (W := W) d20 hW
 with_reducible refine Post.mono k23 ?_
 rintro _ u21 g22 rfl
 refine zza 17 (.v (.bool (decide (z ≤ (Nt.p2i (W.b - 1) - 1))))) ?_ (hw := w1 8 true 13)
 refine zza 18 (.v (.bool (decide (z ≤ (Nt.p2i (W.b - 1) - 1))))) ?_
 refine zza 4 (.v (.bool (decide (z ≤ (Nt.p2i (W.b - 1) - 1))))) ?_
 refine zzb 19 [(4, .v (.bool (decide (z ≤ (Nt.p2i (W.b - 1) - 1)))))] [] ?_
 refine zzn (ret0 [.bool (decide (z ≤ (Nt.p2i (W.b - 1) - 1)))] ⟨zzp, trivial⟩ fun u24 e25 => ?_)
 show Value.bool _ = Value.bool _
 rw [show (decide (z ≤ (Nt.p2i (W.b - 1) - 1))) = true from decide_eq_true (by omega)]
theorem k_fxValue {u w : World} {W : WL} {z : Int} (d : Dat u w) (hW : WdOK W) (h0 : -16777216 ≤ z) (h1 : z ≤ 16777216) : Calls Tryz.prog 102 #[W.v, .int .i64 z] w (Post u w fun v u' => ∃ r : RL, v = r.v ∧ RatN u' r (((z : Int) : Rat) / ((Nt.p2i W.f : Int) : Rat)) 2) := by
 obtain ⟨hw1, hw2, hw3, hw4, hw5, hw6, hw7, hw8⟩ := id hW
 have hp1 := Nt.p2i_pos W.f
 have hp2 := Nt.p2i_24 (n := W.f) (by omega)
 refine zzl (args := [.agg #[.int .i64 W.b, .int .i64 W.f, .int .i64 W.r, .int .i64 W.o], .int .i64 z]) Tryz.func102 rfl Tryz.ntmps102 (rs := [.cell 4 29]) Tryz.results102 (le_b rfl) (le_b rfl) d ?_
 refine sq9 ?_
 refine zzj 2 ⟨51, [.int .i64 W.b, .int .i64 W.f, .int .i64 W.r, .int .i64 W.o]⟩ ?_
 refine zzj 4 ⟨29, [.bool false, .slice none 0 0, .slice none 0 0]⟩ ?_
 refine zzb 14 [(1, .v (.int .i64 z)), (2, .adr 2 0), (4, .adr 4 0)] [(2, ⟨51, [.int .i64 W.b, .int .i64 W.f, .int .i64 W.r, .int .i64 W.o]⟩), (4, ⟨29, [.bool false, .slice none 0 0, .slice none 0 0]⟩)] ?_
 refine zzc ?_
 refine sq9 ?_
 refine zzh 5 (.v (.agg #[.int .i64 W.b, .int .i64 W.f, .int .i64 W.r, .int .i64 W.o])) ty51 zzd ?_
 refine zzf 6 81 [.agg #[.int .i64 W.b, .int .i64 W.f, .int .i64 W.r, .int .i64 W.o]] ?_
 intro w11 u11 e11 d11
 have k14 := k_fxValid (W := W) d11 hW
 with_reducible refine Post.mono k14 ?_
 rintro _ u12 g13 rfl
 refine zza 7 (.v (.bool false)) ?_
 refine zzb 14 [(1, .v (.int .i64 z)), (2, .adr 2 0), (4, .adr 4 0), (7, .v (.bool false))] [(2, ⟨51, [.int .i64 W.b, .int .i64 W.f, .int .i64 W.r, .int .i64 W.o]⟩), (4, ⟨29, [.bool false, .slice none 0 0, .slice none 0 0]⟩)] ?_
 refine zyr (by kernel_rfl) ?_
 refine zzr (zzo ?_)
 refine sq9 ?_
 refine zza 9 (.v (.int .i64 z)) ?_
 refine zza 10 (.adr 2 1) ?_
 refine zzh 11 (.v (.int .i64 W.f)) ty3 zzk ?_
 refine sy_shl 12 (k := .i64) (s := W.f) (Nt.p2i W.f) (by omega) (by show _ ≤ (64 : Int); omega) (shl_one (by omega) (by omega)) ?_
 refine zzf 13 67 [.int .i64 z, .int .i64 (Nt.p2i W.f)] ?_
 intro w15 u15 e15 d15
 have k20 := k_ratFrac d15 (a := z) (b := Nt.p2i W.f) (by omega) (by omega) (by omega) (by omega)
 with_reducible refine Post.mono k20 ?_
 rintro _ u18 g19 ⟨r16, rfl, h17⟩
 refine zzi ⟨29, r16.cs⟩ ty29 ?_
 refine zzb 14 [(4, .adr 4 0)] [(4, ⟨29, r16.cs⟩)] ?_
 refine zzn (ret0 [r16.v] ⟨zzq ty29 zzd, trivial⟩ fun u21 e22 => ?_)
 exact ⟨r16, rfl, (h17.ext e22)⟩
theorem k_within {u w : World} {n m : Int} (d : Dat u w) (hm : 1 ≤ m) (hm2 : m ≤ 4611686018427387904) (hn0 : -9223372036854775808 ≤ n) (hn1 : n ≤ 9223372036854775807) : Calls Tryz.prog 9 #[.int .i64 n, .int .i64 m] w (Post u w fun v _ => v = .int .i64 (n % m)) := by
 refine zzl (args := [.int .i64 n, .int .i64 m]) Tryz.func9 rfl Tryz.ntmps9 (rs := [.tmp 4]) Tryz.results9 (le_b rfl) (le_b rfl) d ?_
 refine sq9 ?_
 refine zza 4 (.v (.int .i64 0)) ?_
 refine zzb 16 [(0, .v (.int .i64 n)), (1, .v (.int .i64 m))] [] ?_
 refine zzc ?_
 refine sq9 ?_
 refine zza 5 (.v (.int .i64 m)) ?_
 refine zyp 6 (x := .v (.bool (decide (m < 1)))) (.v (.bool false)) (by rw [show (decide (m < 1)) = false from (by simp; omega)]) ?_
 refine zzb 16 [(0, .v (.int .i64 n)), (1, .v (.int .i64 m)), (6, .v (.bool false))] [] ?_
 refine zyr (by kernel_rfl) ?_
 refine zzr (zzo ?_)
 refine sq9 ?_
 refine zza 7 (.v (.int .i64 n)) ?_
 refine zza 8 (.v (.int .i64 m)) ?_
 refine sy_rem 9 (Int.tmod n m) (by omega) rfl ?_
 refine zza 0 (.v (.int .i64 (Int.tmod n m))) ?_
 refine zzb 16 [(0, .v (.int .i64 (Int.tmod n m))), (1, .v (.int .i64 m))] [] ?_
 refine zzc ?_
 refine sq9 ?_
 refine zza 10 (.v (.int .i64 (Int.tmod n m))) ?_
 refine zza 11 (.v (.bool (decide ((Int.tmod n m) < 0)))) ?_
 refine zzb 16 [(0, .v (.int .i64 (Int.tmod n m))), (1, .v (.int .i64 m)), (11, .v (.bool (decide ((Int.tmod n m) < 0))))] [] ?_
 refine zzt (b := decide ((Int.tmod n m) < 0)) (by kernel_rfl) (fun hb11 => ?_) (fun hb11 => ?_)
 ·replace hb11 : (decide ((Int.tmod n m) < 0)) = true := hb11
  have qhb11 := of_decide_eq_true hb11
  refine zze ?_
  refine zza 12 (.v (.int .i64 (Int.tmod n m))) ?_
  refine zza 13 (.v (.int .i64 m)) ?_
  refine zyp 14 (x := .v (.int .i64 (IntKind.i64.wrap (Int.tmod n m + m)))) (.v (.int .i64 (Int.tmod n m + m))) (by rw [show (IntKind.i64.wrap (Int.tmod n m + m)) = (Int.tmod n m + m) from (IntWalk.i64_in _ (by have h2 := Int.lt_tmod_of_pos n (show 0 < m by omega); have h3 := Int.tmod_lt_of_pos n (show 0 < m by omega); omega))]) ?_
  refine zza 0 (.v (.int .i64 (Int.tmod n m + m))) ?_
  refine zzb 16 [(0, .v (.int .i64 (Int.tmod n m + m)))] [] ?_
  refine sq9 ?_
  refine zza 15 (.v (.int .i64 (Int.tmod n m + m))) ?_
  refine zza 4 (.v (.int .i64 (Int.tmod n m + m))) ?_
  refine zzb 16 [(4, .v (.int .i64 (Int.tmod n m + m)))] [] ?_
  refine zzn (ret0 [.int .i64 (Int.tmod n m + m)] ⟨zzp, trivial⟩ fun u12 e13 => ?_)
  show Value.int _ _ = Value.int _ _
  rw [mod_neg9 m hm n hb11]
 ·replace hb11 : (decide ((Int.tmod n m) < 0)) = false := hb11
  have qhb11 := of_decide_eq_false hb11
  refine zzr (zzo ?_)
  refine sq9 ?_
  refine zza 15 (.v (.int .i64 (Int.tmod n m))) ?_
  refine zza 4 (.v (.int .i64 (Int.tmod n m))) ?_
  refine zzb 16 [(4, .v (.int .i64 (Int.tmod n m)))] [] ?_
  refine zzn (ret0 [.int .i64 (Int.tmod n m)] ⟨zzp, trivial⟩ fun u14 e15 => ?_)
  show Value.int _ _ = Value.int _ _
  rw [mod_pos9 m hm n hb11]
theorem k_wunit {u w : World} {W : WL} (d : Dat u w) (hW : WdOK W) : Calls Tryz.prog 132 #[W.v] w (Post u w fun v _ => v = .int .i64 (Nt.p2i W.f)) := by
 obtain ⟨hw1, hw2, hw3, hw4, hw5, hw6, hw7, hw8⟩ := id hW
 refine zzl (args := [.agg #[.int .i64 W.b, .int .i64 W.f, .int .i64 W.r, .int .i64 W.o]]) Tryz.func132 rfl Tryz.ntmps132 (rs := [.tmp 2]) Tryz.results132 (le_b rfl) (le_b rfl) d ?_
 refine sq9 ?_
 refine zzj 1 ⟨51, [.int .i64 W.b, .int .i64 W.f, .int .i64 W.r, .int .i64 W.o]⟩ ?_
 refine zza 2 (.v (.int .i64 0)) ?_
 refine zzb 7 [(1, .adr 1 0)] [(1, ⟨51, [.int .i64 W.b, .int .i64 W.f, .int .i64 W.r, .int .i64 W.o]⟩)] ?_
 refine sq9 ?_
 refine zza 3 (.adr 1 1) ?_
 refine zzh 4 (.v (.int .i64 W.f)) ty3 zzk ?_
 refine sy_conv 5 W.f (fun w => by kernel_rfl) (IntWalk.u64_in _ (by omega)) ?_
 refine sy_shl 6 (k := .i64) (s := W.f) (Nt.p2i W.f) (by omega) (by show _ ≤ (64 : Int); omega) (shl_one (by omega) (by omega)) ?_
 refine zza 2 (.v (.int .i64 (Nt.p2i W.f))) ?_
 refine zzb 7 [(2, .v (.int .i64 (Nt.p2i W.f)))] [] ?_
 refine zzn (ret0 [.int .i64 (Nt.p2i W.f)] ⟨zzp, trivial⟩ fun u11 e12 => ?_)
 rfl
theorem k_suitable {u w : World} {W : WL} (d : Dat u w) (hW : WdOK W) (hf : 1 ≤ W.f) : Calls Tryz.prog 71 #[W.v] w (Post u w fun v _ => v = .bool true) := by
 obtain ⟨hw1, hw2, hw3, hw4, hw5, hw6, hw7, hw8⟩ := id hW
 refine zzl (args := [.agg #[.int .i64 W.b, .int .i64 W.f, .int .i64 W.r, .int .i64 W.o]]) Tryz.func71 rfl Tryz.ntmps71 (rs := [.tmp 2]) Tryz.results71 (le_b rfl) (le_b rfl) d ?_
 refine sq9 ?_
 refine zzj 1 ⟨51, [.int .i64 W.b, .int .i64 W.f, .int .i64 W.r, .int .i64 W.o]⟩ ?_
 refine zza 2 (.v (.bool false)) ?_
 refine zzb 10 [(1, .adr 1 0)] [(1, ⟨51, [.int .i64 W.b, .int .i64 W.f, .int .i64 W.r, .int .i64 W.o]⟩)] ?_
 refine sq9 ?_
 refine zzh 3 (.v (.agg #[.int .i64 W.b, .int .i64 W.f, .int .i64 W.r, .int .i64 W.o])) ty51 zzd ?_
 refine zzf 4 81 [.agg #[.int .i64 W.b, .int .i64 W.f, .int .i64 W.r, .int .i64 W.o]] ?_
 intro w11 u11 e11 d11
 have k14 := k_fxValid (W := W) d11 hW
 with_reducible refine Post.mono k14 ?_
 rintro _ u12 g13 rfl
 refine zza 5 (.v (.bool true)) ?_
 refine zza 6 (.adr 1 1) ?_ (hw := w1 2 true 5)
 refine zzh 7 (.v (.int .i64 W.f)) ty3 zzk ?_ (hw := w1 2 true 5)
 refine zza 8 (.v (.bool (decide ((1 : Int) ≤ W.f)))) ?_ (hw := w1 2 true 5)
 refine zza 9 (.v (.bool (decide ((1 : Int) ≤ W.f)))) ?_
 refine zza 2 (.v (.bool (decide ((1 : Int) ≤ W.f)))) ?_
 refine zzb 10 [(2, .v (.bool (decide ((1 : Int) ≤ W.f))))] [] ?_
 refine zzn (ret0 [.bool (decide ((1 : Int) ≤ W.f))] ⟨zzp, trivial⟩ fun u15 e16 => ?_)
 show Value.bool _ = Value.bool _
 rw [show (decide ((1 : Int) ≤ W.f)) = true from decide_eq_true (by omega)]
set_option maxHeartbeats 1000000 in
theorem k_permitted1 {u w : World} {W : WL} {g : Int} (hg0 : -Nt.p2i W.f < g) (hg1 : g < Nt.p2i W.f) (d : Dat u w) (hW : WdOK W) : Calls Tryz.prog 72 #[(⟨1, g, 0⟩ : PL).v, W.v] w (Post u w fun v _ => v = .bool true) := by
 obtain ⟨hw1, hw2, hw3, hw4, hw5, hw6, hw7, hw8⟩ := id hW
 have hu0 := Nt.p2i_pos W.f
 have hu1 := Nt.p2i_24 (n := W.f) (by omega)
 have hu2 := Nt.p2i_mono (a := W.f) (b := W.b - 1) (by omega)
 have hu3 := Nt.p2i_24 (n := W.b - 1) (by omega)
 refine zzl (args := [.agg #[.int .i64 1, .int .i64 g, .int .i64 0], .agg #[.int .i64 W.b, .int .i64 W.f, .int .i64 W.r, .int .i64 W.o]]) Tryz.func72 rfl Tryz.ntmps72 (rs := [.tmp 4]) Tryz.results72 (le_b rfl) (le_b rfl) d ?_
 refine sq9 ?_
 refine zzj 2 ⟨65, [.int .i64 1, .int .i64 g, .int .i64 0]⟩ ?_
 refine zzj 3 ⟨51, [.int .i64 W.b, .int .i64 W.f, .int .i64 W.r, .int .i64 W.o]⟩ ?_
 refine zza 4 (.v (.bool false)) ?_
 refine zzb 54 [(2, .adr 2 0), (3, .adr 3 0)] [(2, ⟨65, [.int .i64 1, .int .i64 g, .int .i64 0]⟩), (3, ⟨51, [.int .i64 W.b, .int .i64 W.f, .int .i64 W.r, .int .i64 W.o]⟩)] ?_
 refine zzc ?_
 refine sq9 ?_
 refine zza 8 (.adr 2 0) ?_
 refine zzh 9 (.v (.int .i64 1)) ty3 zzk ?_
 refine zza 10 (.v (.bool false)) ?_
 refine zza 11 (.v (.bool false)) ?_
 refine zzm 12 (uw 3 true false 11) ?_
 refine zzm 13 (uw 3 true false 11) ?_
 refine zzm 14 (uw 3 true false 11) ?_
 refine zza 15 (.v (.bool false)) ?_
 refine zzb 54 [(2, .adr 2 0), (3, .adr 3 0), (15, .v (.bool false))] [(2, ⟨65, [.int .i64 1, .int .i64 g, .int .i64 0]⟩), (3, ⟨51, [.int .i64 W.b, .int .i64 W.f, .int .i64 W.r, .int .i64 W.o]⟩)] ?_
 refine zyr (by kernel_rfl) ?_
 refine zzr (zzo ?_)
 refine zzc ?_
 refine sq9 ?_
 refine zza 16 (.adr 2 0) ?_
 refine zzh 17 (.v (.int .i64 1)) ty3 zzk ?_
 refine zza 18 (.v (.bool true)) ?_
 refine zza 19 (.v (.bool true)) ?_
 refine zza 20 (.adr 2 1) ?_ (hw := w1 3 true 19)
 refine zza 21 (.adr 2 2) ?_ (hw := w1 3 true 19)
 refine zzh 22 (.v (.int .i64 0)) ty3 zzk ?_ (hw := w1 3 true 19)
 refine zza 23 (.v (.bool false)) ?_ (hw := w1 3 true 19)
 refine zza 24 (.v (.bool false)) ?_
 refine zzb 54 [(2, .adr 2 0), (3, .adr 3 0), (24, .v (.bool false))] [(2, ⟨65, [.int .i64 1, .int .i64 g, .int .i64 0]⟩), (3, ⟨51, [.int .i64 W.b, .int .i64 W.f, .int .i64 W.r, .int .i64 W.o]⟩)] ?_
 refine zyr (by kernel_rfl) ?_
 refine zzr (zzo ?_)
 refine sq9 ?_
 refine zza 25 (.adr 3 1) ?_
 refine zzh 26 (.v (.int .i64 W.f)) ty3 zzk ?_
 refine sy_shl 27 (k := .i64) (s := W.f) (Nt.p2i W.f) (by omega) (by show _ ≤ (64 : Int); omega) (shl_one (by omega) (by omega)) ?_
 refine zza 5 (.v (.int .i64 (Nt.p2i W.f))) ?_
 refine zzb 54 [(2, .adr 2 0), (3, .adr 3 0), (5, .v (.int .i64 (Nt.p2i W.f)))] [(2, ⟨65, [.int .i64 1, .int .i64 g, .int .i64 0]⟩), (3, ⟨51, [.int .i64 W.b, .int .i64 W.f, .int .i64 W.r, .int .i64 W.o]⟩)] ?_
 refine zzc ?_
 refine sq9 ?_
 refine zza 28 (.adr 2 1) ?_
 refine zzh 29 (.v (.agg #[.int .i64 g, .int .i64 0])) ty63 zzd ?_
 refine zza 30 (.v (.int .i64 0)) ?_
 refine zzb 54 [(3, .adr 3 0), (5, .v (.int .i64 (Nt.p2i W.f))), (29, .v (.agg #[.int .i64 g, .int .i64 0])), (30, .v (.int .i64 0))] [(3, ⟨51, [.int .i64 W.b, .int .i64 W.f, .int .i64 W.r, .int .i64 W.o]⟩)] ?_
 refine zzs ?_
 refine sw_rounds 2 ?_
 refine sq9 ?_
 refine zza 31 (.v (.bool true)) ?_
 refine zzb 54 [(3, .adr 3 0), (5, .v (.int .i64 (Nt.p2i W.f))), (29, .v (.agg #[.int .i64 g, .int .i64 0])), (30, .v (.int .i64 0)), (31, .v (.bool true))] [(3, ⟨51, [.int .i64 W.b, .int .i64 W.f, .int .i64 W.r, .int .i64 W.o]⟩)] ?_
 refine zzc ?_
 refine zyq (by kernel_rfl) ?_
 refine zzr (zzo ?_)
 refine zzc ?_
 refine zzs ?_
 refine sq9 ?_
 refine zza 32 (.v (.int .i64 g)) ?_
 refine zza 7 (.v (.int .i64 g)) ?_
 refine zzb 54 [(3, .adr 3 0), (5, .v (.int .i64 (Nt.p2i W.f))), (7, .v (.int .i64 g)), (29, .v (.agg #[.int .i64 g, .int .i64 0])), (30, .v (.int .i64 0))] [(3, ⟨51, [.int .i64 W.b, .int .i64 W.f, .int .i64 W.r, .int .i64 W.o]⟩)] ?_
 refine zzc ?_
 refine sq9 ?_
 refine zza 33 (.v (.int .i64 g)) ?_
 refine zza 34 (.v (.int .i64 (Nt.p2i W.f))) ?_
 refine zyp 35 (x := .v (.int .i64 (IntKind.i64.wrap (0 - (Nt.p2i W.f))))) (.v (.int .i64 (-(Nt.p2i W.f)))) (eqI (by rw [IntWalk.i64_in _ (by omega)]; omega)) ?_
 refine zza 36 (.v (.bool (decide (g ≤ (-(Nt.p2i W.f)))))) ?_
 refine zyp 37 (x := .v (.bool (decide (g ≤ (-(Nt.p2i W.f)))))) (.v (.bool false)) (by rw [show (decide (g ≤ (-(Nt.p2i W.f)))) = false from decide_eq_false (by omega)]) ?_
 refine zza 38 (.v (.int .i64 g)) ?_ (hw := w1 4 false 37)
 refine zza 39 (.v (.int .i64 (Nt.p2i W.f))) ?_ (hw := w1 4 false 37)
 refine zza 40 (.v (.bool (decide ((Nt.p2i W.f) ≤ g)))) ?_ (hw := w1 4 false 37)
 refine zza 41 (.v (.bool (decide ((Nt.p2i W.f) ≤ g)))) ?_
 refine zzb 54 [(3, .adr 3 0), (5, .v (.int .i64 (Nt.p2i W.f))), (7, .v (.int .i64 g)), (29, .v (.agg #[.int .i64 g, .int .i64 0])), (30, .v (.int .i64 0)), (41, .v (.bool (decide ((Nt.p2i W.f) ≤ g))))] [(3, ⟨51, [.int .i64 W.b, .int .i64 W.f, .int .i64 W.r, .int .i64 W.o]⟩)] ?_
 refine zzt (b := decide ((Nt.p2i W.f) ≤ g)) (by kernel_rfl) (fun hb => ?_) (fun hb => ?_)
 ·exact absurd hb (by rw [show (decide ((Nt.p2i W.f) ≤ g)) = false from decide_eq_false (by omega)]; decide)
 ·clear hb
  refine zzr (zzo ?_)
  refine sq9 ?_
  refine zzh 42 (.v (.agg #[.int .i64 W.b, .int .i64 W.f, .int .i64 W.r, .int .i64 W.o])) ty51 zzd ?_
  refine zza 43 (.v (.int .i64 g)) ?_
  refine zzf 44 134 [.agg #[.int .i64 W.b, .int .i64 W.f, .int .i64 W.r, .int .i64 W.o], .int .i64 g] ?_
  intro w12 u12 e12 d12
  have k15 := k_fxFits (W := W) (z := g) d12 hW (by omega) (by omega)
  with_reducible refine Post.mono k15 ?_
  rintro _ u13 g14 rfl
  refine zza 45 (.v (.bool false)) ?_
  refine zza 46 (.v (.bool false)) ?_
  refine zzh 47 (.v (.agg #[.int .i64 W.b, .int .i64 W.f, .int .i64 W.r, .int .i64 W.o])) ty51 zzd ?_ (hw := w1 4 false 46)
  refine zza 48 (.v (.int .i64 g)) ?_ (hw := w1 4 false 46)
  refine zyp 49 (x := .v (.int .i64 (IntKind.i64.wrap (0 - g)))) (.v (.int .i64 (-g))) (eqI (by rw [IntWalk.i64_in _ (by omega)]; omega)) ?_ (hw := w1 4 false 46)
  refine zzf 50 134 [.agg #[.int .i64 W.b, .int .i64 W.f, .int .i64 W.r, .int .i64 W.o], .int .i64 (-g)] ?_ (hw := w1 4 false 46)
  intro w16 u16 e16 d16
  have k19 := k_fxFits (W := W) (z := -g) d16 hW (by omega) (by omega)
  with_reducible refine Post.mono k19 ?_
  rintro _ u17 g18 rfl
  refine zza 51 (.v (.bool false)) ?_ (hw := w1 4 false 46)
  refine zza 52 (.v (.bool false)) ?_
  refine zzb 54 [(3, .adr 3 0), (5, .v (.int .i64 (Nt.p2i W.f))), (29, .v (.agg #[.int .i64 g, .int .i64 0])), (30, .v (.int .i64 0)), (52, .v (.bool false))] [(3, ⟨51, [.int .i64 W.b, .int .i64 W.f, .int .i64 W.r, .int .i64 W.o]⟩)] ?_
  refine zyr (by kernel_rfl) ?_
  refine zzr (zzo ?_)
  refine zze ?_
  refine zza 53 (.v (.int .i64 1)) ?_
  refine zza 30 (.v (.int .i64 1)) ?_
  refine zzw ?_
  refine rn_next ?_
  refine sw_weak (T := St.of 54 [(3, .adr 3 0), (5, .v (.int .i64 (Nt.p2i W.f))), (29, .v (.agg #[.int .i64 g, .int .i64 0])), (30, .v (.int .i64 1))] [(3, ⟨51, [.int .i64 W.b, .int .i64 W.f, .int .i64 W.r, .int .i64 W.o]⟩)]) (by exact zzu _ _ _) ?_
  refine sq9 ?_
  refine zza 31 (.v (.bool true)) ?_
  refine zzb 54 [(3, .adr 3 0), (5, .v (.int .i64 (Nt.p2i W.f))), (29, .v (.agg #[.int .i64 g, .int .i64 0])), (30, .v (.int .i64 1)), (31, .v (.bool true))] [(3, ⟨51, [.int .i64 W.b, .int .i64 W.f, .int .i64 W.r, .int .i64 W.o]⟩)] ?_
  refine zzc ?_
  refine zyq (by kernel_rfl) ?_
  refine zzr (zzo ?_)
  refine zzc ?_
  refine zzs ?_
  refine sq9 ?_
  refine zza 32 (.v (.int .i64 0)) ?_
  refine zza 7 (.v (.int .i64 0)) ?_
  refine zzb 54 [(3, .adr 3 0), (5, .v (.int .i64 (Nt.p2i W.f))), (7, .v (.int .i64 0)), (29, .v (.agg #[.int .i64 g, .int .i64 0])), (30, .v (.int .i64 1))] [(3, ⟨51, [.int .i64 W.b, .int .i64 W.f, .int .i64 W.r, .int .i64 W.o]⟩)] ?_
  refine zzc ?_
  refine sq9 ?_
  refine zza 33 (.v (.int .i64 0)) ?_
  refine zza 34 (.v (.int .i64 (Nt.p2i W.f))) ?_
  refine zyp 35 (x := .v (.int .i64 (IntKind.i64.wrap (0 - (Nt.p2i W.f))))) (.v (.int .i64 (-(Nt.p2i W.f)))) (eqI (by rw [IntWalk.i64_in _ (by omega)]; omega)) ?_
  refine zza 36 (.v (.bool (decide ((0 : Int) ≤ (-(Nt.p2i W.f)))))) ?_
  refine zyp 37 (x := .v (.bool (decide ((0 : Int) ≤ (-(Nt.p2i W.f)))))) (.v (.bool false)) (by rw [show (decide ((0 : Int) ≤ (-(Nt.p2i W.f)))) = false from decide_eq_false (by omega)]) ?_
  refine zza 38 (.v (.int .i64 0)) ?_ (hw := w1 4 false 37)
  refine zza 39 (.v (.int .i64 (Nt.p2i W.f))) ?_ (hw := w1 4 false 37)
  refine zza 40 (.v (.bool (decide ((Nt.p2i W.f) ≤ 0)))) ?_ (hw := w1 4 false 37)
  refine zza 41 (.v (.bool (decide ((Nt.p2i W.f) ≤ 0)))) ?_
  refine zzb 54 [(3, .adr 3 0), (5, .v (.int .i64 (Nt.p2i W.f))), (7, .v (.int .i64 0)), (29, .v (.agg #[.int .i64 g, .int .i64 0])), (30, .v (.int .i64 1)), (41, .v (.bool (decide ((Nt.p2i W.f) ≤ 0))))] [(3, ⟨51, [.int .i64 W.b, .int .i64 W.f, .int .i64 W.r, .int .i64 W.o]⟩)] ?_
  refine zzt (b := decide ((Nt.p2i W.f) ≤ 0)) (by kernel_rfl) (fun hb => ?_) (fun hb => ?_)
  ·exact absurd hb (by rw [show (decide ((Nt.p2i W.f) ≤ 0)) = false from decide_eq_false (by omega)]; decide)
  ·clear hb
   refine zzr (zzo ?_)
   refine sq9 ?_
   refine zzh 42 (.v (.agg #[.int .i64 W.b, .int .i64 W.f, .int .i64 W.r, .int .i64 W.o])) ty51 zzd ?_
   refine zza 43 (.v (.int .i64 0)) ?_
   refine zzf 44 134 [.agg #[.int .i64 W.b, .int .i64 W.f, .int .i64 W.r, .int .i64 W.o], .int .i64 0] ?_
   intro w21 u21 e21 d21
   have k24 := k_fxFits (W := W) (z := 0) d21 hW (by omega) (by omega)
   with_reducible refine Post.mono k24 ?_
   rintro _ u22 g23 rfl
   refine zza 45 (.v (.bool false)) ?_
   refine zza 46 (.v (.bool false)) ?_
   refine zzh 47 (.v (.agg #[.int .i64 W.b, .int .i64 W.f, .int .i64 W.r, .int .i64 W.o])) ty51 zzd ?_ (hw := w1 4 false 46)
   refine zza 48 (.v (.int .i64 0)) ?_ (hw := w1 4 false 46)
   refine zza 49 (.v (.int .i64 0)) ?_ (hw := w1 4 false 46)
   refine zzf 50 134 [.agg #[.int .i64 W.b, .int .i64 W.f, .int .i64 W.r, .int .i64 W.o], .int .i64 0] ?_ (hw := w1 4 false 46)
   intro w25 u25 e25 d25
   have k28 := k_fxFits (W := W) (z := 0) d25 hW (by omega) (by omega)
   with_reducible refine Post.mono k28 ?_
   rintro _ u26 g27 rfl
   refine zza 51 (.v (.bool false)) ?_ (hw := w1 4 false 46)
   refine zza 52 (.v (.bool false)) ?_
   refine zzb 54 [(3, .adr 3 0), (5, .v (.int .i64 (Nt.p2i W.f))), (29, .v (.agg #[.int .i64 g, .int .i64 0])), (30, .v (.int .i64 1)), (52, .v (.bool false))] [(3, ⟨51, [.int .i64 W.b, .int .i64 W.f, .int .i64 W.r, .int .i64 W.o]⟩)] ?_
   refine zyr (by kernel_rfl) ?_
   refine zzr (zzo ?_)
   refine zze ?_
   refine zza 53 (.v (.int .i64 2)) ?_
   refine zza 30 (.v (.int .i64 2)) ?_
   refine zzw ?_
   refine rn_next ?_
   refine sw_weak (T := St.of 54 [(3, .adr 3 0), (5, .v (.int .i64 (Nt.p2i W.f))), (29, .v (.agg #[.int .i64 g, .int .i64 0])), (30, .v (.int .i64 2))] [(3, ⟨51, [.int .i64 W.b, .int .i64 W.f, .int .i64 W.r, .int .i64 W.o]⟩)]) (by exact zzu _ _ _) ?_
   refine sq9 ?_
   refine zza 31 (.v (.bool false)) ?_
   refine zzb 54 [(3, .adr 3 0), (5, .v (.int .i64 (Nt.p2i W.f))), (29, .v (.agg #[.int .i64 g, .int .i64 0])), (30, .v (.int .i64 2)), (31, .v (.bool false))] [(3, ⟨51, [.int .i64 W.b, .int .i64 W.f, .int .i64 W.r, .int .i64 W.o]⟩)] ?_
   refine zzc ?_
   refine zyr (by kernel_rfl) ?_
   refine zyb ?_
   refine zzo ?_
   refine sq9 ?_
   refine zza 4 (.v (.bool true)) ?_
   refine zzb 54 [(4, .v (.bool true))] [] ?_
   refine zzn (ret0 [.bool true] ⟨zzp, trivial⟩ fun u29 e30 => ?_)
   rfl
set_option maxHeartbeats 1000000 in
theorem k_permitted2 {u w : World} {W : WL} {g h : Int} (hg0 : -Nt.p2i W.f < g) (hg1 : g < Nt.p2i W.f) (hh0 : -Nt.p2i W.f < h) (hh1 : h < Nt.p2i W.f) (d : Dat u w) (hW : WdOK W) : Calls Tryz.prog 72 #[(⟨2, g, h⟩ : PL).v, W.v] w (Post u w fun v _ => v = .bool true) := by
 obtain ⟨hw1, hw2, hw3, hw4, hw5, hw6, hw7, hw8⟩ := id hW
 have hu0 := Nt.p2i_pos W.f
 have hu1 := Nt.p2i_24 (n := W.f) (by omega)
 have hu2 := Nt.p2i_mono (a := W.f) (b := W.b - 1) (by omega)
 have hu3 := Nt.p2i_24 (n := W.b - 1) (by omega)
 refine zzl (args := [.agg #[.int .i64 2, .int .i64 g, .int .i64 h], .agg #[.int .i64 W.b, .int .i64 W.f, .int .i64 W.r, .int .i64 W.o]]) Tryz.func72 rfl Tryz.ntmps72 (rs := [.tmp 4]) Tryz.results72 (le_b rfl) (le_b rfl) d ?_
 refine sq9 ?_
 refine zzj 2 ⟨65, [.int .i64 2, .int .i64 g, .int .i64 h]⟩ ?_
 refine zzj 3 ⟨51, [.int .i64 W.b, .int .i64 W.f, .int .i64 W.r, .int .i64 W.o]⟩ ?_
 refine zza 4 (.v (.bool false)) ?_
 refine zzb 54 [(2, .adr 2 0), (3, .adr 3 0)] [(2, ⟨65, [.int .i64 2, .int .i64 g, .int .i64 h]⟩), (3, ⟨51, [.int .i64 W.b, .int .i64 W.f, .int .i64 W.r, .int .i64 W.o]⟩)] ?_
 refine zzc ?_
 refine sq9 ?_
 refine zza 8 (.adr 2 0) ?_
 refine zzh 9 (.v (.int .i64 2)) ty3 zzk ?_
 refine zza 10 (.v (.bool true)) ?_
 refine zza 11 (.v (.bool true)) ?_
 refine zza 12 (.adr 2 0) ?_ (hw := w1 3 true 11)
 refine zzh 13 (.v (.int .i64 2)) ty3 zzk ?_ (hw := w1 3 true 11)
 refine zza 14 (.v (.bool false)) ?_ (hw := w1 3 true 11)
 refine zza 15 (.v (.bool false)) ?_
 refine zzb 54 [(2, .adr 2 0), (3, .adr 3 0), (15, .v (.bool false))] [(2, ⟨65, [.int .i64 2, .int .i64 g, .int .i64 h]⟩), (3, ⟨51, [.int .i64 W.b, .int .i64 W.f, .int .i64 W.r, .int .i64 W.o]⟩)] ?_
 refine zyr (by kernel_rfl) ?_
 refine zzr (zzo ?_)
 refine zzc ?_
 refine sq9 ?_
 refine zza 16 (.adr 2 0) ?_
 refine zzh 17 (.v (.int .i64 2)) ty3 zzk ?_
 refine zza 18 (.v (.bool false)) ?_
 refine zza 19 (.v (.bool false)) ?_
 refine zzm 20 (uw 3 true false 19) ?_
 refine zzm 21 (uw 3 true false 19) ?_
 refine zzm 22 (uw 3 true false 19) ?_
 refine zzm 23 (uw 3 true false 19) ?_
 refine zza 24 (.v (.bool false)) ?_
 refine zzb 54 [(2, .adr 2 0), (3, .adr 3 0), (24, .v (.bool false))] [(2, ⟨65, [.int .i64 2, .int .i64 g, .int .i64 h]⟩), (3, ⟨51, [.int .i64 W.b, .int .i64 W.f, .int .i64 W.r, .int .i64 W.o]⟩)] ?_
 refine zyr (by kernel_rfl) ?_
 refine zzr (zzo ?_)
 refine sq9 ?_
 refine zza 25 (.adr 3 1) ?_
 refine zzh 26 (.v (.int .i64 W.f)) ty3 zzk ?_
 refine sy_shl 27 (k := .i64) (s := W.f) (Nt.p2i W.f) (by omega) (by show _ ≤ (64 : Int); omega) (shl_one (by omega) (by omega)) ?_
 refine zza 5 (.v (.int .i64 (Nt.p2i W.f))) ?_
 refine zzb 54 [(2, .adr 2 0), (3, .adr 3 0), (5, .v (.int .i64 (Nt.p2i W.f)))] [(2, ⟨65, [.int .i64 2, .int .i64 g, .int .i64 h]⟩), (3, ⟨51, [.int .i64 W.b, .int .i64 W.f, .int .i64 W.r, .int .i64 W.o]⟩)] ?_
 refine zzc ?_
 refine sq9 ?_
 refine zza 28 (.adr 2 1) ?_
 refine zzh 29 (.v (.agg #[.int .i64 g, .int .i64 h])) ty63 zzd ?_
 refine zza 30 (.v (.int .i64 0)) ?_
 refine zzb 54 [(3, .adr 3 0), (5, .v (.int .i64 (Nt.p2i W.f))), (29, .v (.agg #[.int .i64 g, .int .i64 h])), (30, .v (.int .i64 0))] [(3, ⟨51, [.int .i64 W.b, .int .i64 W.f, .int .i64 W.r, .int .i64 W.o]⟩)] ?_
 refine zzs ?_
 refine sw_rounds 2 ?_
 refine sq9 ?_
 refine zza 31 (.v (.bool true)) ?_
 refine zzb 54 [(3, .adr 3 0), (5, .v (.int .i64 (Nt.p2i W.f))), (29, .v (.agg #[.int .i64 g, .int .i64 h])), (30, .v (.int .i64 0)), (31, .v (.bool true))] [(3, ⟨51, [.int .i64 W.b, .int .i64 W.f, .int .i64 W.r, .int .i64 W.o]⟩)] ?_
 refine zzc ?_
 refine zyq (by kernel_rfl) ?_
 refine zzr (zzo ?_)
 refine zzc ?_
 refine zzs ?_
 refine sq9 ?_
 refine zza 32 (.v (.int .i64 g)) ?_
 refine zza 7 (.v (.int .i64 g)) ?_
 refine zzb 54 [(3, .adr 3 0), (5, .v (.int .i64 (Nt.p2i W.f))), (7, .v (.int .i64 g)), (29, .v (.agg #[.int .i64 g, .int .i64 h])), (30, .v (.int .i64 0))] [(3, ⟨51, [.int .i64 W.b, .int .i64 W.f, .int .i64 W.r, .int .i64 W.o]⟩)] ?_
 refine zzc ?_
 refine sq9 ?_
 refine zza 33 (.v (.int .i64 g)) ?_
 refine zza 34 (.v (.int .i64 (Nt.p2i W.f))) ?_
 refine zyp 35 (x := .v (.int .i64 (IntKind.i64.wrap (0 - (Nt.p2i W.f))))) (.v (.int .i64 (-(Nt.p2i W.f)))) (eqI (by rw [IntWalk.i64_in _ (by omega)]; omega)) ?_
 refine zza 36 (.v (.bool (decide (g ≤ (-(Nt.p2i W.f)))))) ?_
 refine zyp 37 (x := .v (.bool (decide (g ≤ (-(Nt.p2i W.f)))))) (.v (.bool false)) (by rw [show (decide (g ≤ (-(Nt.p2i W.f)))) = false from decide_eq_false (by omega)]) ?_
 refine zza 38 (.v (.int .i64 g)) ?_ (hw := w1 4 false 37)
 refine zza 39 (.v (.int .i64 (Nt.p2i W.f))) ?_ (hw := w1 4 false 37)
 refine zza 40 (.v (.bool (decide ((Nt.p2i W.f) ≤ g)))) ?_ (hw := w1 4 false 37)
 refine zza 41 (.v (.bool (decide ((Nt.p2i W.f) ≤ g)))) ?_
 refine zzb 54 [(3, .adr 3 0), (5, .v (.int .i64 (Nt.p2i W.f))), (7, .v (.int .i64 g)), (29, .v (.agg #[.int .i64 g, .int .i64 h])), (30, .v (.int .i64 0)), (41, .v (.bool (decide ((Nt.p2i W.f) ≤ g))))] [(3, ⟨51, [.int .i64 W.b, .int .i64 W.f, .int .i64 W.r, .int .i64 W.o]⟩)] ?_
 refine zzt (b := decide ((Nt.p2i W.f) ≤ g)) (by kernel_rfl) (fun hb => ?_) (fun hb => ?_)
 ·exact absurd hb (by rw [show (decide ((Nt.p2i W.f) ≤ g)) = false from decide_eq_false (by omega)]; decide)
 ·clear hb
  refine zzr (zzo ?_)
  refine sq9 ?_
  refine zzh 42 (.v (.agg #[.int .i64 W.b, .int .i64 W.f, .int .i64 W.r, .int .i64 W.o])) ty51 zzd ?_
  refine zza 43 (.v (.int .i64 g)) ?_
  refine zzf 44 134 [.agg #[.int .i64 W.b, .int .i64 W.f, .int .i64 W.r, .int .i64 W.o], .int .i64 g] ?_
  intro w12 u12 e12 d12
  have k15 := k_fxFits (W := W) (z := g) d12 hW (by omega) (by omega)
  with_reducible refine Post.mono k15 ?_
  rintro _ u13 g14 rfl
  refine zza 45 (.v (.bool false)) ?_
  refine zza 46 (.v (.bool false)) ?_
  refine zzh 47 (.v (.agg #[.int .i64 W.b, .int .i64 W.f, .int .i64 W.r, .int .i64 W.o])) ty51 zzd ?_ (hw := w1 4 false 46)
  refine zza 48 (.v (.int .i64 g)) ?_ (hw := w1 4 false 46)
  refine zyp 49 (x := .v (.int .i64 (IntKind.i64.wrap (0 - g)))) (.v (.int .i64 (-g))) (eqI (by rw [IntWalk.i64_in _ (by omega)]; omega)) ?_ (hw := w1 4 false 46)
  refine zzf 50 134 [.agg #[.int .i64 W.b, .int .i64 W.f, .int .i64 W.r, .int .i64 W.o], .int .i64 (-g)] ?_ (hw := w1 4 false 46)
  intro w16 u16 e16 d16
  have k19 := k_fxFits (W := W) (z := -g) d16 hW (by omega) (by omega)
  with_reducible refine Post.mono k19 ?_
  rintro _ u17 g18 rfl
  refine zza 51 (.v (.bool false)) ?_ (hw := w1 4 false 46)
  refine zza 52 (.v (.bool false)) ?_
  refine zzb 54 [(3, .adr 3 0), (5, .v (.int .i64 (Nt.p2i W.f))), (29, .v (.agg #[.int .i64 g, .int .i64 h])), (30, .v (.int .i64 0)), (52, .v (.bool false))] [(3, ⟨51, [.int .i64 W.b, .int .i64 W.f, .int .i64 W.r, .int .i64 W.o]⟩)] ?_
  refine zyr (by kernel_rfl) ?_
  refine zzr (zzo ?_)
  refine zze ?_
  refine zza 53 (.v (.int .i64 1)) ?_
  refine zza 30 (.v (.int .i64 1)) ?_
  refine zzw ?_
  refine rn_next ?_
  refine sw_weak (T := St.of 54 [(3, .adr 3 0), (5, .v (.int .i64 (Nt.p2i W.f))), (29, .v (.agg #[.int .i64 g, .int .i64 h])), (30, .v (.int .i64 1))] [(3, ⟨51, [.int .i64 W.b, .int .i64 W.f, .int .i64 W.r, .int .i64 W.o]⟩)]) (by exact zzu _ _ _) ?_
  refine sq9 ?_
  refine zza 31 (.v (.bool true)) ?_
  refine zzb 54 [(3, .adr 3 0), (5, .v (.int .i64 (Nt.p2i W.f))), (29, .v (.agg #[.int .i64 g, .int .i64 h])), (30, .v (.int .i64 1)), (31, .v (.bool true))] [(3, ⟨51, [.int .i64 W.b, .int .i64 W.f, .int .i64 W.r, .int .i64 W.o]⟩)] ?_
  refine zzc ?_
  refine zyq (by kernel_rfl) ?_
  refine zzr (zzo ?_)
  refine zzc ?_
  refine zzs ?_
  refine sq9 ?_
  refine zza 32 (.v (.int .i64 h)) ?_
  refine zza 7 (.v (.int .i64 h)) ?_
  refine zzb 54 [(3, .adr 3 0), (5, .v (.int .i64 (Nt.p2i W.f))), (7, .v (.int .i64 h)), (29, .v (.agg #[.int .i64 g, .int .i64 h])), (30, .v (.int .i64 1))] [(3, ⟨51, [.int .i64 W.b, .int .i64 W.f, .int .i64 W.r, .int .i64 W.o]⟩)] ?_
  refine zzc ?_
  refine sq9 ?_
  refine zza 33 (.v (.int .i64 h)) ?_
  refine zza 34 (.v (.int .i64 (Nt.p2i W.f))) ?_
  refine zyp 35 (x := .v (.int .i64 (IntKind.i64.wrap (0 - (Nt.p2i W.f))))) (.v (.int .i64 (-(Nt.p2i W.f)))) (eqI (by rw [IntWalk.i64_in _ (by omega)]; omega)) ?_
  refine zza 36 (.v (.bool (decide (h ≤ (-(Nt.p2i W.f)))))) ?_
  refine zyp 37 (x := .v (.bool (decide (h ≤ (-(Nt.p2i W.f)))))) (.v (.bool false)) (by rw [show (decide (h ≤ (-(Nt.p2i W.f)))) = false from decide_eq_false (by omega)]) ?_
  refine zza 38 (.v (.int .i64 h)) ?_ (hw := w1 4 false 37)
  refine zza 39 (.v (.int .i64 (Nt.p2i W.f))) ?_ (hw := w1 4 false 37)
  refine zza 40 (.v (.bool (decide ((Nt.p2i W.f) ≤ h)))) ?_ (hw := w1 4 false 37)
  refine zza 41 (.v (.bool (decide ((Nt.p2i W.f) ≤ h)))) ?_
  refine zzb 54 [(3, .adr 3 0), (5, .v (.int .i64 (Nt.p2i W.f))), (7, .v (.int .i64 h)), (29, .v (.agg #[.int .i64 g, .int .i64 h])), (30, .v (.int .i64 1)), (41, .v (.bool (decide ((Nt.p2i W.f) ≤ h))))] [(3, ⟨51, [.int .i64 W.b, .int .i64 W.f, .int .i64 W.r, .int .i64 W.o]⟩)] ?_
  refine zzt (b := decide ((Nt.p2i W.f) ≤ h)) (by kernel_rfl) (fun hb => ?_) (fun hb => ?_)
  ·exact absurd hb (by rw [show (decide ((Nt.p2i W.f) ≤ h)) = false from decide_eq_false (by omega)]; decide)
  ·clear hb
   refine zzr (zzo ?_)
   refine sq9 ?_
   refine zzh 42 (.v (.agg #[.int .i64 W.b, .int .i64 W.f, .int .i64 W.r, .int .i64 W.o])) ty51 zzd ?_
   refine zza 43 (.v (.int .i64 h)) ?_
   refine zzf 44 134 [.agg #[.int .i64 W.b, .int .i64 W.f, .int .i64 W.r, .int .i64 W.o], .int .i64 h] ?_
   intro w21 u21 e21 d21
   have k24 := k_fxFits (W := W) (z := h) d21 hW (by omega) (by omega)
   with_reducible refine Post.mono k24 ?_
   rintro _ u22 g23 rfl
   refine zza 45 (.v (.bool false)) ?_
   refine zza 46 (.v (.bool false)) ?_
   refine zzh 47 (.v (.agg #[.int .i64 W.b, .int .i64 W.f, .int .i64 W.r, .int .i64 W.o])) ty51 zzd ?_ (hw := w1 4 false 46)
   refine zza 48 (.v (.int .i64 h)) ?_ (hw := w1 4 false 46)
   refine zyp 49 (x := .v (.int .i64 (IntKind.i64.wrap (0 - h)))) (.v (.int .i64 (-h))) (eqI (by rw [IntWalk.i64_in _ (by omega)]; omega)) ?_ (hw := w1 4 false 46)
   refine zzf 50 134 [.agg #[.int .i64 W.b, .int .i64 W.f, .int .i64 W.r, .int .i64 W.o], .int .i64 (-h)] ?_ (hw := w1 4 false 46)
   intro w25 u25 e25 d25
   have k28 := k_fxFits (W := W) (z := -h) d25 hW (by omega) (by omega)
   with_reducible refine Post.mono k28 ?_
   rintro _ u26 g27 rfl
   refine zza 51 (.v (.bool false)) ?_ (hw := w1 4 false 46)
   refine zza 52 (.v (.bool false)) ?_
   refine zzb 54 [(3, .adr 3 0), (5, .v (.int .i64 (Nt.p2i W.f))), (29, .v (.agg #[.int .i64 g, .int .i64 h])), (30, .v (.int .i64 1)), (52, .v (.bool false))] [(3, ⟨51, [.int .i64 W.b, .int .i64 W.f, .int .i64 W.r, .int .i64 W.o]⟩)] ?_
   refine zyr (by kernel_rfl) ?_
   refine zzr (zzo ?_)
   refine zze ?_
   refine zza 53 (.v (.int .i64 2)) ?_
   refine zza 30 (.v (.int .i64 2)) ?_
   refine zzw ?_
   refine rn_next ?_
   refine sw_weak (T := St.of 54 [(3, .adr 3 0), (5, .v (.int .i64 (Nt.p2i W.f))), (29, .v (.agg #[.int .i64 g, .int .i64 h])), (30, .v (.int .i64 2))] [(3, ⟨51, [.int .i64 W.b, .int .i64 W.f, .int .i64 W.r, .int .i64 W.o]⟩)]) (by exact zzu _ _ _) ?_
   refine sq9 ?_
   refine zza 31 (.v (.bool false)) ?_
   refine zzb 54 [(3, .adr 3 0), (5, .v (.int .i64 (Nt.p2i W.f))), (29, .v (.agg #[.int .i64 g, .int .i64 h])), (30, .v (.int .i64 2)), (31, .v (.bool false))] [(3, ⟨51, [.int .i64 W.b, .int .i64 W.f, .int .i64 W.r, .int .i64 W.o]⟩)] ?_
   refine zzc ?_
   refine zyr (by kernel_rfl) ?_
   refine zyb ?_
   refine zzo ?_
   refine sq9 ?_
   refine zza 4 (.v (.bool true)) ?_
   refine zzb 54 [(4, .v (.bool true))] [] ?_
   refine zzn (ret0 [.bool true] ⟨zzp, trivial⟩ fun u29 e30 => ?_)
   rfl
theorem pas_split {f : Int} {p : PL} (h : PasOK f p) : (∃ g, p = ⟨1, g, 0⟩ ∧ -Nt.p2i f < g ∧ g < Nt.p2i f) ∨ (∃ g h, p = ⟨2, g, h⟩ ∧ -Nt.p2i f < g ∧ g < Nt.p2i f ∧ -Nt.p2i f < h ∧ h < Nt.p2i f) := by
 obtain ⟨o, g, h'⟩ := p
 obtain ⟨h1, h2, h3, h4, h5⟩ := h
 rcases h1 with ⟨h6, h7⟩ | h6
 ·have h6 : o = 1 := h6
  have h7 : h' = 0 := h7
  subst h6 h7
  exact .inl ⟨g, rfl, h2, h3⟩
 ·have h6 : o = 2 := h6
  subst h6
  exact .inr ⟨g, h', rfl, h2, h3, h4, h5⟩
theorem k_permitted {u w : World} {W : WL} {p : PL} (d : Dat u w) (hW : WdOK W) (hp : PasOK W.f p) : Calls Tryz.prog 72 #[p.v, W.v] w (Post u w fun v _ => v = .bool true) := by
 rcases pas_split hp with ⟨g, rfl, h1, h2⟩ | ⟨g, h, rfl, h1, h2, h3, h4⟩
 ·exact k_permitted1 h1 h2 d hW
 ·exact k_permitted2 h1 h2 h3 h4 d hW
set_option maxHeartbeats 1000000 in
theorem k_section1 {u w : World} {W : WL} {g : Int} (hg0 : -Nt.p2i W.f < g) (hg1 : g < Nt.p2i W.f) (d : Dat u w) (hW : WdOK W) : Calls Tryz.prog 73 #[(⟨1, g, 0⟩ : PL).v, W.v] w (Post u w fun v u' => ∃ y z : Sl, v = .agg #[y.v, z.v] ∧ PolN u' y (Nt.trimQ (Nt.secB W.f (⟨1, g, 0⟩ : PL))) 10 ∧ PolN u' z (Nt.trimQ (Nt.secA W.f (⟨1, g, 0⟩ : PL))) 10) := by
 obtain ⟨hw1, hw2, hw3, hw4, hw5, hw6, hw7, hw8⟩ := id hW
 have hu0 := Nt.p2i_pos W.f
 have hu1 := Nt.p2i_24 (n := W.f) (by omega)
 have hu2 := Nt.p2i_mono (a := W.f) (b := W.b - 1) (by omega)
 have hu3 := Nt.p2i_24 (n := W.b - 1) (by omega)
 refine zzl (args := [.agg #[.int .i64 1, .int .i64 g, .int .i64 0], .agg #[.int .i64 W.b, .int .i64 W.f, .int .i64 W.r, .int .i64 W.o]]) Tryz.func73 rfl Tryz.ntmps73 (rs := [.cell 4 54]) Tryz.results73 (le_b rfl) (le_b rfl) d ?_
 refine sq9 ?_
 refine zzj 2 ⟨65, [.int .i64 1, .int .i64 g, .int .i64 0]⟩ ?_
 refine zzj 3 ⟨51, [.int .i64 W.b, .int .i64 W.f, .int .i64 W.r, .int .i64 W.o]⟩ ?_
 refine zzj 4 ⟨54, [.slice none 0 0, .slice none 0 0]⟩ ?_
 refine zzb 51 [(2, .adr 2 0), (3, .adr 3 0), (4, .adr 4 0)] [(2, ⟨65, [.int .i64 1, .int .i64 g, .int .i64 0]⟩), (3, ⟨51, [.int .i64 W.b, .int .i64 W.f, .int .i64 W.r, .int .i64 W.o]⟩), (4, ⟨54, [.slice none 0 0, .slice none 0 0]⟩)] ?_
 refine sq9 ?_
 refine zzf 10 48 [.int .i64 1] ?_
 intro w11 u11 e11 d11
 have k16 := k_ratOf d11 (z := 1) (by omega) (by omega)
 with_reducible refine Post.mono k16 ?_
 rintro _ u14 g15 ⟨r12, rfl, h13⟩
 refine zzj 5 ⟨29, [.bool false, .slice none 0 0, .slice none 0 0]⟩ ?_
 refine zzi ⟨29, r12.cs⟩ ty29 ?_
 refine zzb 51 [(2, .adr 2 0), (3, .adr 3 0), (4, .adr 4 0), (5, .adr 5 0)] [(2, ⟨65, [.int .i64 1, .int .i64 g, .int .i64 0]⟩), (3, ⟨51, [.int .i64 W.b, .int .i64 W.f, .int .i64 W.r, .int .i64 W.o]⟩), (4, ⟨54, [.slice none 0 0, .slice none 0 0]⟩), (5, ⟨29, r12.cs⟩)] ?_
 refine sq9 ?_
 refine zzh 11 (.v (.agg #[.int .i64 W.b, .int .i64 W.f, .int .i64 W.r, .int .i64 W.o])) ty51 zzd ?_
 refine zza 12 (.adr 2 1) ?_
 refine zza 13 (.adr 2 1) ?_
 refine zzh 14 (.v (.int .i64 g)) ty3 zzk ?_
 refine zzf 15 102 [.agg #[.int .i64 W.b, .int .i64 W.f, .int .i64 W.r, .int .i64 W.o], .int .i64 g] ?_
 intro w17 u17 e17 d17
 have k22 := k_fxValue (W := W) (z := g) d17 hW (by omega) (by omega)
 with_reducible refine Post.mono k22 ?_
 rintro _ u20 g21 ⟨r18, rfl, h19⟩
 refine zzj 6 ⟨29, [.bool false, .slice none 0 0, .slice none 0 0]⟩ ?_
 refine zzi ⟨29, r18.cs⟩ ty29 ?_
 refine zzb 51 [(2, .adr 2 0), (3, .adr 3 0), (4, .adr 4 0), (5, .adr 5 0), (6, .adr 6 0)] [(2, ⟨65, [.int .i64 1, .int .i64 g, .int .i64 0]⟩), (3, ⟨51, [.int .i64 W.b, .int .i64 W.f, .int .i64 W.r, .int .i64 W.o]⟩), (4, ⟨54, [.slice none 0 0, .slice none 0 0]⟩), (5, ⟨29, r12.cs⟩), (6, ⟨29, r18.cs⟩)] ?_
 refine sq9 ?_
 refine zzh 16 (.v (r18.v)) ty29 zzd ?_
 refine zzf 17 118 [r18.v] ?_
 intro w23 u23 e23 d23
 have k28 := k_ratNeg d23 (h19.ext e23).raw (by omega)
 with_reducible refine Post.mono k28 ?_
 rintro _ u26 g27 ⟨r24, rfl, h25⟩
 refine zzj 7 ⟨29, [.bool false, .slice none 0 0, .slice none 0 0]⟩ ?_
 refine zzi ⟨29, r24.cs⟩ ty29 ?_
 refine zzb 51 [(2, .adr 2 0), (3, .adr 3 0), (4, .adr 4 0), (5, .adr 5 0), (6, .adr 6 0), (7, .adr 7 0)] [(2, ⟨65, [.int .i64 1, .int .i64 g, .int .i64 0]⟩), (3, ⟨51, [.int .i64 W.b, .int .i64 W.f, .int .i64 W.r, .int .i64 W.o]⟩), (4, ⟨54, [.slice none 0 0, .slice none 0 0]⟩), (5, ⟨29, r12.cs⟩), (6, ⟨29, r18.cs⟩), (7, ⟨29, r24.cs⟩)] ?_
 refine zzc ?_
 refine sq9 ?_
 refine zza 18 (.adr 2 0) ?_
 refine zzh 19 (.v (.int .i64 1)) ty3 zzk ?_
 refine zza 20 (.v (.bool true)) ?_
 refine zzb 51 [(2, .adr 2 0), (3, .adr 3 0), (4, .adr 4 0), (5, .adr 5 0), (6, .adr 6 0), (7, .adr 7 0), (20, .v (.bool true))] [(2, ⟨65, [.int .i64 1, .int .i64 g, .int .i64 0]⟩), (3, ⟨51, [.int .i64 W.b, .int .i64 W.f, .int .i64 W.r, .int .i64 W.o]⟩), (4, ⟨54, [.slice none 0 0, .slice none 0 0]⟩), (5, ⟨29, r12.cs⟩), (6, ⟨29, r18.cs⟩), (7, ⟨29, r24.cs⟩)] ?_
 refine zyq (by kernel_rfl) ?_
 refine zzc ?_
 refine zzy [0, 0, 3, 7, 0, 0, 48, 127, 255, 511] [(0, []), (1, []), (2, []), (4, []), (5, []), (6, []), (3, [23]), (7, [27]), (8, []), (9, [])] (by kernel_rfl) (by kernel_rfl) ?_
 refine zzh 21 (.v (r24.v)) ty29 zzd ?_
 refine zzh 22 (.v (r12.v)) ty29 zzd ?_
 refine sy_lit 23 ⟨29, r24.cs ++ r12.cs⟩ 2 ?_
 refine zzh 25 (.v (r12.v)) ty29 zzd ?_
 refine zzh 26 (.v (r24.v)) ty29 zzd ?_
 refine sy_lit 27 ⟨29, r12.cs ++ r24.cs⟩ 2 ?_
 refine zyn 24 47 [.slc 23 0 2 2] [23] (.inr rfl) (pub_mk (by repeat first | exact noAt_of | refine zyc ?_ | refine zye ?_ | refine zyd ?_ | refine zzx ?_ | refine zya ?_)) (k := ?_)
 intro B29 w29 u29 e29 d29 v29
 have h31 : u29.heap[B29 23]? = some (.cells #[.bool r24.s, .slice r24.m.a r24.m.n r24.m.c, .slice r24.d.a r24.d.n r24.d.c, .bool r12.s, .slice r12.m.a r12.m.n r12.m.c, .slice r12.d.a r12.d.n r12.d.c] 29 (0, 0)) := v29 23 (by simp) _ rfl
 obtain ⟨b30, hBb30⟩ : ∃ b, B29 23 = b := ⟨_, rfl⟩
 rw [hBb30] at h31
 have hp32 : PolN u29 (⟨some ⟨b30, 0, none⟩, 2, 2⟩ : Sl) [(-(((g : Int) : Rat) / ((Nt.p2i W.f : Int) : Rat))), ((1 : Int) : Rat)] 2 := pol_lit (L := [r24, r12]) h31 (rats2 (h25.ext e29) (h13.ext (e17.trans (g21.ext.trans (e23.trans (g27.ext.trans e29)))))) rfl (by decide)
 show Calls _ _ #[.slice (some ⟨B29 23, 0, none⟩) 2 2] _ _
 rw [hBb30]
 have k37 := k_poTrim d29 hp32.raw (by omega) (by first | omega | (simp; done) | (simp; omega))
 with_reducible refine Post.mono k37 ?_
 rintro _ u35 g36 ⟨y33, rfl, h34⟩
 have hly33 := h34.len
 refine zyn 28 47 [.slc 27 0 2 2] [27] (.inr rfl) (pub_mk (by repeat first | exact noAt_of | refine zyc ?_ | refine zye ?_ | refine zyd ?_ | refine zzx ?_ | refine zya ?_)) (k := ?_)
 intro B38 w38 u38 e38 d38 v38
 have h40 : u38.heap[B38 27]? = some (.cells #[.bool r12.s, .slice r12.m.a r12.m.n r12.m.c, .slice r12.d.a r12.d.n r12.d.c, .bool r24.s, .slice r24.m.a r24.m.n r24.m.c, .slice r24.d.a r24.d.n r24.d.c] 29 (0, 0)) := v38 27 (by simp) _ rfl
 obtain ⟨b39, hBb39⟩ : ∃ b, B38 27 = b := ⟨_, rfl⟩
 rw [hBb39] at h40
 have hp41 : PolN u38 (⟨some ⟨b39, 0, none⟩, 2, 2⟩ : Sl) [((1 : Int) : Rat), (-(((g : Int) : Rat) / ((Nt.p2i W.f : Int) : Rat)))] 2 := pol_lit (L := [r12, r24]) h40 (rats2 (h13.ext (e17.trans (g21.ext.trans (e23.trans (g27.ext.trans (e29.trans (g36.ext.trans e38))))))) (h25.ext (e29.trans (g36.ext.trans e38)))) rfl (by decide)
 show Calls _ _ #[.slice (some ⟨B38 27, 0, none⟩) 2 2] _ _
 rw [hBb39]
 have k46 := k_poTrim d38 hp41.raw (by omega) (by first | omega | (simp; done) | (simp; omega))
 with_reducible refine Post.mono k46 ?_
 rintro _ u44 g45 ⟨y42, rfl, h43⟩
 have hly42 := h43.len
 refine zza 29 (.v (.agg #[y33.v, y42.v])) ?_
 refine zzi ⟨54, [y33.v, y42.v]⟩ ty54 ?_
 refine zzb 51 [(4, .adr 4 0)] [(4, ⟨54, [y33.v, y42.v]⟩)] ?_
 refine zzn (zzv (ret0 [.agg #[.slice y33.a y33.n y33.c, .slice y42.a y42.n y42.c]] ⟨zzq ty54 zzd, trivial⟩ fun u47 e48 => ?_))
 exact ⟨y33, y42, rfl, PolN.more (K := 2) (h34.ext (e38.trans (g45.ext.trans e48))) (by omega), PolN.more (K := 2) (h43.ext e48) (by omega)⟩
set_option maxHeartbeats 1000000 in
theorem k_section2 {u w : World} {W : WL} {g h : Int} (hg0 : -Nt.p2i W.f < g) (hg1 : g < Nt.p2i W.f) (hh0 : -Nt.p2i W.f < h) (hh1 : h < Nt.p2i W.f) (d : Dat u w) (hW : WdOK W) : Calls Tryz.prog 73 #[(⟨2, g, h⟩ : PL).v, W.v] w (Post u w fun v u' => ∃ y z : Sl, v = .agg #[y.v, z.v] ∧ PolN u' y (Nt.trimQ (Nt.secB W.f (⟨2, g, h⟩ : PL))) 10 ∧ PolN u' z (Nt.trimQ (Nt.secA W.f (⟨2, g, h⟩ : PL))) 10) := by
 obtain ⟨hw1, hw2, hw3, hw4, hw5, hw6, hw7, hw8⟩ := id hW
 have hu0 := Nt.p2i_pos W.f
 have hu1 := Nt.p2i_24 (n := W.f) (by omega)
 have hu2 := Nt.p2i_mono (a := W.f) (b := W.b - 1) (by omega)
 have hu3 := Nt.p2i_24 (n := W.b - 1) (by omega)
 refine zzl (args := [.agg #[.int .i64 2, .int .i64 g, .int .i64 h], .agg #[.int .i64 W.b, .int .i64 W.f, .int .i64 W.r, .int .i64 W.o]]) Tryz.func73 rfl Tryz.ntmps73 (rs := [.cell 4 54]) Tryz.results73 (le_b rfl) (le_b rfl) d ?_
 refine sq9 ?_
 refine zzj 2 ⟨65, [.int .i64 2, .int .i64 g, .int .i64 h]⟩ ?_
 refine zzj 3 ⟨51, [.int .i64 W.b, .int .i64 W.f, .int .i64 W.r, .int .i64 W.o]⟩ ?_
 refine zzj 4 ⟨54, [.slice none 0 0, .slice none 0 0]⟩ ?_
 refine zzb 51 [(2, .adr 2 0), (3, .adr 3 0), (4, .adr 4 0)] [(2, ⟨65, [.int .i64 2, .int .i64 g, .int .i64 h]⟩), (3, ⟨51, [.int .i64 W.b, .int .i64 W.f, .int .i64 W.r, .int .i64 W.o]⟩), (4, ⟨54, [.slice none 0 0, .slice none 0 0]⟩)] ?_
 refine sq9 ?_
 refine zzf 10 48 [.int .i64 1] ?_
 intro w11 u11 e11 d11
 have k16 := k_ratOf d11 (z := 1) (by omega) (by omega)
 with_reducible refine Post.mono k16 ?_
 rintro _ u14 g15 ⟨r12, rfl, h13⟩
 refine zzj 5 ⟨29, [.bool false, .slice none 0 0, .slice none 0 0]⟩ ?_
 refine zzi ⟨29, r12.cs⟩ ty29 ?_
 refine zzb 51 [(2, .adr 2 0), (3, .adr 3 0), (4, .adr 4 0), (5, .adr 5 0)] [(2, ⟨65, [.int .i64 2, .int .i64 g, .int .i64 h]⟩), (3, ⟨51, [.int .i64 W.b, .int .i64 W.f, .int .i64 W.r, .int .i64 W.o]⟩), (4, ⟨54, [.slice none 0 0, .slice none 0 0]⟩), (5, ⟨29, r12.cs⟩)] ?_
 refine sq9 ?_
 refine zzh 11 (.v (.agg #[.int .i64 W.b, .int .i64 W.f, .int .i64 W.r, .int .i64 W.o])) ty51 zzd ?_
 refine zza 12 (.adr 2 1) ?_
 refine zza 13 (.adr 2 1) ?_
 refine zzh 14 (.v (.int .i64 g)) ty3 zzk ?_
 refine zzf 15 102 [.agg #[.int .i64 W.b, .int .i64 W.f, .int .i64 W.r, .int .i64 W.o], .int .i64 g] ?_
 intro w17 u17 e17 d17
 have k22 := k_fxValue (W := W) (z := g) d17 hW (by omega) (by omega)
 with_reducible refine Post.mono k22 ?_
 rintro _ u20 g21 ⟨r18, rfl, h19⟩
 refine zzj 6 ⟨29, [.bool false, .slice none 0 0, .slice none 0 0]⟩ ?_
 refine zzi ⟨29, r18.cs⟩ ty29 ?_
 refine zzb 51 [(2, .adr 2 0), (3, .adr 3 0), (4, .adr 4 0), (5, .adr 5 0), (6, .adr 6 0)] [(2, ⟨65, [.int .i64 2, .int .i64 g, .int .i64 h]⟩), (3, ⟨51, [.int .i64 W.b, .int .i64 W.f, .int .i64 W.r, .int .i64 W.o]⟩), (4, ⟨54, [.slice none 0 0, .slice none 0 0]⟩), (5, ⟨29, r12.cs⟩), (6, ⟨29, r18.cs⟩)] ?_
 refine sq9 ?_
 refine zzh 16 (.v (r18.v)) ty29 zzd ?_
 refine zzf 17 118 [r18.v] ?_
 intro w23 u23 e23 d23
 have k28 := k_ratNeg d23 (h19.ext e23).raw (by omega)
 with_reducible refine Post.mono k28 ?_
 rintro _ u26 g27 ⟨r24, rfl, h25⟩
 refine zzj 7 ⟨29, [.bool false, .slice none 0 0, .slice none 0 0]⟩ ?_
 refine zzi ⟨29, r24.cs⟩ ty29 ?_
 refine zzb 51 [(2, .adr 2 0), (3, .adr 3 0), (4, .adr 4 0), (5, .adr 5 0), (6, .adr 6 0), (7, .adr 7 0)] [(2, ⟨65, [.int .i64 2, .int .i64 g, .int .i64 h]⟩), (3, ⟨51, [.int .i64 W.b, .int .i64 W.f, .int .i64 W.r, .int .i64 W.o]⟩), (4, ⟨54, [.slice none 0 0, .slice none 0 0]⟩), (5, ⟨29, r12.cs⟩), (6, ⟨29, r18.cs⟩), (7, ⟨29, r24.cs⟩)] ?_
 refine zzc ?_
 refine sq9 ?_
 refine zza 18 (.adr 2 0) ?_
 refine zzh 19 (.v (.int .i64 2)) ty3 zzk ?_
 refine zza 20 (.v (.bool false)) ?_
 refine zzb 51 [(2, .adr 2 0), (3, .adr 3 0), (4, .adr 4 0), (5, .adr 5 0), (6, .adr 6 0), (7, .adr 7 0), (20, .v (.bool false))] [(2, ⟨65, [.int .i64 2, .int .i64 g, .int .i64 h]⟩), (3, ⟨51, [.int .i64 W.b, .int .i64 W.f, .int .i64 W.r, .int .i64 W.o]⟩), (4, ⟨54, [.slice none 0 0, .slice none 0 0]⟩), (5, ⟨29, r12.cs⟩), (6, ⟨29, r18.cs⟩), (7, ⟨29, r24.cs⟩)] ?_
 refine zyr (by kernel_rfl) ?_
 refine zzr (zzo ?_)
 refine sq9 ?_
 refine zzh 30 (.v (.agg #[.int .i64 W.b, .int .i64 W.f, .int .i64 W.r, .int .i64 W.o])) ty51 zzd ?_
 refine zza 31 (.adr 2 1) ?_
 refine zza 32 (.adr 2 2) ?_
 refine zzh 33 (.v (.int .i64 h)) ty3 zzk ?_
 refine zzf 34 102 [.agg #[.int .i64 W.b, .int .i64 W.f, .int .i64 W.r, .int .i64 W.o], .int .i64 h] ?_
 intro w29 u29 e29 d29
 have k34 := k_fxValue (W := W) (z := h) d29 hW (by omega) (by omega)
 with_reducible refine Post.mono k34 ?_
 rintro _ u32 g33 ⟨r30, rfl, h31⟩
 refine zzj 8 ⟨29, [.bool false, .slice none 0 0, .slice none 0 0]⟩ ?_
 refine zzi ⟨29, r30.cs⟩ ty29 ?_
 refine zzb 51 [(4, .adr 4 0), (5, .adr 5 0), (6, .adr 6 0), (7, .adr 7 0), (8, .adr 8 0)] [(4, ⟨54, [.slice none 0 0, .slice none 0 0]⟩), (5, ⟨29, r12.cs⟩), (6, ⟨29, r18.cs⟩), (7, ⟨29, r24.cs⟩), (8, ⟨29, r30.cs⟩)] ?_
 refine zzc ?_
 refine zzy [0, 0, 0, 6, 15, 0, 63] [(0, []), (1, []), (2, []), (5, []), (3, []), (4, []), (6, [])] (by kernel_rfl) (by kernel_rfl) ?_
 refine zzh 35 (.v (r30.v)) ty29 zzd ?_
 refine zzh 36 (.v (r18.v)) ty29 zzd ?_
 refine zzh 37 (.v (r12.v)) ty29 zzd ?_
 refine zzj 9 ⟨29, [.bool false, .slice none 0 0, .slice none 0 0]⟩ ?_
 refine zzf 38 135 [r18.v, r12.v] ?_
 intro w35 u35 e35 d35
 have k40 := k_ratSub d35 (h19.ext (e23.trans (g27.ext.trans (e29.trans (g33.ext.trans e35))))).raw (h13.ext (e17.trans (g21.ext.trans (e23.trans (g27.ext.trans (e29.trans (g33.ext.trans e35))))))).raw (by omega) (by omega)
 with_reducible refine Post.mono k40 ?_
 rintro _ u38 g39 ⟨r36, rfl, h37⟩
 refine zzf 39 112 [r30.v, r36.v] ?_
 intro w41 u41 e41 d41
 have k46 := k_ratMul d41 (h31.ext (e35.trans (g39.ext.trans e41))).raw (h37.ext e41).raw (by omega) (by omega)
 with_reducible refine Post.mono k46 ?_
 rintro _ u44 g45 ⟨r42, rfl, h43⟩
 refine zzi ⟨29, r42.cs⟩ ty29 ?_
 refine zzb 51 [(4, .adr 4 0), (5, .adr 5 0), (7, .adr 7 0), (9, .adr 9 0)] [(4, ⟨54, [.slice none 0 0, .slice none 0 0]⟩), (5, ⟨29, r12.cs⟩), (7, ⟨29, r24.cs⟩), (9, ⟨29, r42.cs⟩)] ?_
 refine zzc ?_
 refine zzy [0, 0, 0, 7, 15, 0, 0, 0, 224, 511, 1023, 2047] [(0, []), (1, []), (2, []), (3, []), (5, []), (6, []), (7, []), (8, []), (4, [43]), (9, [48]), (10, []), (11, [])] (by kernel_rfl) (by kernel_rfl) ?_
 refine zzh 40 (.v (r24.v)) ty29 zzd ?_
 refine zzh 41 (.v (r42.v)) ty29 zzd ?_
 refine zzh 42 (.v (r12.v)) ty29 zzd ?_
 refine sy_lit 43 ⟨29, r24.cs ++ r42.cs ++ r12.cs⟩ 3 ?_
 refine zzh 45 (.v (r12.v)) ty29 zzd ?_
 refine zzh 46 (.v (r42.v)) ty29 zzd ?_
 refine zzh 47 (.v (r24.v)) ty29 zzd ?_
 refine sy_lit 48 ⟨29, r12.cs ++ r42.cs ++ r24.cs⟩ 3 ?_
 refine zyn 44 47 [.slc 43 0 3 3] [43] (.inr rfl) (pub_mk (by repeat first | exact noAt_of | refine zyc ?_ | refine zye ?_ | refine zyd ?_ | refine zzx ?_ | refine zya ?_)) (k := ?_)
 intro B47 w47 u47 e47 d47 v47
 have h49 : u47.heap[B47 43]? = some (.cells #[.bool r24.s, .slice r24.m.a r24.m.n r24.m.c, .slice r24.d.a r24.d.n r24.d.c, .bool r42.s, .slice r42.m.a r42.m.n r42.m.c, .slice r42.d.a r42.d.n r42.d.c, .bool r12.s, .slice r12.m.a r12.m.n r12.m.c, .slice r12.d.a r12.d.n r12.d.c] 29 (0, 0)) := v47 43 (by simp) _ rfl
 obtain ⟨b48, hBb48⟩ : ∃ b, B47 43 = b := ⟨_, rfl⟩
 rw [hBb48] at h49
 have hp50 : PolN u47 (⟨some ⟨b48, 0, none⟩, 3, 3⟩ : Sl) [(-(((g : Int) : Rat) / ((Nt.p2i W.f : Int) : Rat))), ((((h : Int) : Rat) / ((Nt.p2i W.f : Int) : Rat)) * ((((g : Int) : Rat) / ((Nt.p2i W.f : Int) : Rat)) - ((1 : Int) : Rat))), ((1 : Int) : Rat)] (max (max 2 (2 + (2 + 2 + 1))) 2) := pol_lit (L := [r24, r42, r12]) h49 (rats3 (RatN.more (L := (max (max 2 (2 + (2 + 2 + 1))) 2)) (h25.ext (e29.trans (g33.ext.trans (e35.trans (g39.ext.trans (e41.trans (g45.ext.trans e47))))))) (by omega)) (RatN.more (L := (max (max 2 (2 + (2 + 2 + 1))) 2)) (h43.ext e47) (by omega)) (RatN.more (L := (max (max 2 (2 + (2 + 2 + 1))) 2)) (h13.ext (e17.trans (g21.ext.trans (e23.trans (g27.ext.trans (e29.trans (g33.ext.trans (e35.trans (g39.ext.trans (e41.trans (g45.ext.trans e47))))))))))) (by omega))) rfl (by decide)
 show Calls _ _ #[.slice (some ⟨B47 43, 0, none⟩) 3 3] _ _
 rw [hBb48]
 have k55 := k_poTrim d47 hp50.raw (by omega) (by first | omega | (simp; done) | (simp; omega))
 with_reducible refine Post.mono k55 ?_
 rintro _ u53 g54 ⟨y51, rfl, h52⟩
 have hly51 := h52.len
 refine zyn 49 47 [.slc 48 0 3 3] [48] (.inr rfl) (pub_mk (by repeat first | exact noAt_of | refine zyc ?_ | refine zye ?_ | refine zyd ?_ | refine zzx ?_ | refine zya ?_)) (k := ?_)
 intro B56 w56 u56 e56 d56 v56
 have h58 : u56.heap[B56 48]? = some (.cells #[.bool r12.s, .slice r12.m.a r12.m.n r12.m.c, .slice r12.d.a r12.d.n r12.d.c, .bool r42.s, .slice r42.m.a r42.m.n r42.m.c, .slice r42.d.a r42.d.n r42.d.c, .bool r24.s, .slice r24.m.a r24.m.n r24.m.c, .slice r24.d.a r24.d.n r24.d.c] 29 (0, 0)) := v56 48 (by simp) _ rfl
 obtain ⟨b57, hBb57⟩ : ∃ b, B56 48 = b := ⟨_, rfl⟩
 rw [hBb57] at h58
 have hp59 : PolN u56 (⟨some ⟨b57, 0, none⟩, 3, 3⟩ : Sl) [((1 : Int) : Rat), ((((h : Int) : Rat) / ((Nt.p2i W.f : Int) : Rat)) * ((((g : Int) : Rat) / ((Nt.p2i W.f : Int) : Rat)) - ((1 : Int) : Rat))), (-(((g : Int) : Rat) / ((Nt.p2i W.f : Int) : Rat)))] (max (max 2 (2 + (2 + 2 + 1))) 2) := pol_lit (L := [r12, r42, r24]) h58 (rats3 (RatN.more (L := (max (max 2 (2 + (2 + 2 + 1))) 2)) (h13.ext (e17.trans (g21.ext.trans (e23.trans (g27.ext.trans (e29.trans (g33.ext.trans (e35.trans (g39.ext.trans (e41.trans (g45.ext.trans (e47.trans (g54.ext.trans e56))))))))))))) (by omega)) (RatN.more (L := (max (max 2 (2 + (2 + 2 + 1))) 2)) (h43.ext (e47.trans (g54.ext.trans e56))) (by omega)) (RatN.more (L := (max (max 2 (2 + (2 + 2 + 1))) 2)) (h25.ext (e29.trans (g33.ext.trans (e35.trans (g39.ext.trans (e41.trans (g45.ext.trans (e47.trans (g54.ext.trans e56))))))))) (by omega))) rfl (by decide)
 show Calls _ _ #[.slice (some ⟨B56 48, 0, none⟩) 3 3] _ _
 rw [hBb57]
 have k64 := k_poTrim d56 hp59.raw (by omega) (by first | omega | (simp; done) | (simp; omega))
 with_reducible refine Post.mono k64 ?_
 rintro _ u62 g63 ⟨y60, rfl, h61⟩
 have hly60 := h61.len
 refine zza 50 (.v (.agg #[y51.v, y60.v])) ?_
 refine zzi ⟨54, [y51.v, y60.v]⟩ ty54 ?_
 refine zzb 51 [(4, .adr 4 0)] [(4, ⟨54, [y51.v, y60.v]⟩)] ?_
 refine zzn (ret0 [.agg #[.slice y51.a y51.n y51.c, .slice y60.a y60.n y60.c]] ⟨zzq ty54 zzd, trivial⟩ fun u65 e66 => ?_)
 exact ⟨y51, y60, rfl, PolN.more (K := (max (max 2 (2 + (2 + 2 + 1))) 2)) (h52.ext (e56.trans (g63.ext.trans e66))) (by omega), PolN.more (K := (max (max 2 (2 + (2 + 2 + 1))) 2)) (h61.ext e66) (by omega)⟩
theorem k_section {u w : World} {W : WL} {p : PL} (d : Dat u w) (hW : WdOK W) (hp : PasOK W.f p) : Calls Tryz.prog 73 #[p.v, W.v] w (Post u w fun v u' => ∃ y z : Sl, v = .agg #[y.v, z.v] ∧ PolN u' y (Nt.trimQ (Nt.secB W.f p)) 10 ∧ PolN u' z (Nt.trimQ (Nt.secA W.f p)) 10) := by
 rcases pas_split hp with ⟨g, rfl, h1, h2⟩ | ⟨g, h, rfl, h1, h2, h3, h4⟩
 ·exact k_section1 h1 h2 d hW
 ·exact k_section2 h1 h2 h3 h4 d hW
theorem k_branch0 {u w : World} {x y : Sl} (d : Dat u w) : Calls Tryz.prog 65 #[.agg #[x.v, y.v], .int .i64 0] w (Post u w fun v _ => v = x.v) := by
 refine zzl (args := [.agg #[.slice x.a x.n x.c, .slice y.a y.n y.c], .int .i64 0]) Tryz.func65 rfl Tryz.ntmps65 (rs := [.tmp 4]) Tryz.results65 (le_b rfl) (le_b rfl) d ?_
 refine sq9 ?_
 refine zzj 2 ⟨59, [x.v, y.v]⟩ ?_
 refine zza 4 (.v (.slice none 0 0)) ?_
 refine zzb 11 [(1, .v (.int .i64 0)), (2, .adr 2 0)] [(2, ⟨59, [x.v, y.v]⟩)] ?_
 refine zzc ?_
 refine sq9 ?_
 refine zza 5 (.v (.int .i64 0)) ?_
 refine zza 6 (.v (.bool true)) ?_
 refine zzb 11 [(2, .adr 2 0), (6, .v (.bool true))] [(2, ⟨59, [x.v, y.v]⟩)] ?_
 refine zyq (by kernel_rfl) ?_
 refine sq9 ?_
 refine zza 7 (.adr 2 0) ?_
 refine zzh 8 (.v x.v) ty57 zzk ?_
 refine zza 4 (.v x.v) ?_
 refine zzb 11 [(4, .v x.v)] [] ?_
 refine zzn (zzv (ret0 [.slice x.a x.n x.c] ⟨zzp, trivial⟩ fun u11 e12 => ?_))
 rfl
theorem k_branch1 {u w : World} {x y : Sl} (d : Dat u w) : Calls Tryz.prog 65 #[.agg #[x.v, y.v], .int .i64 1] w (Post u w fun v _ => v = y.v) := by
 refine zzl (args := [.agg #[.slice x.a x.n x.c, .slice y.a y.n y.c], .int .i64 1]) Tryz.func65 rfl Tryz.ntmps65 (rs := [.tmp 4]) Tryz.results65 (le_b rfl) (le_b rfl) d ?_
 refine sq9 ?_
 refine zzj 2 ⟨59, [x.v, y.v]⟩ ?_
 refine zza 4 (.v (.slice none 0 0)) ?_
 refine zzb 11 [(1, .v (.int .i64 1)), (2, .adr 2 0)] [(2, ⟨59, [x.v, y.v]⟩)] ?_
 refine zzc ?_
 refine sq9 ?_
 refine zza 5 (.v (.int .i64 1)) ?_
 refine zza 6 (.v (.bool false)) ?_
 refine zzb 11 [(2, .adr 2 0), (6, .v (.bool false))] [(2, ⟨59, [x.v, y.v]⟩)] ?_
 refine zyr (by kernel_rfl) ?_
 refine zzr (zzo ?_)
 refine sq9 ?_
 refine zza 9 (.adr 2 1) ?_
 refine zzh 10 (.v y.v) ty57 zzk ?_
 refine zza 4 (.v y.v) ?_
 refine zzb 11 [(4, .v y.v)] [] ?_
 refine zzn (ret0 [.slice y.a y.n y.c] ⟨zzp, trivial⟩ fun u11 e12 => ?_)
 rfl
set_option maxHeartbeats 2000000 in
theorem k_wvValid {u w : World} {W : WL} {x y : Sl} {L M : List PL} (d : Dat u w) (hx : PasV u x L) (hpx : ∀ p ∈ L, PasOK W.f p) (hnx : L.length ≤ 4) (hy : PasV u y M) (hpy : ∀ p ∈ M, PasOK W.f p) (hny : M.length ≤ 4) (hW : WdOK W) (hf : 1 ≤ W.f) : Calls Tryz.prog 33 #[.agg #[x.v, y.v], W.v] w (Post u w fun v _ => v = .bool true) := by
 obtain ⟨hw1, hw2, hw3, hw4, hw5, hw6, hw7, hw8⟩ := id hW
 have hlx := hx.len
 have hly := hy.len
 refine zzl (args := [.agg #[.slice x.a x.n x.c, .slice y.a y.n y.c], .agg #[.int .i64 W.b, .int .i64 W.f, .int .i64 W.r, .int .i64 W.o]]) Tryz.func33 rfl Tryz.ntmps33 (rs := [.tmp 4]) Tryz.results33 (le_b rfl) (le_b rfl) d ?_
 refine sq9 ?_
 refine zzj 2 ⟨59, [x.v, y.v]⟩ ?_
 refine zzj 3 ⟨51, [.int .i64 W.b, .int .i64 W.f, .int .i64 W.r, .int .i64 W.o]⟩ ?_
 refine zza 4 (.v (.bool false)) ?_
 refine zzb 33 [(2, .adr 2 0), (3, .adr 3 0)] [(2, ⟨59, [x.v, y.v]⟩), (3, ⟨51, [.int .i64 W.b, .int .i64 W.f, .int .i64 W.r, .int .i64 W.o]⟩)] ?_
 refine zzc ?_
 refine sq9 ?_
 refine zzh 9 (.v (.agg #[.int .i64 W.b, .int .i64 W.f, .int .i64 W.r, .int .i64 W.o])) ty51 zzd ?_
 refine zzf 10 71 [.agg #[.int .i64 W.b, .int .i64 W.f, .int .i64 W.r, .int .i64 W.o]] ?_
 intro w11 u11 e11 d11
 have k14 := k_suitable (W := W) d11 hW hf
 with_reducible refine Post.mono k14 ?_
 rintro _ u12 g13 rfl
 refine zza 11 (.v (.bool false)) ?_
 refine zzb 33 [(2, .adr 2 0), (3, .adr 3 0), (11, .v (.bool false))] [(2, ⟨59, [x.v, y.v]⟩), (3, ⟨51, [.int .i64 W.b, .int .i64 W.f, .int .i64 W.r, .int .i64 W.o]⟩)] ?_
 refine zyr (by kernel_rfl) ?_
 refine zzr (zzo ?_)
 refine zzc ?_
 refine sq9 ?_
 refine zza 12 (.v (.int .i64 0)) ?_
 refine zzb 33 [(2, .adr 2 0), (3, .adr 3 0), (12, .v (.int .i64 0))] [(2, ⟨59, [x.v, y.v]⟩), (3, ⟨51, [.int .i64 W.b, .int .i64 W.f, .int .i64 W.r, .int .i64 W.o]⟩)] ?_
 refine zzs ?_
 refine sw_rounds 2 ?_
 refine sq9 ?_
 refine zza 13 (.v (.bool true)) ?_
 refine zzb 33 [(2, .adr 2 0), (3, .adr 3 0), (12, .v (.int .i64 0)), (13, .v (.bool true))] [(2, ⟨59, [x.v, y.v]⟩), (3, ⟨51, [.int .i64 W.b, .int .i64 W.f, .int .i64 W.r, .int .i64 W.o]⟩)] ?_
 refine zzc ?_
 refine zyq (by kernel_rfl) ?_
 refine zzr (zzo ?_)
 refine zzc ?_
 refine zzs ?_
 refine sq9 ?_
 refine zza 14 (.v (.int .i64 0)) ?_
 refine zza 5 (.v (.int .i64 0)) ?_
 refine zzb 33 [(2, .adr 2 0), (3, .adr 3 0), (5, .v (.int .i64 0)), (12, .v (.int .i64 0))] [(2, ⟨59, [x.v, y.v]⟩), (3, ⟨51, [.int .i64 W.b, .int .i64 W.f, .int .i64 W.r, .int .i64 W.o]⟩)] ?_
 refine sq9 ?_
 refine zzh 15 (.v (.agg #[x.v, y.v])) ty59 zzd ?_
 refine zza 16 (.v (.int .i64 0)) ?_
 refine zzf 17 65 [.agg #[x.v, y.v], .int .i64 0] ?_
 intro w15 u15 e15 d15
 have k18 := k_branch0 (x := x) (y := y) d15
 with_reducible refine Post.mono k18 ?_
 rintro _ u16 g17 rfl
 refine zza 6 (.v x.v) ?_
 refine zzb 33 [(2, .adr 2 0), (3, .adr 3 0), (6, .v x.v), (12, .v (.int .i64 0))] [(2, ⟨59, [x.v, y.v]⟩), (3, ⟨51, [.int .i64 W.b, .int .i64 W.f, .int .i64 W.r, .int .i64 W.o]⟩)] ?_
 refine zzc ?_
 refine sq9 ?_
 refine zza 18 (.v x.v) ?_
 refine zza 19 (.v (.int .i64 (x.n : Int))) ?_
 refine zza 20 (.v (.bool (decide ((4 : Int) < (x.n : Int))))) ?_
 refine zzb 33 [(2, .adr 2 0), (3, .adr 3 0), (6, .v x.v), (12, .v (.int .i64 0)), (20, .v (.bool (decide ((4 : Int) < (x.n : Int)))))] [(2, ⟨59, [x.v, y.v]⟩), (3, ⟨51, [.int .i64 W.b, .int .i64 W.f, .int .i64 W.r, .int .i64 W.o]⟩)] ?_
 refine zzt (b := decide ((4 : Int) < (x.n : Int))) (by kernel_rfl) (fun hb => ?_) (fun hb => ?_)
 ·exact absurd hb (by rw [show (decide ((4 : Int) < (x.n : Int))) = false from decide_eq_false (by omega)]; decide)
 ·clear hb
  refine zzr (zzo ?_)
  refine sq9 ?_
  refine zza 21 (.v x.v) ?_
  refine zza 22 (.v (.int .i64 (x.n : Int))) ?_
  refine zza 23 (.v (.int .i64 0)) ?_
  refine zzb 33 [(2, .adr 2 0), (3, .adr 3 0), (12, .v (.int .i64 0)), (21, .v x.v), (22, .v (.int .i64 (x.n : Int))), (23, .v (.int .i64 0))] [(2, ⟨59, [x.v, y.v]⟩), (3, ⟨51, [.int .i64 W.b, .int .i64 W.f, .int .i64 W.r, .int .i64 W.o]⟩)] ?_
  refine zzs ?_
  have hlxL := ((hx.ext (e11.trans (g13.ext.trans (e15.trans g17.ext))))).len
  refine zym (I := fun m19 S' u' => ∃ (i : Nat), (m19 = L.length - i) ∧ (i ≤ L.length) ∧ (S' = St.of 33 [(2, .adr 2 0), (3, .adr 3 0), (12, .v (.int .i64 0)), (21, .v (.slice x.a x.n x.c)), (22, .v (.int .i64 (x.n : Int))), (23, .v (.int .i64 (i : Int)))] [(2, ⟨59, [.slice x.a x.n x.c, .slice y.a y.n y.c]⟩), (3, ⟨51, [.int .i64 W.b, .int .i64 W.f, .int .i64 W.r, .int .i64 W.o]⟩)]) ∧ (Ext u16 u')) (fun m S u1 u2 e h => by obtain ⟨i, hm, p0, hS, hE⟩ := h; exact ⟨i, hm, p0, hS, hE.trans e⟩) _ (T := St.of 33 [(2, .adr 2 0), (3, .adr 3 0), (12, .v (.int .i64 0)), (21, .v (.slice x.a x.n x.c)), (22, .v (.int .i64 (x.n : Int))), (23, .v (.int .i64 0))] [(2, ⟨59, [.slice x.a x.n x.c, .slice y.a y.n y.c]⟩), (3, ⟨51, [.int .i64 W.b, .int .i64 W.f, .int .i64 W.r, .int .i64 W.o]⟩)]) (by exact zzu _ _ _) ⟨0, rfl, Nat.zero_le _, rfl, Ext.refl _⟩ ?_
  rintro m19 _ u19 ⟨i, hm19, hi, rfl, e19⟩
  refine sq9 ?_
  refine zza 24 (.v (.bool (decide ((i : Int) < (x.n : Int))))) ?_
  refine zzb 33 [(2, .adr 2 0), (3, .adr 3 0), (12, .v (.int .i64 0)), (21, .v x.v), (22, .v (.int .i64 (x.n : Int))), (23, .v (.int .i64 (i : Int))), (24, .v (.bool (decide ((i : Int) < (x.n : Int)))))] [(2, ⟨59, [x.v, y.v]⟩), (3, ⟨51, [.int .i64 W.b, .int .i64 W.f, .int .i64 W.r, .int .i64 W.o]⟩)] ?_
  refine zzc ?_
  refine zzt (b := decide ((i : Int) < (x.n : Int))) (by kernel_rfl) (fun hb20 => ?_) (fun hb20 => ?_)
  ·replace hb20 : (decide ((i : Int) < (x.n : Int))) = true := hb20
   have qhb20 := of_decide_eq_true hb20
   refine zzr (zzo ?_)
   refine zzc ?_
   refine zzs ?_
   refine sq9 ?_
   have hl21 := ((hx.ext (e11.trans (g13.ext.trans (e15.trans (g17.ext.trans e19)))))).len
   obtain ⟨p21, b21, o21, hA21, hc21, hp21⟩ := pas_at ((hx.ext (e11.trans (g13.ext.trans (e15.trans (g17.ext.trans e19)))))) (i := i) (by omega)
   refine zzz 25 (o21 + i * 3) (n := x.n) (off := o21) (sz := 3) (i := (i : Int)) (by omega) hA21 (by omega) (by omega) sl57 ?_
   refine zyl 26 p21.cs hc21 ty65 ?_
   refine zzj 8 ⟨65, [.int .i64 0, .int .i64 0, .int .i64 0]⟩ ?_
   refine zzi ⟨65, [.int .i64 p21.o, .int .i64 p21.g, .int .i64 p21.h]⟩ ty65 ?_
   refine zzb 33 [(2, .adr 2 0), (3, .adr 3 0), (8, .adr 8 0), (12, .v (.int .i64 0)), (21, .v x.v), (22, .v (.int .i64 (x.n : Int))), (23, .v (.int .i64 (i : Int)))] [(2, ⟨59, [x.v, y.v]⟩), (3, ⟨51, [.int .i64 W.b, .int .i64 W.f, .int .i64 W.r, .int .i64 W.o]⟩), (8, ⟨65, [.int .i64 p21.o, .int .i64 p21.g, .int .i64 p21.h]⟩)] ?_
   refine zzc ?_
   have hkp21 : PasOK W.f p21 := by rw [hp21]; exact hpx _ (by rw [List.getD_eq_getElem?_getD, List.getElem?_eq_getElem (by omega)]; exact List.getElem_mem _)
   refine zze ?_
   refine zzh 27 (.v (.agg #[.int .i64 p21.o, .int .i64 p21.g, .int .i64 p21.h])) ty65 zzd ?_
   refine zzh 28 (.v (.agg #[.int .i64 W.b, .int .i64 W.f, .int .i64 W.r, .int .i64 W.o])) ty51 zzd ?_
   refine zzf 29 72 [.agg #[.int .i64 p21.o, .int .i64 p21.g, .int .i64 p21.h], .agg #[.int .i64 W.b, .int .i64 W.f, .int .i64 W.r, .int .i64 W.o]] ?_
   intro w22 u22 e22 d22
   have k25 := k_permitted (p := p21) (W := W) d22 hW hkp21
   with_reducible refine Post.mono k25 ?_
   rintro _ u23 g24 rfl
   refine zza 30 (.v (.bool false)) ?_
   refine zzb 33 [(2, .adr 2 0), (3, .adr 3 0), (12, .v (.int .i64 0)), (21, .v x.v), (22, .v (.int .i64 (x.n : Int))), (23, .v (.int .i64 (i : Int))), (30, .v (.bool false))] [(2, ⟨59, [x.v, y.v]⟩), (3, ⟨51, [.int .i64 W.b, .int .i64 W.f, .int .i64 W.r, .int .i64 W.o]⟩)] ?_
   refine zyr (by kernel_rfl) ?_
   refine zzr (zzo ?_)
   refine zze ?_
   refine zyp 31 (x := .v (.int .i64 (IntKind.i64.wrap ((i : Int) + 1)))) (.v (.int .i64 ((i + 1 : Nat) : Int))) (eqI (by rw [IntWalk.i64_in _ (by omega)]; omega)) ?_
   refine zza 23 (.v (.int .i64 ((i + 1 : Nat) : Int))) ?_
   refine zzw ?_
   refine ⟨_, ?_, St.of 33 [(2, .adr 2 0), (3, .adr 3 0), (12, .v (.int .i64 0)), (21, .v (.slice x.a x.n x.c)), (22, .v (.int .i64 (x.n : Int))), (23, .v (.int .i64 ((i + 1 : Nat) : Int)))] [(2, ⟨59, [.slice x.a x.n x.c, .slice y.a y.n y.c]⟩), (3, ⟨51, [.int .i64 W.b, .int .i64 W.f, .int .i64 W.r, .int .i64 W.o]⟩)], by exact zzu _ _ _, i + 1, rfl, by omega, rfl, (e19.trans (e22.trans g24.ext))⟩
   omega
  ·replace hb20 : (decide ((i : Int) < (x.n : Int))) = false := hb20
   have qhb20 := of_decide_eq_false hb20
   refine zyb ?_
   refine zzo ?_
   refine zze ?_
   refine zza 32 (.v (.int .i64 1)) ?_
   refine zza 12 (.v (.int .i64 1)) ?_
   refine zzw ?_
   refine rn_next ?_
   refine sw_weak (T := St.of 33 [(2, .adr 2 0), (3, .adr 3 0), (12, .v (.int .i64 1))] [(2, ⟨59, [.slice x.a x.n x.c, .slice y.a y.n y.c]⟩), (3, ⟨51, [.int .i64 W.b, .int .i64 W.f, .int .i64 W.r, .int .i64 W.o]⟩)]) (by exact zzu _ _ _) ?_
   refine sq9 ?_
   refine zza 13 (.v (.bool true)) ?_
   refine zzb 33 [(2, .adr 2 0), (3, .adr 3 0), (12, .v (.int .i64 1)), (13, .v (.bool true))] [(2, ⟨59, [x.v, y.v]⟩), (3, ⟨51, [.int .i64 W.b, .int .i64 W.f, .int .i64 W.r, .int .i64 W.o]⟩)] ?_
   refine zzc ?_
   refine zyq (by kernel_rfl) ?_
   refine zzr (zzo ?_)
   refine zzc ?_
   refine zzs ?_
   refine sq9 ?_
   refine zza 14 (.v (.int .i64 1)) ?_
   refine zza 5 (.v (.int .i64 1)) ?_
   refine zzb 33 [(2, .adr 2 0), (3, .adr 3 0), (5, .v (.int .i64 1)), (12, .v (.int .i64 1))] [(2, ⟨59, [x.v, y.v]⟩), (3, ⟨51, [.int .i64 W.b, .int .i64 W.f, .int .i64 W.r, .int .i64 W.o]⟩)] ?_
   refine sq9 ?_
   refine zzh 15 (.v (.agg #[x.v, y.v])) ty59 zzd ?_
   refine zza 16 (.v (.int .i64 1)) ?_
   refine zzf 17 65 [.agg #[x.v, y.v], .int .i64 1] ?_
   intro w26 u26 e26 d26
   have k29 := k_branch1 (x := x) (y := y) d26
   with_reducible refine Post.mono k29 ?_
   rintro _ u27 g28 rfl
   refine zza 6 (.v y.v) ?_
   refine zzb 33 [(2, .adr 2 0), (3, .adr 3 0), (6, .v y.v), (12, .v (.int .i64 1))] [(2, ⟨59, [x.v, y.v]⟩), (3, ⟨51, [.int .i64 W.b, .int .i64 W.f, .int .i64 W.r, .int .i64 W.o]⟩)] ?_
   refine zzc ?_
   refine sq9 ?_
   refine zza 18 (.v y.v) ?_
   refine zza 19 (.v (.int .i64 (y.n : Int))) ?_
   refine zza 20 (.v (.bool (decide ((4 : Int) < (y.n : Int))))) ?_
   refine zzb 33 [(2, .adr 2 0), (3, .adr 3 0), (6, .v y.v), (12, .v (.int .i64 1)), (20, .v (.bool (decide ((4 : Int) < (y.n : Int)))))] [(2, ⟨59, [x.v, y.v]⟩), (3, ⟨51, [.int .i64 W.b, .int .i64 W.f, .int .i64 W.r, .int .i64 W.o]⟩)] ?_
   refine zzt (b := decide ((4 : Int) < (y.n : Int))) (by kernel_rfl) (fun hb => ?_) (fun hb => ?_)
   ·exact absurd hb (by rw [show (decide ((4 : Int) < (y.n : Int))) = false from decide_eq_false (by omega)]; decide)
   ·clear hb
    refine zzr (zzo ?_)
    refine sq9 ?_
    refine zza 21 (.v y.v) ?_
    refine zza 22 (.v (.int .i64 (y.n : Int))) ?_
    refine zza 23 (.v (.int .i64 0)) ?_
    refine zzb 33 [(2, .adr 2 0), (3, .adr 3 0), (12, .v (.int .i64 1)), (21, .v y.v), (22, .v (.int .i64 (y.n : Int))), (23, .v (.int .i64 0))] [(2, ⟨59, [x.v, y.v]⟩), (3, ⟨51, [.int .i64 W.b, .int .i64 W.f, .int .i64 W.r, .int .i64 W.o]⟩)] ?_
    refine zzs ?_
    have hlxM := ((hy.ext (e11.trans (g13.ext.trans (e15.trans (g17.ext.trans (e19.trans (e26.trans g28.ext)))))))).len
    refine zym (I := fun m30 S' u' => ∃ (i : Nat), (m30 = M.length - i) ∧ (i ≤ M.length) ∧ (S' = St.of 33 [(2, .adr 2 0), (3, .adr 3 0), (12, .v (.int .i64 1)), (21, .v (.slice y.a y.n y.c)), (22, .v (.int .i64 (y.n : Int))), (23, .v (.int .i64 (i : Int)))] [(2, ⟨59, [.slice x.a x.n x.c, .slice y.a y.n y.c]⟩), (3, ⟨51, [.int .i64 W.b, .int .i64 W.f, .int .i64 W.r, .int .i64 W.o]⟩)]) ∧ (Ext u27 u')) (fun m S u1 u2 e h => by obtain ⟨i, hm, p0, hS, hE⟩ := h; exact ⟨i, hm, p0, hS, hE.trans e⟩) _ (T := St.of 33 [(2, .adr 2 0), (3, .adr 3 0), (12, .v (.int .i64 1)), (21, .v (.slice y.a y.n y.c)), (22, .v (.int .i64 (y.n : Int))), (23, .v (.int .i64 0))] [(2, ⟨59, [.slice x.a x.n x.c, .slice y.a y.n y.c]⟩), (3, ⟨51, [.int .i64 W.b, .int .i64 W.f, .int .i64 W.r, .int .i64 W.o]⟩)]) (by exact zzu _ _ _) ⟨0, rfl, Nat.zero_le _, rfl, Ext.refl _⟩ ?_
    rintro m30 _ u30 ⟨i, hm30, hi, rfl, e30⟩
    refine sq9 ?_
    refine zza 24 (.v (.bool (decide ((i : Int) < (y.n : Int))))) ?_
    refine zzb 33 [(2, .adr 2 0), (3, .adr 3 0), (12, .v (.int .i64 1)), (21, .v y.v), (22, .v (.int .i64 (y.n : Int))), (23, .v (.int .i64 (i : Int))), (24, .v (.bool (decide ((i : Int) < (y.n : Int)))))] [(2, ⟨59, [x.v, y.v]⟩), (3, ⟨51, [.int .i64 W.b, .int .i64 W.f, .int .i64 W.r, .int .i64 W.o]⟩)] ?_
    refine zzc ?_
    refine zzt (b := decide ((i : Int) < (y.n : Int))) (by kernel_rfl) (fun hb31 => ?_) (fun hb31 => ?_)
    ·replace hb31 : (decide ((i : Int) < (y.n : Int))) = true := hb31
     have qhb31 := of_decide_eq_true hb31
     refine zzr (zzo ?_)
     refine zzc ?_
     refine zzs ?_
     refine sq9 ?_
     have hl32 := ((hy.ext (e11.trans (g13.ext.trans (e15.trans (g17.ext.trans (e19.trans (e26.trans (g28.ext.trans e30))))))))).len
     obtain ⟨p32, b32, o32, hA32, hc32, hp32⟩ := pas_at ((hy.ext (e11.trans (g13.ext.trans (e15.trans (g17.ext.trans (e19.trans (e26.trans (g28.ext.trans e30))))))))) (i := i) (by omega)
     refine zzz 25 (o32 + i * 3) (n := y.n) (off := o32) (sz := 3) (i := (i : Int)) (by omega) hA32 (by omega) (by omega) sl57 ?_
     refine zyl 26 p32.cs hc32 ty65 ?_
     refine zzj 8 ⟨65, [.int .i64 0, .int .i64 0, .int .i64 0]⟩ ?_
     refine zzi ⟨65, [.int .i64 p32.o, .int .i64 p32.g, .int .i64 p32.h]⟩ ty65 ?_
     refine zzb 33 [(2, .adr 2 0), (3, .adr 3 0), (8, .adr 8 0), (12, .v (.int .i64 1)), (21, .v y.v), (22, .v (.int .i64 (y.n : Int))), (23, .v (.int .i64 (i : Int)))] [(2, ⟨59, [x.v, y.v]⟩), (3, ⟨51, [.int .i64 W.b, .int .i64 W.f, .int .i64 W.r, .int .i64 W.o]⟩), (8, ⟨65, [.int .i64 p32.o, .int .i64 p32.g, .int .i64 p32.h]⟩)] ?_
     refine zzc ?_
     have hkp32 : PasOK W.f p32 := by rw [hp32]; exact hpy _ (by rw [List.getD_eq_getElem?_getD, List.getElem?_eq_getElem (by omega)]; exact List.getElem_mem _)
     refine zze ?_
     refine zzh 27 (.v (.agg #[.int .i64 p32.o, .int .i64 p32.g, .int .i64 p32.h])) ty65 zzd ?_
     refine zzh 28 (.v (.agg #[.int .i64 W.b, .int .i64 W.f, .int .i64 W.r, .int .i64 W.o])) ty51 zzd ?_
     refine zzf 29 72 [.agg #[.int .i64 p32.o, .int .i64 p32.g, .int .i64 p32.h], .agg #[.int .i64 W.b, .int .i64 W.f, .int .i64 W.r, .int .i64 W.o]] ?_
     intro w33 u33 e33 d33
     have k36 := k_permitted (p := p32) (W := W) d33 hW hkp32
     with_reducible refine Post.mono k36 ?_
     rintro _ u34 g35 rfl
     refine zza 30 (.v (.bool false)) ?_
     refine zzb 33 [(2, .adr 2 0), (3, .adr 3 0), (12, .v (.int .i64 1)), (21, .v y.v), (22, .v (.int .i64 (y.n : Int))), (23, .v (.int .i64 (i : Int))), (30, .v (.bool false))] [(2, ⟨59, [x.v, y.v]⟩), (3, ⟨51, [.int .i64 W.b, .int .i64 W.f, .int .i64 W.r, .int .i64 W.o]⟩)] ?_
     refine zyr (by kernel_rfl) ?_
     refine zzr (zzo ?_)
     refine zze ?_
     refine zyp 31 (x := .v (.int .i64 (IntKind.i64.wrap ((i : Int) + 1)))) (.v (.int .i64 ((i + 1 : Nat) : Int))) (eqI (by rw [IntWalk.i64_in _ (by omega)]; omega)) ?_
     refine zza 23 (.v (.int .i64 ((i + 1 : Nat) : Int))) ?_
     refine zzw ?_
     refine ⟨_, ?_, St.of 33 [(2, .adr 2 0), (3, .adr 3 0), (12, .v (.int .i64 1)), (21, .v (.slice y.a y.n y.c)), (22, .v (.int .i64 (y.n : Int))), (23, .v (.int .i64 ((i + 1 : Nat) : Int)))] [(2, ⟨59, [.slice x.a x.n x.c, .slice y.a y.n y.c]⟩), (3, ⟨51, [.int .i64 W.b, .int .i64 W.f, .int .i64 W.r, .int .i64 W.o]⟩)], by exact zzu _ _ _, i + 1, rfl, by omega, rfl, (e30.trans (e33.trans g35.ext))⟩
     omega
    ·replace hb31 : (decide ((i : Int) < (y.n : Int))) = false := hb31
     have qhb31 := of_decide_eq_false hb31
     refine zyb ?_
     refine zzo ?_
     refine zze ?_
     refine zza 32 (.v (.int .i64 2)) ?_
     refine zza 12 (.v (.int .i64 2)) ?_
     refine zzw ?_
     refine rn_next ?_
     refine sw_weak (T := St.of 33 [(2, .adr 2 0), (3, .adr 3 0), (12, .v (.int .i64 2))] [(2, ⟨59, [.slice x.a x.n x.c, .slice y.a y.n y.c]⟩), (3, ⟨51, [.int .i64 W.b, .int .i64 W.f, .int .i64 W.r, .int .i64 W.o]⟩)]) (by exact zzu _ _ _) ?_
     refine sq9 ?_
     refine zza 13 (.v (.bool false)) ?_
     refine zzb 33 [(2, .adr 2 0), (3, .adr 3 0), (12, .v (.int .i64 2)), (13, .v (.bool false))] [(2, ⟨59, [x.v, y.v]⟩), (3, ⟨51, [.int .i64 W.b, .int .i64 W.f, .int .i64 W.r, .int .i64 W.o]⟩)] ?_
     refine zzc ?_
     refine zyr (by kernel_rfl) ?_
     refine zyb ?_
     refine zzo ?_
     refine sq9 ?_
     refine zza 4 (.v (.bool true)) ?_
     refine zzb 33 [(4, .v (.bool true))] [] ?_
     refine zzn (ret0 [.bool true] ⟨zzp, trivial⟩ fun u37 e38 => ?_)
     rfl
theorem Nt.wD_208 {f : Int} (hf : f ≤ 24) {n : Nat} (hn : n ≤ 4) : Nt.wD f ^ n ≤ 2 ^ 208 := Nt.wD_pow hf hn
theorem Nt.pw26 {a b k A : Nat} (h : a ≤ 2 ^ k) (h2 : b ≤ 2 ^ k) (hA : k + k ≤ A) : a * b ≤ 2 ^ A :=
 Nat.le_trans (Nat.mul_le_mul h h2) (by rw [← Nat.pow_add]; exact Nat.pow_le_pow_right (by decide) hA)
theorem PolN.fit26 {u : World} {x : Sl} {l : List Rat} {K : Nat} {f : Int} {n m A : Nat} (h : PolN u x l K) (s : Nt.Sm l (Nt.wD f ^ n * Nt.wD f ^ m) A) (hh : f ≤ 24 ∧ n ≤ 4 ∧ m ≤ 4 ∧ 416 ≤ A) : PolN u x l (Nt.dg A) :=
 PolN.fitS h s (Nt.pw26 (Nt.wD_208 hh.1 hh.2.1) (Nt.wD_208 hh.1 hh.2.2.1) (by omega))
theorem Nt.prodS {f : Int} {L : List PL} (hf : f ≤ 24) (hL : ∀ p ∈ L, PasOK f p) {n : Nat} (hn : n ≤ L.length) (h4 : L.length ≤ 4) : Nt.Sm (Nt.prodB f L n) (Nt.wD f ^ n) 208 ∧ Nt.Sm (Nt.prodA f L n) (Nt.wD f ^ n) 208 :=
 ⟨(Nt.prod_sm hf hL n hn).1.more (by omega), (Nt.prod_sm hf hL n hn).2.more (by omega)⟩
theorem prod_stB {u : World} {x : Sl} {K : Nat} {f : Int} {L : List PL} {i : Nat} {p : PL} (h : PolN u x (Nt.trimQ (Nt.mulQ (Nt.prodB f L i) (Nt.trimQ (Nt.secB f p)))) K) (hp : p = L.getD i pl0) (hf : f ≤ 24) (hL : ∀ p ∈ L, PasOK f p) (h4 : L.length ≤ 4) (hi : i < L.length) : PolN u x (Nt.prodB f L (i + 1)) 8 := by
 subst hp
 exact (PolN.fitS (show PolN u x (Nt.prodB f L (i + 1)) K from h) (Nt.prodS hf hL hi h4).1 (Nt.wD_208 hf (by omega))).more (by decide)
theorem prod_stA {u : World} {x : Sl} {K : Nat} {f : Int} {L : List PL} {i : Nat} {p : PL} (h : PolN u x (Nt.trimQ (Nt.mulQ (Nt.prodA f L i) (Nt.trimQ (Nt.secA f p)))) K) (hp : p = L.getD i pl0) (hf : f ≤ 24) (hL : ∀ p ∈ L, PasOK f p) (h4 : L.length ≤ 4) (hi : i < L.length) : PolN u x (Nt.prodA f L (i + 1)) 8 := by
 subst hp
 exact (PolN.fitS (show PolN u x (Nt.prodA f L (i + 1)) K from h) (Nt.prodS hf hL hi h4).2 (Nt.wD_208 hf (by omega))).more (by decide)
set_option maxHeartbeats 2000000 in
theorem k_product {u w : World} {W : WL} {x : Sl} {L : List PL} (d : Dat u w) (hx : PasV u x L) (hpx : ∀ p ∈ L, PasOK W.f p) (hnx : L.length ≤ 4) (hW : WdOK W) : Calls Tryz.prog 64 #[x.v, W.v] w (Post u w fun v u' => ∃ y z : Sl, v = .agg #[y.v, z.v] ∧ PolN u' y (Nt.prodB W.f L L.length) 8 ∧ PolN u' z (Nt.prodA W.f L L.length) 8) := by
 obtain ⟨hw1, hw2, hw3, hw4, hw5, hw6, hw7, hw8⟩ := id hW
 have hlx := hx.len
 refine zzl (args := [.slice x.a x.n x.c, .agg #[.int .i64 W.b, .int .i64 W.f, .int .i64 W.r, .int .i64 W.o]]) Tryz.func64 rfl Tryz.ntmps64 (rs := [.cell 4 54]) Tryz.results64 (le_b rfl) (le_b rfl) d ?_
 refine sq9 ?_
 refine zzj 3 ⟨51, [.int .i64 W.b, .int .i64 W.f, .int .i64 W.r, .int .i64 W.o]⟩ ?_
 refine zzj 4 ⟨54, [.slice none 0 0, .slice none 0 0]⟩ ?_
 refine zzb 36 [(0, .v x.v), (3, .adr 3 0), (4, .adr 4 0)] [(3, ⟨51, [.int .i64 W.b, .int .i64 W.f, .int .i64 W.r, .int .i64 W.o]⟩), (4, ⟨54, [.slice none 0 0, .slice none 0 0]⟩)] ?_
 refine sq9 ?_
 refine zzf 9 48 [.int .i64 1] ?_
 intro w11 u11 e11 d11
 have k16 := k_ratOf d11 (z := 1) (by omega) (by omega)
 with_reducible refine Post.mono k16 ?_
 rintro _ u14 g15 ⟨r12, rfl, h13⟩
 refine sy_data 10 ⟨29, r12.cs⟩ 1 (fun b17 u18 e19 h20 => ?_)
 have hp21 : PolN u18 (⟨some ⟨b17, 0, none⟩, 1, 1⟩ : Sl) [((1 : Int) : Rat)] 2 := pol_lit (L := [r12]) h20 (rats1 (h13.ext e19)) rfl (by decide)
 refine zzf 11 48 [.int .i64 1] ?_
 intro w22 u22 e22 d22
 have k27 := k_ratOf d22 (z := 1) (by omega) (by omega)
 with_reducible refine Post.mono k27 ?_
 rintro _ u25 g26 ⟨r23, rfl, h24⟩
 refine sy_data 12 ⟨29, r23.cs⟩ 1 (fun b28 u29 e30 h31 => ?_)
 have hp32 : PolN u29 (⟨some ⟨b28, 0, none⟩, 1, 1⟩ : Sl) [((1 : Int) : Rat)] 2 := pol_lit (L := [r23]) h31 (rats1 (h24.ext e30)) rfl (by decide)
 refine zza 13 (.v (.agg #[.slice (some ⟨b17, 0, none⟩) 1 1, .slice (some ⟨b28, 0, none⟩) 1 1])) ?_
 refine zzj 5 ⟨54, [.slice none 0 0, .slice none 0 0]⟩ ?_
 refine zzi ⟨54, [.slice (some ⟨b17, 0, none⟩) 1 1, .slice (some ⟨b28, 0, none⟩) 1 1]⟩ ty54 ?_
 refine zzb 36 [(0, .v x.v), (3, .adr 3 0), (4, .adr 4 0), (5, .adr 5 0)] [(3, ⟨51, [.int .i64 W.b, .int .i64 W.f, .int .i64 W.r, .int .i64 W.o]⟩), (4, ⟨54, [.slice none 0 0, .slice none 0 0]⟩), (5, ⟨54, [.slice (some ⟨b17, 0, none⟩) 1 1, .slice (some ⟨b28, 0, none⟩) 1 1]⟩)] ?_
 refine zzc ?_
 refine sq9 ?_
 refine zza 14 (.v x.v) ?_
 refine zza 15 (.v (.int .i64 (x.n : Int))) ?_
 refine zza 16 (.v (.int .i64 0)) ?_
 refine zzb 36 [(3, .adr 3 0), (4, .adr 4 0), (5, .adr 5 0), (14, .v x.v), (15, .v (.int .i64 (x.n : Int))), (16, .v (.int .i64 0))] [(3, ⟨51, [.int .i64 W.b, .int .i64 W.f, .int .i64 W.r, .int .i64 W.o]⟩), (4, ⟨54, [.slice none 0 0, .slice none 0 0]⟩), (5, ⟨54, [.slice (some ⟨b17, 0, none⟩) 1 1, .slice (some ⟨b28, 0, none⟩) 1 1]⟩)] ?_
 refine zzs ?_
 refine zym (I := fun m33 S' u' => ∃ (i : Nat) (y : Sl) (z : Sl), (m33 = L.length - i) ∧ (i ≤ L.length) ∧ (S' = St.of 36 [(3, .adr 3 0), (4, .adr 4 0), (5, .adr 5 0), (14, .v (.slice x.a x.n x.c)), (15, .v (.int .i64 (x.n : Int))), (16, .v (.int .i64 (i : Int)))] [(3, ⟨51, [.int .i64 W.b, .int .i64 W.f, .int .i64 W.r, .int .i64 W.o]⟩), (4, ⟨54, [.slice none 0 0, .slice none 0 0]⟩), (5, ⟨54, [.slice y.a y.n y.c, .slice z.a z.n z.c]⟩)]) ∧ (Ext u29 u') ∧ (PolN u' y (Nt.prodB W.f L i) 8) ∧ (PolN u' z (Nt.prodA W.f L i) 8)) (fun m S u1 u2 e h => by obtain ⟨i, y, z, hm, p0, hS, hE, f0, f1⟩ := h; exact ⟨i, y, z, hm, p0, hS, hE.trans e, f0.ext e, f1.ext e⟩) _ (T := St.of 36 [(3, .adr 3 0), (4, .adr 4 0), (5, .adr 5 0), (14, .v (.slice x.a x.n x.c)), (15, .v (.int .i64 (x.n : Int))), (16, .v (.int .i64 0))] [(3, ⟨51, [.int .i64 W.b, .int .i64 W.f, .int .i64 W.r, .int .i64 W.o]⟩), (4, ⟨54, [.slice none 0 0, .slice none 0 0]⟩), (5, ⟨54, [.slice (some ⟨b17, 0, none⟩) 1 1, .slice (some ⟨b28, 0, none⟩) 1 1]⟩)]) (by exact zzu _ _ _) ⟨0, (⟨some ⟨b17, 0, none⟩, 1, 1⟩ : Sl), (⟨some ⟨b28, 0, none⟩, 1, 1⟩ : Sl), rfl, Nat.zero_le _, rfl, Ext.refl _, (PolN.more (hp21.ext (e22.trans (g26.ext.trans e30))) (by decide)), (PolN.more hp32 (by decide))⟩ ?_
 rintro m33 _ u33 ⟨i, y, z, hm33, hi, rfl, e33, hB, hA⟩
 have hlB : (Nt.prodB W.f L i).length ≤ 9 := by have h9 := (Nt.prod_len W.f L i).1; omega
 have hlA : (Nt.prodA W.f L i).length ≤ 9 := by have h9 := (Nt.prod_len W.f L i).2; omega
 have hyl := hB.len
 have hzl := hA.len
 refine sq9 ?_
 refine zza 17 (.v (.bool (decide ((i : Int) < (x.n : Int))))) ?_
 refine zzb 36 [(3, .adr 3 0), (4, .adr 4 0), (5, .adr 5 0), (14, .v x.v), (15, .v (.int .i64 (x.n : Int))), (16, .v (.int .i64 (i : Int))), (17, .v (.bool (decide ((i : Int) < (x.n : Int)))))] [(3, ⟨51, [.int .i64 W.b, .int .i64 W.f, .int .i64 W.r, .int .i64 W.o]⟩), (4, ⟨54, [.slice none 0 0, .slice none 0 0]⟩), (5, ⟨54, [y.v, z.v]⟩)] ?_
 refine zzc ?_
 refine zzt (b := decide ((i : Int) < (x.n : Int))) (by kernel_rfl) (fun hb34 => ?_) (fun hb34 => ?_)
 ·replace hb34 : (decide ((i : Int) < (x.n : Int))) = true := hb34
  have qhb34 := of_decide_eq_true hb34
  refine zzr (zzo ?_)
  refine zzc ?_
  refine zzs ?_
  refine sq9 ?_
  have hl35 := ((hx.ext (e11.trans (g15.ext.trans (e19.trans (e22.trans (g26.ext.trans (e30.trans e33)))))))).len
  obtain ⟨p35, b35, o35, hA35, hc35, hp35⟩ := pas_at ((hx.ext (e11.trans (g15.ext.trans (e19.trans (e22.trans (g26.ext.trans (e30.trans e33)))))))) (i := i) (by omega)
  refine zzz 18 (o35 + i * 3) (n := x.n) (off := o35) (sz := 3) (i := (i : Int)) (by omega) hA35 (by omega) (by omega) sl57 ?_
  refine zyl 19 p35.cs hc35 ty65 ?_
  refine zzj 7 ⟨65, [.int .i64 0, .int .i64 0, .int .i64 0]⟩ ?_
  refine zzi ⟨65, [.int .i64 p35.o, .int .i64 p35.g, .int .i64 p35.h]⟩ ty65 ?_
  refine zzb 36 [(3, .adr 3 0), (4, .adr 4 0), (5, .adr 5 0), (7, .adr 7 0), (14, .v x.v), (15, .v (.int .i64 (x.n : Int))), (16, .v (.int .i64 (i : Int)))] [(3, ⟨51, [.int .i64 W.b, .int .i64 W.f, .int .i64 W.r, .int .i64 W.o]⟩), (4, ⟨54, [.slice none 0 0, .slice none 0 0]⟩), (5, ⟨54, [y.v, z.v]⟩), (7, ⟨65, [.int .i64 p35.o, .int .i64 p35.g, .int .i64 p35.h]⟩)] ?_
  refine zzc ?_
  have hkp35 : PasOK W.f p35 := by rw [hp35]; exact hpx _ (by rw [List.getD_eq_getElem?_getD, List.getElem?_eq_getElem (by omega)]; exact List.getElem_mem _)
  refine zze ?_
  refine zzh 20 (.v (.agg #[.int .i64 p35.o, .int .i64 p35.g, .int .i64 p35.h])) ty65 zzd ?_
  refine zzh 21 (.v (.agg #[.int .i64 W.b, .int .i64 W.f, .int .i64 W.r, .int .i64 W.o])) ty51 zzd ?_
  refine zzf 22 73 [.agg #[.int .i64 p35.o, .int .i64 p35.g, .int .i64 p35.h], .agg #[.int .i64 W.b, .int .i64 W.f, .int .i64 W.r, .int .i64 W.o]] ?_
  intro w36 u36 e36 d36
  have k43 := k_section (p := p35) (W := W) d36 hW hkp35
  with_reducible refine Post.mono k43 ?_
  rintro _ u41 g42 ⟨y37, y38, rfl, h39, h40⟩
  have hly37 := h39.len
  have hmy37 := Nat.le_trans (Nt.zzg (Nt.secB W.f p35)) (Nt.sec_len W.f p35).1
  have hly38 := h40.len
  have hmy38 := Nat.le_trans (Nt.zzg (Nt.secA W.f p35)) (Nt.sec_len W.f p35).2
  refine zzj 8 ⟨54, [.slice none 0 0, .slice none 0 0]⟩ ?_
  refine zzi ⟨54, [y37.v, y38.v]⟩ ty54 ?_
  refine zzb 36 [(3, .adr 3 0), (4, .adr 4 0), (5, .adr 5 0), (8, .adr 8 0), (14, .v x.v), (15, .v (.int .i64 (x.n : Int))), (16, .v (.int .i64 (i : Int)))] [(3, ⟨51, [.int .i64 W.b, .int .i64 W.f, .int .i64 W.r, .int .i64 W.o]⟩), (4, ⟨54, [.slice none 0 0, .slice none 0 0]⟩), (5, ⟨54, [y.v, z.v]⟩), (8, ⟨54, [y37.v, y38.v]⟩)] ?_
  refine zzy [0, 1, 0, 4, 15, 0, 32, 0, 128, 511, 1023, 2047] [(0, []), (1, []), (2, []), (3, []), (5, []), (6, []), (7, []), (8, []), (4, []), (9, []), (10, []), (11, [])] (by kernel_rfl) (by kernel_rfl) ?_
  refine zza 23 (.adr 5 0) ?_
  refine zzh 24 (.v y.v) ty32 zzk ?_
  refine zza 25 (.adr 8 0) ?_
  refine zzh 26 (.v y37.v) ty32 zzk ?_
  refine zza 28 (.adr 5 1) ?_
  refine zzh 29 (.v z.v) ty32 zzk ?_
  refine zza 30 (.adr 8 1) ?_
  refine zzh 31 (.v y38.v) ty32 zzk ?_
  refine zzf 27 66 [y.v, y37.v] ?_
  intro w44 u44 e44 d44
  have k49 := k_poMul d44 (hB.ext (e36.trans (g42.ext.trans e44))).raw (h39.ext e44).raw (Nat.le_trans (Nt.mlK_mono hlB hmy37 (Nat.le_refl _) (Nat.le_refl _)) (by decide +kernel)) (by have h9 := hlB; omega) (by have h9 := hmy37; omega) (by have h9 := hlB; omega) (by have h9 := hmy37; omega)
  with_reducible refine Post.mono k49 ?_
  rintro _ u47 g48 ⟨y45, rfl, h46⟩
  replace h46 := PolN.more h46 (Nat.le_trans (Nt.mlK_mono hlB hmy37 (Nat.le_refl _) (Nat.le_refl _)) (by decide +kernel : _ ≤ 3483))
  have hly45 := h46.len
  have hm50 : (Nt.trimQ (Nt.mulQ (Nt.prodB W.f L i) (Nt.trimQ (Nt.secB W.f p35)))).length ≤ 11 := Nt.mul_lenQ hlB hmy37
  have hk51 : PolN _ y45 (Nt.trimQ (Nt.mulQ (Nt.prodB W.f L i) (Nt.trimQ (Nt.secB W.f p35)))) 3483 := PolN.more h46 (by omega)
  refine zzf 32 66 [z.v, y38.v] ?_
  intro w52 u52 e52 d52
  have k57 := k_poMul d52 (hA.ext (e36.trans (g42.ext.trans (e44.trans (g48.ext.trans e52))))).raw (h40.ext (e44.trans (g48.ext.trans e52))).raw (Nat.le_trans (Nt.mlK_mono hlA hmy38 (Nat.le_refl _) (Nat.le_refl _)) (by decide +kernel)) (by have h9 := hlA; omega) (by have h9 := hmy38; omega) (by have h9 := hlA; omega) (by have h9 := hmy38; omega)
  with_reducible refine Post.mono k57 ?_
  rintro _ u55 g56 ⟨y53, rfl, h54⟩
  replace h54 := PolN.more h54 (Nat.le_trans (Nt.mlK_mono hlA hmy38 (Nat.le_refl _) (Nat.le_refl _)) (by decide +kernel : _ ≤ 3483))
  have hly53 := h54.len
  have hm58 : (Nt.trimQ (Nt.mulQ (Nt.prodA W.f L i) (Nt.trimQ (Nt.secA W.f p35)))).length ≤ 11 := Nt.mul_lenQ hlA hmy38
  have hk59 : PolN _ y53 (Nt.trimQ (Nt.mulQ (Nt.prodA W.f L i) (Nt.trimQ (Nt.secA W.f p35)))) 3483 := PolN.more h54 (by omega)
  refine zza 33 (.v (.agg #[y45.v, y53.v])) ?_
  refine zzi ⟨54, [y45.v, y53.v]⟩ ty54 ?_
  refine zzw ?_
  refine zzo ?_
  refine zze ?_
  refine zyp 34 (x := .v (.int .i64 (IntKind.i64.wrap ((i : Int) + 1)))) (.v (.int .i64 ((i + 1 : Nat) : Int))) (eqI (by rw [IntWalk.i64_in _ (by omega)]; omega)) ?_
  refine zza 16 (.v (.int .i64 ((i + 1 : Nat) : Int))) ?_
  refine zzw ?_
  refine ⟨_, ?_, St.of 36 [(3, .adr 3 0), (4, .adr 4 0), (5, .adr 5 0), (14, .v (.slice x.a x.n x.c)), (15, .v (.int .i64 (x.n : Int))), (16, .v (.int .i64 ((i + 1 : Nat) : Int)))] [(3, ⟨51, [.int .i64 W.b, .int .i64 W.f, .int .i64 W.r, .int .i64 W.o]⟩), (4, ⟨54, [.slice none 0 0, .slice none 0 0]⟩), (5, ⟨54, [.slice y45.a y45.n y45.c, .slice y53.a y53.n y53.c]⟩)], by exact zzu _ _ _, i + 1, y45, y53, rfl, by omega, rfl, (e33.trans (e36.trans (g42.ext.trans (e44.trans (g48.ext.trans (e52.trans g56.ext)))))), (prod_stB (hk51.ext (e52.trans g56.ext)) hp35 (by omega) hpx hnx (by omega)), (prod_stA hk59 hp35 (by omega) hpx hnx (by omega))⟩
  omega
 ·replace hb34 : (decide ((i : Int) < (x.n : Int))) = false := hb34
  have qhb34 := of_decide_eq_false hb34
  refine zyb ?_
  refine zzo ?_
  refine sq9 ?_
  refine zzh 35 (.v (.agg #[y.v, z.v])) ty54 zzd ?_
  refine zzi ⟨54, [y.v, z.v]⟩ ty54 ?_
  refine zzb 36 [(4, .adr 4 0)] [(4, ⟨54, [y.v, z.v]⟩)] ?_
  refine zzn (ret0 [.agg #[.slice y.a y.n y.c, .slice z.a z.n z.c]] ⟨zzq ty54 zzd, trivial⟩ fun u60 e61 => ?_)
  have hi9 : i = L.length := by omega
  subst hi9
  exact ⟨y, z, rfl, (hB.ext e61), (hA.ext e61)⟩
set_option maxHeartbeats 2000000 in
theorem k_wIdeal {u w : World} {W : WL} {x y : Sl} {L M : List PL} (d : Dat u w) (hx : PasV u x L) (hpx : ∀ p ∈ L, PasOK W.f p) (hnx : L.length ≤ 4) (hy : PasV u y M) (hpy : ∀ p ∈ M, PasOK W.f p) (hny : M.length ≤ 4) (hW : WdOK W) (hf : 1 ≤ W.f) : Calls Tryz.prog 24 #[.agg #[x.v, y.v], W.v] w (Post u w fun v u' => ∃ y1 y2 y3 y4 : Sl, v = .tuple #[.agg #[y1.v, y2.v], .agg #[y3.v, y4.v], .int .i64 0] ∧ PolN u' y1 (Nt.trimQ ((Nt.trimQ (Nt.addQ (Nt.trimQ (Nt.mulQ (Nt.prodB W.f L L.length) (Nt.prodA W.f M M.length))) (Nt.trimQ (Nt.mulQ (Nt.prodB W.f M M.length) (Nt.prodA W.f L L.length))))).map (· * (((1 : Int) : Rat) / ((2 : Int) : Rat))))) 40 ∧ PolN u' y2 (Nt.trimQ (Nt.mulQ (Nt.prodA W.f L L.length) (Nt.prodA W.f M M.length))) 40 ∧ PolN u' y3 (Nt.trimQ ((Nt.trimQ (Nt.addQ (Nt.trimQ (Nt.mulQ (Nt.prodB W.f L L.length) (Nt.prodA W.f M M.length))) ((Nt.trimQ (Nt.mulQ (Nt.prodB W.f M M.length) (Nt.prodA W.f L L.length))).map (fun z => -z)))).map (· * (((1 : Int) : Rat) / ((2 : Int) : Rat))))) 40 ∧ PolN u' y4 (Nt.trimQ (Nt.mulQ (Nt.prodA W.f L L.length) (Nt.prodA W.f M M.length))) 40) := by
 obtain ⟨hw1, hw2, hw3, hw4, hw5, hw6, hw7, hw8⟩ := id hW
 have hlx := hx.len
 have hly := hy.len
 refine zzl (args := [.agg #[.slice x.a x.n x.c, .slice y.a y.n y.c], .agg #[.int .i64 W.b, .int .i64 W.f, .int .i64 W.r, .int .i64 W.o]]) Tryz.func24 rfl Tryz.ntmps24 (rs := [.cell 4 54, .cell 5 54, .tmp 6]) Tryz.results24 (le_b rfl) (le_b rfl) d ?_
 refine sq9 ?_
 refine zzj 2 ⟨59, [x.v, y.v]⟩ ?_
 refine zzj 3 ⟨51, [.int .i64 W.b, .int .i64 W.f, .int .i64 W.r, .int .i64 W.o]⟩ ?_
 refine zzj 4 ⟨54, [.slice none 0 0, .slice none 0 0]⟩ ?_
 refine zzj 5 ⟨54, [.slice none 0 0, .slice none 0 0]⟩ ?_
 refine zza 6 (.v (.int .i64 0)) ?_
 refine zzb 74 [(2, .adr 2 0), (3, .adr 3 0), (4, .adr 4 0), (5, .adr 5 0)] [(2, ⟨59, [x.v, y.v]⟩), (3, ⟨51, [.int .i64 W.b, .int .i64 W.f, .int .i64 W.r, .int .i64 W.o]⟩), (4, ⟨54, [.slice none 0 0, .slice none 0 0]⟩), (5, ⟨54, [.slice none 0 0, .slice none 0 0]⟩)] ?_
 refine zzc ?_
 refine sq9 ?_
 refine zzh 14 (.v (.agg #[x.v, y.v])) ty59 zzd ?_
 refine zzh 15 (.v (.agg #[.int .i64 W.b, .int .i64 W.f, .int .i64 W.r, .int .i64 W.o])) ty51 zzd ?_
 refine zzf 16 33 [.agg #[x.v, y.v], .agg #[.int .i64 W.b, .int .i64 W.f, .int .i64 W.r, .int .i64 W.o]] ?_
 intro w11 u11 e11 d11
 have k14 := k_wvValid (W := W) d11 (hx.ext e11) hpx hnx (hy.ext e11) hpy hny hW hf
 with_reducible refine Post.mono k14 ?_
 rintro _ u12 g13 rfl
 refine zza 17 (.v (.bool false)) ?_
 refine zzb 74 [(2, .adr 2 0), (3, .adr 3 0), (4, .adr 4 0), (5, .adr 5 0), (17, .v (.bool false))] [(2, ⟨59, [x.v, y.v]⟩), (3, ⟨51, [.int .i64 W.b, .int .i64 W.f, .int .i64 W.r, .int .i64 W.o]⟩), (4, ⟨54, [.slice none 0 0, .slice none 0 0]⟩), (5, ⟨54, [.slice none 0 0, .slice none 0 0]⟩)] ?_
 refine zyr (by kernel_rfl) ?_
 refine zzr (zzo ?_)
 refine sq9 ?_
 refine zzj 7 ⟨104, [.slice none 0 0, .slice none 0 0, .slice none 0 0, .slice none 0 0]⟩ ?_
 refine zzb 74 [(2, .adr 2 0), (3, .adr 3 0), (4, .adr 4 0), (5, .adr 5 0), (7, .adr 7 0)] [(2, ⟨59, [x.v, y.v]⟩), (3, ⟨51, [.int .i64 W.b, .int .i64 W.f, .int .i64 W.r, .int .i64 W.o]⟩), (4, ⟨54, [.slice none 0 0, .slice none 0 0]⟩), (5, ⟨54, [.slice none 0 0, .slice none 0 0]⟩), (7, ⟨104, [.slice none 0 0, .slice none 0 0, .slice none 0 0, .slice none 0 0]⟩)] ?_
 refine zzc ?_
 refine sq9 ?_
 refine zza 20 (.v (.int .i64 0)) ?_
 refine zzb 74 [(2, .adr 2 0), (3, .adr 3 0), (4, .adr 4 0), (5, .adr 5 0), (7, .adr 7 0), (20, .v (.int .i64 0))] [(2, ⟨59, [x.v, y.v]⟩), (3, ⟨51, [.int .i64 W.b, .int .i64 W.f, .int .i64 W.r, .int .i64 W.o]⟩), (4, ⟨54, [.slice none 0 0, .slice none 0 0]⟩), (5, ⟨54, [.slice none 0 0, .slice none 0 0]⟩), (7, ⟨104, [.slice none 0 0, .slice none 0 0, .slice none 0 0, .slice none 0 0]⟩)] ?_
 refine zzs ?_
 refine sw_rounds 2 ?_
 refine sq9 ?_
 refine zza 21 (.v (.bool true)) ?_
 refine zzb 74 [(2, .adr 2 0), (3, .adr 3 0), (4, .adr 4 0), (5, .adr 5 0), (7, .adr 7 0), (20, .v (.int .i64 0)), (21, .v (.bool true))] [(2, ⟨59, [x.v, y.v]⟩), (3, ⟨51, [.int .i64 W.b, .int .i64 W.f, .int .i64 W.r, .int .i64 W.o]⟩), (4, ⟨54, [.slice none 0 0, .slice none 0 0]⟩), (5, ⟨54, [.slice none 0 0, .slice none 0 0]⟩), (7, ⟨104, [.slice none 0 0, .slice none 0 0, .slice none 0 0, .slice none 0 0]⟩)] ?_
 refine zzc ?_
 refine zyq (by kernel_rfl) ?_
 refine zzr (zzo ?_)
 refine zzc ?_
 refine zzs ?_
 refine sq9 ?_
 refine zza 22 (.v (.int .i64 0)) ?_
 refine zza 8 (.v (.int .i64 0)) ?_
 refine zzb 74 [(2, .adr 2 0), (3, .adr 3 0), (4, .adr 4 0), (5, .adr 5 0), (7, .adr 7 0), (8, .v (.int .i64 0)), (20, .v (.int .i64 0))] [(2, ⟨59, [x.v, y.v]⟩), (3, ⟨51, [.int .i64 W.b, .int .i64 W.f, .int .i64 W.r, .int .i64 W.o]⟩), (4, ⟨54, [.slice none 0 0, .slice none 0 0]⟩), (5, ⟨54, [.slice none 0 0, .slice none 0 0]⟩), (7, ⟨104, [.slice none 0 0, .slice none 0 0, .slice none 0 0, .slice none 0 0]⟩)] ?_
 refine zzy [0, 0, 0, 6, 0, 30, 63, 127] [(0, []), (1, []), (2, []), (4, []), (3, []), (5, []), (6, []), (7, [])] (by kernel_rfl) (by kernel_rfl) ?_
 refine zza 23 (.v (.int .i64 0)) ?_
 refine zzh 24 (.v (.agg #[x.v, y.v])) ty59 zzd ?_
 refine zza 25 (.v (.int .i64 0)) ?_
 refine zzh 27 (.v (.agg #[.int .i64 W.b, .int .i64 W.f, .int .i64 W.r, .int .i64 W.o])) ty51 zzd ?_
 refine zzf 26 65 [.agg #[x.v, y.v], .int .i64 0] ?_
 intro w15 u15 e15 d15
 have k18 := k_branch0 (x := x) (y := y) d15
 with_reducible refine Post.mono k18 ?_
 rintro _ u16 g17 rfl
 refine zzf 28 64 [x.v, .agg #[.int .i64 W.b, .int .i64 W.f, .int .i64 W.r, .int .i64 W.o]] ?_
 intro w19 u19 e19 d19
 have k26 := k_product (W := W) d19 (hx.ext (e11.trans (g13.ext.trans (e15.trans (g17.ext.trans e19))))) hpx hnx hW
 with_reducible refine Post.mono k26 ?_
 rintro _ u24 g25 ⟨y20, y21, rfl, h22, h23⟩
 have hly20 := h22.len
 have hm27 : (Nt.prodB W.f L L.length).length ≤ 9 := by have h9 := (Nt.prod_len W.f L L.length).1; omega
 have hs28 := (Nt.prodS (f := W.f) (by omega) hpx (Nat.le_refl _) hnx).1
 have hly21 := h23.len
 have hm29 : (Nt.prodA W.f L L.length).length ≤ 9 := by have h9 := (Nt.prod_len W.f L L.length).2; omega
 have hs30 := (Nt.prodS (f := W.f) (by omega) hpx (Nat.le_refl _) hnx).2
 refine zza 29 (.adr 7 0) ?_
 refine zzi ⟨104, [y20.v, y21.v, .slice none 0 0, .slice none 0 0]⟩ ty54 ?_
 refine zzw ?_
 refine zzo ?_
 refine zze ?_
 refine zza 30 (.v (.int .i64 1)) ?_
 refine zza 20 (.v (.int .i64 1)) ?_
 refine zzw ?_
 refine rn_next ?_
 refine sw_weak (T := St.of 74 [(2, .adr 2 0), (3, .adr 3 0), (4, .adr 4 0), (5, .adr 5 0), (7, .adr 7 0), (20, .v (.int .i64 1))] [(2, ⟨59, [.slice x.a x.n x.c, .slice y.a y.n y.c]⟩), (3, ⟨51, [.int .i64 W.b, .int .i64 W.f, .int .i64 W.r, .int .i64 W.o]⟩), (4, ⟨54, [.slice none 0 0, .slice none 0 0]⟩), (5, ⟨54, [.slice none 0 0, .slice none 0 0]⟩), (7, ⟨104, [.slice y20.a y20.n y20.c, .slice y21.a y21.n y21.c, .slice none 0 0, .slice none 0 0]⟩)]) (by exact zzu _ _ _) ?_
 refine sq9 ?_
 refine zza 21 (.v (.bool true)) ?_
 refine zzb 74 [(2, .adr 2 0), (3, .adr 3 0), (4, .adr 4 0), (5, .adr 5 0), (7, .adr 7 0), (20, .v (.int .i64 1)), (21, .v (.bool true))] [(2, ⟨59, [x.v, y.v]⟩), (3, ⟨51, [.int .i64 W.b, .int .i64 W.f, .int .i64 W.r, .int .i64 W.o]⟩), (4, ⟨54, [.slice none 0 0, .slice none 0 0]⟩), (5, ⟨54, [.slice none 0 0, .slice none 0 0]⟩), (7, ⟨104, [y20.v, y21.v, .slice none 0 0, .slice none 0 0]⟩)] ?_
 refine zzc ?_
 refine zyq (by kernel_rfl) ?_
 refine zzr (zzo ?_)
 refine zzc ?_
 refine zzs ?_
 refine sq9 ?_
 refine zza 22 (.v (.int .i64 1)) ?_
 refine zza 8 (.v (.int .i64 1)) ?_
 refine zzb 74 [(2, .adr 2 0), (3, .adr 3 0), (4, .adr 4 0), (5, .adr 5 0), (7, .adr 7 0), (8, .v (.int .i64 1)), (20, .v (.int .i64 1))] [(2, ⟨59, [x.v, y.v]⟩), (3, ⟨51, [.int .i64 W.b, .int .i64 W.f, .int .i64 W.r, .int .i64 W.o]⟩), (4, ⟨54, [.slice none 0 0, .slice none 0 0]⟩), (5, ⟨54, [.slice none 0 0, .slice none 0 0]⟩), (7, ⟨104, [y20.v, y21.v, .slice none 0 0, .slice none 0 0]⟩)] ?_
 refine zzy [0, 0, 0, 6, 0, 30, 63, 127] [(0, []), (1, []), (2, []), (4, []), (3, []), (5, []), (6, []), (7, [])] (by kernel_rfl) (by kernel_rfl) ?_
 refine zza 23 (.v (.int .i64 1)) ?_
 refine zzh 24 (.v (.agg #[x.v, y.v])) ty59 zzd ?_
 refine zza 25 (.v (.int .i64 1)) ?_
 refine zzh 27 (.v (.agg #[.int .i64 W.b, .int .i64 W.f, .int .i64 W.r, .int .i64 W.o])) ty51 zzd ?_
 refine zzf 26 65 [.agg #[x.v, y.v], .int .i64 1] ?_
 intro w31 u31 e31 d31
 have k34 := k_branch1 (x := x) (y := y) d31
 with_reducible refine Post.mono k34 ?_
 rintro _ u32 g33 rfl
 refine zzf 28 64 [y.v, .agg #[.int .i64 W.b, .int .i64 W.f, .int .i64 W.r, .int .i64 W.o]] ?_
 intro w35 u35 e35 d35
 have k42 := k_product (W := W) d35 (hy.ext (e11.trans (g13.ext.trans (e15.trans (g17.ext.trans (e19.trans (g25.ext.trans (e31.trans (g33.ext.trans e35))))))))) hpy hny hW
 with_reducible refine Post.mono k42 ?_
 rintro _ u40 g41 ⟨y36, y37, rfl, h38, h39⟩
 have hly36 := h38.len
 have hm43 : (Nt.prodB W.f M M.length).length ≤ 9 := by have h9 := (Nt.prod_len W.f M M.length).1; omega
 have hs44 := (Nt.prodS (f := W.f) (by omega) hpy (Nat.le_refl _) hny).1
 have hly37 := h39.len
 have hm45 : (Nt.prodA W.f M M.length).length ≤ 9 := by have h9 := (Nt.prod_len W.f M M.length).2; omega
 have hs46 := (Nt.prodS (f := W.f) (by omega) hpy (Nat.le_refl _) hny).2
 refine zza 29 (.adr 7 2) ?_
 refine zzi ⟨104, [y20.v, y21.v, y36.v, y37.v]⟩ ty54 ?_
 refine zzw ?_
 refine zzo ?_
 refine zze ?_
 refine zza 30 (.v (.int .i64 2)) ?_
 refine zza 20 (.v (.int .i64 2)) ?_
 refine zzw ?_
 refine rn_next ?_
 refine sw_weak (T := St.of 74 [(2, .adr 2 0), (3, .adr 3 0), (4, .adr 4 0), (5, .adr 5 0), (7, .adr 7 0), (20, .v (.int .i64 2))] [(2, ⟨59, [.slice x.a x.n x.c, .slice y.a y.n y.c]⟩), (3, ⟨51, [.int .i64 W.b, .int .i64 W.f, .int .i64 W.r, .int .i64 W.o]⟩), (4, ⟨54, [.slice none 0 0, .slice none 0 0]⟩), (5, ⟨54, [.slice none 0 0, .slice none 0 0]⟩), (7, ⟨104, [.slice y20.a y20.n y20.c, .slice y21.a y21.n y21.c, .slice y36.a y36.n y36.c, .slice y37.a y37.n y37.c]⟩)]) (by exact zzu _ _ _) ?_
 refine sq9 ?_
 refine zza 21 (.v (.bool false)) ?_
 refine zzb 74 [(2, .adr 2 0), (3, .adr 3 0), (4, .adr 4 0), (5, .adr 5 0), (7, .adr 7 0), (20, .v (.int .i64 2)), (21, .v (.bool false))] [(2, ⟨59, [x.v, y.v]⟩), (3, ⟨51, [.int .i64 W.b, .int .i64 W.f, .int .i64 W.r, .int .i64 W.o]⟩), (4, ⟨54, [.slice none 0 0, .slice none 0 0]⟩), (5, ⟨54, [.slice none 0 0, .slice none 0 0]⟩), (7, ⟨104, [y20.v, y21.v, y36.v, y37.v]⟩)] ?_
 refine zzc ?_
 refine zyr (by kernel_rfl) ?_
 refine zyb ?_
 refine zzo ?_
 refine sq9 ?_
 refine zza 31 (.adr 7 0) ?_
 refine zza 32 (.adr 7 0) ?_
 refine zzh 33 (.v y20.v) ty32 zzk ?_
 refine zza 34 (.adr 7 2) ?_
 refine zza 35 (.adr 7 3) ?_
 refine zzh 36 (.v y37.v) ty32 zzk ?_
 refine zzf 37 66 [y20.v, y37.v] ?_
 intro w47 u47 e47 d47
 have k52 := k_poMul d47 (h22.ext (e31.trans (g33.ext.trans (e35.trans (g41.ext.trans e47))))).raw (h39.ext e47).raw (Nat.le_trans (Nt.mlK_mono hm27 hm45 (Nat.le_refl _) (Nat.le_refl _)) (by decide +kernel)) (by have h9 := hm27; omega) (by have h9 := hm45; omega) (by have h9 := hm27; omega) (by have h9 := hm45; omega)
 with_reducible refine Post.mono k52 ?_
 rintro _ u50 g51 ⟨y48, rfl, h49⟩
 have hly48 := h49.len
 have hm53 : (Nt.trimQ (Nt.mulQ (Nt.prodB W.f L L.length) (Nt.prodA W.f M M.length))).length ≤ 17 := Nt.mul_lenQ hm27 hm45
 have hs54 : Nt.Sm (Nt.trimQ (Nt.mulQ (Nt.prodB W.f L L.length) (Nt.prodA W.f M M.length))) (Nt.wD W.f ^ L.length * Nt.wD W.f ^ M.length) 425 := ((Nt.Sm.mulR hs28 hs46).trim.more (by omega))
 have hk55 : PolN _ y48 (Nt.trimQ (Nt.mulQ (Nt.prodB W.f L L.length) (Nt.prodA W.f M M.length))) 14 := PolN.fit26 h49 hs54 (by exact ⟨by omega, by omega, by omega, by decide⟩)
 refine zza 9 (.v y48.v) ?_
 refine zzb 74 [(4, .adr 4 0), (5, .adr 5 0), (7, .adr 7 0), (9, .v y48.v)] [(4, ⟨54, [.slice none 0 0, .slice none 0 0]⟩), (5, ⟨54, [.slice none 0 0, .slice none 0 0]⟩), (7, ⟨104, [y20.v, y21.v, y36.v, y37.v]⟩)] ?_
 refine sq9 ?_
 refine zza 38 (.adr 7 2) ?_
 refine zza 39 (.adr 7 2) ?_
 refine zzh 40 (.v y36.v) ty32 zzk ?_
 refine zza 41 (.adr 7 0) ?_
 refine zza 42 (.adr 7 1) ?_
 refine zzh 43 (.v y21.v) ty32 zzk ?_
 refine zzf 44 66 [y36.v, y21.v] ?_
 intro w56 u56 e56 d56
 have k61 := k_poMul d56 (h38.ext (e47.trans (g51.ext.trans e56))).raw (h23.ext (e31.trans (g33.ext.trans (e35.trans (g41.ext.trans (e47.trans (g51.ext.trans e56))))))).raw (Nat.le_trans (Nt.mlK_mono hm43 hm29 (Nat.le_refl _) (Nat.le_refl _)) (by decide +kernel)) (by have h9 := hm43; omega) (by have h9 := hm29; omega) (by have h9 := hm43; omega) (by have h9 := hm29; omega)
 with_reducible refine Post.mono k61 ?_
 rintro _ u59 g60 ⟨y57, rfl, h58⟩
 have hly57 := h58.len
 have hm62 : (Nt.trimQ (Nt.mulQ (Nt.prodB W.f M M.length) (Nt.prodA W.f L L.length))).length ≤ 17 := Nt.mul_lenQ hm43 hm29
 have hs63 : Nt.Sm (Nt.trimQ (Nt.mulQ (Nt.prodB W.f M M.length) (Nt.prodA W.f L L.length))) (Nt.wD W.f ^ M.length * Nt.wD W.f ^ L.length) 425 := ((Nt.Sm.mulR hs44 hs30).trim.more (by omega))
 have hk64 : PolN _ y57 (Nt.trimQ (Nt.mulQ (Nt.prodB W.f M M.length) (Nt.prodA W.f L L.length))) 14 := PolN.fit26 h58 hs63 (by exact ⟨by omega, by omega, by omega, by decide⟩)
 refine zza 10 (.v y57.v) ?_
 refine zzb 74 [(4, .adr 4 0), (5, .adr 5 0), (7, .adr 7 0), (9, .v y48.v), (10, .v y57.v)] [(4, ⟨54, [.slice none 0 0, .slice none 0 0]⟩), (5, ⟨54, [.slice none 0 0, .slice none 0 0]⟩), (7, ⟨104, [y20.v, y21.v, y36.v, y37.v]⟩)] ?_
 refine sq9 ?_
 refine zzf 45 67 [.int .i64 1, .int .i64 2] ?_
 intro w65 u65 e65 d65
 have k70 := k_ratFrac d65 (a := 1) (b := 2) (by omega) (by omega) (by omega) (by omega)
 with_reducible refine Post.mono k70 ?_
 rintro _ u68 g69 ⟨r66, rfl, h67⟩
 refine zzj 11 ⟨29, [.bool false, .slice none 0 0, .slice none 0 0]⟩ ?_
 refine zzi ⟨29, r66.cs⟩ ty29 ?_
 refine zzb 74 [(4, .adr 4 0), (5, .adr 5 0), (7, .adr 7 0), (9, .v y48.v), (10, .v y57.v), (11, .adr 11 0)] [(4, ⟨54, [.slice none 0 0, .slice none 0 0]⟩), (5, ⟨54, [.slice none 0 0, .slice none 0 0]⟩), (7, ⟨104, [y20.v, y21.v, y36.v, y37.v]⟩), (11, ⟨29, r66.cs⟩)] ?_
 refine zzc ?_
 refine zzy [0, 0, 3, 0, 15, 0, 32, 96, 0, 256, 768, 2047, 4095, 0, 16383] [(0, []), (1, []), (3, []), (5, []), (6, []), (7, []), (8, []), (9, []), (10, []), (13, []), (2, []), (4, []), (11, []), (12, []), (14, [])] (by kernel_rfl) (by kernel_rfl) ?_
 refine zza 46 (.v y48.v) ?_
 refine zza 47 (.v y57.v) ?_
 refine zzh 49 (.v (r66.v)) ty29 zzd ?_
 refine zza 51 (.adr 7 0) ?_
 refine zza 52 (.adr 7 1) ?_
 refine zzh 53 (.v y21.v) ty32 zzk ?_
 refine zza 54 (.adr 7 2) ?_
 refine zza 55 (.adr 7 3) ?_
 refine zzh 56 (.v y37.v) ty32 zzk ?_
 refine zzj 12 ⟨54, [.slice none 0 0, .slice none 0 0]⟩ ?_
 refine zzf 48 68 [y48.v, y57.v] ?_
 intro w71 u71 e71 d71
 have k76 := k_poAdd d71 (hk55.ext (e56.trans (g60.ext.trans (e65.trans (g69.ext.trans e71))))).raw (hk64.ext (e65.trans (g69.ext.trans e71))).raw (by omega) (by omega) (by have h9 := hm53; omega) (by have h9 := hm62; omega)
 with_reducible refine Post.mono k76 ?_
 rintro _ u74 g75 ⟨y72, rfl, h73⟩
 have hly72 := h73.len
 have hm77 : (Nt.trimQ (Nt.addQ (Nt.trimQ (Nt.mulQ (Nt.prodB W.f L L.length) (Nt.prodA W.f M M.length))) (Nt.trimQ (Nt.mulQ (Nt.prodB W.f M M.length) (Nt.prodA W.f L L.length))))).length ≤ 17 := Nt.add_lenQ hm53 hm62
 have hk78 : PolN _ y72 (Nt.trimQ (Nt.addQ (Nt.trimQ (Nt.mulQ (Nt.prodB W.f L L.length) (Nt.prodA W.f M M.length))) (Nt.trimQ (Nt.mulQ (Nt.prodB W.f M M.length) (Nt.prodA W.f L L.length))))) 29 := PolN.more h73 (by omega)
 refine zzf 50 51 [y72.v, r66.v] ?_
 intro w79 u79 e79 d79
 have k84 := k_poScale d79 (hk78.ext e79).raw (h67.ext (e71.trans (g75.ext.trans e79))).raw (by omega) (by have h9 := hm77; omega) (by omega)
 with_reducible refine Post.mono k84 ?_
 rintro _ u82 g83 ⟨y80, rfl, h81⟩
 have hly80 := h81.len
 have hm85 : (Nt.trimQ ((Nt.trimQ (Nt.addQ (Nt.trimQ (Nt.mulQ (Nt.prodB W.f L L.length) (Nt.prodA W.f M M.length))) (Nt.trimQ (Nt.mulQ (Nt.prodB W.f M M.length) (Nt.prodA W.f L L.length))))).map (· * (((1 : Int) : Rat) / ((2 : Int) : Rat))))).length ≤ 17 := Nt.map_lenQ hm77
 have hk86 : PolN _ y80 (Nt.trimQ ((Nt.trimQ (Nt.addQ (Nt.trimQ (Nt.mulQ (Nt.prodB W.f L L.length) (Nt.prodA W.f M M.length))) (Nt.trimQ (Nt.mulQ (Nt.prodB W.f M M.length) (Nt.prodA W.f L L.length))))).map (· * (((1 : Int) : Rat) / ((2 : Int) : Rat))))) 31 := PolN.more h81 (by omega)
 refine zzf 57 66 [y21.v, y37.v] ?_
 intro w87 u87 e87 d87
 have k92 := k_poMul d87 (h23.ext (e31.trans (g33.ext.trans (e35.trans (g41.ext.trans (e47.trans (g51.ext.trans (e56.trans (g60.ext.trans (e65.trans (g69.ext.trans (e71.trans (g75.ext.trans (e79.trans (g83.ext.trans e87))))))))))))))).raw (h39.ext (e47.trans (g51.ext.trans (e56.trans (g60.ext.trans (e65.trans (g69.ext.trans (e71.trans (g75.ext.trans (e79.trans (g83.ext.trans e87))))))))))).raw (Nat.le_trans (Nt.mlK_mono hm29 hm45 (Nat.le_refl _) (Nat.le_refl _)) (by decide +kernel)) (by have h9 := hm29; omega) (by have h9 := hm45; omega) (by have h9 := hm29; omega) (by have h9 := hm45; omega)
 with_reducible refine Post.mono k92 ?_
 rintro _ u90 g91 ⟨y88, rfl, h89⟩
 have hly88 := h89.len
 have hm93 : (Nt.trimQ (Nt.mulQ (Nt.prodA W.f L L.length) (Nt.prodA W.f M M.length))).length ≤ 17 := Nt.mul_lenQ hm29 hm45
 have hs94 : Nt.Sm (Nt.trimQ (Nt.mulQ (Nt.prodA W.f L L.length) (Nt.prodA W.f M M.length))) (Nt.wD W.f ^ L.length * Nt.wD W.f ^ M.length) 425 := ((Nt.Sm.mulR hs30 hs46).trim.more (by omega))
 have hk95 : PolN _ y88 (Nt.trimQ (Nt.mulQ (Nt.prodA W.f L L.length) (Nt.prodA W.f M M.length))) 14 := PolN.fit26 h89 hs94 (by exact ⟨by omega, by omega, by omega, by decide⟩)
 refine zza 58 (.v (.agg #[y80.v, y88.v])) ?_
 refine zzi ⟨54, [y80.v, y88.v]⟩ ty54 ?_
 refine zzb 74 [(4, .adr 4 0), (5, .adr 5 0), (7, .adr 7 0), (9, .v y48.v), (10, .v y57.v), (11, .adr 11 0), (12, .adr 12 0)] [(4, ⟨54, [.slice none 0 0, .slice none 0 0]⟩), (5, ⟨54, [.slice none 0 0, .slice none 0 0]⟩), (7, ⟨104, [y20.v, y21.v, y36.v, y37.v]⟩), (11, ⟨29, r66.cs⟩), (12, ⟨54, [y80.v, y88.v]⟩)] ?_
 refine zzc ?_
 refine zzy [0, 0, 3, 0, 15, 0, 32, 96, 0, 256, 768, 2047, 4095, 0, 16383] [(0, []), (1, []), (3, []), (5, []), (6, []), (7, []), (8, []), (9, []), (10, []), (13, []), (2, []), (4, []), (11, []), (12, []), (14, [])] (by kernel_rfl) (by kernel_rfl) ?_
 refine zza 59 (.v y48.v) ?_
 refine zza 60 (.v y57.v) ?_
 refine zzh 62 (.v (r66.v)) ty29 zzd ?_
 refine zza 64 (.adr 7 0) ?_
 refine zza 65 (.adr 7 1) ?_
 refine zzh 66 (.v y21.v) ty32 zzk ?_
 refine zza 67 (.adr 7 2) ?_
 refine zza 68 (.adr 7 3) ?_
 refine zzh 69 (.v y37.v) ty32 zzk ?_
 refine zzj 13 ⟨54, [.slice none 0 0, .slice none 0 0]⟩ ?_
 refine zzf 61 50 [y48.v, y57.v] ?_
 intro w96 u96 e96 d96
 have k101 := k_poSub d96 (hk55.ext (e56.trans (g60.ext.trans (e65.trans (g69.ext.trans (e71.trans (g75.ext.trans (e79.trans (g83.ext.trans (e87.trans (g91.ext.trans e96))))))))))).raw (hk64.ext (e65.trans (g69.ext.trans (e71.trans (g75.ext.trans (e79.trans (g83.ext.trans (e87.trans (g91.ext.trans e96))))))))).raw (by omega) (by omega) (by have h9 := hm53; omega) (by have h9 := hm62; omega)
 with_reducible refine Post.mono k101 ?_
 rintro _ u99 g100 ⟨y97, rfl, h98⟩
 have hly97 := h98.len
 have hm102 : (Nt.trimQ (Nt.addQ (Nt.trimQ (Nt.mulQ (Nt.prodB W.f L L.length) (Nt.prodA W.f M M.length))) ((Nt.trimQ (Nt.mulQ (Nt.prodB W.f M M.length) (Nt.prodA W.f L L.length))).map (fun z => -z)))).length ≤ 17 := Nt.add_lenQ hm53 (show ((Nt.trimQ (Nt.mulQ (Nt.prodB W.f M M.length) (Nt.prodA W.f L L.length))).map (fun z => -z)).length ≤ 17 by rw [List.length_map]; exact hm62)
 have hk103 : PolN _ y97 (Nt.trimQ (Nt.addQ (Nt.trimQ (Nt.mulQ (Nt.prodB W.f L L.length) (Nt.prodA W.f M M.length))) ((Nt.trimQ (Nt.mulQ (Nt.prodB W.f M M.length) (Nt.prodA W.f L L.length))).map (fun z => -z)))) 29 := PolN.more h98 (by omega)
 refine zzf 63 51 [y97.v, r66.v] ?_
 intro w104 u104 e104 d104
 have k109 := k_poScale d104 (hk103.ext e104).raw (h67.ext (e71.trans (g75.ext.trans (e79.trans (g83.ext.trans (e87.trans (g91.ext.trans (e96.trans (g100.ext.trans e104))))))))).raw (by omega) (by have h9 := hm102; omega) (by omega)
 with_reducible refine Post.mono k109 ?_
 rintro _ u107 g108 ⟨y105, rfl, h106⟩
 have hly105 := h106.len
 have hm110 : (Nt.trimQ ((Nt.trimQ (Nt.addQ (Nt.trimQ (Nt.mulQ (Nt.prodB W.f L L.length) (Nt.prodA W.f M M.length))) ((Nt.trimQ (Nt.mulQ (Nt.prodB W.f M M.length) (Nt.prodA W.f L L.length))).map (fun z => -z)))).map (· * (((1 : Int) : Rat) / ((2 : Int) : Rat))))).length ≤ 17 := Nt.map_lenQ hm102
 have hk111 : PolN _ y105 (Nt.trimQ ((Nt.trimQ (Nt.addQ (Nt.trimQ (Nt.mulQ (Nt.prodB W.f L L.length) (Nt.prodA W.f M M.length))) ((Nt.trimQ (Nt.mulQ (Nt.prodB W.f M M.length) (Nt.prodA W.f L L.length))).map (fun z => -z)))).map (· * (((1 : Int) : Rat) / ((2 : Int) : Rat))))) 31 := PolN.more h106 (by omega)
 refine zzf 70 66 [y21.v, y37.v] ?_
 intro w112 u112 e112 d112
 have k117 := k_poMul d112 (h23.ext (e31.trans (g33.ext.trans (e35.trans (g41.ext.trans (e47.trans (g51.ext.trans (e56.trans (g60.ext.trans (e65.trans (g69.ext.trans (e71.trans (g75.ext.trans (e79.trans (g83.ext.trans (e87.trans (g91.ext.trans (e96.trans (g100.ext.trans (e104.trans (g108.ext.trans e112))))))))))))))))))))).raw (h39.ext (e47.trans (g51.ext.trans (e56.trans (g60.ext.trans (e65.trans (g69.ext.trans (e71.trans (g75.ext.trans (e79.trans (g83.ext.trans (e87.trans (g91.ext.trans (e96.trans (g100.ext.trans (e104.trans (g108.ext.trans e112))))))))))))))))).raw (Nat.le_trans (Nt.mlK_mono hm29 hm45 (Nat.le_refl _) (Nat.le_refl _)) (by decide +kernel)) (by have h9 := hm29; omega) (by have h9 := hm45; omega) (by have h9 := hm29; omega) (by have h9 := hm45; omega)
 with_reducible refine Post.mono k117 ?_
 rintro _ u115 g116 ⟨y113, rfl, h114⟩
 have hly113 := h114.len
 have hm118 : (Nt.trimQ (Nt.mulQ (Nt.prodA W.f L L.length) (Nt.prodA W.f M M.length))).length ≤ 17 := Nt.mul_lenQ hm29 hm45
 have hs119 : Nt.Sm (Nt.trimQ (Nt.mulQ (Nt.prodA W.f L L.length) (Nt.prodA W.f M M.length))) (Nt.wD W.f ^ L.length * Nt.wD W.f ^ M.length) 425 := ((Nt.Sm.mulR hs30 hs46).trim.more (by omega))
 have hk120 : PolN _ y113 (Nt.trimQ (Nt.mulQ (Nt.prodA W.f L L.length) (Nt.prodA W.f M M.length))) 14 := PolN.fit26 h114 hs119 (by exact ⟨by omega, by omega, by omega, by decide⟩)
 refine zza 71 (.v (.agg #[y105.v, y113.v])) ?_
 refine zzi ⟨54, [y105.v, y113.v]⟩ ty54 ?_
 refine zzb 74 [(4, .adr 4 0), (5, .adr 5 0), (12, .adr 12 0), (13, .adr 13 0)] [(4, ⟨54, [.slice none 0 0, .slice none 0 0]⟩), (5, ⟨54, [.slice none 0 0, .slice none 0 0]⟩), (12, ⟨54, [y80.v, y88.v]⟩), (13, ⟨54, [y105.v, y113.v]⟩)] ?_
 refine zzc ?_
 refine zzy [0, 0, 1, 7, 15] [(0, []), (1, []), (2, [13]), (3, []), (4, [])] (by kernel_rfl) (by kernel_rfl) ?_
 refine zzh 72 (.v (.agg #[y80.v, y88.v])) ty54 zzd ?_
 refine zzh 73 (.v (.agg #[y105.v, y113.v])) ty54 zzd ?_
 refine zzi ⟨54, [y80.v, y88.v]⟩ ty54 ?_
 refine zzi ⟨54, [y105.v, y113.v]⟩ ty54 ?_
 refine zza 6 (.v (.int .i64 0)) ?_
 refine zzb 74 [(4, .adr 4 0), (5, .adr 5 0), (6, .v (.int .i64 0))] [(4, ⟨54, [y80.v, y88.v]⟩), (5, ⟨54, [y105.v, y113.v]⟩)] ?_
 refine zzn (ret0 [.agg #[.slice y80.a y80.n y80.c, .slice y88.a y88.n y88.c], .agg #[.slice y105.a y105.n y105.c, .slice y113.a y113.n y113.c], .int .i64 0] ⟨zzq ty54 zzd, zzq ty54 zzd, zzp, trivial⟩ fun u121 e122 => ?_)
 exact ⟨y80, y88, y105, y113, rfl, PolN.more (K := 31) (hk86.ext (e87.trans (g91.ext.trans (e96.trans (g100.ext.trans (e104.trans (g108.ext.trans (e112.trans (g116.ext.trans e122))))))))) (by decide), PolN.more (K := 14) (hk95.ext (e96.trans (g100.ext.trans (e104.trans (g108.ext.trans (e112.trans (g116.ext.trans e122))))))) (by decide), PolN.more (K := 31) (hk111.ext (e112.trans (g116.ext.trans e122))) (by decide), PolN.more (K := 14) (hk120.ext e122) (by decide)⟩
theorem k_wAllPass {u w : World} {W : WL} {p : PL} (d : Dat u w) (hW : WdOK W) (hf : 1 ≤ W.f) (hp : PasOK W.f p) : Calls Tryz.prog 28 #[p.v, W.v] w (Post u w fun v u' => ∃ y z : Sl, v = .tuple #[.agg #[y.v, z.v], .int .i64 0] ∧ PolN u' y (Nt.trimQ (Nt.secB W.f p)) 10 ∧ PolN u' z (Nt.trimQ (Nt.secA W.f p)) 10) := by
 obtain ⟨hw1, hw2, hw3, hw4, hw5, hw6, hw7, hw8⟩ := id hW
 refine zzl (args := [.agg #[.int .i64 p.o, .int .i64 p.g, .int .i64 p.h], .agg #[.int .i64 W.b, .int .i64 W.f, .int .i64 W.r, .int .i64 W.o]]) Tryz.func28 rfl Tryz.ntmps28 (rs := [.cell 4 54, .tmp 5]) Tryz.results28 (le_b rfl) (le_b rfl) d ?_
 refine sq9 ?_
 refine zzj 2 ⟨65, [.int .i64 p.o, .int .i64 p.g, .int .i64 p.h]⟩ ?_
 refine zzj 3 ⟨51, [.int .i64 W.b, .int .i64 W.f, .int .i64 W.r, .int .i64 W.o]⟩ ?_
 refine zzj 4 ⟨54, [.slice none 0 0, .slice none 0 0]⟩ ?_
 refine zza 5 (.v (.int .i64 0)) ?_
 refine zzb 18 [(2, .adr 2 0), (3, .adr 3 0), (4, .adr 4 0)] [(2, ⟨65, [.int .i64 p.o, .int .i64 p.g, .int .i64 p.h]⟩), (3, ⟨51, [.int .i64 W.b, .int .i64 W.f, .int .i64 W.r, .int .i64 W.o]⟩), (4, ⟨54, [.slice none 0 0, .slice none 0 0]⟩)] ?_
 refine zzc ?_
 refine sq9 ?_
 refine zzh 6 (.v (.agg #[.int .i64 W.b, .int .i64 W.f, .int .i64 W.r, .int .i64 W.o])) ty51 zzd ?_
 refine zzf 7 71 [.agg #[.int .i64 W.b, .int .i64 W.f, .int .i64 W.r, .int .i64 W.o]] ?_
 intro w11 u11 e11 d11
 have k14 := k_suitable (W := W) d11 hW hf
 with_reducible refine Post.mono k14 ?_
 rintro _ u12 g13 rfl
 refine zza 8 (.v (.bool false)) ?_
 refine zzb 18 [(2, .adr 2 0), (3, .adr 3 0), (4, .adr 4 0), (8, .v (.bool false))] [(2, ⟨65, [.int .i64 p.o, .int .i64 p.g, .int .i64 p.h]⟩), (3, ⟨51, [.int .i64 W.b, .int .i64 W.f, .int .i64 W.r, .int .i64 W.o]⟩), (4, ⟨54, [.slice none 0 0, .slice none 0 0]⟩)] ?_
 refine zyr (by kernel_rfl) ?_
 refine zzr (zzo ?_)
 refine zzc ?_
 refine sq9 ?_
 refine zzh 10 (.v (.agg #[.int .i64 p.o, .int .i64 p.g, .int .i64 p.h])) ty65 zzd ?_
 refine zzh 11 (.v (.agg #[.int .i64 W.b, .int .i64 W.f, .int .i64 W.r, .int .i64 W.o])) ty51 zzd ?_
 refine zzf 12 72 [.agg #[.int .i64 p.o, .int .i64 p.g, .int .i64 p.h], .agg #[.int .i64 W.b, .int .i64 W.f, .int .i64 W.r, .int .i64 W.o]] ?_
 intro w15 u15 e15 d15
 have k18 := k_permitted (p := p) (W := W) d15 hW hp
 with_reducible refine Post.mono k18 ?_
 rintro _ u16 g17 rfl
 refine zza 13 (.v (.bool false)) ?_
 refine zzb 18 [(2, .adr 2 0), (3, .adr 3 0), (4, .adr 4 0), (13, .v (.bool false))] [(2, ⟨65, [.int .i64 p.o, .int .i64 p.g, .int .i64 p.h]⟩), (3, ⟨51, [.int .i64 W.b, .int .i64 W.f, .int .i64 W.r, .int .i64 W.o]⟩), (4, ⟨54, [.slice none 0 0, .slice none 0 0]⟩)] ?_
 refine zyr (by kernel_rfl) ?_
 refine zzr (zzo ?_)
 refine sq9 ?_
 refine zzh 15 (.v (.agg #[.int .i64 p.o, .int .i64 p.g, .int .i64 p.h])) ty65 zzd ?_
 refine zzh 16 (.v (.agg #[.int .i64 W.b, .int .i64 W.f, .int .i64 W.r, .int .i64 W.o])) ty51 zzd ?_
 refine zzf 17 73 [.agg #[.int .i64 p.o, .int .i64 p.g, .int .i64 p.h], .agg #[.int .i64 W.b, .int .i64 W.f, .int .i64 W.r, .int .i64 W.o]] ?_
 intro w19 u19 e19 d19
 have k26 := k_section (p := p) (W := W) d19 hW hp
 with_reducible refine Post.mono k26 ?_
 rintro _ u24 g25 ⟨y20, y21, rfl, h22, h23⟩
 have hly20 := h22.len
 have hmy20 := Nat.le_trans (Nt.zzg (Nt.secB W.f p)) (Nt.sec_len W.f p).1
 have hly21 := h23.len
 have hmy21 := Nat.le_trans (Nt.zzg (Nt.secA W.f p)) (Nt.sec_len W.f p).2
 refine zzi ⟨54, [y20.v, y21.v]⟩ ty54 ?_
 refine zza 5 (.v (.int .i64 0)) ?_
 refine zzb 18 [(4, .adr 4 0), (5, .v (.int .i64 0))] [(4, ⟨54, [y20.v, y21.v]⟩)] ?_
 refine zzn (ret0 [.agg #[.slice y20.a y20.n y20.c, .slice y21.a y21.n y21.c], .int .i64 0] ⟨zzq ty54 zzd, zzp, trivial⟩ fun u27 e28 => ?_)
 exact ⟨y20, y21, rfl, (h22.ext e28), (h23.ext e28)⟩
namespace Nt
theorem cheb_smP (n : Nat) : Sm (chebP n).1 1 (4 * n) ∧ Sm (chebP n).2 1 (4 * (n + 1)) := by
 induction n with
 | zero => exact ⟨Sm.ofInts (zs := [1]) (by decide), Sm.ofInts (zs := [0, 1]) (by decide)⟩
 | succ n ih =>
  refine ⟨ih.2, ?_⟩
  have h2 : Sm [((0 : Int) : Rat), ((2 : Int) : Rat)] 1 1 := Sm.ofInts (zs := [0, 2]) (by decide)
  have h1 : Sm (trimQ (mulQ (chebP n).2 [((0 : Int) : Rat), ((2 : Int) : Rat)])) 1 (4 * n + 7) := ((ih.2.mulR h2).trim).more (by simp; omega)
  have h3 : Sm (trimQ ((chebP n).1.map (· * (((-1) : Int) : Rat)))) 1 (4 * n + 7) := ((ih.1.map (E := 1) (by decide) (B := 0) ⟨-1, by decide +kernel, by decide⟩).trim).more (by omega)
  exact ((h1.add h3).trim).more (by omega)
theorem cheb_lenP (n : Nat) : (chebP n).1.length ≤ n + 1 ∧ (chebP n).2.length ≤ n + 2 := by
 induction n with
 | zero => exact ⟨Nat.le_refl _, Nat.le_refl _⟩
 | succ n ih =>
  refine ⟨ih.2, ?_⟩
  have h1 : (trimQ (mulQ (chebP n).2 [((0 : Int) : Rat), ((2 : Int) : Rat)])).length ≤ n + 2 + 2 - 1 := mul_lenQ ih.2 (Nat.le_refl _)
  have h3 : (trimQ ((chebP n).1.map (· * (((-1) : Int) : Rat)))).length ≤ n + 1 := map_lenQ ih.1
  refine Nat.le_trans (zzg _) ?_
  rw [addQ_len]
  omega
theorem chebL_len (n : Nat) : (chebL n).length ≤ n + 1 := Nat.le_trans (zzg _) (cheb_lenP n).1
theorem sumL_len (c : List Rat) (n : Nat) : (sumL c n).length ≤ n := by
 induction n with
 | zero => exact Nat.le_refl _
 | succ n ih =>
  have h3 : (trimQ ((chebL n).map (· * co c n))).length ≤ n + 1 := map_lenQ (chebL_len n)
  refine Nat.le_trans (zzg _) ?_
  rw [addQ_len]
  omega
theorem crL_len (b c : List Rat) (n : Nat) : (crL b c n).length = n := by unfold crL; simp
theorem crS_zero (b c : List Rat) (j : Nat) : crS b c 0 (j + 1) = crS b c 0 j + b.getD j 0 * c.getD (j + 0) 0 := if_neg (by omega)
theorem crS_pos (b c : List Rat) {k : Nat} (h : 0 < k) (j : Nat) : crS b c k (j + 1) = crS b c k j + b.getD j 0 * c.getD (j + k) 0 + b.getD (j + k) 0 * c.getD j 0 := if_pos h
end Nt
set_option maxHeartbeats 2000000 in
theorem k_cheb {u w : World} {n : Nat} (d : Dat u w) (hn : n ≤ 20) : Calls Tryz.prog 173 #[.int .i64 (n : Int)] w (Post u w fun v u' => ∃ y : Sl, v = y.v ∧ PolN u' y (Nt.chebL n) 3) := by
 refine zzl (args := [.int .i64 (n : Int)]) Tryz.func173 rfl Tryz.ntmps173 (rs := [.tmp 2]) Tryz.results173 (le_b rfl) (le_b rfl) d ?_
 refine sq9 ?_
 refine zza 2 (.v (.slice none 0 0)) ?_
 refine zzb 24 [(0, .v (.int .i64 (n : Int)))] [] ?_
 refine sq9 ?_
 refine zzf 5 19 [.int .i64 1] ?_
 intro w11 u11 e11 d11
 have k16 := k_rqOf d11 (z := 1) (by omega) (by omega)
 with_reducible refine Post.mono k16 ?_
 rintro _ u14 g15 ⟨r12, rfl, h13⟩
 refine sy_data 6 ⟨29, r12.cs⟩ 1 (fun b17 u18 e19 h20 => ?_)
 have hp21 : PolN u18 (⟨some ⟨b17, 0, none⟩, 1, 1⟩ : Sl) [((1 : Int) : Rat)] 2 := pol_lit (L := [r12]) h20 (rats1 (h13.ext e19)) rfl (by decide)
 refine zzf 7 19 [.int .i64 0] ?_
 intro w22 u22 e22 d22
 have k27 := k_rqOf d22 (z := 0) (by omega) (by omega)
 with_reducible refine Post.mono k27 ?_
 rintro _ u25 g26 ⟨r23, rfl, h24⟩
 refine zzf 8 19 [.int .i64 1] ?_
 intro w28 u28 e28 d28
 have k33 := k_rqOf d28 (z := 1) (by omega) (by omega)
 with_reducible refine Post.mono k33 ?_
 rintro _ u31 g32 ⟨r29, rfl, h30⟩
 refine sy_data 9 ⟨29, r23.cs ++ r29.cs⟩ 2 (fun b34 u35 e36 h37 => ?_)
 have hp38 : PolN u35 (⟨some ⟨b34, 0, none⟩, 2, 2⟩ : Sl) [((0 : Int) : Rat), ((1 : Int) : Rat)] 2 := pol_lit (L := [r23, r29]) h37 (rats2 (h24.ext (e28.trans (g32.ext.trans e36))) (h30.ext e36)) rfl (by decide)
 refine zza 3 (.v (.slice (some ⟨b17, 0, none⟩) 1 1)) ?_
 refine zza 4 (.v (.slice (some ⟨b34, 0, none⟩) 2 2)) ?_
 refine zzb 24 [(0, .v (.int .i64 (n : Int))), (3, .v (.slice (some ⟨b17, 0, none⟩) 1 1)), (4, .v (.slice (some ⟨b34, 0, none⟩) 2 2))] [] ?_
 refine zzc ?_
 refine zzs ?_
 refine zym (I := fun m39 S' u' => ∃ (j : Nat) (k : Nat) (a : Sl) (b : Sl), (m39 = k) ∧ (j + k = n) ∧ (S' = St.of 24 [(0, .v (.int .i64 (k : Int))), (3, .v (.slice a.a a.n a.c)), (4, .v (.slice b.a b.n b.c))] []) ∧ (Ext u35 u') ∧ (PolN u' a (Nt.chebP j).1 3) ∧ (PolN u' b (Nt.chebP j).2 3)) (fun m S u1 u2 e h => by obtain ⟨j, k, a, b, hm, p0, hS, hE, f0, f1⟩ := h; exact ⟨j, k, a, b, hm, p0, hS, hE.trans e, f0.ext e, f1.ext e⟩) _ (T := St.of 24 [(0, .v (.int .i64 (n : Int))), (3, .v (.slice (some ⟨b17, 0, none⟩) 1 1)), (4, .v (.slice (some ⟨b34, 0, none⟩) 2 2))] []) (by exact zzu _ _ _) ⟨0, n, (⟨some ⟨b17, 0, none⟩, 1, 1⟩ : Sl), (⟨some ⟨b34, 0, none⟩, 2, 2⟩ : Sl), rfl, by omega, rfl, Ext.refl _, (PolN.more (hp21.ext (e22.trans (g26.ext.trans (e28.trans (g32.ext.trans e36))))) (by decide)), (PolN.more hp38 (by decide))⟩ ?_
 rintro m39 _ u39 ⟨j, k, a, b, hm39, hj, rfl, e39, hA, hB⟩
 have hal := hA.len
 have hbl := hB.len
 have hl1 := (Nt.cheb_lenP j).1
 have hl2 := (Nt.cheb_lenP j).2
 refine zzc ?_
 refine sq9 ?_
 refine zza 10 (.v (.int .i64 (k : Int))) ?_
 refine zza 11 (.v (.bool (decide ((0 : Int) < (k : Int))))) ?_
 refine zzb 24 [(0, .v (.int .i64 (k : Int))), (3, .v a.v), (4, .v b.v), (11, .v (.bool (decide ((0 : Int) < (k : Int)))))] [] ?_
 refine zzt (b := decide ((0 : Int) < (k : Int))) (by kernel_rfl) (fun hb40 => ?_) (fun hb40 => ?_)
 ·replace hb40 : (decide ((0 : Int) < (k : Int))) = true := hb40
  have qhb40 := of_decide_eq_true hb40
  refine zzr (zzo ?_)
  refine zzc ?_
  refine zzs ?_
  refine zze ?_
  refine zza 14 (.v b.v) ?_
  refine zza 15 (.v b.v) ?_
  refine zzf 16 19 [.int .i64 0] ?_
  intro w41 u41 e41 d41
  have k46 := k_rqOf d41 (z := 0) (by omega) (by omega)
  with_reducible refine Post.mono k46 ?_
  rintro _ u44 g45 ⟨r42, rfl, h43⟩
  refine zzf 17 19 [.int .i64 2] ?_
  intro w47 u47 e47 d47
  have k52 := k_rqOf d47 (z := 2) (by omega) (by omega)
  with_reducible refine Post.mono k52 ?_
  rintro _ u50 g51 ⟨r48, rfl, h49⟩
  refine sy_data 18 ⟨29, r42.cs ++ r48.cs⟩ 2 (fun b53 u54 e55 h56 => ?_)
  have hp57 : PolN u54 (⟨some ⟨b53, 0, none⟩, 2, 2⟩ : Sl) [((0 : Int) : Rat), ((2 : Int) : Rat)] 2 := pol_lit (L := [r42, r48]) h56 (rats2 (h43.ext (e47.trans (g51.ext.trans e55))) (h49.ext e55)) rfl (by decide)
  refine zzf 19 80 [b.v, .slice (some ⟨b53, 0, none⟩) 2 2] ?_
  intro w58 u58 e58 d58
  have hkk : Nt.kk (3 + 2 + 3) ((Nt.chebP j).2.length * [((0 : Int) : Rat), ((2 : Int) : Rat)].length) ≤ 500 := Nat.le_trans (Nt.kk_mono (show _ ≤ 8 by omega) (Nat.mul_le_mul (show _ ≤ 22 by omega) (show _ ≤ 2 by simp))) (by decide)
  have k63 := k_r5Mul d58 (hB.ext (e41.trans (g45.ext.trans (e47.trans (g51.ext.trans (e55.trans e58)))))).raw (hp57.ext e58).raw (Nat.le_trans hkk (by decide)) (by omega) (by omega) (by omega) (by simp)
  with_reducible refine Post.mono k63 ?_
  rintro _ u61 g62 ⟨y59, rfl, h60⟩
  have hk64 := (PolN.more h60 hkk : PolN _ _ _ 500)
  have hly59 := h60.len
  have hmy59 : (Nt.trimQ (Nt.mulQ (Nt.chebP j).2 [((0 : Int) : Rat), ((2 : Int) : Rat)])).length ≤ j + 2 + 2 - 1 := Nt.mul_lenQ hl2 (Nat.le_refl _)
  refine zza 20 (.v a.v) ?_
  refine zzf 21 55 [y59.v, a.v] ?_
  intro w65 u65 e65 d65
  have k70 := k_r5Sub d65 (hk64.ext e65).raw (hA.ext (e41.trans (g45.ext.trans (e47.trans (g51.ext.trans (e55.trans (e58.trans (g62.ext.trans e65)))))))).raw (by omega) (by omega) (by first|omega|(simp;omega) | (refine Nat.le_trans (Nt.zzg _) ?_; first|omega|(simp;omega)) | (refine Nat.le_trans (Nt.zzg _) ?_; simp only [List.length_map]; refine Nat.le_trans (Nt.zzg _) ?_; first|omega|(simp;omega))) (by first|omega|(simp;omega) | (refine Nat.le_trans (Nt.zzg _) ?_; first|omega|(simp;omega)) | (refine Nat.le_trans (Nt.zzg _) ?_; simp only [List.length_map]; refine Nat.le_trans (Nt.zzg _) ?_; first|omega|(simp;omega)))
  with_reducible refine Post.mono k70 ?_
  rintro _ u68 g69 ⟨y66, rfl, h67⟩
  have hly66 := h67.len
  refine zza 3 (.v b.v) ?_
  refine zza 4 (.v y66.v) ?_
  refine zzw ?_
  refine zzo ?_
  refine zze ?_
  refine zza 12 (.v (.int .i64 (k : Int))) ?_
  refine zyp 13 (x := .v (.int .i64 (IntKind.i64.wrap ((k : Int) - 1)))) (.v (.int .i64 ((k - 1 : Nat) : Int))) (eqI (by rw [IntWalk.i64_in _ (by omega)]; omega)) ?_
  refine zza 0 (.v (.int .i64 ((k - 1 : Nat) : Int))) ?_
  refine zzw ?_
  refine ⟨_, ?_, St.of 24 [(0, .v (.int .i64 ((k - 1 : Nat) : Int))), (3, .v (.slice b.a b.n b.c)), (4, .v (.slice y66.a y66.n y66.c))] [], by exact zzu _ _ _, j + 1, k - 1, b, y66, rfl, by omega, rfl, (e39.trans (e41.trans (g45.ext.trans (e47.trans (g51.ext.trans (e55.trans (e58.trans (g62.ext.trans (e65.trans g69.ext))))))))), (by have h9 : PolN _ _ (Nt.chebP (j + 1)).1 _ := (hB.ext (e41.trans (g45.ext.trans (e47.trans (g51.ext.trans (e55.trans (e58.trans (g62.ext.trans (e65.trans g69.ext))))))))); exact (PolN.fitS h9 ((Nt.cheb_smP (j + 1)).1.more (show _ ≤ 84 by omega)) (by decide)).more (by decide)), (by have h9 : PolN _ _ (Nt.chebP (j + 1)).2 _ := h67; exact (PolN.fitS h9 ((Nt.cheb_smP (j + 1)).2.more (show _ ≤ 84 by omega)) (by decide)).more (by decide))⟩
  omega
 ·replace hb40 : (decide ((0 : Int) < (k : Int))) = false := hb40
  have qhb40 := of_decide_eq_false hb40
  refine zyb ?_
  refine zzo ?_
  refine sq9 ?_
  refine zza 22 (.v a.v) ?_
  refine zzf 23 53 [a.v] ?_
  intro w71 u71 e71 d71
  have k76 := k_r5Trim d71 (hA.ext e71).raw (by omega) (by first|omega|(simp;omega) | (refine Nat.le_trans (Nt.zzg _) ?_; first|omega|(simp;omega)) | (refine Nat.le_trans (Nt.zzg _) ?_; simp only [List.length_map]; refine Nat.le_trans (Nt.zzg _) ?_; first|omega|(simp;omega)))
  with_reducible refine Post.mono k76 ?_
  rintro _ u74 g75 ⟨y72, rfl, h73⟩
  have hly72 := h73.len
  refine zza 2 (.v y72.v) ?_
  refine zzb 24 [(2, .v y72.v)] [] ?_
  refine zzn (ret0 [.slice y72.a y72.n y72.c] ⟨zzp, trivial⟩ fun u77 e78 => ?_)
  have hjn : j = n := by omega
  refine ⟨y72, rfl, ?_⟩
  have h9 := (h73.ext e78)
  rw [hjn] at h9
  exact h9
set_option maxHeartbeats 2000000 in
theorem k_r8sum {u w : World} {x : Sl} {l : List Rat} (d : Dat u w) (hx : PolN u x l 6000) (hl : l.length ≤ 20) : Calls Tryz.prog 133 #[x.v] w (Post u w fun v u' => ∃ y : Sl, v = y.v ∧ PolN u' y (Nt.sumL l l.length) 130000) := by
 have hlen := hx.len
 refine zzl (args := [.slice x.a x.n x.c]) Tryz.func133 rfl Tryz.ntmps133 (rs := [.tmp 2]) Tryz.results133 (le_b rfl) (le_b rfl) d ?_
 refine sq9 ?_
 refine zza 2 (.v (.slice none 0 0)) ?_
 refine zzb 21 [(0, .v x.v)] [] ?_
 refine sq9 ?_
 refine zza 3 (.v (.slice none 0 0)) ?_
 refine zzb 21 [(0, .v x.v), (3, .v (.slice none 0 0))] [] ?_
 refine zzc ?_
 refine sq9 ?_
 refine zza 5 (.v x.v) ?_
 refine zza 6 (.v (.int .i64 (x.n : Int))) ?_
 refine zza 7 (.v (.int .i64 0)) ?_
 refine zzb 21 [(0, .v x.v), (3, .v (.slice none 0 0)), (6, .v (.int .i64 (x.n : Int))), (7, .v (.int .i64 0))] [] ?_
 refine zzs ?_
 refine zym (I := fun m11 S' u' => ∃ (i : Nat) (a : Sl), (m11 = l.length - i) ∧ (i ≤ l.length) ∧ (S' = St.of 21 [(0, .v (.slice x.a x.n x.c)), (3, .v (.slice a.a a.n a.c)), (6, .v (.int .i64 (x.n : Int))), (7, .v (.int .i64 (i : Int)))] []) ∧ (Ext u u') ∧ (PolN u' a (Nt.sumL l i) (i * 6020 + 1))) (fun m S u1 u2 e h => by obtain ⟨i, a, hm, p0, hS, hE, f0⟩ := h; exact ⟨i, a, hm, p0, hS, hE.trans e, f0.ext e⟩) _ (T := St.of 21 [(0, .v (.slice x.a x.n x.c)), (3, .v (.slice none 0 0)), (6, .v (.int .i64 (x.n : Int))), (7, .v (.int .i64 0))] []) (by exact zzu _ _ _) ⟨0, ⟨none, 0, 0⟩, rfl, Nat.zero_le _, rfl, Ext.refl _, pol_nil _ _⟩ ?_
 rintro m11 _ u11 ⟨i, a, hm11, hi, rfl, e11, hA⟩
 have hal := hA.len
 have hl1 := Nt.sumL_len l i
 refine sq9 ?_
 refine zza 8 (.v (.bool (decide ((i : Int) < (x.n : Int))))) ?_
 refine zzb 21 [(0, .v x.v), (3, .v a.v), (6, .v (.int .i64 (x.n : Int))), (7, .v (.int .i64 (i : Int))), (8, .v (.bool (decide ((i : Int) < (x.n : Int)))))] [] ?_
 refine zzc ?_
 refine zzt (b := decide ((i : Int) < (x.n : Int))) (by kernel_rfl) (fun hb12 => ?_) (fun hb12 => ?_)
 ·replace hb12 : (decide ((i : Int) < (x.n : Int))) = true := hb12
  have qhb12 := of_decide_eq_true hb12
  refine zzr (zzo ?_)
  refine zzc ?_
  refine zzs ?_
  refine sq9 ?_
  refine zza 9 (.v (.int .i64 (i : Int))) ?_
  refine zza 4 (.v (.int .i64 (i : Int))) ?_
  refine zzb 21 [(0, .v x.v), (3, .v a.v), (4, .v (.int .i64 (i : Int))), (6, .v (.int .i64 (x.n : Int))), (7, .v (.int .i64 (i : Int)))] [] ?_
  refine zzy [0, 0, 2, 0, 0, 24, 56, 126, 255, 511] [(0, []), (1, []), (3, []), (4, []), (5, []), (6, []), (2, []), (7, []), (8, []), (9, [])] (by kernel_rfl) (by kernel_rfl) ?_
  refine zza 10 (.v a.v) ?_
  refine zza 11 (.v (.int .i64 (i : Int))) ?_
  refine zza 13 (.v x.v) ?_
  refine zza 14 (.v (.int .i64 (i : Int))) ?_
  have hl13 := (hx.ext e11).len
  obtain ⟨r13, b13, o13, hA13, hc13, hr13⟩ := pol_atN (hx.ext e11) (i := i) (by omega)
  refine zzz 15 (o13 + i * 3) (n := x.n) (off := o13) (sz := 3) (i := (i : Int)) (by omega) hA13 (by omega) (by omega) sl24 ?_
  refine zyl 16 r13.cs hc13 ty29 ?_
  refine zzf 12 173 [.int .i64 (i : Int)] ?_
  intro w14 u14 e14 d14
  have k19 := k_cheb (n := i) d14 (by omega)
  with_reducible refine Post.mono k19 ?_
  rintro _ u17 g18 ⟨y15, rfl, h16⟩
  have hly15 := h16.len
  have hmy15 := Nt.chebL_len i
  refine zzf 17 21 [y15.v, r13.v] ?_
  intro w20 u20 e20 d20
  have k25 := k_r5Scale d20 (h16.ext e20).raw (hr13.ext (e14.trans (g18.ext.trans e20))).raw (by omega) (by omega) (by omega)
  with_reducible refine Post.mono k25 ?_
  rintro _ u23 g24 ⟨y21, rfl, h22⟩
  have hly21 := h22.len
  refine zzf 18 20 [a.v, y21.v] ?_
  intro w26 u26 e26 d26
  have k31 := k_r5Add d26 (hA.ext (e14.trans (g18.ext.trans (e20.trans (g24.ext.trans e26))))).raw (h22.ext e26).raw (by omega) (by omega) (by first|omega|(simp;omega) | (refine Nat.le_trans (Nt.zzg _) ?_; first|omega|(simp;omega)) | (refine Nat.le_trans (Nt.zzg _) ?_; simp only [List.length_map]; refine Nat.le_trans (Nt.zzg _) ?_; first|omega|(simp;omega))) (by first|omega|(simp;omega) | (refine Nat.le_trans (Nt.zzg _) ?_; first|omega|(simp;omega)) | (refine Nat.le_trans (Nt.zzg _) ?_; simp only [List.length_map]; refine Nat.le_trans (Nt.zzg _) ?_; first|omega|(simp;omega)))
  with_reducible refine Post.mono k31 ?_
  rintro _ u29 g30 ⟨y27, rfl, h28⟩
  have hly27 := h28.len
  refine zza 3 (.v y27.v) ?_
  refine zzw ?_
  refine zzo ?_
  refine zze ?_
  refine zyp 19 (x := .v (.int .i64 (IntKind.i64.wrap ((i : Int) + 1)))) (.v (.int .i64 ((i + 1 : Nat) : Int))) (eqI (by rw [IntWalk.i64_in _ (by omega)]; omega)) ?_
  refine zza 7 (.v (.int .i64 ((i + 1 : Nat) : Int))) ?_
  refine zzw ?_
  refine ⟨_, ?_, St.of 21 [(0, .v (.slice x.a x.n x.c)), (3, .v (.slice y27.a y27.n y27.c)), (6, .v (.int .i64 (x.n : Int))), (7, .v (.int .i64 ((i + 1 : Nat) : Int)))] [], by exact zzu _ _ _, i + 1, y27, rfl, by omega, rfl, (e11.trans (e14.trans (g18.ext.trans (e20.trans (g24.ext.trans (e26.trans g30.ext)))))), (show PolN _ _ (Nt.sumL l (i + 1)) _ from PolN.more (K := ((i * 6020 + 1) + (3 + 6000 + 1) + 6)) h28 (by omega))⟩
  omega
 ·replace hb12 : (decide ((i : Int) < (x.n : Int))) = false := hb12
  have qhb12 := of_decide_eq_false hb12
  refine zyb ?_
  refine zzo ?_
  refine sq9 ?_
  refine zza 20 (.v a.v) ?_
  refine zza 2 (.v a.v) ?_
  refine zzb 21 [(2, .v a.v)] [] ?_
  refine zzn (ret0 [.slice a.a a.n a.c] ⟨zzp, trivial⟩ fun u32 e33 => ?_)
  have hjn : i = l.length := by omega
  refine ⟨a, rfl, ?_⟩
  have h9 := (hA.ext e33)
  rw [hjn] at h9
  exact h9.more (by omega)
set_option maxHeartbeats 4000000 in
theorem k_cross {u w : World} {x : Sl} {l : List Rat} {K : Nat} (d : Dat u w) (hx : PolV u x l K) (hK : K ≤ 50) (hl : l.length ≤ 20) : Calls Tryz.prog 70 #[x.v, x.v] w (Post u w fun v u' => ∃ y : Sl, v = .tuple #[y.v, .int .i64 0] ∧ PolN u' y (Nt.magL l) 130000) := by
 have hlen := hx.len
 have htl := Nt.zzg l
 refine zzl (args := [.slice x.a x.n x.c, .slice x.a x.n x.c]) Tryz.func70 rfl Tryz.ntmps70 (rs := [.tmp 4, .tmp 5]) Tryz.results70 (le_b rfl) (le_b rfl) d ?_
 refine sq9 ?_
 refine zza 4 (.v (.slice none 0 0)) ?_
 refine zza 5 (.v (.int .i64 0)) ?_
 refine zzb 77 [(0, .v x.v), (1, .v x.v)] [] ?_
 refine sq9 ?_
 refine zza 10 (.v x.v) ?_
 refine zzf 11 53 [x.v] ?_
 intro w11 u11 e11 d11
 have k16 := k_r5Trim d11 (hx.ext e11) (by omega) (by first|omega|(simp;omega) | (refine Nat.le_trans (Nt.zzg _) ?_; first|omega|(simp;omega)) | (refine Nat.le_trans (Nt.zzg _) ?_; simp only [List.length_map]; refine Nat.le_trans (Nt.zzg _) ?_; first|omega|(simp;omega)))
 with_reducible refine Post.mono k16 ?_
 rintro _ u14 g15 ⟨y12, rfl, h13⟩
 have hly12 := h13.len
 refine zza 12 (.v x.v) ?_
 refine zzf 13 53 [x.v] ?_
 intro w17 u17 e17 d17
 have k22 := k_r5Trim d17 (hx.ext (e11.trans (g15.ext.trans e17))) (by omega) (by first|omega|(simp;omega) | (refine Nat.le_trans (Nt.zzg _) ?_; first|omega|(simp;omega)) | (refine Nat.le_trans (Nt.zzg _) ?_; simp only [List.length_map]; refine Nat.le_trans (Nt.zzg _) ?_; first|omega|(simp;omega)))
 with_reducible refine Post.mono k22 ?_
 rintro _ u20 g21 ⟨y18, rfl, h19⟩
 have hly18 := h19.len
 refine zza 0 (.v y12.v) ?_
 refine zza 1 (.v y18.v) ?_
 refine zzb 77 [(0, .v y12.v), (1, .v y18.v)] [] ?_
 refine zzc ?_
 refine sq9 ?_
 refine zza 14 (.v y12.v) ?_
 refine zza 15 (.v (.int .i64 (y12.n : Int))) ?_
 refine zza 16 (.v (.bool (decide ((49 : Int) < (y12.n : Int))))) ?_
 refine zyp 17 (x := .v (.bool (decide ((49 : Int) < (y12.n : Int))))) (.v (.bool false)) (by rw [show (decide ((49 : Int) < (y12.n : Int))) = false from decide_eq_false (by omega)]) ?_
 refine zza 18 (.v y18.v) ?_ (hw := w1 3 false 17)
 refine zza 19 (.v (.int .i64 (y18.n : Int))) ?_ (hw := w1 3 false 17)
 refine zza 20 (.v (.bool (decide ((49 : Int) < (y18.n : Int))))) ?_ (hw := w1 3 false 17)
 refine zza 21 (.v (.bool (decide ((49 : Int) < (y18.n : Int))))) ?_
 refine zzb 77 [(0, .v y12.v), (1, .v y18.v), (21, .v (.bool (decide ((49 : Int) < (y18.n : Int)))))] [] ?_
 refine zzt (b := decide ((49 : Int) < (y18.n : Int))) (by kernel_rfl) (fun hb => ?_) (fun hb => ?_)
 ·exact absurd hb (by rw [show (decide ((49 : Int) < (y18.n : Int))) = false from decide_eq_false (by omega)]; decide)
 ·clear hb
  refine zzr (zzo ?_)
  refine sq9 ?_
  refine zza 6 (.v (.slice none 0 0)) ?_
  refine zzb 77 [(0, .v y12.v), (1, .v y18.v), (6, .v (.slice none 0 0))] [] ?_
  refine zzc ?_
  refine sq9 ?_
  refine zza 7 (.v (.int .i64 0)) ?_
  refine zzb 77 [(0, .v y12.v), (1, .v y18.v), (6, .v (.slice none 0 0)), (7, .v (.int .i64 0))] [] ?_
  refine zzs ?_
  refine zym (I := fun m24 S' u' => (m24 = (Nt.trimQ l).length ∧ S' = St.of 77 [(0, .v (.slice y12.a y12.n y12.c)), (1, .v (.slice y18.a y18.n y18.c)), (6, .v (.slice none 0 0)), (7, .v (.int .i64 0))] [] ∧ Ext u20 u') ∨ (∃ (i : Nat) (L : List RL) (cs : List Value) (cp : Nat), m24 = ((Nt.trimQ l).length) - i ∧ i ≤ (Nt.trimQ l).length ∧ 0 < i ∧ L.length = i ∧ cs.length = cp * 3 ∧ i ≤ cp ∧ cp ≤ maxLen ∧ cs.take (i * 3) = rcs L ∧ S' = St.of 77 [(0, .v (.slice y12.a y12.n y12.c)), (1, .v (.slice y18.a y18.n y18.c)), (6, .slc 74 0 i cp), (7, .v (.int .i64 (i : Int)))] [(74, ⟨29, cs⟩)] ∧ Ext u20 u' ∧ RatsN u' L ((Nt.crL (Nt.trimQ l) (Nt.trimQ l) (Nt.trimQ l).length).take i) 6000)) (fun m S u1 u2 e h => by rcases h with ⟨a, b, c⟩ | ⟨a1, a2, a3, a4, b1, b2, b3, b4, b5, b6, b7, b8, b9, b10, b11⟩; exact .inl ⟨a, b, c.trans e⟩; exact .inr ⟨a1, a2, a3, a4, b1, b2, b3, b4, b5, b6, b7, b8, b9, b10.trans e, b11.ext e⟩) _ (T := St.of 77 [(0, .v (.slice y12.a y12.n y12.c)), (1, .v (.slice y18.a y18.n y18.c)), (6, .v (.slice none 0 0)), (7, .v (.int .i64 0))] []) (by exact zzu _ _ _) (.inl ⟨rfl, rfl, Ext.refl _⟩) ?_
  rintro m24 _ u24 (⟨hm24, rfl, e24⟩ | ⟨i, L, cs, cp, hm24, hi, hp, hL, hc, hle, hmx, ht, rfl, e24, hR⟩)
  ·change SW _ _ _ _ (St.of 77 [(0, .v (.slice y12.a y12.n y12.c)), (1, .v (.slice y18.a y18.n y18.c)), (6, .v (.slice none 0 0)), (7, .v (.int .i64 0))] []) _ _
   refine zzc ?_
   refine sq9 ?_
   refine zza 22 (.v (.int .i64 0)) ?_
   refine zza 23 (.v y12.v) ?_
   refine zza 24 (.v (.int .i64 (y12.n : Int))) ?_
   refine zza 25 (.v (.bool (decide ((0 : Int) < (y12.n : Int))))) ?_
   rcases Bool.eq_false_or_eq_true (decide ((0 : Int) < (y12.n : Int))) with hs25 | hs25
   ·refine zyp 26 (x := .v (.bool (decide ((0 : Int) < (y12.n : Int))))) (.v (.bool true)) (by rw [hs25]) ?_
    have qhs25 := of_decide_eq_true hs25
    refine zzm 27 (uw 4 false true 26) ?_
    refine zzm 28 (uw 4 false true 26) ?_
    refine zzm 29 (uw 4 false true 26) ?_
    refine zzm 30 (uw 4 false true 26) ?_
    refine zza 31 (.v (.bool true)) ?_
    refine zzb 77 [(0, .v y12.v), (1, .v y18.v), (6, .v (.slice none 0 0)), (7, .v (.int .i64 0)), (31, .v (.bool true))] [] ?_
    refine zyq (by kernel_rfl) ?_
    refine zzr (zzo ?_)
    refine zzc ?_
    refine zzs ?_
    refine sq9 ?_
    refine zzf 34 19 [.int .i64 0] ?_
    intro w26 u26 e26 d26
    have k31 := k_rqOf d26 (z := 0) (by omega) (by omega)
    with_reducible refine Post.mono k31 ?_
    rintro _ u29 g30 ⟨r27, rfl, h28⟩
    refine zzj 8 ⟨29, [.bool false, .slice none 0 0, .slice none 0 0]⟩ ?_
    refine zzi ⟨29, r27.cs⟩ ty29 ?_
    refine zzb 77 [(0, .v y12.v), (1, .v y18.v), (6, .v (.slice none 0 0)), (7, .v (.int .i64 0)), (8, .adr 8 0)] [(8, ⟨29, r27.cs⟩)] ?_
    refine zzc ?_
    refine sq9 ?_
    refine zza 9 (.v (.int .i64 0)) ?_
    refine zzb 77 [(0, .v y12.v), (1, .v y18.v), (6, .v (.slice none 0 0)), (7, .v (.int .i64 0)), (8, .adr 8 0), (9, .v (.int .i64 0))] [(8, ⟨29, r27.cs⟩)] ?_
    refine zzs ?_
    refine zym (I := fun m32 S' u' => ∃ (j : Nat) (q : RL), (m32 = (Nt.trimQ l).length - j) ∧ (j ≤ (Nt.trimQ l).length) ∧ (S' = St.of 77 [(0, .v (.slice y12.a y12.n y12.c)), (1, .v (.slice y18.a y18.n y18.c)), (6, .v (.slice none 0 0)), (7, .v (.int .i64 0)), (8, .adr 8 0), (9, .v (.int .i64 (j : Int)))] [(8, ⟨29, q.cs⟩)]) ∧ (Ext u29 u') ∧ (RatN u' q (Nt.crS (Nt.trimQ l) (Nt.trimQ l) 0 j) (250 * j + 2))) (fun m S u1 u2 e h => by obtain ⟨j, q, hm, p0, hS, hE, f0⟩ := h; exact ⟨j, q, hm, p0, hS, hE.trans e, f0.ext e⟩) _ (T := St.of 77 [(0, .v (.slice y12.a y12.n y12.c)), (1, .v (.slice y18.a y18.n y18.c)), (6, .v (.slice none 0 0)), (7, .v (.int .i64 0)), (8, .adr 8 0), (9, .v (.int .i64 0))] [(8, ⟨29, r27.cs⟩)]) (by exact zzu _ _ _) ⟨0, r27, rfl, Nat.zero_le _, rfl, Ext.refl _, (show RatN _ _ (Nt.crS (Nt.trimQ l) (Nt.trimQ l) 0 0) _ from RatN.more (K := 2) h28 (by omega))⟩ ?_
    rintro m32 _ u32 ⟨j, q, hm32, hj, rfl, e32, hQ⟩
    refine zzc ?_
    refine sq9 ?_
    refine zza 35 (.v (.int .i64 (j : Int))) ?_
    refine zza 36 (.v y12.v) ?_
    refine zza 37 (.v (.int .i64 (y12.n : Int))) ?_
    refine zza 38 (.v (.bool (decide ((j : Int) < (y12.n : Int))))) ?_
    rcases Bool.eq_false_or_eq_true (decide ((j : Int) < (y12.n : Int))) with hs33 | hs33
    ·refine zyp 39 (x := .v (.bool (decide ((j : Int) < (y12.n : Int))))) (.v (.bool true)) (by rw [hs33]) ?_
     have qhs33 := of_decide_eq_true hs33
     refine zzm 40 (uw 4 false true 39) ?_
     refine zzm 41 (uw 4 false true 39) ?_
     refine zzm 42 (uw 4 false true 39) ?_
     refine zzm 43 (uw 4 false true 39) ?_
     refine zza 44 (.v (.bool true)) ?_
     refine zzb 77 [(0, .v y12.v), (1, .v y18.v), (6, .v (.slice none 0 0)), (7, .v (.int .i64 0)), (8, .adr 8 0), (9, .v (.int .i64 (j : Int))), (44, .v (.bool true))] [(8, ⟨29, q.cs⟩)] ?_
     refine zyq (by kernel_rfl) ?_
     refine zzr (zzo ?_)
     refine zzc ?_
     refine zzs ?_
     refine zzc ?_
     refine zzy [0, 0, 0, 6, 0, 0, 0, 96, 254, 510, 1023, 2047] [(0, []), (1, []), (2, []), (4, []), (5, []), (6, []), (7, []), (3, []), (8, []), (9, []), (10, []), (11, [])] (by kernel_rfl) (by kernel_rfl) ?_
     refine zzh 47 (.v (q.v)) ty29 zzd ?_
     refine zza 48 (.v y12.v) ?_
     refine zza 49 (.v (.int .i64 (j : Int))) ?_
     refine zza 51 (.v y18.v) ?_
     refine zza 52 (.v (.int .i64 (j : Int))) ?_
     refine zza 53 (.v (.int .i64 0)) ?_
     refine zyp 54 (x := .v (.int .i64 (IntKind.i64.wrap ((j : Int) + 0)))) (.v (.int .i64 ((j + 0 : Nat) : Int))) (eqI (by rw [IntWalk.i64_in _ (by omega)]; omega)) ?_
     refine zzf 50 60 [y12.v, .int .i64 (j : Int)] ?_
     intro w34 u34 e34 d34
     have k39 := (show Calls _ _ #[_, .int .i64 ((j : Int))] _ _ from k_r5At (i := j) d34 (h13.ext (e17.trans (g21.ext.trans (e24.trans (e26.trans (g30.ext.trans (e32.trans e34))))))).raw (by omega) (by first|omega|(simp;omega) | (refine Nat.le_trans (Nt.zzg _) ?_; first|omega|(simp;omega)) | (refine Nat.le_trans (Nt.zzg _) ?_; simp only [List.length_map]; refine Nat.le_trans (Nt.zzg _) ?_; first|omega|(simp;omega))) (by omega))
     with_reducible refine Post.mono k39 ?_
     rintro _ u37 g38 ⟨r35, rfl, h36⟩
     refine zzf 55 60 [y18.v, .int .i64 ((j + 0 : Nat) : Int)] ?_
     intro w40 u40 e40 d40
     have k45 := (show Calls _ _ #[_, .int .i64 (((j + 0 : Nat) : Int))] _ _ from k_r5At (i := j + 0) d40 (h19.ext (e24.trans (e26.trans (g30.ext.trans (e32.trans (e34.trans (g38.ext.trans e40))))))).raw (by omega) (by first|omega|(simp;omega) | (refine Nat.le_trans (Nt.zzg _) ?_; first|omega|(simp;omega)) | (refine Nat.le_trans (Nt.zzg _) ?_; simp only [List.length_map]; refine Nat.le_trans (Nt.zzg _) ?_; first|omega|(simp;omega))) (by omega))
     with_reducible refine Post.mono k45 ?_
     rintro _ u43 g44 ⟨r41, rfl, h42⟩
     refine zzf 56 61 [r35.v, r41.v] ?_
     intro w46 u46 e46 d46
     have k51 := k_rqMul d46 (h36.ext (e40.trans (g44.ext.trans e46))).raw (h42.ext e46).raw (by omega) (by omega)
     with_reducible refine Post.mono k51 ?_
     rintro _ u49 g50 ⟨r47, rfl, h48⟩
     refine zzf 57 59 [q.v, r47.v] ?_
     intro w52 u52 e52 d52
     have k57 := k_rqAdd d52 (hQ.ext (e34.trans (g38.ext.trans (e40.trans (g44.ext.trans (e46.trans (g50.ext.trans e52))))))).raw (h48.ext e52).raw (by omega) (by omega)
     with_reducible refine Post.mono k57 ?_
     rintro _ u55 g56 ⟨r53, rfl, h54⟩
     refine zzi ⟨29, r53.cs⟩ ty29 ?_
     refine zzb 77 [(0, .v y12.v), (1, .v y18.v), (6, .v (.slice none 0 0)), (7, .v (.int .i64 0)), (8, .adr 8 0), (9, .v (.int .i64 (j : Int)))] [(8, ⟨29, r53.cs⟩)] ?_
     refine sq9 ?_
     refine zza 58 (.v (.int .i64 0)) ?_
     refine zza 59 (.v (.bool false)) ?_
     refine zzb 77 [(0, .v y12.v), (1, .v y18.v), (6, .v (.slice none 0 0)), (7, .v (.int .i64 0)), (8, .adr 8 0), (9, .v (.int .i64 (j : Int))), (59, .v (.bool false))] [(8, ⟨29, r53.cs⟩)] ?_
     refine zyr (by kernel_rfl) ?_
     refine zzr (zzo ?_)
     refine zze ?_
     refine zza 45 (.v (.int .i64 (j : Int))) ?_
     refine zyp 46 (x := .v (.int .i64 (IntKind.i64.wrap ((j : Int) + 1)))) (.v (.int .i64 ((j + 1 : Nat) : Int))) (eqI (by rw [IntWalk.i64_in _ (by omega)]; omega)) ?_
     refine zza 9 (.v (.int .i64 ((j + 1 : Nat) : Int))) ?_
     refine zzw ?_
     refine ⟨_, ?_, St.of 77 [(0, .v (.slice y12.a y12.n y12.c)), (1, .v (.slice y18.a y18.n y18.c)), (6, .v (.slice none 0 0)), (7, .v (.int .i64 0)), (8, .adr 8 0), (9, .v (.int .i64 ((j + 1 : Nat) : Int)))] [(8, ⟨29, r53.cs⟩)], by exact zzu _ _ _, j + 1, r53, rfl, by omega, rfl, (e32.trans (e34.trans (g38.ext.trans (e40.trans (g44.ext.trans (e46.trans (g50.ext.trans (e52.trans g56.ext)))))))), (by rw [Nt.crS_zero]; exact RatN.more (K := ((250 * j + 2) + ((K + 2) + (K + 2) + 1) + 2)) h54 (by omega))⟩
     omega
    ·refine zyp 39 (x := .v (.bool (decide ((j : Int) < (y12.n : Int))))) (.v (.bool false)) (by rw [hs33]) ?_
     have qhs33 := of_decide_eq_false hs33
     refine zza 40 (.v (.int .i64 (j : Int))) ?_ (hw := w1 4 false 39)
     refine zza 41 (.v y18.v) ?_ (hw := w1 4 false 39)
     refine zza 42 (.v (.int .i64 (y18.n : Int))) ?_ (hw := w1 4 false 39)
     refine zza 43 (.v (.bool (decide ((j : Int) < (y18.n : Int))))) ?_ (hw := w1 4 false 39)
     refine zza 44 (.v (.bool (decide ((j : Int) < (y18.n : Int))))) ?_
     refine zzb 77 [(0, .v y12.v), (1, .v y18.v), (6, .v (.slice none 0 0)), (7, .v (.int .i64 0)), (8, .adr 8 0), (9, .v (.int .i64 (j : Int))), (44, .v (.bool (decide ((j : Int) < (y18.n : Int)))))] [(8, ⟨29, q.cs⟩)] ?_
     refine zzt (b := decide ((j : Int) < (y18.n : Int))) (by kernel_rfl) (fun hb => ?_) (fun hb => ?_)
     ·exact absurd hb (by rw [show (decide ((j : Int) < (y18.n : Int))) = false from decide_eq_false (by omega)]; decide)
     ·clear hb
      refine zyb ?_
      refine zzo ?_
      refine zze ?_
      refine zza 71 (.v (.slice none 0 0)) ?_
      refine zzh 72 (.v (q.v)) ty29 zzd ?_
      refine sy_data 73 ⟨29, q.cs⟩ 1 (fun b58 u59 e60 h61 => ?_)
      have hp62 : PolN u59 (⟨some ⟨b58, 0, none⟩, 1, 1⟩ : Sl) [(Nt.crS (Nt.trimQ l) (Nt.trimQ l) 0 j)] (250 * j + 2) := pol_lit (L := [q]) h61 (rats1 (hQ.ext e60)) rfl (by decide)
      refine sy_app0 74 (T := 24) (E := 29) (z := .agg #[.bool false, .slice none 0 0, .slice none 0 0]) (size := 3) (bytes := 56) (b := b58) (off := 0) (m := 1) q.cs (by kernel_rfl) (by kernel_rfl) (by kernel_rfl) (by decide) rfl (lit_news ((Ext.refl _).cells h61)) (rl_one q) (by decide) (by decide) (by decide) ?_
      intro c63 cs63 ha63 hb63 hc63 hd63
      refine zza 6 (.slc 74 0 1 c63) ?_
      refine zzw ?_
      refine zzo ?_
      refine zze ?_
      refine zza 32 (.v (.int .i64 0)) ?_
      refine zza 33 (.v (.int .i64 1)) ?_
      refine zza 7 (.v (.int .i64 1)) ?_
      refine zzw ?_
      have ht64 : 0 < (Nt.crL (Nt.trimQ l) (Nt.trimQ l) (Nt.trimQ l).length).length := by rw [Nt.crL_len]; omega
      refine ⟨_, ?_, St.of 77 [(0, .v (.slice y12.a y12.n y12.c)), (1, .v (.slice y18.a y18.n y18.c)), (6, .slc 74 0 1 c63), (7, .v (.int .i64 1))] [(74, ⟨29, cs63⟩)], by exact zzu _ _ _, .inr ⟨1, [q], cs63, c63, rfl, by omega, by omega, by simp, hc63, by omega, hb63, hd63, rfl, (e24.trans (e26.trans (g30.ext.trans (e32.trans e60)))), (app_first (RatN.more (K := (250 * j + 2)) (hQ.ext e60) (by omega)) ht64 (by have h9 : j = (Nt.trimQ l).length := (by omega); rw [h9]; exact (Nt.crL_co _ _ _ _ (by omega)).symm))⟩⟩
      omega
   ·refine zyp 26 (x := .v (.bool (decide ((0 : Int) < (y12.n : Int))))) (.v (.bool false)) (by rw [hs25]) ?_
    have qhs25 := of_decide_eq_false hs25
    refine zza 27 (.v (.int .i64 0)) ?_ (hw := w1 4 false 26)
    refine zza 28 (.v y18.v) ?_ (hw := w1 4 false 26)
    refine zza 29 (.v (.int .i64 (y18.n : Int))) ?_ (hw := w1 4 false 26)
    refine zza 30 (.v (.bool (decide ((0 : Int) < (y18.n : Int))))) ?_ (hw := w1 4 false 26)
    refine zza 31 (.v (.bool (decide ((0 : Int) < (y18.n : Int))))) ?_
    refine zzb 77 [(0, .v y12.v), (1, .v y18.v), (6, .v (.slice none 0 0)), (7, .v (.int .i64 0)), (31, .v (.bool (decide ((0 : Int) < (y18.n : Int)))))] [] ?_
    refine zzt (b := decide ((0 : Int) < (y18.n : Int))) (by kernel_rfl) (fun hb => ?_) (fun hb => ?_)
    ·exact absurd hb (by rw [show (decide ((0 : Int) < (y18.n : Int))) = false from decide_eq_false (by omega)]; decide)
    ·clear hb
     refine zyb ?_
     refine zzo ?_
     refine zzc ?_
     have hp65 : PolN u24 ⟨none, 0, 0⟩ (Nt.crL (Nt.trimQ l) (Nt.trimQ l) (Nt.trimQ l).length) 6000 := by have h9 : Nt.crL (Nt.trimQ l) (Nt.trimQ l) (Nt.trimQ l).length = [] := List.eq_nil_of_length_eq_zero (by rw [Nt.crL_len]; omega); rw [h9]; exact pol_nil _ _
     refine zze ?_
     refine zza 75 (.v (.slice none 0 0)) ?_
     refine zzf 76 133 [.slice none 0 0] ?_
     intro w66 u66 e66 d66
     have k71 := k_r8sum d66 (hp65.ext e66) (by rw [Nt.crL_len]; omega)
     with_reducible refine Post.mono k71 ?_
     rintro _ u69 g70 ⟨y67, rfl, h68⟩
     refine zza 4 (.v y67.v) ?_
     refine zza 5 (.v (.int .i64 0)) ?_
     refine zzb 77 [(4, .v y67.v), (5, .v (.int .i64 0))] [] ?_
     refine zzn (ret0 [.slice y67.a y67.n y67.c, .int .i64 0] ⟨zzp, zzp, trivial⟩ fun u72 e73 => ?_)
     refine ⟨y67, rfl, ?_⟩
     have h9 := (h68.ext e73)
     rw [Nt.crL_len] at h9
     exact h9
  ·change SW _ _ _ _ (St.of 77 [(0, .v (.slice y12.a y12.n y12.c)), (1, .v (.slice y18.a y18.n y18.c)), (6, .slc 74 0 i cp), (7, .v (.int .i64 (i : Int)))] [(74, ⟨29, cs⟩)]) _ _
   refine zzc ?_
   refine sq9 ?_
   refine zza 22 (.v (.int .i64 (i : Int))) ?_
   refine zza 23 (.v y12.v) ?_
   refine zza 24 (.v (.int .i64 (y12.n : Int))) ?_
   refine zza 25 (.v (.bool (decide ((i : Int) < (y12.n : Int))))) ?_
   rcases Bool.eq_false_or_eq_true (decide ((i : Int) < (y12.n : Int))) with hs74 | hs74
   ·refine zyp 26 (x := .v (.bool (decide ((i : Int) < (y12.n : Int))))) (.v (.bool true)) (by rw [hs74]) ?_
    have qhs74 := of_decide_eq_true hs74
    refine zzm 27 (uw 4 false true 26) ?_
    refine zzm 28 (uw 4 false true 26) ?_
    refine zzm 29 (uw 4 false true 26) ?_
    refine zzm 30 (uw 4 false true 26) ?_
    refine zza 31 (.v (.bool true)) ?_
    refine zzb 77 [(0, .v y12.v), (1, .v y18.v), (6, .slc 74 0 i cp), (7, .v (.int .i64 (i : Int))), (31, .v (.bool true))] [(74, ⟨29, cs⟩)] ?_
    refine zyq (by kernel_rfl) ?_
    refine zzr (zzo ?_)
    refine zzc ?_
    refine zzs ?_
    refine sq9 ?_
    refine zzf 34 19 [.int .i64 0] ?_
    intro w75 u75 e75 d75
    have k80 := k_rqOf d75 (z := 0) (by omega) (by omega)
    with_reducible refine Post.mono k80 ?_
    rintro _ u78 g79 ⟨r76, rfl, h77⟩
    refine zzj 8 ⟨29, [.bool false, .slice none 0 0, .slice none 0 0]⟩ ?_
    refine zzi ⟨29, r76.cs⟩ ty29 ?_
    refine zzb 77 [(0, .v y12.v), (1, .v y18.v), (6, .slc 74 0 i cp), (7, .v (.int .i64 (i : Int))), (8, .adr 8 0)] [(8, ⟨29, r76.cs⟩), (74, ⟨29, cs⟩)] ?_
    refine zzc ?_
    refine sq9 ?_
    refine zza 9 (.v (.int .i64 0)) ?_
    refine zzb 77 [(0, .v y12.v), (1, .v y18.v), (6, .slc 74 0 i cp), (7, .v (.int .i64 (i : Int))), (8, .adr 8 0), (9, .v (.int .i64 0))] [(8, ⟨29, r76.cs⟩), (74, ⟨29, cs⟩)] ?_
    refine zzs ?_
    refine zym (I := fun m81 S' u' => ∃ (j : Nat) (q : RL), (m81 = (Nt.trimQ l).length - j) ∧ (j ≤ (Nt.trimQ l).length) ∧ (S' = St.of 77 [(0, .v (.slice y12.a y12.n y12.c)), (1, .v (.slice y18.a y18.n y18.c)), (6, .slc 74 0 i cp), (7, .v (.int .i64 (i : Int))), (8, .adr 8 0), (9, .v (.int .i64 (j : Int)))] [(8, ⟨29, q.cs⟩), (74, ⟨29, cs⟩)]) ∧ (Ext u78 u') ∧ (RatN u' q (Nt.crS (Nt.trimQ l) (Nt.trimQ l) i j) (250 * j + 2))) (fun m S u1 u2 e h => by obtain ⟨j, q, hm, p0, hS, hE, f0⟩ := h; exact ⟨j, q, hm, p0, hS, hE.trans e, f0.ext e⟩) _ (T := St.of 77 [(0, .v (.slice y12.a y12.n y12.c)), (1, .v (.slice y18.a y18.n y18.c)), (6, .slc 74 0 i cp), (7, .v (.int .i64 (i : Int))), (8, .adr 8 0), (9, .v (.int .i64 0))] [(8, ⟨29, r76.cs⟩), (74, ⟨29, cs⟩)]) (by exact zzu _ _ _) ⟨0, r76, rfl, Nat.zero_le _, rfl, Ext.refl _, (show RatN _ _ (Nt.crS (Nt.trimQ l) (Nt.trimQ l) i 0) _ from RatN.more (K := 2) h77 (by omega))⟩ ?_
    rintro m81 _ u81 ⟨j, q, hm81, hj, rfl, e81, hQ⟩
    refine zzc ?_
    refine sq9 ?_
    refine zza 35 (.v (.int .i64 (j : Int))) ?_
    refine zza 36 (.v y12.v) ?_
    refine zza 37 (.v (.int .i64 (y12.n : Int))) ?_
    refine zza 38 (.v (.bool (decide ((j : Int) < (y12.n : Int))))) ?_
    rcases Bool.eq_false_or_eq_true (decide ((j : Int) < (y12.n : Int))) with hs82 | hs82
    ·refine zyp 39 (x := .v (.bool (decide ((j : Int) < (y12.n : Int))))) (.v (.bool true)) (by rw [hs82]) ?_
     have qhs82 := of_decide_eq_true hs82
     refine zzm 40 (uw 4 false true 39) ?_
     refine zzm 41 (uw 4 false true 39) ?_
     refine zzm 42 (uw 4 false true 39) ?_
     refine zzm 43 (uw 4 false true 39) ?_
     refine zza 44 (.v (.bool true)) ?_
     refine zzb 77 [(0, .v y12.v), (1, .v y18.v), (6, .slc 74 0 i cp), (7, .v (.int .i64 (i : Int))), (8, .adr 8 0), (9, .v (.int .i64 (j : Int))), (44, .v (.bool true))] [(8, ⟨29, q.cs⟩), (74, ⟨29, cs⟩)] ?_
     refine zyq (by kernel_rfl) ?_
     refine zzr (zzo ?_)
     refine zzc ?_
     refine zzs ?_
     refine zzc ?_
     refine zzy [0, 0, 0, 6, 0, 0, 0, 96, 254, 510, 1023, 2047] [(0, []), (1, []), (2, []), (4, []), (5, []), (6, []), (7, []), (3, []), (8, []), (9, []), (10, []), (11, [])] (by kernel_rfl) (by kernel_rfl) ?_
     refine zzh 47 (.v (q.v)) ty29 zzd ?_
     refine zza 48 (.v y12.v) ?_
     refine zza 49 (.v (.int .i64 (j : Int))) ?_
     refine zza 51 (.v y18.v) ?_
     refine zza 52 (.v (.int .i64 (j : Int))) ?_
     refine zza 53 (.v (.int .i64 (i : Int))) ?_
     refine zyp 54 (x := .v (.int .i64 (IntKind.i64.wrap ((j : Int) + (i : Int))))) (.v (.int .i64 ((j + i : Nat) : Int))) (eqI (by rw [IntWalk.i64_in _ (by omega)]; omega)) ?_
     refine zzf 50 60 [y12.v, .int .i64 (j : Int)] ?_
     intro w83 u83 e83 d83
     have k88 := (show Calls _ _ #[_, .int .i64 ((j : Int))] _ _ from k_r5At (i := j) d83 (h13.ext (e17.trans (g21.ext.trans (e24.trans (e75.trans (g79.ext.trans (e81.trans e83))))))).raw (by omega) (by first|omega|(simp;omega) | (refine Nat.le_trans (Nt.zzg _) ?_; first|omega|(simp;omega)) | (refine Nat.le_trans (Nt.zzg _) ?_; simp only [List.length_map]; refine Nat.le_trans (Nt.zzg _) ?_; first|omega|(simp;omega))) (by omega))
     with_reducible refine Post.mono k88 ?_
     rintro _ u86 g87 ⟨r84, rfl, h85⟩
     refine zzf 55 60 [y18.v, .int .i64 ((j + i : Nat) : Int)] ?_
     intro w89 u89 e89 d89
     have k94 := (show Calls _ _ #[_, .int .i64 (((j + i : Nat) : Int))] _ _ from k_r5At (i := j + i) d89 (h19.ext (e24.trans (e75.trans (g79.ext.trans (e81.trans (e83.trans (g87.ext.trans e89))))))).raw (by omega) (by first|omega|(simp;omega) | (refine Nat.le_trans (Nt.zzg _) ?_; first|omega|(simp;omega)) | (refine Nat.le_trans (Nt.zzg _) ?_; simp only [List.length_map]; refine Nat.le_trans (Nt.zzg _) ?_; first|omega|(simp;omega))) (by omega))
     with_reducible refine Post.mono k94 ?_
     rintro _ u92 g93 ⟨r90, rfl, h91⟩
     refine zzf 56 61 [r84.v, r90.v] ?_
     intro w95 u95 e95 d95
     have k100 := k_rqMul d95 (h85.ext (e89.trans (g93.ext.trans e95))).raw (h91.ext e95).raw (by omega) (by omega)
     with_reducible refine Post.mono k100 ?_
     rintro _ u98 g99 ⟨r96, rfl, h97⟩
     refine zzf 57 59 [q.v, r96.v] ?_
     intro w101 u101 e101 d101
     have k106 := k_rqAdd d101 (hQ.ext (e83.trans (g87.ext.trans (e89.trans (g93.ext.trans (e95.trans (g99.ext.trans e101))))))).raw (h97.ext e101).raw (by omega) (by omega)
     with_reducible refine Post.mono k106 ?_
     rintro _ u104 g105 ⟨r102, rfl, h103⟩
     refine zzi ⟨29, r102.cs⟩ ty29 ?_
     refine zzb 77 [(0, .v y12.v), (1, .v y18.v), (6, .slc 74 0 i cp), (7, .v (.int .i64 (i : Int))), (8, .adr 8 0), (9, .v (.int .i64 (j : Int)))] [(8, ⟨29, r102.cs⟩), (74, ⟨29, cs⟩)] ?_
     refine sq9 ?_
     refine zza 58 (.v (.int .i64 (i : Int))) ?_
     refine zza 59 (.v (.bool (decide ((0 : Int) < (i : Int))))) ?_
     refine zzb 77 [(0, .v y12.v), (1, .v y18.v), (6, .slc 74 0 i cp), (7, .v (.int .i64 (i : Int))), (8, .adr 8 0), (9, .v (.int .i64 (j : Int))), (59, .v (.bool (decide ((0 : Int) < (i : Int)))))] [(8, ⟨29, r102.cs⟩), (74, ⟨29, cs⟩)] ?_
     refine zzt (b := decide ((0 : Int) < (i : Int))) (by kernel_rfl) (fun hb => ?_) (fun hb => ?_)
     ·clear hb
      refine zzy [0, 0, 0, 0, 12, 30, 0, 0, 254, 510, 1023, 2047] [(0, []), (1, []), (2, []), (3, []), (4, []), (6, []), (7, []), (5, []), (8, []), (9, []), (10, []), (11, [])] (by kernel_rfl) (by kernel_rfl) ?_
      refine zzh 60 (.v (r102.v)) ty29 zzd ?_
      refine zza 61 (.v y12.v) ?_
      refine zza 62 (.v (.int .i64 (j : Int))) ?_
      refine zza 63 (.v (.int .i64 (i : Int))) ?_
      refine zyp 64 (x := .v (.int .i64 (IntKind.i64.wrap ((j : Int) + (i : Int))))) (.v (.int .i64 ((j + i : Nat) : Int))) (eqI (by rw [IntWalk.i64_in _ (by omega)]; omega)) ?_
      refine zza 66 (.v y18.v) ?_
      refine zza 67 (.v (.int .i64 (j : Int))) ?_
      refine zzf 65 60 [y12.v, .int .i64 ((j + i : Nat) : Int)] ?_
      intro w107 u107 e107 d107
      have k112 := (show Calls _ _ #[_, .int .i64 (((j + i : Nat) : Int))] _ _ from k_r5At (i := j + i) d107 (h13.ext (e17.trans (g21.ext.trans (e24.trans (e75.trans (g79.ext.trans (e81.trans (e83.trans (g87.ext.trans (e89.trans (g93.ext.trans (e95.trans (g99.ext.trans (e101.trans (g105.ext.trans e107))))))))))))))).raw (by omega) (by first|omega|(simp;omega) | (refine Nat.le_trans (Nt.zzg _) ?_; first|omega|(simp;omega)) | (refine Nat.le_trans (Nt.zzg _) ?_; simp only [List.length_map]; refine Nat.le_trans (Nt.zzg _) ?_; first|omega|(simp;omega))) (by omega))
      with_reducible refine Post.mono k112 ?_
      rintro _ u110 g111 ⟨r108, rfl, h109⟩
      refine zzf 68 60 [y18.v, .int .i64 (j : Int)] ?_
      intro w113 u113 e113 d113
      have k118 := (show Calls _ _ #[_, .int .i64 ((j : Int))] _ _ from k_r5At (i := j) d113 (h19.ext (e24.trans (e75.trans (g79.ext.trans (e81.trans (e83.trans (g87.ext.trans (e89.trans (g93.ext.trans (e95.trans (g99.ext.trans (e101.trans (g105.ext.trans (e107.trans (g111.ext.trans e113))))))))))))))).raw (by omega) (by first|omega|(simp;omega) | (refine Nat.le_trans (Nt.zzg _) ?_; first|omega|(simp;omega)) | (refine Nat.le_trans (Nt.zzg _) ?_; simp only [List.length_map]; refine Nat.le_trans (Nt.zzg _) ?_; first|omega|(simp;omega))) (by omega))
      with_reducible refine Post.mono k118 ?_
      rintro _ u116 g117 ⟨r114, rfl, h115⟩
      refine zzf 69 61 [r108.v, r114.v] ?_
      intro w119 u119 e119 d119
      have k124 := k_rqMul d119 (h109.ext (e113.trans (g117.ext.trans e119))).raw (h115.ext e119).raw (by omega) (by omega)
      with_reducible refine Post.mono k124 ?_
      rintro _ u122 g123 ⟨r120, rfl, h121⟩
      refine zzf 70 59 [r102.v, r120.v] ?_
      intro w125 u125 e125 d125
      have k130 := k_rqAdd d125 (h103.ext (e107.trans (g111.ext.trans (e113.trans (g117.ext.trans (e119.trans (g123.ext.trans e125))))))).raw (h121.ext e125).raw (by omega) (by omega)
      with_reducible refine Post.mono k130 ?_
      rintro _ u128 g129 ⟨r126, rfl, h127⟩
      refine zzi ⟨29, r126.cs⟩ ty29 ?_
      refine zzw ?_
      refine zzo ?_
      refine zze ?_
      refine zza 45 (.v (.int .i64 (j : Int))) ?_
      refine zyp 46 (x := .v (.int .i64 (IntKind.i64.wrap ((j : Int) + 1)))) (.v (.int .i64 ((j + 1 : Nat) : Int))) (eqI (by rw [IntWalk.i64_in _ (by omega)]; omega)) ?_
      refine zza 9 (.v (.int .i64 ((j + 1 : Nat) : Int))) ?_
      refine zzw ?_
      refine ⟨_, ?_, St.of 77 [(0, .v (.slice y12.a y12.n y12.c)), (1, .v (.slice y18.a y18.n y18.c)), (6, .slc 74 0 i cp), (7, .v (.int .i64 (i : Int))), (8, .adr 8 0), (9, .v (.int .i64 ((j + 1 : Nat) : Int)))] [(8, ⟨29, r126.cs⟩), (74, ⟨29, cs⟩)], by exact zzu _ _ _, j + 1, r126, rfl, by omega, rfl, (e81.trans (e83.trans (g87.ext.trans (e89.trans (g93.ext.trans (e95.trans (g99.ext.trans (e101.trans (g105.ext.trans (e107.trans (g111.ext.trans (e113.trans (g117.ext.trans (e119.trans (g123.ext.trans (e125.trans g129.ext)))))))))))))))), (by rw [Nt.crS_pos _ _ hp]; exact RatN.more (K := (((250 * j + 2) + ((K + 2) + (K + 2) + 1) + 2) + ((K + 2) + (K + 2) + 1) + 2)) h127 (by omega))⟩
      omega
     ·exact absurd hb (by rw [show (decide ((0 : Int) < (i : Int))) = true from decide_eq_true (by omega)]; decide)
    ·refine zyp 39 (x := .v (.bool (decide ((j : Int) < (y12.n : Int))))) (.v (.bool false)) (by rw [hs82]) ?_
     have qhs82 := of_decide_eq_false hs82
     refine zza 40 (.v (.int .i64 (j : Int))) ?_ (hw := w1 4 false 39)
     refine zza 41 (.v y18.v) ?_ (hw := w1 4 false 39)
     refine zza 42 (.v (.int .i64 (y18.n : Int))) ?_ (hw := w1 4 false 39)
     refine zza 43 (.v (.bool (decide ((j : Int) < (y18.n : Int))))) ?_ (hw := w1 4 false 39)
     refine zza 44 (.v (.bool (decide ((j : Int) < (y18.n : Int))))) ?_
     refine zzb 77 [(0, .v y12.v), (1, .v y18.v), (6, .slc 74 0 i cp), (7, .v (.int .i64 (i : Int))), (8, .adr 8 0), (9, .v (.int .i64 (j : Int))), (44, .v (.bool (decide ((j : Int) < (y18.n : Int)))))] [(8, ⟨29, q.cs⟩), (74, ⟨29, cs⟩)] ?_
     refine zzt (b := decide ((j : Int) < (y18.n : Int))) (by kernel_rfl) (fun hb => ?_) (fun hb => ?_)
     ·exact absurd hb (by rw [show (decide ((j : Int) < (y18.n : Int))) = false from decide_eq_false (by omega)]; decide)
     ·clear hb
      refine zyb ?_
      refine zzo ?_
      refine zze ?_
      refine zza 71 (.slc 74 0 i cp) ?_
      refine zzh 72 (.v (q.v)) ty29 zzd ?_
      refine sy_data 73 ⟨29, q.cs⟩ 1 (fun b131 u132 e133 h134 => ?_)
      have hp135 : PolN u132 (⟨some ⟨b131, 0, none⟩, 1, 1⟩ : Sl) [(Nt.crS (Nt.trimQ l) (Nt.trimQ l) i j)] (250 * j + 2) := pol_lit (L := [q]) h134 (rats1 (hQ.ext e133)) rfl (by decide)
      refine sy_app1 74 (T := 24) (E := 29) (z := .agg #[.bool false, .slice none 0 0, .slice none 0 0]) (size := 3) (bytes := 56) (b := b131) (off := 0) (m := 1) (n := i) (cap := cp) (t := 74) (cs0 := cs) [6, 71, 74] q.cs (by kernel_rfl) (by kernel_rfl) (by kernel_rfl) (by decide) rfl (lit_news ((Ext.refl _).cells h134)) (rl_one q) (by decide) (by unfold maxLen; omega) (by omega) (by omega) (by omega) (by omega) (by repeat first | exact noAt_of | refine zyc ?_ | refine zye ?_ | refine zyd ?_ | refine zzx ?_ | refine zya ?_) ?_
      intro c136 cs136 ha136 hb136 hc136 hd136
      have hd136r : cs136.take ((i + 1) * 3) = rcs (L ++ [q]) := by rw [hd136, ht, rcs_app]; rfl
      refine zza 6 (.slc 74 0 (i + 1) c136) ?_
      refine zzw ?_
      refine zzo ?_
      refine zze ?_
      refine zza 32 (.v (.int .i64 (i : Int))) ?_
      refine zyp 33 (x := .v (.int .i64 (IntKind.i64.wrap ((i : Int) + 1)))) (.v (.int .i64 ((i + 1 : Nat) : Int))) (eqI (by rw [IntWalk.i64_in _ (by omega)]; omega)) ?_
      refine zza 7 (.v (.int .i64 ((i + 1 : Nat) : Int))) ?_
      refine zzw ?_
      have ht137 : i < (Nt.crL (Nt.trimQ l) (Nt.trimQ l) (Nt.trimQ l).length).length := by rw [Nt.crL_len]; omega
      refine ⟨_, ?_, St.of 77 [(0, .v (.slice y12.a y12.n y12.c)), (1, .v (.slice y18.a y18.n y18.c)), (6, .slc 74 0 (i + 1) c136), (7, .v (.int .i64 ((i + 1 : Nat) : Int)))] [(74, ⟨29, cs136⟩)], by exact zzu _ _ _, .inr ⟨i + 1, L ++ [q], cs136, c136, rfl, by omega, by omega, by simp; omega, hc136, by omega, hb136, hd136r, rfl, (e24.trans (e75.trans (g79.ext.trans (e81.trans e133)))), (app_next (hR.ext (e75.trans (g79.ext.trans (e81.trans e133)))) (RatN.more (K := (250 * j + 2)) (hQ.ext e133) (by omega)) ht137 (by have h9 : j = (Nt.trimQ l).length := (by omega); rw [h9]; exact (Nt.crL_co _ _ _ _ (by omega)).symm))⟩⟩
      omega
   ·refine zyp 26 (x := .v (.bool (decide ((i : Int) < (y12.n : Int))))) (.v (.bool false)) (by rw [hs74]) ?_
    have qhs74 := of_decide_eq_false hs74
    refine zza 27 (.v (.int .i64 (i : Int))) ?_ (hw := w1 4 false 26)
    refine zza 28 (.v y18.v) ?_ (hw := w1 4 false 26)
    refine zza 29 (.v (.int .i64 (y18.n : Int))) ?_ (hw := w1 4 false 26)
    refine zza 30 (.v (.bool (decide ((i : Int) < (y18.n : Int))))) ?_ (hw := w1 4 false 26)
    refine zza 31 (.v (.bool (decide ((i : Int) < (y18.n : Int))))) ?_
    refine zzb 77 [(0, .v y12.v), (1, .v y18.v), (6, .slc 74 0 i cp), (7, .v (.int .i64 (i : Int))), (31, .v (.bool (decide ((i : Int) < (y18.n : Int)))))] [(74, ⟨29, cs⟩)] ?_
    refine zzt (b := decide ((i : Int) < (y18.n : Int))) (by kernel_rfl) (fun hb => ?_) (fun hb => ?_)
    ·exact absurd hb (by rw [show (decide ((i : Int) < (y18.n : Int))) = false from decide_eq_false (by omega)]; decide)
    ·clear hb
     refine zyb ?_
     refine zzo ?_
     refine zzc ?_
     refine zyo (r := 6) (t := 74) [6, 74] (by repeat first | exact noAt_of | refine zyc ?_ | refine zye ?_ | refine zyd ?_ | refine zzx ?_ | refine zya ?_) (by kernel_rfl) (by rfl) (by rfl) (by kernel_rfl) (fun b139 u140 e141 hb142 hh143 => ?_)
     have hp138 : PolN u140 ⟨some ⟨b139, 0, none⟩, i, cp⟩ (Nt.crL (Nt.trimQ l) (Nt.trimQ l) (Nt.trimQ l).length) 6000 := by have h8 := pol_data hh143 ht hc hle hmx (hR.ext e141); rw [List.take_of_length_le (l := Nt.crL (Nt.trimQ l) (Nt.trimQ l) (Nt.trimQ l).length) (by rw [Nt.crL_len]; omega)] at h8; exact h8
     refine zze ?_
     refine zza 75 (.v (.slice (some ⟨b139, 0, none⟩) i cp)) ?_
     refine zzf 76 133 [.slice (some ⟨b139, 0, none⟩) i cp] ?_
     intro w144 u144 e144 d144
     have k149 := k_r8sum d144 (hp138.ext e144) (by rw [Nt.crL_len]; omega)
     with_reducible refine Post.mono k149 ?_
     rintro _ u147 g148 ⟨y145, rfl, h146⟩
     refine zza 4 (.v y145.v) ?_
     refine zza 5 (.v (.int .i64 0)) ?_
     refine zzb 77 [(4, .v y145.v), (5, .v (.int .i64 0))] [] ?_
     refine zzn (ret0 [.slice y145.a y145.n y145.c, .int .i64 0] ⟨zzp, zzp, trivial⟩ fun u150 e151 => ?_)
     refine ⟨y145, rfl, ?_⟩
     have h9 := (h146.ext e151)
     rw [Nt.crL_len] at h9
     exact h9
theorem k_magnitude {u w : World} {x : Sl} {l : List Rat} {K : Nat} (d : Dat u w) (hx : PolV u x l K) (hK : K ≤ 50) (hl : l.length ≤ 20) : Calls Tryz.prog 26 #[x.v] w (Post u w fun v u' => ∃ y : Sl, v = .tuple #[y.v, .int .i64 0] ∧ PolN u' y (Nt.magL l) 130000) := by
 have hlen := hx.len
 refine zzl (args := [.slice x.a x.n x.c]) Tryz.func26 rfl Tryz.ntmps26 (rs := [.tmp 2, .tmp 3]) Tryz.results26 (le_b rfl) (le_b rfl) d ?_
 refine sq9 ?_
 refine zza 2 (.v (.slice none 0 0)) ?_
 refine zza 3 (.v (.int .i64 0)) ?_
 refine zzb 9 [(0, .v x.v)] [] ?_
 refine sq9 ?_
 refine zza 4 (.v x.v) ?_
 refine zza 5 (.v x.v) ?_
 refine zzf 6 70 [x.v, x.v] ?_
 intro w11 u11 e11 d11
 have k16 := k_cross d11 (hx.ext e11) (by omega) (by omega)
 with_reducible refine Post.mono k16 ?_
 rintro _ u14 g15 ⟨y12, rfl, h13⟩
 have hly12 := h13.len
 have hmy12 : (Nt.magL l).length ≤ 20 := Nat.le_trans (Nt.sumL_len _ _) (Nat.le_trans (Nt.zzg _) (by omega))
 refine zza 7 (.v y12.v) ?_
 refine zza 8 (.v (.int .i64 0)) ?_
 refine zza 2 (.v y12.v) ?_
 refine zza 3 (.v (.int .i64 0)) ?_
 refine zzb 9 [(2, .v y12.v), (3, .v (.int .i64 0))] [] ?_
 refine zzn (ret0 [.slice y12.a y12.n y12.c, .int .i64 0] ⟨zzp, zzp, trivial⟩ fun u17 e18 => ?_)
 exact ⟨y12, rfl, (h13.ext e18)⟩
end Go.Proofs.YtmonfdlnihaabaaGreat
