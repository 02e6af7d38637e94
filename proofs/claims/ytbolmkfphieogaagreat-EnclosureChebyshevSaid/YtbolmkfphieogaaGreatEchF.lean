/- Parts of the proof: contracts of functions, each walked once, and plain laws. -/
import Derived.Test.YtbolmkfphieogaaGreatEchE
namespace Go.Proofs.YtbolmkfphieogaaGreat
open Go.RowKit
set_option linter.unusedVariables false
set_option maxHeartbeats 1000000 in
theorem k_r5At {u w : World} {x : Sl} {l : List Rat} {K i : Nat} (d : Dat u w) (hx : PolV u x l K) (hK : K ≤ 40000000) (hx9 : l.length ≤ 1000000000) (hi9 : i ≤ 1000000000) : Calls Tryz.prog 254 #[x.v, .int .i64 (i : Int)] w (Post u w fun v u' => ∃ r : RL, v = r.v ∧ RatN u' r (l.getD i 0) (K + 2)) := by
 have hlen := hx.len
 refine zzm (args := [.slice x.a x.n x.c, .int .i64 i]) Tryz.func254 rfl Tryz.ntmps254 (rs := [.cell 4 26]) Tryz.results254 (le_b rfl) (le_b rfl) d ?_
 refine sq9 (zzk 4 ⟨26, [.bool false, .slice none 0 0, .slice none 0 0]⟩ (zzb (zzd (sq9 (zza 5 (zI i) (zza 6 (zB (decide ((i : Int) < 0))) (zyq 7 (x := zB (decide ((i : Int) < 0))) (zB false) (by rw [show (decide ((i : Int) < 0)) = false from decide_eq_false xq]) (zza 8 (zI i) ?_ (hw := w1 2 false 7)))))))))
 refine zza 9 (.v x.v) ?_ (hw := w1 2 false 7)
 refine zza 10 (zI x.n) ?_ (hw := w1 2 false 7)
 refine zza 11 (zB (decide ((x.n : Int) ≤ (i : Int)))) ?_ (hw := w1 2 false 7)
 refine zza 12 (zB (decide ((x.n : Int) ≤ (i : Int)))) (zzb (zzu (b := decide ((x.n : Int) ≤ (i : Int))) xk (fun hb12 => ?_) (fun hb12 => ?_)))
 ·replace hb12 : (decide ((x.n : Int) ≤ (i : Int))) = true := hb12
  have qhb12 := of_decide_eq_true hb12
  refine sq9 (zzg 13 30 [.int .i64 0] ?_)
  intro w13 u13 e13 d13
  have k18 := k_rqOf d13 (z := 0) xq xq
  with_reducible refine zPm k18 ?_
  rintro _ u16 g17 ⟨r14, rfl, h15⟩
  refine zzj ⟨26, r14.cs⟩ ty26 ?_
  refine zzb (zzo (zzw (ret0 [r14.v] ⟨zzr ty26 zze, trivial⟩ fun u19 e20 => ?_)))
  have e9 : l.getD i 0 = ((0 : Int) : Rat) := Nt.co_ge xq
  rw [e9]
  exact ⟨r14, rfl, RatN.more (K := 2) (h15.ext e20) xq⟩
 ·replace hb12 : (decide ((x.n : Int) ≤ (i : Int))) = false := hb12
  have qhb12 := of_decide_eq_false hb12
  refine zzs (zzp ?_)
  refine sq9 (zza 14 (.v x.v) (zza 15 (zI i) ?_))
  have hl21 := hx.len
  obtain ⟨r21, b21, o21, hA21, hc21, hr21⟩ := pol_at hx (i := i) xq
  refine zya 16 (o21 + i * 3) (n := x.n) (off := o21) (sz := 3) (i := (i : Int)) xq hA21 xq xq sl55 (zym 17 r21.cs hc21 ty26 (zzg 18 90 [r21.v] ?_))
  intro w22 u22 e22 d22
  have k27 := k_rqTrim d22 (hr21.ext e22) xq
  with_reducible refine zPm k27 ?_
  rintro _ u25 g26 ⟨r23, rfl, h24⟩
  refine zzj ⟨26, r23.cs⟩ ty26 ?_
  refine zzb (zzo (ret0 [r23.v] ⟨zzr ty26 zze, trivial⟩ fun u28 e29 => ?_))
  exact ⟨r23, rfl, RatN.more (K := K) (h24.ext e29) xq⟩
set_option maxHeartbeats 4000000 in
theorem k_r5Add {u w : World} {x : Sl} {l : List Rat} {y : Sl} {m : List Rat} {K M : Nat} (d : Dat u w) (hx : PolV u x l K) (hy : PolV u y m M) (hK : K ≤ 20000000) (hM : M ≤ 20000000) (hx9 : l.length ≤ 1000000000) (hy9 : m.length ≤ 1000000000) : Calls Tryz.prog 236 #[x.v, y.v] w (Post u w fun v u' => ∃ y : Sl, v = y.v ∧ PolN u' y (Nt.trimQ (Nt.addQ l m)) (K + M + 6)) := by
 have hlen := hx.len
 have hlen2 := hy.len
 refine zzm (args := [.slice x.a x.n x.c, .slice y.a y.n y.c]) Tryz.func236 rfl Tryz.ntmps236 (rs := [.tmp 4]) Tryz.results236 (le_b rfl) (le_b rfl) d ?_
 refine sq9 (zza 4 (.v (.slice none 0 0)) (zzb (sq9 (zza 5 (.v (.slice none 0 0)) (zzb (zzd (sq9 (zza 6 (zI 0) (zzb (zzt (zyn (I := fun m11 S' u' => (m11 = max x.n y.n ∧ S' = St.of 31 [(0, .v (.slice x.a x.n x.c)), (1, .v (.slice y.a y.n y.c)), (5, .v (.slice none 0 0)), (6, zI 0)] [] ∧ Ext u u') ∨ (∃ (i : Nat) (L : List RL) (cs : List Value) (cp : Nat), m11 = (max x.n y.n) - i ∧ i ≤ max x.n y.n ∧ 0 < i ∧ L.length = i ∧ cs.length = cp * 3 ∧ i ≤ cp ∧ cp ≤ maxLen ∧ cs.take (i * 3) = rcs L ∧ S' = St.of 31 [(0, .v (.slice x.a x.n x.c)), (1, .v (.slice y.a y.n y.c)), (5, .slc 28 0 i cp), (6, zI i)] [(28, ⟨26, cs⟩)] ∧ Ext u u' ∧ RatsN u' L ((Nt.addQ l m).take i) (K + M + 6))) (fun m S u1 u2 e h => by rcases h with ⟨a, b, c⟩ | ⟨a1, a2, a3, a4, b1, b2, b3, b4, b5, b6, b7, b8, b9, b10, b11⟩; exact .inl ⟨a, b, c.trans e⟩; exact .inr ⟨a1, a2, a3, a4, b1, b2, b3, b4, b5, b6, b7, b8, b9, b10.trans e, b11.ext e⟩) _ yw (.inl ⟨rfl, rfl, Ext.refl _⟩) ?_)))))))))))
 rintro m11 _ u11 (⟨hm11, rfl, e11⟩ | ⟨i, L, cs, cp, hm11, hi, hp, hL, hc, hle, hmx, ht, rfl, e11, hR⟩)
 ·change SW _ _ _ _ (St.of 31 [(0, .v (.slice x.a x.n x.c)), (1, .v (.slice y.a y.n y.c)), (5, .v (.slice none 0 0)), (6, .v (.int .i64 0))] []) _ _
  refine zzd (sq9 (zza 7 (zI 0) (zza 8 (.v x.v) (zza 9 (zI x.n) (zza 10 (zB (decide ((0 : Int) < (x.n : Int)))) ?_)))))
  rcases Bool.eq_false_or_eq_true (decide ((0 : Int) < (x.n : Int))) with hs12 | hs12
  ·refine zyq 11 (x := zB (decide ((0 : Int) < (x.n : Int)))) (zB true) (by rw [hs12]) ?_
   have qhs12 := of_decide_eq_true hs12
   refine zzn 12 (uw 4 false true 11) (zzn 13 (uw 4 false true 11) (zzn 14 (uw 4 false true 11) (zzn 15 (uw 4 false true 11) (zza 16 (zB true) (zzb (zyr xk (zzs (zzp ?_))))))))
   refine zzd (zzt (zzf (zza 19 (.v (.slice none 0 0)) (zza 20 (.v x.v) (zza 21 (zI 0) (zzg 22 254 [x.v, .int .i64 0] ?_))))))
   intro w13 u13 e13 d13
   have k18 := (show Calls _ _ #[_, .int .i64 (0)] _ _ from k_r5At (i := 0) d13 (hx.ext (e11.trans e13)) xq xj xq)
   with_reducible refine zPm k18 ?_
   rintro _ u16 g17 ⟨r14, rfl, h15⟩
   refine zza 23 (.v y.v) (zza 24 (zI 0) (zzg 25 254 [y.v, .int .i64 0] ?_))
   intro w19 u19 e19 d19
   have k24 := (show Calls _ _ #[_, .int .i64 (0)] _ _ from k_r5At (i := 0) d19 (hy.ext (e11.trans (e13.trans (g17.ext.trans e19)))) xq xj xq)
   with_reducible refine zPm k24 ?_
   rintro _ u22 g23 ⟨r20, rfl, h21⟩
   refine zzg 26 57 [r14.v, r20.v] ?_
   intro w25 u25 e25 d25
   have k30 := k_rqAdd d25 (h15.ext (e19.trans (g23.ext.trans e25))).raw (h21.ext e25).raw xq xq
   with_reducible refine zPm k30 ?_
   rintro _ u28 g29 ⟨r26, rfl, h27⟩
   refine zxx 27 ⟨26, r26.cs⟩ 1 (fun b31 u32 e33 h34 => ?_)
   have hp35 : PolN u32 (⟨some ⟨b31, 0, none⟩, 1, 1⟩ : Sl) [((l.getD 0 0) + (m.getD 0 0))] ((K + 2) + (M + 2) + 2) := pol_lit (L := [r26]) h34 (rats1 (h27.ext e33)) rfl yq
   refine sy_app0 28 (T := 55) (E := 26) (z := .agg #[.bool false, .slice none 0 0, .slice none 0 0]) (size := 3) (bytes := 56) (b := b31) (off := 0) (m := 1) r26.cs xk xk xk yq rfl (lit_news ((Ext.refl _).cells h34)) (rl_one r26) yq yq yq ?_
   intro c36 cs36 ha36 hb36 hc36 hd36
   refine zza 5 (.slc 28 0 1 c36) (zzx ?_)
   refine zzp (zzf (zza 17 (zI 0) (zza 18 (zI 1) (zza 6 (zI 1) (zzx ?_)))))
   have ht37 : 0 < (Nt.addQ l m).length := by rw [Nt.addQ_len]; omega
   refine ⟨_, ?_, _, by exact zzv _ _ _, .inr ⟨1, [r26], cs36, c36, rfl, by omega, by omega, by simp, hc36, by omega, hb36, hd36, rfl, (e11.trans (e13.trans (g17.ext.trans (e19.trans (g23.ext.trans (e25.trans (g29.ext.trans e33))))))), (app_first (RatN.more (K := ((K + 2) + (M + 2) + 2)) (h27.ext e33) xq) ht37 (by have h9 := Nt.addQ_co l m (0); unfold Nt.co at h9; exact h9.symm))⟩⟩
   omega
  ·refine zyq 11 (x := zB (decide ((0 : Int) < (x.n : Int)))) (zB false) (by rw [hs12]) ?_
   have qhs12 := of_decide_eq_false hs12
   refine zza 12 (zI 0) ?_ (hw := w1 4 false 11)
   refine zza 13 (.v y.v) ?_ (hw := w1 4 false 11)
   refine zza 14 (zI y.n) ?_ (hw := w1 4 false 11)
   refine zza 15 (zB (decide ((0 : Int) < (y.n : Int)))) ?_ (hw := w1 4 false 11)
   refine zza 16 (zB (decide ((0 : Int) < (y.n : Int)))) (zzb (zzu (b := decide ((0 : Int) < (y.n : Int))) xk (fun hb38 => ?_) (fun hb38 => ?_)))
   ·replace hb38 : (decide ((0 : Int) < (y.n : Int))) = true := hb38
    have qhb38 := of_decide_eq_true hb38
    refine zzs (zzp ?_)
    refine zzd (zzt (zzf (zza 19 (.v (.slice none 0 0)) (zza 20 (.v x.v) (zza 21 (zI 0) (zzg 22 254 [x.v, .int .i64 0] ?_))))))
    intro w39 u39 e39 d39
    have k44 := (show Calls _ _ #[_, .int .i64 (0)] _ _ from k_r5At (i := 0) d39 (hx.ext (e11.trans e39)) xq xj xq)
    with_reducible refine zPm k44 ?_
    rintro _ u42 g43 ⟨r40, rfl, h41⟩
    refine zza 23 (.v y.v) (zza 24 (zI 0) (zzg 25 254 [y.v, .int .i64 0] ?_))
    intro w45 u45 e45 d45
    have k50 := (show Calls _ _ #[_, .int .i64 (0)] _ _ from k_r5At (i := 0) d45 (hy.ext (e11.trans (e39.trans (g43.ext.trans e45)))) xq xj xq)
    with_reducible refine zPm k50 ?_
    rintro _ u48 g49 ⟨r46, rfl, h47⟩
    refine zzg 26 57 [r40.v, r46.v] ?_
    intro w51 u51 e51 d51
    have k56 := k_rqAdd d51 (h41.ext (e45.trans (g49.ext.trans e51))).raw (h47.ext e51).raw xq xq
    with_reducible refine zPm k56 ?_
    rintro _ u54 g55 ⟨r52, rfl, h53⟩
    refine zxx 27 ⟨26, r52.cs⟩ 1 (fun b57 u58 e59 h60 => ?_)
    have hp61 : PolN u58 (⟨some ⟨b57, 0, none⟩, 1, 1⟩ : Sl) [((l.getD 0 0) + (m.getD 0 0))] ((K + 2) + (M + 2) + 2) := pol_lit (L := [r52]) h60 (rats1 (h53.ext e59)) rfl yq
    refine sy_app0 28 (T := 55) (E := 26) (z := .agg #[.bool false, .slice none 0 0, .slice none 0 0]) (size := 3) (bytes := 56) (b := b57) (off := 0) (m := 1) r52.cs xk xk xk yq rfl (lit_news ((Ext.refl _).cells h60)) (rl_one r52) yq yq yq ?_
    intro c62 cs62 ha62 hb62 hc62 hd62
    refine zza 5 (.slc 28 0 1 c62) (zzx ?_)
    refine zzp (zzf (zza 17 (zI 0) (zza 18 (zI 1) (zza 6 (zI 1) (zzx ?_)))))
    have ht63 : 0 < (Nt.addQ l m).length := by rw [Nt.addQ_len]; omega
    refine ⟨_, ?_, _, by exact zzv _ _ _, .inr ⟨1, [r52], cs62, c62, rfl, by omega, by omega, by simp, hc62, by omega, hb62, hd62, rfl, (e11.trans (e39.trans (g43.ext.trans (e45.trans (g49.ext.trans (e51.trans (g55.ext.trans e59))))))), (app_first (RatN.more (K := ((K + 2) + (M + 2) + 2)) (h53.ext e59) xq) ht63 (by have h9 := Nt.addQ_co l m (0); unfold Nt.co at h9; exact h9.symm))⟩⟩
    omega
   ·replace hb38 : (decide ((0 : Int) < (y.n : Int))) = false := hb38
    have qhb38 := of_decide_eq_false hb38
    refine zyc (zzp (zzd ?_))
    have hp64 : PolN u11 ⟨none, 0, 0⟩ (Nt.addQ l m) (K + M + 6) := by have h9 : Nt.addQ l m = [] := List.eq_nil_of_length_eq_zero (by rw [Nt.addQ_len]; omega); rw [h9]; exact pol_nil _ _
    refine zzf (zza 29 (.v (.slice none 0 0)) (zzg 30 111 [.slice none 0 0] ?_))
    intro w65 u65 e65 d65
    have k70 := k_r5Trim d65 (hp64.ext e65).raw xq xj
    with_reducible refine zPm k70 ?_
    rintro _ u68 g69 ⟨y66, rfl, h67⟩
    have hly66 := h67.len
    refine zza 4 (.v y66.v) (zzb (zzo (ret0 [.slice y66.a y66.n y66.c] ⟨zzq, trivial⟩ fun u71 e72 => ?_)))
    refine ⟨y66, rfl, ?_⟩
    exact (h67.ext e72)
 ·change SW _ _ _ _ (St.of 31 [(0, .v (.slice x.a x.n x.c)), (1, .v (.slice y.a y.n y.c)), (5, .slc 28 0 i cp), (6, .v (.int .i64 (i : Int)))] [(28, ⟨26, cs⟩)]) _ _
  refine zzd (sq9 (zza 7 (zI i) (zza 8 (.v x.v) (zza 9 (zI x.n) (zza 10 (zB (decide ((i : Int) < (x.n : Int)))) ?_)))))
  rcases Bool.eq_false_or_eq_true (decide ((i : Int) < (x.n : Int))) with hs73 | hs73
  ·refine zyq 11 (x := zB (decide ((i : Int) < (x.n : Int)))) (zB true) (by rw [hs73]) ?_
   have qhs73 := of_decide_eq_true hs73
   refine zzn 12 (uw 4 false true 11) (zzn 13 (uw 4 false true 11) (zzn 14 (uw 4 false true 11) (zzn 15 (uw 4 false true 11) (zza 16 (zB true) (zzb (zyr xk (zzs (zzp ?_))))))))
   refine zzd (zzt (zzf (zza 19 (.slc 28 0 i cp) (zza 20 (.v x.v) (zza 21 (zI i) (zzg 22 254 [x.v, .int .i64 i] ?_))))))
   intro w74 u74 e74 d74
   have k79 := (show Calls _ _ #[_, .int .i64 ((i : Int))] _ _ from k_r5At (i := i) d74 (hx.ext (e11.trans e74)) xq xj xq)
   with_reducible refine zPm k79 ?_
   rintro _ u77 g78 ⟨r75, rfl, h76⟩
   refine zza 23 (.v y.v) (zza 24 (zI i) (zzg 25 254 [y.v, .int .i64 i] ?_))
   intro w80 u80 e80 d80
   have k85 := (show Calls _ _ #[_, .int .i64 ((i : Int))] _ _ from k_r5At (i := i) d80 (hy.ext (e11.trans (e74.trans (g78.ext.trans e80)))) xq xj xq)
   with_reducible refine zPm k85 ?_
   rintro _ u83 g84 ⟨r81, rfl, h82⟩
   refine zzg 26 57 [r75.v, r81.v] ?_
   intro w86 u86 e86 d86
   have k91 := k_rqAdd d86 (h76.ext (e80.trans (g84.ext.trans e86))).raw (h82.ext e86).raw xq xq
   with_reducible refine zPm k91 ?_
   rintro _ u89 g90 ⟨r87, rfl, h88⟩
   refine zxx 27 ⟨26, r87.cs⟩ 1 (fun b92 u93 e94 h95 => ?_)
   have hp96 : PolN u93 (⟨some ⟨b92, 0, none⟩, 1, 1⟩ : Sl) [((l.getD i 0) + (m.getD i 0))] ((K + 2) + (M + 2) + 2) := pol_lit (L := [r87]) h95 (rats1 (h88.ext e94)) rfl yq
   refine sy_app1 28 (T := 55) (E := 26) (z := .agg #[.bool false, .slice none 0 0, .slice none 0 0]) (size := 3) (bytes := 56) (b := b92) (off := 0) (m := 1) (n := i) (cap := cp) (t := 28) (cs0 := cs) [5, 19, 28] r87.cs xk xk xk yq rfl (lit_news ((Ext.refl _).cells h95)) (rl_one r87) yq yv xq xq xq xq xz ?_
   intro c97 cs97 ha97 hb97 hc97 hd97
   have hd97r : cs97.take ((i + 1) * 3) = rcs (L ++ [r87]) := by rw [hd97, ht, rcs_app]; rfl
   refine zza 5 (.slc 28 0 (i + 1) c97) (zzx ?_)
   refine zzp (zzf (zza 17 (zI i) (zyq 18 (x := zI (IntKind.i64.wrap ((i : Int) + 1))) (zI (i + 1 : Nat)) (eqI xw) (zza 6 (zI (i + 1 : Nat)) (zzx ?_)))))
   have ht98 : i < (Nt.addQ l m).length := by rw [Nt.addQ_len]; omega
   refine ⟨_, ?_, _, by exact zzv _ _ _, .inr ⟨i + 1, L ++ [r87], cs97, c97, rfl, by omega, by omega, by simp; omega, hc97, by omega, hb97, hd97r, rfl, (e11.trans (e74.trans (g78.ext.trans (e80.trans (g84.ext.trans (e86.trans (g90.ext.trans e94))))))), (app_next (hR.ext (e74.trans (g78.ext.trans (e80.trans (g84.ext.trans (e86.trans (g90.ext.trans e94))))))) (RatN.more (K := ((K + 2) + (M + 2) + 2)) (h88.ext e94) xq) ht98 (by have h9 := Nt.addQ_co l m (i); unfold Nt.co at h9; exact h9.symm))⟩⟩
   omega
  ·refine zyq 11 (x := zB (decide ((i : Int) < (x.n : Int)))) (zB false) (by rw [hs73]) ?_
   have qhs73 := of_decide_eq_false hs73
   refine zza 12 (zI i) ?_ (hw := w1 4 false 11)
   refine zza 13 (.v y.v) ?_ (hw := w1 4 false 11)
   refine zza 14 (zI y.n) ?_ (hw := w1 4 false 11)
   refine zza 15 (zB (decide ((i : Int) < (y.n : Int)))) ?_ (hw := w1 4 false 11)
   refine zza 16 (zB (decide ((i : Int) < (y.n : Int)))) (zzb (zzu (b := decide ((i : Int) < (y.n : Int))) xk (fun hb99 => ?_) (fun hb99 => ?_)))
   ·replace hb99 : (decide ((i : Int) < (y.n : Int))) = true := hb99
    have qhb99 := of_decide_eq_true hb99
    refine zzs (zzp ?_)
    refine zzd (zzt (zzf (zza 19 (.slc 28 0 i cp) (zza 20 (.v x.v) (zza 21 (zI i) (zzg 22 254 [x.v, .int .i64 i] ?_))))))
    intro w100 u100 e100 d100
    have k105 := (show Calls _ _ #[_, .int .i64 ((i : Int))] _ _ from k_r5At (i := i) d100 (hx.ext (e11.trans e100)) xq xj xq)
    with_reducible refine zPm k105 ?_
    rintro _ u103 g104 ⟨r101, rfl, h102⟩
    refine zza 23 (.v y.v) (zza 24 (zI i) (zzg 25 254 [y.v, .int .i64 i] ?_))
    intro w106 u106 e106 d106
    have k111 := (show Calls _ _ #[_, .int .i64 ((i : Int))] _ _ from k_r5At (i := i) d106 (hy.ext (e11.trans (e100.trans (g104.ext.trans e106)))) xq xj xq)
    with_reducible refine zPm k111 ?_
    rintro _ u109 g110 ⟨r107, rfl, h108⟩
    refine zzg 26 57 [r101.v, r107.v] ?_
    intro w112 u112 e112 d112
    have k117 := k_rqAdd d112 (h102.ext (e106.trans (g110.ext.trans e112))).raw (h108.ext e112).raw xq xq
    with_reducible refine zPm k117 ?_
    rintro _ u115 g116 ⟨r113, rfl, h114⟩
    refine zxx 27 ⟨26, r113.cs⟩ 1 (fun b118 u119 e120 h121 => ?_)
    have hp122 : PolN u119 (⟨some ⟨b118, 0, none⟩, 1, 1⟩ : Sl) [((l.getD i 0) + (m.getD i 0))] ((K + 2) + (M + 2) + 2) := pol_lit (L := [r113]) h121 (rats1 (h114.ext e120)) rfl yq
    refine sy_app1 28 (T := 55) (E := 26) (z := .agg #[.bool false, .slice none 0 0, .slice none 0 0]) (size := 3) (bytes := 56) (b := b118) (off := 0) (m := 1) (n := i) (cap := cp) (t := 28) (cs0 := cs) [5, 19, 28] r113.cs xk xk xk yq rfl (lit_news ((Ext.refl _).cells h121)) (rl_one r113) yq yv xq xq xq xq xz ?_
    intro c123 cs123 ha123 hb123 hc123 hd123
    have hd123r : cs123.take ((i + 1) * 3) = rcs (L ++ [r113]) := by rw [hd123, ht, rcs_app]; rfl
    refine zza 5 (.slc 28 0 (i + 1) c123) (zzx ?_)
    refine zzp (zzf (zza 17 (zI i) (zyq 18 (x := zI (IntKind.i64.wrap ((i : Int) + 1))) (zI (i + 1 : Nat)) (eqI xw) (zza 6 (zI (i + 1 : Nat)) (zzx ?_)))))
    have ht124 : i < (Nt.addQ l m).length := by rw [Nt.addQ_len]; omega
    refine ⟨_, ?_, _, by exact zzv _ _ _, .inr ⟨i + 1, L ++ [r113], cs123, c123, rfl, by omega, by omega, by simp; omega, hc123, by omega, hb123, hd123r, rfl, (e11.trans (e100.trans (g104.ext.trans (e106.trans (g110.ext.trans (e112.trans (g116.ext.trans e120))))))), (app_next (hR.ext (e100.trans (g104.ext.trans (e106.trans (g110.ext.trans (e112.trans (g116.ext.trans e120))))))) (RatN.more (K := ((K + 2) + (M + 2) + 2)) (h114.ext e120) xq) ht124 (by have h9 := Nt.addQ_co l m (i); unfold Nt.co at h9; exact h9.symm))⟩⟩
    omega
   ·replace hb99 : (decide ((i : Int) < (y.n : Int))) = false := hb99
    have qhb99 := of_decide_eq_false hb99
    refine zyc (zzp (zzd (zyp (r := 5) (t := 28) [5, 28] xz xk (by rfl) (by rfl) xk (fun b126 u127 e128 hb129 hh130 => ?_))))
    have hp125 : PolN u127 ⟨some ⟨b126, 0, none⟩, i, cp⟩ (Nt.addQ l m) (K + M + 6) := by have h8 := pol_data hh130 ht hc hle hmx (hR.ext e128); rw [List.take_of_length_le (l := Nt.addQ l m) (by rw [Nt.addQ_len]; omega)] at h8; exact h8
    refine zzf (zza 29 (.v (.slice (some ⟨b126, 0, none⟩) i cp)) (zzg 30 111 [.slice (some ⟨b126, 0, none⟩) i cp] ?_))
    intro w131 u131 e131 d131
    have k136 := k_r5Trim d131 (hp125.ext e131).raw xq xj
    with_reducible refine zPm k136 ?_
    rintro _ u134 g135 ⟨y132, rfl, h133⟩
    have hly132 := h133.len
    refine zza 4 (.v y132.v) (zzb (zzo (ret0 [.slice y132.a y132.n y132.c] ⟨zzq, trivial⟩ fun u137 e138 => ?_)))
    refine ⟨y132, rfl, ?_⟩
    exact (h133.ext e138)
set_option maxHeartbeats 1000000 in
theorem k_r5Sub {u w : World} {x : Sl} {l : List Rat} {y : Sl} {m : List Rat} {K M : Nat} (d : Dat u w) (hx : PolV u x l K) (hy : PolV u y m M) (hK : K ≤ 10000000) (hM : M ≤ 10000000) (hx9 : l.length ≤ 1000000000) (hy9 : m.length ≤ 1000000000) : Calls Tryz.prog 188 #[x.v, y.v] w (Post u w fun v u' => ∃ y : Sl, v = y.v ∧ PolN u' y (Nt.trimQ (Nt.addQ l (Nt.trimQ (m.map (· * (((-1) : Int) : Rat)))))) (K + M + 20)) := by
 have hlen := hx.len
 have hlen2 := hy.len
 refine zzm (args := [.slice x.a x.n x.c, .slice y.a y.n y.c]) Tryz.func188 rfl Tryz.ntmps188 (rs := [.tmp 4]) Tryz.results188 (le_b rfl) (le_b rfl) d ?_
 refine sq9 (zza 4 (.v (.slice none 0 0)) (zzb (sq9 (zza 5 (.v x.v) (zza 6 (.v y.v) (zzg 7 30 [.int .i64 (-1)] ?_))))))
 intro w11 u11 e11 d11
 have k16 := k_rqOf d11 (z := (-1)) xq xq
 with_reducible refine zPm k16 ?_
 rintro _ u14 g15 ⟨r12, rfl, h13⟩
 refine zzg 8 237 [y.v, r12.v] ?_
 intro w17 u17 e17 d17
 have k22 := k_r5Scale d17 (hy.ext (e11.trans (g15.ext.trans e17))) (h13.ext e17).raw xq xq xq
 with_reducible refine zPm k22 ?_
 rintro _ u20 g21 ⟨y18, rfl, h19⟩
 have hly18 := h19.len
 refine zzg 9 236 [x.v, y18.v] ?_
 intro w23 u23 e23 d23
 have k28 := k_r5Add d23 (hx.ext (e11.trans (g15.ext.trans (e17.trans (g21.ext.trans e23))))) (h19.ext e23).raw xq xq xj xj
 with_reducible refine zPm k28 ?_
 rintro _ u26 g27 ⟨y24, rfl, h25⟩
 have hly24 := h25.len
 refine zza 4 (.v y24.v) (zzb (zzo (ret0 [.slice y24.a y24.n y24.c] ⟨zzq, trivial⟩ fun u29 e30 => ?_)))
 refine ⟨y24, rfl, PolN.more (K := (K + (M + 2 + 1) + 6)) ?_ xq⟩
 exact (h25.ext e30)
end Go.Proofs.YtbolmkfphieogaaGreat
namespace Go.Proofs.YtbolmkfphieogaaGreat.Nt
open Go.RowKit
open Pol
set_option linter.unusedVariables false
def RSz (l : List Rat) (j : Nat) : Prop := l.length ≤ 1 + j ∧ ∃ D, D ≤ 2 ^ (2 + 6 * j) ∧ Sm l D (2 + 6 * j)
theorem RSz.more {l : List Rat} {i j : Nat} (h : RSz l i) (k : i ≤ j) : RSz l j := by
 obtain ⟨h1, D, h2, h3⟩ := h
 exact ⟨by omega, D, Nat.le_trans h2 (Nat.pow_le_pow_right xq xq), h3.more xq⟩
theorem RSz.one {z : Nat} (hz : z < 3) : RSz [(((1 + z : Nat) : Int) : Rat)] 0 :=
 ⟨by simp, 1, by decide, Sm.ofAll xq (fun x hx => by
  rw [List.mem_singleton.1 hx, show ((((1 : Nat) : Int)) : Rat) = 1 from rfl, Rat.mul_one]
  exact whNat xq)⟩
theorem RSz.neg {l : List Rat} {j : Nat} (h : RSz l j) : RSz (trimQ (l.map (· * (((-1) : Int) : Rat)))) j := by
 obtain ⟨h1, D, h2, h3⟩ := h
 refine ⟨map_lenQ h1, D, h2, Sm.trim ⟨h3.1, fun i => ?_⟩⟩
 rw [co_map (fun x => x * (((-1) : Int) : Rat)) (Rat.zero_mul _)]
 obtain ⟨z, hz, hb⟩ := h3.2 i
 refine ⟨-z, ?_, by rw [Int.natAbs_neg]; exact hb⟩
 rw [Rat.intCast_neg (a := z), ← hz]
 have e1 : (((-1) : Int) : Rat) = -1 := by decide +kernel
 rw [e1]; grind
theorem lin_sm {r : Rat} (h : Wh (r * (((12 : Nat) : Int) : Rat)) 4) : Sm [-r, ((1 : Int) : Rat)] 12 4 := Sm.ofAll xq (fun x hx => by
 rcases List.mem_cons.1 hx with rfl | hx
 ·obtain ⟨z, hz, hb⟩ := h
  exact ⟨-z, by rw [Rat.intCast_neg, ← hz]; grind, by rw [Int.natAbs_neg]; exact hb⟩
 ·rw [List.mem_singleton.1 hx]
  exact ⟨12, by decide +kernel, by decide⟩)
theorem RSz.lin {l : List Rat} {j : Nat} {r : Rat} (h : RSz l j) (hr : Wh (r * (((12 : Nat) : Int) : Rat)) 4) : RSz (trimQ (mulQ l [-r, ((1 : Int) : Rat)])) (j + 1) := by
 obtain ⟨h1, D, h2, h3⟩ := h
 refine ⟨Nat.le_trans (zxt h1 (Nat.le_refl _)) yk, D * 12, ?_, ((h3.mulR (lin_sm hr)).trim).more yk⟩
 rw [show 2 + 6 * (j + 1) = (2 + 6 * j) + 6 by omega, Nat.pow_add]
 exact Nat.mul_le_mul h2 yq
def RFin (l : List Rat) : Prop := l.length ≤ 12 ∧ ∃ D, D ≤ 2 ^ 63 ∧ Sm l D 63
theorem RSz.fin {l : List Rat} (h : RSz l 9) : RFin l := by
 obtain ⟨h1, D, h2, h3⟩ := h
 exact ⟨by omega, D, Nat.le_trans h2 yq, h3.more yq⟩
end Go.Proofs.YtbolmkfphieogaaGreat.Nt
namespace Go.Proofs.YtbolmkfphieogaaGreat.Nt
open Go.RowKit
open Pol
set_option linter.unusedVariables false
def lin (r : Rat) : Pol := mk' [-r, ((1 : Int) : Rat)]
def Cop (a b : Pol) : Prop := ∃ u v, u * a + v * b = 1
theorem Cop.symm {a b : Pol} (h : Cop a b) : Cop b a := by obtain ⟨u, v, e⟩ := h; exact ⟨v, u, by grind⟩
theorem Cop.mul {a b c : Pol} (h : Cop a c) (k : Cop b c) : Cop (a * b) c := by
 obtain ⟨u, v, e⟩ := h
 obtain ⟨u', v', e'⟩ := k
 refine ⟨u * u', u * a * v' + v * u' * b + v * v' * c, ?_⟩
 have : (u * a + v * c) * (u' * b + v' * c) = 1 := by rw [e, e', one_mul]
 grind
theorem Cop.mulR {a b c : Pol} (h : Cop c a) (k : Cop c b) : Cop c (a * b) := (h.symm.mul k.symm).symm
theorem Cop.add {a b : Pol} (h : Cop a b) (k : Pol) : Cop a (b + k * a) := by
 obtain ⟨u, v, e⟩ := h
 exact ⟨u - v * k, v, by grind⟩
theorem Cop.one (b : Pol) : Cop 1 b := ⟨1, 0, by grind⟩
def prA : List (Rat × Nat) → Pol
 | [] => 1
 | f :: fs => prA fs * npow (lin f.1) f.2
structure QOK (Q : Pol) (rs : List Rat) : Prop where
 ne : Q ≠ 0
 d : Cop Q Q.D
 r : ∀ r ∈ rs, Q.ev r ≠ 0
structure MadeF (P : Pol) (rs : List Rat) : Prop where
 nd : rs.Nodup
 wh : ∀ r ∈ rs, Wh (r * (((12 : Nat) : Int) : Rat)) 4
 ex : ∃ (c : Rat) (fs : List (Rat × Nat)), c ≠ 0 ∧ (∀ f ∈ fs, 1 ≤ f.2) ∧ fs.map (·.1) = rs.reverse ∧ P = C c * prA fs
theorem MadeF.begin (z : Nat) : MadeF (mk' [(((1 + z : Nat) : Int) : Rat)]) [] :=
 ⟨List.nodup_nil, (fun r hr => by cases hr), _, [], dz (show 0 < 1 + z by omega), (fun f hf => by cases hf), rfl, (mul_one _).symm⟩
theorem MadeF.neg {l : List Rat} (h : MadeF (mk' l) []) : MadeF (mk' (trimQ (l.map (· * (((-1) : Int) : Rat))))) [] := by
 obtain ⟨h1, h2, c, fs, h3, h4, h5, h6⟩ := h
 refine ⟨h1, h2, (((-1) : Int) : Rat) * c, fs, ?_, h4, h5, ?_⟩
 ·intro e
  rcases Rat.mul_eq_zero.1 e with e | e
  ·exact absurd e (by decide +kernel)
  ·exact h3 e
 ·rw [mk_trim, mk_map, h6, C_mul]; grind
theorem MadeF.step {P : Pol} {rs : List Rat} {r : Rat} {k : Nat} (h : MadeF P rs) (hr : r ∉ rs) (hk : 1 ≤ k) (hw : Wh (r * (((12 : Nat) : Int) : Rat)) 4) : MadeF (P * npow (lin r) k) (rs ++ [r]) := by
 obtain ⟨h1, h2, c, fs, h3, h4, h5, h6⟩ := h
 refine ⟨?_, ?_, c, (r, k) :: fs, h3, ?_, ?_, ?_⟩
 ·rw [List.nodup_append]
  refine ⟨h1, by simp, fun a ha b hb e => ?_⟩
  rw [List.mem_singleton.1 hb] at e
  exact hr (e ▸ ha)
 ·intro y hy
  rcases List.mem_append.1 hy with hy | hy
  ·exact h2 y hy
  ·rw [List.mem_singleton.1 hy]; exact hw
 ·intro f hf
  rcases List.mem_cons.1 hf with rfl | hf
  ·exact hk
  ·exact h4 f hf
 ·rw [List.map_cons, h5, List.reverse_append]; rfl
 ·show _ = C c * (prA fs * npow (lin r) k)
  rw [h6]; grind
end Go.Proofs.YtbolmkfphieogaaGreat.Nt
namespace Go.Proofs.YtbolmkfphieogaaGreat.Nt
open Go.RowKit
open Pol
set_option linter.unusedVariables false
section
variable {l : List Rat} {x a b c : Rat} {i n D A B K : Nat} {q : Pol}
theorem drop_top {α : Type} {l : List α} (d : α) (h : i < l.length) : l.drop (l.length - (i + 1)) = l.getD (l.length - 1 - i) d :: l.drop (l.length - i) := by
 rw [show l.length - (i + 1) = l.length - 1 - i by omega, List.drop_eq_getElem_cons xq, show l.length - 1 - i + 1 = l.length - i by omega]
 congr 1
 rw [List.getD_eq_getElem?_getD, List.getElem?_eq_getElem xq, Option.getD_some]
theorem evL_trim (l : List Rat) (x : Rat) : evL (trimQ l) x = evL l x := evL_congr (trim_co l) x
def encL (a b : Rat) : List Rat → Rat × Rat
 | [] => (0, 0)
 | c :: l => (lo4 ((encL a b l).1 * a) ((encL a b l).1 * b) ((encL a b l).2 * a) ((encL a b l).2 * b) + c, hi4 ((encL a b l).1 * a) ((encL a b l).1 * b) ((encL a b l).2 * a) ((encL a b l).2 * b) + c)
theorem enc_top (h : i < l.length) : encL a b (l.drop (l.length - (i + 1))) = (lo4 ((encL a b (l.drop (l.length - i))).1 * a) ((encL a b (l.drop (l.length - i))).1 * b) ((encL a b (l.drop (l.length - i))).2 * a) ((encL a b (l.drop (l.length - i))).2 * b) + l.getD (l.length - 1 - i) 0, hi4 ((encL a b (l.drop (l.length - i))).1 * a) ((encL a b (l.drop (l.length - i))).1 * b) ((encL a b (l.drop (l.length - i))).2 * a) ((encL a b (l.drop (l.length - i))).2 * b) + l.getD (l.length - 1 - i) 0) := by
 rw [drop_top 0 h]; rfl
theorem lo_self (c : Rat) : lo c c = c := by unfold lo; split <;> rfl
theorem hi_self (c : Rat) : hi c c = c := by unfold hi; split <;> rfl
theorem enc_step (s t a b c : Rat) : lo (lo4 (s * a) (s * b) (t * a) (t * b)) (hi4 (s * a) (s * b) (t * a) (t * b)) + lo (lo c c) (hi c c) = lo4 (s * a) (s * b) (t * a) (t * b) + c ∧ hi (lo4 (s * a) (s * b) (t * a) (t * b)) (hi4 (s * a) (s * b) (t * a) (t * b)) + hi (lo c c) (hi c c) = hi4 (s * a) (s * b) (t * a) (t * b) + c := by
 have h := lo_of_le (lo4_hi4 (s * a) (s * b) (t * a) (t * b))
 rw [h.1, h.2, lo_self, hi_self, lo_self, hi_self]
 exact ⟨rfl, rfl⟩
theorem lo4_zero (a b : Rat) : lo4 (0 * a) (0 * b) (0 * a) (0 * b) = 0 ∧ hi4 (0 * a) (0 * b) (0 * a) (0 * b) = 0 := by
 rw [Rat.zero_mul, Rat.zero_mul]; decide +kernel
theorem encL_trim (a b : Rat) (l : List Rat) : encL a b (trimQ l) = encL a b l := by
 induction l with
 | nil => rfl
 | cons c l ih =>
  unfold trimQ
  split
  ·rename_i h
   have h1 : encL a b l = (0, 0) := by rw [← ih, h.1]; rfl
   show (0, 0) = encL a b (c :: l)
   unfold encL
   rw [h1, h.2]
   have h2 := lo4_zero a b
   simp only []
   rw [h2.1, h2.2, Rat.add_zero]
  ·show (_, _) = (_, _)
   rw [ih]
end
end Go.Proofs.YtbolmkfphieogaaGreat.Nt
namespace Go.Proofs.YtbolmkfphieogaaGreat.Nt
open Go.RowKit
open Pol
set_option linter.unusedVariables false
section
variable {l m W : List Rat} {x q : Rat} {i A B C : Nat}
def hp (q : Rat) (i : Nat) : Rat := (((q.den ^ (i - 1) : Nat) : Int) : Rat)
def hs (W : List Rat) (q : Rat) (i : Nat) : Rat := hp q i * evL (W.drop (W.length - i)) q
theorem ev_mulL (l m : List Rat) (x : Rat) : evL (trimQ (mulQ l m)) x = evL l x * evL m x := by
 rw [evL_trim, ← mk_ev, mk_mul, ev_mul, mk_ev, mk_ev]
theorem Sm.mem {D : Nat} (h : Sm l D A) : ∀ y ∈ l, Wh (y * ((D : Int) : Rat)) A := fun y hy => by
 obtain ⟨j, hj, e⟩ := List.getElem_of_mem hy
 have h9 := h.2 j
 unfold Nt.co at h9
 rw [List.getD_eq_getElem?_getD, List.getElem?_eq_getElem hj, Option.getD_some, e] at h9
 exact h9
end
end Go.Proofs.YtbolmkfphieogaaGreat.Nt
namespace Go.Proofs.YtbolmkfphieogaaGreat.Nt
open Go.RowKit
open Pol
set_option linter.unusedVariables false
def chebP : Nat → List Rat × List Rat
 | 0 => ([((1 : Int) : Rat)], [((0 : Int) : Rat), ((1 : Int) : Rat)])
 | n + 1 => ((chebP n).2, trimQ (addQ (trimQ (mulQ (chebP n).2 [((0 : Int) : Rat), ((2 : Int) : Rat)])) (trimQ ((chebP n).1.map (· * (((-1) : Int) : Rat))))))
def chebL (n : Nat) : List Rat := trimQ (chebP n).1
def AP (B A : List Rat) : Prop := ∀ z w : Rat, z * w = 1 → evL B z * evL B w = evL A z * evL A w
theorem AP.one : AP [((1 : Int) : Rat)] [((1 : Int) : Rat)] := fun z w _ => rfl
theorem AP.mul {B A B' A' : List Rat} (h : AP B A) (k : AP B' A') : AP (trimQ (mulQ B B')) (trimQ (mulQ A A')) := fun z w e => by
 rw [ev_mulL, ev_mulL, ev_mulL, ev_mulL]
 have h1 := h z w e
 have h2 := k z w e
 grind
theorem AP.trim {B A : List Rat} (h : AP B A) : AP (trimQ B) (trimQ A) := fun z w e => by rw [evL_trim, evL_trim, evL_trim, evL_trim]; exact h z w e
end Go.Proofs.YtbolmkfphieogaaGreat.Nt
namespace Go.Proofs.YtbolmkfphieogaaGreat
open Go.RowKit
set_option linter.unusedVariables false
namespace Nt
def wq (z f : Int) : Rat := ((z : Int) : Rat) / ((p2i f : Int) : Rat)
end Nt
namespace Nt
theorem cheb_smP (n : Nat) : Sm (chebP n).1 1 (4 * n) ∧ Sm (chebP n).2 1 (4 * (n + 1)) := by
 induction n with
 | zero => exact ⟨Sm.ofInts (zs := [1]) yq, Sm.ofInts (zs := [0, 1]) yq⟩
 | succ n ih =>
  refine ⟨ih.2, ?_⟩
  have h2 : Sm [((0 : Int) : Rat), ((2 : Int) : Rat)] 1 1 := Sm.ofInts (zs := [0, 2]) yq
  have h1 : Sm (trimQ (mulQ (chebP n).2 [((0 : Int) : Rat), ((2 : Int) : Rat)])) 1 (4 * n + 7) := ((ih.2.mulR h2).trim).more yk
  have h3 : Sm (trimQ ((chebP n).1.map (· * (((-1) : Int) : Rat)))) 1 (4 * n + 7) := ((ih.1.map (E := 1) yq (B := 0) ⟨-1, by decide +kernel, by decide⟩).trim).more xq
  exact ((h1.add h3).trim).more xq
theorem cheb_lenP (n : Nat) : (chebP n).1.length ≤ n + 1 ∧ (chebP n).2.length ≤ n + 2 := by
 induction n with
 | zero => exact ⟨Nat.le_refl _, Nat.le_refl _⟩
 | succ n ih =>
  refine ⟨ih.2, ?_⟩
  have h1 : (trimQ (mulQ (chebP n).2 [((0 : Int) : Rat), ((2 : Int) : Rat)])).length ≤ n + 2 + 2 - 1 := zxt ih.2 (Nat.le_refl _)
  have h3 : (trimQ ((chebP n).1.map (· * (((-1) : Int) : Rat)))).length ≤ n + 1 := map_lenQ ih.1
  refine Nat.le_trans (zzh _) ?_
  rw [addQ_len]
  omega
theorem chebL_len (n : Nat) : (chebL n).length ≤ n + 1 := Nat.le_trans (zzh _) (cheb_lenP n).1
end Nt
set_option maxHeartbeats 2000000 in
theorem k_cheb {u w : World} {n : Nat} (d : Dat u w) (hn : n ≤ 20) : Calls Tryz.prog 109 #[.int .i64 (n : Int)] w (Post u w fun v u' => ∃ y : Sl, v = y.v ∧ PolN u' y (Nt.chebL n) 3) := by
 refine zzm (args := [.int .i64 n]) Tryz.func109 rfl Tryz.ntmps109 (rs := [.tmp 2]) Tryz.results109 (le_b rfl) (le_b rfl) d ?_
 refine sq9 (zza 2 (.v (.slice none 0 0)) (zzb (sq9 (zzg 5 30 [.int .i64 1] ?_))))
 intro w11 u11 e11 d11
 have k16 := k_rqOf d11 (z := 1) xq xq
 with_reducible refine zPm k16 ?_
 rintro _ u14 g15 ⟨r12, rfl, h13⟩
 refine zxx 6 ⟨26, r12.cs⟩ 1 (fun b17 u18 e19 h20 => ?_)
 have hp21 : PolN u18 (⟨some ⟨b17, 0, none⟩, 1, 1⟩ : Sl) [((1 : Int) : Rat)] 2 := pol_lit (L := [r12]) h20 (rats1 (h13.ext e19)) rfl yq
 refine zzg 7 30 [.int .i64 0] ?_
 intro w22 u22 e22 d22
 have k27 := k_rqOf d22 (z := 0) xq xq
 with_reducible refine zPm k27 ?_
 rintro _ u25 g26 ⟨r23, rfl, h24⟩
 refine zzg 8 30 [.int .i64 1] ?_
 intro w28 u28 e28 d28
 have k33 := k_rqOf d28 (z := 1) xq xq
 with_reducible refine zPm k33 ?_
 rintro _ u31 g32 ⟨r29, rfl, h30⟩
 refine zxx 9 ⟨26, r23.cs ++ r29.cs⟩ 2 (fun b34 u35 e36 h37 => ?_)
 have hp38 : PolN u35 (⟨some ⟨b34, 0, none⟩, 2, 2⟩ : Sl) [((0 : Int) : Rat), ((1 : Int) : Rat)] 2 := pol_lit (L := [r23, r29]) h37 (rats2 (h24.ext (e28.trans (g32.ext.trans e36))) (h30.ext e36)) rfl yq
 refine zza 3 (.v (.slice (some ⟨b17, 0, none⟩) 1 1)) (zza 4 (.v (.slice (some ⟨b34, 0, none⟩) 2 2)) (zzb (zzd (zzt (zyn (I := fun m39 S' u' => ∃ (j : Nat) (k : Nat) (a : Sl) (b : Sl), (m39 = k) ∧ (j + k = n) ∧ (S' = St.of 24 [(0, zI k), (3, .v (.slice a.a a.n a.c)), (4, .v (.slice b.a b.n b.c))] []) ∧ (Ext u35 u') ∧ (PolN u' a (Nt.chebP j).1 3) ∧ (PolN u' b (Nt.chebP j).2 3)) (fun m S u1 u2 e h => by obtain ⟨j, k, a, b, hm, p0, hS, hE, f0, f1⟩ := h; exact ⟨j, k, a, b, hm, p0, hS, hE.trans e, f0.ext e, f1.ext e⟩) _ yw ⟨0, n, (⟨some ⟨b17, 0, none⟩, 1, 1⟩ : Sl), (⟨some ⟨b34, 0, none⟩, 2, 2⟩ : Sl), rfl, by omega, rfl, (Ext.refl _), (PolN.more (hp21.ext (e22.trans (g26.ext.trans (e28.trans (g32.ext.trans e36))))) yq), (PolN.more hp38 yq)⟩ ?_)))))
 rintro m39 _ u39 ⟨j, k, a, b, hm39, hj, rfl, e39, hA, hB⟩
 have hal := hA.len
 have hbl := hB.len
 have hl1 := (Nt.cheb_lenP j).1
 have hl2 := (Nt.cheb_lenP j).2
 refine zzd (sq9 (zza 10 (zI k) (zza 11 (zB (decide ((0 : Int) < (k : Int)))) (zzb (zzu (b := decide ((0 : Int) < (k : Int))) xk (fun hb40 => ?_) (fun hb40 => ?_))))))
 ·replace hb40 : (decide ((0 : Int) < (k : Int))) = true := hb40
  have qhb40 := of_decide_eq_true hb40
  refine zzs (zzp ?_)
  refine zzd (zzt (zzf (zza 14 (.v b.v) (zza 15 (.v b.v) (zzg 16 30 [.int .i64 0] ?_)))))
  intro w41 u41 e41 d41
  have k46 := k_rqOf d41 (z := 0) xq xq
  with_reducible refine zPm k46 ?_
  rintro _ u44 g45 ⟨r42, rfl, h43⟩
  refine zzg 17 30 [.int .i64 2] ?_
  intro w47 u47 e47 d47
  have k52 := k_rqOf d47 (z := 2) xq xq
  with_reducible refine zPm k52 ?_
  rintro _ u50 g51 ⟨r48, rfl, h49⟩
  refine zxx 18 ⟨26, r42.cs ++ r48.cs⟩ 2 (fun b53 u54 e55 h56 => ?_)
  have hp57 : PolN u54 (⟨some ⟨b53, 0, none⟩, 2, 2⟩ : Sl) [((0 : Int) : Rat), ((2 : Int) : Rat)] 2 := pol_lit (L := [r42, r48]) h56 (rats2 (h43.ext (e47.trans (g51.ext.trans e55))) (h49.ext e55)) rfl yq
  refine zzg 19 189 [b.v, .slice (some ⟨b53, 0, none⟩) 2 2] ?_
  intro w58 u58 e58 d58
  have hkk : Nt.kk (3 + 2 + 3) ((Nt.chebP j).2.length * [((0 : Int) : Rat), ((2 : Int) : Rat)].length) ≤ 500 := Nat.le_trans (Nt.kk_mono (show _ ≤ 8 by omega) (Nat.mul_le_mul (show _ ≤ 22 by omega) (show _ ≤ 2 by simp))) yq
  have k63 := k_r5Mul d58 (hB.ext (e41.trans (g45.ext.trans (e47.trans (g51.ext.trans (e55.trans e58)))))).raw (hp57.ext e58).raw (Nat.le_trans hkk yq) xq xq xq (by simp)
  with_reducible refine zPm k63 ?_
  rintro _ u61 g62 ⟨y59, rfl, h60⟩
  have hk64 := (PolN.more h60 hkk : PolN _ _ _ 500)
  have hly59 := h60.len
  have hmy59 : (Nt.trimQ (Nt.mulQ (Nt.chebP j).2 [((0 : Int) : Rat), ((2 : Int) : Rat)])).length ≤ j + 2 + 2 - 1 := Nt.zxt hl2 (Nat.le_refl _)
  refine zza 20 (.v a.v) (zzg 21 188 [y59.v, a.v] ?_)
  intro w65 u65 e65 d65
  have k70 := k_r5Sub d65 (hk64.ext e65).raw (hA.ext (e41.trans (g45.ext.trans (e47.trans (g51.ext.trans (e55.trans (e58.trans (g62.ext.trans e65)))))))).raw xq xq xj xj
  with_reducible refine zPm k70 ?_
  rintro _ u68 g69 ⟨y66, rfl, h67⟩
  have hly66 := h67.len
  refine zza 3 (.v b.v) (zza 4 (.v y66.v) (zzx ?_))
  refine zzp (zzf (zza 12 (zI k) (zyq 13 (x := zI (IntKind.i64.wrap ((k : Int) - 1))) (zI (k - 1 : Nat)) (eqI xw) (zza 0 (zI (k - 1 : Nat)) (zzx ?_)))))
  refine ⟨_, ?_, _, by exact zzv _ _ _, j + 1, k - 1, b, y66, rfl, by omega, rfl, (e39.trans (e41.trans (g45.ext.trans (e47.trans (g51.ext.trans (e55.trans (e58.trans (g62.ext.trans (e65.trans g69.ext))))))))), (by have h9 : PolN _ _ (Nt.chebP (j + 1)).1 _ := (hB.ext (e41.trans (g45.ext.trans (e47.trans (g51.ext.trans (e55.trans (e58.trans (g62.ext.trans (e65.trans g69.ext))))))))); exact (PolN.fitS h9 ((Nt.cheb_smP (j + 1)).1.more (show _ ≤ 84 by omega)) yq).more yq), (by have h9 : PolN _ _ (Nt.chebP (j + 1)).2 _ := h67; exact (PolN.fitS h9 ((Nt.cheb_smP (j + 1)).2.more (show _ ≤ 84 by omega)) yq).more yq)⟩
  omega
 ·replace hb40 : (decide ((0 : Int) < (k : Int))) = false := hb40
  have qhb40 := of_decide_eq_false hb40
  refine zyc (zzp (sq9 (zza 22 (.v a.v) (zzg 23 111 [a.v] ?_))))
  intro w71 u71 e71 d71
  have k76 := k_r5Trim d71 (hA.ext e71).raw xq xj
  with_reducible refine zPm k76 ?_
  rintro _ u74 g75 ⟨y72, rfl, h73⟩
  have hly72 := h73.len
  refine zza 2 (.v y72.v) (zzb (zzo (ret0 [.slice y72.a y72.n y72.c] ⟨zzq, trivial⟩ fun u77 e78 => ?_)))
  have hjn : j = n := by omega
  refine ⟨y72, rfl, ?_⟩
  have h9 := (h73.ext e78)
  rw [hjn] at h9
  exact h9
theorem Nt.enc_topk {a b : Rat} {l : List Rat} {k : Nat} (h0 : 0 < k) (h : k ≤ l.length) : Nt.encL a b (l.drop (k - 1)) = (Nt.lo4 ((Nt.encL a b (l.drop k)).1 * a) ((Nt.encL a b (l.drop k)).1 * b) ((Nt.encL a b (l.drop k)).2 * a) ((Nt.encL a b (l.drop k)).2 * b) + l.getD (k - 1) 0, Nt.hi4 ((Nt.encL a b (l.drop k)).1 * a) ((Nt.encL a b (l.drop k)).1 * b) ((Nt.encL a b (l.drop k)).2 * a) ((Nt.encL a b (l.drop k)).2 * b) + l.getD (k - 1) 0) := by
 have h9 := Nt.enc_top (a := a) (b := b) (l := l) (i := l.length - k) xq
 rw [show l.length - (l.length - k + 1) = k - 1 by omega, show l.length - (l.length - k) = k by omega, show l.length - 1 - (l.length - k) = k - 1 by omega] at h9
 exact h9
set_option maxHeartbeats 4000000 in
theorem k_r5Enclose {u w : World} {x : Sl} {l : List Rat} {b1 b2 : RL} {y1 y2 : Rat} {K M S : Nat} (d : Dat u w) (hx : PolV u x l K) (hb1 : RatV u b1 y1 M) (hb2 : RatV u b2 y2 M) (hS : K + M + 5 ≤ S) (hS9 : l.length * S ≤ 20000000) (hM : M ≤ 10000000) (hK : K ≤ 10000000) (hl9 : l.length ≤ 1000000) : Calls Tryz.prog 42 #[x.v, IV b1 b2] w (Post u w fun v u' => ∃ p q : RL, v = IV p q ∧ RatN u' p (Nt.encL y1 y2 l).1 (l.length * S + 2) ∧ RatN u' q (Nt.encL y1 y2 l).2 (l.length * S + 2)) := by
 have hlen := hx.len
 have htl := Nt.zzh l
 have hln : l.length ≤ 1000000 := hl9
 clear hl9
 refine zzm (args := [.slice x.a x.n x.c, .agg #[.bool b1.s, .slice b1.m.a b1.m.n b1.m.c, .slice b1.d.a b1.d.n b1.d.c, .bool b2.s, .slice b2.m.a b2.m.n b2.m.c, .slice b2.d.a b2.d.n b2.d.c]]) Tryz.func42 rfl Tryz.ntmps42 (rs := [.cell 4 32]) Tryz.results42 (le_b rfl) (le_b rfl) d ?_
 refine sq9 (zzk 3 ⟨32, b1.cs ++ b2.cs⟩ (zzk 4 ⟨32, [.bool false, .slice none 0 0, .slice none 0 0, .bool false, .slice none 0 0, .slice none 0 0]⟩ (zzb (sq9 (zza 7 (.v x.v) (zzg 8 111 [x.v] ?_))))))
 intro w11 u11 e11 d11
 have k16 := k_r5Trim d11 (hx.ext e11) xq xj
 with_reducible refine zPm k16 ?_
 rintro _ u14 g15 ⟨y12, rfl, h13⟩
 have hly12 := h13.len
 obtain ⟨l9, hl9⟩ : ∃ l9, l9 = Nt.trimQ l := ⟨_, rfl⟩
 rw [← hl9] at h13 hly12
 have hl8 : l9.length ≤ l.length := by rw [hl9]; exact htl
 refine zza 0 (.v y12.v) (zzb (sq9 (zzg 9 30 [.int .i64 0] ?_)))
 intro w18 u18 e18 d18
 have k23 := k_rqOf d18 (z := 0) xq xq
 with_reducible refine zPm k23 ?_
 rintro _ u21 g22 ⟨r19, rfl, h20⟩
 refine zzg 10 30 [.int .i64 0] ?_
 intro w24 u24 e24 d24
 have k29 := k_rqOf d24 (z := 0) xq xq
 with_reducible refine zPm k29 ?_
 rintro _ u27 g28 ⟨r25, rfl, h26⟩
 refine zzg 11 38 [r19.v, r25.v] ?_
 intro w30 u30 e30 d30
 have k37 := k_r4Make d30 (h20.ext (e24.trans (g28.ext.trans e30))).raw (h26.ext e30).raw xq
 with_reducible refine zPm k37 ?_
 rintro _ u35 g36 ⟨r31, r33, rfl, h32, h34⟩
 refine zzk 5 ⟨32, [.bool false, .slice none 0 0, .slice none 0 0, .bool false, .slice none 0 0, .slice none 0 0]⟩ (zzj ⟨32, r31.cs ++ r33.cs⟩ ty32 ?_)
 refine zzb (zzd (sq9 (zza 12 (.v y12.v) (zza 13 (zI y12.n) (zyq 14 (x := zI (IntKind.i64.wrap ((y12.n : Int) - 1))) (zI ((y12.n : Int) - 1)) (eqI (by rw [IntWalk.i64_in _ xq]; try omega)) (zza 6 (zI ((y12.n : Int) - 1)) (zzb (zzt (zyn (I := fun m38 S' u' => ∃ (k : Nat) (p1 : RL) (p2 : RL), (m38 = k) ∧ (k ≤ l9.length) ∧ (S' = St.of 33 [(0, .v (.slice y12.a y12.n y12.c)), (3, .adr 3 0), (4, .adr 4 0), (5, .adr 5 0), (6, zI ((k : Int) - 1))] [(3, ⟨32, b1.cs ++ b2.cs⟩), (4, ⟨32, [.bool false, .slice none 0 0, .slice none 0 0, .bool false, .slice none 0 0, .slice none 0 0]⟩), (5, ⟨32, p1.cs ++ p2.cs⟩)]) ∧ (Ext u35 u') ∧ (RatN u' p1 (Nt.encL y1 y2 (l9.drop k)).1 ((l9.length - k) * S + 2)) ∧ (RatN u' p2 (Nt.encL y1 y2 (l9.drop k)).2 ((l9.length - k) * S + 2))) (fun m S u1 u2 e h => by obtain ⟨k, p1, p2, hm, p0, hS, hE, f0, f1⟩ := h; exact ⟨k, p1, p2, hm, p0, hS, hE.trans e, f0.ext e, f1.ext e⟩) _ yw ⟨y12.n, r31, r33, rfl, by omega, rfl, (Ext.refl _), (by rw [List.drop_of_length_le xq]; have h9 := h32; rw [show (Nt.lo ((0 : Int) : Rat) ((0 : Int) : Rat)) = (0 : Rat) from (by decide +kernel)] at h9; exact RatN.more (K := 2) h9 xq), (by rw [List.drop_of_length_le xq]; have h9 := h34; rw [show (Nt.hi ((0 : Int) : Rat) ((0 : Int) : Rat)) = (0 : Rat) from (by decide +kernel)] at h9; exact RatN.more (K := 2) h9 xq)⟩ ?_)))))))))
 rintro m38 _ u38 ⟨k, p1, p2, hm38, hk, rfl, e38, hP, hQ⟩
 have hm1 : (l9.length - k) * S ≤ l9.length * S := Nat.mul_le_mul_right _ xq
 have hm2 : l9.length * S ≤ l.length * S := Nat.mul_le_mul_right _ hl8
 refine zzd (sq9 (zza 15 (zI ((k : Int) - 1)) (zza 16 (zB (decide ((0 : Int) ≤ ((k : Int) - 1)))) (zzb (zzu (b := decide ((0 : Int) ≤ ((k : Int) - 1))) xk (fun hb39 => ?_) (fun hb39 => ?_))))))
 ·replace hb39 : (decide ((0 : Int) ≤ ((k : Int) - 1))) = true := hb39
  have qhb39 := of_decide_eq_true hb39
  refine zzs (zzp ?_)
  refine zzd (zzt (zzz [0, 0, 3, 0, 0, 24, 56, 0, 0, 384, 896, 2047, 4095, 8191] [(0, []), (1, []), (3, []), (4, []), (5, []), (6, []), (7, []), (8, []), (9, []), (10, []), (2, []), (11, []), (12, []), (13, [])] xk xk (zzi 19 (.v (.agg #[.bool p1.s, p1.m.v, p1.d.v, .bool p2.s, p2.m.v, p2.d.v])) ty32 zze (zzi 20 (.v (.agg #[.bool b1.s, b1.m.v, b1.d.v, .bool b2.s, b2.m.v, b2.d.v])) ty32 zze (zza 22 (.v y12.v) (zyq 23 (x := zI ((k : Int) - 1)) (zI (k - 1 : Nat)) (eqI xq) ?_))))))
  have hl40 := (h13.ext (e18.trans (g22.ext.trans (e24.trans (g28.ext.trans (e30.trans (g36.ext.trans e38))))))).len
  obtain ⟨r40, b40, o40, hA40, hc40, hr40⟩ := pol_atN (h13.ext (e18.trans (g22.ext.trans (e24.trans (g28.ext.trans (e30.trans (g36.ext.trans e38))))))) (i := (k - 1)) xq
  refine zya 24 (o40 + (k - 1) * 3) (n := y12.n) (off := o40) (sz := 3) (i := ((k - 1 : Nat) : Int)) xq hA40 xq xq sl55 (zym 25 r40.cs hc40 ty26 (zza 26 (.v y12.v) (zyq 27 (x := zI ((k : Int) - 1)) (zI (k - 1 : Nat)) (eqI xq) ?_)))
  have hl41 := (h13.ext (e18.trans (g22.ext.trans (e24.trans (g28.ext.trans (e30.trans (g36.ext.trans e38))))))).len
  obtain ⟨r41, b41, o41, hA41, hc41, hr41⟩ := pol_atN (h13.ext (e18.trans (g22.ext.trans (e24.trans (g28.ext.trans (e30.trans (g36.ext.trans e38))))))) (i := (k - 1)) xq
  refine zya 28 (o41 + (k - 1) * 3) (n := y12.n) (off := o41) (sz := 3) (i := ((k - 1 : Nat) : Int)) xq hA41 xq xq sl55 (zym 29 r41.cs hc41 ty26 (zzg 21 68 [.agg #[.bool p1.s, p1.m.v, p1.d.v, .bool p2.s, p2.m.v, p2.d.v], .agg #[.bool b1.s, b1.m.v, b1.d.v, .bool b2.s, b2.m.v, b2.d.v]] ?_))
  intro w42 u42 e42 d42
  have k49 := k_r4Mul d42 (hP.ext e42).raw (hQ.ext e42).raw (hb1.ext (e11.trans (g15.ext.trans (e18.trans (g22.ext.trans (e24.trans (g28.ext.trans (e30.trans (g36.ext.trans (e38.trans e42)))))))))) (hb2.ext (e11.trans (g15.ext.trans (e18.trans (g22.ext.trans (e24.trans (g28.ext.trans (e30.trans (g36.ext.trans (e38.trans e42)))))))))) xq xq
  with_reducible refine zPm k49 ?_
  rintro _ u47 g48 ⟨r43, r45, rfl, h44, h46⟩
  refine zzg 30 38 [r40.v, r41.v] ?_
  intro w50 u50 e50 d50
  have k57 := k_r4Make d50 (hr40.ext (e42.trans (g48.ext.trans e50))).raw (hr41.ext (e42.trans (g48.ext.trans e50))).raw xq
  with_reducible refine zPm k57 ?_
  rintro _ u55 g56 ⟨r51, r53, rfl, h52, h54⟩
  refine zzg 31 43 [.agg #[.bool r43.s, r43.m.v, r43.d.v, .bool r45.s, r45.m.v, r45.d.v], .agg #[.bool r51.s, r51.m.v, r51.d.v, .bool r53.s, r53.m.v, r53.d.v]] ?_
  intro w58 u58 e58 d58
  have k65 := k_r4Add d58 (h44.ext (e50.trans (g56.ext.trans e58))).raw (h46.ext (e50.trans (g56.ext.trans e58))).raw (h52.ext e58).raw (h54.ext e58).raw xq xq
  with_reducible refine zPm k65 ?_
  rintro _ u63 g64 ⟨r59, r61, rfl, h60, h62⟩
  refine zzj ⟨32, r59.cs ++ r61.cs⟩ ty32 ?_
  refine zzx ?_
  refine zzp (zzf (zza 17 (zI ((k : Int) - 1)) (zyq 18 (x := zI (IntKind.i64.wrap (((k : Int) - 1) - 1))) (zI (((k - 1 : Nat) : Int) - 1)) (eqI (by rw [IntWalk.i64_in _ xq]; try omega)) (zza 6 (zI (((k - 1 : Nat) : Int) - 1)) (zzx ?_)))))
  have hs1 : (l9.length - (k - 1)) * S = (l9.length - k) * S + S := by rw [show l9.length - (k - 1) = (l9.length - k) + 1 by omega, Nat.add_mul, Nat.one_mul]
  refine ⟨_, ?_, _, by exact zzv _ _ _, k - 1, r59, r61, rfl, by omega, rfl, (e38.trans (e42.trans (g48.ext.trans (e50.trans (g56.ext.trans (e58.trans g64.ext)))))), (by have h9 := h60; rw [(Nt.enc_step _ _ _ _ _).1] at h9; rw [Nt.enc_topk xq xq]; exact RatN.more (K := ((((l9.length - k) * S + 2) + M + 1) + K + 2)) h9 xq), (by have h9 := h62; rw [(Nt.enc_step _ _ _ _ _).2] at h9; rw [Nt.enc_topk xq xq]; exact RatN.more (K := ((((l9.length - k) * S + 2) + M + 1) + K + 2)) h9 xq)⟩
  omega
 ·replace hb39 : (decide ((0 : Int) ≤ ((k : Int) - 1))) = false := hb39
  have qhb39 := of_decide_eq_false hb39
  refine zyc (zzp (sq9 (zzi 32 (.v (.agg #[.bool p1.s, p1.m.v, p1.d.v, .bool p2.s, p2.m.v, p2.d.v])) ty32 zze (zzj ⟨32, p1.cs ++ p2.cs⟩ ty32 ?_))))
  refine zzb (zzo (ret0 [.agg #[.bool p1.s, .slice p1.m.a p1.m.n p1.m.c, .slice p1.d.a p1.d.n p1.d.c, .bool p2.s, .slice p2.m.a p2.m.n p2.m.c, .slice p2.d.a p2.d.n p2.d.c]] ⟨zzr ty32 zze, trivial⟩ fun u66 e67 => ?_))
  have hk0 : k = 0 := by omega
  refine ⟨p1, p2, rfl, ?_, ?_⟩
  ·have h9 := (hP.ext e67)
   rw [hk0, List.drop_zero, hl9, Nt.encL_trim, Nat.sub_zero] at h9
   exact h9.more (by have h8 := Nat.mul_le_mul_right S htl; omega)
  ·have h9 := (hQ.ext e67)
   rw [hk0, List.drop_zero, hl9, Nt.encL_trim, Nat.sub_zero] at h9
   exact h9.more (by have h8 := Nat.mul_le_mul_right S htl; omega)
end Go.Proofs.YtbolmkfphieogaaGreat
namespace Go.Proofs.YtbolmkfphieogaaGreat
set_option linter.unusedVariables false
set_option maxRecDepth 20000
namespace Nt
def loI (x y : Int) : Int := if y < x then y else x
def hiI (x y : Int) : Int := if x < y then y else x
theorem lo_gr (w : Nat) (x y : Int) : lo (gr w x) (gr w y) = gr w (loI x y) := by
 unfold lo loI
 by_cases h : y < x
 ·rw [if_pos h, if_pos (Rat.not_le.1 (fun h2 => by have := gr_le.1 h2; omega))]
 ·rw [if_neg h, if_neg (Rat.not_lt.2 (gr_mono xq))]
theorem hi_gr (w : Nat) (x y : Int) : hi (gr w x) (gr w y) = gr w (hiI x y) := by
 unfold hi hiI
 by_cases h : x < y
 ·rw [if_pos h, if_pos (Rat.not_le.1 (fun h2 => by have := gr_le.1 h2; omega))]
 ·rw [if_neg h, if_neg (Rat.not_lt.2 (gr_mono xq))]
theorem gr_gr (v w : Nat) (x y : Int) : gr v x * gr w y = gr (v + w) (x * y) := by
 have a := castI_pos (u2_pos v)
 have b := castI_pos (u2_pos w)
 unfold gr
 rw [u2_add, Rat.intCast_mul, Rat.intCast_mul]
 have a' : (u2 v : Rat) ≠ 0 := by grind
 have b' : (u2 w : Rat) ≠ 0 := by grind
 generalize (u2 v : Rat) = p at *
 generalize (u2 w : Rat) = q at *
 grind
def encI (k : Nat) (a b : Int) : List Int → Int × Int
 | [] => (0, 0)
 | c :: l => (loI (loI (loI ((encI k a b l).1 * a) ((encI k a b l).1 * b)) ((encI k a b l).2 * a)) ((encI k a b l).2 * b) + c * u2 (k * l.length + k),
  hiI (hiI (hiI ((encI k a b l).1 * a) ((encI k a b l).1 * b)) ((encI k a b l).2 * a)) ((encI k a b l).2 * b) + c * u2 (k * l.length + k))
theorem encI_ok (k : Nat) (a b : Int) : ∀ l : List Int, encL (gr k a) (gr k b) (l.map fun z : Int => (z : Rat)) = (gr (k * l.length) (encI k a b l).1, gr (k * l.length) (encI k a b l).2)
 | [] => by
  show ((0 : Rat), (0 : Rat)) = _
  rw [show (encI k a b []).1 = 0 from rfl, show (encI k a b []).2 = 0 from rfl, gr_zero]
 | c :: l => by
  have ih := encI_ok k a b l
  have e : (c : Rat) = gr (k * l.length + k) (c * u2 (k * l.length + k)) := by
   unfold gr
   rw [Rat.intCast_mul]
   have h := castI_pos (u2_pos (k * l.length + k))
   have h' : (u2 (k * l.length + k) : Rat) ≠ 0 := by grind
   generalize (u2 (k * l.length + k) : Rat) = p at *
   grind
  rw [List.map_cons]
  unfold encL
  rw [ih]
  dsimp only
  unfold lo4 hi4
  rw [gr_gr, gr_gr, gr_gr, gr_gr, lo_gr, lo_gr, lo_gr, hi_gr, hi_gr, hi_gr, e, gr_add, gr_add]
  have e2 : k * (c :: l).length = k * l.length + k := by rw [List.length_cons, Nat.mul_add, Nat.mul_one]
  rw [e2]; rfl
def cosI (r d k : Nat) : Option (Int × Int) :=
 if r = 0 then some (u2 k, u2 k) else if 2 * r = d then some (0, 0) else if 3 * r = d then some (u2 k / 2, u2 k / 2)
 else let x := cs8 r d
  let z := xLo x / u2 (128 - k)
  if xHi x / u2 (128 - k) = z then some (z, z + 1) else none
theorem dnQ_half {k : Nat} (hk : 1 ≤ k) : dnQ (1 / 2) k = gr k (u2 k / 2) ∧ -dnQ (-(1 / 2)) k = gr k (u2 k / 2) := by
 obtain ⟨j, rfl⟩ : ∃ j, k = j + 1 := ⟨k - 1, by omega⟩
 have e : u2 (j + 1) = u2 j * 2 := u2_add j 1
 have e2 : u2 (j + 1) / 2 = u2 j := by rw [e]; omega
 have f : ∀ z : Int, flr (z : Rat) = z := fun z => by
  have := flr_div (z := z) (d := 1) yq
  have h1 : (z : Rat) / ((1 : Int) : Rat) = (z : Rat) := by
   show (z : Rat) / 1 = _
   grind
  rw [h1, Int.ediv_one] at this; exact this
 rw [dnQ_gr, dnQ_gr, e2]
 have g1 : (1 / 2 : Rat) * (u2 (j + 1) : Rat) = ((u2 j : Int) : Rat) := by
  rw [e, Rat.intCast_mul]; show (1 / 2 : Rat) * ((u2 j : Rat) * 2) = _; grind
 have g2 : -(1 / 2 : Rat) * (u2 (j + 1) : Rat) = ((-u2 j : Int) : Rat) := by
  rw [e, Rat.intCast_mul, Rat.intCast_neg]; show -(1 / 2 : Rat) * ((u2 j : Rat) * 2) = _; grind
 rw [g1, g2, f, f, gr_neg, Int.neg_neg]
 exact ⟨rfl, rfl⟩
theorem cosI_ok {r d k : Nat} {v : Int × Int} (hd : 0 < d) (hr : 2 * r ≤ d) (hk : k ≤ 128) (hk1 : 1 ≤ k) (h : cosI r d k = some v) : cosA r d k = (gr k v.1, gr k v.2) := by
 unfold cosI at h
 unfold cosA
 split at h
 ·rw [if_pos (by assumption)]
  have := Option.some.inj h; subst this
  show ((1 : Rat), (1 : Rat)) = (gr k (u2 k), gr k (u2 k))
  rw [gr_one]
 ·rw [if_neg (by assumption)]
  split at h
  ·rw [if_pos (by assumption)]
   have := Option.some.inj h; subst this
   show ((0 : Rat), (0 : Rat)) = (gr k 0, gr k 0)
   rw [gr_zero]
  ·rw [if_neg (by assumption)]
   split at h
   ·rw [if_pos (by assumption)]
    have := Option.some.inj h; subst this
    rw [(dnQ_half hk1).1, (dnQ_half hk1).2]
   ·rw [if_neg (by assumption)]
    dsimp only at h
    split at h
    ·rename_i h9
     have h8 := flo_of2 (cs8_ok hd hr) hk rfl h9
     have := Option.some.inj h; subst this
     rw [h8]
    ·cases h
def cosJ (p : Int) (d k : Nat) : Option (Int × Int) :=
 let r := fold p d
 if d < 2 * r then (cosI (d - r) d k).map fun v => (-v.2, -v.1) else cosI r d k
theorem cosJ_ok {p : Int} {d k : Nat} {v : Int × Int} (hd : 0 < d) (hk : k ≤ 128) (hk1 : 1 ≤ k) (h : cosJ p d k = some v) : cosV p d k = (gr k v.1, gr k v.2) := by
 have hf := fold_le p d hd
 unfold cosJ at h
 unfold cosV cosF
 dsimp only at h
 split at h
 ·rw [if_pos (by assumption)]
  cases h1 : cosI (d - fold p d) d k with
  | none => rw [h1] at h; cases h
  | some w =>
   rw [h1] at h
   rw [cosI_ok hd xq hk hk1 h1]
   have := Option.some.inj h; subst this
   show (-gr k w.2, -gr k w.1) = _
   rw [gr_neg, gr_neg]
 ·rw [if_neg (by assumption)]
  exact cosI_ok hd xq hk hk1 h
def sqI (v : Int × Int) : Int × Int := (if 0 < v.1 then v.1 * v.1 else if v.2 < 0 then v.2 * v.2 else 0, hiI (v.1 * v.1) (v.2 * v.2))
def chebT (a s : Rat × Rat) (n : Int) (L : List Rat) : Bool :=
 inI (encL a.1 a.2 L).1 (encL a.1 a.2 L).2 (if n % 2 = 1 then -1 else 1) &&
 inI (lo (sql a.1 a.2) (sqh a.1 a.2) + lo (sql s.1 s.2) (sqh s.1 s.2)) (hi (sql a.1 a.2) (sqh a.1 a.2) + hi (sql s.1 s.2) (sqh s.1 s.2)) 1
def chebC (L : List Int) (n : Int) (d k : Nat) : Bool :=
 match cosJ n d k, cosJ ((d : Int) - 2 * n) (2 * d) k with
 | some a, some s =>
  let e := encI k a.1 a.2 L
  let w := (if n % 2 = 1 then -1 else 1) * u2 (k * L.length)
  let f := sqI a
  let g := sqI s
  (decide (a.1 ≤ a.2) && decide (s.1 ≤ s.2)) && ((decide (e.1 ≤ w) && decide (w ≤ e.2)) && (decide (f.1 + g.1 ≤ u2 (k + k)) && decide (u2 (k + k) ≤ f.2 + g.2)))
 | _, _ => false
theorem sgI_gr {k : Nat} {v : Int × Int} (h : v.1 ≤ v.2) : sql (gr k v.1) (gr k v.2) = gr (k + k) (sqI v).1 ∧ sqh (gr k v.1) (gr k v.2) = gr (k + k) (sqI v).2 := by
 have hg : ∀ z : Int, 0 < gr k z ↔ 0 < z := fun z => by
  have := @gr_le k z 0
  rw [gr_zero] at this
  constructor
  ·intro h1
   rcases Int.lt_or_le 0 z with h2 | h2
   ·exact h2
   ·exact absurd (this.2 h2) (Rat.not_le.2 h1)
  ·intro h1
   exact Rat.not_le.1 (fun h2 => by have := this.1 h2; omega)
 have hl : ∀ z : Int, gr k z < 0 ↔ z < 0 := fun z => by
  have := @gr_le k 0 z
  rw [gr_zero] at this
  constructor
  ·intro h1
   rcases Int.lt_or_le z 0 with h2 | h2
   ·exact h2
   ·exact absurd (this.2 h2) (Rat.not_le.2 h1)
  ·intro h1
   exact Rat.not_le.1 (fun h2 => by have := this.1 h2; omega)
 have ho := lo_of_le (gr_mono (w := k) h)
 refine ⟨?_, by unfold sqh sqI; rw [gr_gr, gr_gr, hi_gr]⟩
 unfold sql sgI sqI
 rw [ho.1, ho.2, gr_gr, gr_gr, lo_gr]
 dsimp only
 by_cases h1 : 0 < v.1
 ·rw [if_pos h1, if_pos ((hg _).2 h1), if_neg yq]
  congr 1
  have h2 := Int.mul_le_mul h h xq xq
  unfold loI; rw [if_neg xq]
 ·rw [if_neg h1, if_neg (fun h9 => h1 ((hg _).1 h9))]
  by_cases h2 : v.2 < 0
  ·rw [if_pos h2, if_pos ((hl _).2 h2), if_neg yq]
   congr 1
   have h3 := Int.mul_le_mul (show -v.2 ≤ -v.1 by omega) (show -v.2 ≤ -v.1 by omega) xq xq
   rw [Int.neg_mul_neg, Int.neg_mul_neg] at h3
   unfold loI
   by_cases h5 : v.2 * v.2 < v.1 * v.1
   ·rw [if_pos h5]
   ·rw [if_neg h5]; omega
  ·rw [if_neg h2, if_neg (fun h9 => h2 ((hl _).1 h9)), if_pos rfl, gr_zero]
theorem inI_gr {w : Nat} {a b z : Int} (h1 : a ≤ z) (h2 : z ≤ b) : inI (gr w a) (gr w b) (gr w z) = true := by
 have e := lo_of_le (gr_mono (w := w) (show a ≤ b by omega))
 unfold inI
 rw [e.1, e.2]
 simp
 exact ⟨gr_mono h1, gr_mono h2⟩
theorem chebC_ok {L : List Int} {n : Int} {d k : Nat} (hd : 0 < d) (hk : k ≤ 128) (hk1 : 1 ≤ k) (h : chebC L n d k = true) : chebT (cosV n d k) (cosV ((d : Int) - 2 * n) (2 * d) k) n (L.map fun z : Int => (z : Rat)) = true := by
 unfold chebC at h
 split at h
 ·rename_i a s h1 h2
  dsimp only at h
  simp only [Bool.and_eq_true, decide_eq_true_eq] at h
  obtain ⟨⟨o1, o2⟩, ⟨e1, e2⟩, f1, f2⟩ := h
  rw [cosJ_ok hd hk hk1 h1, cosJ_ok xq hk hk1 h2]
  unfold chebT
  dsimp only
  rw [encI_ok, (sgI_gr o1).1, (sgI_gr o1).2, (sgI_gr o2).1, (sgI_gr o2).2, lo_gr, lo_gr, hi_gr, hi_gr, gr_add, gr_add]
  have w1 : (if n % 2 = 1 then -1 else 1 : Rat) = gr (k * L.length) ((if n % 2 = 1 then -1 else 1) * u2 (k * L.length)) := by
   split
   ·show (-1 : Rat) = _
    rw [Int.neg_mul, Int.one_mul, ← gr_neg, gr_one]
   ·rw [Int.one_mul, gr_one]
  have w2 : (1 : Rat) = gr (k + k) (u2 (k + k)) := (gr_one _).symm
  rw [w1]
  conv => lhs; rhs; rw [w2]
  have p1 : ∀ v : Int × Int, v.1 ≤ v.2 → (sqI v).1 ≤ (sqI v).2 := fun v hv => by
   have := (sgI_gr (k := 0) hv)
   have q1 := lo_le_hi (sql (gr 0 v.1) (gr 0 v.2)) (sqh (gr 0 v.1) (gr 0 v.2))
   unfold sqI hiI
   dsimp only
   by_cases c1 : 0 < v.1
   ·rw [if_pos c1]; split <;> omega
   ·rw [if_neg c1]
    by_cases c2 : v.2 < 0
    ·rw [if_pos c2]; split <;> omega
    ·rw [if_neg c2]
     have m1 : 0 ≤ v.1 * v.1 := Int.mul_nonneg_of_nonpos_of_nonpos xq xq
     have m2 : 0 ≤ v.2 * v.2 := Int.mul_nonneg xq xq
     split <;> omega
  have l1 : loI (sqI a).1 (sqI a).2 = (sqI a).1 := by unfold loI; rw [if_neg (by have := p1 a o1; omega)]
  have l2 : loI (sqI s).1 (sqI s).2 = (sqI s).1 := by unfold loI; rw [if_neg (by have := p1 s o2; omega)]
  have l3 : hiI (sqI a).1 (sqI a).2 = (sqI a).2 := by unfold hiI; split <;> have := p1 a o1 <;> omega
  have l4 : hiI (sqI s).1 (sqI s).2 = (sqI s).2 := by unfold hiI; split <;> have := p1 s o2 <;> omega
  rw [l1, l2, l3, l4, inI_gr e1 e2, inI_gr f1 f2]; rfl
 ·cases h
def chebK (L : List Int) (n : Int) (d : Nat) (k : Nat) : Bool := Nat.rec true (fun j ih => chebC L n d (j + 8) && ih) k
def chebN (L : List Int) (d n : Nat) : Bool := Nat.rec true (fun j ih => chebK L (j : Int) d 40 && ih) n
theorem chebK_ok {L : List Int} {n : Int} {d : Nat} : ∀ m k, chebK L n d m = true → k < m → chebC L n d (k + 8) = true := by
 intro m
 induction m with
 | zero => intro k _ h; omega
 | succ m ih =>
  intro k h hk
  have h' : (chebC L n d (m + 8) && chebK L n d m) = true := h
  rw [Bool.and_eq_true] at h'
  by_cases e : k = m
  ·subst e; exact h'.1
  ·exact ih k h'.2 xq
theorem chebN_ok {L : List Int} {d : Nat} : ∀ m j, chebN L d m = true → j < m → chebK L (j : Int) d 40 = true := by
 intro m
 induction m with
 | zero => intro k _ h; omega
 | succ m ih =>
  intro j h hj
  have h' : (chebK L (m : Int) d 40 && chebN L d m) = true := h
  rw [Bool.and_eq_true] at h'
  by_cases e : j = m
  ·subst e; exact h'.1
  ·exact ih j h'.2 xq
def chebI : Nat → List Int
 | 1 => [0, 1]
 | 2 => [-1, 0, 2]
 | 3 => [0, -3, 0, 4]
 | 4 => [1, 0, -8, 0, 8]
 | 5 => [0, 5, 0, -20, 0, 16]
 | 6 => [-1, 0, 18, 0, -48, 0, 32]
 | 7 => [0, -7, 0, 56, 0, -112, 0, 64]
 | 8 => [1, 0, -32, 0, 160, 0, -256, 0, 128]
 | 9 => [0, 9, 0, -120, 0, 432, 0, -576, 0, 256]
 | _ => []
theorem cheb_1 : chebN (chebI 1) 1 2 = true := by decide +kernel
theorem chebL_1 : chebL 1 = (chebI 1).map fun z : Int => (z : Rat) := by decide +kernel
theorem cheb_2 : chebN (chebI 2) 2 4 = true := by decide +kernel
theorem chebL_2 : chebL 2 = (chebI 2).map fun z : Int => (z : Rat) := by decide +kernel
theorem cheb_3 : chebN (chebI 3) 3 6 = true := by decide +kernel
theorem chebL_3 : chebL 3 = (chebI 3).map fun z : Int => (z : Rat) := by decide +kernel
theorem cheb_4 : chebN (chebI 4) 4 8 = true := by decide +kernel
theorem chebL_4 : chebL 4 = (chebI 4).map fun z : Int => (z : Rat) := by decide +kernel
theorem cheb_5 : chebN (chebI 5) 5 10 = true := by decide +kernel
theorem chebL_5 : chebL 5 = (chebI 5).map fun z : Int => (z : Rat) := by decide +kernel
theorem cheb_6 : chebN (chebI 6) 6 12 = true := by decide +kernel
theorem chebL_6 : chebL 6 = (chebI 6).map fun z : Int => (z : Rat) := by decide +kernel
theorem cheb_7 : chebN (chebI 7) 7 14 = true := by decide +kernel
theorem chebL_7 : chebL 7 = (chebI 7).map fun z : Int => (z : Rat) := by decide +kernel
theorem cheb_8 : chebN (chebI 8) 8 16 = true := by decide +kernel
theorem chebL_8 : chebL 8 = (chebI 8).map fun z : Int => (z : Rat) := by decide +kernel
theorem cheb_9 : chebN (chebI 9) 9 18 = true := by decide +kernel
theorem chebL_9 : chebL 9 = (chebI 9).map fun z : Int => (z : Rat) := by decide +kernel
theorem cheb_all {d : Nat} (h1 : 1 ≤ d) (h9 : d ≤ 9) : chebN (chebI d) d (2 * d) = true ∧ chebL d = (chebI d).map fun z : Int => (z : Rat) := by
 rcases (show d = 1 ∨ d = 2 ∨ d = 3 ∨ d = 4 ∨ d = 5 ∨ d = 6 ∨ d = 7 ∨ d = 8 ∨ d = 9 by omega) with rfl | rfl | rfl | rfl | rfl | rfl | rfl | rfl | rfl
 ·exact ⟨cheb_1, chebL_1⟩
 ·exact ⟨cheb_2, chebL_2⟩
 ·exact ⟨cheb_3, chebL_3⟩
 ·exact ⟨cheb_4, chebL_4⟩
 ·exact ⟨cheb_5, chebL_5⟩
 ·exact ⟨cheb_6, chebL_6⟩
 ·exact ⟨cheb_7, chebL_7⟩
 ·exact ⟨cheb_8, chebL_8⟩
 ·exact ⟨cheb_9, chebL_9⟩
theorem cheb_ok {n : Int} {d k : Nat} (h1 : 1 ≤ d) (h9 : d ≤ 9) (hk8 : 8 ≤ k) (hk : k ≤ 47) : chebT (cosV n d k) (cosV ((d : Int) - 2 * n) (2 * d) k) n (chebL d) = true := by
 have hm : 0 < 2 * (d : Int) := by omega
 have e1 := Int.emod_nonneg n (b := 2 * (d : Int)) xq
 have e2 := Int.emod_lt_of_pos n hm
 have e3 := Int.emod_add_mul_ediv n (2 * (d : Int))
 obtain ⟨j, hj⟩ : ∃ j : Nat, n % (2 * (d : Int)) = (j : Int) := ⟨(n % (2 * (d : Int))).toNat, by omega⟩
 have h2 := chebK_ok 40 (k - 8) (chebN_ok (2 * d) j (cheb_all h1 h9).1 xq) xq
 rw [show k - 8 + 8 = k by omega] at h2
 have h3 := chebC_ok h1 xq xq h2
 have f1 : cosV n d k = cosV (j : Int) d k := by
  have := cosV_turn (p := (j : Int)) (k := n / (2 * (d : Int))) (q := d) (b := k) h1
  rw [← hj, e3] at this; rw [← hj]; exact this
 have f2 : cosV ((d : Int) - 2 * n) (2 * d) k = cosV ((d : Int) - 2 * (j : Int)) (2 * d) k := by
  have := cosV_turn (p := (d : Int) - 2 * (j : Int)) (k := -(n / (2 * (d : Int)))) (q := 2 * d) (b := k) xq
  rw [← this]
  congr 1
  rw [← hj, Int.mul_neg]
  have : 2 * ((2 * d : Nat) : Int) * (n / (2 * (d : Int))) = 2 * (2 * (d : Int) * (n / (2 * (d : Int)))) := by
   rw [Int.natCast_mul]; grind
  omega
 have f3 : n % 2 = (j : Int) % 2 := by
  rw [← hj]
  exact (Int.emod_emod_of_dvd n (show (2 : Int) ∣ 2 * (d : Int) from ⟨_, rfl⟩)).symm
 rw [f1, f2, (cheb_all h1 h9).2]
 unfold chebT at h3 ⊢
 rw [f3]; exact h3
end Nt
end Go.Proofs.YtbolmkfphieogaaGreat
namespace Go.Proofs.YtbolmkfphieogaaGreat
open Go.RowKit
set_option linter.unusedVariables false
theorem k_chebT {u w : World} {n : Nat} (d : Dat u w) (hn : n ≤ 20) : Calls Tryz.prog 40 #[.int .i64 (n : Int)] w (Post u w fun v u' => ∃ y : Sl, v = .tuple #[y.v, .int .i64 0] ∧ PolN u' y (Nt.chebL n) 3) := by
 refine zzm (args := [.int .i64 n]) Tryz.func40 rfl Tryz.ntmps40 (rs := [.tmp 2, .tmp 3]) Tryz.results40 (le_b rfl) (le_b rfl) d ?_
 refine sq9 (zza 2 (.v (.slice none 0 0)) (zza 3 (zI 0) (zzb (zzd (sq9 (zza 4 (zI n) (zza 5 (zB (decide ((n : Int) < 0))) (zyq 6 (x := zB (decide ((n : Int) < 0))) (zB false) (by rw [show (decide ((n : Int) < 0)) = false from decide_eq_false xq]) (zza 7 (zI n) ?_ (hw := w1 2 false 6))))))))))
 refine zza 8 (zB (decide ((48 : Int) < (n : Int)))) ?_ (hw := w1 2 false 6)
 refine zza 9 (zB (decide ((48 : Int) < (n : Int)))) (zzb (zzu (b := decide ((48 : Int) < (n : Int))) xk (fun hb => ?_) (fun hb => ?_)))
 ·exact absurd hb (by rw [show (decide ((48 : Int) < (n : Int))) = false from decide_eq_false xq]; decide)
 ·clear hb
  refine zzs (zzp ?_)
  refine sq9 (zza 10 (zI n) (zzg 11 109 [.int .i64 n] ?_))
  intro w12 u12 e12 d12
  have k17 := k_cheb (n := n) d12 xq
  with_reducible refine zPm k17 ?_
  rintro _ u15 g16 ⟨y13, rfl, h14⟩
  have hly13 := h14.len
  have hmy13 := Nt.chebL_len n
  refine zza 2 (.v y13.v) (zza 3 (zI 0) (zzb (zzo (ret0 [.slice y13.a y13.n y13.c, .int .i64 0] ⟨zzq, zzq, trivial⟩ fun u18 e19 => ?_))))
  exact ⟨y13, rfl, (h14.ext e19)⟩
set_option maxHeartbeats 4000000 in
theorem w_cheb {u w : World} {p q b : Int} (d : Dat u w) (hp0 : -9223372036854775808 ≤ p) (hp1 : p ≤ 9223372036854775807) (hq0 : -9223372036854775808 ≤ q) (hq1 : q ≤ 9223372036854775807) (hwb : (Lit.int .u8 b).wf = true) : Calls Tryz.prog 8 #[.int .i64 p, .int .i64 q, .int .u8 b] w (Post u w fun v _ => v = .bool true) := by
 obtain ⟨hb0, hb1⟩ := wf_u8e hwb
 refine zzm (args := [.int .i64 p, .int .i64 q, .int .u8 b]) Tryz.func8 rfl Tryz.ntmps8 (rs := [.tmp 6]) Tryz.results8 (le_b rfl) (le_b rfl) d ?_
 refine sq9 (zza 6 (zB false) (zzb (sq9 (zza 17 (zI p) (zzg 18 17 [.int .i64 p, .int .i64 60] ?_)))))
 intro w11 u11 e11 d11
 have k14 := k_Mod d11 (n := p) (m := 60) xq xq xq xq
 with_reducible refine zPm k14 ?_
 rintro _ u12 g13 rfl
 refine zyq 19 (x := zI (IntKind.i64.wrap ((p % 60) - 30))) (zI ((p % 60) - 30)) yz (zza 20 (zI q) (zzg 21 17 [.int .i64 q, .int .i64 9] ?_))
 intro w15 u15 e15 d15
 have k18 := k_Mod d15 (n := q) (m := 9) xq xq xq xq
 with_reducible refine zPm k18 ?_
 rintro _ u16 g17 rfl
 refine zyq 22 (x := zI (IntKind.i64.wrap ((1 : Int) + (q % 9)))) (zI ((1 : Int) + (q % 9))) yz (zza 23 (.v (.int .u8 b)) (sy_conv 24 b (fun w => by kernel_rfl) (IntWalk.i64_in _ xq) ?_))
 refine sy_rem 25 (b % 40) yq (Int.tmod_eq_emod_of_nonneg hb0) ?_
 refine zyq 26 (x := zI (IntKind.i64.wrap ((8 : Int) + (b % 40)))) (zI ((8 : Int) + (b % 40))) yz (zza 7 (zI ((p % 60) - 30)) (zza 8 (zI ((1 : Int) + (q % 9))) (zza 9 (zI ((8 : Int) + (b % 40))) (zzb (zzd ?_)))))
 obtain ⟨D, hnD⟩ : ∃ n : Nat, (1 : Int) + (q % 9) = (n : Int) := ⟨((1 : Int) + (q % 9)).toNat, by omega⟩
 rw [hnD]
 have hbD : 1 ≤ D ∧ D ≤ 9 := by omega
 obtain ⟨k, hnk⟩ : ∃ n : Nat, (8 : Int) + (b % 40) = (n : Int) := ⟨((8 : Int) + (b % 40)).toNat, by omega⟩
 rw [hnk]
 have hbk : 8 ≤ k ∧ k ≤ 47 := by omega
 refine zzf (zza 28 (zI ((p % 60) - 30)) (zza 29 (zI D) (zza 30 (zI k) (zzg 31 31 [.int .i64 ((p % 60) - 30), .int .i64 D, .int .i64 k] ?_))))
 intro w19 u19 e19 d19
 have k26 := k_CosPiG (p := (p % 60) - 30) (q := D) (k := k) d19 xq xq xq xq xq (Nt.gapQ_80 xq xq xq)
 with_reducible refine zPm k26 ?_
 rintro _ u24 g25 ⟨r20, r22, rfl, h21, h23⟩
 refine zza 27 (.v (.tuple #[.agg #[.bool r20.s, r20.m.v, r20.d.v, .bool r22.s, r22.m.v, r22.d.v], .int .i64 0])) (zza 32 (.v (.agg #[.bool r20.s, r20.m.v, r20.d.v, .bool r22.s, r22.m.v, r22.d.v])) (zza 33 (zI 0) (zzk 10 ⟨32, [.bool false, .slice none 0 0, .slice none 0 0, .bool false, .slice none 0 0, .slice none 0 0]⟩ (zzj ⟨32, r20.cs ++ r22.cs⟩ ty32 ?_))))
 refine zza 11 (zI 0) (zzb (sq9 (zza 35 (zI ((p % 60) - 30)) (zza 36 (zI D) (zza 37 (zI k) (zzg 38 36 [.int .i64 ((p % 60) - 30), .int .i64 D, .int .i64 k] ?_))))))
 intro w27 u27 e27 d27
 have k34 := k_SinPiG (p := (p % 60) - 30) (q := D) (k := k) d27 xq xq xq xq xq (Nt.gapQ_80 xq xq xq)
 with_reducible refine zPm k34 ?_
 rintro _ u32 g33 ⟨r28, r30, rfl, h29, h31⟩
 refine zza 34 (.v (.tuple #[.agg #[.bool r28.s, r28.m.v, r28.d.v, .bool r30.s, r30.m.v, r30.d.v], .int .i64 0])) (zza 39 (.v (.agg #[.bool r28.s, r28.m.v, r28.d.v, .bool r30.s, r30.m.v, r30.d.v])) (zza 40 (zI 0) (zzk 12 ⟨32, [.bool false, .slice none 0 0, .slice none 0 0, .bool false, .slice none 0 0, .slice none 0 0]⟩ (zzj ⟨32, r28.cs ++ r30.cs⟩ ty32 ?_))))
 refine zza 13 (zI 0) (zzc 76 [(7, zI ((p % 60) - 30)), (8, zI D), (10, .adr 10 0), (11, zI 0), (12, .adr 12 0), (13, zI 0)] [(10, ⟨32, r20.cs ++ r22.cs⟩), (12, ⟨32, r28.cs ++ r30.cs⟩)] (sq9 (zza 42 (zI D) (zzg 43 40 [.int .i64 D] ?_))))
 intro w35 u35 e35 d35
 have k40 := k_chebT (n := D) d35 xq
 with_reducible refine zPm k40 ?_
 rintro _ u38 g39 ⟨y36, rfl, h37⟩
 have hmy36 := Nt.chebL_len D
 refine zza 41 (.v (.tuple #[y36.v, .int .i64 0])) (zza 44 (.v y36.v) (zza 45 (zI 0) (zza 14 (.v y36.v) (zza 15 (zI 0) (zzb (sq9 (zzg 46 30 [.int .i64 1] ?_)))))))
 intro w41 u41 e41 d41
 have k46 := k_rqOf d41 (z := 1) xq xq
 with_reducible refine zPm k46 ?_
 rintro _ u44 g45 ⟨r42, rfl, h43⟩
 refine zzk 16 ⟨26, [.bool false, .slice none 0 0, .slice none 0 0]⟩ (zzj ⟨26, r42.cs⟩ ty26 ?_)
 refine zzb (zzd (sq9 (zza 47 (zI ((p % 60) - 30)) (zzg 48 17 [.int .i64 ((p % 60) - 30), .int .i64 2] ?_))))
 intro w47 u47 e47 d47
 have k50 := k_Mod d47 (n := (p % 60) - 30) (m := 2) xq xq xq xq
 with_reducible refine zPm k50 ?_
 rintro _ u48 g49 rfl
 refine zza 49 (zB ((((p % 60) - 30) % 2) == 1)) (zzb (zzu (b := (((p % 60) - 30) % 2) == 1) xk (fun hb51 => ?_) (fun hb51 => ?_)))
 ·replace hb51 : ((((p % 60) - 30) % 2) == 1) = true := hb51
  have q2hb51 :  ((p % 60 - 30) % 2 = 1) := by simpa using hb51
  refine zzf (zzg 50 30 [.int .i64 (-1)] ?_)
  intro w52 u52 e52 d52
  have k57 := k_rqOf d52 (z := (-1)) xq xq
  with_reducible refine zPm k57 ?_
  rintro _ u55 g56 ⟨r53, rfl, h54⟩
  refine zzj ⟨26, r53.cs⟩ ty26 ?_
  refine zzb (zzd ?_)
  have hc := Nt.cheb_ok (n := (p % 60 - 30)) (d := D) (k := k) xq xq xq xq
  unfold Nt.chebT at hc
  rw [Bool.and_eq_true] at hc
  obtain ⟨hc1, hc2⟩ := hc
  refine zzz [0, 1, 3, 7, 15, 31, 63, 127, 255, 511, 1023, 1023, 4095, 1023, 16383, 32767, 65535, 131071, 262143, 131071, 1048575, 2097151, 4194303, 8388607, 16777215, 33554431] [(0, []), (1, []), (2, []), (3, []), (4, []), (5, []), (6, []), (7, []), (8, []), (9, []), (10, []), (11, []), (13, []), (12, []), (14, []), (15, []), (16, []), (17, []), (19, []), (18, []), (20, []), (21, []), (22, []), (23, []), (24, []), (25, [])] xk xk (zzg 51 16 [] ?_)
  intro w58 u58 e58 d58
  have k61 := k_awake10 d58
  with_reducible refine zPm k61 ?_
  rintro _ u59 g60 rfl
  refine zza 52 (zB true) (zza 53 (zI 0) ?_ (hw := w1 1 true 52))
  refine zza 54 (zB true) ?_ (hw := w1 1 true 52)
  refine zza 55 (zB true) (zza 56 (zB true) (zza 57 (zI 0) ?_ (hw := w1 5 true 56)))
  refine zza 58 (zB true) ?_ (hw := w1 5 true 56)
  refine zza 59 (zB true) (zza 60 (zB true) (zza 61 (.v y36.v) ?_ (hw := w1 9 true 60)))
  refine zzi 62 (.v (.agg #[.bool r20.s, r20.m.v, r20.d.v, .bool r22.s, r22.m.v, r22.d.v])) ty32 zze ?_ (hw := w1 9 true 60)
  refine zzi 64 (.v (r53.v)) ty26 zze ?_ (hw := w1 9 true 60)
  refine zzg 63 42 [y36.v, .agg #[.bool r20.s, r20.m.v, r20.d.v, .bool r22.s, r22.m.v, r22.d.v]] ?_ (hw := w1 9 true 60)
  intro w62 u62 e62 d62
  have k69 := k_r5Enclose (S := 100) d62 (h37.ext (e41.trans (g45.ext.trans (e47.trans (g49.ext.trans (e52.trans (g56.ext.trans (e58.trans (g60.ext.trans e62))))))))).raw (h21.ext (e27.trans (g33.ext.trans (e35.trans (g39.ext.trans (e41.trans (g45.ext.trans (e47.trans (g49.ext.trans (e52.trans (g56.ext.trans (e58.trans (g60.ext.trans e62))))))))))))).raw (h23.ext (e27.trans (g33.ext.trans (e35.trans (g39.ext.trans (e41.trans (g45.ext.trans (e47.trans (g49.ext.trans (e52.trans (g56.ext.trans (e58.trans (g60.ext.trans e62))))))))))))).raw xq xq xq xq xq
  with_reducible refine zPm k69 ?_
  rintro _ u67 g68 ⟨r63, r65, rfl, h64, h66⟩
  refine zzg 65 41 [.agg #[.bool r63.s, r63.m.v, r63.d.v, .bool r65.s, r65.m.v, r65.d.v], r53.v] ?_ (hw := w1 9 true 60)
  intro w70 u70 e70 d70
  have k73 := k_r4Contains d70 (h64.ext e70).raw (h66.ext e70).raw (h54.ext (e58.trans (g60.ext.trans (e62.trans (g68.ext.trans e70))))).raw xq xq
  with_reducible refine zPm k73 ?_
  rintro _ u71 g72 rfl
  refine zza 66 (zB (Nt.inI (Nt.encL (Nt.cosV ((p % 60) - 30) D k).1 (Nt.cosV ((p % 60) - 30) D k).2 (Nt.chebL D)).1 (Nt.encL (Nt.cosV ((p % 60) - 30) D k).1 (Nt.cosV ((p % 60) - 30) D k).2 (Nt.chebL D)).2 (((-1) : Int) : Rat))) (zyq 67 (x := zB (Nt.inI (Nt.encL (Nt.cosV ((p % 60) - 30) D k).1 (Nt.cosV ((p % 60) - 30) D k).2 (Nt.chebL D)).1 (Nt.encL (Nt.cosV ((p % 60) - 30) D k).1 (Nt.cosV ((p % 60) - 30) D k).2 (Nt.chebL D)).2 (((-1) : Int) : Rat))) (zB true) (by rw [show (Nt.inI (Nt.encL (Nt.cosV ((p % 60) - 30) D k).1 (Nt.cosV ((p % 60) - 30) D k).2 (Nt.chebL D)).1 (Nt.encL (Nt.cosV ((p % 60) - 30) D k).1 (Nt.cosV ((p % 60) - 30) D k).2 (Nt.chebL D)).2 (((-1) : Int) : Rat)) = true from (by rw [if_pos q2hb51] at hc1; exact hc1)]) (zzi 68 (.v (.agg #[.bool r20.s, r20.m.v, r20.d.v, .bool r22.s, r22.m.v, r22.d.v])) ty32 zze ?_ (hw := w1 16 true 67)))
  refine zzi 70 (.v (.agg #[.bool r28.s, r28.m.v, r28.d.v, .bool r30.s, r30.m.v, r30.d.v])) ty32 zze ?_ (hw := w1 16 true 67)
  refine zzg 69 44 [.agg #[.bool r20.s, r20.m.v, r20.d.v, .bool r22.s, r22.m.v, r22.d.v]] ?_ (hw := w1 16 true 67)
  intro w75 u75 e75 d75
  have k82 := k_r4Square d75 (h21.ext (e27.trans (g33.ext.trans (e35.trans (g39.ext.trans (e41.trans (g45.ext.trans (e47.trans (g49.ext.trans (e52.trans (g56.ext.trans (e58.trans (g60.ext.trans (e62.trans (g68.ext.trans (e70.trans (g72.ext.trans e75))))))))))))))))).raw (h23.ext (e27.trans (g33.ext.trans (e35.trans (g39.ext.trans (e41.trans (g45.ext.trans (e47.trans (g49.ext.trans (e52.trans (g56.ext.trans (e58.trans (g60.ext.trans (e62.trans (g68.ext.trans (e70.trans (g72.ext.trans e75))))))))))))))))).raw xq
  with_reducible refine zPm k82 ?_
  rintro _ u80 g81 ⟨r76, r78, rfl, h77, h79⟩
  refine zzg 71 44 [.agg #[.bool r28.s, r28.m.v, r28.d.v, .bool r30.s, r30.m.v, r30.d.v]] ?_ (hw := w1 16 true 67)
  intro w83 u83 e83 d83
  have k90 := k_r4Square d83 (h29.ext (e35.trans (g39.ext.trans (e41.trans (g45.ext.trans (e47.trans (g49.ext.trans (e52.trans (g56.ext.trans (e58.trans (g60.ext.trans (e62.trans (g68.ext.trans (e70.trans (g72.ext.trans (e75.trans (g81.ext.trans e83))))))))))))))))).raw (h31.ext (e35.trans (g39.ext.trans (e41.trans (g45.ext.trans (e47.trans (g49.ext.trans (e52.trans (g56.ext.trans (e58.trans (g60.ext.trans (e62.trans (g68.ext.trans (e70.trans (g72.ext.trans (e75.trans (g81.ext.trans e83))))))))))))))))).raw xq
  with_reducible refine zPm k90 ?_
  rintro _ u88 g89 ⟨r84, r86, rfl, h85, h87⟩
  refine zzg 72 43 [.agg #[.bool r76.s, r76.m.v, r76.d.v, .bool r78.s, r78.m.v, r78.d.v], .agg #[.bool r84.s, r84.m.v, r84.d.v, .bool r86.s, r86.m.v, r86.d.v]] ?_ (hw := w1 16 true 67)
  intro w91 u91 e91 d91
  have k98 := k_r4Add d91 (h77.ext (e83.trans (g89.ext.trans e91))).raw (h79.ext (e83.trans (g89.ext.trans e91))).raw (h85.ext e91).raw (h87.ext e91).raw xq xq
  with_reducible refine zPm k98 ?_
  rintro _ u96 g97 ⟨r92, r94, rfl, h93, h95⟩
  refine zzg 73 30 [.int .i64 1] ?_ (hw := w1 16 true 67)
  intro w99 u99 e99 d99
  have k104 := k_rqOf d99 (z := 1) xq xq
  with_reducible refine zPm k104 ?_
  rintro _ u102 g103 ⟨r100, rfl, h101⟩
  refine zzg 74 41 [.agg #[.bool r92.s, r92.m.v, r92.d.v, .bool r94.s, r94.m.v, r94.d.v], r100.v] ?_ (hw := w1 16 true 67)
  intro w105 u105 e105 d105
  have k108 := k_r4Contains d105 (h93.ext (e99.trans (g103.ext.trans e105))).raw (h95.ext (e99.trans (g103.ext.trans e105))).raw (h101.ext e105).raw xq xq
  with_reducible refine zPm k108 ?_
  rintro _ u106 g107 rfl
  refine zza 75 (zB (Nt.inI (Nt.lo (if Nt.sgI (Nt.cosV ((p % 60) - 30) D k).1 (Nt.cosV ((p % 60) - 30) D k).2 = 0 then 0 else Nt.lo ((Nt.cosV ((p % 60) - 30) D k).1 * (Nt.cosV ((p % 60) - 30) D k).1) ((Nt.cosV ((p % 60) - 30) D k).2 * (Nt.cosV ((p % 60) - 30) D k).2)) (Nt.hi ((Nt.cosV ((p % 60) - 30) D k).1 * (Nt.cosV ((p % 60) - 30) D k).1) ((Nt.cosV ((p % 60) - 30) D k).2 * (Nt.cosV ((p % 60) - 30) D k).2)) + Nt.lo (if Nt.sgI (Nt.cosV (((D : Nat) : Int) - 2 * ((p % 60) - 30)) (2 * D) k).1 (Nt.cosV (((D : Nat) : Int) - 2 * ((p % 60) - 30)) (2 * D) k).2 = 0 then 0 else Nt.lo ((Nt.cosV (((D : Nat) : Int) - 2 * ((p % 60) - 30)) (2 * D) k).1 * (Nt.cosV (((D : Nat) : Int) - 2 * ((p % 60) - 30)) (2 * D) k).1) ((Nt.cosV (((D : Nat) : Int) - 2 * ((p % 60) - 30)) (2 * D) k).2 * (Nt.cosV (((D : Nat) : Int) - 2 * ((p % 60) - 30)) (2 * D) k).2)) (Nt.hi ((Nt.cosV (((D : Nat) : Int) - 2 * ((p % 60) - 30)) (2 * D) k).1 * (Nt.cosV (((D : Nat) : Int) - 2 * ((p % 60) - 30)) (2 * D) k).1) ((Nt.cosV (((D : Nat) : Int) - 2 * ((p % 60) - 30)) (2 * D) k).2 * (Nt.cosV (((D : Nat) : Int) - 2 * ((p % 60) - 30)) (2 * D) k).2))) (Nt.hi (if Nt.sgI (Nt.cosV ((p % 60) - 30) D k).1 (Nt.cosV ((p % 60) - 30) D k).2 = 0 then 0 else Nt.lo ((Nt.cosV ((p % 60) - 30) D k).1 * (Nt.cosV ((p % 60) - 30) D k).1) ((Nt.cosV ((p % 60) - 30) D k).2 * (Nt.cosV ((p % 60) - 30) D k).2)) (Nt.hi ((Nt.cosV ((p % 60) - 30) D k).1 * (Nt.cosV ((p % 60) - 30) D k).1) ((Nt.cosV ((p % 60) - 30) D k).2 * (Nt.cosV ((p % 60) - 30) D k).2)) + Nt.hi (if Nt.sgI (Nt.cosV (((D : Nat) : Int) - 2 * ((p % 60) - 30)) (2 * D) k).1 (Nt.cosV (((D : Nat) : Int) - 2 * ((p % 60) - 30)) (2 * D) k).2 = 0 then 0 else Nt.lo ((Nt.cosV (((D : Nat) : Int) - 2 * ((p % 60) - 30)) (2 * D) k).1 * (Nt.cosV (((D : Nat) : Int) - 2 * ((p % 60) - 30)) (2 * D) k).1) ((Nt.cosV (((D : Nat) : Int) - 2 * ((p % 60) - 30)) (2 * D) k).2 * (Nt.cosV (((D : Nat) : Int) - 2 * ((p % 60) - 30)) (2 * D) k).2)) (Nt.hi ((Nt.cosV (((D : Nat) : Int) - 2 * ((p % 60) - 30)) (2 * D) k).1 * (Nt.cosV (((D : Nat) : Int) - 2 * ((p % 60) - 30)) (2 * D) k).1) ((Nt.cosV (((D : Nat) : Int) - 2 * ((p % 60) - 30)) (2 * D) k).2 * (Nt.cosV (((D : Nat) : Int) - 2 * ((p % 60) - 30)) (2 * D) k).2))) ((1 : Int) : Rat))) (zza 6 (zB (Nt.inI (Nt.lo (if Nt.sgI (Nt.cosV ((p % 60) - 30) D k).1 (Nt.cosV ((p % 60) - 30) D k).2 = 0 then 0 else Nt.lo ((Nt.cosV ((p % 60) - 30) D k).1 * (Nt.cosV ((p % 60) - 30) D k).1) ((Nt.cosV ((p % 60) - 30) D k).2 * (Nt.cosV ((p % 60) - 30) D k).2)) (Nt.hi ((Nt.cosV ((p % 60) - 30) D k).1 * (Nt.cosV ((p % 60) - 30) D k).1) ((Nt.cosV ((p % 60) - 30) D k).2 * (Nt.cosV ((p % 60) - 30) D k).2)) + Nt.lo (if Nt.sgI (Nt.cosV (((D : Nat) : Int) - 2 * ((p % 60) - 30)) (2 * D) k).1 (Nt.cosV (((D : Nat) : Int) - 2 * ((p % 60) - 30)) (2 * D) k).2 = 0 then 0 else Nt.lo ((Nt.cosV (((D : Nat) : Int) - 2 * ((p % 60) - 30)) (2 * D) k).1 * (Nt.cosV (((D : Nat) : Int) - 2 * ((p % 60) - 30)) (2 * D) k).1) ((Nt.cosV (((D : Nat) : Int) - 2 * ((p % 60) - 30)) (2 * D) k).2 * (Nt.cosV (((D : Nat) : Int) - 2 * ((p % 60) - 30)) (2 * D) k).2)) (Nt.hi ((Nt.cosV (((D : Nat) : Int) - 2 * ((p % 60) - 30)) (2 * D) k).1 * (Nt.cosV (((D : Nat) : Int) - 2 * ((p % 60) - 30)) (2 * D) k).1) ((Nt.cosV (((D : Nat) : Int) - 2 * ((p % 60) - 30)) (2 * D) k).2 * (Nt.cosV (((D : Nat) : Int) - 2 * ((p % 60) - 30)) (2 * D) k).2))) (Nt.hi (if Nt.sgI (Nt.cosV ((p % 60) - 30) D k).1 (Nt.cosV ((p % 60) - 30) D k).2 = 0 then 0 else Nt.lo ((Nt.cosV ((p % 60) - 30) D k).1 * (Nt.cosV ((p % 60) - 30) D k).1) ((Nt.cosV ((p % 60) - 30) D k).2 * (Nt.cosV ((p % 60) - 30) D k).2)) (Nt.hi ((Nt.cosV ((p % 60) - 30) D k).1 * (Nt.cosV ((p % 60) - 30) D k).1) ((Nt.cosV ((p % 60) - 30) D k).2 * (Nt.cosV ((p % 60) - 30) D k).2)) + Nt.hi (if Nt.sgI (Nt.cosV (((D : Nat) : Int) - 2 * ((p % 60) - 30)) (2 * D) k).1 (Nt.cosV (((D : Nat) : Int) - 2 * ((p % 60) - 30)) (2 * D) k).2 = 0 then 0 else Nt.lo ((Nt.cosV (((D : Nat) : Int) - 2 * ((p % 60) - 30)) (2 * D) k).1 * (Nt.cosV (((D : Nat) : Int) - 2 * ((p % 60) - 30)) (2 * D) k).1) ((Nt.cosV (((D : Nat) : Int) - 2 * ((p % 60) - 30)) (2 * D) k).2 * (Nt.cosV (((D : Nat) : Int) - 2 * ((p % 60) - 30)) (2 * D) k).2)) (Nt.hi ((Nt.cosV (((D : Nat) : Int) - 2 * ((p % 60) - 30)) (2 * D) k).1 * (Nt.cosV (((D : Nat) : Int) - 2 * ((p % 60) - 30)) (2 * D) k).1) ((Nt.cosV (((D : Nat) : Int) - 2 * ((p % 60) - 30)) (2 * D) k).2 * (Nt.cosV (((D : Nat) : Int) - 2 * ((p % 60) - 30)) (2 * D) k).2))) ((1 : Int) : Rat))) (zzc 76 [(6, zB (Nt.inI (Nt.lo (if Nt.sgI (Nt.cosV ((p % 60) - 30) D k).1 (Nt.cosV ((p % 60) - 30) D k).2 = 0 then 0 else Nt.lo ((Nt.cosV ((p % 60) - 30) D k).1 * (Nt.cosV ((p % 60) - 30) D k).1) ((Nt.cosV ((p % 60) - 30) D k).2 * (Nt.cosV ((p % 60) - 30) D k).2)) (Nt.hi ((Nt.cosV ((p % 60) - 30) D k).1 * (Nt.cosV ((p % 60) - 30) D k).1) ((Nt.cosV ((p % 60) - 30) D k).2 * (Nt.cosV ((p % 60) - 30) D k).2)) + Nt.lo (if Nt.sgI (Nt.cosV (((D : Nat) : Int) - 2 * ((p % 60) - 30)) (2 * D) k).1 (Nt.cosV (((D : Nat) : Int) - 2 * ((p % 60) - 30)) (2 * D) k).2 = 0 then 0 else Nt.lo ((Nt.cosV (((D : Nat) : Int) - 2 * ((p % 60) - 30)) (2 * D) k).1 * (Nt.cosV (((D : Nat) : Int) - 2 * ((p % 60) - 30)) (2 * D) k).1) ((Nt.cosV (((D : Nat) : Int) - 2 * ((p % 60) - 30)) (2 * D) k).2 * (Nt.cosV (((D : Nat) : Int) - 2 * ((p % 60) - 30)) (2 * D) k).2)) (Nt.hi ((Nt.cosV (((D : Nat) : Int) - 2 * ((p % 60) - 30)) (2 * D) k).1 * (Nt.cosV (((D : Nat) : Int) - 2 * ((p % 60) - 30)) (2 * D) k).1) ((Nt.cosV (((D : Nat) : Int) - 2 * ((p % 60) - 30)) (2 * D) k).2 * (Nt.cosV (((D : Nat) : Int) - 2 * ((p % 60) - 30)) (2 * D) k).2))) (Nt.hi (if Nt.sgI (Nt.cosV ((p % 60) - 30) D k).1 (Nt.cosV ((p % 60) - 30) D k).2 = 0 then 0 else Nt.lo ((Nt.cosV ((p % 60) - 30) D k).1 * (Nt.cosV ((p % 60) - 30) D k).1) ((Nt.cosV ((p % 60) - 30) D k).2 * (Nt.cosV ((p % 60) - 30) D k).2)) (Nt.hi ((Nt.cosV ((p % 60) - 30) D k).1 * (Nt.cosV ((p % 60) - 30) D k).1) ((Nt.cosV ((p % 60) - 30) D k).2 * (Nt.cosV ((p % 60) - 30) D k).2)) + Nt.hi (if Nt.sgI (Nt.cosV (((D : Nat) : Int) - 2 * ((p % 60) - 30)) (2 * D) k).1 (Nt.cosV (((D : Nat) : Int) - 2 * ((p % 60) - 30)) (2 * D) k).2 = 0 then 0 else Nt.lo ((Nt.cosV (((D : Nat) : Int) - 2 * ((p % 60) - 30)) (2 * D) k).1 * (Nt.cosV (((D : Nat) : Int) - 2 * ((p % 60) - 30)) (2 * D) k).1) ((Nt.cosV (((D : Nat) : Int) - 2 * ((p % 60) - 30)) (2 * D) k).2 * (Nt.cosV (((D : Nat) : Int) - 2 * ((p % 60) - 30)) (2 * D) k).2)) (Nt.hi ((Nt.cosV (((D : Nat) : Int) - 2 * ((p % 60) - 30)) (2 * D) k).1 * (Nt.cosV (((D : Nat) : Int) - 2 * ((p % 60) - 30)) (2 * D) k).1) ((Nt.cosV (((D : Nat) : Int) - 2 * ((p % 60) - 30)) (2 * D) k).2 * (Nt.cosV (((D : Nat) : Int) - 2 * ((p % 60) - 30)) (2 * D) k).2))) ((1 : Int) : Rat)))] [] (zzo (ret0 [.bool (Nt.inI (Nt.lo (if Nt.sgI (Nt.cosV ((p % 60) - 30) D k).1 (Nt.cosV ((p % 60) - 30) D k).2 = 0 then 0 else Nt.lo ((Nt.cosV ((p % 60) - 30) D k).1 * (Nt.cosV ((p % 60) - 30) D k).1) ((Nt.cosV ((p % 60) - 30) D k).2 * (Nt.cosV ((p % 60) - 30) D k).2)) (Nt.hi ((Nt.cosV ((p % 60) - 30) D k).1 * (Nt.cosV ((p % 60) - 30) D k).1) ((Nt.cosV ((p % 60) - 30) D k).2 * (Nt.cosV ((p % 60) - 30) D k).2)) + Nt.lo (if Nt.sgI (Nt.cosV (((D : Nat) : Int) - 2 * ((p % 60) - 30)) (2 * D) k).1 (Nt.cosV (((D : Nat) : Int) - 2 * ((p % 60) - 30)) (2 * D) k).2 = 0 then 0 else Nt.lo ((Nt.cosV (((D : Nat) : Int) - 2 * ((p % 60) - 30)) (2 * D) k).1 * (Nt.cosV (((D : Nat) : Int) - 2 * ((p % 60) - 30)) (2 * D) k).1) ((Nt.cosV (((D : Nat) : Int) - 2 * ((p % 60) - 30)) (2 * D) k).2 * (Nt.cosV (((D : Nat) : Int) - 2 * ((p % 60) - 30)) (2 * D) k).2)) (Nt.hi ((Nt.cosV (((D : Nat) : Int) - 2 * ((p % 60) - 30)) (2 * D) k).1 * (Nt.cosV (((D : Nat) : Int) - 2 * ((p % 60) - 30)) (2 * D) k).1) ((Nt.cosV (((D : Nat) : Int) - 2 * ((p % 60) - 30)) (2 * D) k).2 * (Nt.cosV (((D : Nat) : Int) - 2 * ((p % 60) - 30)) (2 * D) k).2))) (Nt.hi (if Nt.sgI (Nt.cosV ((p % 60) - 30) D k).1 (Nt.cosV ((p % 60) - 30) D k).2 = 0 then 0 else Nt.lo ((Nt.cosV ((p % 60) - 30) D k).1 * (Nt.cosV ((p % 60) - 30) D k).1) ((Nt.cosV ((p % 60) - 30) D k).2 * (Nt.cosV ((p % 60) - 30) D k).2)) (Nt.hi ((Nt.cosV ((p % 60) - 30) D k).1 * (Nt.cosV ((p % 60) - 30) D k).1) ((Nt.cosV ((p % 60) - 30) D k).2 * (Nt.cosV ((p % 60) - 30) D k).2)) + Nt.hi (if Nt.sgI (Nt.cosV (((D : Nat) : Int) - 2 * ((p % 60) - 30)) (2 * D) k).1 (Nt.cosV (((D : Nat) : Int) - 2 * ((p % 60) - 30)) (2 * D) k).2 = 0 then 0 else Nt.lo ((Nt.cosV (((D : Nat) : Int) - 2 * ((p % 60) - 30)) (2 * D) k).1 * (Nt.cosV (((D : Nat) : Int) - 2 * ((p % 60) - 30)) (2 * D) k).1) ((Nt.cosV (((D : Nat) : Int) - 2 * ((p % 60) - 30)) (2 * D) k).2 * (Nt.cosV (((D : Nat) : Int) - 2 * ((p % 60) - 30)) (2 * D) k).2)) (Nt.hi ((Nt.cosV (((D : Nat) : Int) - 2 * ((p % 60) - 30)) (2 * D) k).1 * (Nt.cosV (((D : Nat) : Int) - 2 * ((p % 60) - 30)) (2 * D) k).1) ((Nt.cosV (((D : Nat) : Int) - 2 * ((p % 60) - 30)) (2 * D) k).2 * (Nt.cosV (((D : Nat) : Int) - 2 * ((p % 60) - 30)) (2 * D) k).2))) ((1 : Int) : Rat))] ⟨zzq, trivial⟩ fun u109 e110 => ?_))))
  exact congrArg Value.bool hc2
 ·replace hb51 : ((((p % 60) - 30) % 2) == 1) = false := hb51
  have q2hb51 : ¬ ((p % 60 - 30) % 2 = 1) := by simpa using hb51
  refine zzs (zzp ?_)
  refine zzd ?_
  have hc := Nt.cheb_ok (n := (p % 60 - 30)) (d := D) (k := k) xq xq xq xq
  unfold Nt.chebT at hc
  rw [Bool.and_eq_true] at hc
  obtain ⟨hc1, hc2⟩ := hc
  refine zzz [0, 1, 3, 7, 15, 31, 63, 127, 255, 511, 1023, 1023, 4095, 1023, 16383, 32767, 65535, 131071, 262143, 131071, 1048575, 2097151, 4194303, 8388607, 16777215, 33554431] [(0, []), (1, []), (2, []), (3, []), (4, []), (5, []), (6, []), (7, []), (8, []), (9, []), (10, []), (11, []), (13, []), (12, []), (14, []), (15, []), (16, []), (17, []), (19, []), (18, []), (20, []), (21, []), (22, []), (23, []), (24, []), (25, [])] xk xk (zzg 51 16 [] ?_)
  intro w111 u111 e111 d111
  have k114 := k_awake10 d111
  with_reducible refine zPm k114 ?_
  rintro _ u112 g113 rfl
  refine zza 52 (zB true) (zza 53 (zI 0) ?_ (hw := w1 1 true 52))
  refine zza 54 (zB true) ?_ (hw := w1 1 true 52)
  refine zza 55 (zB true) (zza 56 (zB true) (zza 57 (zI 0) ?_ (hw := w1 5 true 56)))
  refine zza 58 (zB true) ?_ (hw := w1 5 true 56)
  refine zza 59 (zB true) (zza 60 (zB true) (zza 61 (.v y36.v) ?_ (hw := w1 9 true 60)))
  refine zzi 62 (.v (.agg #[.bool r20.s, r20.m.v, r20.d.v, .bool r22.s, r22.m.v, r22.d.v])) ty32 zze ?_ (hw := w1 9 true 60)
  refine zzi 64 (.v (r42.v)) ty26 zze ?_ (hw := w1 9 true 60)
  refine zzg 63 42 [y36.v, .agg #[.bool r20.s, r20.m.v, r20.d.v, .bool r22.s, r22.m.v, r22.d.v]] ?_ (hw := w1 9 true 60)
  intro w115 u115 e115 d115
  have k122 := k_r5Enclose (S := 100) d115 (h37.ext (e41.trans (g45.ext.trans (e47.trans (g49.ext.trans (e111.trans (g113.ext.trans e115))))))).raw (h21.ext (e27.trans (g33.ext.trans (e35.trans (g39.ext.trans (e41.trans (g45.ext.trans (e47.trans (g49.ext.trans (e111.trans (g113.ext.trans e115))))))))))).raw (h23.ext (e27.trans (g33.ext.trans (e35.trans (g39.ext.trans (e41.trans (g45.ext.trans (e47.trans (g49.ext.trans (e111.trans (g113.ext.trans e115))))))))))).raw xq xq xq xq xq
  with_reducible refine zPm k122 ?_
  rintro _ u120 g121 ⟨r116, r118, rfl, h117, h119⟩
  refine zzg 65 41 [.agg #[.bool r116.s, r116.m.v, r116.d.v, .bool r118.s, r118.m.v, r118.d.v], r42.v] ?_ (hw := w1 9 true 60)
  intro w123 u123 e123 d123
  have k126 := k_r4Contains d123 (h117.ext e123).raw (h119.ext e123).raw (h43.ext (e47.trans (g49.ext.trans (e111.trans (g113.ext.trans (e115.trans (g121.ext.trans e123))))))).raw xq xq
  with_reducible refine zPm k126 ?_
  rintro _ u124 g125 rfl
  refine zza 66 (zB (Nt.inI (Nt.encL (Nt.cosV ((p % 60) - 30) D k).1 (Nt.cosV ((p % 60) - 30) D k).2 (Nt.chebL D)).1 (Nt.encL (Nt.cosV ((p % 60) - 30) D k).1 (Nt.cosV ((p % 60) - 30) D k).2 (Nt.chebL D)).2 ((1 : Int) : Rat))) (zyq 67 (x := zB (Nt.inI (Nt.encL (Nt.cosV ((p % 60) - 30) D k).1 (Nt.cosV ((p % 60) - 30) D k).2 (Nt.chebL D)).1 (Nt.encL (Nt.cosV ((p % 60) - 30) D k).1 (Nt.cosV ((p % 60) - 30) D k).2 (Nt.chebL D)).2 ((1 : Int) : Rat))) (zB true) (by rw [show (Nt.inI (Nt.encL (Nt.cosV ((p % 60) - 30) D k).1 (Nt.cosV ((p % 60) - 30) D k).2 (Nt.chebL D)).1 (Nt.encL (Nt.cosV ((p % 60) - 30) D k).1 (Nt.cosV ((p % 60) - 30) D k).2 (Nt.chebL D)).2 ((1 : Int) : Rat)) = true from (by rw [if_neg q2hb51] at hc1; exact hc1)]) (zzi 68 (.v (.agg #[.bool r20.s, r20.m.v, r20.d.v, .bool r22.s, r22.m.v, r22.d.v])) ty32 zze ?_ (hw := w1 16 true 67)))
  refine zzi 70 (.v (.agg #[.bool r28.s, r28.m.v, r28.d.v, .bool r30.s, r30.m.v, r30.d.v])) ty32 zze ?_ (hw := w1 16 true 67)
  refine zzg 69 44 [.agg #[.bool r20.s, r20.m.v, r20.d.v, .bool r22.s, r22.m.v, r22.d.v]] ?_ (hw := w1 16 true 67)
  intro w128 u128 e128 d128
  have k135 := k_r4Square d128 (h21.ext (e27.trans (g33.ext.trans (e35.trans (g39.ext.trans (e41.trans (g45.ext.trans (e47.trans (g49.ext.trans (e111.trans (g113.ext.trans (e115.trans (g121.ext.trans (e123.trans (g125.ext.trans e128))))))))))))))).raw (h23.ext (e27.trans (g33.ext.trans (e35.trans (g39.ext.trans (e41.trans (g45.ext.trans (e47.trans (g49.ext.trans (e111.trans (g113.ext.trans (e115.trans (g121.ext.trans (e123.trans (g125.ext.trans e128))))))))))))))).raw xq
  with_reducible refine zPm k135 ?_
  rintro _ u133 g134 ⟨r129, r131, rfl, h130, h132⟩
  refine zzg 71 44 [.agg #[.bool r28.s, r28.m.v, r28.d.v, .bool r30.s, r30.m.v, r30.d.v]] ?_ (hw := w1 16 true 67)
  intro w136 u136 e136 d136
  have k143 := k_r4Square d136 (h29.ext (e35.trans (g39.ext.trans (e41.trans (g45.ext.trans (e47.trans (g49.ext.trans (e111.trans (g113.ext.trans (e115.trans (g121.ext.trans (e123.trans (g125.ext.trans (e128.trans (g134.ext.trans e136))))))))))))))).raw (h31.ext (e35.trans (g39.ext.trans (e41.trans (g45.ext.trans (e47.trans (g49.ext.trans (e111.trans (g113.ext.trans (e115.trans (g121.ext.trans (e123.trans (g125.ext.trans (e128.trans (g134.ext.trans e136))))))))))))))).raw xq
  with_reducible refine zPm k143 ?_
  rintro _ u141 g142 ⟨r137, r139, rfl, h138, h140⟩
  refine zzg 72 43 [.agg #[.bool r129.s, r129.m.v, r129.d.v, .bool r131.s, r131.m.v, r131.d.v], .agg #[.bool r137.s, r137.m.v, r137.d.v, .bool r139.s, r139.m.v, r139.d.v]] ?_ (hw := w1 16 true 67)
  intro w144 u144 e144 d144
  have k151 := k_r4Add d144 (h130.ext (e136.trans (g142.ext.trans e144))).raw (h132.ext (e136.trans (g142.ext.trans e144))).raw (h138.ext e144).raw (h140.ext e144).raw xq xq
  with_reducible refine zPm k151 ?_
  rintro _ u149 g150 ⟨r145, r147, rfl, h146, h148⟩
  refine zzg 73 30 [.int .i64 1] ?_ (hw := w1 16 true 67)
  intro w152 u152 e152 d152
  have k157 := k_rqOf d152 (z := 1) xq xq
  with_reducible refine zPm k157 ?_
  rintro _ u155 g156 ⟨r153, rfl, h154⟩
  refine zzg 74 41 [.agg #[.bool r145.s, r145.m.v, r145.d.v, .bool r147.s, r147.m.v, r147.d.v], r153.v] ?_ (hw := w1 16 true 67)
  intro w158 u158 e158 d158
  have k161 := k_r4Contains d158 (h146.ext (e152.trans (g156.ext.trans e158))).raw (h148.ext (e152.trans (g156.ext.trans e158))).raw (h154.ext e158).raw xq xq
  with_reducible refine zPm k161 ?_
  rintro _ u159 g160 rfl
  refine zza 75 (zB (Nt.inI (Nt.lo (if Nt.sgI (Nt.cosV ((p % 60) - 30) D k).1 (Nt.cosV ((p % 60) - 30) D k).2 = 0 then 0 else Nt.lo ((Nt.cosV ((p % 60) - 30) D k).1 * (Nt.cosV ((p % 60) - 30) D k).1) ((Nt.cosV ((p % 60) - 30) D k).2 * (Nt.cosV ((p % 60) - 30) D k).2)) (Nt.hi ((Nt.cosV ((p % 60) - 30) D k).1 * (Nt.cosV ((p % 60) - 30) D k).1) ((Nt.cosV ((p % 60) - 30) D k).2 * (Nt.cosV ((p % 60) - 30) D k).2)) + Nt.lo (if Nt.sgI (Nt.cosV (((D : Nat) : Int) - 2 * ((p % 60) - 30)) (2 * D) k).1 (Nt.cosV (((D : Nat) : Int) - 2 * ((p % 60) - 30)) (2 * D) k).2 = 0 then 0 else Nt.lo ((Nt.cosV (((D : Nat) : Int) - 2 * ((p % 60) - 30)) (2 * D) k).1 * (Nt.cosV (((D : Nat) : Int) - 2 * ((p % 60) - 30)) (2 * D) k).1) ((Nt.cosV (((D : Nat) : Int) - 2 * ((p % 60) - 30)) (2 * D) k).2 * (Nt.cosV (((D : Nat) : Int) - 2 * ((p % 60) - 30)) (2 * D) k).2)) (Nt.hi ((Nt.cosV (((D : Nat) : Int) - 2 * ((p % 60) - 30)) (2 * D) k).1 * (Nt.cosV (((D : Nat) : Int) - 2 * ((p % 60) - 30)) (2 * D) k).1) ((Nt.cosV (((D : Nat) : Int) - 2 * ((p % 60) - 30)) (2 * D) k).2 * (Nt.cosV (((D : Nat) : Int) - 2 * ((p % 60) - 30)) (2 * D) k).2))) (Nt.hi (if Nt.sgI (Nt.cosV ((p % 60) - 30) D k).1 (Nt.cosV ((p % 60) - 30) D k).2 = 0 then 0 else Nt.lo ((Nt.cosV ((p % 60) - 30) D k).1 * (Nt.cosV ((p % 60) - 30) D k).1) ((Nt.cosV ((p % 60) - 30) D k).2 * (Nt.cosV ((p % 60) - 30) D k).2)) (Nt.hi ((Nt.cosV ((p % 60) - 30) D k).1 * (Nt.cosV ((p % 60) - 30) D k).1) ((Nt.cosV ((p % 60) - 30) D k).2 * (Nt.cosV ((p % 60) - 30) D k).2)) + Nt.hi (if Nt.sgI (Nt.cosV (((D : Nat) : Int) - 2 * ((p % 60) - 30)) (2 * D) k).1 (Nt.cosV (((D : Nat) : Int) - 2 * ((p % 60) - 30)) (2 * D) k).2 = 0 then 0 else Nt.lo ((Nt.cosV (((D : Nat) : Int) - 2 * ((p % 60) - 30)) (2 * D) k).1 * (Nt.cosV (((D : Nat) : Int) - 2 * ((p % 60) - 30)) (2 * D) k).1) ((Nt.cosV (((D : Nat) : Int) - 2 * ((p % 60) - 30)) (2 * D) k).2 * (Nt.cosV (((D : Nat) : Int) - 2 * ((p % 60) - 30)) (2 * D) k).2)) (Nt.hi ((Nt.cosV (((D : Nat) : Int) - 2 * ((p % 60) - 30)) (2 * D) k).1 * (Nt.cosV (((D : Nat) : Int) - 2 * ((p % 60) - 30)) (2 * D) k).1) ((Nt.cosV (((D : Nat) : Int) - 2 * ((p % 60) - 30)) (2 * D) k).2 * (Nt.cosV (((D : Nat) : Int) - 2 * ((p % 60) - 30)) (2 * D) k).2))) ((1 : Int) : Rat))) (zza 6 (zB (Nt.inI (Nt.lo (if Nt.sgI (Nt.cosV ((p % 60) - 30) D k).1 (Nt.cosV ((p % 60) - 30) D k).2 = 0 then 0 else Nt.lo ((Nt.cosV ((p % 60) - 30) D k).1 * (Nt.cosV ((p % 60) - 30) D k).1) ((Nt.cosV ((p % 60) - 30) D k).2 * (Nt.cosV ((p % 60) - 30) D k).2)) (Nt.hi ((Nt.cosV ((p % 60) - 30) D k).1 * (Nt.cosV ((p % 60) - 30) D k).1) ((Nt.cosV ((p % 60) - 30) D k).2 * (Nt.cosV ((p % 60) - 30) D k).2)) + Nt.lo (if Nt.sgI (Nt.cosV (((D : Nat) : Int) - 2 * ((p % 60) - 30)) (2 * D) k).1 (Nt.cosV (((D : Nat) : Int) - 2 * ((p % 60) - 30)) (2 * D) k).2 = 0 then 0 else Nt.lo ((Nt.cosV (((D : Nat) : Int) - 2 * ((p % 60) - 30)) (2 * D) k).1 * (Nt.cosV (((D : Nat) : Int) - 2 * ((p % 60) - 30)) (2 * D) k).1) ((Nt.cosV (((D : Nat) : Int) - 2 * ((p % 60) - 30)) (2 * D) k).2 * (Nt.cosV (((D : Nat) : Int) - 2 * ((p % 60) - 30)) (2 * D) k).2)) (Nt.hi ((Nt.cosV (((D : Nat) : Int) - 2 * ((p % 60) - 30)) (2 * D) k).1 * (Nt.cosV (((D : Nat) : Int) - 2 * ((p % 60) - 30)) (2 * D) k).1) ((Nt.cosV (((D : Nat) : Int) - 2 * ((p % 60) - 30)) (2 * D) k).2 * (Nt.cosV (((D : Nat) : Int) - 2 * ((p % 60) - 30)) (2 * D) k).2))) (Nt.hi (if Nt.sgI (Nt.cosV ((p % 60) - 30) D k).1 (Nt.cosV ((p % 60) - 30) D k).2 = 0 then 0 else Nt.lo ((Nt.cosV ((p % 60) - 30) D k).1 * (Nt.cosV ((p % 60) - 30) D k).1) ((Nt.cosV ((p % 60) - 30) D k).2 * (Nt.cosV ((p % 60) - 30) D k).2)) (Nt.hi ((Nt.cosV ((p % 60) - 30) D k).1 * (Nt.cosV ((p % 60) - 30) D k).1) ((Nt.cosV ((p % 60) - 30) D k).2 * (Nt.cosV ((p % 60) - 30) D k).2)) + Nt.hi (if Nt.sgI (Nt.cosV (((D : Nat) : Int) - 2 * ((p % 60) - 30)) (2 * D) k).1 (Nt.cosV (((D : Nat) : Int) - 2 * ((p % 60) - 30)) (2 * D) k).2 = 0 then 0 else Nt.lo ((Nt.cosV (((D : Nat) : Int) - 2 * ((p % 60) - 30)) (2 * D) k).1 * (Nt.cosV (((D : Nat) : Int) - 2 * ((p % 60) - 30)) (2 * D) k).1) ((Nt.cosV (((D : Nat) : Int) - 2 * ((p % 60) - 30)) (2 * D) k).2 * (Nt.cosV (((D : Nat) : Int) - 2 * ((p % 60) - 30)) (2 * D) k).2)) (Nt.hi ((Nt.cosV (((D : Nat) : Int) - 2 * ((p % 60) - 30)) (2 * D) k).1 * (Nt.cosV (((D : Nat) : Int) - 2 * ((p % 60) - 30)) (2 * D) k).1) ((Nt.cosV (((D : Nat) : Int) - 2 * ((p % 60) - 30)) (2 * D) k).2 * (Nt.cosV (((D : Nat) : Int) - 2 * ((p % 60) - 30)) (2 * D) k).2))) ((1 : Int) : Rat))) (zzc 76 [(6, zB (Nt.inI (Nt.lo (if Nt.sgI (Nt.cosV ((p % 60) - 30) D k).1 (Nt.cosV ((p % 60) - 30) D k).2 = 0 then 0 else Nt.lo ((Nt.cosV ((p % 60) - 30) D k).1 * (Nt.cosV ((p % 60) - 30) D k).1) ((Nt.cosV ((p % 60) - 30) D k).2 * (Nt.cosV ((p % 60) - 30) D k).2)) (Nt.hi ((Nt.cosV ((p % 60) - 30) D k).1 * (Nt.cosV ((p % 60) - 30) D k).1) ((Nt.cosV ((p % 60) - 30) D k).2 * (Nt.cosV ((p % 60) - 30) D k).2)) + Nt.lo (if Nt.sgI (Nt.cosV (((D : Nat) : Int) - 2 * ((p % 60) - 30)) (2 * D) k).1 (Nt.cosV (((D : Nat) : Int) - 2 * ((p % 60) - 30)) (2 * D) k).2 = 0 then 0 else Nt.lo ((Nt.cosV (((D : Nat) : Int) - 2 * ((p % 60) - 30)) (2 * D) k).1 * (Nt.cosV (((D : Nat) : Int) - 2 * ((p % 60) - 30)) (2 * D) k).1) ((Nt.cosV (((D : Nat) : Int) - 2 * ((p % 60) - 30)) (2 * D) k).2 * (Nt.cosV (((D : Nat) : Int) - 2 * ((p % 60) - 30)) (2 * D) k).2)) (Nt.hi ((Nt.cosV (((D : Nat) : Int) - 2 * ((p % 60) - 30)) (2 * D) k).1 * (Nt.cosV (((D : Nat) : Int) - 2 * ((p % 60) - 30)) (2 * D) k).1) ((Nt.cosV (((D : Nat) : Int) - 2 * ((p % 60) - 30)) (2 * D) k).2 * (Nt.cosV (((D : Nat) : Int) - 2 * ((p % 60) - 30)) (2 * D) k).2))) (Nt.hi (if Nt.sgI (Nt.cosV ((p % 60) - 30) D k).1 (Nt.cosV ((p % 60) - 30) D k).2 = 0 then 0 else Nt.lo ((Nt.cosV ((p % 60) - 30) D k).1 * (Nt.cosV ((p % 60) - 30) D k).1) ((Nt.cosV ((p % 60) - 30) D k).2 * (Nt.cosV ((p % 60) - 30) D k).2)) (Nt.hi ((Nt.cosV ((p % 60) - 30) D k).1 * (Nt.cosV ((p % 60) - 30) D k).1) ((Nt.cosV ((p % 60) - 30) D k).2 * (Nt.cosV ((p % 60) - 30) D k).2)) + Nt.hi (if Nt.sgI (Nt.cosV (((D : Nat) : Int) - 2 * ((p % 60) - 30)) (2 * D) k).1 (Nt.cosV (((D : Nat) : Int) - 2 * ((p % 60) - 30)) (2 * D) k).2 = 0 then 0 else Nt.lo ((Nt.cosV (((D : Nat) : Int) - 2 * ((p % 60) - 30)) (2 * D) k).1 * (Nt.cosV (((D : Nat) : Int) - 2 * ((p % 60) - 30)) (2 * D) k).1) ((Nt.cosV (((D : Nat) : Int) - 2 * ((p % 60) - 30)) (2 * D) k).2 * (Nt.cosV (((D : Nat) : Int) - 2 * ((p % 60) - 30)) (2 * D) k).2)) (Nt.hi ((Nt.cosV (((D : Nat) : Int) - 2 * ((p % 60) - 30)) (2 * D) k).1 * (Nt.cosV (((D : Nat) : Int) - 2 * ((p % 60) - 30)) (2 * D) k).1) ((Nt.cosV (((D : Nat) : Int) - 2 * ((p % 60) - 30)) (2 * D) k).2 * (Nt.cosV (((D : Nat) : Int) - 2 * ((p % 60) - 30)) (2 * D) k).2))) ((1 : Int) : Rat)))] [] (zzo (ret0 [.bool (Nt.inI (Nt.lo (if Nt.sgI (Nt.cosV ((p % 60) - 30) D k).1 (Nt.cosV ((p % 60) - 30) D k).2 = 0 then 0 else Nt.lo ((Nt.cosV ((p % 60) - 30) D k).1 * (Nt.cosV ((p % 60) - 30) D k).1) ((Nt.cosV ((p % 60) - 30) D k).2 * (Nt.cosV ((p % 60) - 30) D k).2)) (Nt.hi ((Nt.cosV ((p % 60) - 30) D k).1 * (Nt.cosV ((p % 60) - 30) D k).1) ((Nt.cosV ((p % 60) - 30) D k).2 * (Nt.cosV ((p % 60) - 30) D k).2)) + Nt.lo (if Nt.sgI (Nt.cosV (((D : Nat) : Int) - 2 * ((p % 60) - 30)) (2 * D) k).1 (Nt.cosV (((D : Nat) : Int) - 2 * ((p % 60) - 30)) (2 * D) k).2 = 0 then 0 else Nt.lo ((Nt.cosV (((D : Nat) : Int) - 2 * ((p % 60) - 30)) (2 * D) k).1 * (Nt.cosV (((D : Nat) : Int) - 2 * ((p % 60) - 30)) (2 * D) k).1) ((Nt.cosV (((D : Nat) : Int) - 2 * ((p % 60) - 30)) (2 * D) k).2 * (Nt.cosV (((D : Nat) : Int) - 2 * ((p % 60) - 30)) (2 * D) k).2)) (Nt.hi ((Nt.cosV (((D : Nat) : Int) - 2 * ((p % 60) - 30)) (2 * D) k).1 * (Nt.cosV (((D : Nat) : Int) - 2 * ((p % 60) - 30)) (2 * D) k).1) ((Nt.cosV (((D : Nat) : Int) - 2 * ((p % 60) - 30)) (2 * D) k).2 * (Nt.cosV (((D : Nat) : Int) - 2 * ((p % 60) - 30)) (2 * D) k).2))) (Nt.hi (if Nt.sgI (Nt.cosV ((p % 60) - 30) D k).1 (Nt.cosV ((p % 60) - 30) D k).2 = 0 then 0 else Nt.lo ((Nt.cosV ((p % 60) - 30) D k).1 * (Nt.cosV ((p % 60) - 30) D k).1) ((Nt.cosV ((p % 60) - 30) D k).2 * (Nt.cosV ((p % 60) - 30) D k).2)) (Nt.hi ((Nt.cosV ((p % 60) - 30) D k).1 * (Nt.cosV ((p % 60) - 30) D k).1) ((Nt.cosV ((p % 60) - 30) D k).2 * (Nt.cosV ((p % 60) - 30) D k).2)) + Nt.hi (if Nt.sgI (Nt.cosV (((D : Nat) : Int) - 2 * ((p % 60) - 30)) (2 * D) k).1 (Nt.cosV (((D : Nat) : Int) - 2 * ((p % 60) - 30)) (2 * D) k).2 = 0 then 0 else Nt.lo ((Nt.cosV (((D : Nat) : Int) - 2 * ((p % 60) - 30)) (2 * D) k).1 * (Nt.cosV (((D : Nat) : Int) - 2 * ((p % 60) - 30)) (2 * D) k).1) ((Nt.cosV (((D : Nat) : Int) - 2 * ((p % 60) - 30)) (2 * D) k).2 * (Nt.cosV (((D : Nat) : Int) - 2 * ((p % 60) - 30)) (2 * D) k).2)) (Nt.hi ((Nt.cosV (((D : Nat) : Int) - 2 * ((p % 60) - 30)) (2 * D) k).1 * (Nt.cosV (((D : Nat) : Int) - 2 * ((p % 60) - 30)) (2 * D) k).1) ((Nt.cosV (((D : Nat) : Int) - 2 * ((p % 60) - 30)) (2 * D) k).2 * (Nt.cosV (((D : Nat) : Int) - 2 * ((p % 60) - 30)) (2 * D) k).2))) ((1 : Int) : Rat))] ⟨zzq, trivial⟩ fun u162 e163 => ?_))))
  exact congrArg Value.bool hc2
end Go.Proofs.YtbolmkfphieogaaGreat
