/- Parts of the proof: contracts of functions, each walked once, and plain laws. -/
import Derived.Test.YtgmkhhfbckjaeaaGreatTltF
set_option linter.unusedVariables false
namespace Go.Proofs.YtgmkhhfbckjaeaaGreat
open Go.RowKit
theorem Nt.las_one {lo : Nat} {u : World} {x : Sl} {k : Nat} {ty : TypeId} {v : List Int} {a : Int} {n : Nat} (m : MutL k ty lo u x (tcs [⟨a, v.getD 0 0⟩])) (ha : a = Nt.fwdN n 0) : MutL k ty lo u x (tcs (Nt.lasN v n 1)) := by
 have e : Nt.lasN v n 1 = [⟨a, v.getD 0 0⟩] := by
  rw [ha]; unfold Nt.lasN; rfl
 rw [e]; exact m
set_option maxHeartbeats 8000000 in
theorem k_latBuild {u w : World} {x y : Sl} {l m : List Int} {D W : WL} (d : Dat u w) (hD : WdOK D) (hE : Nt.latE W l m = 0) (hx : SlR .i64 u x.a x.n x.c l) (hb : ∀ z ∈ l, -9223372036854775808 ≤ z ∧ z ≤ 9223372036854775807) (hy : SlR .i64 u y.a y.n y.c m) (hc : ∀ z ∈ m, -9223372036854775808 ≤ z ∧ z ≤ 9223372036854775807) : Calls Tryz.prog 40 #[x.v, y.v, D.v, W.v] w (Post u w fun v u' => ∃ (y z : Sl), v = .tuple #[.agg #[.int .i64 D.b, .int .i64 D.f, .int .i64 D.r, .int .i64 D.o, .int .i64 W.b, .int .i64 W.f, .int .i64 W.r, .int .i64 W.o, .int .i64 (l.length : Int), y.v, z.v, .int .i64 ((3 * l.length + 1 : Nat) : Int)], .int .i64 0] ∧ (∃ h, NodesB 0 h u' y (Nt.latNd (Nt.p2i W.f) l m l.length)) ∧ MutL 1 3 0 u' z (ics (Nt.nexN l.length l.length))) := by
 obtain ⟨hW, h8, hlm, hbl, hbm⟩ := Nt.latE_ok hE
 obtain ⟨hw1, hw2, hw3, hw4, hw5, hw6, hw7, hw8⟩ := id hW
 have hu0 := Nt.zxp W.f
 have hu1 := Nt.p2i_24 (n := W.f) xq
 have hu2 := Nt.zwe (a := W.f) (b := W.b - 1) xq
 have hu3 := Nt.p2i_24 (n := W.b - 1) xq
 have hlx : l.length = x.n := hx.1
 have hly : m.length = y.n := hy.1
 obtain ⟨dw1, dw2, dw3, dw4, dw5, dw6, dw7, dw8⟩ := id hD
 refine zzm (args := [x.v, y.v, .agg #[.int .i64 D.b, .int .i64 D.f, .int .i64 D.r, .int .i64 D.o], .agg #[.int .i64 W.b, .int .i64 W.f, .int .i64 W.r, .int .i64 W.o]]) Tryz.func40 rfl Tryz.ntmps40 (rs := [.cell 8 72, .tmp 9]) Tryz.results40 (le_b rfl) (le_b rfl) d ?_
 refine sq9 (zzk 6 ⟨66, D.cs⟩ (zzk 7 ⟨66, W.cs⟩ (zzk 8 ⟨72, [.int .i64 0, .int .i64 0, .int .i64 0, .int .i64 0, .int .i64 0, .int .i64 0, .int .i64 0, .int .i64 0, .int .i64 0, .slice none 0 0, .slice none 0 0, .int .i64 0]⟩ (zza 9 (zI 0) (zzb (zzd (sq9 (zzi 19 (.v (D.v)) ty66 zze (zzg 20 103 _ fun _ _ a4 bM => Post.mono (k_fxValid (W := D) bM hD) ?_)))))))))
 rintro _ u12 aQ rfl
 refine zza 21 (zB false) (zzb (zys xj (zzs (zzp ?_))))
 refine zzd (sq9 (zza 23 (.v (x.v)) (zza 24 (.v (y.v)) (zzi 25 (.v (W.v)) ty66 zze (zzg 26 104 _ fun _ _ bc b5 => Post.mono ((Post.mono (Ψ := fun v _ => v = .int .i64 0) (k_latWrongG (W := W) b5 (hx.ext (a4.t (aQ.t bc))) hb (hy.ext (a4.t (aQ.t bc))) hc) (fun v u9 _ h => by rw [hE] at h; exact h))) ?_)))))
 rintro _ u16 bS rfl
 refine zza 10 (zI 0) (zzb (sq9 (zza 27 (zI 0) (zza 28 (zB false) (zzb (zys xj (zzs (zzp ?_))))))))
 refine sq9 (zza 31 (.v (x.v)) (zza 32 (zI x.n) (zza 11 (zI x.n) (zzb (sq9 (zza 33 (.adr 7 1) (zzi 34 (zI W.f) ty3 zzl (sy_shl 35 (k := .i64) (s := W.f) (Nt.p2i W.f) xq zw (shl_one xq xq) ?_))))))))
 refine zza 12 (zI (Nt.p2i W.f)) (zzb (zzd (zzz [0, 0, 0, 0, 8, 0, 32, 96, 255, 0, 1023] [(0, []), (1, []), (2, []), (3, []), (5, []), (6, []), (7, []), (9, []), (4, [40]), (8, []), (10, [])] xj xj (zzi 36 (.v (D.v)) ty66 zze (zzi 37 (.v (W.v)) ty66 zze (zza 38 (zI x.n) (zza 39 (zI x.n) (zza 41 (zI x.n) (zyq 42 (x := zI (IntKind.i64.wrap ((3 : Int) * (x.n : Int)))) (zI (3 * x.n : Nat)) (eqI yq) (zyq 43 (x := zI (IntKind.i64.wrap (((3 * x.n : Nat) : Int) + 1))) (zI (((3 * x.n) + 1 : Nat) : Int)) (eqI yq) (zzk 13 ⟨72, [.int .i64 0, .int .i64 0, .int .i64 0, .int .i64 0, .int .i64 0, .int .i64 0, .int .i64 0, .int .i64 0, .int .i64 0, .slice none 0 0, .slice none 0 0, .int .i64 0]⟩ ?_)))))))))))
 refine sy_makeN 40 (T := 22) (E := 3) (z := .int .i64 0) (size := 1) (bytes := 8) x.n (ics (List.replicate x.n 0)) xj xj rfl rfl xq yv (made_ints _) (fun aq bR b7 bK bU g19 => ?_)
 have a7 : MutL 1 3 u.heap.size bR (⟨some ⟨aq, 0, none⟩, x.n, x.n⟩ : Sl) (ics (List.replicate x.n 0)) := MutL.lit bK (by rw [zwj, List.length_replicate, Nat.mul_one]) yv bU
 refine zza 44 (.v (.agg #[.int .i64 D.b, .int .i64 D.f, .int .i64 D.r, .int .i64 D.o, .int .i64 W.b, .int .i64 W.f, .int .i64 W.r, .int .i64 W.o, .int .i64 x.n, .slice none 0 0, .slice (some ⟨aq, 0, none⟩) x.n x.n, .int .i64 (((3 * x.n) + 1 : Nat) : Int)])) (zzj ⟨72, [.int .i64 D.b, .int .i64 D.f, .int .i64 D.r, .int .i64 D.o, .int .i64 W.b, .int .i64 W.f, .int .i64 W.r, .int .i64 W.o, .int .i64 x.n, .slice none 0 0, .slice (some ⟨aq, 0, none⟩) x.n x.n, .int .i64 (((3 * x.n) + 1 : Nat) : Int)]⟩ ty72 ?_)
 refine zzc 165 [(0, .v (x.v)), (1, .v (y.v)), (8, .adr 8 0), (11, zI x.n), (12, zI (Nt.p2i W.f)), (13, .adr 13 0)] [(8, ⟨72, [.int .i64 0, .int .i64 0, .int .i64 0, .int .i64 0, .int .i64 0, .int .i64 0, .int .i64 0, .int .i64 0, .int .i64 0, .slice none 0 0, .slice none 0 0, .int .i64 0]⟩), (13, ⟨72, [.int .i64 D.b, .int .i64 D.f, .int .i64 D.r, .int .i64 D.o, .int .i64 W.b, .int .i64 W.f, .int .i64 W.r, .int .i64 W.o, .int .i64 x.n, .slice none 0 0, .slice (some ⟨aq, 0, none⟩) x.n x.n, .int .i64 (((3 * x.n) + 1 : Nat) : Int)]⟩)] (sq9 (zza 45 (zI x.n) (zyq 46 (x := zI (IntKind.i64.wrap ((x.n : Int) + 1))) (zI (x.n + 1 : Nat)) (eqI yq) (sy_make 47 (T := 22) (E := 3) (z := .int .i64 0) (size := 1) (bytes := 8) (x.n + 1) (ics (List.replicate (x.n + 1) 0)) xj xj rfl rfl xq yv (made_ints _) ?_))))
 refine zza 14 (.slc 47 0 (x.n + 1) (x.n + 1)) (zzc 165 [(0, .v (x.v)), (1, .v (y.v)), (8, .adr 8 0), (11, zI x.n), (12, zI (Nt.p2i W.f)), (13, .adr 13 0), (14, .slc 47 0 (x.n + 1) (x.n + 1))] [(8, ⟨72, [.int .i64 0, .int .i64 0, .int .i64 0, .int .i64 0, .int .i64 0, .int .i64 0, .int .i64 0, .int .i64 0, .int .i64 0, .slice none 0 0, .slice none 0 0, .int .i64 0]⟩), (13, ⟨72, [.int .i64 D.b, .int .i64 D.f, .int .i64 D.r, .int .i64 D.o, .int .i64 W.b, .int .i64 W.f, .int .i64 W.r, .int .i64 W.o, .int .i64 x.n, .slice none 0 0, .slice (some ⟨aq, 0, none⟩) x.n x.n, .int .i64 (((3 * x.n) + 1 : Nat) : Int)]⟩), (47, ⟨3, ics (List.replicate (x.n + 1) 0)⟩)] (zzd (sq9 (zza 48 (zI x.n) (zza 15 (zI x.n) (zzb (zzt (zyn (I := fun bh S' u' => ∃ (i : Nat) (bX : Nat) (X : Sl) (L : List Int), (bh = i) ∧ (i ≤ x.n) ∧ (L.length = x.n + 1) ∧ (∀ j, i ≤ j → j ≤ x.n → L.getD j 0 = Nt.fwdN x.n j) ∧ (S' = St.of 165 [(0, .v (x.v)), (1, .v (y.v)), (8, .adr 8 0), (11, zI x.n), (12, zI (Nt.p2i W.f)), (13, .adr 13 0), (14, .slc 47 0 (x.n + 1) (x.n + 1)), (15, zI i)] [(8, ⟨72, [.int .i64 0, .int .i64 0, .int .i64 0, .int .i64 0, .int .i64 0, .int .i64 0, .int .i64 0, .int .i64 0, .int .i64 0, .slice none 0 0, .slice none 0 0, .int .i64 0]⟩), (13, ⟨72, [.int .i64 D.b, .int .i64 D.f, .int .i64 D.r, .int .i64 D.o, .int .i64 W.b, .int .i64 W.f, .int .i64 W.r, .int .i64 W.o, .int .i64 x.n, X.v, .slice (some ⟨bX, 0, none⟩) x.n x.n, .int .i64 (3 * x.n + 1 : Nat)]⟩), (47, ⟨3, ics L⟩)]) ∧ (Ext u u') ∧ (NodesB u.heap.size bX u' X (Nt.ndA (Nt.p2i W.f) l x.n (x.n - i))) ∧ (MutL 1 3 u.heap.size u' (⟨some ⟨bX, 0, none⟩, x.n, x.n⟩ : Sl) (ics (Nt.nexN x.n 0)))) (fun m S u1 u2 e h => by obtain ⟨i, bX, X, L, hm, p0, p1, p2, hS, hE, f0, f1⟩ := h; exact ⟨i, bX, X, L, hm, p0, p1, p2, hS, hE.trans e, f0.ext e, f1.ext e⟩) _ yw ⟨x.n, aq, ⟨none, 0, 0⟩, List.replicate (x.n + 1) 0, rfl, Nat.le_refl _, zz, Nt.fwd_zero x.n, rfl, (a4.t (aQ.t (bc.t (bS.t b7)))), (by rw [Nat.sub_self]; exact NodesB.nil _ _ _), (by rw [Nt.nexN_zero]; exact a7)⟩ ?_))))))))
 rintro bh _ u21 ⟨i, bX, X, L, ca, hi, hL, hF, rfl, ao, hN, hX⟩
 have hNl := hN.len
 rw [Nt.ndA_len] at hNl
 refine zzd (sq9 (zza 49 (zI i) (zza 50 (zB (decide ((1 : Int) ≤ (i : Int)))) (zzb (zzu (b := decide ((1 : Int) ≤ (i : Int))) xj (fun ae => ?_) (fun ae => ?_))))))
 ·have qhb22 := of_decide_eq_true ae
  refine zzs (zzp ?_)
  refine zzd (zzt (sq9 (zza 53 (.slc 47 0 (x.n + 1) (x.n + 1)) (zza 54 (zI i) (zyq 55 (x := zI (IntKind.i64.wrap ((i : Int) - 1))) (zI (i - 1 : Nat)) (eqI yq) (zza 56 (zI x.n) (zyq 57 (x := zI (IntKind.i64.wrap ((1 : Int) + (x.n : Int)))) (zI (1 + x.n : Nat)) (eqI yq) (zza 58 (zI x.n) (zyq 59 (x := zI (IntKind.i64.wrap (((1 + x.n : Nat) : Int) + (x.n : Int)))) (zI (((1 + x.n) + x.n : Nat) : Int)) (eqI yq) (zza 60 (zI i) (zyq 61 (x := zI (IntKind.i64.wrap ((((1 + x.n) + x.n : Nat) : Int) - (i : Int)))) (zI ((((1 + x.n) + x.n) - i : Nat) : Int)) (eqI yq) ?_)))))))))))
  refine zyw 62 (off' := (i - 1) * 1) (n := x.n + 1) (off := 0) (sz := 1) (i := ((i - 1 : Nat) : Int)) sl22 xq xq xq ?_
  refine zyv (V := ⟨3, ics L⟩) (off := (i - 1) * 1) (ics ((L).set (i - 1) ((((1 + x.n) + x.n) - i : Nat) : Int))) ty3 (by rw [zwj]; first | omega | (simp; done) | (simp; omega)) (setL_ints (z := ((((1 + x.n) + x.n) - i : Nat) : Int)) (i := i - 1) zj rfl) ?_
  refine zzc 165 [(0, .v (x.v)), (1, .v (y.v)), (8, .adr 8 0), (11, zI x.n), (12, zI (Nt.p2i W.f)), (13, .adr 13 0), (14, .slc 47 0 (x.n + 1) (x.n + 1)), (15, zI i)] [(8, ⟨72, [.int .i64 0, .int .i64 0, .int .i64 0, .int .i64 0, .int .i64 0, .int .i64 0, .int .i64 0, .int .i64 0, .int .i64 0, .slice none 0 0, .slice none 0 0, .int .i64 0]⟩), (13, ⟨72, [.int .i64 D.b, .int .i64 D.f, .int .i64 D.r, .int .i64 D.o, .int .i64 W.b, .int .i64 W.f, .int .i64 W.r, .int .i64 W.o, .int .i64 x.n, X.v, .slice (some ⟨bX, 0, none⟩) x.n x.n, .int .i64 (3 * x.n + 1 : Nat)]⟩), (47, ⟨3, ics ((L).set (i - 1) ((((1 + x.n) + x.n) - i : Nat) : Int))⟩)] (sw_anyC [0, 1, 0, 0, 12, 28, 0, 124, 0, 0, 0, 1024, 3584, 7680, 15872, 32512, 65532, 131068, 262140, 524287, 1048575, 2097151] [(0, []), (1, []), (2, []), (3, []), (4, []), (5, []), (6, []), (7, []), (8, []), (9, []), (10, []), (11, []), (12, []), (13, []), (14, []), (15, []), (16, [79]), (17, []), (18, [81])] [(19, []), (20, []), (21, [])] xj xj xj ?_)
  refine zza 63 (.adr 13 9) (zzi 64 (.v (X.v)) ty70 zzl (zza 65 (.slc 47 0 (x.n + 1) (x.n + 1)) (zza 66 (zI i) (zyw 67 (off' := i * 1) (n := x.n + 1) (off := 0) (sz := 1) (i := (i : Int)) sl22 xq xq xq ?_))))
  refine zzi 68 (V := ⟨3, ics ((L).set (i - 1) ((((1 + x.n) + x.n) - i : Nat) : Int))⟩) (off := i * 1) (zI (((L).set (i - 1) ((((1 + x.n) + x.n) - i : Nat) : Int)).getD i 0)) ty3 (part_ints (L := (L).set (i - 1) ((((1 + x.n) + x.n) - i : Nat) : Int)) (i := i) zj rfl) (zza 69 (zI (Nt.p2i W.f)) (zza 70 (.v (.agg #[.int .i64 (((L).set (i - 1) ((((1 + x.n) + x.n) - i : Nat) : Int)).getD i 0), .int .i64 (Nt.p2i W.f)])) (zza 71 (zI i) (zza 72 (.v (x.v)) (zza 73 (zI i) (zyq 74 (x := zI (IntKind.i64.wrap ((i : Int) - 1))) (zI (i - 1 : Nat)) (eqI yq) ?_))))))
  have hl23 := ((hx.ext ao)).1
  obtain ⟨b23, bg, aI, bd⟩ := ints_at (hx.ext ao) (i := i - 1) xq
  have hz23 := ints_bd hbl xq (i - 1)
  refine zya 75 (bg + (i - 1) * 1) (n := x.n) (off := bg) (sz := 1) (i := ((i - 1 : Nat) : Int)) xq aI xq xq sl22 (zyl 76 (.int .i64 (l.getD (i - 1) 0)) bd ty3 (zyq 77 (x := zI (IntKind.i64.wrap (0 - (l.getD (i - 1) 0)))) (zI (-(l.getD (i - 1) 0))) (eqI yq) (zza 78 (.v (.agg #[.int .i64 i, .int .i64 (-(l.getD (i - 1) 0))])) (sy_dataN 79 ⟨147, [.int .i64 (((L).set (i - 1) ((((1 + x.n) + x.n) - i : Nat) : Int)).getD i 0), .int .i64 (Nt.p2i W.f), .int .i64 i, .int .i64 (-(l.getD (i - 1) 0))]⟩ 2 (fun aj bD aH bJ b0 g24 => ?_)))))
  have aV : MutL 2 147 u.heap.size bD (⟨some ⟨aj, 0, none⟩, 2, 2⟩ : Sl) (tcs [(⟨(((L).set (i - 1) ((((1 + x.n) + x.n) - i : Nat) : Int)).getD i 0), Nt.p2i W.f⟩ : TL), (⟨(i : Int), -(l.getD (i - 1) 0)⟩ : TL)]) := MutL.lit bJ rfl yv b0
  refine zza 80 (.v (.agg #[.slice (some ⟨aj, 0, none⟩) 2 2])) (sy_dataN 81 ⟨150, [.slice (some ⟨aj, 0, none⟩) 2 2]⟩ 1 (fun bk b6 au bn cc g26 => ?_))
  have b9 : MutL 1 150 u.heap.size b6 (⟨some ⟨bk, 0, none⟩, 1, 1⟩ : Sl) [.slice (some ⟨aj, 0, none⟩) 2 2] := MutL.lit bn rfl yv cc
  refine zzx ?_
  obtain ⟨aT, ab, ba, aZ⟩ := id (hN.ext (aH.trans au))
  have hnl28 := NodesB.len (hN.ext (aH.trans au))
  refine sy_appM 82 (T := 70) (E := 150) (z := .agg #[.slice none 0 0]) (size := 1) (bytes := 24) (b2 := bk) (off := 0) (m := 1) X (aT.map Sl.v) [.slice (some ⟨aj, 0, none⟩) 2 2] ab xj xj xj yz rfl (lit_news ((Ext.refl _).cells bn)) (sl_one (⟨some ⟨aj, 0, none⟩, 2, 2⟩ : Sl)) yz yv xq (fun bq u28 aO bZ am bA => ?_)
  have hN29 := NodesB.snoc (ts := [(⟨(((L).set (i - 1) ((((1 + x.n) + x.n) - i : Nat) : Int)).getD i 0), Nt.p2i W.f⟩ : TL), (⟨(i : Int), -(l.getD (i - 1) 0)⟩ : TL)]) ab ba aZ (aV.ext au) (fun a ha hc => by injection ha with ha; subst ha; have h9 : bX < _ := MutL.lt (hX) rfl; have h8 : aj = bX := hc; omega) am aO
  have eT30 := ExtX.t am ab
  have eT30r := ExtX.root am ab (ao.trans (aH.trans au))
  have hk31 := MutL.extT (hX.ext (aH.trans au)) eT30 yz
  have hN29l := NodesB.len hN29
  simp only [List.length_append, List.length_cons, List.length_nil, Nt.ndA_len] at hN29l
  refine zza 83 (.adr 13 9) (zzj ⟨72, [.int .i64 D.b, .int .i64 D.f, .int .i64 D.r, .int .i64 D.o, .int .i64 W.b, .int .i64 W.f, .int .i64 W.r, .int .i64 W.o, .int .i64 x.n, bq.v, .slice (some ⟨bX, 0, none⟩) x.n x.n, .int .i64 (3 * x.n + 1 : Nat)]⟩ ty70 ?_)
  refine zzx ?_
  refine zzp (zzf (zza 51 (zI i) (zyq 52 (x := zI (IntKind.i64.wrap ((i : Int) - 1))) (zI (i - 1 : Nat)) (eqI yq) (zza 15 (zI (i - 1 : Nat)) (zzx ?_)))))
  refine ⟨_, ?_, _, by exact zzv _ _ _, i - 1, bX, bq, (L).set (i - 1) ((((1 + x.n) + x.n) - i : Nat) : Int), rfl, by omega, (by rw [List.length_set]; exact hL), (Nt.fwd_set hL hF xq hi xq), rfl, eT30r, (Nt.ndA_step hN29 xq hi (by rw [Nt.getD_setI _ _ _ _ xq, if_neg xq]; exact hF i (Nat.le_refl _) hi) rfl), hk31⟩
  omega
 have qhb22 := of_decide_eq_false ae
 refine zyc (zzp (zzd ?_))
 have bm : i = 0 := by omega
 have hN0 := hN
 rw [bm, Nat.sub_zero] at hN0
 have hF0 := hF
 rw [bm] at hF0
 clear hF
 refine zzf (zza 84 (zI x.n) (zyq 85 (x := zI (IntKind.i64.wrap ((x.n : Int) + 1))) (zI (x.n + 1 : Nat)) (eqI yq) (sy_make 86 (T := 22) (E := 3) (z := .int .i64 0) (size := 1) (bytes := 8) (x.n + 1) (ics (List.replicate (x.n + 1) 0)) xj xj rfl rfl xq yv (made_ints _) ?_)))
 refine zza 16 (.slc 86 0 (x.n + 1) (x.n + 1)) (zzc 165 [(0, .v (x.v)), (1, .v (y.v)), (8, .adr 8 0), (11, zI x.n), (12, zI (Nt.p2i W.f)), (13, .adr 13 0), (14, .slc 47 0 (x.n + 1) (x.n + 1)), (16, .slc 86 0 (x.n + 1) (x.n + 1))] [(8, ⟨72, [.int .i64 0, .int .i64 0, .int .i64 0, .int .i64 0, .int .i64 0, .int .i64 0, .int .i64 0, .int .i64 0, .int .i64 0, .slice none 0 0, .slice none 0 0, .int .i64 0]⟩), (13, ⟨72, [.int .i64 D.b, .int .i64 D.f, .int .i64 D.r, .int .i64 D.o, .int .i64 W.b, .int .i64 W.f, .int .i64 W.r, .int .i64 W.o, .int .i64 x.n, X.v, .slice (some ⟨bX, 0, none⟩) x.n x.n, .int .i64 (3 * x.n + 1 : Nat)]⟩), (47, ⟨3, ics L⟩), (86, ⟨3, ics (List.replicate (x.n + 1) 0)⟩)] (sq9 (zza 87 (.slc 86 0 (x.n + 1) (x.n + 1)) (zza 88 (.slc 47 0 (x.n + 1) (x.n + 1)) (zyw 89 (off' := 0 * 1) (n := x.n + 1) (off := 0) (sz := 1) (i := 0) sl22 xq xq xq ?_)))))
 refine zzi 90 (V := ⟨3, ics L⟩) (off := 0 * 1) (zI (L.getD 0 0)) ty3 (part_ints (L := L) (i := 0) zj rfl) (zyw 91 (off' := 0 * 1) (n := x.n + 1) (off := 0) (sz := 1) (i := 0) sl22 xq xq xq ?_)
 refine zyv (V := ⟨3, ics (List.replicate (x.n + 1) 0)⟩) (off := 0 * 1) (ics ((List.replicate (x.n + 1) 0).set 0 (L.getD 0 0))) ty3 (by rw [zwj]; first | omega | (simp; done) | (simp; omega)) (setL_ints (z := (L.getD 0 0)) (i := 0) zj rfl) ?_
 refine zzc 165 [(0, .v (x.v)), (1, .v (y.v)), (8, .adr 8 0), (11, zI x.n), (12, zI (Nt.p2i W.f)), (13, .adr 13 0), (14, .slc 47 0 (x.n + 1) (x.n + 1)), (16, .slc 86 0 (x.n + 1) (x.n + 1))] [(8, ⟨72, [.int .i64 0, .int .i64 0, .int .i64 0, .int .i64 0, .int .i64 0, .int .i64 0, .int .i64 0, .int .i64 0, .int .i64 0, .slice none 0 0, .slice none 0 0, .int .i64 0]⟩), (13, ⟨72, [.int .i64 D.b, .int .i64 D.f, .int .i64 D.r, .int .i64 D.o, .int .i64 W.b, .int .i64 W.f, .int .i64 W.r, .int .i64 W.o, .int .i64 x.n, X.v, .slice (some ⟨bX, 0, none⟩) x.n x.n, .int .i64 (3 * x.n + 1 : Nat)]⟩), (47, ⟨3, ics L⟩), (86, ⟨3, ics ((List.replicate (x.n + 1) 0).set 0 (L.getD 0 0))⟩)] (zzd (zzz [0, 1, 3, 0, 8, 24, 63, 127, 255, 0, 1023] [(0, []), (1, []), (2, []), (3, []), (4, []), (5, []), (6, []), (9, []), (7, [99]), (8, []), (10, [])] xj xj (zza 92 (.slc 47 0 (x.n + 1) (x.n + 1)) (zyw 93 (off' := 0 * 1) (n := x.n + 1) (off := 0) (sz := 1) (i := 0) sl22 xq xq xq ?_))))
 refine zzi 94 (V := ⟨3, ics L⟩) (off := 0 * 1) (zI (L.getD 0 0)) ty3 (part_ints (L := L) (i := 0) zj rfl) (zza 95 (.v (y.v)) ?_)
 have hl32 := ((hy.ext ao)).1
 obtain ⟨b32, bl, aX, a9⟩ := ints_at (hy.ext ao) (i := 0) xq
 have hz32 := ints_bd hbm xq 0
 refine zya 96 (bl + 0 * 1) (n := y.n) (off := bl) (sz := 1) (i := 0) xq aX xq xq sl22 (zyl 97 (.int .i64 (m.getD 0 0)) a9 ty3 (zza 98 (.v (.agg #[.int .i64 (L.getD 0 0), .int .i64 (m.getD 0 0)])) (zzk 17 ⟨150, [.slice none 0 0]⟩ (sy_dataN 99 ⟨147, [.int .i64 (L.getD 0 0), .int .i64 (m.getD 0 0)]⟩ 1 (fun ar bY a5 b4 ce bC => ?_)))))
 have aC : MutL 2 147 u.heap.size bY (⟨some ⟨ar, 0, none⟩, 1, 1⟩ : Sl) (tcs [(⟨(L.getD 0 0), (m.getD 0 0)⟩ : TL)]) := MutL.lit b4 rfl yv ce
 refine zza 100 (.v (.agg #[.slice (some ⟨ar, 0, none⟩) 1 1])) (zzj ⟨150, [.slice (some ⟨ar, 0, none⟩) 1 1]⟩ ty150 ?_)
 refine zzc 165 [(0, .v (x.v)), (1, .v (y.v)), (8, .adr 8 0), (11, zI x.n), (12, zI (Nt.p2i W.f)), (13, .adr 13 0), (14, .slc 47 0 (x.n + 1) (x.n + 1)), (16, .slc 86 0 (x.n + 1) (x.n + 1)), (17, .adr 17 0)] [(8, ⟨72, [.int .i64 0, .int .i64 0, .int .i64 0, .int .i64 0, .int .i64 0, .int .i64 0, .int .i64 0, .int .i64 0, .int .i64 0, .slice none 0 0, .slice none 0 0, .int .i64 0]⟩), (13, ⟨72, [.int .i64 D.b, .int .i64 D.f, .int .i64 D.r, .int .i64 D.o, .int .i64 W.b, .int .i64 W.f, .int .i64 W.r, .int .i64 W.o, .int .i64 x.n, X.v, .slice (some ⟨bX, 0, none⟩) x.n x.n, .int .i64 (3 * x.n + 1 : Nat)]⟩), (17, ⟨150, [.slice (some ⟨ar, 0, none⟩) 1 1]⟩), (47, ⟨3, ics L⟩), (86, ⟨3, ics ((List.replicate (x.n + 1) 0).set 0 (L.getD 0 0))⟩)] (zzd (zzd ?_))
 have hN1 := NodesB.excl2 hN0 a5 bC
 have hZ1 := aC
 refine zzf (zza 18 (zI 1) (zzb (zzt (zyn (I := fun bs S' u' => ∃ (i : Nat) (bX : Nat) (hz : Nat) (X : Sl) (Z : Sl) (M : List Int), (bs = x.n + 1 - i) ∧ (1 ≤ i) ∧ (i ≤ x.n + 1) ∧ (Z.a = some ⟨hz, 0, none⟩) ∧ (M.length = x.n + 1) ∧ (∀ j, j < i → M.getD j 0 = Nt.bakN x.n j) ∧ (S' = St.of 165 [(0, .v (x.v)), (1, .v (y.v)), (8, .adr 8 0), (11, zI x.n), (12, zI (Nt.p2i W.f)), (13, .adr 13 0), (14, .slc 47 0 (x.n + 1) (x.n + 1)), (16, .slc 86 0 (x.n + 1) (x.n + 1)), (17, .adr 17 0), (18, zI i)] [(8, ⟨72, [.int .i64 0, .int .i64 0, .int .i64 0, .int .i64 0, .int .i64 0, .int .i64 0, .int .i64 0, .int .i64 0, .int .i64 0, .slice none 0 0, .slice none 0 0, .int .i64 0]⟩), (13, ⟨72, [.int .i64 D.b, .int .i64 D.f, .int .i64 D.r, .int .i64 D.o, .int .i64 W.b, .int .i64 W.f, .int .i64 W.r, .int .i64 W.o, .int .i64 x.n, X.v, .slice (some ⟨bX, 0, none⟩) x.n x.n, .int .i64 (3 * x.n + 1 : Nat)]⟩), (17, ⟨150, [Z.v]⟩), (47, ⟨3, ics L⟩), (86, ⟨3, ics M⟩)]) ∧ (Ext u u') ∧ (NodesB u.heap.size hz u' X (Nt.ndB (Nt.p2i W.f) l x.n (i - 1))) ∧ (MutL 1 3 u.heap.size u' (⟨some ⟨bX, 0, none⟩, x.n, x.n⟩ : Sl) (ics (Nt.nexN x.n (i - 1)))) ∧ (MutL 2 147 u.heap.size u' Z (tcs (Nt.lasN m x.n i)))) (fun m S u1 u2 e h => by obtain ⟨i, bX, hz, X, Z, M, hm, p0, p1, p2, p3, p4, hS, hE, f0, f1, f2⟩ := h; exact ⟨i, bX, hz, X, Z, M, hm, p0, p1, p2, p3, p4, hS, hE.trans e, f0.ext e, f1.ext e, f2.ext e⟩) _ yw ⟨1, bX, ar, X, (⟨some ⟨ar, 0, none⟩, 1, 1⟩ : Sl), (List.replicate (x.n + 1) 0).set 0 (L.getD 0 0), rfl, by omega, by omega, rfl, (by rw [List.length_set]; simp), (Nt.bak_one zz (hF0 0 (Nat.zero_le _) (Nat.zero_le _))), rfl, (ao.trans a5), (by rw [Nat.sub_self]; exact (show NodesB _ _ _ _ (Nt.ndB _ _ _ 0) from (by unfold Nt.ndB; rw [show (List.range 0).map (Nt.nd2 (Nt.p2i W.f) l x.n) = [] from rfl, List.append_nil]; exact hN1))), (hX.ext a5), (Nt.las_one aC (hF0 0 (Nat.zero_le _) (Nat.zero_le _)))⟩ ?_))))
 rintro bs _ b1 ⟨i, bX, hz, X, Z, M, bQ, hi1, hi2, hZa, hM, hB, rfl, aG, aF, br, av⟩
 have hNl2 := aF.len
 rw [Nt.ndB_len] at hNl2
 have hZl := av.1
 rw [tcs_len] at hZl
 have bG : (Nt.lasN m x.n i).length = i := by unfold Nt.lasN; simp
 refine zzd (sq9 (zza 101 (zI i) (zza 102 (zI x.n) (zza 103 (zB (decide ((i : Int) ≤ (x.n : Int)))) (zzb (zzu (b := decide ((i : Int) ≤ (x.n : Int))) xj (fun ah => ?_) (fun ah => ?_)))))))
 ·have qhb36 := of_decide_eq_true ah
  refine zzs (zzp ?_)
  refine zzd (zzt (sq9 (zza 106 (.slc 86 0 (x.n + 1) (x.n + 1)) (zza 107 (zI i) (zza 108 (zI x.n) (zyq 109 (x := zI (IntKind.i64.wrap ((2 : Int) * (x.n : Int)))) (zI (2 * x.n : Nat)) (eqI yq) (zza 110 (zI i) (zyq 111 (x := zI (IntKind.i64.wrap (((2 * x.n : Nat) : Int) + (i : Int)))) (zI (((2 * x.n) + i : Nat) : Int)) (eqI yq) (zyw 112 (off' := i * 1) (n := x.n + 1) (off := 0) (sz := 1) (i := (i : Int)) sl22 xq xq xq ?_)))))))))
  refine zyv (V := ⟨3, ics M⟩) (off := i * 1) (ics ((M).set i (((2 * x.n) + i : Nat) : Int))) ty3 (by rw [zwj]; first | omega | (simp; done) | (simp; omega)) (setL_ints (z := (((2 * x.n) + i : Nat) : Int)) (i := i) zj rfl) ?_
  refine zzc 165 [(0, .v (x.v)), (1, .v (y.v)), (8, .adr 8 0), (11, zI x.n), (12, zI (Nt.p2i W.f)), (13, .adr 13 0), (14, .slc 47 0 (x.n + 1) (x.n + 1)), (16, .slc 86 0 (x.n + 1) (x.n + 1)), (17, .adr 17 0), (18, zI i)] [(8, ⟨72, [.int .i64 0, .int .i64 0, .int .i64 0, .int .i64 0, .int .i64 0, .int .i64 0, .int .i64 0, .int .i64 0, .int .i64 0, .slice none 0 0, .slice none 0 0, .int .i64 0]⟩), (13, ⟨72, [.int .i64 D.b, .int .i64 D.f, .int .i64 D.r, .int .i64 D.o, .int .i64 W.b, .int .i64 W.f, .int .i64 W.r, .int .i64 W.o, .int .i64 x.n, X.v, .slice (some ⟨bX, 0, none⟩) x.n x.n, .int .i64 (3 * x.n + 1 : Nat)]⟩), (17, ⟨150, [Z.v]⟩), (47, ⟨3, ics L⟩), (86, ⟨3, ics ((M).set i (((2 * x.n) + i : Nat) : Int))⟩)] (zzd (sw_anyC [0, 1, 0, 0, 8, 28, 60, 0, 0, 256, 896, 1920, 4092, 0, 0, 24576, 65532, 131068, 262140, 524287, 1048575, 2097151] [(0, []), (1, []), (2, []), (3, []), (4, []), (5, []), (6, []), (7, []), (8, []), (9, []), (10, []), (11, []), (12, []), (13, []), (14, []), (15, []), (16, [129]), (17, []), (18, [131])] [(19, []), (20, []), (21, [])] xj xj xj ?_))
  refine zza 113 (.adr 13 9) (zzi 114 (.v (X.v)) ty70 zzl (zza 115 (.slc 47 0 (x.n + 1) (x.n + 1)) (zza 116 (zI i) (zyq 117 (x := zI (IntKind.i64.wrap ((i : Int) - 1))) (zI (i - 1 : Nat)) (eqI yq) (zyw 118 (off' := (i - 1) * 1) (n := x.n + 1) (off := 0) (sz := 1) (i := ((i - 1 : Nat) : Int)) sl22 xq xq xq ?_)))))
  refine zzi 119 (V := ⟨3, ics L⟩) (off := (i - 1) * 1) (zI (L.getD (i - 1) 0)) ty3 (part_ints (L := L) (i := i - 1) zj rfl) (zza 120 (.v (x.v)) (zza 121 (zI i) (zyq 122 (x := zI (IntKind.i64.wrap ((i : Int) - 1))) (zI (i - 1 : Nat)) (eqI yq) ?_)))
  have hl37 := ((hx.ext aG)).1
  obtain ⟨b37, bi, a3, aK⟩ := ints_at (hx.ext aG) (i := i - 1) xq
  have hz37 := ints_bd hbl xq (i - 1)
  refine zya 123 (bi + (i - 1) * 1) (n := x.n) (off := bi) (sz := 1) (i := ((i - 1 : Nat) : Int)) xq a3 xq xq sl22 (zyl 124 (.int .i64 (l.getD (i - 1) 0)) aK ty3 (zza 125 (.v (.agg #[.int .i64 (L.getD (i - 1) 0), .int .i64 (l.getD (i - 1) 0)])) (zza 126 (zI i) (zza 127 (zI (Nt.p2i W.f)) (zza 128 (.v (.agg #[.int .i64 i, .int .i64 (Nt.p2i W.f)])) (sy_dataN 129 ⟨147, [.int .i64 (L.getD (i - 1) 0), .int .i64 (l.getD (i - 1) 0), .int .i64 i, .int .i64 (Nt.p2i W.f)]⟩ 2 (fun af cd az b8 bO g38 => ?_)))))))
  have aL : MutL 2 147 u.heap.size cd (⟨some ⟨af, 0, none⟩, 2, 2⟩ : Sl) (tcs [(⟨(L.getD (i - 1) 0), (l.getD (i - 1) 0)⟩ : TL), (⟨(i : Int), Nt.p2i W.f⟩ : TL)]) := MutL.lit b8 rfl yv bO
  refine zza 130 (.v (.agg #[.slice (some ⟨af, 0, none⟩) 2 2])) (sy_dataN 131 ⟨150, [.slice (some ⟨af, 0, none⟩) 2 2]⟩ 1 (fun bv bL ap bo bH g40 => ?_))
  have bF : MutL 1 150 u.heap.size bL (⟨some ⟨bv, 0, none⟩, 1, 1⟩ : Sl) [.slice (some ⟨af, 0, none⟩) 2 2] := MutL.lit bo rfl yv bH
  refine zzx ?_
  obtain ⟨aM, ac, aN, a1⟩ := id (aF.ext (az.trans ap))
  have hnl42 := NodesB.len (aF.ext (az.trans ap))
  refine sy_appM 132 (T := 70) (E := 150) (z := .agg #[.slice none 0 0]) (size := 1) (bytes := 24) (b2 := bv) (off := 0) (m := 1) X (aM.map Sl.v) [.slice (some ⟨af, 0, none⟩) 2 2] ac xj xj xj yz rfl (lit_news ((Ext.refl _).cells bo)) (sl_one (⟨some ⟨af, 0, none⟩, 2, 2⟩ : Sl)) yz yv xq (fun aD u42 aP bV al bx => ?_)
  have hN43 := NodesB.snoc (ts := [(⟨(L.getD (i - 1) 0), (l.getD (i - 1) 0)⟩ : TL), (⟨(i : Int), Nt.p2i W.f⟩ : TL)]) ac aN a1 (aL.ext ap) (fun a ha hc => by injection ha with ha; subst ha; have h9 : hz < _ := MutL.lt av hZa; have h8 : af = hz := hc; omega) al aP
  have eT44 := ExtX.t al ac
  have eT44r := ExtX.root al ac (aG.trans (az.trans ap))
  have hk45 := MutL.extT (br.ext (az.trans ap)) eT44 yz
  have hk46 := MutL.extT (av.ext (az.trans ap)) eT44 yz
  have hN43l := NodesB.len hN43
  simp only [List.length_append, List.length_cons, List.length_nil, Nt.ndB_len] at hN43l
  refine zza 133 (.adr 13 9) (zzj ⟨72, [.int .i64 D.b, .int .i64 D.f, .int .i64 D.r, .int .i64 D.o, .int .i64 W.b, .int .i64 W.f, .int .i64 W.r, .int .i64 W.o, .int .i64 x.n, aD.v, .slice (some ⟨bX, 0, none⟩) x.n x.n, .int .i64 (3 * x.n + 1 : Nat)]⟩ ty70 ?_)
  refine zzc 165 [(0, .v (x.v)), (1, .v (y.v)), (8, .adr 8 0), (11, zI x.n), (12, zI (Nt.p2i W.f)), (13, .adr 13 0), (14, .slc 47 0 (x.n + 1) (x.n + 1)), (16, .slc 86 0 (x.n + 1) (x.n + 1)), (17, .adr 17 0), (18, zI i)] [(8, ⟨72, [.int .i64 0, .int .i64 0, .int .i64 0, .int .i64 0, .int .i64 0, .int .i64 0, .int .i64 0, .int .i64 0, .int .i64 0, .slice none 0 0, .slice none 0 0, .int .i64 0]⟩), (13, ⟨72, [.int .i64 D.b, .int .i64 D.f, .int .i64 D.r, .int .i64 D.o, .int .i64 W.b, .int .i64 W.f, .int .i64 W.r, .int .i64 W.o, .int .i64 x.n, aD.v, .slice (some ⟨bX, 0, none⟩) x.n x.n, .int .i64 (3 * x.n + 1 : Nat)]⟩), (17, ⟨150, [Z.v]⟩), (47, ⟨3, ics L⟩), (86, ⟨3, ics ((M).set i (((2 * x.n) + i : Nat) : Int))⟩)] (zzd (sw_anyC [0, 1, 0, 0, 12, 28, 0, 0, 192, 448, 1020, 2044, 4095, 8191, 16383] [(0, []), (1, []), (2, []), (3, []), (4, []), (5, []), (6, []), (7, []), (8, []), (9, []), (10, []), (11, [145])] [(12, []), (13, []), (14, [])] xj xj xj ?_))
  refine zza 134 (.adr 17 0) (zzi 135 (.v (Z.v)) ty148 zzl (zza 136 (.slc 86 0 (x.n + 1) (x.n + 1)) (zza 137 (zI i) (zyw 138 (off' := i * 1) (n := x.n + 1) (off := 0) (sz := 1) (i := (i : Int)) sl22 xq xq xq ?_))))
  refine zzi 139 (V := ⟨3, ics ((M).set i (((2 * x.n) + i : Nat) : Int))⟩) (off := i * 1) (zI (((M).set i (((2 * x.n) + i : Nat) : Int)).getD i 0)) ty3 (part_ints (L := (M).set i (((2 * x.n) + i : Nat) : Int)) (i := i) zj rfl) (zza 140 (.v (y.v)) (zza 141 (zI i) ?_))
  have hl47 := ((hy.ext eT44r)).1
  obtain ⟨b47, bw, aU, aY⟩ := ints_at (hy.ext eT44r) (i := i) xq
  have hz47 := ints_bd hbm xq i
  refine zya 142 (bw + i * 1) (n := y.n) (off := bw) (sz := 1) (i := (i : Int)) xq aU xq xq sl22 (zyl 143 (.int .i64 (m.getD i 0)) aY ty3 (zza 144 (.v (.agg #[.int .i64 (((M).set i (((2 * x.n) + i : Nat) : Int)).getD i 0), .int .i64 (m.getD i 0)])) (sy_dataN 145 ⟨147, [.int .i64 (((M).set i (((2 * x.n) + i : Nat) : Int)).getD i 0), .int .i64 (m.getD i 0)]⟩ 1 (fun bu bz ak bp bE g48 => ?_))))
  have bW : MutL 2 147 u.heap.size bz (⟨some ⟨bu, 0, none⟩, 1, 1⟩ : Sl) (tcs [(⟨(((M).set i (((2 * x.n) + i : Nat) : Int)).getD i 0), (m.getD i 0)⟩ : TL)]) := MutL.lit bp rfl yv bE
  refine zzx ?_
  refine sy_appM 146 (T := 148) (E := 147) (z := .agg #[.int .i64 0, .int .i64 0]) (size := 2) (bytes := 16) (b2 := bu) (off := 0) (m := 1) Z (tcs (Nt.lasN m x.n i)) [.int .i64 (((M).set i (((2 * x.n) + i : Nat) : Int)).getD i 0), .int .i64 (m.getD i 0)] (hk46.ext ak) xj xj xj yz rfl (lit_news ((Ext.refl _).cells bp)) (tl_one (⟨(((M).set i (((2 * x.n) + i : Nat) : Int)).getD i 0), (m.getD i 0)⟩ : TL)) yz yv xq (fun aE b3 aB bN ag aJ => ?_)
  obtain ⟨a0, ad⟩ := MutL.addr aB xq
  have eT52 := ExtX.t ag (hk46.ext ak)
  have eT52r := ExtX.root ag (hk46.ext ak) (eT44r.trans ak)
  have hk53 := MutL.extT (hk45.ext ak) eT52 yz
  have hk54 := NodesB.termStep (hN43.ext ak) (hk46.ext ak) (blk_of hZa) ag ad aJ
  have bb : MutL 2 147 u.heap.size b3 aE (tcs ((Nt.lasN m x.n i) ++ [(⟨(((M).set i (((2 * x.n) + i : Nat) : Int)).getD i 0), (m.getD i 0)⟩ : TL)])) := by rw [tcs_app]; exact aB
  refine zza 147 (.adr 17 0) (zzj ⟨150, [aE.v]⟩ ty148 ?_)
  refine zzc 165 [(0, .v (x.v)), (1, .v (y.v)), (8, .adr 8 0), (11, zI x.n), (12, zI (Nt.p2i W.f)), (13, .adr 13 0), (14, .slc 47 0 (x.n + 1) (x.n + 1)), (16, .slc 86 0 (x.n + 1) (x.n + 1)), (17, .adr 17 0), (18, zI i)] [(8, ⟨72, [.int .i64 0, .int .i64 0, .int .i64 0, .int .i64 0, .int .i64 0, .int .i64 0, .int .i64 0, .int .i64 0, .int .i64 0, .slice none 0 0, .slice none 0 0, .int .i64 0]⟩), (13, ⟨72, [.int .i64 D.b, .int .i64 D.f, .int .i64 D.r, .int .i64 D.o, .int .i64 W.b, .int .i64 W.f, .int .i64 W.r, .int .i64 W.o, .int .i64 x.n, aD.v, .slice (some ⟨bX, 0, none⟩) x.n x.n, .int .i64 (3 * x.n + 1 : Nat)]⟩), (17, ⟨150, [aE.v]⟩), (47, ⟨3, ics L⟩), (86, ⟨3, ics ((M).set i (((2 * x.n) + i : Nat) : Int))⟩)] (sw_anyC [0, 1, 0, 4, 0, 0, 32, 112, 240, 511, 1023] [(0, []), (1, []), (2, []), (3, []), (4, []), (5, []), (6, []), (7, []), (8, [])] [(9, []), (10, [])] xj xj xj ?_)
  refine zza 148 (.adr 13 10) (zzi 149 (.v (.slice (some ⟨bX, 0, none⟩) x.n x.n)) ty22 zzl (zza 150 (zI i) (zyq 151 (x := zI (IntKind.i64.wrap ((i : Int) - 1))) (zI (i - 1 : Nat)) (eqI yq) (zza 152 (.slc 86 0 (x.n + 1) (x.n + 1)) (zza 153 (zI i) (zyq 154 (x := zI (IntKind.i64.wrap ((i : Int) - 1))) (zI (i - 1 : Nat)) (eqI yq) (zyw 155 (off' := (i - 1) * 1) (n := x.n + 1) (off := 0) (sz := 1) (i := ((i - 1 : Nat) : Int)) sl22 xq xq xq ?_)))))))
  refine zzi 156 (V := ⟨3, ics ((M).set i (((2 * x.n) + i : Nat) : Int))⟩) (off := (i - 1) * 1) (zI (((M).set i (((2 * x.n) + i : Nat) : Int)).getD (i - 1) 0)) ty3 (part_ints (L := (M).set i (((2 * x.n) + i : Nat) : Int)) (i := i - 1) zj rfl) (zzx ?_)
  obtain ⟨b55, aw, ay⟩ := MutL.cell (j := i - 1) hk53 (by rw [zwj]; rw [Nt.nexN_len]; omega)
  rw [ics_at (by rw [Nt.nexN_len]; omega)] at ay
  rw [show 0 + (i - 1) = 0 + (i - 1) * 1 by rw [Nat.mul_one]] at ay
  refine zya 157 (0 + (i - 1) * 1) (n := x.n) (off := 0) (sz := 1) (i := ((i - 1 : Nat) : Int)) xq aw xq xq sl22 (sy_storeM (z := (((M).set i (((2 * x.n) + i : Nat) : Int)).getD (i - 1) 0)) (i := i - 1) (l := (Nt.nexN x.n (i - 1))) (⟨some ⟨bX, 0, none⟩, x.n, x.n⟩ : Sl) hk53 aw ty3 (by rw [Nt.nexN_len]; omega) (fun u56 a8 ax => ?_))
  have eT57 := ExtX.t ax hk53
  have eT57r := ExtX.root ax hk53 eT52r
  have hk58 := NodesB.extT hk54 eT57 yz yz
  have hk59 := MutL.extT bb eT57 yz
  refine zzx ?_
  refine zzp (zzf (zza 104 (zI i) (zyq 105 (x := zI (IntKind.i64.wrap ((i : Int) + 1))) (zI (i + 1 : Nat)) (eqI yq) (zza 18 (zI (i + 1 : Nat)) (zzx ?_)))))
  refine ⟨_, ?_, _, by exact zzv _ _ _, i + 1, bX, a0, aD, aE, (M).set i (((2 * x.n) + i : Nat) : Int), rfl, by omega, by omega, ad, (by rw [List.length_set]; exact hM), (Nt.bak_set hM hB xq xq xq), rfl, eT57r, (by rw [Nat.add_sub_cancel]; exact Nt.ndB_step hk58 xq (hF0 _ (Nat.zero_le _) xq) rfl), (by rw [Nat.add_sub_cancel]; have h9 := a8; rw [Nt.nexN_set xq (by rw [Nt.getD_setI _ _ _ _ xq, if_neg xq]; exact hB _ xq), show i - 1 + 1 = i by omega] at h9; exact h9), (Nt.las_step hk59 (by rw [Nt.getD_setI _ _ _ _ xq, if_pos rfl]; unfold Nt.bakN; rw [if_neg xq]) rfl)⟩
  omega
 have qhb36 := of_decide_eq_false ah
 refine zyc (zzp (zzd ?_))
 have be : i = x.n + 1 := by omega
 have hNe := NodesB.excl aF (Nat.le_refl _)
 have hZo := MutL.off av (Nat.le_refl _)
 refine zzf (zza 158 (.adr 13 9) (zzi 159 (.v (X.v)) ty70 zzl (zzi 160 (.v (.agg #[Z.v])) ty150 zze (sy_dataF 161 ⟨150, [Z.v]⟩ 1 (fun bt bT aA bf bB g60 => ?_)))))
 have cb : MutL 1 150 u.heap.size bT (⟨some ⟨bt, 0, none⟩, 1, 1⟩ : Sl) [.slice Z.a Z.n Z.c] := MutL.lit bf rfl yv bB
 obtain ⟨a2, aa, aW, a6⟩ := id (hNe.ext aA)
 have hnl62 := NodesB.len (hNe.ext aA)
 refine sy_appM 162 (T := 70) (E := 150) (z := .agg #[.slice none 0 0]) (size := 1) (bytes := 24) (b2 := bt) (off := 0) (m := 1) X (a2.map Sl.v) [Z.v] aa xj xj xj yz rfl (lit_news ((Ext.refl _).cells bf)) (sl_one Z) yz yv xq (fun an u62 aR bP ai bI => ?_)
 have hN63 := NodesB.snoc (ts := (Nt.lasN m x.n i)) aa aW a6 (av.ext aA) hZo ai aR
 have eT64 := ExtX.t ai aa
 have eT64r := ExtX.root ai aa (aG.trans aA)
 have hk65 := MutL.extT (br.ext aA) eT64 yz
 have hN63l := NodesB.len hN63
 simp only [List.length_append, List.length_cons, List.length_nil, Nt.ndB_len] at hN63l
 refine zza 163 (.adr 13 9) (zzj ⟨72, [.int .i64 D.b, .int .i64 D.f, .int .i64 D.r, .int .i64 D.o, .int .i64 W.b, .int .i64 W.f, .int .i64 W.r, .int .i64 W.o, .int .i64 x.n, an.v, .slice (some ⟨bX, 0, none⟩) x.n x.n, .int .i64 (3 * x.n + 1 : Nat)]⟩ ty70 ?_)
 refine zzc 165 [(8, .adr 8 0), (13, .adr 13 0)] [(8, ⟨72, [.int .i64 0, .int .i64 0, .int .i64 0, .int .i64 0, .int .i64 0, .int .i64 0, .int .i64 0, .int .i64 0, .int .i64 0, .slice none 0 0, .slice none 0 0, .int .i64 0]⟩), (13, ⟨72, [.int .i64 D.b, .int .i64 D.f, .int .i64 D.r, .int .i64 D.o, .int .i64 W.b, .int .i64 W.f, .int .i64 W.r, .int .i64 W.o, .int .i64 x.n, an.v, .slice (some ⟨bX, 0, none⟩) x.n x.n, .int .i64 (3 * x.n + 1 : Nat)]⟩)] (sq9 (zzi 164 (.v (.agg #[.int .i64 D.b, .int .i64 D.f, .int .i64 D.r, .int .i64 D.o, .int .i64 W.b, .int .i64 W.f, .int .i64 W.r, .int .i64 W.o, .int .i64 x.n, an.v, .slice (some ⟨bX, 0, none⟩) x.n x.n, .int .i64 (3 * x.n + 1 : Nat)])) ty72 zze (zzj ⟨72, [.int .i64 D.b, .int .i64 D.f, .int .i64 D.r, .int .i64 D.o, .int .i64 W.b, .int .i64 W.f, .int .i64 W.r, .int .i64 W.o, .int .i64 x.n, an.v, .slice (some ⟨bX, 0, none⟩) x.n x.n, .int .i64 (3 * x.n + 1 : Nat)]⟩ ty72 ?_)))
 refine zza 9 (zI 0) (zzb (zzo (ret0 [.agg #[.int .i64 D.b, .int .i64 D.f, .int .i64 D.r, .int .i64 D.o, .int .i64 W.b, .int .i64 W.f, .int .i64 W.r, .int .i64 W.o, .int .i64 x.n, an.v, .slice (some ⟨bX, 0, none⟩) x.n x.n, .int .i64 (3 * x.n + 1 : Nat)], .int .i64 0] ⟨zzr ty72 zze, zzq, trivial⟩ fun u66 bj => ?_)))
 refine ⟨an, (⟨some ⟨bX, 0, none⟩, x.n, x.n⟩ : Sl), ?_, ⟨b1.heap.size, ?_⟩, ?_⟩
 ·rw [hlx]
  rfl
 ·have h9 := NodesB.low (hN63.ext bj) (Nat.zero_le _)
  rw [be, Nat.add_sub_cancel] at h9
  rw [hlx]; exact h9
 have h9 := MutL.low (hk65.ext bj) (Nat.zero_le _)
 rw [be, Nat.add_sub_cancel] at h9
 rw [hlx]; exact h9
set_option maxHeartbeats 1000000 in
theorem k_sameFilt {u w : World} {x1 y1 x2 y2 : Sl} {l m : List Rat} {K : Nat} (d : Dat u w) (hx1 : PolN u x1 l K) (hy1 : PolN u y1 m K) (hx2 : PolN u x2 l K) (hy2 : PolN u y2 m K) (hK : K ≤ 1000000) (h8 : l.length ≤ 1000) (h9 : m.length ≤ 1000) : Calls Tryz.prog 47 #[.agg #[x1.v, y1.v], .agg #[x2.v, y2.v]] w (Post u w fun v u' => v = .bool true) := by
 have hl1 := hx1.len
 have hl2 := hx2.len
 have hl3 := hy1.len
 have hl4 := hy2.len
 refine zzm (args := [.agg #[x1.v, y1.v], .agg #[x2.v, y2.v]]) Tryz.func47 rfl Tryz.ntmps47 (rs := [.tmp 4]) Tryz.results47 (le_b rfl) (le_b rfl) d ?_
 refine sq9 (zzk 2 ⟨81, [x1.v, y1.v]⟩ (zzk 3 ⟨81, [x2.v, y2.v]⟩ (zza 4 (zB false) (zzb (sq9 (zza 5 (.adr 2 0) (zzi 6 (.v (x1.v)) ty27 zzl (zza 7 (.adr 3 0) (zzi 8 (.v (x2.v)) ty27 zzl (zzg 9 37 _ fun _ _ aa ad => Post.mono (k_r5Same ad (hx1.ext aa).raw (hx2.ext aa).raw xq xq xk xk) ?_))))))))))
 rintro _ u12 ac rfl
 refine zyq 10 (x := zB (decide (Nt.trimQ l = Nt.trimQ l))) (zB true) (by rw [show (decide (Nt.trimQ l = Nt.trimQ l)) = true from decide_eq_true rfl]) (zza 11 (.adr 2 1) ?_ (hw := w1 5 true 10))
 refine zzi 12 (.v (y1.v)) ty27 zzl ?_ (hw := w1 5 true 10)
 refine zza 13 (.adr 3 1) ?_ (hw := w1 5 true 10)
 refine zzi 14 (.v (y2.v)) ty27 zzl ?_ (hw := w1 5 true 10)
 refine zzg 15 37 _ (fun _ _ ab ae => Post.mono (k_r5Same ae (hy1.ext (aa.t (ac.t ab))).raw (hy2.ext (aa.t (ac.t ab))).raw xq xq xk xk) ?_) (hw := w1 5 true 10)
 rintro _ u17 g18 rfl
 refine zza 16 (zB (decide (Nt.trimQ m = Nt.trimQ m))) (zza 4 (zB (decide (Nt.trimQ m = Nt.trimQ m))) (zzb (zzo (ret0 [.bool (decide (Nt.trimQ m = Nt.trimQ m))] ⟨zzq, trivial⟩ fun u20 e21 => ?_))))
 show Value.bool _ = Value.bool _
 rw [show (decide (Nt.trimQ m = Nt.trimQ m)) = true from decide_eq_true rfl]
namespace Nt
structure WS where
 N : List (List TL)
 s : List Int
 f : Nat
 u : Int
variable {n : Nat} {U : Int} {L : List PL} {st : WS}
end Nt
namespace Nt
section
variable {D W : WL} {N : List (List TL)} {nx : List Int} {q : Int} {s k i j m : Nat} {P Q : List Rat}
theorem net_flb (hok : NetOK D W s N nx q) (hs : s ≤ 16) : FlB s (lnA (UQ W.f) N s nx) (lnB (UQ W.f) N s nx) (lnC (UQ W.f) N s q) ((p2i W.f).toNat ^ N.length) (30 * N.length) :=
 ⟨hs, (p_pow hok _).1, (p_pow hok _).2, fun i j => val_wd hok (j + 1) _ (Nat.le_refl _) _, fun i => val_wd hok 0 _ (Nat.le_refl _) _, fun i => val_wd hok (i + 1) _ (Nat.le_refl _) _⟩
theorem co_flB {n : Nat} {A : Nat → Nat → Rat} (k : Nat) : co (flBl n A) k = if k ≤ n then flC n A k else 0 := by
 by_cases h : k ≤ n
 ·rw [if_pos h]; exact flR_at xq
 rw [if_neg h]; exact co_ge (by rw [flBl_len]; omega)
theorem co_flA {n : Nat} {A : Nat → Nat → Rat} {B C : Nat → Rat} (k : Nat) : co (flAl n A B C) k = if k ≤ n then flAt n A B C k else 0 := by
 by_cases h : k ≤ n
 ·rw [if_pos h]; exact flR_at xq
 rw [if_neg h]; exact co_ge (by rw [flAl_len]; omega)
structure TrOK (W : WL) (N : List (List TL)) (s : Nat) (nx : List Int) (q : Int) (P Q : List Rat) : Prop where
 flb : FlB s (lnA (UQ W.f) N s nx) (lnB (UQ W.f) N s nx) (lnC (UQ W.f) N s q) ((p2i W.f).toNat ^ N.length) (30 * N.length)
 hl : N.length ≤ 64
 den : trimQ (flBl s (lnA (UQ W.f) N s nx)) = trimQ Q
 num : trimQ (addQ (flAl s (lnA (UQ W.f) N s nx) (lnB (UQ W.f) N s nx) (lnC (UQ W.f) N s q)) (trimQ ((flBl s (lnA (UQ W.f) N s nx)).map (· * lnD (UQ W.f) N s q)))) = trimQ P
theorem tr_ok (hok : NetOK D W s N nx q) (hs : s ≤ 16) (hp : ∀ k, k ≤ s → flC s (lnA (UQ W.f) N s nx) k = co Q k) (hQ : ∀ k, s < k → co Q k = 0) (hP : ∀ k, s < k → co P k = 0) (hh : ∀ V, Imp (UQ W.f) N s nx V → ∀ k, k ≤ s → cv (co Q) (fun t => V t q.toNat) k = co P k) : TrOK W N s nx q P Q := by
 obtain ⟨_, _, _, hNl, hnl, _, hnx, hq⟩ := id hok
 refine ⟨net_flb hok hs, hNl, trim_ext fun k => ?_, trim_ext fun k => ?_⟩
 ·rw [co_flB]
  by_cases h : k ≤ s
  ·rw [if_pos h]; exact hp k h
  rw [if_neg h]; exact (hQ k xq).symm
 have h9 := fl_transfer (U := UQ W.f) (b := co P) (Back.of hok) (fun i hi => by have := hnx i xq; omega) xq hp hh
 rw [addQ_co, trim_co, co_map (fun x => x * lnD (UQ W.f) N s q) (Rat.zero_mul _), co_flA, co_flB]
 by_cases h : k ≤ s
 ·rw [if_pos h, if_pos h]; exact h9 k h
 rw [if_neg h, if_neg h, hP k xq]; grind
end
end Nt
theorem k_nTransferL {u w : World} {W : WL} {s : Nat} {N : List (List TL)} {nx : List Int} {q : Int} {P Q : List Rat} {x y z : Sl} {r : RL} {Ra : List Sl} (d : Dat u w) (hA : MatV u x s Ra (fun i => rowL s ((Nt.lnA (Nt.UQ W.f) N s nx) i)) 100) (hB : PolN u y (rowL s (Nt.lnB (Nt.UQ W.f) N s nx)) 100) (hC : PolN u z (rowL s (Nt.lnC (Nt.UQ W.f) N s q)) 100) (hr : RatN u r (Nt.lnD (Nt.UQ W.f) N s q) 100) (h : Nt.TrOK W N s nx q P Q) : Calls Tryz.prog 43 #[.agg #[x.v, y.v, z.v, .bool r.s, .slice r.m.a r.m.n r.m.c, .slice r.d.a r.d.n r.d.c]] w (Post u w fun v u' => ∃ p q : Sl, v = .tuple #[.agg #[p.v, q.v], .int .i64 0] ∧ PolN u' p (Nt.trimQ P) 10000 ∧ PolN u' q (Nt.trimQ Q) 10000) := by
 have k := k_nTransfer d hA hB hC hr yz h.flb (by have := h.hl; omega)
 rw [h.num, h.den] at k
 exact k
instance {k : Nat} {L : List (List Int)} : Decidable (OkR k L) := by unfold OkR; exact inferInstance
instance {k : Nat} {L : List (List Int)} : Decidable (Rows k L) := by unfold Rows; exact inferInstance
set_option maxHeartbeats 1000000 in
theorem k_wordD {u w : World} {k : Int} (d : Dat u w) (hk0 : -9223372036854775808 ≤ k) (hk1 : k ≤ 9223372036854775807) : Calls Tryz.prog 99 #[.int .i64 k, .int .i64 6, .int .i64 12, .int .i64 2] w (Post u w fun v _ => ∃ W : WL, v = W.v ∧ WdOK W ∧ 6 ≤ W.b ∧ W.b ≤ 12) := by
 refine zzm (args := [.int .i64 k, .int .i64 6, .int .i64 12, .int .i64 2]) Tryz.func99 rfl Tryz.ntmps99 (rs := [.cell 8 66]) Tryz.results99 (le_b rfl) (le_b rfl) d ?_
 refine sq9 (zzk 8 ⟨66, [.int .i64 0, .int .i64 0, .int .i64 0, .int .i64 0]⟩ (zzb (sq9 (zza 10 (zI k) (zzg 11 100 _ fun _ _ _ ab => Post.mono ((show Calls _ _ #[.int .i64 k, .int .i64 1099511627776] _ _ from k_withinB (n := k) (m := 1099511627776) ab xq xq xq xq)) ?_)))))
 rintro _ u15 g16 ⟨aa, rfl, h13, h14⟩
 refine zza 0 (zI aa) (zzb (sq9 (zza 12 (zI 6) (zza 13 (zI aa) (zza 14 (zI 12) (zza 15 (zI 6) (zza 16 (zI 6) (zza 17 (zI 7) (sy_rem 18 (n := aa) (m := 7) (aa % 7) yz (Int.tmod_eq_emod_of_nonneg xq) ?_)))))))))
 refine zyq 19 (x := zI (IntKind.i64.wrap ((6 : Int) + (aa % 7)))) (zI ((6 : Int) + (aa % 7))) zq (zza 20 (.v (.agg #[.int .i64 ((6 : Int) + (aa % 7)), .int .i64 0, .int .i64 0, .int .i64 0])) (zzk 9 ⟨66, [.int .i64 0, .int .i64 0, .int .i64 0, .int .i64 0]⟩ (zzj ⟨66, [.int .i64 ((6 : Int) + (aa % 7)), .int .i64 0, .int .i64 0, .int .i64 0]⟩ ty66 ?_)))
 refine zzb (sq9 (zza 21 (zI aa) (zza 22 (zI 12) (zza 23 (zI 6) (zza 24 (zI 6) (zza 25 (zI 7) (sy_quo 26 (n := aa) (m := 7) (aa / 7) yz (by rw [Int.tdiv_eq_ediv_of_nonneg xq]; exact IntWalk.i64_in _ xq) ?_)))))))
 refine zza 0 (zI (aa / 7)) (zzb (sq9 (zza 27 (.adr 9 0) (zzi 28 (zI ((6 : Int) + (aa % 7))) ty3 zzl (zyq 29 (x := zI (IntKind.i64.wrap (((6 : Int) + (aa % 7)) - 1))) (zI (((6 : Int) + (aa % 7)) - 1)) zq (zza 30 (zI 2) (zyq 31 (x := zI (IntKind.i64.wrap ((((6 : Int) + (aa % 7)) - 1) - 2))) (zI ((((6 : Int) + (aa % 7)) - 1) - 2)) zq (zza 32 (zI (aa / 7)) (sy_rem 33 (n := aa / 7) (m := 2) ((aa / 7) % 2) yz (Int.tmod_eq_emod_of_nonneg xq) ?_)))))))))
 refine zyq 34 (x := zI (IntKind.i64.wrap (((((6 : Int) + (aa % 7)) - 1) - 2) - ((aa / 7) % 2)))) (zI (((((6 : Int) + (aa % 7)) - 1) - 2) - ((aa / 7) % 2))) zq (zza 35 (.adr 9 1) (zzj ⟨66, [.int .i64 ((6 : Int) + (aa % 7)), .int .i64 (((((6 : Int) + (aa % 7)) - 1) - 2) - ((aa / 7) % 2)), .int .i64 0, .int .i64 0]⟩ ty3 ?_))
 refine zzc 52 [(0, zI (aa / 7)), (8, .adr 8 0), (9, .adr 9 0)] [(8, ⟨66, [.int .i64 0, .int .i64 0, .int .i64 0, .int .i64 0]⟩), (9, ⟨66, [.int .i64 ((6 : Int) + (aa % 7)), .int .i64 (((((6 : Int) + (aa % 7)) - 1) - 2) - ((aa / 7) % 2)), .int .i64 0, .int .i64 0]⟩)] (sq9 (zza 36 (zI (aa / 7)) (sy_quo 37 (n := aa / 7) (m := 2) ((aa / 7) / 2) yz (by rw [Int.tdiv_eq_ediv_of_nonneg xq]; exact IntWalk.i64_in _ xq) ?_)))
 refine zza 0 (zI ((aa / 7) / 2)) (zzb (sq9 (zza 38 (.adr 9 1) (zzi 39 (zI (((((6 : Int) + (aa % 7)) - 1) - 2) - ((aa / 7) % 2))) ty3 zzl (sy_max0 40 (n := ((((6 : Int) + (aa % 7)) - 1) - 2) - ((aa / 7) % 2)) (v := ((((6 : Int) + (aa % 7)) - 1) - 2) - ((aa / 7) % 2)) (by split <;> omega) ?_)))))
 refine zza 41 (.adr 9 1) (zzj ⟨66, [.int .i64 ((6 : Int) + (aa % 7)), .int .i64 (((((6 : Int) + (aa % 7)) - 1) - 2) - ((aa / 7) % 2)), .int .i64 0, .int .i64 0]⟩ ty3 ?_)
 refine zzb (sq9 (zza 42 (zI ((aa / 7) / 2)) (sy_rem 43 (n := (aa / 7) / 2) (m := 3) (((aa / 7) / 2) % 3) yz (Int.tmod_eq_emod_of_nonneg xq) ?_)))
 refine zyq 44 (x := zI (IntKind.i64.wrap ((1 : Int) + (((aa / 7) / 2) % 3)))) (zI ((1 : Int) + (((aa / 7) / 2) % 3))) zq (zza 45 (zI ((aa / 7) / 2)) (sy_quo 46 (n := (aa / 7) / 2) (m := 3) (((aa / 7) / 2) / 3) yz (by rw [Int.tdiv_eq_ediv_of_nonneg xq]; exact IntWalk.i64_in _ xq) ?_))
 refine sy_rem 47 (n := ((aa / 7) / 2) / 3) (m := 2) ((((aa / 7) / 2) / 3) % 2) yz (Int.tmod_eq_emod_of_nonneg xq) ?_
 refine zyq 48 (x := zI (IntKind.i64.wrap ((1 : Int) + ((((aa / 7) / 2) / 3) % 2)))) (zI ((1 : Int) + ((((aa / 7) / 2) / 3) % 2))) zq (zza 49 (.adr 9 2) (zzj ⟨66, [.int .i64 ((6 : Int) + (aa % 7)), .int .i64 (((((6 : Int) + (aa % 7)) - 1) - 2) - ((aa / 7) % 2)), .int .i64 ((1 : Int) + (((aa / 7) / 2) % 3)), .int .i64 0]⟩ ty3 ?_))
 refine zza 50 (.adr 9 3) (zzj ⟨66, [.int .i64 ((6 : Int) + (aa % 7)), .int .i64 (((((6 : Int) + (aa % 7)) - 1) - 2) - ((aa / 7) % 2)), .int .i64 ((1 : Int) + (((aa / 7) / 2) % 3)), .int .i64 ((1 : Int) + ((((aa / 7) / 2) / 3) % 2))]⟩ ty3 ?_)
 refine zzb (sq9 (zzi 51 (.v (.agg #[.int .i64 ((6 : Int) + (aa % 7)), .int .i64 (((((6 : Int) + (aa % 7)) - 1) - 2) - ((aa / 7) % 2)), .int .i64 ((1 : Int) + (((aa / 7) / 2) % 3)), .int .i64 ((1 : Int) + ((((aa / 7) / 2) / 3) % 2))])) ty66 zze (zzj ⟨66, [.int .i64 ((6 : Int) + (aa % 7)), .int .i64 (((((6 : Int) + (aa % 7)) - 1) - 2) - ((aa / 7) % 2)), .int .i64 ((1 : Int) + (((aa / 7) / 2) % 3)), .int .i64 ((1 : Int) + ((((aa / 7) / 2) / 3) % 2))]⟩ ty66 ?_)))
 refine zzb (zzo (ret0 [.agg #[.int .i64 ((6 : Int) + (aa % 7)), .int .i64 (((((6 : Int) + (aa % 7)) - 1) - 2) - ((aa / 7) % 2)), .int .i64 ((1 : Int) + (((aa / 7) / 2) % 3)), .int .i64 ((1 : Int) + ((((aa / 7) / 2) / 3) % 2))]] ⟨zzr ty66 zze, trivial⟩ fun u18 e19 => ?_))
 exact ⟨⟨(6 : Int) + (aa % 7), ((((6 : Int) + (aa % 7)) - 1) - 2) - ((aa / 7) % 2), (1 : Int) + (((aa / 7) / 2) % 3), (1 : Int) + ((((aa / 7) / 2) / 3) % 2)⟩, rfl, by unfold WdOK; dsimp only; omega, by dsimp only; omega, by dsimp only; omega⟩
theorem k_data {u w : World} {k : Int} (d : Dat u w) (hk0 : -9223372036854775808 ≤ k) (hk1 : k ≤ 9223372036854775807) : Calls Tryz.prog 41 #[.int .i64 k] w (Post u w fun v _ => ∃ W : WL, v = W.v ∧ WdOK W ∧ 6 ≤ W.b ∧ W.b ≤ 12) := by
 refine zzm (args := [.int .i64 k]) Tryz.func41 rfl Tryz.ntmps41 (rs := [.cell 2 66]) Tryz.results41 (le_b rfl) (le_b rfl) d ?_
 refine sq9 (zzk 2 ⟨66, [.int .i64 0, .int .i64 0, .int .i64 0, .int .i64 0]⟩ (zzb (sq9 (zza 3 (zI k) (zzg 4 99 _ fun _ _ _ ab => Post.mono (k_wordD (k := k) ab xq xq) ?_)))))
 rintro _ u16 g17 ⟨aa, rfl, ac, ae, ad⟩
 refine zzj ⟨66, aa.cs⟩ ty66 ?_
 refine zzb (zzo (ret0 [.agg #[.int .i64 aa.b, .int .i64 aa.f, .int .i64 aa.r, .int .i64 aa.o]] ⟨zzr ty66 zze, trivial⟩ fun u19 e20 => ?_))
 exact ⟨aa, rfl, by assumption, by assumption, by assumption⟩
namespace Nt
section
variable {D W : WL} {l m : List Int} {s i j k : Nat}
theorem mem_getDi {l : List Int} (h : i < l.length) : l.getD i 0 ∈ l := by
 rw [List.getD_eq_getElem?_getD, List.getElem?_eq_getElem h]; exact List.getElem_mem h
theorem lat_e0 (hW : WdOK W) (hf : W.f + 2 ≤ W.b) (hl : l.length ≤ 8) (hm : m.length = l.length + 1) (hb : ∀ z ∈ l, -(p2i W.f - 1) ≤ z ∧ z ≤ p2i W.f - 1) (hc : ∀ z ∈ m, -(p2i (W.b - 1) - 1) ≤ z ∧ z ≤ p2i (W.b - 1) - 1) : latE W l m = 0 := by
 have hp := zwe (a := W.f) (b := W.b - 1) xq
 refine latE_0 hW hl hm (fun i hi => fit_iff.2 ?_) (fun i hi => ?_) (fun i hi => low_iff.2 (hb _ (mem_getDi hi)))
 ·have := hc _ (mem_getDi hi); omega
 have := hb _ (mem_getDi hi)
 rw [fit_iff.2 xq, fit_iff.2 xq]; rfl
theorem fwd_bd (m i : Nat) (h : i ≤ m) : 0 ≤ fwdN m i ∧ fwdN m i ≤ ((2 * m - i : Nat) : Int) := by
 unfold fwdN; split <;> omega
theorem bak_bd (m i : Nat) (h : i ≤ m) : 0 ≤ bakN m i ∧ bakN m i ≤ ((2 * m + i : Nat) : Int) := by
 unfold bakN
 split
 ·have := fwd_bd m 0 (Nat.zero_le _); omega
 omega
theorem lat_netOK (hD : WdOK D) (hW : WdOK W) (hf : W.f + 2 ≤ W.b) (hs : l.length = s) (h8 : s ≤ 8) (hm : m.length = s + 1) (hb : ∀ z ∈ l, -(p2i W.f - 1) ≤ z ∧ z ≤ p2i W.f - 1) (hc : ∀ z ∈ m, -(p2i (W.b - 1) - 1) ≤ z ∧ z ≤ p2i (W.b - 1) - 1) : NetOK D W s (latNd (p2i W.f) l m s) (nexN s s) ((3 * s + 1 : Nat) : Int) := by
 have hp := zwe (a := W.f) (b := W.b - 1) xq
 have hN : (latNd (p2i W.f) l m s).length = 2 * s + 1 := latNd_len _ _ _ _
 have fl : ∀ i, i < s → fitB W (l.getD i 0) = true ∧ fitB W (-l.getD i 0) = true := fun i hi => by
  have := hb _ (mem_getDi (i := i) (l := l) xq)
  exact ⟨fit_iff.2 xq, fit_iff.2 xq⟩
 have fm : ∀ i, i < s + 1 → fitB W (m.getD i 0) = true := fun i hi => by
  have := hc _ (mem_getDi (i := i) (l := m) xq)
  exact fit_iff.2 xq
 refine ⟨hD, hW, by omega, by omega, nexN_len _ _, fun k hk => ?_, fun j hj => ?_, by omega⟩
 ·rw [hN] at hk
  by_cases h1 : k < s
  ·rw [latNd_a _ _ _ h1]
   refine ⟨by show 2 ≤ 64; decide, fun j hj => ?_⟩
   have hw := fwd_bd s (s - k) xq
   match j, hj with
   | 0, _ => exact ⟨hw.1, Int.le_trans hw.2 xq, .inl rfl⟩
   | 1, _ => exact ⟨by show (0 : Int) ≤ ((s - k : Nat) : Int); omega, by show ((s - k : Nat) : Int) ≤ _; omega, .inr (fl _ xq).2⟩
   | j + 2, hj => exact absurd hj (by show ¬ j + 2 < 2; omega)
  by_cases h2 : k < 2 * s
  ·obtain ⟨i, rfl⟩ : ∃ i, k = s + i := ⟨k - s, by omega⟩
   rw [latNd_b _ _ _ (show i < s by omega)]
   refine ⟨by show 2 ≤ 64; decide, fun j hj => ?_⟩
   have hw := fwd_bd s i xq
   match j, hj with
   | 0, _ => exact ⟨hw.1, Int.le_trans hw.2 xq, .inr (fl _ xq).1⟩
   | 1, _ => exact ⟨by show (0 : Int) ≤ ((i + 1 : Nat) : Int); omega, by show ((i + 1 : Nat) : Int) ≤ _; omega, .inl rfl⟩
   | j + 2, hj => exact absurd hj (by show ¬ j + 2 < 2; omega)
  obtain rfl : k = 2 * s := by omega
  rw [latNd_c]
  have hl9 : (lasN m s (s + 1)).length = s + 1 := by unfold lasN; simp
  refine ⟨by omega, fun j hj => ?_⟩
  rw [hl9] at hj
  have e : (lasN m s (s + 1)).getD j tl0 = ⟨bakN s j, m.getD j 0⟩ := by
   unfold lasN
   rw [List.getD_eq_getElem?_getD, List.getElem?_map, List.getElem?_range hj]; rfl
  rw [e]
  have hw := bak_bd s j xq
  exact ⟨hw.1, Int.le_trans hw.2 xq, .inr (fm j hj)⟩
 rw [nexN_len] at hj
 rw [nexN_at _ _ hj, if_pos hj, hN]
 have hw := bak_bd s j xq
 omega
theorem lat_tr (hok : NetOK D W s (latNd (p2i W.f) l m s) (nexN s s) ((3 * s + 1 : Nat) : Int)) (hl : l.length = s) (h3 : s ≤ 3) (hm : m.length = s + 1) : TrOK W (latNd (p2i W.f) l m s) s (nexN s s) ((3 * s + 1 : Nat) : Int) (liS W.f l m m.length) (upL (wqL W.f l) (wqL W.f l).length) := by
 have hq : (wqL W.f l).length = s := by rw [wqL_len]; exact hl
 rw [hq, hm]
 refine tr_ok hok xq (fun k hk => lat_fl (Back.of hok) hl h3 k hk) (fun k hk => aS_ge hk) (fun k hk => ?_) (fun V hV k _ => ?_)
 ·rw [liS_co]
  exact su_0 (fun i hi => by rw [rS_ge xq, Rat.mul_zero])
 exact lat_run hV hl k
end
end Nt
set_option maxHeartbeats 4000000 in
theorem k_reflectX {u w : World} {x : Sl} {l : List Rat} {D : Nat → List Rat} {K n t S : Nat} (d : Dat u w) (hx : PolV u x l K) (hD : Nt.DownX (Nt.trimQ l) D n t S) (ht : 1 ≤ t) (hK : K ≤ 10000) (hS : S ≤ 10000) (hl : l.length ≤ 40) : Calls Tryz.prog 121 #[x.v] w (Post u w fun v u' => v = .tuple #[.slice none 0 0, .int .i64 14]) := by
 have hlen := hx.len
 have hDl := hD.len
 have htl := Nt.zzh l
 refine zzm (args := [x.v]) Tryz.func121 rfl Tryz.ntmps121 (rs := [.tmp 2, .tmp 3]) Tryz.results121 (le_b rfl) (le_b rfl) d ?_
 refine sq9 (zza 2 (.v (.slice none 0 0)) (zza 3 (zI 0) (zzb (zzd (sq9 (zza 12 (.v (x.v)) (zzg 13 172 _ fun _ _ a4 bf => Post.mono (k_stWrong bf (hx.ext a4) (fun h => hD.nz ((Nt.trim_co l 0).trans h)) xq xq) ?_)))))))
 rintro _ u12 bg rfl
 refine zza 4 (zI 0) (zzb (sq9 (zza 14 (zI 0) (zza 15 (zB false) (zzb (zys xj (zzs (zzp ?_))))))))
 refine sq9 (zza 17 (.v (x.v)) (zzg 18 117 _ fun _ _ bD br => Post.mono (k_poTrim br (hx.ext (a4.t (bg.t bD))) xq zj) ?_))
 rintro _ u18 g19 ⟨aa, rfl, aG⟩
 have hly16 := aG.len
 refine zza 5 (.v (aa.v)) (zzb (sq9 (zza 19 (.v (aa.v)) ?_)))
 have hl21 := aG.len
 obtain ⟨a3, b21, aZ, aT, aX, aP⟩ := pol_atN aG (i := 0) xq
 refine zya 20 (aZ + 0 * 3) (n := aa.n) (off := aZ) (sz := 3) (i := 0) xq aT xq xq sl27 (zym 21 a3.cs aX ty32 (zzk 6 ⟨32, zw3⟩ (zzj ⟨32, a3.cs⟩ ty32 ?_)))
 refine zzb (zzd (sw_pubA (r := 6) (t := 6) [6] xw xj zk zk xj (fun bm u23 a5 bu bq aJ => ?_)))
 refine zzf (zza 22 (.v (aa.v)) (sy_fun 23 [.pointer (some ⟨bm, 0, none⟩)] ?_))
 refine zzg 24 170 _ fun _ _ aI bn => Post.mono (k_mapDn1 bn (aG.ext (a5.trans aI)) (aP.ext (a5.trans aI)).raw (aI.cells aJ) hD.nz xq xq xq) ?_
 rintro _ a0 g36 ⟨ay, L30, rfl, bt, aY, a8, aU⟩
 have aL : PolN a0 (⟨some ⟨ay, 0, none⟩, aa.n, aa.n⟩ : Sl) (Nt.divS (Nt.trimQ l) ((Nt.trimQ l).getD 0 0)) (K + K) := pol_data1 aY yv aU xq
 refine zzk 7 ⟨26, [.slice none 0 0]⟩ (zzj ⟨26, [.slice (some ⟨ay, 0, none⟩) aa.n aa.n]⟩ ty26 ?_)
 refine zzb (sq9 (zzi 25 (.v (.slice (some ⟨ay, 0, none⟩) aa.n aa.n)) ty26 zzl (zza 26 (zI aa.n) (zyq 27 (x := zI (IntKind.i64.wrap ((aa.n : Int) - 1))) (zI n) (eqI yq) (sy_make 28 (T := 26) (E := 32) (z := .agg #[.bool false, .slice none 0 0, .slice none 0 0]) (size := 3) (bytes := 56) n (rcs (List.replicate n rl0)) xj xj rfl rfl xq yv (made_rcs _) ?_)))))
 refine zza 8 (.slc 28 0 n n) (zzc 61 [(7, .adr 7 0), (8, .slc 28 0 n n)] [(7, ⟨26, [.slice (some ⟨ay, 0, none⟩) aa.n aa.n]⟩), (28, ⟨32, rcs (List.replicate n rl0)⟩)] (zzd (sq9 (zzi 29 (.v (.slice (some ⟨ay, 0, none⟩) aa.n aa.n)) ty26 zzl (zza 30 (zI aa.n) (zyq 31 (x := zI (IntKind.i64.wrap ((aa.n : Int) - 1))) (zI n) (eqI yq) (zzk 9 ⟨3, [.int .i64 0]⟩ (zzj ⟨3, [.int .i64 n]⟩ ty3 ?_))))))))
 refine zzb (zzt ?_)
 have hn9 : n ≤ 40 := by have h9 := Nt.zzh l; omega
 refine zyn (I := fun a1 S' u' => ∃ (m : Nat) (c : Sl) (L : List RL), (a1 = m) ∧ (m ≤ n) ∧ (t ≤ m) ∧ (L.length = n) ∧ (S' = St.of 61 [(7, .adr 7 0), (8, .slc 28 0 n n), (9, .adr 9 0)] [(7, ⟨26, [c.v]⟩), (9, ⟨3, [.int .i64 m]⟩), (28, ⟨32, rcs L⟩)]) ∧ (Ext a0 u') ∧ (PolN u' c (D m) S) ∧ (RatsN u' (L.drop m) ((Nt.refL D n).drop m) S)) (fun m S u1 u2 e h => by obtain ⟨m, c, L, hm, p0, p1, p2, hS, hE, f0, f1⟩ := h; exact ⟨m, c, L, hm, p0, p1, p2, hS, hE.trans e, f0.ext e, f1.ext e⟩) _ yw ⟨n, (⟨some ⟨ay, 0, none⟩, aa.n, aa.n⟩ : Sl), List.replicate n rl0, rfl, Nat.le_refl _, hD.tn, zz, rfl, (Ext.refl _), (hD.fit hD.tn (Nat.le_refl _) (by rw [hD.top]; exact aL)), (RatsN.dnil zz (Nt.refL_len D n))⟩ ?_
 rintro a1 _ u39 ⟨m, c, L, a9, bk, aN, hL, rfl, bA, hC, hR⟩
 have hcl := hC.len
 have hdl := hD.dlen m bk
 refine zzd (sq9 (zzi 32 (zI m) ty3 zzl (zza 33 (zB (decide ((1 : Int) ≤ (m : Int)))) (zzb (zzu (b := decide ((1 : Int) ≤ (m : Int))) xj (fun hb => ?_) (fun hb => ?_))))))
 ·clear hb
  refine zzs (zzp ?_)
  refine zzd (zzt (sq9 (zzi 36 (.v (c.v)) ty26 zzl (zzi 37 (zI m) ty3 zzl ?_))))
  have hl40 := hC.len
  obtain ⟨a7, b40, a2, aW, aR, aH⟩ := pol_atN hC (i := m) xq
  refine zya 38 (a2 + m * 3) (n := c.n) (off := a2) (sz := 3) (i := (m : Int)) xq aW xq xq sl26 (zym 39 a7.cs aR ty32 (zzg 40 68 _ fun _ _ aw bv => Post.mono (k_ratTrim bv (aH.ext aw).raw xq) ?_))
  rintro _ u44 ax ⟨aj, rfl, aA⟩
  refine zzk 10 ⟨32, zw3⟩ (zzj ⟨32, aj.cs⟩ ty32 ?_)
  refine zzb (zzd (sq9 (zzi 41 (.v (aj.v)) ty32 zze (zzg 42 169 _ fun _ _ ah bc => Post.mono (k_small bc (aA.ext ah).raw xq) ?_))))
  rintro _ u48 an rfl
  refine zza 43 (zB (!(Nt.smallQ ((D m).getD m 0)))) (zzb (zzu (b := !(Nt.smallQ ((D m).getD m 0))) xj (fun aE => ?_) (fun aE => ?_)))
  ·refine sq9 (zza 2 (.v (.slice none 0 0)) (zza 3 (zI 14) (zzc 61 [(2, .v (.slice none 0 0)), (3, zI 14)] [] (zzo (zzw (zyu (zzw (zyt (zyu (zzw (ret0 [.slice none 0 0, .int .i64 14] ⟨zzq, zzq, trivial⟩ fun u52 e53 => ?_)))))))))))
   rfl
  have htm : t < m := hD.lt aN ht (by simpa using aE)
  refine zzs (zzp ?_)
  refine sq9 (zza 44 (.slc 28 0 n n) (zzi 45 (zI m) ty3 zzl (zyq 46 (x := zI (IntKind.i64.wrap ((m : Int) - 1))) (zI (m - 1 : Nat)) (eqI yq) (zzi 47 (.v (aj.v)) ty32 zze (zyw 48 (off' := (m - 1) * 3) (n := n) (off := 0) (sz := 3) (i := ((m - 1 : Nat) : Int)) sl26 xq xq xq ?_)))))
  refine zyv (V := ⟨32, rcs L⟩) (off := (m - 1) * 3) (rcs ((L).set (m - 1) aj)) ty32 zv (zyx (r := aj) (i := m - 1) yy rfl) ?_
  refine zzc 61 [(7, .adr 7 0), (8, .slc 28 0 n n), (9, .adr 9 0), (10, .adr 10 0)] [(7, ⟨26, [c.v]⟩), (9, ⟨3, [.int .i64 m]⟩), (10, ⟨32, aj.cs⟩), (28, ⟨32, rcs ((L).set (m - 1) aj)⟩)] (zzd (zzz [0, 0, 0, 7, 15, 0, 63] [(1, []), (2, []), (5, []), (0, []), (3, []), (4, []), (6, [])] xj xj (zzi 50 (.v (aj.v)) ty32 zze (zzi 51 (.v (aj.v)) ty32 zze (zzk 11 ⟨32, zw3⟩ (zzg 49 109 _ fun _ _ ak bF => Post.mono (k_ratOf bF (z := 1) xq xq) ?_))))))
  rintro _ u57 ao ⟨r55, rfl, bd⟩
  refine zzg 52 113 _ fun _ _ ai bp => Post.mono (k_ratMul bp (aA.ext (ah.t (an.t (ak.t (ao.t ai))))).raw (aA.ext (ah.t (an.t (ak.t (ao.t ai))))).raw xq xq) ?_
  rintro _ u63 ap ⟨r61, rfl, bh⟩
  refine zzg 53 139 _ fun _ _ am bj => Post.mono (k_ratSub bj (bd.ext (ai.t (ap.t am))).raw (bh.ext am).raw xq xq) ?_
  rintro _ u69 au ⟨bE, rfl, a6⟩
  refine zzj ⟨32, bE.cs⟩ ty32 ?_
  refine zzb (sw_pubA (r := 10) (t := 10) [10] xw xj zk zk xj (fun bl u73 ar bB ba aV => ?_))
  refine sw_pubA (r := 9) (t := 9) [9] xw xj zk zk xj (fun bi u79 al bo bC av => ?_)
  refine sw_pubA (r := 11) (t := 11) [11] xw xj zk zk xj (fun bz u85 af bw be aM => ?_)
  refine sw_pubA (r := 7) (t := 7) [7] xw xj zk zk xj (fun bb u91 ad aK aq ag => ?_)
  refine sw_cut 5 ?_
  refine zyl 54 (c.v) (var_cell1 ag) ty26 (zyl 55 (.int .i64 m) (var_cell1 ((af.trans ad).cells av)) ty3 ?_)
  have hl96 := (hC.ext (aw.t (ax.t (ah.t (an.t (ak.t (ao.t (ai.t (ap.t (am.t (au.t (ar.trans (al.trans (af.trans ad)))))))))))))).len
  have hc96 := (hC.ext (aw.t (ax.t (ah.t (an.t (ak.t (ao.t (ai.t (ap.t (am.t (au.t (ar.trans (al.trans (af.trans ad)))))))))))))).cap
  refine sy_front 56 (n := c.n) (c := c.c) m sl26 rfl xq ?_
  refine sy_fun 57 [.pointer (some ⟨bl, 0, none⟩), .pointer (some ⟨bb, 0, none⟩), .pointer (some ⟨bi, 0, none⟩), .pointer (some ⟨bz, 0, none⟩)] ?_
  refine zzg 58 170 _ fun _ _ ac bs => Post.mono (k_mapDn2 (m := m) bs (hC.ext (aw.t (ax.t (ah.t (an.t (ak.t (ao.t (ai.t (ap.t (am.t (au.t (ar.trans (al.trans (af.trans (ad.trans ac))))))))))))))) (aA.ext (ah.t (an.t (ak.t (ao.t (ai.t (ap.t (am.t (au.t (ar.trans (al.trans (af.trans (ad.trans ac))))))))))))).raw (a6.ext (ar.trans (al.trans (af.trans (ad.trans ac))))).raw ((pol_takeN (hC.ext (aw.t (ax.t (ah.t (an.t (ak.t (ao.t (ai.t (ap.t (am.t (au.t (ar.trans (al.trans (af.trans ad)))))))))))))) xq).ext ac) ((al.trans (af.trans (ad.trans ac))).cells aV) (ac.cells ag) ((af.trans (ad.trans ac)).cells av) ((ad.trans ac).cells aM) (Nt.small_nz (hD.small m xq xq)) (by rw [hD.dlen m xq]) rfl rfl xq xq xq (by rw [hD.dlen m xq]; omega)) ?_
  rintro _ bx ae ⟨aQ, L99, rfl, aF, aD, aC, aB⟩
  refine zzx ?_
  refine sl_adoptA (r := 7) (k := 7) zk ((ac.t ae.ext).cells ag) aK xj (fun aO ab => ?_)
  have az : PolN aO (⟨some ⟨aQ, 0, none⟩, m, m⟩ : Sl) (Nt.dnS (D m) m) (2 * S + S + (2 + (S + S) + 1) + 1) := newR_adopt aF ((Ext.refl _).cells aD) aC (aB.ext (Ext.refl _)) yv (ac.cells ag) ((ac.t ae.ext).cells ag) zz ab
  refine sl_sym ?_
  refine zzj ⟨26, [.slice (some ⟨aQ, 0, none⟩) m m]⟩ ty26 ?_
  refine zzx ?_
  refine zzp (zzd (sq9 (zyl 59 (.int .i64 m) (var_cell1 ((af.trans (ExtB.old2 ab (ad.t (ac.t ae.ext)) aq)).cells av)) ty3 (zzb (zzf (zzk 9 ⟨3, [.int .i64 0]⟩ (zzj ⟨3, [.int .i64 m]⟩ ty3 ?_)))))))
  refine zzb (zzf (zzi 34 (zI m) ty3 zzl (zyq 35 (x := zI (IntKind.i64.wrap ((m : Int) - 1))) (zI (m - 1 : Nat)) (eqI yq) (zzj ⟨3, [.int .i64 (m - 1 : Nat)]⟩ ty3 ?_))))
  refine zzx ?_
  refine ⟨_, ?_, _, by exact zzv _ _ _, m - 1, (⟨some ⟨aQ, 0, none⟩, m, m⟩ : Sl), (L).set (m - 1) aj, rfl, by omega, by omega, by simpa using hL, rfl, (bA.t (aw.t (ax.t (ah.t (an.t (ak.t (ao.t (ai.t (ap.t (am.t (au.t (ar.trans (al.trans (af.trans (ExtB.old2 ab (ad.t (ac.t ae.ext)) aq))))))))))))))), (hD.fit xq xq (by rw [hD.step (m - 1) xq, show m - 1 + 1 = m by omega]; exact az)), (RatsN.dstep (hR.ext (aw.t (ax.t (ah.t (an.t (ak.t (ao.t (ai.t (ap.t (am.t (au.t (ar.trans (al.trans (af.trans (ExtB.old2 ab (ad.t (ac.t ae.ext)) aq))))))))))))))) xq xq (by rw [Nt.refL_len]; exact hL) (by rw [Nt.refL_at D xq, show m - 1 + 1 = m by omega]; exact (aA.ext (ah.t (an.t (ak.t (ao.t (ai.t (ap.t (am.t (au.t (ar.trans (al.trans (af.trans (ExtB.old2 ab (ad.t (ac.t ae.ext)) aq)))))))))))))))⟩
  omega
 exact absurd hb (by rw [show (decide ((1 : Int) ≤ (m : Int))) = true from decide_eq_true xq]; decide)
theorem k_stableX {u w : World} {x : Sl} {l : List Rat} {D : Nat → List Rat} {K n t S : Nat} (d : Dat u w) (hx : PolV u x l K) (hD : Nt.DownX (Nt.trimQ l) D n t S) (ht : 1 ≤ t) (hK : K ≤ 10000) (hS : S ≤ 10000) (hl : l.length ≤ 40) : Calls Tryz.prog 45 #[x.v] w (Post u w fun v u' => v = .tuple #[.bool false, .int .i64 0]) := by
 refine zzm (args := [x.v]) Tryz.func45 rfl Tryz.ntmps45 (rs := [.tmp 2, .tmp 3]) Tryz.results45 (le_b rfl) (le_b rfl) d ?_
 refine sq9 (zza 2 (zB false) (zza 3 (zI 0) (zzb (sq9 (zza 7 (.v (x.v)) (zzg 8 121 _ fun _ _ ab aa => Post.mono (k_reflectX aa (hx.ext ab) hD ht hK hS hl) ?_))))))
 rintro _ u12 g13 rfl
 refine zza 6 (.v (.tuple #[.slice none 0 0, .int .i64 14])) (zza 9 (.v (.slice none 0 0)) (zza 10 (zI 14) (zza 4 (.v (.slice none 0 0)) (zza 5 (zI 14) (zzb (zzd (sq9 (zza 11 (zI 14) (zza 12 (zB true) (zzb (zyr xj ?_)))))))))))
 refine sq9 (zza 2 (zB false) (zza 3 (zI 0) (zzb (zzo (zzw (ret0 [.bool false, .int .i64 0] ⟨zzq, zzq, trivial⟩ fun u15 e16 => ?_))))))
 rfl
theorem k_stableD {u w : World} {x : Sl} {l : List Rat} {D : Nat → List Rat} {K n t S : Nat} (d : Dat u w) (hx : PolV u x l K) (hD : Nt.DownX (Nt.trimQ l) D n t S) (hK : K ≤ 10000) (hS : S ≤ 10000) (hl : l.length ≤ 40) : Calls Tryz.prog 45 #[x.v] w (Post u w fun v u' => v = .tuple #[.bool (decide (t = 0)), .int .i64 0]) := by
 by_cases ht : t = 0
 ·rw [decide_eq_true ht]; exact k_stable d hx (hD.down ht) hK hS hl
 rw [decide_eq_false ht]; exact k_stableX d hx hD xq hK hS hl
theorem k_stable1 {u w : World} {x : Sl} {l : List Rat} {D : Nat → List Rat} {K n : Nat} (d : Dat u w) (hx : PolV u x l K) (h : Nt.Down (Nt.trimQ l) D n 4) (hK : K ≤ 10000) (hl : l.length ≤ 40) : Calls Tryz.prog 45 #[x.v] w (Post u w fun v u' => v = .tuple #[.bool true, .int .i64 0]) :=
 k_stableD (t := 0) (S := 4) d hx ⟨h.len, h.nz, h.top, h.dlen, h.step, fun m h1 h2 => h.small m xq h2, fun h9 => absurd h9 yz, Nat.zero_le _, fun m _ h2 => h.sm m h2⟩ hK yz hl
set_option maxHeartbeats 4000000 in
theorem w_latTransfers {u w : World} {x y : Sl} {l m : List Int} {k1 k2 : Int} (d : Dat u w) (hx : SlR .i64 u x.a x.n x.c l) (hb : ∀ z ∈ l, -9223372036854775808 ≤ z ∧ z ≤ 9223372036854775807) (hy : SlR .i64 u y.a y.n y.c m) (hc : ∀ z ∈ m, -9223372036854775808 ≤ z ∧ z ≤ 9223372036854775807) (hk1 : -9223372036854775808 ≤ k1) (hk2 : k1 ≤ 9223372036854775807) (hk3 : -9223372036854775808 ≤ k2) (hk4 : k2 ≤ 9223372036854775807) : Calls Tryz.prog 8 #[x.v, y.v, .int .i64 k1, .int .i64 k2] w (Post u w fun v _ => v = .bool true) := by
 refine zzm (args := [x.v, y.v, .int .i64 k1, .int .i64 k2]) Tryz.func8 rfl Tryz.ntmps8 (rs := [.tmp 8]) Tryz.results8 (le_b rfl) (le_b rfl) d ?_
 refine sq9 (zza 8 (zB false) (zzb (sq9 (zza 22 (zI k2) (zzg 23 38 _ fun _ _ a0 ba => Post.mono (k_coef (k := k2) ba xq xq) ?_)))))
 rintro _ u14 aV ⟨aa, rfl, ai⟩
 have hw17 := ai.ok
 have aW : 1 ≤ aa.f := by have h9 := ai; unfold CoefOK at h9; omega
 have aU : aa.f ≤ 24 := by have h9 := ai; unfold CoefOK at h9; omega
 have hwc : aa.f ≤ 8 ∧ 0 ≤ aa.f ∧ aa.f + 2 ≤ aa.b ∧ aa.b ≤ 24 := by have h9 := ai; unfold CoefOK at h9; omega
 have hu0 := Nt.zxp aa.f
 have hu1 := Nt.p2i_24 (n := aa.f) xq
 have hu2 := Nt.p2i_24 (n := aa.b - 1) xq
 refine zzk 9 ⟨66, [.int .i64 0, .int .i64 0, .int .i64 0, .int .i64 0]⟩ (zzj ⟨66, aa.cs⟩ ty66 ?_)
 refine zzb (sq9 (zza 25 (.v (x.v)) (zza 26 (.v (y.v)) (zzi 27 (.v (aa.v)) ty66 zze (zzg 28 39 _ fun _ _ a3 bb => Post.mono (k_words (W := aa) bb (hx.ext (a0.t (aV.t a3))) hb (hy.ext (a0.t (aV.t a3))) hc hw17) ?_)))))
 rintro _ u20 g21 ⟨ap, aq, ab, am, rfl, aO, aC, ao, an, ae, aj⟩
 have aT : ab.length = ap.n := ao.1
 have aX : am.length = aq.n := an.1
 have a8 : Nt.latE aa ab am = 0 := Nt.lat_e0 hw17 xq xq xq ae aj
 refine zza 24 (.v (.tuple #[ap.v, aq.v])) (zza 29 (.v (ap.v)) (zza 30 (.v (aq.v)) (zza 10 (.v (ap.v)) (zza 11 (.v (aq.v)) (zzb (zzd (zzz [0, 0, 0, 4, 0, 31, 63, 127, 127, 0, 767, 2047] [(0, []), (1, []), (2, []), (4, []), (9, []), (3, []), (5, []), (6, []), (7, []), (8, []), (10, []), (11, [])] xj xj (zza 32 (.v (ap.v)) (zza 33 (.v (aq.v)) (zza 34 (zI k1) (zzi 36 (.v (aa.v)) ty66 zze ?_)))))))))))
 refine zzk 12 ⟨72, [.int .i64 0, .int .i64 0, .int .i64 0, .int .i64 0, .int .i64 0, .int .i64 0, .int .i64 0, .int .i64 0, .int .i64 0, .slice none 0 0, .slice none 0 0, .int .i64 0]⟩ (zzg 35 41 _ fun _ _ aL bi => Post.mono (k_data (k := k1) bi xq xq) ?_)
 rintro _ u28 aN ⟨ad, rfl, av, be, a4⟩
 refine zzg 37 40 _ fun _ _ aM bg => Post.mono (k_latBuild (D := ad) (W := aa) bg av a8 (ao.ext (aL.t (aN.t aM))) (fun z hz => by have h9 := ae z hz; omega) (an.ext (aL.t (aN.t aM))) (fun z hz => by have h9 := aj z hz; omega)) ?_
 rintro _ u32 aQ ⟨X9, Y9, rfl, ⟨hh9, a6⟩, bf⟩
 have hok9 := Nt.lat_netOK (s := ab.length) av hw17 xq rfl xq aC ae aj
 have hT9 := Nt.lat_tr hok9 rfl aO aC
 refine zza 31 (.v (.tuple #[.agg #[.int .i64 ad.b, .int .i64 ad.f, .int .i64 ad.r, .int .i64 ad.o, .int .i64 aa.b, .int .i64 aa.f, .int .i64 aa.r, .int .i64 aa.o, .int .i64 ab.length, X9.v, Y9.v, .int .i64 (3 * ab.length + 1 : Nat)], .int .i64 0])) (zza 38 (.v (.agg #[.int .i64 ad.b, .int .i64 ad.f, .int .i64 ad.r, .int .i64 ad.o, .int .i64 aa.b, .int .i64 aa.f, .int .i64 aa.r, .int .i64 aa.o, .int .i64 ab.length, X9.v, Y9.v, .int .i64 (3 * ab.length + 1 : Nat)])) (zza 39 (zI 0) (zzj ⟨72, [.int .i64 ad.b, .int .i64 ad.f, .int .i64 ad.r, .int .i64 ad.o, .int .i64 aa.b, .int .i64 aa.f, .int .i64 aa.r, .int .i64 aa.o, .int .i64 ab.length, X9.v, Y9.v, .int .i64 (3 * ab.length + 1 : Nat)]⟩ ty72 ?_)))
 refine zza 13 (zI 0) (zzb (sq9 (zzi 41 (.v (.agg #[.int .i64 ad.b, .int .i64 ad.f, .int .i64 ad.r, .int .i64 ad.o, .int .i64 aa.b, .int .i64 aa.f, .int .i64 aa.r, .int .i64 aa.o, .int .i64 ab.length, X9.v, Y9.v, .int .i64 (3 * ab.length + 1 : Nat)])) ty72 zze (zzg 42 42 _ fun _ _ aK bd => Post.mono (k_nLinear (D := ad) (W := aa) (s := ab.length) (N := Nt.latNd (Nt.p2i aa.f) ab am ab.length) (nx := Nt.nexN ab.length ab.length) (q := 3 * ab.length + 1) bd (NodesB.ext a6 aK) (MutL.ext bf aK) hok9) ?_))))
 rintro _ u37 aY ⟨ah, ag, af, ac, bc, rfl, au, aw, ay, aB⟩
 refine zza 40 (.v (.tuple #[.agg #[ah.v, ag.v, af.v, .bool ac.s, ac.m.v, ac.d.v], .int .i64 0])) (zza 43 (.v (.agg #[ah.v, ag.v, af.v, .bool ac.s, ac.m.v, ac.d.v])) (zza 44 (zI 0) (zzk 14 ⟨77, [.slice none 0 0, .slice none 0 0, .slice none 0 0, .bool false, .slice none 0 0, .slice none 0 0]⟩ (zzj ⟨77, [ah.v, ag.v, af.v] ++ ac.cs⟩ ty77 ?_))))
 refine zza 15 (zI 0) (zzc 92 [(9, .adr 9 0), (10, .v (ap.v)), (11, .v (aq.v)), (13, zI 0), (14, .adr 14 0), (15, zI 0)] [(9, ⟨66, aa.cs⟩), (14, ⟨77, [ah.v, ag.v, af.v] ++ ac.cs⟩)] (sq9 (zzi 46 (.v (.agg #[ah.v, ag.v, af.v, .bool ac.s, ac.m.v, ac.d.v])) ty77 zze (zzg 47 43 _ fun _ _ ar bj => Post.mono (k_nTransferL (W := aa) (N := Nt.latNd (Nt.p2i aa.f) ab am ab.length) (nx := Nt.nexN ab.length ab.length) (P := (Nt.liS aa.f ab am am.length)) (Q := (Nt.upL (Nt.wqL aa.f ab) (Nt.wqL aa.f ab).length)) bj (au.ext ar) (aw.ext ar) (ay.ext ar) (aB.ext ar) hT9) ?_))))
 rintro _ u42 aR ⟨ak, al, rfl, ax, aD⟩
 refine zza 45 (.v (.tuple #[.agg #[ak.v, al.v], .int .i64 0])) (zza 48 (.v (.agg #[ak.v, al.v])) (zza 49 (zI 0) (zzk 16 ⟨81, [.slice none 0 0, .slice none 0 0]⟩ (zzj ⟨81, [ak.v, al.v]⟩ ty81 ?_))))
 refine zza 17 (zI 0) (zzb (sq9 (zza 51 (.v (ap.v)) (zza 52 (.v (aq.v)) (zzi 53 (.v (aa.v)) ty66 zze (zzg 54 44 _ fun _ _ aI a7 => Post.mono (k_latIdealN (W := aa) a7 hw17 (ao.ext (aL.t (aN.t (aM.t (aQ.t (aK.t (aY.t (ar.t (aR.t aI))))))))) ae (an.ext (aL.t (aN.t (aM.t (aQ.t (aK.t (aY.t (ar.t (aR.t aI))))))))) aj xq xq) ?_))))))
 rintro _ u50 aZ ⟨aE, az, rfl, a1, aP⟩
 have hly46 := a1.len
 have hly47 := aP.len
 have a2 : (Nt.trimQ (Nt.upL (Nt.wqL aa.f ab) (Nt.wqL aa.f ab).length)).length ≤ ab.length + 1 := Nat.le_trans (Nt.zzh _) (by rw [Nt.upL_len, Nt.wqL_len]; exact Nat.le_refl _)
 refine zza 50 (.v (.tuple #[.agg #[aE.v, az.v], .int .i64 0])) (zza 55 (.v (.agg #[aE.v, az.v])) (zza 56 (zI 0) (zzk 18 ⟨81, [.slice none 0 0, .slice none 0 0]⟩ (zzj ⟨81, [aE.v, az.v]⟩ ty81 ?_))))
 refine zza 19 (zI 0) (zzb (sq9 (zza 58 (.adr 18 1) (zzi 59 (.v (az.v)) ty27 zzl (zzg 60 45 _ fun _ _ aA bh => Post.mono (k_stable1 bh (aP.ext aA).raw (Nt.li_down (f := aa.f) (k := ab) xq xq ae) yz (Nat.le_trans (Nt.zzh _) (by rw [Nt.upL_len, Nt.wqL_len]; omega))) ?_)))))
 rintro _ u54 aH rfl
 refine zza 57 (.v (.tuple #[.bool true, .int .i64 0])) (zza 61 (zB true) (zza 62 (zI 0) (zza 20 (zB true) (zza 21 (zI 0) (zzb (sq9 (zzg 63 46 _ fun _ _ aF a9 => Post.mono (k_known25 a9) ?_)))))))
 rintro _ u58 aJ rfl
 refine zza 64 (zB true) (zza 65 (zI 0) ?_ (hw := w1 1 true 64))
 refine zza 66 (zB true) ?_ (hw := w1 1 true 64)
 refine zza 67 (zB true) (zza 68 (zB true) (zza 69 (zI 0) ?_ (hw := w1 5 true 68)))
 refine zza 70 (zB true) ?_ (hw := w1 5 true 68)
 refine zza 71 (zB true) (zza 72 (zB true) (zza 73 (zI 0) ?_ (hw := w1 9 true 72)))
 refine zza 74 (zB true) ?_ (hw := w1 9 true 72)
 refine zza 75 (zB true) (zza 76 (zB true) (zza 77 (zI 0) ?_ (hw := w1 13 true 76)))
 refine zza 78 (zB true) ?_ (hw := w1 13 true 76)
 refine zza 79 (zB true) (zza 80 (zB true) (zza 81 (zI 0) ?_ (hw := w1 17 true 80)))
 refine zza 82 (zB true) ?_ (hw := w1 17 true 80)
 refine zza 83 (zB true) (zza 84 (zB true) (zza 85 (zB true) ?_ (hw := w1 21 true 84)))
 refine zza 86 (zB true) (zza 87 (zB true) (zzi 88 (.v (.agg #[ak.v, al.v])) ty81 zze ?_ (hw := w1 24 true 87)))
 refine zzi 89 (.v (.agg #[aE.v, az.v])) ty81 zze ?_ (hw := w1 24 true 87)
 refine zzg 90 47 _ (fun _ _ aG a5 => Post.mono ((show Calls _ _ #[_, _] _ _ from k_sameFilt (K := 100000) (l := Nt.trimQ (Nt.liS aa.f ab am am.length)) (m := Nt.trimQ (Nt.upL (Nt.wqL aa.f ab) (Nt.wqL aa.f ab).length)) a5 (PolN.more (K := 10000) (ax.ext (aI.t (aZ.t (aA.t (aH.t (aF.t (aJ.t aG))))))) yz) (PolN.more (K := 10000) (aD.ext (aI.t (aZ.t (aA.t (aH.t (aF.t (aJ.t aG))))))) yz) (PolN.more (K := 80000) (a1.ext (aA.t (aH.t (aF.t (aJ.t aG))))) yz) (PolN.more (K := 8176) (aP.ext (aA.t (aH.t (aF.t (aJ.t aG))))) yz) yz (Nat.le_trans (Nt.zzh _) (Nat.le_trans (Nt.liS_len _ _ _ _) xq)) (Nat.le_trans (Nt.zzh _) (by rw [Nt.upL_len, Nt.wqL_len]; omega)))) ?_) (hw := w1 24 true 87)
 rintro _ u62 g63 rfl
 refine zza 91 (zB true) (zza 8 (zB true) (zzc 92 [(8, zB true)] [] (zzo (ret0 [.bool true] ⟨zzq, trivial⟩ fun u65 e66 => ?_))))
 rfl
end Go.Proofs.YtgmkhhfbckjaeaaGreat
