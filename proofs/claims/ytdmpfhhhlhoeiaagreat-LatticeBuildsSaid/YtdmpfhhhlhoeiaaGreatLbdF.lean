/- Networks of lattices. Printed by wip/sym/g_ne.py. Structs of ints compared; networks read. Ideal of lattices in general, networks compared. Printed by wip/sym/g_nf.py. LatticeBuilds, walked. Printed by wip/sym/g_nh.py. -/
import Derived.Test.YtdmpfhhhlhoeiaaGreatLbdE
import Derived.Laws.StructEq
import Derived.ChangeKeysEq
namespace Go.Proofs.YtdmpfhhhlhoeiaaGreat
open Go.RowKit
set_option linter.unusedVariables false
theorem Nt.las_one {lo : Nat} {u : World} {x : Sl} {k : Nat} {ty : TypeId} {v : List Int} {a : Int} {n : Nat} (m : MutL k ty lo u x (tcs [⟨a, v.getD 0 0⟩])) (ha : a = Nt.fwdN n 0) : MutL k ty lo u x (tcs (Nt.lasN v n 1)) := by
 have e : Nt.lasN v n 1 = [⟨a, v.getD 0 0⟩] := by
  rw [ha]; unfold Nt.lasN; rfl
 rw [e]; exact m
set_option maxHeartbeats 8000000 in
theorem k_latBuild {u w : World} {x y : Sl} {l m : List Int} {D W : WL} (d : Dat u w) (hD : WdOK D) (hE : Nt.latE W l m = 0) (hx : SlR .i64 u x.a x.n x.c l) (hb : ∀ z ∈ l, -9223372036854775808 ≤ z ∧ z ≤ 9223372036854775807) (hy : SlR .i64 u y.a y.n y.c m) (hc : ∀ z ∈ m, -9223372036854775808 ≤ z ∧ z ≤ 9223372036854775807) : Calls Tryz.prog 17 #[x.v, y.v, D.v, W.v] w (Post u w fun v u' => ∃ (y z : Sl), v = .tuple #[.agg #[.int .i64 D.b, .int .i64 D.f, .int .i64 D.r, .int .i64 D.o, .int .i64 W.b, .int .i64 W.f, .int .i64 W.r, .int .i64 W.o, .int .i64 (l.length : Int), y.v, z.v, .int .i64 ((3 * l.length + 1 : Nat) : Int)], .int .i64 0] ∧ (∃ h, NodesB 0 h u' y (Nt.latNd (Nt.p2i W.f) l m l.length)) ∧ MutL 1 3 0 u' z (ics (Nt.nexN l.length l.length))) := by
 obtain ⟨hW, h8, hlm, hbl, hbm⟩ := Nt.latE_ok hE
 obtain ⟨hw1, hw2, hw3, hw4, hw5, hw6, hw7, hw8⟩ := id hW
 have hu0 := Nt.p2i_pos W.f
 have hu1 := Nt.p2i_24 (n := W.f) (by omega)
 have hu2 := Nt.p2i_mono (a := W.f) (b := W.b - 1) (by omega)
 have hu3 := Nt.p2i_24 (n := W.b - 1) (by omega)
 have hlx : l.length = x.n := hx.1
 have hly : m.length = y.n := hy.1
 obtain ⟨dw1, dw2, dw3, dw4, dw5, dw6, dw7, dw8⟩ := id hD
 refine zzl (args := [.slice x.a x.n x.c, .slice y.a y.n y.c, .agg #[.int .i64 D.b, .int .i64 D.f, .int .i64 D.r, .int .i64 D.o], .agg #[.int .i64 W.b, .int .i64 W.f, .int .i64 W.r, .int .i64 W.o]]) Tryz.func17 rfl Tryz.ntmps17 (rs := [.cell 8 49, .tmp 9]) Tryz.results17 (le_b rfl) (le_b rfl) d ?_
 refine sq9 ?_
 refine zzj 6 ⟨24, D.cs⟩ ?_
 refine zzj 7 ⟨24, W.cs⟩ ?_
 refine zzj 8 ⟨49, [.int .i64 0, .int .i64 0, .int .i64 0, .int .i64 0, .int .i64 0, .int .i64 0, .int .i64 0, .int .i64 0, .int .i64 0, .slice none 0 0, .slice none 0 0, .int .i64 0]⟩ ?_
 refine zza 9 (.v (.int .i64 0)) ?_
 refine zzb 165 [(0, .v x.v), (1, .v y.v), (6, .adr 6 0), (7, .adr 7 0), (8, .adr 8 0)] [(6, ⟨24, D.cs⟩), (7, ⟨24, W.cs⟩), (8, ⟨49, [.int .i64 0, .int .i64 0, .int .i64 0, .int .i64 0, .int .i64 0, .int .i64 0, .int .i64 0, .int .i64 0, .int .i64 0, .slice none 0 0, .slice none 0 0, .int .i64 0]⟩)] ?_
 refine zzc ?_
 refine sq9 ?_
 refine zzh 19 (.v (D.v)) ty24 zzd ?_
 refine zzf 20 75 [D.v] ?_
 intro w11 u11 e11 d11
 have k14 := k_fxValid (W := D) d11 hD
 with_reducible refine zPm k14 ?_
 rintro _ u12 g13 rfl
 refine zza 21 (.v (.bool false)) ?_
 refine zzb 165 [(0, .v x.v), (1, .v y.v), (6, .adr 6 0), (7, .adr 7 0), (8, .adr 8 0), (21, .v (.bool false))] [(6, ⟨24, D.cs⟩), (7, ⟨24, W.cs⟩), (8, ⟨49, [.int .i64 0, .int .i64 0, .int .i64 0, .int .i64 0, .int .i64 0, .int .i64 0, .int .i64 0, .int .i64 0, .int .i64 0, .slice none 0 0, .slice none 0 0, .int .i64 0]⟩)] ?_
 refine zyr (by kernel_rfl) ?_
 refine zzr (zzo ?_)
 refine zzc ?_
 refine sq9 ?_
 refine zza 23 (.v x.v) ?_
 refine zza 24 (.v y.v) ?_
 refine zzh 25 (.v (W.v)) ty24 zzd ?_
 refine zzf 26 47 [x.v, y.v, W.v] ?_
 intro w15 u15 e15 d15
 have k18 := (Post.mono (Ψ := fun v _ => v = .int .i64 0) (k_latWrongG (W := W) d15 (hx.ext (e11.trans (g13.ext.trans e15))) hb (hy.ext (e11.trans (g13.ext.trans e15))) hc) (fun v u9 _ h => by rw [hE] at h; exact h))
 with_reducible refine zPm k18 ?_
 rintro _ u16 g17 rfl
 refine zza 10 (.v (.int .i64 0)) ?_
 refine zzb 165 [(0, .v x.v), (1, .v y.v), (6, .adr 6 0), (7, .adr 7 0), (8, .adr 8 0), (10, .v (.int .i64 0))] [(6, ⟨24, D.cs⟩), (7, ⟨24, W.cs⟩), (8, ⟨49, [.int .i64 0, .int .i64 0, .int .i64 0, .int .i64 0, .int .i64 0, .int .i64 0, .int .i64 0, .int .i64 0, .int .i64 0, .slice none 0 0, .slice none 0 0, .int .i64 0]⟩)] ?_
 refine sq9 ?_
 refine zza 27 (.v (.int .i64 0)) ?_
 refine zza 28 (.v (.bool false)) ?_
 refine zzb 165 [(0, .v x.v), (1, .v y.v), (6, .adr 6 0), (7, .adr 7 0), (8, .adr 8 0), (10, .v (.int .i64 0)), (28, .v (.bool false))] [(6, ⟨24, D.cs⟩), (7, ⟨24, W.cs⟩), (8, ⟨49, [.int .i64 0, .int .i64 0, .int .i64 0, .int .i64 0, .int .i64 0, .int .i64 0, .int .i64 0, .int .i64 0, .int .i64 0, .slice none 0 0, .slice none 0 0, .int .i64 0]⟩)] ?_
 refine zyr (by kernel_rfl) ?_
 refine zzr (zzo ?_)
 refine sq9 ?_
 refine zza 31 (.v x.v) ?_
 refine zza 32 (.v (.int .i64 (x.n : Int))) ?_
 refine zza 11 (.v (.int .i64 (x.n : Int))) ?_
 refine zzb 165 [(0, .v x.v), (1, .v y.v), (6, .adr 6 0), (7, .adr 7 0), (8, .adr 8 0), (11, .v (.int .i64 (x.n : Int)))] [(6, ⟨24, D.cs⟩), (7, ⟨24, W.cs⟩), (8, ⟨49, [.int .i64 0, .int .i64 0, .int .i64 0, .int .i64 0, .int .i64 0, .int .i64 0, .int .i64 0, .int .i64 0, .int .i64 0, .slice none 0 0, .slice none 0 0, .int .i64 0]⟩)] ?_
 refine sq9 ?_
 refine zza 33 (.adr 7 1) ?_
 refine zzh 34 (.v (.int .i64 W.f)) ty3 zzk ?_
 refine sy_shl 35 (k := .i64) (s := W.f) (Nt.p2i W.f) (by omega) (by show _ ≤ (64 : Int); omega) (shl_one (by omega) (by omega)) ?_
 refine zza 12 (.v (.int .i64 (Nt.p2i W.f))) ?_
 refine zzb 165 [(0, .v x.v), (1, .v y.v), (6, .adr 6 0), (7, .adr 7 0), (8, .adr 8 0), (11, .v (.int .i64 (x.n : Int))), (12, .v (.int .i64 (Nt.p2i W.f)))] [(6, ⟨24, D.cs⟩), (7, ⟨24, W.cs⟩), (8, ⟨49, [.int .i64 0, .int .i64 0, .int .i64 0, .int .i64 0, .int .i64 0, .int .i64 0, .int .i64 0, .int .i64 0, .int .i64 0, .slice none 0 0, .slice none 0 0, .int .i64 0]⟩)] ?_
 refine zzc ?_
 refine zzy [0, 0, 0, 0, 8, 0, 32, 96, 255, 0, 1023] [(0, []), (1, []), (2, []), (3, []), (5, []), (6, []), (7, []), (9, []), (4, [40]), (8, []), (10, [])] (by kernel_rfl) (by kernel_rfl) ?_
 refine zzh 36 (.v (D.v)) ty24 zzd ?_
 refine zzh 37 (.v (W.v)) ty24 zzd ?_
 refine zza 38 (.v (.int .i64 (x.n : Int))) ?_
 refine zza 39 (.v (.int .i64 (x.n : Int))) ?_
 refine zza 41 (.v (.int .i64 (x.n : Int))) ?_
 refine zyp 42 (x := .v (.int .i64 (IntKind.i64.wrap ((3 : Int) * (x.n : Int))))) (.v (.int .i64 ((3 * x.n : Nat) : Int))) (eqI (by rw [IntWalk.i64_in _ (by omega)]; omega)) ?_
 refine zyp 43 (x := .v (.int .i64 (IntKind.i64.wrap (((3 * x.n : Nat) : Int) + 1)))) (.v (.int .i64 (((3 * x.n) + 1 : Nat) : Int))) (eqI (by rw [IntWalk.i64_in _ (by omega)]; omega)) ?_
 refine zzj 13 ⟨49, [.int .i64 0, .int .i64 0, .int .i64 0, .int .i64 0, .int .i64 0, .int .i64 0, .int .i64 0, .int .i64 0, .int .i64 0, .slice none 0 0, .slice none 0 0, .int .i64 0]⟩ ?_
 refine sy_makeN 40 (T := 22) (E := 3) (z := .int .i64 0) (size := 1) (bytes := 8) x.n (ics (List.replicate x.n 0)) (by kernel_rfl) (by kernel_rfl) rfl rfl (by omega) (by unfold maxLen; omega) (made_ints _) (fun b19 u19 e19 h19 f19 g19 => ?_)
 have hm20 : MutL 1 3 u.heap.size u19 (⟨some ⟨b19, 0, none⟩, x.n, x.n⟩ : Sl) (ics (List.replicate x.n 0)) := MutL.lit h19 (by rw [ics_len, List.length_replicate, Nat.mul_one]) (by unfold maxLen; omega) f19
 refine zza 44 (.v (.agg #[.int .i64 D.b, .int .i64 D.f, .int .i64 D.r, .int .i64 D.o, .int .i64 W.b, .int .i64 W.f, .int .i64 W.r, .int .i64 W.o, .int .i64 (x.n : Int), .slice none 0 0, .slice (some ⟨b19, 0, none⟩) x.n x.n, .int .i64 (((3 * x.n) + 1 : Nat) : Int)])) ?_
 refine zzi ⟨49, [.int .i64 D.b, .int .i64 D.f, .int .i64 D.r, .int .i64 D.o, .int .i64 W.b, .int .i64 W.f, .int .i64 W.r, .int .i64 W.o, .int .i64 (x.n : Int), .slice none 0 0, .slice (some ⟨b19, 0, none⟩) x.n x.n, .int .i64 (((3 * x.n) + 1 : Nat) : Int)]⟩ ty49 ?_
 refine zzb 165 [(0, .v x.v), (1, .v y.v), (8, .adr 8 0), (11, .v (.int .i64 (x.n : Int))), (12, .v (.int .i64 (Nt.p2i W.f))), (13, .adr 13 0)] [(8, ⟨49, [.int .i64 0, .int .i64 0, .int .i64 0, .int .i64 0, .int .i64 0, .int .i64 0, .int .i64 0, .int .i64 0, .int .i64 0, .slice none 0 0, .slice none 0 0, .int .i64 0]⟩), (13, ⟨49, [.int .i64 D.b, .int .i64 D.f, .int .i64 D.r, .int .i64 D.o, .int .i64 W.b, .int .i64 W.f, .int .i64 W.r, .int .i64 W.o, .int .i64 (x.n : Int), .slice none 0 0, .slice (some ⟨b19, 0, none⟩) x.n x.n, .int .i64 (((3 * x.n) + 1 : Nat) : Int)]⟩)] ?_
 refine sq9 ?_
 refine zza 45 (.v (.int .i64 (x.n : Int))) ?_
 refine zyp 46 (x := .v (.int .i64 (IntKind.i64.wrap ((x.n : Int) + 1)))) (.v (.int .i64 ((x.n + 1 : Nat) : Int))) (eqI (by rw [IntWalk.i64_in _ (by omega)]; omega)) ?_
 refine sy_make 47 (T := 22) (E := 3) (z := .int .i64 0) (size := 1) (bytes := 8) (x.n + 1) (ics (List.replicate (x.n + 1) 0)) (by kernel_rfl) (by kernel_rfl) rfl rfl (by omega) (by unfold maxLen; omega) (made_ints _) ?_
 refine zza 14 (.slc 47 0 (x.n + 1) (x.n + 1)) ?_
 refine zzb 165 [(0, .v x.v), (1, .v y.v), (8, .adr 8 0), (11, .v (.int .i64 (x.n : Int))), (12, .v (.int .i64 (Nt.p2i W.f))), (13, .adr 13 0), (14, .slc 47 0 (x.n + 1) (x.n + 1))] [(8, ⟨49, [.int .i64 0, .int .i64 0, .int .i64 0, .int .i64 0, .int .i64 0, .int .i64 0, .int .i64 0, .int .i64 0, .int .i64 0, .slice none 0 0, .slice none 0 0, .int .i64 0]⟩), (13, ⟨49, [.int .i64 D.b, .int .i64 D.f, .int .i64 D.r, .int .i64 D.o, .int .i64 W.b, .int .i64 W.f, .int .i64 W.r, .int .i64 W.o, .int .i64 (x.n : Int), .slice none 0 0, .slice (some ⟨b19, 0, none⟩) x.n x.n, .int .i64 (((3 * x.n) + 1 : Nat) : Int)]⟩), (47, ⟨3, ics (List.replicate (x.n + 1) 0)⟩)] ?_
 refine zzc ?_
 refine sq9 ?_
 refine zza 48 (.v (.int .i64 (x.n : Int))) ?_
 refine zza 15 (.v (.int .i64 (x.n : Int))) ?_
 refine zzb 165 [(0, .v x.v), (1, .v y.v), (8, .adr 8 0), (11, .v (.int .i64 (x.n : Int))), (12, .v (.int .i64 (Nt.p2i W.f))), (13, .adr 13 0), (14, .slc 47 0 (x.n + 1) (x.n + 1)), (15, .v (.int .i64 (x.n : Int)))] [(8, ⟨49, [.int .i64 0, .int .i64 0, .int .i64 0, .int .i64 0, .int .i64 0, .int .i64 0, .int .i64 0, .int .i64 0, .int .i64 0, .slice none 0 0, .slice none 0 0, .int .i64 0]⟩), (13, ⟨49, [.int .i64 D.b, .int .i64 D.f, .int .i64 D.r, .int .i64 D.o, .int .i64 W.b, .int .i64 W.f, .int .i64 W.r, .int .i64 W.o, .int .i64 (x.n : Int), .slice none 0 0, .slice (some ⟨b19, 0, none⟩) x.n x.n, .int .i64 (((3 * x.n) + 1 : Nat) : Int)]⟩), (47, ⟨3, ics (List.replicate (x.n + 1) 0)⟩)] ?_
 refine zzs ?_
 refine zym (I := fun m21 S' u' => ∃ (i : Nat) (bX : Nat) (X : Sl) (L : List Int), (m21 = i) ∧ (i ≤ x.n) ∧ (L.length = x.n + 1) ∧ (∀ j, i ≤ j → j ≤ x.n → L.getD j 0 = Nt.fwdN x.n j) ∧ (S' = St.of 165 [(0, .v (.slice x.a x.n x.c)), (1, .v (.slice y.a y.n y.c)), (8, .adr 8 0), (11, .v (.int .i64 (x.n : Int))), (12, .v (.int .i64 (Nt.p2i W.f))), (13, .adr 13 0), (14, .slc 47 0 (x.n + 1) (x.n + 1)), (15, .v (.int .i64 (i : Int)))] [(8, ⟨49, [.int .i64 0, .int .i64 0, .int .i64 0, .int .i64 0, .int .i64 0, .int .i64 0, .int .i64 0, .int .i64 0, .int .i64 0, .slice none 0 0, .slice none 0 0, .int .i64 0]⟩), (13, ⟨49, [.int .i64 D.b, .int .i64 D.f, .int .i64 D.r, .int .i64 D.o, .int .i64 W.b, .int .i64 W.f, .int .i64 W.r, .int .i64 W.o, .int .i64 (x.n : Int), .slice X.a X.n X.c, .slice (some ⟨bX, 0, none⟩) x.n x.n, .int .i64 ((3 * x.n + 1 : Nat) : Int)]⟩), (47, ⟨3, ics L⟩)]) ∧ (Ext u u') ∧ (NodesB u.heap.size bX u' X (Nt.ndA (Nt.p2i W.f) l x.n (x.n - i))) ∧ (MutL 1 3 u.heap.size u' (⟨some ⟨bX, 0, none⟩, x.n, x.n⟩ : Sl) (ics (Nt.nexN x.n 0)))) (fun m S u1 u2 e h => by obtain ⟨i, bX, X, L, hm, p0, p1, p2, hS, hE, f0, f1⟩ := h; exact ⟨i, bX, X, L, hm, p0, p1, p2, hS, hE.trans e, f0.ext e, f1.ext e⟩) _ (T := St.of 165 [(0, .v (.slice x.a x.n x.c)), (1, .v (.slice y.a y.n y.c)), (8, .adr 8 0), (11, .v (.int .i64 (x.n : Int))), (12, .v (.int .i64 (Nt.p2i W.f))), (13, .adr 13 0), (14, .slc 47 0 (x.n + 1) (x.n + 1)), (15, .v (.int .i64 (x.n : Int)))] [(8, ⟨49, [.int .i64 0, .int .i64 0, .int .i64 0, .int .i64 0, .int .i64 0, .int .i64 0, .int .i64 0, .int .i64 0, .int .i64 0, .slice none 0 0, .slice none 0 0, .int .i64 0]⟩), (13, ⟨49, [.int .i64 D.b, .int .i64 D.f, .int .i64 D.r, .int .i64 D.o, .int .i64 W.b, .int .i64 W.f, .int .i64 W.r, .int .i64 W.o, .int .i64 (x.n : Int), .slice none 0 0, .slice (some ⟨b19, 0, none⟩) x.n x.n, .int .i64 (((3 * x.n) + 1 : Nat) : Int)]⟩), (47, ⟨3, ics (List.replicate (x.n + 1) 0)⟩)]) (by exact zzu _ _ _) ⟨x.n, b19, ⟨none, 0, 0⟩, List.replicate (x.n + 1) 0, rfl, Nat.le_refl _, (by simp), Nt.fwd_zero x.n, rfl, (e11.trans (g13.ext.trans (e15.trans (g17.ext.trans e19)))), (by rw [Nat.sub_self]; exact NodesB.nil _ _ _), (by rw [Nt.nexN_zero]; exact hm20)⟩ ?_
 rintro m21 _ u21 ⟨i, bX, X, L, hm21, hi, hL, hF, rfl, e21, hN, hX⟩
 have hNl := hN.len
 rw [Nt.ndA_len] at hNl
 refine zzc ?_
 refine sq9 ?_
 refine zza 49 (.v (.int .i64 (i : Int))) ?_
 refine zza 50 (.v (.bool (decide ((1 : Int) ≤ (i : Int))))) ?_
 refine zzb 165 [(0, .v x.v), (1, .v y.v), (8, .adr 8 0), (11, .v (.int .i64 (x.n : Int))), (12, .v (.int .i64 (Nt.p2i W.f))), (13, .adr 13 0), (14, .slc 47 0 (x.n + 1) (x.n + 1)), (15, .v (.int .i64 (i : Int))), (50, .v (.bool (decide ((1 : Int) ≤ (i : Int)))))] [(8, ⟨49, [.int .i64 0, .int .i64 0, .int .i64 0, .int .i64 0, .int .i64 0, .int .i64 0, .int .i64 0, .int .i64 0, .int .i64 0, .slice none 0 0, .slice none 0 0, .int .i64 0]⟩), (13, ⟨49, [.int .i64 D.b, .int .i64 D.f, .int .i64 D.r, .int .i64 D.o, .int .i64 W.b, .int .i64 W.f, .int .i64 W.r, .int .i64 W.o, .int .i64 (x.n : Int), X.v, .slice (some ⟨bX, 0, none⟩) x.n x.n, .int .i64 ((3 * x.n + 1 : Nat) : Int)]⟩), (47, ⟨3, ics L⟩)] ?_
 refine zzt (b := decide ((1 : Int) ≤ (i : Int))) (by kernel_rfl) (fun hb22 => ?_) (fun hb22 => ?_)
 ·replace hb22 : (decide ((1 : Int) ≤ (i : Int))) = true := hb22
  have qhb22 := of_decide_eq_true hb22
  refine zzr (zzo ?_)
  refine zzc ?_
  refine zzs ?_
  refine sq9 ?_
  refine zza 53 (.slc 47 0 (x.n + 1) (x.n + 1)) ?_
  refine zza 54 (.v (.int .i64 (i : Int))) ?_
  refine zyp 55 (x := .v (.int .i64 (IntKind.i64.wrap ((i : Int) - 1)))) (.v (.int .i64 ((i - 1 : Nat) : Int))) (eqI (by rw [IntWalk.i64_in _ (by omega)]; omega)) ?_
  refine zza 56 (.v (.int .i64 (x.n : Int))) ?_
  refine zyp 57 (x := .v (.int .i64 (IntKind.i64.wrap ((1 : Int) + (x.n : Int))))) (.v (.int .i64 ((1 + x.n : Nat) : Int))) (eqI (by rw [IntWalk.i64_in _ (by omega)]; omega)) ?_
  refine zza 58 (.v (.int .i64 (x.n : Int))) ?_
  refine zyp 59 (x := .v (.int .i64 (IntKind.i64.wrap (((1 + x.n : Nat) : Int) + (x.n : Int))))) (.v (.int .i64 (((1 + x.n) + x.n : Nat) : Int))) (eqI (by rw [IntWalk.i64_in _ (by omega)]; omega)) ?_
  refine zza 60 (.v (.int .i64 (i : Int))) ?_
  refine zyp 61 (x := .v (.int .i64 (IntKind.i64.wrap ((((1 + x.n) + x.n : Nat) : Int) - (i : Int))))) (.v (.int .i64 ((((1 + x.n) + x.n) - i : Nat) : Int))) (eqI (by rw [IntWalk.i64_in _ (by omega)]; omega)) ?_
  refine zyv 62 (off' := (i - 1) * 1) (n := x.n + 1) (off := 0) (sz := 1) (i := ((i - 1 : Nat) : Int)) sl22 (by omega) (by omega) (by omega) ?_
  refine zyu (V := ⟨3, ics L⟩) (off := (i - 1) * 1) (ics ((L).set (i - 1) ((((1 + x.n) + x.n) - i : Nat) : Int))) ty3 (by rw [ics_len]; first | omega | (simp; done) | (simp; omega)) (setL_ints (z := ((((1 + x.n) + x.n) - i : Nat) : Int)) (i := i - 1) (by first | omega | (simp; done) | (simp; omega)) rfl) ?_
  refine zzb 165 [(0, .v x.v), (1, .v y.v), (8, .adr 8 0), (11, .v (.int .i64 (x.n : Int))), (12, .v (.int .i64 (Nt.p2i W.f))), (13, .adr 13 0), (14, .slc 47 0 (x.n + 1) (x.n + 1)), (15, .v (.int .i64 (i : Int)))] [(8, ⟨49, [.int .i64 0, .int .i64 0, .int .i64 0, .int .i64 0, .int .i64 0, .int .i64 0, .int .i64 0, .int .i64 0, .int .i64 0, .slice none 0 0, .slice none 0 0, .int .i64 0]⟩), (13, ⟨49, [.int .i64 D.b, .int .i64 D.f, .int .i64 D.r, .int .i64 D.o, .int .i64 W.b, .int .i64 W.f, .int .i64 W.r, .int .i64 W.o, .int .i64 (x.n : Int), X.v, .slice (some ⟨bX, 0, none⟩) x.n x.n, .int .i64 ((3 * x.n + 1 : Nat) : Int)]⟩), (47, ⟨3, ics ((L).set (i - 1) ((((1 + x.n) + x.n) - i : Nat) : Int))⟩)] ?_
  refine sw_anyC [0, 1, 0, 0, 12, 28, 0, 124, 0, 0, 0, 1024, 3584, 7680, 15872, 32512, 65532, 131068, 262140, 524287, 1048575, 2097151] [(0, []), (1, []), (2, []), (3, []), (4, []), (5, []), (6, []), (7, []), (8, []), (9, []), (10, []), (11, []), (12, []), (13, []), (14, []), (15, []), (16, [79]), (17, []), (18, [81])] [(19, []), (20, []), (21, [])] (by kernel_rfl) (by kernel_rfl) (by kernel_rfl) ?_
  refine zza 63 (.adr 13 9) ?_
  refine zzh 64 (.v X.v) ty47 zzk ?_
  refine zza 65 (.slc 47 0 (x.n + 1) (x.n + 1)) ?_
  refine zza 66 (.v (.int .i64 (i : Int))) ?_
  refine zyv 67 (off' := i * 1) (n := x.n + 1) (off := 0) (sz := 1) (i := (i : Int)) sl22 (by omega) (by omega) (by omega) ?_
  refine zzh 68 (V := ⟨3, ics ((L).set (i - 1) ((((1 + x.n) + x.n) - i : Nat) : Int))⟩) (off := i * 1) (.v (.int .i64 (((L).set (i - 1) ((((1 + x.n) + x.n) - i : Nat) : Int)).getD i 0))) ty3 (part_ints (L := (L).set (i - 1) ((((1 + x.n) + x.n) - i : Nat) : Int)) (i := i) (by first | omega | (simp; done) | (simp; omega)) rfl) ?_
  refine zza 69 (.v (.int .i64 (Nt.p2i W.f))) ?_
  refine zza 70 (.v (.agg #[.int .i64 (((L).set (i - 1) ((((1 + x.n) + x.n) - i : Nat) : Int)).getD i 0), .int .i64 (Nt.p2i W.f)])) ?_
  refine zza 71 (.v (.int .i64 (i : Int))) ?_
  refine zza 72 (.v x.v) ?_
  refine zza 73 (.v (.int .i64 (i : Int))) ?_
  refine zyp 74 (x := .v (.int .i64 (IntKind.i64.wrap ((i : Int) - 1)))) (.v (.int .i64 ((i - 1 : Nat) : Int))) (eqI (by rw [IntWalk.i64_in _ (by omega)]; omega)) ?_
  have hl23 := ((hx.ext e21)).1
  obtain ⟨b23, o23, hA23, hc23⟩ := ints_at (hx.ext e21) (i := i - 1) (by omega)
  have hz23 := ints_bd hbl (by omega) (i - 1)
  refine zzz 75 (o23 + (i - 1) * 1) (n := x.n) (off := o23) (sz := 1) (i := ((i - 1 : Nat) : Int)) (by omega) hA23 (by omega) (by omega) sl22 ?_
  refine zyk 76 (.int .i64 (l.getD (i - 1) 0)) hc23 ty3 ?_
  refine zyp 77 (x := .v (.int .i64 (IntKind.i64.wrap (0 - (l.getD (i - 1) 0))))) (.v (.int .i64 (-(l.getD (i - 1) 0)))) (eqI (by rw [IntWalk.i64_in _ (by omega)]; omega)) ?_
  refine zza 78 (.v (.agg #[.int .i64 (i : Int), .int .i64 (-(l.getD (i - 1) 0))])) ?_
  refine sy_dataN 79 ⟨78, [.int .i64 (((L).set (i - 1) ((((1 + x.n) + x.n) - i : Nat) : Int)).getD i 0), .int .i64 (Nt.p2i W.f), .int .i64 (i : Int), .int .i64 (-(l.getD (i - 1) 0))]⟩ 2 (fun b24 u24 e24 h24 f24 g24 => ?_)
  have hm25 : MutL 2 78 u.heap.size u24 (⟨some ⟨b24, 0, none⟩, 2, 2⟩ : Sl) (tcs [(⟨(((L).set (i - 1) ((((1 + x.n) + x.n) - i : Nat) : Int)).getD i 0), Nt.p2i W.f⟩ : TL), (⟨(i : Int), -(l.getD (i - 1) 0)⟩ : TL)]) := MutL.lit h24 rfl (by unfold maxLen; omega) f24
  refine zza 80 (.v (.agg #[.slice (some ⟨b24, 0, none⟩) 2 2])) ?_
  refine sy_dataN 81 ⟨76, [.slice (some ⟨b24, 0, none⟩) 2 2]⟩ 1 (fun b26 u26 e26 h26 f26 g26 => ?_)
  have hm27 : MutL 1 76 u.heap.size u26 (⟨some ⟨b26, 0, none⟩, 1, 1⟩ : Sl) [.slice (some ⟨b24, 0, none⟩) 2 2] := MutL.lit h26 rfl (by unfold maxLen; omega) f26
  refine zzw ?_
  obtain ⟨Ls28, gA28, gB28, gC28⟩ := id (hN.ext (e24.trans e26))
  have hnl28 := NodesB.len (hN.ext (e24.trans e26))
  refine sy_appM 82 (T := 47) (E := 76) (z := .agg #[.slice none 0 0]) (size := 1) (bytes := 24) (b2 := b26) (off := 0) (m := 1) X (Ls28.map Sl.v) [.slice (some ⟨b24, 0, none⟩) 2 2] gA28 (by kernel_rfl) (by kernel_rfl) (by kernel_rfl) (by decide) rfl (lit_news ((Ext.refl _).cells h26)) (sl_one (⟨some ⟨b24, 0, none⟩, 2, 2⟩ : Sl)) (by decide) (by unfold maxLen; omega) (by omega) (fun y28 u28 hm28 hn28 eX28 ho28 => ?_)
  have hN29 := NodesB.snoc (ts := [(⟨(((L).set (i - 1) ((((1 + x.n) + x.n) - i : Nat) : Int)).getD i 0), Nt.p2i W.f⟩ : TL), (⟨(i : Int), -(l.getD (i - 1) 0)⟩ : TL)]) gA28 gB28 gC28 (hm25.ext e26) (fun a ha hc => by injection ha with ha; subst ha; have h9 : bX < _ := MutL.lt (hX) rfl; have h8 : b24 = bX := hc; omega) eX28 hm28
  have eT30 := ExtX.t eX28 gA28
  have eT30r := ExtX.root eX28 gA28 (e21.trans (e24.trans e26))
  have hk31 := MutL.extT (hX.ext (e24.trans e26)) eT30 (by decide)
  have hN29l := NodesB.len hN29
  simp only [List.length_append, List.length_cons, List.length_nil, Nt.ndA_len] at hN29l
  refine zza 83 (.adr 13 9) ?_
  refine zzi ⟨49, [.int .i64 D.b, .int .i64 D.f, .int .i64 D.r, .int .i64 D.o, .int .i64 W.b, .int .i64 W.f, .int .i64 W.r, .int .i64 W.o, .int .i64 (x.n : Int), y28.v, .slice (some ⟨bX, 0, none⟩) x.n x.n, .int .i64 ((3 * x.n + 1 : Nat) : Int)]⟩ ty47 ?_
  refine zzw ?_
  refine zzo ?_
  refine zze ?_
  refine zza 51 (.v (.int .i64 (i : Int))) ?_
  refine zyp 52 (x := .v (.int .i64 (IntKind.i64.wrap ((i : Int) - 1)))) (.v (.int .i64 ((i - 1 : Nat) : Int))) (eqI (by rw [IntWalk.i64_in _ (by omega)]; omega)) ?_
  refine zza 15 (.v (.int .i64 ((i - 1 : Nat) : Int))) ?_
  refine zzw ?_
  refine ⟨_, ?_, St.of 165 [(0, .v (.slice x.a x.n x.c)), (1, .v (.slice y.a y.n y.c)), (8, .adr 8 0), (11, .v (.int .i64 (x.n : Int))), (12, .v (.int .i64 (Nt.p2i W.f))), (13, .adr 13 0), (14, .slc 47 0 (x.n + 1) (x.n + 1)), (15, .v (.int .i64 ((i - 1 : Nat) : Int)))] [(8, ⟨49, [.int .i64 0, .int .i64 0, .int .i64 0, .int .i64 0, .int .i64 0, .int .i64 0, .int .i64 0, .int .i64 0, .int .i64 0, .slice none 0 0, .slice none 0 0, .int .i64 0]⟩), (13, ⟨49, [.int .i64 D.b, .int .i64 D.f, .int .i64 D.r, .int .i64 D.o, .int .i64 W.b, .int .i64 W.f, .int .i64 W.r, .int .i64 W.o, .int .i64 (x.n : Int), .slice y28.a y28.n y28.c, .slice (some ⟨bX, 0, none⟩) x.n x.n, .int .i64 ((3 * x.n + 1 : Nat) : Int)]⟩), (47, ⟨3, ics ((L).set (i - 1) ((((1 + x.n) + x.n) - i : Nat) : Int))⟩)], by exact zzu _ _ _, i - 1, bX, y28, (L).set (i - 1) ((((1 + x.n) + x.n) - i : Nat) : Int), rfl, by omega, (by rw [List.length_set]; exact hL), (Nt.fwd_set hL hF (by omega) hi (by omega)), rfl, eT30r, (Nt.ndA_step hN29 (by omega) hi (by rw [Nt.getD_setI _ _ _ _ (by omega), if_neg (by omega)]; exact hF i (Nat.le_refl _) hi) rfl), hk31⟩
  omega
 ·replace hb22 : (decide ((1 : Int) ≤ (i : Int))) = false := hb22
  have qhb22 := of_decide_eq_false hb22
  refine zyb ?_
  refine zzo ?_
  refine zzc ?_
  have hi0 : i = 0 := by omega
  have hN0 := hN
  rw [hi0, Nat.sub_zero] at hN0
  have hF0 := hF
  rw [hi0] at hF0
  clear hF
  refine zze ?_
  refine zza 84 (.v (.int .i64 (x.n : Int))) ?_
  refine zyp 85 (x := .v (.int .i64 (IntKind.i64.wrap ((x.n : Int) + 1)))) (.v (.int .i64 ((x.n + 1 : Nat) : Int))) (eqI (by rw [IntWalk.i64_in _ (by omega)]; omega)) ?_
  refine sy_make 86 (T := 22) (E := 3) (z := .int .i64 0) (size := 1) (bytes := 8) (x.n + 1) (ics (List.replicate (x.n + 1) 0)) (by kernel_rfl) (by kernel_rfl) rfl rfl (by omega) (by unfold maxLen; omega) (made_ints _) ?_
  refine zza 16 (.slc 86 0 (x.n + 1) (x.n + 1)) ?_
  refine zzb 165 [(0, .v x.v), (1, .v y.v), (8, .adr 8 0), (11, .v (.int .i64 (x.n : Int))), (12, .v (.int .i64 (Nt.p2i W.f))), (13, .adr 13 0), (14, .slc 47 0 (x.n + 1) (x.n + 1)), (16, .slc 86 0 (x.n + 1) (x.n + 1))] [(8, ⟨49, [.int .i64 0, .int .i64 0, .int .i64 0, .int .i64 0, .int .i64 0, .int .i64 0, .int .i64 0, .int .i64 0, .int .i64 0, .slice none 0 0, .slice none 0 0, .int .i64 0]⟩), (13, ⟨49, [.int .i64 D.b, .int .i64 D.f, .int .i64 D.r, .int .i64 D.o, .int .i64 W.b, .int .i64 W.f, .int .i64 W.r, .int .i64 W.o, .int .i64 (x.n : Int), X.v, .slice (some ⟨bX, 0, none⟩) x.n x.n, .int .i64 ((3 * x.n + 1 : Nat) : Int)]⟩), (47, ⟨3, ics L⟩), (86, ⟨3, ics (List.replicate (x.n + 1) 0)⟩)] ?_
  refine sq9 ?_
  refine zza 87 (.slc 86 0 (x.n + 1) (x.n + 1)) ?_
  refine zza 88 (.slc 47 0 (x.n + 1) (x.n + 1)) ?_
  refine zyv 89 (off' := 0 * 1) (n := x.n + 1) (off := 0) (sz := 1) (i := 0) sl22 (by omega) (by omega) (by omega) ?_
  refine zzh 90 (V := ⟨3, ics L⟩) (off := 0 * 1) (.v (.int .i64 (L.getD 0 0))) ty3 (part_ints (L := L) (i := 0) (by first | omega | (simp; done) | (simp; omega)) rfl) ?_
  refine zyv 91 (off' := 0 * 1) (n := x.n + 1) (off := 0) (sz := 1) (i := 0) sl22 (by omega) (by omega) (by omega) ?_
  refine zyu (V := ⟨3, ics (List.replicate (x.n + 1) 0)⟩) (off := 0 * 1) (ics ((List.replicate (x.n + 1) 0).set 0 (L.getD 0 0))) ty3 (by rw [ics_len]; first | omega | (simp; done) | (simp; omega)) (setL_ints (z := (L.getD 0 0)) (i := 0) (by first | omega | (simp; done) | (simp; omega)) rfl) ?_
  refine zzb 165 [(0, .v x.v), (1, .v y.v), (8, .adr 8 0), (11, .v (.int .i64 (x.n : Int))), (12, .v (.int .i64 (Nt.p2i W.f))), (13, .adr 13 0), (14, .slc 47 0 (x.n + 1) (x.n + 1)), (16, .slc 86 0 (x.n + 1) (x.n + 1))] [(8, ⟨49, [.int .i64 0, .int .i64 0, .int .i64 0, .int .i64 0, .int .i64 0, .int .i64 0, .int .i64 0, .int .i64 0, .int .i64 0, .slice none 0 0, .slice none 0 0, .int .i64 0]⟩), (13, ⟨49, [.int .i64 D.b, .int .i64 D.f, .int .i64 D.r, .int .i64 D.o, .int .i64 W.b, .int .i64 W.f, .int .i64 W.r, .int .i64 W.o, .int .i64 (x.n : Int), X.v, .slice (some ⟨bX, 0, none⟩) x.n x.n, .int .i64 ((3 * x.n + 1 : Nat) : Int)]⟩), (47, ⟨3, ics L⟩), (86, ⟨3, ics ((List.replicate (x.n + 1) 0).set 0 (L.getD 0 0))⟩)] ?_
  refine zzc ?_
  refine zzy [0, 1, 3, 0, 8, 24, 63, 127, 255, 0, 1023] [(0, []), (1, []), (2, []), (3, []), (4, []), (5, []), (6, []), (9, []), (7, [99]), (8, []), (10, [])] (by kernel_rfl) (by kernel_rfl) ?_
  refine zza 92 (.slc 47 0 (x.n + 1) (x.n + 1)) ?_
  refine zyv 93 (off' := 0 * 1) (n := x.n + 1) (off := 0) (sz := 1) (i := 0) sl22 (by omega) (by omega) (by omega) ?_
  refine zzh 94 (V := ⟨3, ics L⟩) (off := 0 * 1) (.v (.int .i64 (L.getD 0 0))) ty3 (part_ints (L := L) (i := 0) (by first | omega | (simp; done) | (simp; omega)) rfl) ?_
  refine zza 95 (.v y.v) ?_
  have hl32 := ((hy.ext e21)).1
  obtain ⟨b32, o32, hA32, hc32⟩ := ints_at (hy.ext e21) (i := 0) (by omega)
  have hz32 := ints_bd hbm (by omega) 0
  refine zzz 96 (o32 + 0 * 1) (n := y.n) (off := o32) (sz := 1) (i := 0) (by omega) hA32 (by omega) (by omega) sl22 ?_
  refine zyk 97 (.int .i64 (m.getD 0 0)) hc32 ty3 ?_
  refine zza 98 (.v (.agg #[.int .i64 (L.getD 0 0), .int .i64 (m.getD 0 0)])) ?_
  refine zzj 17 ⟨76, [.slice none 0 0]⟩ ?_
  refine sy_dataN 99 ⟨78, [.int .i64 (L.getD 0 0), .int .i64 (m.getD 0 0)]⟩ 1 (fun b33 u33 e33 h33 f33 g33 => ?_)
  have hm34 : MutL 2 78 u.heap.size u33 (⟨some ⟨b33, 0, none⟩, 1, 1⟩ : Sl) (tcs [(⟨(L.getD 0 0), (m.getD 0 0)⟩ : TL)]) := MutL.lit h33 rfl (by unfold maxLen; omega) f33
  refine zza 100 (.v (.agg #[.slice (some ⟨b33, 0, none⟩) 1 1])) ?_
  refine zzi ⟨76, [.slice (some ⟨b33, 0, none⟩) 1 1]⟩ ty76 ?_
  refine zzb 165 [(0, .v x.v), (1, .v y.v), (8, .adr 8 0), (11, .v (.int .i64 (x.n : Int))), (12, .v (.int .i64 (Nt.p2i W.f))), (13, .adr 13 0), (14, .slc 47 0 (x.n + 1) (x.n + 1)), (16, .slc 86 0 (x.n + 1) (x.n + 1)), (17, .adr 17 0)] [(8, ⟨49, [.int .i64 0, .int .i64 0, .int .i64 0, .int .i64 0, .int .i64 0, .int .i64 0, .int .i64 0, .int .i64 0, .int .i64 0, .slice none 0 0, .slice none 0 0, .int .i64 0]⟩), (13, ⟨49, [.int .i64 D.b, .int .i64 D.f, .int .i64 D.r, .int .i64 D.o, .int .i64 W.b, .int .i64 W.f, .int .i64 W.r, .int .i64 W.o, .int .i64 (x.n : Int), X.v, .slice (some ⟨bX, 0, none⟩) x.n x.n, .int .i64 ((3 * x.n + 1 : Nat) : Int)]⟩), (17, ⟨76, [.slice (some ⟨b33, 0, none⟩) 1 1]⟩), (47, ⟨3, ics L⟩), (86, ⟨3, ics ((List.replicate (x.n + 1) 0).set 0 (L.getD 0 0))⟩)] ?_
  refine zzc ?_
  refine zzc ?_
  have hN1 := NodesB.excl2 hN0 e33 g33
  have hZ1 := hm34
  refine zze ?_
  refine zza 18 (.v (.int .i64 1)) ?_
  refine zzb 165 [(0, .v x.v), (1, .v y.v), (8, .adr 8 0), (11, .v (.int .i64 (x.n : Int))), (12, .v (.int .i64 (Nt.p2i W.f))), (13, .adr 13 0), (14, .slc 47 0 (x.n + 1) (x.n + 1)), (16, .slc 86 0 (x.n + 1) (x.n + 1)), (17, .adr 17 0), (18, .v (.int .i64 1))] [(8, ⟨49, [.int .i64 0, .int .i64 0, .int .i64 0, .int .i64 0, .int .i64 0, .int .i64 0, .int .i64 0, .int .i64 0, .int .i64 0, .slice none 0 0, .slice none 0 0, .int .i64 0]⟩), (13, ⟨49, [.int .i64 D.b, .int .i64 D.f, .int .i64 D.r, .int .i64 D.o, .int .i64 W.b, .int .i64 W.f, .int .i64 W.r, .int .i64 W.o, .int .i64 (x.n : Int), X.v, .slice (some ⟨bX, 0, none⟩) x.n x.n, .int .i64 ((3 * x.n + 1 : Nat) : Int)]⟩), (17, ⟨76, [.slice (some ⟨b33, 0, none⟩) 1 1]⟩), (47, ⟨3, ics L⟩), (86, ⟨3, ics ((List.replicate (x.n + 1) 0).set 0 (L.getD 0 0))⟩)] ?_
  refine zzs ?_
  refine zym (I := fun m35 S' u' => ∃ (i : Nat) (bX : Nat) (hz : Nat) (X : Sl) (Z : Sl) (M : List Int), (m35 = x.n + 1 - i) ∧ (1 ≤ i) ∧ (i ≤ x.n + 1) ∧ (Z.a = some ⟨hz, 0, none⟩) ∧ (M.length = x.n + 1) ∧ (∀ j, j < i → M.getD j 0 = Nt.bakN x.n j) ∧ (S' = St.of 165 [(0, .v (.slice x.a x.n x.c)), (1, .v (.slice y.a y.n y.c)), (8, .adr 8 0), (11, .v (.int .i64 (x.n : Int))), (12, .v (.int .i64 (Nt.p2i W.f))), (13, .adr 13 0), (14, .slc 47 0 (x.n + 1) (x.n + 1)), (16, .slc 86 0 (x.n + 1) (x.n + 1)), (17, .adr 17 0), (18, .v (.int .i64 (i : Int)))] [(8, ⟨49, [.int .i64 0, .int .i64 0, .int .i64 0, .int .i64 0, .int .i64 0, .int .i64 0, .int .i64 0, .int .i64 0, .int .i64 0, .slice none 0 0, .slice none 0 0, .int .i64 0]⟩), (13, ⟨49, [.int .i64 D.b, .int .i64 D.f, .int .i64 D.r, .int .i64 D.o, .int .i64 W.b, .int .i64 W.f, .int .i64 W.r, .int .i64 W.o, .int .i64 (x.n : Int), .slice X.a X.n X.c, .slice (some ⟨bX, 0, none⟩) x.n x.n, .int .i64 ((3 * x.n + 1 : Nat) : Int)]⟩), (17, ⟨76, [.slice Z.a Z.n Z.c]⟩), (47, ⟨3, ics L⟩), (86, ⟨3, ics M⟩)]) ∧ (Ext u u') ∧ (NodesB u.heap.size hz u' X (Nt.ndB (Nt.p2i W.f) l x.n (i - 1))) ∧ (MutL 1 3 u.heap.size u' (⟨some ⟨bX, 0, none⟩, x.n, x.n⟩ : Sl) (ics (Nt.nexN x.n (i - 1)))) ∧ (MutL 2 78 u.heap.size u' Z (tcs (Nt.lasN m x.n i)))) (fun m S u1 u2 e h => by obtain ⟨i, bX, hz, X, Z, M, hm, p0, p1, p2, p3, p4, hS, hE, f0, f1, f2⟩ := h; exact ⟨i, bX, hz, X, Z, M, hm, p0, p1, p2, p3, p4, hS, hE.trans e, f0.ext e, f1.ext e, f2.ext e⟩) _ (T := St.of 165 [(0, .v (.slice x.a x.n x.c)), (1, .v (.slice y.a y.n y.c)), (8, .adr 8 0), (11, .v (.int .i64 (x.n : Int))), (12, .v (.int .i64 (Nt.p2i W.f))), (13, .adr 13 0), (14, .slc 47 0 (x.n + 1) (x.n + 1)), (16, .slc 86 0 (x.n + 1) (x.n + 1)), (17, .adr 17 0), (18, .v (.int .i64 1))] [(8, ⟨49, [.int .i64 0, .int .i64 0, .int .i64 0, .int .i64 0, .int .i64 0, .int .i64 0, .int .i64 0, .int .i64 0, .int .i64 0, .slice none 0 0, .slice none 0 0, .int .i64 0]⟩), (13, ⟨49, [.int .i64 D.b, .int .i64 D.f, .int .i64 D.r, .int .i64 D.o, .int .i64 W.b, .int .i64 W.f, .int .i64 W.r, .int .i64 W.o, .int .i64 (x.n : Int), .slice X.a X.n X.c, .slice (some ⟨bX, 0, none⟩) x.n x.n, .int .i64 ((3 * x.n + 1 : Nat) : Int)]⟩), (17, ⟨76, [.slice (some ⟨b33, 0, none⟩) 1 1]⟩), (47, ⟨3, ics L⟩), (86, ⟨3, ics ((List.replicate (x.n + 1) 0).set 0 (L.getD 0 0))⟩)]) (by exact zzu _ _ _) ⟨1, bX, b33, X, (⟨some ⟨b33, 0, none⟩, 1, 1⟩ : Sl), (List.replicate (x.n + 1) 0).set 0 (L.getD 0 0), rfl, by omega, by omega, rfl, (by rw [List.length_set]; simp), (Nt.bak_one (by simp) (hF0 0 (Nat.zero_le _) (Nat.zero_le _))), rfl, (e21.trans e33), (by rw [Nat.sub_self]; exact (show NodesB _ _ _ _ (Nt.ndB _ _ _ 0) from (by unfold Nt.ndB; rw [show (List.range 0).map (Nt.nd2 (Nt.p2i W.f) l x.n) = [] from rfl, List.append_nil]; exact hN1))), (hX.ext e33), (Nt.las_one hm34 (hF0 0 (Nat.zero_le _) (Nat.zero_le _)))⟩ ?_
  rintro m35 _ u35 ⟨i, bX, hz, X, Z, M, hm35, hi1, hi2, hZa, hM, hB, rfl, e35, hN2, hX2, hZ2⟩
  have hNl2 := hN2.len
  rw [Nt.ndB_len] at hNl2
  have hZl := hZ2.1
  rw [tcs_len] at hZl
  have hzl2 : (Nt.lasN m x.n i).length = i := by unfold Nt.lasN; simp
  refine zzc ?_
  refine sq9 ?_
  refine zza 101 (.v (.int .i64 (i : Int))) ?_
  refine zza 102 (.v (.int .i64 (x.n : Int))) ?_
  refine zza 103 (.v (.bool (decide ((i : Int) ≤ (x.n : Int))))) ?_
  refine zzb 165 [(0, .v x.v), (1, .v y.v), (8, .adr 8 0), (11, .v (.int .i64 (x.n : Int))), (12, .v (.int .i64 (Nt.p2i W.f))), (13, .adr 13 0), (14, .slc 47 0 (x.n + 1) (x.n + 1)), (16, .slc 86 0 (x.n + 1) (x.n + 1)), (17, .adr 17 0), (18, .v (.int .i64 (i : Int))), (103, .v (.bool (decide ((i : Int) ≤ (x.n : Int)))))] [(8, ⟨49, [.int .i64 0, .int .i64 0, .int .i64 0, .int .i64 0, .int .i64 0, .int .i64 0, .int .i64 0, .int .i64 0, .int .i64 0, .slice none 0 0, .slice none 0 0, .int .i64 0]⟩), (13, ⟨49, [.int .i64 D.b, .int .i64 D.f, .int .i64 D.r, .int .i64 D.o, .int .i64 W.b, .int .i64 W.f, .int .i64 W.r, .int .i64 W.o, .int .i64 (x.n : Int), X.v, .slice (some ⟨bX, 0, none⟩) x.n x.n, .int .i64 ((3 * x.n + 1 : Nat) : Int)]⟩), (17, ⟨76, [Z.v]⟩), (47, ⟨3, ics L⟩), (86, ⟨3, ics M⟩)] ?_
  refine zzt (b := decide ((i : Int) ≤ (x.n : Int))) (by kernel_rfl) (fun hb36 => ?_) (fun hb36 => ?_)
  ·replace hb36 : (decide ((i : Int) ≤ (x.n : Int))) = true := hb36
   have qhb36 := of_decide_eq_true hb36
   refine zzr (zzo ?_)
   refine zzc ?_
   refine zzs ?_
   refine sq9 ?_
   refine zza 106 (.slc 86 0 (x.n + 1) (x.n + 1)) ?_
   refine zza 107 (.v (.int .i64 (i : Int))) ?_
   refine zza 108 (.v (.int .i64 (x.n : Int))) ?_
   refine zyp 109 (x := .v (.int .i64 (IntKind.i64.wrap ((2 : Int) * (x.n : Int))))) (.v (.int .i64 ((2 * x.n : Nat) : Int))) (eqI (by rw [IntWalk.i64_in _ (by omega)]; omega)) ?_
   refine zza 110 (.v (.int .i64 (i : Int))) ?_
   refine zyp 111 (x := .v (.int .i64 (IntKind.i64.wrap (((2 * x.n : Nat) : Int) + (i : Int))))) (.v (.int .i64 (((2 * x.n) + i : Nat) : Int))) (eqI (by rw [IntWalk.i64_in _ (by omega)]; omega)) ?_
   refine zyv 112 (off' := i * 1) (n := x.n + 1) (off := 0) (sz := 1) (i := (i : Int)) sl22 (by omega) (by omega) (by omega) ?_
   refine zyu (V := ⟨3, ics M⟩) (off := i * 1) (ics ((M).set i (((2 * x.n) + i : Nat) : Int))) ty3 (by rw [ics_len]; first | omega | (simp; done) | (simp; omega)) (setL_ints (z := (((2 * x.n) + i : Nat) : Int)) (i := i) (by first | omega | (simp; done) | (simp; omega)) rfl) ?_
   refine zzb 165 [(0, .v x.v), (1, .v y.v), (8, .adr 8 0), (11, .v (.int .i64 (x.n : Int))), (12, .v (.int .i64 (Nt.p2i W.f))), (13, .adr 13 0), (14, .slc 47 0 (x.n + 1) (x.n + 1)), (16, .slc 86 0 (x.n + 1) (x.n + 1)), (17, .adr 17 0), (18, .v (.int .i64 (i : Int)))] [(8, ⟨49, [.int .i64 0, .int .i64 0, .int .i64 0, .int .i64 0, .int .i64 0, .int .i64 0, .int .i64 0, .int .i64 0, .int .i64 0, .slice none 0 0, .slice none 0 0, .int .i64 0]⟩), (13, ⟨49, [.int .i64 D.b, .int .i64 D.f, .int .i64 D.r, .int .i64 D.o, .int .i64 W.b, .int .i64 W.f, .int .i64 W.r, .int .i64 W.o, .int .i64 (x.n : Int), X.v, .slice (some ⟨bX, 0, none⟩) x.n x.n, .int .i64 ((3 * x.n + 1 : Nat) : Int)]⟩), (17, ⟨76, [Z.v]⟩), (47, ⟨3, ics L⟩), (86, ⟨3, ics ((M).set i (((2 * x.n) + i : Nat) : Int))⟩)] ?_
   refine zzc ?_
   refine sw_anyC [0, 1, 0, 0, 8, 28, 60, 0, 0, 256, 896, 1920, 4092, 0, 0, 24576, 65532, 131068, 262140, 524287, 1048575, 2097151] [(0, []), (1, []), (2, []), (3, []), (4, []), (5, []), (6, []), (7, []), (8, []), (9, []), (10, []), (11, []), (12, []), (13, []), (14, []), (15, []), (16, [129]), (17, []), (18, [131])] [(19, []), (20, []), (21, [])] (by kernel_rfl) (by kernel_rfl) (by kernel_rfl) ?_
   refine zza 113 (.adr 13 9) ?_
   refine zzh 114 (.v X.v) ty47 zzk ?_
   refine zza 115 (.slc 47 0 (x.n + 1) (x.n + 1)) ?_
   refine zza 116 (.v (.int .i64 (i : Int))) ?_
   refine zyp 117 (x := .v (.int .i64 (IntKind.i64.wrap ((i : Int) - 1)))) (.v (.int .i64 ((i - 1 : Nat) : Int))) (eqI (by rw [IntWalk.i64_in _ (by omega)]; omega)) ?_
   refine zyv 118 (off' := (i - 1) * 1) (n := x.n + 1) (off := 0) (sz := 1) (i := ((i - 1 : Nat) : Int)) sl22 (by omega) (by omega) (by omega) ?_
   refine zzh 119 (V := ⟨3, ics L⟩) (off := (i - 1) * 1) (.v (.int .i64 (L.getD (i - 1) 0))) ty3 (part_ints (L := L) (i := i - 1) (by first | omega | (simp; done) | (simp; omega)) rfl) ?_
   refine zza 120 (.v x.v) ?_
   refine zza 121 (.v (.int .i64 (i : Int))) ?_
   refine zyp 122 (x := .v (.int .i64 (IntKind.i64.wrap ((i : Int) - 1)))) (.v (.int .i64 ((i - 1 : Nat) : Int))) (eqI (by rw [IntWalk.i64_in _ (by omega)]; omega)) ?_
   have hl37 := ((hx.ext e35)).1
   obtain ⟨b37, o37, hA37, hc37⟩ := ints_at (hx.ext e35) (i := i - 1) (by omega)
   have hz37 := ints_bd hbl (by omega) (i - 1)
   refine zzz 123 (o37 + (i - 1) * 1) (n := x.n) (off := o37) (sz := 1) (i := ((i - 1 : Nat) : Int)) (by omega) hA37 (by omega) (by omega) sl22 ?_
   refine zyk 124 (.int .i64 (l.getD (i - 1) 0)) hc37 ty3 ?_
   refine zza 125 (.v (.agg #[.int .i64 (L.getD (i - 1) 0), .int .i64 (l.getD (i - 1) 0)])) ?_
   refine zza 126 (.v (.int .i64 (i : Int))) ?_
   refine zza 127 (.v (.int .i64 (Nt.p2i W.f))) ?_
   refine zza 128 (.v (.agg #[.int .i64 (i : Int), .int .i64 (Nt.p2i W.f)])) ?_
   refine sy_dataN 129 ⟨78, [.int .i64 (L.getD (i - 1) 0), .int .i64 (l.getD (i - 1) 0), .int .i64 (i : Int), .int .i64 (Nt.p2i W.f)]⟩ 2 (fun b38 u38 e38 h38 f38 g38 => ?_)
   have hm39 : MutL 2 78 u.heap.size u38 (⟨some ⟨b38, 0, none⟩, 2, 2⟩ : Sl) (tcs [(⟨(L.getD (i - 1) 0), (l.getD (i - 1) 0)⟩ : TL), (⟨(i : Int), Nt.p2i W.f⟩ : TL)]) := MutL.lit h38 rfl (by unfold maxLen; omega) f38
   refine zza 130 (.v (.agg #[.slice (some ⟨b38, 0, none⟩) 2 2])) ?_
   refine sy_dataN 131 ⟨76, [.slice (some ⟨b38, 0, none⟩) 2 2]⟩ 1 (fun b40 u40 e40 h40 f40 g40 => ?_)
   have hm41 : MutL 1 76 u.heap.size u40 (⟨some ⟨b40, 0, none⟩, 1, 1⟩ : Sl) [.slice (some ⟨b38, 0, none⟩) 2 2] := MutL.lit h40 rfl (by unfold maxLen; omega) f40
   refine zzw ?_
   obtain ⟨Ls42, gA42, gB42, gC42⟩ := id (hN2.ext (e38.trans e40))
   have hnl42 := NodesB.len (hN2.ext (e38.trans e40))
   refine sy_appM 132 (T := 47) (E := 76) (z := .agg #[.slice none 0 0]) (size := 1) (bytes := 24) (b2 := b40) (off := 0) (m := 1) X (Ls42.map Sl.v) [.slice (some ⟨b38, 0, none⟩) 2 2] gA42 (by kernel_rfl) (by kernel_rfl) (by kernel_rfl) (by decide) rfl (lit_news ((Ext.refl _).cells h40)) (sl_one (⟨some ⟨b38, 0, none⟩, 2, 2⟩ : Sl)) (by decide) (by unfold maxLen; omega) (by omega) (fun y42 u42 hm42 hn42 eX42 ho42 => ?_)
   have hN43 := NodesB.snoc (ts := [(⟨(L.getD (i - 1) 0), (l.getD (i - 1) 0)⟩ : TL), (⟨(i : Int), Nt.p2i W.f⟩ : TL)]) gA42 gB42 gC42 (hm39.ext e40) (fun a ha hc => by injection ha with ha; subst ha; have h9 : hz < _ := MutL.lt hZ2 hZa; have h8 : b38 = hz := hc; omega) eX42 hm42
   have eT44 := ExtX.t eX42 gA42
   have eT44r := ExtX.root eX42 gA42 (e35.trans (e38.trans e40))
   have hk45 := MutL.extT (hX2.ext (e38.trans e40)) eT44 (by decide)
   have hk46 := MutL.extT (hZ2.ext (e38.trans e40)) eT44 (by decide)
   have hN43l := NodesB.len hN43
   simp only [List.length_append, List.length_cons, List.length_nil, Nt.ndB_len] at hN43l
   refine zza 133 (.adr 13 9) ?_
   refine zzi ⟨49, [.int .i64 D.b, .int .i64 D.f, .int .i64 D.r, .int .i64 D.o, .int .i64 W.b, .int .i64 W.f, .int .i64 W.r, .int .i64 W.o, .int .i64 (x.n : Int), y42.v, .slice (some ⟨bX, 0, none⟩) x.n x.n, .int .i64 ((3 * x.n + 1 : Nat) : Int)]⟩ ty47 ?_
   refine zzb 165 [(0, .v x.v), (1, .v y.v), (8, .adr 8 0), (11, .v (.int .i64 (x.n : Int))), (12, .v (.int .i64 (Nt.p2i W.f))), (13, .adr 13 0), (14, .slc 47 0 (x.n + 1) (x.n + 1)), (16, .slc 86 0 (x.n + 1) (x.n + 1)), (17, .adr 17 0), (18, .v (.int .i64 (i : Int)))] [(8, ⟨49, [.int .i64 0, .int .i64 0, .int .i64 0, .int .i64 0, .int .i64 0, .int .i64 0, .int .i64 0, .int .i64 0, .int .i64 0, .slice none 0 0, .slice none 0 0, .int .i64 0]⟩), (13, ⟨49, [.int .i64 D.b, .int .i64 D.f, .int .i64 D.r, .int .i64 D.o, .int .i64 W.b, .int .i64 W.f, .int .i64 W.r, .int .i64 W.o, .int .i64 (x.n : Int), y42.v, .slice (some ⟨bX, 0, none⟩) x.n x.n, .int .i64 ((3 * x.n + 1 : Nat) : Int)]⟩), (17, ⟨76, [Z.v]⟩), (47, ⟨3, ics L⟩), (86, ⟨3, ics ((M).set i (((2 * x.n) + i : Nat) : Int))⟩)] ?_
   refine zzc ?_
   refine sw_anyC [0, 1, 0, 0, 12, 28, 0, 0, 192, 448, 1020, 2044, 4095, 8191, 16383] [(0, []), (1, []), (2, []), (3, []), (4, []), (5, []), (6, []), (7, []), (8, []), (9, []), (10, []), (11, [145])] [(12, []), (13, []), (14, [])] (by kernel_rfl) (by kernel_rfl) (by kernel_rfl) ?_
   refine zza 134 (.adr 17 0) ?_
   refine zzh 135 (.v Z.v) ty74 zzk ?_
   refine zza 136 (.slc 86 0 (x.n + 1) (x.n + 1)) ?_
   refine zza 137 (.v (.int .i64 (i : Int))) ?_
   refine zyv 138 (off' := i * 1) (n := x.n + 1) (off := 0) (sz := 1) (i := (i : Int)) sl22 (by omega) (by omega) (by omega) ?_
   refine zzh 139 (V := ⟨3, ics ((M).set i (((2 * x.n) + i : Nat) : Int))⟩) (off := i * 1) (.v (.int .i64 (((M).set i (((2 * x.n) + i : Nat) : Int)).getD i 0))) ty3 (part_ints (L := (M).set i (((2 * x.n) + i : Nat) : Int)) (i := i) (by first | omega | (simp; done) | (simp; omega)) rfl) ?_
   refine zza 140 (.v y.v) ?_
   refine zza 141 (.v (.int .i64 (i : Int))) ?_
   have hl47 := ((hy.ext eT44r)).1
   obtain ⟨b47, o47, hA47, hc47⟩ := ints_at (hy.ext eT44r) (i := i) (by omega)
   have hz47 := ints_bd hbm (by omega) i
   refine zzz 142 (o47 + i * 1) (n := y.n) (off := o47) (sz := 1) (i := (i : Int)) (by omega) hA47 (by omega) (by omega) sl22 ?_
   refine zyk 143 (.int .i64 (m.getD i 0)) hc47 ty3 ?_
   refine zza 144 (.v (.agg #[.int .i64 (((M).set i (((2 * x.n) + i : Nat) : Int)).getD i 0), .int .i64 (m.getD i 0)])) ?_
   refine sy_dataN 145 ⟨78, [.int .i64 (((M).set i (((2 * x.n) + i : Nat) : Int)).getD i 0), .int .i64 (m.getD i 0)]⟩ 1 (fun b48 u48 e48 h48 f48 g48 => ?_)
   have hm49 : MutL 2 78 u.heap.size u48 (⟨some ⟨b48, 0, none⟩, 1, 1⟩ : Sl) (tcs [(⟨(((M).set i (((2 * x.n) + i : Nat) : Int)).getD i 0), (m.getD i 0)⟩ : TL)]) := MutL.lit h48 rfl (by unfold maxLen; omega) f48
   refine zzw ?_
   refine sy_appM 146 (T := 74) (E := 78) (z := .agg #[.int .i64 0, .int .i64 0]) (size := 2) (bytes := 16) (b2 := b48) (off := 0) (m := 1) Z (tcs (Nt.lasN m x.n i)) [.int .i64 (((M).set i (((2 * x.n) + i : Nat) : Int)).getD i 0), .int .i64 (m.getD i 0)] (hk46.ext e48) (by kernel_rfl) (by kernel_rfl) (by kernel_rfl) (by decide) rfl (lit_news ((Ext.refl _).cells h48)) (tl_one (⟨(((M).set i (((2 * x.n) + i : Nat) : Int)).getD i 0), (m.getD i 0)⟩ : TL)) (by decide) (by unfold maxLen; omega) (by omega) (fun y50 u50 hm50 hn50 eX50 ho50 => ?_)
   obtain ⟨hz50, hza50⟩ := MutL.addr hm50 (by omega)
   have eT52 := ExtX.t eX50 (hk46.ext e48)
   have eT52r := ExtX.root eX50 (hk46.ext e48) (eT44r.trans e48)
   have hk53 := MutL.extT (hk45.ext e48) eT52 (by decide)
   have hk54 := NodesB.termStep (hN43.ext e48) (hk46.ext e48) (blk_of hZa) eX50 hza50 ho50
   have hN51 : MutL 2 78 u.heap.size u50 y50 (tcs ((Nt.lasN m x.n i) ++ [(⟨(((M).set i (((2 * x.n) + i : Nat) : Int)).getD i 0), (m.getD i 0)⟩ : TL)])) := by rw [tcs_app]; exact hm50
   refine zza 147 (.adr 17 0) ?_
   refine zzi ⟨76, [y50.v]⟩ ty74 ?_
   refine zzb 165 [(0, .v x.v), (1, .v y.v), (8, .adr 8 0), (11, .v (.int .i64 (x.n : Int))), (12, .v (.int .i64 (Nt.p2i W.f))), (13, .adr 13 0), (14, .slc 47 0 (x.n + 1) (x.n + 1)), (16, .slc 86 0 (x.n + 1) (x.n + 1)), (17, .adr 17 0), (18, .v (.int .i64 (i : Int)))] [(8, ⟨49, [.int .i64 0, .int .i64 0, .int .i64 0, .int .i64 0, .int .i64 0, .int .i64 0, .int .i64 0, .int .i64 0, .int .i64 0, .slice none 0 0, .slice none 0 0, .int .i64 0]⟩), (13, ⟨49, [.int .i64 D.b, .int .i64 D.f, .int .i64 D.r, .int .i64 D.o, .int .i64 W.b, .int .i64 W.f, .int .i64 W.r, .int .i64 W.o, .int .i64 (x.n : Int), y42.v, .slice (some ⟨bX, 0, none⟩) x.n x.n, .int .i64 ((3 * x.n + 1 : Nat) : Int)]⟩), (17, ⟨76, [y50.v]⟩), (47, ⟨3, ics L⟩), (86, ⟨3, ics ((M).set i (((2 * x.n) + i : Nat) : Int))⟩)] ?_
   refine sw_anyC [0, 1, 0, 4, 0, 0, 32, 112, 240, 511, 1023] [(0, []), (1, []), (2, []), (3, []), (4, []), (5, []), (6, []), (7, []), (8, [])] [(9, []), (10, [])] (by kernel_rfl) (by kernel_rfl) (by kernel_rfl) ?_
   refine zza 148 (.adr 13 10) ?_
   refine zzh 149 (.v (.slice (some ⟨bX, 0, none⟩) x.n x.n)) ty22 zzk ?_
   refine zza 150 (.v (.int .i64 (i : Int))) ?_
   refine zyp 151 (x := .v (.int .i64 (IntKind.i64.wrap ((i : Int) - 1)))) (.v (.int .i64 ((i - 1 : Nat) : Int))) (eqI (by rw [IntWalk.i64_in _ (by omega)]; omega)) ?_
   refine zza 152 (.slc 86 0 (x.n + 1) (x.n + 1)) ?_
   refine zza 153 (.v (.int .i64 (i : Int))) ?_
   refine zyp 154 (x := .v (.int .i64 (IntKind.i64.wrap ((i : Int) - 1)))) (.v (.int .i64 ((i - 1 : Nat) : Int))) (eqI (by rw [IntWalk.i64_in _ (by omega)]; omega)) ?_
   refine zyv 155 (off' := (i - 1) * 1) (n := x.n + 1) (off := 0) (sz := 1) (i := ((i - 1 : Nat) : Int)) sl22 (by omega) (by omega) (by omega) ?_
   refine zzh 156 (V := ⟨3, ics ((M).set i (((2 * x.n) + i : Nat) : Int))⟩) (off := (i - 1) * 1) (.v (.int .i64 (((M).set i (((2 * x.n) + i : Nat) : Int)).getD (i - 1) 0))) ty3 (part_ints (L := (M).set i (((2 * x.n) + i : Nat) : Int)) (i := i - 1) (by first | omega | (simp; done) | (simp; omega)) rfl) ?_
   refine zzw ?_
   obtain ⟨b55, hA55, hc55⟩ := MutL.cell (j := i - 1) hk53 (by rw [ics_len]; rw [Nt.nexN_len]; omega)
   rw [ics_at (by rw [Nt.nexN_len]; omega)] at hc55
   rw [show 0 + (i - 1) = 0 + (i - 1) * 1 by rw [Nat.mul_one]] at hc55
   refine zzz 157 (0 + (i - 1) * 1) (n := x.n) (off := 0) (sz := 1) (i := ((i - 1 : Nat) : Int)) (by omega) hA55 (by omega) (by omega) sl22 ?_
   refine sy_storeM (z := (((M).set i (((2 * x.n) + i : Nat) : Int)).getD (i - 1) 0)) (i := i - 1) (l := (Nt.nexN x.n (i - 1))) (⟨some ⟨bX, 0, none⟩, x.n, x.n⟩ : Sl) hk53 hA55 ty3 (by rw [Nt.nexN_len]; omega) (fun u56 hm56 eX56 => ?_)
   have eT57 := ExtX.t eX56 hk53
   have eT57r := ExtX.root eX56 hk53 eT52r
   have hk58 := NodesB.extT hk54 eT57 (by decide) (by decide)
   have hk59 := MutL.extT hN51 eT57 (by decide)
   refine zzw ?_
   refine zzo ?_
   refine zze ?_
   refine zza 104 (.v (.int .i64 (i : Int))) ?_
   refine zyp 105 (x := .v (.int .i64 (IntKind.i64.wrap ((i : Int) + 1)))) (.v (.int .i64 ((i + 1 : Nat) : Int))) (eqI (by rw [IntWalk.i64_in _ (by omega)]; omega)) ?_
   refine zza 18 (.v (.int .i64 ((i + 1 : Nat) : Int))) ?_
   refine zzw ?_
   refine ⟨_, ?_, St.of 165 [(0, .v (.slice x.a x.n x.c)), (1, .v (.slice y.a y.n y.c)), (8, .adr 8 0), (11, .v (.int .i64 (x.n : Int))), (12, .v (.int .i64 (Nt.p2i W.f))), (13, .adr 13 0), (14, .slc 47 0 (x.n + 1) (x.n + 1)), (16, .slc 86 0 (x.n + 1) (x.n + 1)), (17, .adr 17 0), (18, .v (.int .i64 ((i + 1 : Nat) : Int)))] [(8, ⟨49, [.int .i64 0, .int .i64 0, .int .i64 0, .int .i64 0, .int .i64 0, .int .i64 0, .int .i64 0, .int .i64 0, .int .i64 0, .slice none 0 0, .slice none 0 0, .int .i64 0]⟩), (13, ⟨49, [.int .i64 D.b, .int .i64 D.f, .int .i64 D.r, .int .i64 D.o, .int .i64 W.b, .int .i64 W.f, .int .i64 W.r, .int .i64 W.o, .int .i64 (x.n : Int), .slice y42.a y42.n y42.c, .slice (some ⟨bX, 0, none⟩) x.n x.n, .int .i64 ((3 * x.n + 1 : Nat) : Int)]⟩), (17, ⟨76, [.slice y50.a y50.n y50.c]⟩), (47, ⟨3, ics L⟩), (86, ⟨3, ics ((M).set i (((2 * x.n) + i : Nat) : Int))⟩)], by exact zzu _ _ _, i + 1, bX, hz50, y42, y50, (M).set i (((2 * x.n) + i : Nat) : Int), rfl, by omega, by omega, hza50, (by rw [List.length_set]; exact hM), (Nt.bak_set hM hB (by omega) (by omega) (by omega)), rfl, eT57r, (by rw [Nat.add_sub_cancel]; exact Nt.ndB_step hk58 (by omega) (hF0 _ (Nat.zero_le _) (by omega)) rfl), (by rw [Nat.add_sub_cancel]; have h9 := hm56; rw [Nt.nexN_set (by omega) (by rw [Nt.getD_setI _ _ _ _ (by omega), if_neg (by omega)]; exact hB _ (by omega)), show i - 1 + 1 = i by omega] at h9; exact h9), (Nt.las_step hk59 (by rw [Nt.getD_setI _ _ _ _ (by omega), if_pos rfl]; unfold Nt.bakN; rw [if_neg (by omega)]) rfl)⟩
   omega
  ·replace hb36 : (decide ((i : Int) ≤ (x.n : Int))) = false := hb36
   have qhb36 := of_decide_eq_false hb36
   refine zyb ?_
   refine zzo ?_
   refine zzc ?_
   have hi9 : i = x.n + 1 := by omega
   have hNe := NodesB.excl hN2 (Nat.le_refl _)
   have hZo := MutL.off hZ2 (Nat.le_refl _)
   refine zze ?_
   refine zza 158 (.adr 13 9) ?_
   refine zzh 159 (.v X.v) ty47 zzk ?_
   refine zzh 160 (.v (.agg #[Z.v])) ty76 zzd ?_
   refine sy_dataF 161 ⟨76, [Z.v]⟩ 1 (fun b60 u60 e60 h60 f60 g60 => ?_)
   have hm61 : MutL 1 76 u.heap.size u60 (⟨some ⟨b60, 0, none⟩, 1, 1⟩ : Sl) [.slice Z.a Z.n Z.c] := MutL.lit h60 rfl (by unfold maxLen; omega) f60
   obtain ⟨Ls62, gA62, gB62, gC62⟩ := id (hNe.ext e60)
   have hnl62 := NodesB.len (hNe.ext e60)
   refine sy_appM 162 (T := 47) (E := 76) (z := .agg #[.slice none 0 0]) (size := 1) (bytes := 24) (b2 := b60) (off := 0) (m := 1) X (Ls62.map Sl.v) [Z.v] gA62 (by kernel_rfl) (by kernel_rfl) (by kernel_rfl) (by decide) rfl (lit_news ((Ext.refl _).cells h60)) (sl_one Z) (by decide) (by unfold maxLen; omega) (by omega) (fun y62 u62 hm62 hn62 eX62 ho62 => ?_)
   have hN63 := NodesB.snoc (ts := (Nt.lasN m x.n i)) gA62 gB62 gC62 (hZ2.ext e60) hZo eX62 hm62
   have eT64 := ExtX.t eX62 gA62
   have eT64r := ExtX.root eX62 gA62 (e35.trans e60)
   have hk65 := MutL.extT (hX2.ext e60) eT64 (by decide)
   have hN63l := NodesB.len hN63
   simp only [List.length_append, List.length_cons, List.length_nil, Nt.ndB_len] at hN63l
   refine zza 163 (.adr 13 9) ?_
   refine zzi ⟨49, [.int .i64 D.b, .int .i64 D.f, .int .i64 D.r, .int .i64 D.o, .int .i64 W.b, .int .i64 W.f, .int .i64 W.r, .int .i64 W.o, .int .i64 (x.n : Int), y62.v, .slice (some ⟨bX, 0, none⟩) x.n x.n, .int .i64 ((3 * x.n + 1 : Nat) : Int)]⟩ ty47 ?_
   refine zzb 165 [(8, .adr 8 0), (13, .adr 13 0)] [(8, ⟨49, [.int .i64 0, .int .i64 0, .int .i64 0, .int .i64 0, .int .i64 0, .int .i64 0, .int .i64 0, .int .i64 0, .int .i64 0, .slice none 0 0, .slice none 0 0, .int .i64 0]⟩), (13, ⟨49, [.int .i64 D.b, .int .i64 D.f, .int .i64 D.r, .int .i64 D.o, .int .i64 W.b, .int .i64 W.f, .int .i64 W.r, .int .i64 W.o, .int .i64 (x.n : Int), y62.v, .slice (some ⟨bX, 0, none⟩) x.n x.n, .int .i64 ((3 * x.n + 1 : Nat) : Int)]⟩)] ?_
   refine sq9 ?_
   refine zzh 164 (.v (.agg #[.int .i64 D.b, .int .i64 D.f, .int .i64 D.r, .int .i64 D.o, .int .i64 W.b, .int .i64 W.f, .int .i64 W.r, .int .i64 W.o, .int .i64 (x.n : Int), y62.v, .slice (some ⟨bX, 0, none⟩) x.n x.n, .int .i64 ((3 * x.n + 1 : Nat) : Int)])) ty49 zzd ?_
   refine zzi ⟨49, [.int .i64 D.b, .int .i64 D.f, .int .i64 D.r, .int .i64 D.o, .int .i64 W.b, .int .i64 W.f, .int .i64 W.r, .int .i64 W.o, .int .i64 (x.n : Int), y62.v, .slice (some ⟨bX, 0, none⟩) x.n x.n, .int .i64 ((3 * x.n + 1 : Nat) : Int)]⟩ ty49 ?_
   refine zza 9 (.v (.int .i64 0)) ?_
   refine zzb 165 [(8, .adr 8 0), (9, .v (.int .i64 0))] [(8, ⟨49, [.int .i64 D.b, .int .i64 D.f, .int .i64 D.r, .int .i64 D.o, .int .i64 W.b, .int .i64 W.f, .int .i64 W.r, .int .i64 W.o, .int .i64 (x.n : Int), y62.v, .slice (some ⟨bX, 0, none⟩) x.n x.n, .int .i64 ((3 * x.n + 1 : Nat) : Int)]⟩)] ?_
   refine zzn (ret0 [.agg #[.int .i64 D.b, .int .i64 D.f, .int .i64 D.r, .int .i64 D.o, .int .i64 W.b, .int .i64 W.f, .int .i64 W.r, .int .i64 W.o, .int .i64 (x.n : Int), .slice y62.a y62.n y62.c, .slice (some ⟨bX, 0, none⟩) x.n x.n, .int .i64 ((3 * x.n + 1 : Nat) : Int)], .int .i64 0] ⟨zzq ty49 zzd, zzp, trivial⟩ fun u66 e67 => ?_)
   refine ⟨y62, (⟨some ⟨bX, 0, none⟩, x.n, x.n⟩ : Sl), ?_, ⟨u35.heap.size, ?_⟩, ?_⟩
   ·rw [hlx]
    rfl
   ·have h9 := NodesB.low (hN63.ext e67) (Nat.zero_le _)
    rw [hi9, Nat.add_sub_cancel] at h9
    rw [hlx]; exact h9
   ·have h9 := MutL.low (hk65.ext e67) (Nat.zero_le _)
    rw [hi9, Nat.add_sub_cancel] at h9
    rw [hlx]; exact h9
theorem Nt.ckE_ok {D W : WL} {l m : List Int} (hD : WdOK D) (hE : Nt.latE W l m = 0) : Nt.ckE D W l m = 0 := by unfold Nt.ckE; rw [if_neg (not_not_intro hD)]; exact hE
theorem Nt.gN_app {m i : Nat} {z : Int} (h : 1 ≤ i) : (Nt.gN m i ++ [z]).getD (i - 1) 0 = Nt.bakN m (i - 1) := by
 rw [getD_snoc, if_pos (by rw [Nt.gN_len]; omega), Nt.gN_at _ _ (by omega)]
set_option maxHeartbeats 8000000 in
theorem k_rlatBuild {u w : World} {x y : Sl} {l m : List Int} {D W : WL} (d : Dat u w) (hD : WdOK D) (hE : Nt.latE W l m = 0) (hx : SlR .i64 u x.a x.n x.c l) (hb : ∀ z ∈ l, -9223372036854775808 ≤ z ∧ z ≤ 9223372036854775807) (hy : SlR .i64 u y.a y.n y.c m) (hc : ∀ z ∈ m, -9223372036854775808 ≤ z ∧ z ≤ 9223372036854775807) : Calls Tryz.prog 18 #[x.v, y.v, D.v, W.v] w (Post u w fun v u' => ∃ (y z : Sl), v = .tuple #[.agg #[.int .i64 D.b, .int .i64 D.f, .int .i64 D.r, .int .i64 D.o, .int .i64 W.b, .int .i64 W.f, .int .i64 W.r, .int .i64 W.o, .int .i64 (l.length : Int), y.v, z.v, .int .i64 ((3 * l.length + 1 : Nat) : Int)], .int .i64 0] ∧ (∃ h, NodesB 0 h u' y (Nt.latNd (Nt.p2i W.f) l m l.length)) ∧ MutL 1 3 0 u' z (ics (Nt.nexN l.length l.length))) := by
 obtain ⟨hW, h8, hlm, hbl, hbm⟩ := Nt.latE_ok hE
 obtain ⟨hw1, hw2, hw3, hw4, hw5, hw6, hw7, hw8⟩ := id hW
 have hu0 := Nt.p2i_pos W.f
 have hu1 := Nt.p2i_24 (n := W.f) (by omega)
 have hu2 := Nt.p2i_mono (a := W.f) (b := W.b - 1) (by omega)
 have hu3 := Nt.p2i_24 (n := W.b - 1) (by omega)
 have hlx : l.length = x.n := hx.1
 have hly : m.length = y.n := hy.1
 obtain ⟨dw1, dw2, dw3, dw4, dw5, dw6, dw7, dw8⟩ := id hD
 refine zzl (args := [.slice x.a x.n x.c, .slice y.a y.n y.c, .agg #[.int .i64 D.b, .int .i64 D.f, .int .i64 D.r, .int .i64 D.o], .agg #[.int .i64 W.b, .int .i64 W.f, .int .i64 W.r, .int .i64 W.o]]) Tryz.func18 rfl Tryz.ntmps18 (rs := [.cell 8 49, .tmp 9]) Tryz.results18 (le_b rfl) (le_b rfl) d ?_
 refine sq9 ?_
 refine zzj 6 ⟨24, D.cs⟩ ?_
 refine zzj 7 ⟨24, W.cs⟩ ?_
 refine zzj 8 ⟨49, [.int .i64 0, .int .i64 0, .int .i64 0, .int .i64 0, .int .i64 0, .int .i64 0, .int .i64 0, .int .i64 0, .int .i64 0, .slice none 0 0, .slice none 0 0, .int .i64 0]⟩ ?_
 refine zza 9 (.v (.int .i64 0)) ?_
 refine zzb 156 [(0, .v x.v), (1, .v y.v), (6, .adr 6 0), (7, .adr 7 0), (8, .adr 8 0)] [(6, ⟨24, D.cs⟩), (7, ⟨24, W.cs⟩), (8, ⟨49, [.int .i64 0, .int .i64 0, .int .i64 0, .int .i64 0, .int .i64 0, .int .i64 0, .int .i64 0, .int .i64 0, .int .i64 0, .slice none 0 0, .slice none 0 0, .int .i64 0]⟩)] ?_
 refine zzc ?_
 refine sq9 ?_
 refine zza 20 (.v x.v) ?_
 refine zza 21 (.v y.v) ?_
 refine zzh 22 (.v (D.v)) ty24 zzd ?_
 refine zzh 23 (.v (W.v)) ty24 zzd ?_
 refine zzf 24 76 [x.v, y.v, D.v, W.v] ?_
 intro w11 u11 e11 d11
 have k14 := (Post.mono (Ψ := fun v _ => v = .int .i64 0) (k_checkG (D := D) (W := W) d11 (hx.ext e11) hb (hy.ext e11) hc) (fun v u9 _ h => by rw [Nt.ckE_ok hD hE] at h; exact h))
 with_reducible refine zPm k14 ?_
 rintro _ u12 g13 rfl
 refine zza 10 (.v (.int .i64 0)) ?_
 refine zzb 156 [(0, .v x.v), (1, .v y.v), (6, .adr 6 0), (7, .adr 7 0), (8, .adr 8 0), (10, .v (.int .i64 0))] [(6, ⟨24, D.cs⟩), (7, ⟨24, W.cs⟩), (8, ⟨49, [.int .i64 0, .int .i64 0, .int .i64 0, .int .i64 0, .int .i64 0, .int .i64 0, .int .i64 0, .int .i64 0, .int .i64 0, .slice none 0 0, .slice none 0 0, .int .i64 0]⟩)] ?_
 refine sq9 ?_
 refine zza 25 (.v (.int .i64 0)) ?_
 refine zza 26 (.v (.bool false)) ?_
 refine zzb 156 [(0, .v x.v), (1, .v y.v), (6, .adr 6 0), (7, .adr 7 0), (8, .adr 8 0), (10, .v (.int .i64 0)), (26, .v (.bool false))] [(6, ⟨24, D.cs⟩), (7, ⟨24, W.cs⟩), (8, ⟨49, [.int .i64 0, .int .i64 0, .int .i64 0, .int .i64 0, .int .i64 0, .int .i64 0, .int .i64 0, .int .i64 0, .int .i64 0, .slice none 0 0, .slice none 0 0, .int .i64 0]⟩)] ?_
 refine zyr (by kernel_rfl) ?_
 refine zzr (zzo ?_)
 refine zzc ?_
 refine zzy [0, 1, 0, 4, 12, 28, 3, 127] [(0, []), (1, []), (2, []), (3, []), (4, []), (5, []), (6, []), (7, [])] (by kernel_rfl) (by kernel_rfl) ?_
 refine zza 29 (.v x.v) ?_
 refine zza 30 (.v (.int .i64 (x.n : Int))) ?_
 refine zza 31 (.adr 7 1) ?_
 refine zzh 32 (.v (.int .i64 W.f)) ty3 zzk ?_
 refine sy_conv 33 (W.f) (fun w => by kernel_rfl) (IntWalk.u64_in _ (by omega)) ?_
 refine sy_shl 34 (k := .i64) (s := W.f) (Nt.p2i W.f) (by omega) (by show _ ≤ (64 : Int); omega) (shl_one (by omega) (by omega)) ?_
 refine zza 11 (.v (.int .i64 (x.n : Int))) ?_
 refine zza 12 (.v (.int .i64 (Nt.p2i W.f))) ?_
 refine zzb 156 [(0, .v x.v), (1, .v y.v), (6, .adr 6 0), (7, .adr 7 0), (8, .adr 8 0), (11, .v (.int .i64 (x.n : Int))), (12, .v (.int .i64 (Nt.p2i W.f)))] [(6, ⟨24, D.cs⟩), (7, ⟨24, W.cs⟩), (8, ⟨49, [.int .i64 0, .int .i64 0, .int .i64 0, .int .i64 0, .int .i64 0, .int .i64 0, .int .i64 0, .int .i64 0, .int .i64 0, .slice none 0 0, .slice none 0 0, .int .i64 0]⟩)] ?_
 refine sq9 ?_
 refine zzh 35 (.v (D.v)) ty24 zzd ?_
 refine zzh 36 (.v (W.v)) ty24 zzd ?_
 refine zza 37 (.v (.int .i64 (x.n : Int))) ?_
 refine zza 38 (.v (.agg #[.int .i64 D.b, .int .i64 D.f, .int .i64 D.r, .int .i64 D.o, .int .i64 W.b, .int .i64 W.f, .int .i64 W.r, .int .i64 W.o, .int .i64 (x.n : Int), .slice none 0 0, .slice none 0 0, .int .i64 0])) ?_
 refine zzj 13 ⟨49, [.int .i64 0, .int .i64 0, .int .i64 0, .int .i64 0, .int .i64 0, .int .i64 0, .int .i64 0, .int .i64 0, .int .i64 0, .slice none 0 0, .slice none 0 0, .int .i64 0]⟩ ?_
 refine zzi ⟨49, [.int .i64 D.b, .int .i64 D.f, .int .i64 D.r, .int .i64 D.o, .int .i64 W.b, .int .i64 W.f, .int .i64 W.r, .int .i64 W.o, .int .i64 (x.n : Int), .slice none 0 0, .slice none 0 0, .int .i64 0]⟩ ty49 ?_
 refine zzb 156 [(0, .v x.v), (1, .v y.v), (8, .adr 8 0), (11, .v (.int .i64 (x.n : Int))), (12, .v (.int .i64 (Nt.p2i W.f))), (13, .adr 13 0)] [(8, ⟨49, [.int .i64 0, .int .i64 0, .int .i64 0, .int .i64 0, .int .i64 0, .int .i64 0, .int .i64 0, .int .i64 0, .int .i64 0, .slice none 0 0, .slice none 0 0, .int .i64 0]⟩), (13, ⟨49, [.int .i64 D.b, .int .i64 D.f, .int .i64 D.r, .int .i64 D.o, .int .i64 W.b, .int .i64 W.f, .int .i64 W.r, .int .i64 W.o, .int .i64 (x.n : Int), .slice none 0 0, .slice none 0 0, .int .i64 0]⟩)] ?_
 refine sq9 ?_
 refine zza 39 (.v (.int .i64 (x.n : Int))) ?_
 refine zyp 40 (x := .v (.int .i64 (IntKind.i64.wrap ((x.n : Int) + 1)))) (.v (.int .i64 ((x.n + 1 : Nat) : Int))) (eqI (by rw [IntWalk.i64_in _ (by omega)]; omega)) ?_
 refine sy_make 41 (T := 22) (E := 3) (z := .int .i64 0) (size := 1) (bytes := 8) (x.n + 1) (ics (List.replicate (x.n + 1) 0)) (by kernel_rfl) (by kernel_rfl) rfl rfl (by omega) (by unfold maxLen; omega) (made_ints _) ?_
 refine zza 14 (.slc 41 0 (x.n + 1) (x.n + 1)) ?_
 refine zzb 156 [(0, .v x.v), (1, .v y.v), (8, .adr 8 0), (11, .v (.int .i64 (x.n : Int))), (12, .v (.int .i64 (Nt.p2i W.f))), (13, .adr 13 0), (14, .slc 41 0 (x.n + 1) (x.n + 1))] [(8, ⟨49, [.int .i64 0, .int .i64 0, .int .i64 0, .int .i64 0, .int .i64 0, .int .i64 0, .int .i64 0, .int .i64 0, .int .i64 0, .slice none 0 0, .slice none 0 0, .int .i64 0]⟩), (13, ⟨49, [.int .i64 D.b, .int .i64 D.f, .int .i64 D.r, .int .i64 D.o, .int .i64 W.b, .int .i64 W.f, .int .i64 W.r, .int .i64 W.o, .int .i64 (x.n : Int), .slice none 0 0, .slice none 0 0, .int .i64 0]⟩), (41, ⟨3, ics (List.replicate (x.n + 1) 0)⟩)] ?_
 refine zzc ?_
 refine sq9 ?_
 refine zza 42 (.v (.int .i64 (x.n : Int))) ?_
 refine zza 15 (.v (.int .i64 (x.n : Int))) ?_
 refine zzb 156 [(0, .v x.v), (1, .v y.v), (8, .adr 8 0), (11, .v (.int .i64 (x.n : Int))), (12, .v (.int .i64 (Nt.p2i W.f))), (13, .adr 13 0), (14, .slc 41 0 (x.n + 1) (x.n + 1)), (15, .v (.int .i64 (x.n : Int)))] [(8, ⟨49, [.int .i64 0, .int .i64 0, .int .i64 0, .int .i64 0, .int .i64 0, .int .i64 0, .int .i64 0, .int .i64 0, .int .i64 0, .slice none 0 0, .slice none 0 0, .int .i64 0]⟩), (13, ⟨49, [.int .i64 D.b, .int .i64 D.f, .int .i64 D.r, .int .i64 D.o, .int .i64 W.b, .int .i64 W.f, .int .i64 W.r, .int .i64 W.o, .int .i64 (x.n : Int), .slice none 0 0, .slice none 0 0, .int .i64 0]⟩), (41, ⟨3, ics (List.replicate (x.n + 1) 0)⟩)] ?_
 refine zzs ?_
 refine zym (I := fun m15 S' u' => ∃ (i : Nat) (hz : Nat) (X : Sl) (L : List Int), (m15 = i) ∧ (i ≤ x.n) ∧ (L.length = x.n + 1) ∧ (∀ j, i ≤ j → j ≤ x.n → L.getD j 0 = Nt.fwdN x.n j) ∧ (S' = St.of 156 [(0, .v (.slice x.a x.n x.c)), (1, .v (.slice y.a y.n y.c)), (8, .adr 8 0), (11, .v (.int .i64 (x.n : Int))), (12, .v (.int .i64 (Nt.p2i W.f))), (13, .adr 13 0), (14, .slc 41 0 (x.n + 1) (x.n + 1)), (15, .v (.int .i64 (i : Int)))] [(8, ⟨49, [.int .i64 0, .int .i64 0, .int .i64 0, .int .i64 0, .int .i64 0, .int .i64 0, .int .i64 0, .int .i64 0, .int .i64 0, .slice none 0 0, .slice none 0 0, .int .i64 0]⟩), (13, ⟨49, [.int .i64 D.b, .int .i64 D.f, .int .i64 D.r, .int .i64 D.o, .int .i64 W.b, .int .i64 W.f, .int .i64 W.r, .int .i64 W.o, .int .i64 (x.n : Int), .slice X.a X.n X.c, .slice none 0 0, .int .i64 0]⟩), (41, ⟨3, ics L⟩)]) ∧ (Ext u u') ∧ (NodesB u.heap.size hz u' X (Nt.ndA (Nt.p2i W.f) l x.n (x.n - i)))) (fun m S u1 u2 e h => by obtain ⟨i, hz, X, L, hm, p0, p1, p2, hS, hE, f0⟩ := h; exact ⟨i, hz, X, L, hm, p0, p1, p2, hS, hE.trans e, f0.ext e⟩) _ (T := St.of 156 [(0, .v (.slice x.a x.n x.c)), (1, .v (.slice y.a y.n y.c)), (8, .adr 8 0), (11, .v (.int .i64 (x.n : Int))), (12, .v (.int .i64 (Nt.p2i W.f))), (13, .adr 13 0), (14, .slc 41 0 (x.n + 1) (x.n + 1)), (15, .v (.int .i64 (x.n : Int)))] [(8, ⟨49, [.int .i64 0, .int .i64 0, .int .i64 0, .int .i64 0, .int .i64 0, .int .i64 0, .int .i64 0, .int .i64 0, .int .i64 0, .slice none 0 0, .slice none 0 0, .int .i64 0]⟩), (13, ⟨49, [.int .i64 D.b, .int .i64 D.f, .int .i64 D.r, .int .i64 D.o, .int .i64 W.b, .int .i64 W.f, .int .i64 W.r, .int .i64 W.o, .int .i64 (x.n : Int), .slice none 0 0, .slice none 0 0, .int .i64 0]⟩), (41, ⟨3, ics (List.replicate (x.n + 1) 0)⟩)]) (by exact zzu _ _ _) ⟨x.n, 0, ⟨none, 0, 0⟩, List.replicate (x.n + 1) 0, rfl, Nat.le_refl _, (by simp), Nt.fwd_zero x.n, rfl, (e11.trans g13.ext), (by rw [Nat.sub_self]; exact NodesB.nil _ _ _)⟩ ?_
 rintro m15 _ u15 ⟨i, hz, X, L, hm15, hi, hL, hF, rfl, e15, hN⟩
 have hNl := hN.len
 rw [Nt.ndA_len] at hNl
 refine zzc ?_
 refine sq9 ?_
 refine zza 43 (.v (.int .i64 (i : Int))) ?_
 refine zza 44 (.v (.bool (decide ((1 : Int) ≤ (i : Int))))) ?_
 refine zzb 156 [(0, .v x.v), (1, .v y.v), (8, .adr 8 0), (11, .v (.int .i64 (x.n : Int))), (12, .v (.int .i64 (Nt.p2i W.f))), (13, .adr 13 0), (14, .slc 41 0 (x.n + 1) (x.n + 1)), (15, .v (.int .i64 (i : Int))), (44, .v (.bool (decide ((1 : Int) ≤ (i : Int)))))] [(8, ⟨49, [.int .i64 0, .int .i64 0, .int .i64 0, .int .i64 0, .int .i64 0, .int .i64 0, .int .i64 0, .int .i64 0, .int .i64 0, .slice none 0 0, .slice none 0 0, .int .i64 0]⟩), (13, ⟨49, [.int .i64 D.b, .int .i64 D.f, .int .i64 D.r, .int .i64 D.o, .int .i64 W.b, .int .i64 W.f, .int .i64 W.r, .int .i64 W.o, .int .i64 (x.n : Int), X.v, .slice none 0 0, .int .i64 0]⟩), (41, ⟨3, ics L⟩)] ?_
 refine zzt (b := decide ((1 : Int) ≤ (i : Int))) (by kernel_rfl) (fun hb16 => ?_) (fun hb16 => ?_)
 ·replace hb16 : (decide ((1 : Int) ≤ (i : Int))) = true := hb16
  have qhb16 := of_decide_eq_true hb16
  refine zzr (zzo ?_)
  refine zzc ?_
  refine zzs ?_
  refine zzc ?_
  refine sw_anyC [0, 1, 0, 0, 12, 28, 0, 124, 0, 0, 0, 1024, 3584, 7680, 15872, 32512, 65532, 131068, 262140, 524287, 1048575, 2097151] [(0, []), (1, []), (2, []), (3, []), (4, []), (5, []), (6, []), (7, []), (8, []), (9, []), (10, []), (11, []), (12, []), (13, []), (14, []), (15, []), (16, [63]), (17, []), (18, [65])] [(19, []), (20, []), (21, [])] (by kernel_rfl) (by kernel_rfl) (by kernel_rfl) ?_
  refine zza 47 (.adr 13 9) ?_
  refine zzh 48 (.v X.v) ty47 zzk ?_
  refine zza 49 (.slc 41 0 (x.n + 1) (x.n + 1)) ?_
  refine zza 50 (.v (.int .i64 (i : Int))) ?_
  refine zyv 51 (off' := i * 1) (n := x.n + 1) (off := 0) (sz := 1) (i := (i : Int)) sl22 (by omega) (by omega) (by omega) ?_
  refine zzh 52 (V := ⟨3, ics L⟩) (off := i * 1) (.v (.int .i64 (L.getD i 0))) ty3 (part_ints (L := L) (i := i) (by first | omega | (simp; done) | (simp; omega)) rfl) ?_
  refine zza 53 (.v (.int .i64 (Nt.p2i W.f))) ?_
  refine zza 54 (.v (.agg #[.int .i64 (L.getD i 0), .int .i64 (Nt.p2i W.f)])) ?_
  refine zza 55 (.v (.int .i64 (i : Int))) ?_
  refine zza 56 (.v x.v) ?_
  refine zza 57 (.v (.int .i64 (i : Int))) ?_
  refine zyp 58 (x := .v (.int .i64 (IntKind.i64.wrap ((i : Int) - 1)))) (.v (.int .i64 ((i - 1 : Nat) : Int))) (eqI (by rw [IntWalk.i64_in _ (by omega)]; omega)) ?_
  have hl17 := ((hx.ext e15)).1
  obtain ⟨b17, o17, hA17, hc17⟩ := ints_at (hx.ext e15) (i := i - 1) (by omega)
  have hz17 := ints_bd hbl (by omega) (i - 1)
  refine zzz 59 (o17 + (i - 1) * 1) (n := x.n) (off := o17) (sz := 1) (i := ((i - 1 : Nat) : Int)) (by omega) hA17 (by omega) (by omega) sl22 ?_
  refine zyk 60 (.int .i64 (l.getD (i - 1) 0)) hc17 ty3 ?_
  refine zyp 61 (x := .v (.int .i64 (IntKind.i64.wrap (0 - (l.getD (i - 1) 0))))) (.v (.int .i64 (-(l.getD (i - 1) 0)))) (eqI (by rw [IntWalk.i64_in _ (by omega)]; omega)) ?_
  refine zza 62 (.v (.agg #[.int .i64 (i : Int), .int .i64 (-(l.getD (i - 1) 0))])) ?_
  refine sy_dataN 63 ⟨78, [.int .i64 (L.getD i 0), .int .i64 (Nt.p2i W.f), .int .i64 (i : Int), .int .i64 (-(l.getD (i - 1) 0))]⟩ 2 (fun b18 u18 e18 h18 f18 g18 => ?_)
  have hm19 : MutL 2 78 u.heap.size u18 (⟨some ⟨b18, 0, none⟩, 2, 2⟩ : Sl) (tcs [(⟨(L.getD i 0), Nt.p2i W.f⟩ : TL), (⟨(i : Int), -(l.getD (i - 1) 0)⟩ : TL)]) := MutL.lit h18 rfl (by unfold maxLen; omega) f18
  refine zza 64 (.v (.agg #[.slice (some ⟨b18, 0, none⟩) 2 2])) ?_
  refine sy_dataN 65 ⟨76, [.slice (some ⟨b18, 0, none⟩) 2 2]⟩ 1 (fun b20 u20 e20 h20 f20 g20 => ?_)
  have hm21 : MutL 1 76 u.heap.size u20 (⟨some ⟨b20, 0, none⟩, 1, 1⟩ : Sl) [.slice (some ⟨b18, 0, none⟩) 2 2] := MutL.lit h20 rfl (by unfold maxLen; omega) f20
  refine zzw ?_
  have hNx23 := NodesB.excl (h' := b18 + 1) hN (by omega)
  obtain ⟨Ls22, gA22, gB22, gC22⟩ := id (hNx23.ext (e18.trans e20))
  have hnl22 := NodesB.len (hNx23.ext (e18.trans e20))
  refine sy_appM 66 (T := 47) (E := 76) (z := .agg #[.slice none 0 0]) (size := 1) (bytes := 24) (b2 := b20) (off := 0) (m := 1) X (Ls22.map Sl.v) [.slice (some ⟨b18, 0, none⟩) 2 2] gA22 (by kernel_rfl) (by kernel_rfl) (by kernel_rfl) (by decide) rfl (lit_news ((Ext.refl _).cells h20)) (sl_one (⟨some ⟨b18, 0, none⟩, 2, 2⟩ : Sl)) (by decide) (by unfold maxLen; omega) (by omega) (fun y22 u22 hm22 hn22 eX22 ho22 => ?_)
  have hN24 := NodesB.snoc (ts := [(⟨(L.getD i 0), Nt.p2i W.f⟩ : TL), (⟨(i : Int), -(l.getD (i - 1) 0)⟩ : TL)]) gA22 gB22 gC22 (hm19.ext e20) (fun a ha hc => by injection ha with ha; subst ha; have h8 : b18 = b18 + 1 := hc; omega) eX22 hm22
  have eT25 := ExtX.t eX22 gA22
  have eT25r := ExtX.root eX22 gA22 (e15.trans (e18.trans e20))
  have hN24l := NodesB.len hN24
  simp only [List.length_append, List.length_cons, List.length_nil, Nt.ndA_len] at hN24l
  refine zza 67 (.adr 13 9) ?_
  refine zzi ⟨49, [.int .i64 D.b, .int .i64 D.f, .int .i64 D.r, .int .i64 D.o, .int .i64 W.b, .int .i64 W.f, .int .i64 W.r, .int .i64 W.o, .int .i64 (x.n : Int), y22.v, .slice none 0 0, .int .i64 0]⟩ ty47 ?_
  refine zzb 156 [(0, .v x.v), (1, .v y.v), (8, .adr 8 0), (11, .v (.int .i64 (x.n : Int))), (12, .v (.int .i64 (Nt.p2i W.f))), (13, .adr 13 0), (14, .slc 41 0 (x.n + 1) (x.n + 1)), (15, .v (.int .i64 (i : Int)))] [(8, ⟨49, [.int .i64 0, .int .i64 0, .int .i64 0, .int .i64 0, .int .i64 0, .int .i64 0, .int .i64 0, .int .i64 0, .int .i64 0, .slice none 0 0, .slice none 0 0, .int .i64 0]⟩), (13, ⟨49, [.int .i64 D.b, .int .i64 D.f, .int .i64 D.r, .int .i64 D.o, .int .i64 W.b, .int .i64 W.f, .int .i64 W.r, .int .i64 W.o, .int .i64 (x.n : Int), y22.v, .slice none 0 0, .int .i64 0]⟩), (41, ⟨3, ics L⟩)] ?_
  refine zze ?_
  refine zza 68 (.slc 41 0 (x.n + 1) (x.n + 1)) ?_
  refine zza 69 (.v (.int .i64 (i : Int))) ?_
  refine zyp 70 (x := .v (.int .i64 (IntKind.i64.wrap ((i : Int) - 1)))) (.v (.int .i64 ((i - 1 : Nat) : Int))) (eqI (by rw [IntWalk.i64_in _ (by omega)]; omega)) ?_
  refine zza 71 (.v (.int .i64 (x.n : Int))) ?_
  refine zza 72 (.adr 13 9) ?_
  refine zzh 73 (.v y22.v) ty47 zzk ?_
  refine zza 74 (.v (.int .i64 (y22.n : Int))) ?_
  refine zyp 75 (x := .v (.int .i64 (IntKind.i64.wrap ((x.n : Int) + (y22.n : Int))))) (.v (.int .i64 ((x.n + y22.n : Nat) : Int))) (eqI (by rw [IntWalk.i64_in _ (by omega)]; omega)) ?_
  refine zyv 76 (off' := (i - 1) * 1) (n := x.n + 1) (off := 0) (sz := 1) (i := ((i - 1 : Nat) : Int)) sl22 (by omega) (by omega) (by omega) ?_
  refine zyu (V := ⟨3, ics L⟩) (off := (i - 1) * 1) (ics ((L).set (i - 1) ((x.n + y22.n : Nat) : Int))) ty3 (by rw [ics_len]; first | omega | (simp; done) | (simp; omega)) (setL_ints (z := ((x.n + y22.n : Nat) : Int)) (i := i - 1) (by first | omega | (simp; done) | (simp; omega)) rfl) ?_
  refine zzw ?_
  refine zzo ?_
  refine zze ?_
  refine zza 45 (.v (.int .i64 (i : Int))) ?_
  refine zyp 46 (x := .v (.int .i64 (IntKind.i64.wrap ((i : Int) - 1)))) (.v (.int .i64 ((i - 1 : Nat) : Int))) (eqI (by rw [IntWalk.i64_in _ (by omega)]; omega)) ?_
  refine zza 15 (.v (.int .i64 ((i - 1 : Nat) : Int))) ?_
  refine zzw ?_
  refine ⟨_, ?_, St.of 156 [(0, .v (.slice x.a x.n x.c)), (1, .v (.slice y.a y.n y.c)), (8, .adr 8 0), (11, .v (.int .i64 (x.n : Int))), (12, .v (.int .i64 (Nt.p2i W.f))), (13, .adr 13 0), (14, .slc 41 0 (x.n + 1) (x.n + 1)), (15, .v (.int .i64 ((i - 1 : Nat) : Int)))] [(8, ⟨49, [.int .i64 0, .int .i64 0, .int .i64 0, .int .i64 0, .int .i64 0, .int .i64 0, .int .i64 0, .int .i64 0, .int .i64 0, .slice none 0 0, .slice none 0 0, .int .i64 0]⟩), (13, ⟨49, [.int .i64 D.b, .int .i64 D.f, .int .i64 D.r, .int .i64 D.o, .int .i64 W.b, .int .i64 W.f, .int .i64 W.r, .int .i64 W.o, .int .i64 (x.n : Int), .slice y22.a y22.n y22.c, .slice none 0 0, .int .i64 0]⟩), (41, ⟨3, ics ((L).set (i - 1) ((x.n + y22.n : Nat) : Int))⟩)], by exact zzu _ _ _, i - 1, b18 + 1, y22, (L).set (i - 1) ((x.n + y22.n : Nat) : Int), rfl, by omega, (by rw [List.length_set]; exact hL), (Nt.fwd_set hL hF (by omega) hi (by omega)), rfl, eT25r, (Nt.ndA_step hN24 (by omega) hi (hF i (Nat.le_refl _) hi) rfl)⟩
  omega
 ·replace hb16 : (decide ((1 : Int) ≤ (i : Int))) = false := hb16
  have qhb16 := of_decide_eq_false hb16
  refine zyb ?_
  refine zzo ?_
  refine zzc ?_
  have hi0 : i = 0 := by omega
  have hN0 := hN
  rw [hi0, Nat.sub_zero] at hN0
  have hF0 := hF
  rw [hi0] at hF0
  clear hF
  refine zze ?_
  refine zza 77 (.slc 41 0 (x.n + 1) (x.n + 1)) ?_
  refine zyv 78 (off' := 0 * 1) (n := x.n + 1) (off := 0) (sz := 1) (i := 0) sl22 (by omega) (by omega) (by omega) ?_
  refine zzh 79 (V := ⟨3, ics L⟩) (off := 0 * 1) (.v (.int .i64 (L.getD 0 0))) ty3 (part_ints (L := L) (i := 0) (by first | omega | (simp; done) | (simp; omega)) rfl) ?_
  refine sy_dataF 80 ⟨3, [.int .i64 (L.getD 0 0)]⟩ 1 (fun b26 u26 e26 h26 f26 g26 => ?_)
  have hm27 : MutL 1 3 u.heap.size u26 (⟨some ⟨b26, 0, none⟩, 1, 1⟩ : Sl) (ics [(L.getD 0 0)]) := MutL.lit h26 rfl (by unfold maxLen; omega) f26
  refine zza 16 (.v (.slice (some ⟨b26, 0, none⟩) 1 1)) ?_
  refine zzb 156 [(0, .v x.v), (1, .v y.v), (8, .adr 8 0), (11, .v (.int .i64 (x.n : Int))), (12, .v (.int .i64 (Nt.p2i W.f))), (13, .adr 13 0), (14, .slc 41 0 (x.n + 1) (x.n + 1)), (16, .v (.slice (some ⟨b26, 0, none⟩) 1 1))] [(8, ⟨49, [.int .i64 0, .int .i64 0, .int .i64 0, .int .i64 0, .int .i64 0, .int .i64 0, .int .i64 0, .int .i64 0, .int .i64 0, .slice none 0 0, .slice none 0 0, .int .i64 0]⟩), (13, ⟨49, [.int .i64 D.b, .int .i64 D.f, .int .i64 D.r, .int .i64 D.o, .int .i64 W.b, .int .i64 W.f, .int .i64 W.r, .int .i64 W.o, .int .i64 (x.n : Int), X.v, .slice none 0 0, .int .i64 0]⟩), (41, ⟨3, ics L⟩)] ?_
  refine zzc ?_
  refine sq9 ?_
  refine zza 17 (.v (.int .i64 1)) ?_
  refine zzb 156 [(0, .v x.v), (1, .v y.v), (8, .adr 8 0), (11, .v (.int .i64 (x.n : Int))), (12, .v (.int .i64 (Nt.p2i W.f))), (13, .adr 13 0), (14, .slc 41 0 (x.n + 1) (x.n + 1)), (16, .v (.slice (some ⟨b26, 0, none⟩) 1 1)), (17, .v (.int .i64 1))] [(8, ⟨49, [.int .i64 0, .int .i64 0, .int .i64 0, .int .i64 0, .int .i64 0, .int .i64 0, .int .i64 0, .int .i64 0, .int .i64 0, .slice none 0 0, .slice none 0 0, .int .i64 0]⟩), (13, ⟨49, [.int .i64 D.b, .int .i64 D.f, .int .i64 D.r, .int .i64 D.o, .int .i64 W.b, .int .i64 W.f, .int .i64 W.r, .int .i64 W.o, .int .i64 (x.n : Int), X.v, .slice none 0 0, .int .i64 0]⟩), (41, ⟨3, ics L⟩)] ?_
  refine zzs ?_
  refine zym (I := fun m28 S' u' => ∃ (i : Nat) (hz : Nat) (X : Sl) (G : Sl) (Y : Sl), (m28 = x.n + 1 - i) ∧ (1 ≤ i) ∧ (i ≤ x.n + 1) ∧ (Sep G Y) ∧ (S' = St.of 156 [(0, .v (.slice x.a x.n x.c)), (1, .v (.slice y.a y.n y.c)), (8, .adr 8 0), (11, .v (.int .i64 (x.n : Int))), (12, .v (.int .i64 (Nt.p2i W.f))), (13, .adr 13 0), (14, .slc 41 0 (x.n + 1) (x.n + 1)), (16, .v (.slice G.a G.n G.c)), (17, .v (.int .i64 (i : Int)))] [(8, ⟨49, [.int .i64 0, .int .i64 0, .int .i64 0, .int .i64 0, .int .i64 0, .int .i64 0, .int .i64 0, .int .i64 0, .int .i64 0, .slice none 0 0, .slice none 0 0, .int .i64 0]⟩), (13, ⟨49, [.int .i64 D.b, .int .i64 D.f, .int .i64 D.r, .int .i64 D.o, .int .i64 W.b, .int .i64 W.f, .int .i64 W.r, .int .i64 W.o, .int .i64 (x.n : Int), .slice X.a X.n X.c, .slice Y.a Y.n Y.c, .int .i64 0]⟩), (41, ⟨3, ics L⟩)]) ∧ (Ext u u') ∧ (NodesB u.heap.size hz u' X (Nt.ndB (Nt.p2i W.f) l x.n (i - 1))) ∧ (MutL 1 3 u.heap.size u' G (ics (Nt.gN x.n i))) ∧ (MutL 1 3 u.heap.size u' Y (ics (Nt.gN x.n (i - 1))))) (fun m S u1 u2 e h => by obtain ⟨i, hz, X, G, Y, hm, p0, p1, p2, hS, hE, f0, f1, f2⟩ := h; exact ⟨i, hz, X, G, Y, hm, p0, p1, p2, hS, hE.trans e, f0.ext e, f1.ext e, f2.ext e⟩) _ (T := St.of 156 [(0, .v (.slice x.a x.n x.c)), (1, .v (.slice y.a y.n y.c)), (8, .adr 8 0), (11, .v (.int .i64 (x.n : Int))), (12, .v (.int .i64 (Nt.p2i W.f))), (13, .adr 13 0), (14, .slc 41 0 (x.n + 1) (x.n + 1)), (16, .v (.slice (some ⟨b26, 0, none⟩) 1 1)), (17, .v (.int .i64 1))] [(8, ⟨49, [.int .i64 0, .int .i64 0, .int .i64 0, .int .i64 0, .int .i64 0, .int .i64 0, .int .i64 0, .int .i64 0, .int .i64 0, .slice none 0 0, .slice none 0 0, .int .i64 0]⟩), (13, ⟨49, [.int .i64 D.b, .int .i64 D.f, .int .i64 D.r, .int .i64 D.o, .int .i64 W.b, .int .i64 W.f, .int .i64 W.r, .int .i64 W.o, .int .i64 (x.n : Int), .slice X.a X.n X.c, .slice none 0 0, .int .i64 0]⟩), (41, ⟨3, ics L⟩)]) (by exact zzu _ _ _) ⟨1, hz, X, (⟨some ⟨b26, 0, none⟩, 1, 1⟩ : Sl), ⟨none, 0, 0⟩, rfl, by omega, by omega, (Sep.symm (Sep.nil _)), rfl, (e15.trans e26), (by rw [Nat.sub_self]; exact (show NodesB _ _ _ _ (Nt.ndB _ _ _ 0) from (by unfold Nt.ndB; rw [show (List.range 0).map (Nt.nd2 (Nt.p2i W.f) l x.n) = [] from rfl, List.append_nil]; exact (hN0.ext e26)))), (by rw [Nt.gN_one (hF0 0 (Nat.zero_le _) (Nat.zero_le _))]; exact hm27), (by rw [Nat.sub_self]; exact MutL.nil _ _ _ _)⟩ ?_
  rintro m28 _ u28 ⟨i, hz, X, G, Y, hm28, hi1, hi2, hS, rfl, e28, hN2, hG2, hY2⟩
  have hNl2 := hN2.len
  rw [Nt.ndB_len] at hNl2
  have hGl := hG2.1
  rw [ics_len, Nt.gN_len] at hGl
  have hYl := hY2.1
  rw [ics_len, Nt.gN_len] at hYl
  refine zzc ?_
  refine sq9 ?_
  refine zza 81 (.v (.int .i64 (i : Int))) ?_
  refine zza 82 (.v (.int .i64 (x.n : Int))) ?_
  refine zza 83 (.v (.bool (decide ((i : Int) ≤ (x.n : Int))))) ?_
  refine zzb 156 [(0, .v x.v), (1, .v y.v), (8, .adr 8 0), (11, .v (.int .i64 (x.n : Int))), (12, .v (.int .i64 (Nt.p2i W.f))), (13, .adr 13 0), (14, .slc 41 0 (x.n + 1) (x.n + 1)), (16, .v G.v), (17, .v (.int .i64 (i : Int))), (83, .v (.bool (decide ((i : Int) ≤ (x.n : Int)))))] [(8, ⟨49, [.int .i64 0, .int .i64 0, .int .i64 0, .int .i64 0, .int .i64 0, .int .i64 0, .int .i64 0, .int .i64 0, .int .i64 0, .slice none 0 0, .slice none 0 0, .int .i64 0]⟩), (13, ⟨49, [.int .i64 D.b, .int .i64 D.f, .int .i64 D.r, .int .i64 D.o, .int .i64 W.b, .int .i64 W.f, .int .i64 W.r, .int .i64 W.o, .int .i64 (x.n : Int), X.v, Y.v, .int .i64 0]⟩), (41, ⟨3, ics L⟩)] ?_
  refine zzt (b := decide ((i : Int) ≤ (x.n : Int))) (by kernel_rfl) (fun hb29 => ?_) (fun hb29 => ?_)
  ·replace hb29 : (decide ((i : Int) ≤ (x.n : Int))) = true := hb29
   have qhb29 := of_decide_eq_true hb29
   refine zzr (zzo ?_)
   refine zzc ?_
   refine zzs ?_
   refine zzc ?_
   refine sw_anyC [0, 1, 0, 0, 8, 28, 60, 0, 0, 256, 896, 1920, 4092, 0, 0, 24576, 65532, 131068, 262140, 524287, 1048575, 2097151] [(0, []), (1, []), (2, []), (3, []), (4, []), (5, []), (6, []), (7, []), (8, []), (9, []), (10, []), (11, []), (12, []), (13, []), (14, []), (15, []), (16, [102]), (17, []), (18, [104])] [(19, []), (20, []), (21, [])] (by kernel_rfl) (by kernel_rfl) (by kernel_rfl) ?_
   refine zza 86 (.adr 13 9) ?_
   refine zzh 87 (.v X.v) ty47 zzk ?_
   refine zza 88 (.slc 41 0 (x.n + 1) (x.n + 1)) ?_
   refine zza 89 (.v (.int .i64 (i : Int))) ?_
   refine zyp 90 (x := .v (.int .i64 (IntKind.i64.wrap ((i : Int) - 1)))) (.v (.int .i64 ((i - 1 : Nat) : Int))) (eqI (by rw [IntWalk.i64_in _ (by omega)]; omega)) ?_
   refine zyv 91 (off' := (i - 1) * 1) (n := x.n + 1) (off := 0) (sz := 1) (i := ((i - 1 : Nat) : Int)) sl22 (by omega) (by omega) (by omega) ?_
   refine zzh 92 (V := ⟨3, ics L⟩) (off := (i - 1) * 1) (.v (.int .i64 (L.getD (i - 1) 0))) ty3 (part_ints (L := L) (i := i - 1) (by first | omega | (simp; done) | (simp; omega)) rfl) ?_
   refine zza 93 (.v x.v) ?_
   refine zza 94 (.v (.int .i64 (i : Int))) ?_
   refine zyp 95 (x := .v (.int .i64 (IntKind.i64.wrap ((i : Int) - 1)))) (.v (.int .i64 ((i - 1 : Nat) : Int))) (eqI (by rw [IntWalk.i64_in _ (by omega)]; omega)) ?_
   have hl30 := ((hx.ext e28)).1
   obtain ⟨b30, o30, hA30, hc30⟩ := ints_at (hx.ext e28) (i := i - 1) (by omega)
   have hz30 := ints_bd hbl (by omega) (i - 1)
   refine zzz 96 (o30 + (i - 1) * 1) (n := x.n) (off := o30) (sz := 1) (i := ((i - 1 : Nat) : Int)) (by omega) hA30 (by omega) (by omega) sl22 ?_
   refine zyk 97 (.int .i64 (l.getD (i - 1) 0)) hc30 ty3 ?_
   refine zza 98 (.v (.agg #[.int .i64 (L.getD (i - 1) 0), .int .i64 (l.getD (i - 1) 0)])) ?_
   refine zza 99 (.v (.int .i64 (i : Int))) ?_
   refine zza 100 (.v (.int .i64 (Nt.p2i W.f))) ?_
   refine zza 101 (.v (.agg #[.int .i64 (i : Int), .int .i64 (Nt.p2i W.f)])) ?_
   refine sy_dataN 102 ⟨78, [.int .i64 (L.getD (i - 1) 0), .int .i64 (l.getD (i - 1) 0), .int .i64 (i : Int), .int .i64 (Nt.p2i W.f)]⟩ 2 (fun b31 u31 e31 h31 f31 g31 => ?_)
   have hm32 : MutL 2 78 u.heap.size u31 (⟨some ⟨b31, 0, none⟩, 2, 2⟩ : Sl) (tcs [(⟨(L.getD (i - 1) 0), (l.getD (i - 1) 0)⟩ : TL), (⟨(i : Int), Nt.p2i W.f⟩ : TL)]) := MutL.lit h31 rfl (by unfold maxLen; omega) f31
   refine zza 103 (.v (.agg #[.slice (some ⟨b31, 0, none⟩) 2 2])) ?_
   refine sy_dataN 104 ⟨76, [.slice (some ⟨b31, 0, none⟩) 2 2]⟩ 1 (fun b33 u33 e33 h33 f33 g33 => ?_)
   have hm34 : MutL 1 76 u.heap.size u33 (⟨some ⟨b33, 0, none⟩, 1, 1⟩ : Sl) [.slice (some ⟨b31, 0, none⟩) 2 2] := MutL.lit h33 rfl (by unfold maxLen; omega) f33
   refine zzw ?_
   have hNx36 := NodesB.excl (h' := b31 + 1) hN2 (by omega)
   obtain ⟨Ls35, gA35, gB35, gC35⟩ := id (hNx36.ext (e31.trans e33))
   have hnl35 := NodesB.len (hNx36.ext (e31.trans e33))
   refine sy_appM 105 (T := 47) (E := 76) (z := .agg #[.slice none 0 0]) (size := 1) (bytes := 24) (b2 := b33) (off := 0) (m := 1) X (Ls35.map Sl.v) [.slice (some ⟨b31, 0, none⟩) 2 2] gA35 (by kernel_rfl) (by kernel_rfl) (by kernel_rfl) (by decide) rfl (lit_news ((Ext.refl _).cells h33)) (sl_one (⟨some ⟨b31, 0, none⟩, 2, 2⟩ : Sl)) (by decide) (by unfold maxLen; omega) (by omega) (fun y35 u35 hm35 hn35 eX35 ho35 => ?_)
   have hN37 := NodesB.snoc (ts := [(⟨(L.getD (i - 1) 0), (l.getD (i - 1) 0)⟩ : TL), (⟨(i : Int), Nt.p2i W.f⟩ : TL)]) gA35 gB35 gC35 (hm32.ext e33) (fun a ha hc => by injection ha with ha; subst ha; have h8 : b31 = b31 + 1 := hc; omega) eX35 hm35
   have eT38 := ExtX.t eX35 gA35
   have eT38r := ExtX.root eX35 gA35 (e28.trans (e31.trans e33))
   have hk39 := MutL.extT (hG2.ext (e31.trans e33)) eT38 (by decide)
   have hk40 := MutL.extT (hY2.ext (e31.trans e33)) eT38 (by decide)
   have hN37l := NodesB.len hN37
   simp only [List.length_append, List.length_cons, List.length_nil, Nt.ndB_len] at hN37l
   refine zza 106 (.adr 13 9) ?_
   refine zzi ⟨49, [.int .i64 D.b, .int .i64 D.f, .int .i64 D.r, .int .i64 D.o, .int .i64 W.b, .int .i64 W.f, .int .i64 W.r, .int .i64 W.o, .int .i64 (x.n : Int), y35.v, Y.v, .int .i64 0]⟩ ty47 ?_
   refine zzb 156 [(0, .v x.v), (1, .v y.v), (8, .adr 8 0), (11, .v (.int .i64 (x.n : Int))), (12, .v (.int .i64 (Nt.p2i W.f))), (13, .adr 13 0), (14, .slc 41 0 (x.n + 1) (x.n + 1)), (16, .v G.v), (17, .v (.int .i64 (i : Int)))] [(8, ⟨49, [.int .i64 0, .int .i64 0, .int .i64 0, .int .i64 0, .int .i64 0, .int .i64 0, .int .i64 0, .int .i64 0, .int .i64 0, .slice none 0 0, .slice none 0 0, .int .i64 0]⟩), (13, ⟨49, [.int .i64 D.b, .int .i64 D.f, .int .i64 D.r, .int .i64 D.o, .int .i64 W.b, .int .i64 W.f, .int .i64 W.r, .int .i64 W.o, .int .i64 (x.n : Int), y35.v, Y.v, .int .i64 0]⟩), (41, ⟨3, ics L⟩)] ?_
   refine sq9 ?_
   refine zza 107 (.v G.v) ?_
   refine zza 108 (.v (.int .i64 (x.n : Int))) ?_
   refine zza 109 (.adr 13 9) ?_
   refine zzh 110 (.v y35.v) ty47 zzk ?_
   refine zza 111 (.v (.int .i64 (y35.n : Int))) ?_
   refine zyp 112 (x := .v (.int .i64 (IntKind.i64.wrap ((x.n : Int) + (y35.n : Int))))) (.v (.int .i64 ((x.n + y35.n : Nat) : Int))) (eqI (by rw [IntWalk.i64_in _ (by omega)]; omega)) ?_
   refine sy_dataF 113 ⟨3, [.int .i64 ((x.n + y35.n : Nat) : Int)]⟩ 1 (fun b41 u41 e41 h41 f41 g41 => ?_)
   have hm42 : MutL 1 3 u.heap.size u41 (⟨some ⟨b41, 0, none⟩, 1, 1⟩ : Sl) (ics [((x.n + y35.n : Nat) : Int)]) := MutL.lit h41 rfl (by unfold maxLen; omega) f41
   refine sy_appM 114 (T := 22) (E := 3) (z := .int .i64 0) (size := 1) (bytes := 8) (b2 := b41) (off := 0) (m := 1) G (ics (Nt.gN x.n i)) [.int .i64 ((x.n + y35.n : Nat) : Int)] (hk39.ext e41) (by kernel_rfl) (by kernel_rfl) (by kernel_rfl) (by decide) rfl (lit_news ((Ext.refl _).cells h41)) (int_one _) (by decide) (by unfold maxLen; omega) (by omega) (fun y43 u43 hm43 hn43 eX43 ho43 => ?_)
   have eT44 := ExtX.t eX43 (hk39.ext e41)
   have eT44r := ExtX.root eX43 (hk39.ext e41) (eT38r.trans e41)
   have hk45 := MutL.extS (hk40.ext e41) eX43 hS
   have hk45s := Sep.step (Sep.symm hS) (hk40.ext e41) ho43
   have hk46 := NodesB.extT (hN37.ext e41) eT44 (by decide) (by decide)
   have hN47 : MutL 1 3 u.heap.size u43 y43 (ics ((Nt.gN x.n i) ++ [((x.n + y35.n : Nat) : Int)])) := by rw [ics_app]; exact hm43
   refine zza 16 (.v y43.v) ?_
   refine zzb 156 [(0, .v x.v), (1, .v y.v), (8, .adr 8 0), (11, .v (.int .i64 (x.n : Int))), (12, .v (.int .i64 (Nt.p2i W.f))), (13, .adr 13 0), (14, .slc 41 0 (x.n + 1) (x.n + 1)), (16, .v y43.v), (17, .v (.int .i64 (i : Int)))] [(8, ⟨49, [.int .i64 0, .int .i64 0, .int .i64 0, .int .i64 0, .int .i64 0, .int .i64 0, .int .i64 0, .int .i64 0, .int .i64 0, .slice none 0 0, .slice none 0 0, .int .i64 0]⟩), (13, ⟨49, [.int .i64 D.b, .int .i64 D.f, .int .i64 D.r, .int .i64 D.o, .int .i64 W.b, .int .i64 W.f, .int .i64 W.r, .int .i64 W.o, .int .i64 (x.n : Int), y35.v, Y.v, .int .i64 0]⟩), (41, ⟨3, ics L⟩)] ?_
   refine sw_anyC [0, 1, 0, 0, 8, 28, 60, 124, 255, 511, 1023] [(0, []), (1, []), (2, []), (3, []), (4, []), (5, []), (6, []), (7, [122])] [(8, []), (9, []), (10, [])] (by kernel_rfl) (by kernel_rfl) (by kernel_rfl) ?_
   refine zza 115 (.adr 13 10) ?_
   refine zzh 116 (.v Y.v) ty22 zzk ?_
   refine zza 117 (.v y43.v) ?_
   refine zza 118 (.v (.int .i64 (i : Int))) ?_
   refine zyp 119 (x := .v (.int .i64 (IntKind.i64.wrap ((i : Int) - 1)))) (.v (.int .i64 ((i - 1 : Nat) : Int))) (eqI (by rw [IntWalk.i64_in _ (by omega)]; omega)) ?_
   obtain ⟨b48, hA48, hc48⟩ := MutL.cell (j := i - 1) hN47 (by rw [ics_len]; first | omega | (simp only [List.length_append, List.length_cons, List.length_nil, Nt.gN_len, Nt.nexN_len]; omega))
   rw [ics_at (by first | omega | (simp only [List.length_append, List.length_cons, List.length_nil, Nt.gN_len, Nt.nexN_len]; omega))] at hc48
   rw [show 0 + (i - 1) = 0 + (i - 1) * 1 by rw [Nat.mul_one]] at hc48
   refine zzz 120 (0 + (i - 1) * 1) (n := y43.n) (off := 0) (sz := 1) (i := ((i - 1 : Nat) : Int)) (by omega) hA48 (by omega) (by omega) sl22 ?_
   refine zyk 121 (.int .i64 (((Nt.gN x.n i) ++ [((x.n + y35.n : Nat) : Int)]).getD (i - 1) 0)) hc48 ty3 ?_
   refine sy_dataN 122 ⟨3, [.int .i64 (((Nt.gN x.n i) ++ [((x.n + y35.n : Nat) : Int)]).getD (i - 1) 0)]⟩ 1 (fun b49 u49 e49 h49 f49 g49 => ?_)
   have hm50 : MutL 1 3 u.heap.size u49 (⟨some ⟨b49, 0, none⟩, 1, 1⟩ : Sl) (ics [(((Nt.gN x.n i) ++ [((x.n + y35.n : Nat) : Int)]).getD (i - 1) 0)]) := MutL.lit h49 rfl (by unfold maxLen; omega) f49
   refine zzw ?_
   refine sy_appM 123 (T := 22) (E := 3) (z := .int .i64 0) (size := 1) (bytes := 8) (b2 := b49) (off := 0) (m := 1) Y (ics (Nt.gN x.n (i - 1))) [.int .i64 (((Nt.gN x.n i) ++ [((x.n + y35.n : Nat) : Int)]).getD (i - 1) 0)] (hk45.ext e49) (by kernel_rfl) (by kernel_rfl) (by kernel_rfl) (by decide) rfl (lit_news ((Ext.refl _).cells h49)) (int_one _) (by decide) (by unfold maxLen; omega) (by omega) (fun y51 u51 hm51 hn51 eX51 ho51 => ?_)
   have eT52 := ExtX.t eX51 (hk45.ext e49)
   have eT52r := ExtX.root eX51 (hk45.ext e49) (eT44r.trans e49)
   have hk53 := NodesB.extT (hk46.ext e49) eT52 (by decide) (by decide)
   have hk54 := MutL.extS (hN47.ext e49) eX51 hk45s
   have hk54s := Sep.step (Sep.symm hk45s) (hN47.ext e49) ho51
   have hN55 : MutL 1 3 u.heap.size u51 y51 (ics ((Nt.gN x.n (i - 1)) ++ [(((Nt.gN x.n i) ++ [((x.n + y35.n : Nat) : Int)]).getD (i - 1) 0)])) := by rw [ics_app]; exact hm51
   refine zza 124 (.adr 13 10) ?_
   refine zzi ⟨49, [.int .i64 D.b, .int .i64 D.f, .int .i64 D.r, .int .i64 D.o, .int .i64 W.b, .int .i64 W.f, .int .i64 W.r, .int .i64 W.o, .int .i64 (x.n : Int), y35.v, y51.v, .int .i64 0]⟩ ty22 ?_
   refine zzw ?_
   refine zzo ?_
   refine zze ?_
   refine zza 84 (.v (.int .i64 (i : Int))) ?_
   refine zyp 85 (x := .v (.int .i64 (IntKind.i64.wrap ((i : Int) + 1)))) (.v (.int .i64 ((i + 1 : Nat) : Int))) (eqI (by rw [IntWalk.i64_in _ (by omega)]; omega)) ?_
   refine zza 17 (.v (.int .i64 ((i + 1 : Nat) : Int))) ?_
   refine zzw ?_
   refine ⟨_, ?_, St.of 156 [(0, .v (.slice x.a x.n x.c)), (1, .v (.slice y.a y.n y.c)), (8, .adr 8 0), (11, .v (.int .i64 (x.n : Int))), (12, .v (.int .i64 (Nt.p2i W.f))), (13, .adr 13 0), (14, .slc 41 0 (x.n + 1) (x.n + 1)), (16, .v (.slice y43.a y43.n y43.c)), (17, .v (.int .i64 ((i + 1 : Nat) : Int)))] [(8, ⟨49, [.int .i64 0, .int .i64 0, .int .i64 0, .int .i64 0, .int .i64 0, .int .i64 0, .int .i64 0, .int .i64 0, .int .i64 0, .slice none 0 0, .slice none 0 0, .int .i64 0]⟩), (13, ⟨49, [.int .i64 D.b, .int .i64 D.f, .int .i64 D.r, .int .i64 D.o, .int .i64 W.b, .int .i64 W.f, .int .i64 W.r, .int .i64 W.o, .int .i64 (x.n : Int), .slice y35.a y35.n y35.c, .slice y51.a y51.n y51.c, .int .i64 0]⟩), (41, ⟨3, ics L⟩)], by exact zzu _ _ _, i + 1, b31 + 1, y35, y43, y51, rfl, by omega, by omega, hk54s, rfl, eT52r, (by rw [Nat.add_sub_cancel]; exact Nt.ndB_step hk53 (by omega) (hF0 _ (Nat.zero_le _) (by omega)) rfl), (Nt.gN_step hk54 (by unfold Nt.bakN; rw [if_neg (by omega)]; omega)), (by rw [Nat.add_sub_cancel]; have h9 := Nt.gN_step (n := x.n) (i := i - 1) hN55 (Nt.gN_app (by omega)); rw [show i - 1 + 1 = i by omega] at h9; exact h9)⟩
   omega
  ·replace hb29 : (decide ((i : Int) ≤ (x.n : Int))) = false := hb29
   have qhb29 := of_decide_eq_false hb29
   refine zyb ?_
   refine zzo ?_
   refine zzc ?_
   have hi9 : i = x.n + 1 := by omega
   have hN3 := hN2
   have hG3 := hG2
   have hY3 := hY2
   rw [hi9, Nat.add_sub_cancel] at hN3 hY3
   rw [hi9] at hG3
   refine zze ?_
   refine zza 18 (.v (.slice none 0 0)) ?_
   refine zzb 156 [(1, .v y.v), (8, .adr 8 0), (11, .v (.int .i64 (x.n : Int))), (13, .adr 13 0), (16, .v G.v), (18, .v (.slice none 0 0))] [(8, ⟨49, [.int .i64 0, .int .i64 0, .int .i64 0, .int .i64 0, .int .i64 0, .int .i64 0, .int .i64 0, .int .i64 0, .int .i64 0, .slice none 0 0, .slice none 0 0, .int .i64 0]⟩), (13, ⟨49, [.int .i64 D.b, .int .i64 D.f, .int .i64 D.r, .int .i64 D.o, .int .i64 W.b, .int .i64 W.f, .int .i64 W.r, .int .i64 W.o, .int .i64 (x.n : Int), X.v, Y.v, .int .i64 0]⟩)] ?_
   refine zzc ?_
   refine sq9 ?_
   refine zza 19 (.v (.int .i64 0)) ?_
   refine zzb 156 [(1, .v y.v), (8, .adr 8 0), (11, .v (.int .i64 (x.n : Int))), (13, .adr 13 0), (16, .v G.v), (18, .v (.slice none 0 0)), (19, .v (.int .i64 0))] [(8, ⟨49, [.int .i64 0, .int .i64 0, .int .i64 0, .int .i64 0, .int .i64 0, .int .i64 0, .int .i64 0, .int .i64 0, .int .i64 0, .slice none 0 0, .slice none 0 0, .int .i64 0]⟩), (13, ⟨49, [.int .i64 D.b, .int .i64 D.f, .int .i64 D.r, .int .i64 D.o, .int .i64 W.b, .int .i64 W.f, .int .i64 W.r, .int .i64 W.o, .int .i64 (x.n : Int), X.v, Y.v, .int .i64 0]⟩)] ?_
   refine zzs ?_
   refine zym (I := fun m56 S' u' => ∃ (j : Nat) (hz : Nat) (Z : Sl), (m56 = x.n + 1 - j) ∧ (j ≤ x.n + 1) ∧ (∀ a, Z.a = some a → a.block = hz) ∧ (S' = St.of 156 [(1, .v (.slice y.a y.n y.c)), (8, .adr 8 0), (11, .v (.int .i64 (x.n : Int))), (13, .adr 13 0), (16, .v (.slice G.a G.n G.c)), (18, .v (.slice Z.a Z.n Z.c)), (19, .v (.int .i64 (j : Int)))] [(8, ⟨49, [.int .i64 0, .int .i64 0, .int .i64 0, .int .i64 0, .int .i64 0, .int .i64 0, .int .i64 0, .int .i64 0, .int .i64 0, .slice none 0 0, .slice none 0 0, .int .i64 0]⟩), (13, ⟨49, [.int .i64 D.b, .int .i64 D.f, .int .i64 D.r, .int .i64 D.o, .int .i64 W.b, .int .i64 W.f, .int .i64 W.r, .int .i64 W.o, .int .i64 (x.n : Int), .slice X.a X.n X.c, .slice Y.a Y.n Y.c, .int .i64 0]⟩)]) ∧ (Ext u u') ∧ (NodesB u.heap.size hz u' X (Nt.ndB (Nt.p2i W.f) l x.n x.n)) ∧ (MutL 1 3 u.heap.size u' G (ics (Nt.gN x.n (x.n + 1)))) ∧ (MutL 1 3 u.heap.size u' Y (ics (Nt.gN x.n x.n))) ∧ (MutL 2 78 u.heap.size u' Z (tcs (Nt.lasN m x.n j)))) (fun m S u1 u2 e h => by obtain ⟨j, hz, Z, hm, p0, p1, hS, hE, f0, f1, f2, f3⟩ := h; exact ⟨j, hz, Z, hm, p0, p1, hS, hE.trans e, f0.ext e, f1.ext e, f2.ext e, f3.ext e⟩) _ (T := St.of 156 [(1, .v (.slice y.a y.n y.c)), (8, .adr 8 0), (11, .v (.int .i64 (x.n : Int))), (13, .adr 13 0), (16, .v (.slice G.a G.n G.c)), (18, .v (.slice none 0 0)), (19, .v (.int .i64 0))] [(8, ⟨49, [.int .i64 0, .int .i64 0, .int .i64 0, .int .i64 0, .int .i64 0, .int .i64 0, .int .i64 0, .int .i64 0, .int .i64 0, .slice none 0 0, .slice none 0 0, .int .i64 0]⟩), (13, ⟨49, [.int .i64 D.b, .int .i64 D.f, .int .i64 D.r, .int .i64 D.o, .int .i64 W.b, .int .i64 W.f, .int .i64 W.r, .int .i64 W.o, .int .i64 (x.n : Int), .slice X.a X.n X.c, .slice Y.a Y.n Y.c, .int .i64 0]⟩)]) (by exact zzu _ _ _) ⟨0, hz, ⟨none, 0, 0⟩, rfl, Nat.zero_le _, (fun a ha => by cases ha), rfl, e28, hN3, hG3, hY3, MutL.nil _ _ _ _⟩ ?_
   rintro m56 _ u56 ⟨j, hz, Z, hm56, hj, hZb, rfl, e56, hN4, hG4, hY4, hZ4⟩
   have hNl4 := hN4.len
   rw [Nt.ndB_len] at hNl4
   have hGl4 := hG4.1
   rw [ics_len, Nt.gN_len] at hGl4
   have hZl4 := hZ4.1
   rw [tcs_len] at hZl4
   have hzl4 : (Nt.lasN m x.n j).length = j := by unfold Nt.lasN; simp
   refine zzc ?_
   refine sq9 ?_
   refine zza 125 (.v (.int .i64 (j : Int))) ?_
   refine zza 126 (.v (.int .i64 (x.n : Int))) ?_
   refine zza 127 (.v (.bool (decide ((j : Int) ≤ (x.n : Int))))) ?_
   refine zzb 156 [(1, .v y.v), (8, .adr 8 0), (11, .v (.int .i64 (x.n : Int))), (13, .adr 13 0), (16, .v G.v), (18, .v Z.v), (19, .v (.int .i64 (j : Int))), (127, .v (.bool (decide ((j : Int) ≤ (x.n : Int)))))] [(8, ⟨49, [.int .i64 0, .int .i64 0, .int .i64 0, .int .i64 0, .int .i64 0, .int .i64 0, .int .i64 0, .int .i64 0, .int .i64 0, .slice none 0 0, .slice none 0 0, .int .i64 0]⟩), (13, ⟨49, [.int .i64 D.b, .int .i64 D.f, .int .i64 D.r, .int .i64 D.o, .int .i64 W.b, .int .i64 W.f, .int .i64 W.r, .int .i64 W.o, .int .i64 (x.n : Int), X.v, Y.v, .int .i64 0]⟩)] ?_
   refine zzt (b := decide ((j : Int) ≤ (x.n : Int))) (by kernel_rfl) (fun hb57 => ?_) (fun hb57 => ?_)
   ·replace hb57 : (decide ((j : Int) ≤ (x.n : Int))) = true := hb57
    have qhb57 := of_decide_eq_true hb57
    refine zzr (zzo ?_)
    refine zzc ?_
    refine zzs ?_
    refine sw_anyC [0, 0, 0, 6, 14, 0, 0, 96, 224, 510, 1022, 2047, 4095] [(0, []), (1, []), (2, []), (3, []), (4, []), (5, []), (6, []), (7, []), (8, []), (9, []), (10, [140])] [(11, []), (12, [])] (by kernel_rfl) (by kernel_rfl) (by kernel_rfl) ?_
    refine zza 130 (.v Z.v) ?_
    refine zza 131 (.v G.v) ?_
    refine zza 132 (.v (.int .i64 (j : Int))) ?_
    obtain ⟨b58, hA58, hc58⟩ := MutL.cell (j := j) hG4 (by rw [ics_len]; rw [Nt.gN_len]; omega)
    rw [ics_at (by rw [Nt.gN_len]; omega)] at hc58
    rw [show 0 + j = 0 + j * 1 by rw [Nat.mul_one]] at hc58
    refine zzz 133 (0 + j * 1) (n := G.n) (off := 0) (sz := 1) (i := (j : Int)) (by omega) hA58 (by omega) (by omega) sl22 ?_
    refine zyk 134 (.int .i64 ((Nt.gN x.n (x.n + 1)).getD j 0)) hc58 ty3 ?_
    refine zza 135 (.v y.v) ?_
    refine zza 136 (.v (.int .i64 (j : Int))) ?_
    have hl59 := ((hy.ext e56)).1
    obtain ⟨b59, o59, hA59, hc59⟩ := ints_at (hy.ext e56) (i := j) (by omega)
    have hz59 := ints_bd hbm (by omega) j
    refine zzz 137 (o59 + j * 1) (n := y.n) (off := o59) (sz := 1) (i := (j : Int)) (by omega) hA59 (by omega) (by omega) sl22 ?_
    refine zyk 138 (.int .i64 (m.getD j 0)) hc59 ty3 ?_
    refine zza 139 (.v (.agg #[.int .i64 ((Nt.gN x.n (x.n + 1)).getD j 0), .int .i64 (m.getD j 0)])) ?_
    refine sy_dataN 140 ⟨78, [.int .i64 ((Nt.gN x.n (x.n + 1)).getD j 0), .int .i64 (m.getD j 0)]⟩ 1 (fun b60 u60 e60 h60 f60 g60 => ?_)
    have hm61 : MutL 2 78 u.heap.size u60 (⟨some ⟨b60, 0, none⟩, 1, 1⟩ : Sl) (tcs [(⟨((Nt.gN x.n (x.n + 1)).getD j 0), (m.getD j 0)⟩ : TL)]) := MutL.lit h60 rfl (by unfold maxLen; omega) f60
    refine zzw ?_
    refine sy_appM 141 (T := 74) (E := 78) (z := .agg #[.int .i64 0, .int .i64 0]) (size := 2) (bytes := 16) (b2 := b60) (off := 0) (m := 1) Z (tcs (Nt.lasN m x.n j)) [.int .i64 ((Nt.gN x.n (x.n + 1)).getD j 0), .int .i64 (m.getD j 0)] (hZ4.ext e60) (by kernel_rfl) (by kernel_rfl) (by kernel_rfl) (by decide) rfl (lit_news ((Ext.refl _).cells h60)) (tl_one (⟨((Nt.gN x.n (x.n + 1)).getD j 0), (m.getD j 0)⟩ : TL)) (by decide) (by unfold maxLen; omega) (by omega) (fun y62 u62 hm62 hn62 eX62 ho62 => ?_)
    obtain ⟨hz62, hza62⟩ := MutL.addr hm62 (by omega)
    have eT64 := ExtX.t eX62 (hZ4.ext e60)
    have eT64r := ExtX.root eX62 (hZ4.ext e60) (e56.trans e60)
    have hk65 := NodesB.termStep (hN4.ext e60) (hZ4.ext e60) hZb eX62 hza62 ho62
    have hk66 := MutL.extT (hG4.ext e60) eT64 (by decide)
    have hk67 := MutL.extT (hY4.ext e60) eT64 (by decide)
    have hN63 : MutL 2 78 u.heap.size u62 y62 (tcs ((Nt.lasN m x.n j) ++ [(⟨((Nt.gN x.n (x.n + 1)).getD j 0), (m.getD j 0)⟩ : TL)])) := by rw [tcs_app]; exact hm62
    refine zza 18 (.v y62.v) ?_
    refine zzw ?_
    refine zzo ?_
    refine zze ?_
    refine zza 128 (.v (.int .i64 (j : Int))) ?_
    refine zyp 129 (x := .v (.int .i64 (IntKind.i64.wrap ((j : Int) + 1)))) (.v (.int .i64 ((j + 1 : Nat) : Int))) (eqI (by rw [IntWalk.i64_in _ (by omega)]; omega)) ?_
    refine zza 19 (.v (.int .i64 ((j + 1 : Nat) : Int))) ?_
    refine zzw ?_
    refine ⟨_, ?_, St.of 156 [(1, .v (.slice y.a y.n y.c)), (8, .adr 8 0), (11, .v (.int .i64 (x.n : Int))), (13, .adr 13 0), (16, .v (.slice G.a G.n G.c)), (18, .v (.slice y62.a y62.n y62.c)), (19, .v (.int .i64 ((j + 1 : Nat) : Int)))] [(8, ⟨49, [.int .i64 0, .int .i64 0, .int .i64 0, .int .i64 0, .int .i64 0, .int .i64 0, .int .i64 0, .int .i64 0, .int .i64 0, .slice none 0 0, .slice none 0 0, .int .i64 0]⟩), (13, ⟨49, [.int .i64 D.b, .int .i64 D.f, .int .i64 D.r, .int .i64 D.o, .int .i64 W.b, .int .i64 W.f, .int .i64 W.r, .int .i64 W.o, .int .i64 (x.n : Int), .slice X.a X.n X.c, .slice Y.a Y.n Y.c, .int .i64 0]⟩)], by exact zzu _ _ _, j + 1, hz62, y62, rfl, by omega, (blk_of hza62), rfl, eT64r, hk65, hk66, hk67, (Nt.las_step hN63 (Nt.gN_at _ _ (by omega)) rfl)⟩
    omega
   ·replace hb57 : (decide ((j : Int) ≤ (x.n : Int))) = false := hb57
    have qhb57 := of_decide_eq_false hb57
    refine zyb ?_
    refine zzo ?_
    refine zzc ?_
    have hj9 : j = x.n + 1 := by omega
    have hNe := NodesB.excl hN4 (Nat.le_refl _)
    have hZo := MutL.off hZ4 (Nat.le_refl _)
    refine zze ?_
    refine zza 142 (.adr 13 9) ?_
    refine zzh 143 (.v X.v) ty47 zzk ?_
    refine zza 144 (.v Z.v) ?_
    refine zza 145 (.v (.agg #[Z.v])) ?_
    refine sy_dataF 146 ⟨76, [Z.v]⟩ 1 (fun b68 u68 e68 h68 f68 g68 => ?_)
    have hm69 : MutL 1 76 u.heap.size u68 (⟨some ⟨b68, 0, none⟩, 1, 1⟩ : Sl) [.slice Z.a Z.n Z.c] := MutL.lit h68 rfl (by unfold maxLen; omega) f68
    obtain ⟨Ls70, gA70, gB70, gC70⟩ := id (hNe.ext e68)
    have hnl70 := NodesB.len (hNe.ext e68)
    refine sy_appM 147 (T := 47) (E := 76) (z := .agg #[.slice none 0 0]) (size := 1) (bytes := 24) (b2 := b68) (off := 0) (m := 1) X (Ls70.map Sl.v) [Z.v] gA70 (by kernel_rfl) (by kernel_rfl) (by kernel_rfl) (by decide) rfl (lit_news ((Ext.refl _).cells h68)) (sl_one Z) (by decide) (by unfold maxLen; omega) (by omega) (fun y70 u70 hm70 hn70 eX70 ho70 => ?_)
    have hN71 := NodesB.snoc (ts := (Nt.lasN m x.n j)) gA70 gB70 gC70 (hZ4.ext e68) hZo eX70 hm70
    have eT72 := ExtX.t eX70 gA70
    have eT72r := ExtX.root eX70 gA70 (e56.trans e68)
    have hk73 := MutL.extT (hG4.ext e68) eT72 (by decide)
    have hk74 := MutL.extT (hY4.ext e68) eT72 (by decide)
    have hN71l := NodesB.len hN71
    simp only [List.length_append, List.length_cons, List.length_nil, Nt.ndB_len] at hN71l
    refine zza 148 (.adr 13 9) ?_
    refine zzi ⟨49, [.int .i64 D.b, .int .i64 D.f, .int .i64 D.r, .int .i64 D.o, .int .i64 W.b, .int .i64 W.f, .int .i64 W.r, .int .i64 W.o, .int .i64 (x.n : Int), y70.v, Y.v, .int .i64 0]⟩ ty47 ?_
    refine zzb 156 [(8, .adr 8 0), (11, .v (.int .i64 (x.n : Int))), (13, .adr 13 0)] [(8, ⟨49, [.int .i64 0, .int .i64 0, .int .i64 0, .int .i64 0, .int .i64 0, .int .i64 0, .int .i64 0, .int .i64 0, .int .i64 0, .slice none 0 0, .slice none 0 0, .int .i64 0]⟩), (13, ⟨49, [.int .i64 D.b, .int .i64 D.f, .int .i64 D.r, .int .i64 D.o, .int .i64 W.b, .int .i64 W.f, .int .i64 W.r, .int .i64 W.o, .int .i64 (x.n : Int), y70.v, Y.v, .int .i64 0]⟩)] ?_
    refine sq9 ?_
    refine zza 149 (.v (.int .i64 (x.n : Int))) ?_
    refine zza 150 (.adr 13 9) ?_
    refine zzh 151 (.v y70.v) ty47 zzk ?_
    refine zza 152 (.v (.int .i64 (y70.n : Int))) ?_
    refine zyp 153 (x := .v (.int .i64 (IntKind.i64.wrap ((x.n : Int) + (y70.n : Int))))) (.v (.int .i64 ((x.n + y70.n : Nat) : Int))) (eqI (by rw [IntWalk.i64_in _ (by omega)]; omega)) ?_
    refine zza 154 (.adr 13 11) ?_
    refine zzi ⟨49, [.int .i64 D.b, .int .i64 D.f, .int .i64 D.r, .int .i64 D.o, .int .i64 W.b, .int .i64 W.f, .int .i64 W.r, .int .i64 W.o, .int .i64 (x.n : Int), y70.v, Y.v, .int .i64 ((x.n + y70.n : Nat) : Int)]⟩ ty3 ?_
    refine zzb 156 [(8, .adr 8 0), (13, .adr 13 0)] [(8, ⟨49, [.int .i64 0, .int .i64 0, .int .i64 0, .int .i64 0, .int .i64 0, .int .i64 0, .int .i64 0, .int .i64 0, .int .i64 0, .slice none 0 0, .slice none 0 0, .int .i64 0]⟩), (13, ⟨49, [.int .i64 D.b, .int .i64 D.f, .int .i64 D.r, .int .i64 D.o, .int .i64 W.b, .int .i64 W.f, .int .i64 W.r, .int .i64 W.o, .int .i64 (x.n : Int), y70.v, Y.v, .int .i64 ((x.n + y70.n : Nat) : Int)]⟩)] ?_
    refine sq9 ?_
    refine zzh 155 (.v (.agg #[.int .i64 D.b, .int .i64 D.f, .int .i64 D.r, .int .i64 D.o, .int .i64 W.b, .int .i64 W.f, .int .i64 W.r, .int .i64 W.o, .int .i64 (x.n : Int), y70.v, Y.v, .int .i64 ((x.n + y70.n : Nat) : Int)])) ty49 zzd ?_
    refine zzi ⟨49, [.int .i64 D.b, .int .i64 D.f, .int .i64 D.r, .int .i64 D.o, .int .i64 W.b, .int .i64 W.f, .int .i64 W.r, .int .i64 W.o, .int .i64 (x.n : Int), y70.v, Y.v, .int .i64 ((x.n + y70.n : Nat) : Int)]⟩ ty49 ?_
    refine zza 9 (.v (.int .i64 0)) ?_
    refine zzb 156 [(8, .adr 8 0), (9, .v (.int .i64 0))] [(8, ⟨49, [.int .i64 D.b, .int .i64 D.f, .int .i64 D.r, .int .i64 D.o, .int .i64 W.b, .int .i64 W.f, .int .i64 W.r, .int .i64 W.o, .int .i64 (x.n : Int), y70.v, Y.v, .int .i64 ((x.n + y70.n : Nat) : Int)]⟩)] ?_
    refine zzn (ret0 [.agg #[.int .i64 D.b, .int .i64 D.f, .int .i64 D.r, .int .i64 D.o, .int .i64 W.b, .int .i64 W.f, .int .i64 W.r, .int .i64 W.o, .int .i64 (x.n : Int), .slice y70.a y70.n y70.c, .slice Y.a Y.n Y.c, .int .i64 ((x.n + y70.n : Nat) : Int)], .int .i64 0] ⟨zzq ty49 zzd, zzp, trivial⟩ fun u75 e76 => ?_)
    refine ⟨y70, Y, ?_, ⟨u56.heap.size, ?_⟩, ?_⟩
    ·rw [show ((x.n + y70.n : Nat) : Int) = ((3 * x.n + 1 : Nat) : Int) by omega, hlx]
     rfl
    ·have h9 := NodesB.low (hN71.ext e76) (Nat.zero_le _)
     rw [hj9] at h9
     rw [hlx]; exact h9
    ·have h9 := MutL.low (hk74.ext e76) (Nat.zero_le _)
     rw [Nt.gN_nex] at h9
     rw [hlx]; exact h9
theorem k_latBuildE {u w : World} {x y : Sl} {l m : List Int} {D W : WL} (d : Dat u w) (hD : WdOK D) (hE : Nt.latE W l m ≠ 0) (hx : SlR .i64 u x.a x.n x.c l) (hb : ∀ z ∈ l, -9223372036854775808 ≤ z ∧ z ≤ 9223372036854775807) (hy : SlR .i64 u y.a y.n y.c m) (hc : ∀ z ∈ m, -9223372036854775808 ≤ z ∧ z ≤ 9223372036854775807) : Calls Tryz.prog 17 #[x.v, y.v, D.v, W.v] w (Post u w fun v u' => v = .tuple #[.agg #[.int .i64 0, .int .i64 0, .int .i64 0, .int .i64 0, .int .i64 0, .int .i64 0, .int .i64 0, .int .i64 0, .int .i64 0, .slice none 0 0, .slice none 0 0, .int .i64 0], .int .i64 (Nt.latE W l m)]) := by
 refine zzl (args := [.slice x.a x.n x.c, .slice y.a y.n y.c, .agg #[.int .i64 D.b, .int .i64 D.f, .int .i64 D.r, .int .i64 D.o], .agg #[.int .i64 W.b, .int .i64 W.f, .int .i64 W.r, .int .i64 W.o]]) Tryz.func17 rfl Tryz.ntmps17 (rs := [.cell 8 49, .tmp 9]) Tryz.results17 (le_b rfl) (le_b rfl) d ?_
 refine sq9 ?_
 refine zzj 6 ⟨24, D.cs⟩ ?_
 refine zzj 7 ⟨24, W.cs⟩ ?_
 refine zzj 8 ⟨49, [.int .i64 0, .int .i64 0, .int .i64 0, .int .i64 0, .int .i64 0, .int .i64 0, .int .i64 0, .int .i64 0, .int .i64 0, .slice none 0 0, .slice none 0 0, .int .i64 0]⟩ ?_
 refine zza 9 (.v (.int .i64 0)) ?_
 refine zzb 165 [(0, .v x.v), (1, .v y.v), (6, .adr 6 0), (7, .adr 7 0), (8, .adr 8 0)] [(6, ⟨24, D.cs⟩), (7, ⟨24, W.cs⟩), (8, ⟨49, [.int .i64 0, .int .i64 0, .int .i64 0, .int .i64 0, .int .i64 0, .int .i64 0, .int .i64 0, .int .i64 0, .int .i64 0, .slice none 0 0, .slice none 0 0, .int .i64 0]⟩)] ?_
 refine zzc ?_
 refine sq9 ?_
 refine zzh 19 (.v (D.v)) ty24 zzd ?_
 refine zzf 20 75 [D.v] ?_
 intro w11 u11 e11 d11
 have k14 := k_fxValidG (W := D) d11
 with_reducible refine zPm k14 ?_
 rintro _ u12 g13 rfl
 refine zza 21 (.v (.bool (!(decide (WdOK D))))) ?_
 refine zzb 165 [(0, .v x.v), (1, .v y.v), (6, .adr 6 0), (7, .adr 7 0), (8, .adr 8 0), (21, .v (.bool (!(decide (WdOK D)))))] [(6, ⟨24, D.cs⟩), (7, ⟨24, W.cs⟩), (8, ⟨49, [.int .i64 0, .int .i64 0, .int .i64 0, .int .i64 0, .int .i64 0, .int .i64 0, .int .i64 0, .int .i64 0, .int .i64 0, .slice none 0 0, .slice none 0 0, .int .i64 0]⟩)] ?_
 refine zzt (b := !(decide (WdOK D))) (by kernel_rfl) (fun hb => ?_) (fun hb => ?_)
 ·exact absurd hb (by rw [show (!(decide (WdOK D))) = false from (by simp [hD])]; decide)
 ·clear hb
  refine zzr (zzo ?_)
  refine zzc ?_
  refine sq9 ?_
  refine zza 23 (.v x.v) ?_
  refine zza 24 (.v y.v) ?_
  refine zzh 25 (.v (W.v)) ty24 zzd ?_
  refine zzf 26 47 [x.v, y.v, W.v] ?_
  intro w15 u15 e15 d15
  have k18 := k_latWrongG (W := W) d15 (hx.ext (e11.trans (g13.ext.trans e15))) hb (hy.ext (e11.trans (g13.ext.trans e15))) hc
  with_reducible refine zPm k18 ?_
  rintro _ u16 g17 rfl
  refine zza 10 (.v (.int .i64 (Nt.latE W l m))) ?_
  refine zzb 165 [(0, .v x.v), (1, .v y.v), (6, .adr 6 0), (7, .adr 7 0), (8, .adr 8 0), (10, .v (.int .i64 (Nt.latE W l m)))] [(6, ⟨24, D.cs⟩), (7, ⟨24, W.cs⟩), (8, ⟨49, [.int .i64 0, .int .i64 0, .int .i64 0, .int .i64 0, .int .i64 0, .int .i64 0, .int .i64 0, .int .i64 0, .int .i64 0, .slice none 0 0, .slice none 0 0, .int .i64 0]⟩)] ?_
  refine sq9 ?_
  refine zza 27 (.v (.int .i64 (Nt.latE W l m))) ?_
  refine zza 28 (.v (.bool ((Nt.latE W l m) != 0))) ?_
  refine zzb 165 [(0, .v x.v), (1, .v y.v), (6, .adr 6 0), (7, .adr 7 0), (8, .adr 8 0), (10, .v (.int .i64 (Nt.latE W l m))), (28, .v (.bool ((Nt.latE W l m) != 0)))] [(6, ⟨24, D.cs⟩), (7, ⟨24, W.cs⟩), (8, ⟨49, [.int .i64 0, .int .i64 0, .int .i64 0, .int .i64 0, .int .i64 0, .int .i64 0, .int .i64 0, .int .i64 0, .int .i64 0, .slice none 0 0, .slice none 0 0, .int .i64 0]⟩)] ?_
  refine zzt (b := (Nt.latE W l m) != 0) (by kernel_rfl) (fun hb => ?_) (fun hb => ?_)
  ·clear hb
   refine sq9 ?_
   refine zza 29 (.v (.agg #[.int .i64 0, .int .i64 0, .int .i64 0, .int .i64 0, .int .i64 0, .int .i64 0, .int .i64 0, .int .i64 0, .int .i64 0, .slice none 0 0, .slice none 0 0, .int .i64 0])) ?_
   refine zza 30 (.v (.int .i64 (Nt.latE W l m))) ?_
   refine zzi ⟨49, [.int .i64 0, .int .i64 0, .int .i64 0, .int .i64 0, .int .i64 0, .int .i64 0, .int .i64 0, .int .i64 0, .int .i64 0, .slice none 0 0, .slice none 0 0, .int .i64 0]⟩ ty49 ?_
   refine zza 9 (.v (.int .i64 (Nt.latE W l m))) ?_
   refine zzb 165 [(8, .adr 8 0), (9, .v (.int .i64 (Nt.latE W l m)))] [(8, ⟨49, [.int .i64 0, .int .i64 0, .int .i64 0, .int .i64 0, .int .i64 0, .int .i64 0, .int .i64 0, .int .i64 0, .int .i64 0, .slice none 0 0, .slice none 0 0, .int .i64 0]⟩)] ?_
   refine zzn (zzv (ret0 [.agg #[.int .i64 0, .int .i64 0, .int .i64 0, .int .i64 0, .int .i64 0, .int .i64 0, .int .i64 0, .int .i64 0, .int .i64 0, .slice none 0 0, .slice none 0 0, .int .i64 0], .int .i64 (Nt.latE W l m)] ⟨zzq ty49 zzd, zzp, trivial⟩ fun u19 e20 => ?_))
   rfl
  ·exact absurd hb (by rw [show ((Nt.latE W l m) != 0) = true from (by simpa using hE)]; decide)
theorem k_latBuildD {u w : World} {x y : Sl} {l m : List Int} {D W : WL} (d : Dat u w) (hD : ¬ WdOK D) (hx : SlR .i64 u x.a x.n x.c l) (hb : ∀ z ∈ l, -9223372036854775808 ≤ z ∧ z ≤ 9223372036854775807) (hy : SlR .i64 u y.a y.n y.c m) (hc : ∀ z ∈ m, -9223372036854775808 ≤ z ∧ z ≤ 9223372036854775807) : Calls Tryz.prog 17 #[x.v, y.v, D.v, W.v] w (Post u w fun v u' => v = .tuple #[.agg #[.int .i64 0, .int .i64 0, .int .i64 0, .int .i64 0, .int .i64 0, .int .i64 0, .int .i64 0, .int .i64 0, .int .i64 0, .slice none 0 0, .slice none 0 0, .int .i64 0], .int .i64 (2)]) := by
 refine zzl (args := [.slice x.a x.n x.c, .slice y.a y.n y.c, .agg #[.int .i64 D.b, .int .i64 D.f, .int .i64 D.r, .int .i64 D.o], .agg #[.int .i64 W.b, .int .i64 W.f, .int .i64 W.r, .int .i64 W.o]]) Tryz.func17 rfl Tryz.ntmps17 (rs := [.cell 8 49, .tmp 9]) Tryz.results17 (le_b rfl) (le_b rfl) d ?_
 refine sq9 ?_
 refine zzj 6 ⟨24, D.cs⟩ ?_
 refine zzj 7 ⟨24, W.cs⟩ ?_
 refine zzj 8 ⟨49, [.int .i64 0, .int .i64 0, .int .i64 0, .int .i64 0, .int .i64 0, .int .i64 0, .int .i64 0, .int .i64 0, .int .i64 0, .slice none 0 0, .slice none 0 0, .int .i64 0]⟩ ?_
 refine zza 9 (.v (.int .i64 0)) ?_
 refine zzb 165 [(0, .v x.v), (1, .v y.v), (6, .adr 6 0), (7, .adr 7 0), (8, .adr 8 0)] [(6, ⟨24, D.cs⟩), (7, ⟨24, W.cs⟩), (8, ⟨49, [.int .i64 0, .int .i64 0, .int .i64 0, .int .i64 0, .int .i64 0, .int .i64 0, .int .i64 0, .int .i64 0, .int .i64 0, .slice none 0 0, .slice none 0 0, .int .i64 0]⟩)] ?_
 refine zzc ?_
 refine sq9 ?_
 refine zzh 19 (.v (D.v)) ty24 zzd ?_
 refine zzf 20 75 [D.v] ?_
 intro w11 u11 e11 d11
 have k14 := k_fxValidG (W := D) d11
 with_reducible refine zPm k14 ?_
 rintro _ u12 g13 rfl
 refine zza 21 (.v (.bool (!(decide (WdOK D))))) ?_
 refine zzb 165 [(0, .v x.v), (1, .v y.v), (6, .adr 6 0), (7, .adr 7 0), (8, .adr 8 0), (21, .v (.bool (!(decide (WdOK D)))))] [(6, ⟨24, D.cs⟩), (7, ⟨24, W.cs⟩), (8, ⟨49, [.int .i64 0, .int .i64 0, .int .i64 0, .int .i64 0, .int .i64 0, .int .i64 0, .int .i64 0, .int .i64 0, .int .i64 0, .slice none 0 0, .slice none 0 0, .int .i64 0]⟩)] ?_
 refine zzt (b := !(decide (WdOK D))) (by kernel_rfl) (fun hb => ?_) (fun hb => ?_)
 ·clear hb
  refine sq9 ?_
  refine zza 22 (.v (.agg #[.int .i64 0, .int .i64 0, .int .i64 0, .int .i64 0, .int .i64 0, .int .i64 0, .int .i64 0, .int .i64 0, .int .i64 0, .slice none 0 0, .slice none 0 0, .int .i64 0])) ?_
  refine zzi ⟨49, [.int .i64 0, .int .i64 0, .int .i64 0, .int .i64 0, .int .i64 0, .int .i64 0, .int .i64 0, .int .i64 0, .int .i64 0, .slice none 0 0, .slice none 0 0, .int .i64 0]⟩ ty49 ?_
  refine zza 9 (.v (.int .i64 2)) ?_
  refine zzb 165 [(8, .adr 8 0), (9, .v (.int .i64 2))] [(8, ⟨49, [.int .i64 0, .int .i64 0, .int .i64 0, .int .i64 0, .int .i64 0, .int .i64 0, .int .i64 0, .int .i64 0, .int .i64 0, .slice none 0 0, .slice none 0 0, .int .i64 0]⟩)] ?_
  refine zzn (zzv (ret0 [.agg #[.int .i64 0, .int .i64 0, .int .i64 0, .int .i64 0, .int .i64 0, .int .i64 0, .int .i64 0, .int .i64 0, .int .i64 0, .slice none 0 0, .slice none 0 0, .int .i64 0], .int .i64 2] ⟨zzq ty49 zzd, zzp, trivial⟩ fun u15 e16 => ?_))
  rfl
 ·exact absurd hb (by rw [show (!(decide (WdOK D))) = true from (by simp [hD])]; decide)
theorem k_latBuildBad {u w : World} {x y : Sl} {l m : List Int} {D W : WL} (d : Dat u w) (hE : Nt.ckE D W l m ≠ 0) (hx : SlR .i64 u x.a x.n x.c l) (hb : ∀ z ∈ l, -9223372036854775808 ≤ z ∧ z ≤ 9223372036854775807) (hy : SlR .i64 u y.a y.n y.c m) (hc : ∀ z ∈ m, -9223372036854775808 ≤ z ∧ z ≤ 9223372036854775807) : Calls Tryz.prog 17 #[x.v, y.v, D.v, W.v] w (Post u w fun v u' => v = .tuple #[.agg #[.int .i64 0, .int .i64 0, .int .i64 0, .int .i64 0, .int .i64 0, .int .i64 0, .int .i64 0, .int .i64 0, .int .i64 0, .slice none 0 0, .slice none 0 0, .int .i64 0], .int .i64 (Nt.ckE D W l m)]) := by
 unfold Nt.ckE at *
 by_cases hD : WdOK D
 ·rw [if_neg (not_not_intro hD)] at *
  exact k_latBuildE d hD hE hx hb hy hc
 ·rw [if_pos hD]
  exact k_latBuildD d hD hx hb hy hc
theorem k_rlatBuildBad {u w : World} {x y : Sl} {l m : List Int} {D W : WL} (d : Dat u w) (hE : Nt.ckE D W l m ≠ 0) (hx : SlR .i64 u x.a x.n x.c l) (hb : ∀ z ∈ l, -9223372036854775808 ≤ z ∧ z ≤ 9223372036854775807) (hy : SlR .i64 u y.a y.n y.c m) (hc : ∀ z ∈ m, -9223372036854775808 ≤ z ∧ z ≤ 9223372036854775807) : Calls Tryz.prog 18 #[x.v, y.v, D.v, W.v] w (Post u w fun v u' => v = .tuple #[.agg #[.int .i64 0, .int .i64 0, .int .i64 0, .int .i64 0, .int .i64 0, .int .i64 0, .int .i64 0, .int .i64 0, .int .i64 0, .slice none 0 0, .slice none 0 0, .int .i64 0], .int .i64 (Nt.ckE D W l m)]) := by
 refine zzl (args := [.slice x.a x.n x.c, .slice y.a y.n y.c, .agg #[.int .i64 D.b, .int .i64 D.f, .int .i64 D.r, .int .i64 D.o], .agg #[.int .i64 W.b, .int .i64 W.f, .int .i64 W.r, .int .i64 W.o]]) Tryz.func18 rfl Tryz.ntmps18 (rs := [.cell 8 49, .tmp 9]) Tryz.results18 (le_b rfl) (le_b rfl) d ?_
 refine sq9 ?_
 refine zzj 6 ⟨24, D.cs⟩ ?_
 refine zzj 7 ⟨24, W.cs⟩ ?_
 refine zzj 8 ⟨49, [.int .i64 0, .int .i64 0, .int .i64 0, .int .i64 0, .int .i64 0, .int .i64 0, .int .i64 0, .int .i64 0, .int .i64 0, .slice none 0 0, .slice none 0 0, .int .i64 0]⟩ ?_
 refine zza 9 (.v (.int .i64 0)) ?_
 refine zzb 156 [(0, .v x.v), (1, .v y.v), (6, .adr 6 0), (7, .adr 7 0), (8, .adr 8 0)] [(6, ⟨24, D.cs⟩), (7, ⟨24, W.cs⟩), (8, ⟨49, [.int .i64 0, .int .i64 0, .int .i64 0, .int .i64 0, .int .i64 0, .int .i64 0, .int .i64 0, .int .i64 0, .int .i64 0, .slice none 0 0, .slice none 0 0, .int .i64 0]⟩)] ?_
 refine zzc ?_
 refine sq9 ?_
 refine zza 20 (.v x.v) ?_
 refine zza 21 (.v y.v) ?_
 refine zzh 22 (.v (D.v)) ty24 zzd ?_
 refine zzh 23 (.v (W.v)) ty24 zzd ?_
 refine zzf 24 76 [x.v, y.v, D.v, W.v] ?_
 intro w11 u11 e11 d11
 have k14 := k_checkG (D := D) (W := W) d11 (hx.ext e11) hb (hy.ext e11) hc
 with_reducible refine zPm k14 ?_
 rintro _ u12 g13 rfl
 refine zza 10 (.v (.int .i64 (Nt.ckE D W l m))) ?_
 refine zzb 156 [(0, .v x.v), (1, .v y.v), (6, .adr 6 0), (7, .adr 7 0), (8, .adr 8 0), (10, .v (.int .i64 (Nt.ckE D W l m)))] [(6, ⟨24, D.cs⟩), (7, ⟨24, W.cs⟩), (8, ⟨49, [.int .i64 0, .int .i64 0, .int .i64 0, .int .i64 0, .int .i64 0, .int .i64 0, .int .i64 0, .int .i64 0, .int .i64 0, .slice none 0 0, .slice none 0 0, .int .i64 0]⟩)] ?_
 refine sq9 ?_
 refine zza 25 (.v (.int .i64 (Nt.ckE D W l m))) ?_
 refine zza 26 (.v (.bool ((Nt.ckE D W l m) != 0))) ?_
 refine zzb 156 [(0, .v x.v), (1, .v y.v), (6, .adr 6 0), (7, .adr 7 0), (8, .adr 8 0), (10, .v (.int .i64 (Nt.ckE D W l m))), (26, .v (.bool ((Nt.ckE D W l m) != 0)))] [(6, ⟨24, D.cs⟩), (7, ⟨24, W.cs⟩), (8, ⟨49, [.int .i64 0, .int .i64 0, .int .i64 0, .int .i64 0, .int .i64 0, .int .i64 0, .int .i64 0, .int .i64 0, .int .i64 0, .slice none 0 0, .slice none 0 0, .int .i64 0]⟩)] ?_
 refine zzt (b := (Nt.ckE D W l m) != 0) (by kernel_rfl) (fun hb => ?_) (fun hb => ?_)
 ·clear hb
  refine sq9 ?_
  refine zza 27 (.v (.agg #[.int .i64 0, .int .i64 0, .int .i64 0, .int .i64 0, .int .i64 0, .int .i64 0, .int .i64 0, .int .i64 0, .int .i64 0, .slice none 0 0, .slice none 0 0, .int .i64 0])) ?_
  refine zza 28 (.v (.int .i64 (Nt.ckE D W l m))) ?_
  refine zzi ⟨49, [.int .i64 0, .int .i64 0, .int .i64 0, .int .i64 0, .int .i64 0, .int .i64 0, .int .i64 0, .int .i64 0, .int .i64 0, .slice none 0 0, .slice none 0 0, .int .i64 0]⟩ ty49 ?_
  refine zza 9 (.v (.int .i64 (Nt.ckE D W l m))) ?_
  refine zzb 156 [(8, .adr 8 0), (9, .v (.int .i64 (Nt.ckE D W l m)))] [(8, ⟨49, [.int .i64 0, .int .i64 0, .int .i64 0, .int .i64 0, .int .i64 0, .int .i64 0, .int .i64 0, .int .i64 0, .int .i64 0, .slice none 0 0, .slice none 0 0, .int .i64 0]⟩)] ?_
  refine zzn (zzv (ret0 [.agg #[.int .i64 0, .int .i64 0, .int .i64 0, .int .i64 0, .int .i64 0, .int .i64 0, .int .i64 0, .int .i64 0, .int .i64 0, .slice none 0 0, .slice none 0 0, .int .i64 0], .int .i64 (Nt.ckE D W l m)] ⟨zzq ty49 zzd, zzp, trivial⟩ fun u15 e16 => ?_))
  rfl
 ·exact absurd hb (by rw [show ((Nt.ckE D W l m) != 0) = true from (by simpa using hE)]; decide)
def ivs (l : List Int) : Array Value := (l.map (Value.int .i64)).toArray
def intFs (P : Program) (n : Nat) (fs : List Field) : Bool := fs.all fun f => (match P.underlying f.type with | some (.int .i64) => true | _ => false) && decide (f.offset < n)
theorem run_part_i {P : Program} {T : TypeId} {l : List Int} {i : Nat} (w : World) (hu : P.underlying T = some (.int .i64)) (hi : i < l.length) : (part T (ivs l) i).run P w = .ok (.int .i64 (l.getD i 0)) w := by
 have hx : (ivs l)[i]? = some (.int .i64 (l.getD i 0)) := by
  unfold ivs
  rw [List.getElem?_toArray, List.getElem?_map, List.getD_eq_getElem?_getD, List.getElem?_eq_getElem hi]; rfl
 simp [part, isAgg, run_underlying hu, hx]
theorem run_eqFields_i {P : Program} {l : List Int} {d : Nat} (w : World) : ∀ {fs : List Field}, intFs P l.length fs = true → (Op.eqFields (d + 1) (ivs l) (ivs l) fs).run P w = .ok true w
 | [], _ => rfl
 | f :: fs, h => by
  have h' := h
  unfold intFs at h
  rw [List.all_cons, Bool.and_eq_true, Bool.and_eq_true, decide_eq_true_eq] at h
  obtain ⟨⟨h1, h2⟩, h3⟩ := h
  have hu : P.underlying f.type = some (.int .i64) := by
   revert h1
   cases P.underlying f.type with
   | none => simp
   | some t => cases t with
    | int k => cases k <;> simp
    | _ => simp
  have ih := run_eqFields_i (P := P) (l := l) (d := d) w (fs := fs) h3
  unfold Op.eqFields
  split
  ·simp only [Sem.run_bind, run_part_i w hu h2, Result.andThen_ok, run_equalIn_int w d f.type .i64 .i64 _ _ hu, beq_self_eq_true, Bool.not_true, Bool.false_eq_true, if_false]
   exact ih
  ·exact ih
theorem exec_neqS {P : Program} {ρ : Operand → Value} {o : Oper} {T t2 : TypeId} {x y : Operand} (l : List Int) (w : World) (hop : o.op = .binOp .neq T x y t2) (hx : ρ x = .agg (ivs l)) (hy : ρ y = .agg (ivs l)) (h1 : P.underlying T = some (.struct (P.fieldsOf T))) (h2 : P.stoodInHeld T = false) (h3 : P.eqGuardType P.depth T = false) (h4 : intFs P l.length (P.fieldsOf T).toList = true) :
  (execOp ρ o).run P w = .ok (.value (.bool false)) w := by
 unfold execOp
 rw [hop]
 simp only [hx, hy]
 simp only [Sem.run_bind, run_eqGuard_agg w .neq T x y _ _ h3, Result.andThen_ok, run_neq_struct, run_equalIn_agg w 9999 T _ _ h1 h2, run_eqFields_i w h4]
 rfl
section
variable {P : Program} {ops : Array Oper} {w0 u0 : World} {seq : Bool} {o : Oper} {p : List Tmp} {rest : List (Oper × List Tmp)} {S : St} {u : World} {K : St → World → Prop}
end
variable {k lo lo' h b n c i : Nat} {ty t2 : TypeId} {u u' : World} {x y : Sl}
theorem nodes_at {Ls : List Sl} (m : MutL 1 ty lo u x (Ls.map Sl.v)) (hk : i < Ls.length) : ∃ b, x.a = some ⟨b, 0, none⟩ ∧ u.cell? ⟨b, 0 + i * 1, none⟩ = some (.slice (Ls.getD i sl0).a (Ls.getD i sl0).n (Ls.getD i sl0).c) := by
 obtain ⟨b, h1, h2⟩ := MutL.cell (j := i) m (by rw [List.length_map]; exact hk)
 refine ⟨b, h1, ?_⟩
 rw [Nat.mul_one, h2, List.getElem?_map, List.getD_eq_getElem?_getD, List.getElem?_eq_getElem hk]
 rfl
theorem terms_at {T : List TL} (m : MutL 2 ty lo u x (tcs T)) (hi : i < T.length) : ∃ b, x.a = some ⟨b, 0, none⟩ ∧ ∀ j, j < (T.getD i tl0).cs.length → u.cell? ⟨b, 0 + i * 2 + j, none⟩ = (T.getD i tl0).cs[j]? := by
 obtain ⟨b, h1, h2⟩ := MutL.cell (j := i * 2) m (by rw [tcs_len]; omega)
 refine ⟨b, h1, fun j hj => ?_⟩
 have hj : j < 2 := hj
 obtain ⟨b2, g1, g2⟩ := MutL.cell (j := i * 2 + j) m (by rw [tcs_len]; omega)
 rw [h1] at g1; injection g1 with g1; injection g1 with g1; subst g1
 rw [Nat.add_assoc, g2]
 exact tcs_at hi j hj
theorem tms_len {T : List TL} (m : MutL 2 ty lo u x (tcs T)) : x.n = T.length := by
 have := m.1
 rw [tcs_len] at this
 omega
theorem MutL.slr {l : List Int} (m : MutL 1 ty lo u x (ics l)) : SlR .i64 u x.a x.n x.c l := by
 have h1 := m.1
 rw [ics_len] at h1
 refine ⟨by omega, m.2.1, m.2.2.1, fun hp => ?_⟩
 obtain ⟨b, e, _⟩ := MutL.cell (j := 0) m (by rw [ics_len]; omega)
 refine ⟨b, 0, e, m.lt e, fun i hi => ?_⟩
 obtain ⟨b2, e2, g⟩ := MutL.cell (j := i) m (by rw [ics_len]; omega)
 rw [e] at e2; injection e2 with e2; injection e2 with e2; subst e2
 rw [g, ics_at (by omega), List.getD_eq_getElem?_getD]
end Go.Proofs.YtdmpfhhhlhoeiaaGreat
namespace Go.Proofs.YtdmpfhhhlhoeiaaGreat
open Go.RowKit
set_option linter.unusedVariables false
theorem Nt.wq_rs {z f : Int} (h0 : -16777216 ≤ z) (h1 : z ≤ 16777216) (hf : f ≤ 24) : Nt.rs (Nt.wq z f) ≤ 2 := by
 have hp := Nt.p2i_pos f
 have hp2 := Nt.p2i_24 hf
 obtain ⟨⟨a, ha, a2⟩, ⟨b, hb, b2⟩⟩ := Nt.Wh.quo (A := 24) (B := 24) (x := ((z : Int) : Rat)) (y := ((Nt.p2i f : Int) : Rat)) ⟨z, rfl, by omega⟩ ⟨Nt.p2i f, rfl, by omega⟩ (Nt.p2i_ne f)
 have ha := Rat.intCast_inj.1 ha
 have hb := Rat.intCast_inj.1 hb
 unfold Nt.rs Nt.wq
 rw [ha]
 refine Nat.max_le.2 ⟨Nat.le_trans (Nt.dl_dg (C := 24) a2) (by decide), Nat.le_trans (Nt.dl_dg (C := 24) (by omega)) (by decide)⟩
set_option maxHeartbeats 4000000 in
theorem k_latIdealG {u w : World} {x y : Sl} {l m : List Int} {W : WL} (d : Dat u w) (hE : Nt.latE W l m = 0) (hx : SlR .i64 u x.a x.n x.c l) (hb : ∀ z ∈ l, -9223372036854775808 ≤ z ∧ z ≤ 9223372036854775807) (hy : SlR .i64 u y.a y.n y.c m) (hc : ∀ z ∈ m, -9223372036854775808 ≤ z ∧ z ≤ 9223372036854775807) : Calls Tryz.prog 11 #[x.v, y.v, W.v] w (Post u w fun v u' => ∃ y z : Sl, v = .tuple #[.agg #[y.v, z.v], .int .i64 0] ∧ PolN u' y (Nt.trimQ (Nt.liS W.f l m m.length)) 80000 ∧ PolN u' z (Nt.trimQ (Nt.upL (Nt.wqL W.f l) (Nt.wqL W.f l).length)) 8176) := by
 obtain ⟨hW, h8, hlm, hbl, hbm⟩ := Nt.latE_ok hE
 obtain ⟨hw1, hw2, hw3, hw4, hw5, hw6, hw7, hw8⟩ := id hW
 have hu0 := Nt.p2i_pos W.f
 have hu1 := Nt.p2i_24 (n := W.f) (by omega)
 have hu2 := Nt.p2i_mono (a := W.f) (b := W.b - 1) (by omega)
 have hu3 := Nt.p2i_24 (n := W.b - 1) (by omega)
 have hlx : l.length = x.n := hx.1
 have hly : m.length = y.n := hy.1
 refine zzl (args := [.slice x.a x.n x.c, .slice y.a y.n y.c, .agg #[.int .i64 W.b, .int .i64 W.f, .int .i64 W.r, .int .i64 W.o]]) Tryz.func11 rfl Tryz.ntmps11 (rs := [.cell 6 31, .tmp 7]) Tryz.results11 (le_b rfl) (le_b rfl) d ?_
 refine sq9 ?_
 refine zzj 5 ⟨24, W.cs⟩ ?_
 refine zzj 6 ⟨31, [.slice none 0 0, .slice none 0 0]⟩ ?_
 refine zza 7 (.v (.int .i64 0)) ?_
 refine zzb 72 [(0, .v x.v), (1, .v y.v), (5, .adr 5 0), (6, .adr 6 0)] [(5, ⟨24, W.cs⟩), (6, ⟨31, [.slice none 0 0, .slice none 0 0]⟩)] ?_
 refine zzc ?_
 refine sq9 ?_
 refine zza 17 (.v x.v) ?_
 refine zza 18 (.v y.v) ?_
 refine zzh 19 (.v (W.v)) ty24 zzd ?_
 refine zzf 20 47 [x.v, y.v, W.v] ?_
 intro w11 u11 e11 d11
 have k14 := (Post.mono (Ψ := fun v _ => v = .int .i64 0) (k_latWrongG (W := W) d11 (hx.ext e11) hb (hy.ext e11) hc) (fun v u9 _ h => by rw [hE] at h; exact h))
 with_reducible refine zPm k14 ?_
 rintro _ u12 g13 rfl
 refine zza 8 (.v (.int .i64 0)) ?_
 refine zzb 72 [(0, .v x.v), (1, .v y.v), (5, .adr 5 0), (6, .adr 6 0), (8, .v (.int .i64 0))] [(5, ⟨24, W.cs⟩), (6, ⟨31, [.slice none 0 0, .slice none 0 0]⟩)] ?_
 refine sq9 ?_
 refine zza 21 (.v (.int .i64 0)) ?_
 refine zza 22 (.v (.bool false)) ?_
 refine zzb 72 [(0, .v x.v), (1, .v y.v), (5, .adr 5 0), (6, .adr 6 0), (8, .v (.int .i64 0)), (22, .v (.bool false))] [(5, ⟨24, W.cs⟩), (6, ⟨31, [.slice none 0 0, .slice none 0 0]⟩)] ?_
 refine zyr (by kernel_rfl) ?_
 refine zzr (zzo ?_)
 refine sq9 ?_
 refine zza 25 (.v x.v) ?_
 refine zza 26 (.v (.int .i64 (x.n : Int))) ?_
 refine sy_make 27 (T := 28) (E := 41) (z := .agg #[.bool false, .slice none 0 0, .slice none 0 0]) (size := 3) (bytes := 56) x.n (rcs (List.replicate x.n rl0)) (by kernel_rfl) (by kernel_rfl) rfl rfl (by omega) (by unfold maxLen; omega) (made_rcs _) ?_
 refine zza 9 (.slc 27 0 x.n x.n) ?_
 refine zzb 72 [(0, .v x.v), (1, .v y.v), (5, .adr 5 0), (6, .adr 6 0), (9, .slc 27 0 x.n x.n)] [(5, ⟨24, W.cs⟩), (6, ⟨31, [.slice none 0 0, .slice none 0 0]⟩), (27, ⟨41, rcs (List.replicate x.n rl0)⟩)] ?_
 refine zzc ?_
 refine sq9 ?_
 refine zza 28 (.v x.v) ?_
 refine zza 29 (.v (.int .i64 (x.n : Int))) ?_
 refine zza 30 (.v (.int .i64 0)) ?_
 refine zzb 72 [(1, .v y.v), (5, .adr 5 0), (6, .adr 6 0), (9, .slc 27 0 x.n x.n), (28, .v x.v), (29, .v (.int .i64 (x.n : Int))), (30, .v (.int .i64 0))] [(5, ⟨24, W.cs⟩), (6, ⟨31, [.slice none 0 0, .slice none 0 0]⟩), (27, ⟨41, rcs (List.replicate x.n rl0)⟩)] ?_
 refine zzs ?_
 refine zym (I := fun m15 S' u' => ∃ (i : Nat) (L : List RL), (m15 = x.n - i) ∧ (i ≤ x.n) ∧ (L.length = x.n) ∧ (S' = St.of 72 [(1, .v (.slice y.a y.n y.c)), (5, .adr 5 0), (6, .adr 6 0), (9, .slc 27 0 x.n x.n), (28, .v (.slice x.a x.n x.c)), (29, .v (.int .i64 (x.n : Int))), (30, .v (.int .i64 (i : Int)))] [(5, ⟨24, [.int .i64 W.b, .int .i64 W.f, .int .i64 W.r, .int .i64 W.o]⟩), (6, ⟨31, [.slice none 0 0, .slice none 0 0]⟩), (27, ⟨41, rcs L⟩)]) ∧ (Ext u12 u') ∧ (RatsN u' (L.take i) ((Nt.wqL W.f l).take i) 2)) (fun m S u1 u2 e h => by obtain ⟨i, L, hm, p0, p1, hS, hE, f0⟩ := h; exact ⟨i, L, hm, p0, p1, hS, hE.trans e, f0.ext e⟩) _ (T := St.of 72 [(1, .v (.slice y.a y.n y.c)), (5, .adr 5 0), (6, .adr 6 0), (9, .slc 27 0 x.n x.n), (28, .v (.slice x.a x.n x.c)), (29, .v (.int .i64 (x.n : Int))), (30, .v (.int .i64 0))] [(5, ⟨24, [.int .i64 W.b, .int .i64 W.f, .int .i64 W.r, .int .i64 W.o]⟩), (6, ⟨31, [.slice none 0 0, .slice none 0 0]⟩), (27, ⟨41, rcs (List.replicate x.n rl0)⟩)]) (by exact zzu _ _ _) ⟨0, List.replicate x.n rl0, rfl, by omega, by simp, rfl, (Ext.refl _), RatsN.tnil _ _ _ _⟩ ?_
 rintro m15 _ u15 ⟨i, L, hm15, hi, hL, rfl, e15, hR⟩
 refine sq9 ?_
 refine zza 31 (.v (.bool (decide ((i : Int) < (x.n : Int))))) ?_
 refine zzb 72 [(1, .v y.v), (5, .adr 5 0), (6, .adr 6 0), (9, .slc 27 0 x.n x.n), (28, .v x.v), (29, .v (.int .i64 (x.n : Int))), (30, .v (.int .i64 (i : Int))), (31, .v (.bool (decide ((i : Int) < (x.n : Int)))))] [(5, ⟨24, W.cs⟩), (6, ⟨31, [.slice none 0 0, .slice none 0 0]⟩), (27, ⟨41, rcs L⟩)] ?_
 refine zzc ?_
 refine zzt (b := decide ((i : Int) < (x.n : Int))) (by kernel_rfl) (fun hb16 => ?_) (fun hb16 => ?_)
 ·replace hb16 : (decide ((i : Int) < (x.n : Int))) = true := hb16
  have qhb16 := of_decide_eq_true hb16
  refine zzr (zzo ?_)
  refine zzc ?_
  refine zzs ?_
  refine sq9 ?_
  refine zza 32 (.v (.int .i64 (i : Int))) ?_
  have hl17 := ((hx.ext (e11.trans (g13.ext.trans e15)))).1
  obtain ⟨b17, o17, hA17, hc17⟩ := ints_at (hx.ext (e11.trans (g13.ext.trans e15))) (i := i) (by omega)
  have hz17 := ints_bd hbl (by omega) i
  refine zzz 33 (o17 + i * 1) (n := x.n) (off := o17) (sz := 1) (i := (i : Int)) (by omega) hA17 (by omega) (by omega) sl22 ?_
  refine zyk 34 (.int .i64 (l.getD i 0)) hc17 ty3 ?_
  refine zza 10 (.v (.int .i64 (i : Int))) ?_
  refine zza 11 (.v (.int .i64 (l.getD i 0))) ?_
  refine zzb 72 [(1, .v y.v), (5, .adr 5 0), (6, .adr 6 0), (9, .slc 27 0 x.n x.n), (10, .v (.int .i64 (i : Int))), (11, .v (.int .i64 (l.getD i 0))), (28, .v x.v), (29, .v (.int .i64 (x.n : Int))), (30, .v (.int .i64 (i : Int)))] [(5, ⟨24, W.cs⟩), (6, ⟨31, [.slice none 0 0, .slice none 0 0]⟩), (27, ⟨41, rcs L⟩)] ?_
  refine zze ?_
  refine zza 35 (.slc 27 0 x.n x.n) ?_
  refine zza 36 (.v (.int .i64 (i : Int))) ?_
  refine zzh 37 (.v (W.v)) ty24 zzd ?_
  refine zza 38 (.v (.int .i64 (l.getD i 0))) ?_
  refine zzf 39 48 [W.v, .int .i64 (l.getD i 0)] ?_
  intro w18 u18 e18 d18
  have k23 := k_fxValue (W := W) (z := (l.getD i 0)) d18 hW (by omega) (by omega)
  with_reducible refine zPm k23 ?_
  rintro _ u21 g22 ⟨r19, rfl, h20⟩
  refine zyv 40 (off' := i * 3) (n := x.n) (off := 0) (sz := 3) (i := (i : Int)) sl28 (by omega) (by omega) (by omega) ?_
  refine zyu (V := ⟨41, rcs L⟩) (off := i * 3) (rcs ((L).set i r19)) ty41 (by rw [zyx]; first|omega|(simp;omega)) (zyw (r := r19) (i := i) (by first|omega|(simp;omega)) rfl) ?_
  refine zzw ?_
  refine zzo ?_
  refine zze ?_
  refine zyp 41 (x := .v (.int .i64 (IntKind.i64.wrap ((i : Int) + 1)))) (.v (.int .i64 ((i + 1 : Nat) : Int))) (eqI (by rw [IntWalk.i64_in _ (by omega)]; omega)) ?_
  refine zza 30 (.v (.int .i64 ((i + 1 : Nat) : Int))) ?_
  refine zzw ?_
  have ht24 : i < (Nt.wqL W.f l).length := by rw [Nt.wqL_len]; omega
  refine ⟨_, ?_, St.of 72 [(1, .v (.slice y.a y.n y.c)), (5, .adr 5 0), (6, .adr 6 0), (9, .slc 27 0 x.n x.n), (28, .v (.slice x.a x.n x.c)), (29, .v (.int .i64 (x.n : Int))), (30, .v (.int .i64 ((i + 1 : Nat) : Int)))] [(5, ⟨24, [.int .i64 W.b, .int .i64 W.f, .int .i64 W.r, .int .i64 W.o]⟩), (6, ⟨31, [.slice none 0 0, .slice none 0 0]⟩), (27, ⟨41, rcs ((L).set i r19)⟩)], by exact zzu _ _ _, i + 1, (L).set i r19, rfl, by omega, by simpa using hL, rfl, (e15.trans (e18.trans g22.ext)), RatsN.tstep (hR.ext (e18.trans g22.ext)) (by omega) ht24 (RatN.more (K := 2) h20 (by omega)) (Nt.wqL_at W.f l (i := i) (by omega)).symm⟩
  omega
 ·replace hb16 : (decide ((i : Int) < (x.n : Int))) = false := hb16
  have qhb16 := of_decide_eq_false hb16
  refine zyb ?_
  refine zzo ?_
  refine zzc ?_
  have hzz := Nt.wqL_small hbl
  have hql := Nt.wqL_len W.f l
  refine zyo (r := 9) (t := 27) [9, 27] (by repeat first | exact noAt_of | refine zyc ?_ | refine zye ?_ | refine zyd ?_ | refine zzx ?_ | refine zya ?_) (by kernel_rfl) (by rfl) (by rfl) (by kernel_rfl) (fun b25 u26 e27 hb28 hh29 => ?_)
  have hp30 : PolN u26 ⟨some ⟨b25, 0, none⟩, x.n, x.n⟩ (Nt.wqL W.f l) 2 := pol_data1 hh29 (by unfold maxLen; omega) (RatsN.tdone (hR.ext e27) (by omega) (by rw [Nt.wqL_len]; omega)) (by omega)
  refine zze ?_
  refine zza 12 (.v (.slice none 0 0)) ?_
  refine zzb 72 [(1, .v y.v), (5, .adr 5 0), (6, .adr 6 0), (9, .v (.slice (some ⟨b25, 0, none⟩) x.n x.n)), (12, .v (.slice none 0 0))] [(5, ⟨24, W.cs⟩), (6, ⟨31, [.slice none 0 0, .slice none 0 0]⟩)] ?_
  refine zzc ?_
  refine sq9 ?_
  refine zza 42 (.v y.v) ?_
  refine zza 43 (.v (.int .i64 (y.n : Int))) ?_
  refine zza 44 (.v (.int .i64 0)) ?_
  refine zzb 72 [(5, .adr 5 0), (6, .adr 6 0), (9, .v (.slice (some ⟨b25, 0, none⟩) x.n x.n)), (12, .v (.slice none 0 0)), (42, .v y.v), (43, .v (.int .i64 (y.n : Int))), (44, .v (.int .i64 0))] [(5, ⟨24, W.cs⟩), (6, ⟨31, [.slice none 0 0, .slice none 0 0]⟩)] ?_
  refine zzs ?_
  refine zym (I := fun m31 S' u' => ∃ (i : Nat) (a : Sl), (m31 = y.n - i) ∧ (i ≤ y.n) ∧ (S' = St.of 72 [(5, .adr 5 0), (6, .adr 6 0), (9, .v (.slice (some ⟨b25, 0, none⟩) x.n x.n)), (12, .v (.slice a.a a.n a.c)), (42, .v (.slice y.a y.n y.c)), (43, .v (.int .i64 (y.n : Int))), (44, .v (.int .i64 (i : Int)))] [(5, ⟨24, [.int .i64 W.b, .int .i64 W.f, .int .i64 W.r, .int .i64 W.o]⟩), (6, ⟨31, [.slice none 0 0, .slice none 0 0]⟩)]) ∧ (Ext u26 u') ∧ (PolN u' a (Nt.liS W.f l m i) (i * 8200 + 1))) (fun m S u1 u2 e h => by obtain ⟨i, a, hm, p0, hS, hE, f0⟩ := h; exact ⟨i, a, hm, p0, hS, hE.trans e, f0.ext e⟩) _ (T := St.of 72 [(5, .adr 5 0), (6, .adr 6 0), (9, .v (.slice (some ⟨b25, 0, none⟩) x.n x.n)), (12, .v (.slice none 0 0)), (42, .v (.slice y.a y.n y.c)), (43, .v (.int .i64 (y.n : Int))), (44, .v (.int .i64 0))] [(5, ⟨24, [.int .i64 W.b, .int .i64 W.f, .int .i64 W.r, .int .i64 W.o]⟩), (6, ⟨31, [.slice none 0 0, .slice none 0 0]⟩)]) (by exact zzu _ _ _) ⟨0, ⟨none, 0, 0⟩, rfl, Nat.zero_le _, rfl, (Ext.refl _), pol_nil _ _⟩ ?_
  rintro m31 _ u31 ⟨i, a, hm31, hi, rfl, e31, hA⟩
  have hal := hA.len
  have hsl := Nt.liS_len W.f l m i
  refine sq9 ?_
  refine zza 45 (.v (.bool (decide ((i : Int) < (y.n : Int))))) ?_
  refine zzb 72 [(5, .adr 5 0), (6, .adr 6 0), (9, .v (.slice (some ⟨b25, 0, none⟩) x.n x.n)), (12, .v a.v), (42, .v y.v), (43, .v (.int .i64 (y.n : Int))), (44, .v (.int .i64 (i : Int))), (45, .v (.bool (decide ((i : Int) < (y.n : Int)))))] [(5, ⟨24, W.cs⟩), (6, ⟨31, [.slice none 0 0, .slice none 0 0]⟩)] ?_
  refine zzc ?_
  refine zzt (b := decide ((i : Int) < (y.n : Int))) (by kernel_rfl) (fun hb32 => ?_) (fun hb32 => ?_)
  ·replace hb32 : (decide ((i : Int) < (y.n : Int))) = true := hb32
   have qhb32 := of_decide_eq_true hb32
   refine zzr (zzo ?_)
   refine zzc ?_
   refine zzs ?_
   refine sq9 ?_
   refine zza 46 (.v (.int .i64 (i : Int))) ?_
   have hl33 := ((hy.ext (e11.trans (g13.ext.trans (e15.trans (e27.trans e31)))))).1
   obtain ⟨b33, o33, hA33, hc33⟩ := ints_at (hy.ext (e11.trans (g13.ext.trans (e15.trans (e27.trans e31))))) (i := i) (by omega)
   have hz33 := ints_bd hbm (by omega) i
   refine zzz 47 (o33 + i * 1) (n := y.n) (off := o33) (sz := 1) (i := (i : Int)) (by omega) hA33 (by omega) (by omega) sl22 ?_
   refine zyk 48 (.int .i64 (m.getD i 0)) hc33 ty3 ?_
   refine zza 13 (.v (.int .i64 (i : Int))) ?_
   refine zza 14 (.v (.int .i64 (m.getD i 0))) ?_
   refine zzb 72 [(5, .adr 5 0), (6, .adr 6 0), (9, .v (.slice (some ⟨b25, 0, none⟩) x.n x.n)), (12, .v a.v), (13, .v (.int .i64 (i : Int))), (14, .v (.int .i64 (m.getD i 0))), (42, .v y.v), (43, .v (.int .i64 (y.n : Int))), (44, .v (.int .i64 (i : Int)))] [(5, ⟨24, W.cs⟩), (6, ⟨31, [.slice none 0 0, .slice none 0 0]⟩)] ?_
   refine zzy [0, 0, 0, 6, 0, 0, 62, 126, 255, 511] [(0, []), (1, []), (2, []), (4, []), (5, []), (3, []), (6, []), (7, []), (8, []), (9, [])] (by kernel_rfl) (by kernel_rfl) ?_
   refine zza 49 (.v a.v) ?_
   refine zza 50 (.v (.slice (some ⟨b25, 0, none⟩) x.n x.n)) ?_
   refine zza 51 (.v (.int .i64 (i : Int))) ?_
   refine zzh 53 (.v (W.v)) ty24 zzd ?_
   refine zza 54 (.v (.int .i64 (m.getD i 0))) ?_
   refine zzf 52 51 [.slice (some ⟨b25, 0, none⟩) x.n x.n, .int .i64 (i : Int)] ?_
   intro w34 u34 e34 d34
   have k39 := (show Calls _ _ #[_, .int .i64 (i : Int)] _ _ from k_reversed (i := i) d34 (hp30.ext (e31.trans e34)).raw (by omega) (by omega) hzz (by omega))
   with_reducible refine zPm k39 ?_
   rintro _ u37 g38 ⟨y35, rfl, h36⟩
   have hly35 := h36.len
   have hmy35 := Nt.revL_len (Nt.wqL W.f l) i
   have hk40 := PolN.more h36 (Nt.upK_le8 (show i ≤ 8 by omega))
   refine zzf 55 48 [W.v, .int .i64 (m.getD i 0)] ?_
   intro w41 u41 e41 d41
   have k46 := k_fxValue (W := W) (z := (m.getD i 0)) d41 hW (by omega) (by omega)
   with_reducible refine zPm k46 ?_
   rintro _ u44 g45 ⟨r42, rfl, h43⟩
   refine zzf 56 50 [y35.v, r42.v] ?_
   intro w47 u47 e47 d47
   have k52 := k_poScale d47 (hk40.ext (e41.trans (g45.ext.trans e47))).raw (h43.ext e47).raw (by omega) (by first|omega|(simp;omega) | (refine Nat.le_trans (Nt.zzg _) ?_; first|omega|(simp;omega)) | (refine Nat.le_trans (Nt.zzg _) ?_; simp only [List.length_map]; refine Nat.le_trans (Nt.zzg _) ?_; first|omega|(simp;omega))) (by omega)
   with_reducible refine zPm k52 ?_
   rintro _ u50 g51 ⟨y48, rfl, h49⟩
   have hly48 := h49.len
   refine zzf 57 49 [a.v, y48.v] ?_
   intro w53 u53 e53 d53
   have k58 := k_poAdd d53 (hA.ext (e34.trans (g38.ext.trans (e41.trans (g45.ext.trans (e47.trans (g51.ext.trans e53))))))).raw (h49.ext e53).raw (by omega) (by omega) (by first|omega|(simp;omega) | (refine Nat.le_trans (Nt.zzg _) ?_; first|omega|(simp;omega)) | (refine Nat.le_trans (Nt.zzg _) ?_; simp only [List.length_map]; refine Nat.le_trans (Nt.zzg _) ?_; first|omega|(simp;omega))) (by first|omega|(simp;omega) | (refine Nat.le_trans (Nt.zzg _) ?_; first|omega|(simp;omega)) | (refine Nat.le_trans (Nt.zzg _) ?_; simp only [List.length_map]; refine Nat.le_trans (Nt.zzg _) ?_; first|omega|(simp;omega)))
   with_reducible refine zPm k58 ?_
   rintro _ u56 g57 ⟨y54, rfl, h55⟩
   have hly54 := h55.len
   refine zza 12 (.v y54.v) ?_
   refine zzw ?_
   refine zzo ?_
   refine zze ?_
   refine zyp 58 (x := .v (.int .i64 (IntKind.i64.wrap ((i : Int) + 1)))) (.v (.int .i64 ((i + 1 : Nat) : Int))) (eqI (by rw [IntWalk.i64_in _ (by omega)]; omega)) ?_
   refine zza 44 (.v (.int .i64 ((i + 1 : Nat) : Int))) ?_
   refine zzw ?_
   refine ⟨_, ?_, St.of 72 [(5, .adr 5 0), (6, .adr 6 0), (9, .v (.slice (some ⟨b25, 0, none⟩) x.n x.n)), (12, .v (.slice y54.a y54.n y54.c)), (42, .v (.slice y.a y.n y.c)), (43, .v (.int .i64 (y.n : Int))), (44, .v (.int .i64 ((i + 1 : Nat) : Int)))] [(5, ⟨24, [.int .i64 W.b, .int .i64 W.f, .int .i64 W.r, .int .i64 W.o]⟩), (6, ⟨31, [.slice none 0 0, .slice none 0 0]⟩)], by exact zzu _ _ _, i + 1, y54, rfl, by omega, rfl, (e31.trans (e34.trans (g38.ext.trans (e41.trans (g45.ext.trans (e47.trans (g51.ext.trans (e53.trans g57.ext)))))))), (show PolN _ _ (Nt.liS W.f l m (i + 1)) _ from PolN.more (K := ((i * 8200 + 1) + (8176 + 2) + 1)) h55 (by omega))⟩
   omega
  ·replace hb32 : (decide ((i : Int) < (y.n : Int))) = false := hb32
   have qhb32 := of_decide_eq_false hb32
   refine zyb ?_
   refine zzo ?_
   refine sq9 ?_
   refine zza 60 (.v (.slice (some ⟨b25, 0, none⟩) x.n x.n)) ?_
   refine zzf 61 52 [.slice (some ⟨b25, 0, none⟩) x.n x.n] ?_
   intro w59 u59 e59 d59
   have k64 := k_stepUpG d59 (hp30.ext (e31.trans e59)).raw (by omega) (by omega) hzz
   with_reducible refine zPm k64 ?_
   rintro _ u62 g63 ⟨y60, rfl, h61⟩
   have hly60 := h61.len
   have hky60 := Nt.upK_le8 (show (Nt.wqL W.f l).length ≤ 8 by omega)
   refine zza 59 (.v (.tuple #[y60.v, .int .i64 0])) ?_
   refine zza 62 (.v y60.v) ?_
   refine zza 63 (.v (.int .i64 0)) ?_
   refine zza 15 (.v y60.v) ?_
   refine zza 16 (.v (.int .i64 0)) ?_
   refine zzb 72 [(6, .adr 6 0), (12, .v a.v), (15, .v y60.v), (16, .v (.int .i64 0))] [(6, ⟨31, [.slice none 0 0, .slice none 0 0]⟩)] ?_
   refine zzc ?_
   refine sq9 ?_
   refine zza 64 (.v (.int .i64 0)) ?_
   refine zza 65 (.v (.bool false)) ?_
   refine zzb 72 [(6, .adr 6 0), (12, .v a.v), (15, .v y60.v), (16, .v (.int .i64 0)), (65, .v (.bool false))] [(6, ⟨31, [.slice none 0 0, .slice none 0 0]⟩)] ?_
   refine zyr (by kernel_rfl) ?_
   refine zzr (zzo ?_)
   refine sq9 ?_
   refine zza 68 (.v a.v) ?_
   refine zzf 69 53 [a.v] ?_
   intro w65 u65 e65 d65
   have k70 := k_poTrim d65 (hA.ext (e59.trans (g63.ext.trans e65))).raw (by omega) (by first | omega | (simp; done) | (simp; omega))
   with_reducible refine zPm k70 ?_
   rintro _ u68 g69 ⟨y66, rfl, h67⟩
   have hly66 := h67.len
   refine zza 70 (.v y60.v) ?_
   refine zza 71 (.v (.agg #[y66.v, y60.v])) ?_
   refine zzi ⟨31, [y66.v, y60.v]⟩ ty31 ?_
   refine zza 7 (.v (.int .i64 0)) ?_
   refine zzb 72 [(6, .adr 6 0), (7, .v (.int .i64 0))] [(6, ⟨31, [y66.v, y60.v]⟩)] ?_
   refine zzn (ret0 [.agg #[.slice y66.a y66.n y66.c, .slice y60.a y60.n y60.c], .int .i64 0] ⟨zzq ty31 zzd, zzp, trivial⟩ fun u71 e72 => ?_)
   have hi9 : i = m.length := by omega
   refine ⟨y66, y60, rfl, ?_, (by have h9 := (h61.ext (e65.trans (g69.ext.trans e72))); exact h9.more (by omega))⟩
   have h9 := (h67.ext e72)
   rw [hi9] at h9
   exact h9.more (by omega)
set_option maxHeartbeats 2000000 in
theorem k_rationals {u w : World} {x : Sl} {l : List Int} {W : WL} (d : Dat u w) (hW : WdOK W) (hx : SlR .i64 u x.a x.n x.c l) (hb : ∀ z ∈ l, -16777216 ≤ z ∧ z ≤ 16777216) (h8 : l.length ≤ 1000) : Calls Tryz.prog 77 #[x.v, W.v] w (Post u w fun v u' => ∃ y : Sl, v = y.v ∧ PolN u' y (Nt.wqL W.f l) 2) := by
 obtain ⟨hw1, hw2, hw3, hw4, hw5, hw6, hw7, hw8⟩ := id hW
 have hu0 := Nt.p2i_pos W.f
 have hu1 := Nt.p2i_24 (n := W.f) (by omega)
 have hu2 := Nt.p2i_mono (a := W.f) (b := W.b - 1) (by omega)
 have hu3 := Nt.p2i_24 (n := W.b - 1) (by omega)
 have hlx : l.length = x.n := hx.1
 refine zzl (args := [.slice x.a x.n x.c, .agg #[.int .i64 W.b, .int .i64 W.f, .int .i64 W.r, .int .i64 W.o]]) Tryz.func77 rfl Tryz.ntmps77 (rs := [.tmp 4]) Tryz.results77 (le_b rfl) (le_b rfl) d ?_
 refine sq9 ?_
 refine zzj 3 ⟨24, W.cs⟩ ?_
 refine zza 4 (.v (.slice none 0 0)) ?_
 refine zzb 23 [(0, .v x.v), (3, .adr 3 0)] [(3, ⟨24, W.cs⟩)] ?_
 refine sq9 ?_
 refine zza 5 (.v (.slice none 0 0)) ?_
 refine zzb 23 [(0, .v x.v), (3, .adr 3 0), (5, .v (.slice none 0 0))] [(3, ⟨24, W.cs⟩)] ?_
 refine zzc ?_
 refine sq9 ?_
 refine zza 6 (.v (.int .i64 0)) ?_
 refine zzb 23 [(0, .v x.v), (3, .adr 3 0), (5, .v (.slice none 0 0)), (6, .v (.int .i64 0))] [(3, ⟨24, W.cs⟩)] ?_
 refine zzs ?_
 refine zym (I := fun m11 S' u' => (m11 = x.n ∧ S' = St.of 23 [(0, .v (.slice x.a x.n x.c)), (3, .adr 3 0), (5, .v (.slice none 0 0)), (6, .v (.int .i64 0))] [(3, ⟨24, [.int .i64 W.b, .int .i64 W.f, .int .i64 W.r, .int .i64 W.o]⟩)] ∧ Ext u u') ∨ (∃ (i : Nat) (L : List RL) (cs : List Value) (cp : Nat), m11 = x.n - i ∧ i ≤ x.n ∧ 0 < i ∧ L.length = i ∧ cs.length = cp * 3 ∧ i ≤ cp ∧ cp ≤ maxLen ∧ cs.take (i * 3) = rcs L ∧ S' = St.of 23 [(0, .v (.slice x.a x.n x.c)), (3, .adr 3 0), (5, .slc 21 0 i cp), (6, .v (.int .i64 (i : Int)))] [(3, ⟨24, [.int .i64 W.b, .int .i64 W.f, .int .i64 W.r, .int .i64 W.o]⟩), (21, ⟨41, cs⟩)] ∧ Ext u u' ∧ RatsN u' L ((Nt.wqL W.f l).take i) 2)) (fun m S u1 u2 e h => by rcases h with ⟨a, b, c⟩ | ⟨a1, a2, a3, a4, b1, b2, b3, b4, b5, b6, b7, b8, b9, b10, b11⟩; exact .inl ⟨a, b, c.trans e⟩; exact .inr ⟨a1, a2, a3, a4, b1, b2, b3, b4, b5, b6, b7, b8, b9, b10.trans e, b11.ext e⟩) _ (T := St.of 23 [(0, .v (.slice x.a x.n x.c)), (3, .adr 3 0), (5, .v (.slice none 0 0)), (6, .v (.int .i64 0))] [(3, ⟨24, [.int .i64 W.b, .int .i64 W.f, .int .i64 W.r, .int .i64 W.o]⟩)]) (by exact zzu _ _ _) (.inl ⟨rfl, rfl, Ext.refl _⟩) ?_
 rintro m11 _ u11 (⟨hm11, rfl, e11⟩ | ⟨i, L, cs, cp, hm11, hi, hp, hL, hc, hle, hmx, ht, rfl, e11, hR⟩)
 ·change SW _ _ _ _ (St.of 23 [(0, .v (.slice x.a x.n x.c)), (3, .adr 3 0), (5, .v (.slice none 0 0)), (6, .v (.int .i64 0))] [(3, ⟨24, [.int .i64 W.b, .int .i64 W.f, .int .i64 W.r, .int .i64 W.o]⟩)]) _ _
  refine zzc ?_
  refine sq9 ?_
  refine zza 7 (.v (.int .i64 0)) ?_
  refine zza 8 (.v x.v) ?_
  refine zza 9 (.v (.int .i64 (x.n : Int))) ?_
  refine zza 10 (.v (.bool (decide ((0 : Int) < (x.n : Int))))) ?_
  refine zzb 23 [(0, .v x.v), (3, .adr 3 0), (5, .v (.slice none 0 0)), (6, .v (.int .i64 0)), (10, .v (.bool (decide ((0 : Int) < (x.n : Int)))))] [(3, ⟨24, W.cs⟩)] ?_
  refine zzt (b := decide ((0 : Int) < (x.n : Int))) (by kernel_rfl) (fun hb12 => ?_) (fun hb12 => ?_)
  ·replace hb12 : (decide ((0 : Int) < (x.n : Int))) = true := hb12
   have qhb12 := of_decide_eq_true hb12
   refine zzr (zzo ?_)
   refine zzc ?_
   refine zzs ?_
   refine zzy [0, 0, 0, 0, 12, 28, 62, 126, 255, 511] [(0, []), (1, []), (2, []), (3, []), (4, []), (5, []), (6, []), (7, []), (8, []), (9, [])] (by kernel_rfl) (by kernel_rfl) ?_
   refine zza 13 (.v (.slice none 0 0)) ?_
   refine zzh 14 (.v (W.v)) ty24 zzd ?_
   refine zza 15 (.v x.v) ?_
   refine zza 16 (.v (.int .i64 0)) ?_
   have hl13 := ((hx.ext e11)).1
   obtain ⟨b13, o13, hA13, hc13⟩ := ints_at (hx.ext e11) (i := 0) (by omega)
   have hz13 := ints_bd hb (by omega) 0
   refine zzz 17 (o13 + 0 * 1) (n := x.n) (off := o13) (sz := 1) (i := 0) (by omega) hA13 (by omega) (by omega) sl22 ?_
   refine zyk 18 (.int .i64 (l.getD 0 0)) hc13 ty3 ?_
   refine zzf 19 15 [W.v, .int .i64 (l.getD 0 0)] ?_
   intro w14 u14 e14 d14
   have k19 := (Post.mono (k_r21Value (W := W) (z := (l.getD 0 0)) d14 hW (by omega) (by omega)) (fun v u9 _ h => by obtain ⟨r, e, g⟩ := h; exact (show ∃ r : RL, v = r.v ∧ RatN u9 r ((((l.getD 0 0) : Int) : Rat) / ((Nt.p2i W.f : Int) : Rat)) 2 from ⟨r, e, RatN.fit g (Nt.wq_rs (by omega) (by omega) (by omega))⟩)))
   with_reducible refine zPm k19 ?_
   rintro _ u17 g18 ⟨r15, rfl, h16⟩
   refine sy_lit 20 ⟨41, r15.cs⟩ 1 ?_
   refine sy_appL0 21 (T := 28) (E := 41) (z := .agg #[.bool false, .slice none 0 0, .slice none 0 0]) (size := 3) (bytes := 56) (m := 1) (t2 := 20) r15.cs (by kernel_rfl) (by kernel_rfl) (by kernel_rfl) (by decide) rfl (rl_one r15) (by decide) (by decide) (by decide) ?_
   intro c20 cs20 ha20 hb20 hc20 hd20
   refine zza 5 (.slc 21 0 1 c20) ?_
   refine zzw ?_
   refine zzo ?_
   refine zze ?_
   refine zza 11 (.v (.int .i64 0)) ?_
   refine zza 12 (.v (.int .i64 1)) ?_
   refine zza 6 (.v (.int .i64 1)) ?_
   refine zzw ?_
   have ht21 : 0 < (Nt.wqL W.f l).length := by rw [Nt.wqL_len]; omega
   refine ⟨_, ?_, St.of 23 [(0, .v (.slice x.a x.n x.c)), (3, .adr 3 0), (5, .slc 21 0 1 c20), (6, .v (.int .i64 1))] [(3, ⟨24, [.int .i64 W.b, .int .i64 W.f, .int .i64 W.r, .int .i64 W.o]⟩), (21, ⟨41, cs20⟩)], by exact zzu _ _ _, .inr ⟨1, [r15], cs20, c20, rfl, by omega, by omega, by simp, hc20, by omega, hb20, hd20, rfl, (e11.trans (e14.trans g18.ext)), (app_first (RatN.more (K := 2) h16 (by omega)) ht21 (Nt.wqL_at W.f l (i := 0) (by omega)).symm)⟩⟩
   omega
  ·replace hb12 : (decide ((0 : Int) < (x.n : Int))) = false := hb12
   have qhb12 := of_decide_eq_false hb12
   refine zyb ?_
   refine zzo ?_
   refine zzc ?_
   have hp22 : PolN u11 ⟨none, 0, 0⟩ (Nt.wqL W.f l) 2 := by have h9 : (Nt.wqL W.f l) = [] := List.eq_nil_of_length_eq_zero (by rw [Nt.wqL_len]; omega); rw [h9]; exact pol_nil _ _
   refine zze ?_
   refine zza 22 (.v (.slice none 0 0)) ?_
   refine zza 4 (.v (.slice none 0 0)) ?_
   refine zzb 23 [(4, .v (.slice none 0 0))] [] ?_
   refine zzn (ret0 [.slice none 0 0] ⟨zzp, trivial⟩ fun u23 e24 => ?_)
   exact ⟨⟨none, 0, 0⟩, rfl, (hp22.ext e24)⟩
 ·change SW _ _ _ _ (St.of 23 [(0, .v (.slice x.a x.n x.c)), (3, .adr 3 0), (5, .slc 21 0 i cp), (6, .v (.int .i64 (i : Int)))] [(3, ⟨24, [.int .i64 W.b, .int .i64 W.f, .int .i64 W.r, .int .i64 W.o]⟩), (21, ⟨41, cs⟩)]) _ _
  refine zzc ?_
  refine sq9 ?_
  refine zza 7 (.v (.int .i64 (i : Int))) ?_
  refine zza 8 (.v x.v) ?_
  refine zza 9 (.v (.int .i64 (x.n : Int))) ?_
  refine zza 10 (.v (.bool (decide ((i : Int) < (x.n : Int))))) ?_
  refine zzb 23 [(0, .v x.v), (3, .adr 3 0), (5, .slc 21 0 i cp), (6, .v (.int .i64 (i : Int))), (10, .v (.bool (decide ((i : Int) < (x.n : Int)))))] [(3, ⟨24, W.cs⟩), (21, ⟨41, cs⟩)] ?_
  refine zzt (b := decide ((i : Int) < (x.n : Int))) (by kernel_rfl) (fun hb25 => ?_) (fun hb25 => ?_)
  ·replace hb25 : (decide ((i : Int) < (x.n : Int))) = true := hb25
   have qhb25 := of_decide_eq_true hb25
   refine zzr (zzo ?_)
   refine zzc ?_
   refine zzs ?_
   refine zzy [0, 0, 0, 0, 12, 28, 62, 126, 255, 511] [(0, []), (1, []), (2, []), (3, []), (4, []), (5, []), (6, []), (7, []), (8, []), (9, [])] (by kernel_rfl) (by kernel_rfl) ?_
   refine zza 13 (.slc 21 0 i cp) ?_
   refine zzh 14 (.v (W.v)) ty24 zzd ?_
   refine zza 15 (.v x.v) ?_
   refine zza 16 (.v (.int .i64 (i : Int))) ?_
   have hl26 := ((hx.ext e11)).1
   obtain ⟨b26, o26, hA26, hc26⟩ := ints_at (hx.ext e11) (i := i) (by omega)
   have hz26 := ints_bd hb (by omega) i
   refine zzz 17 (o26 + i * 1) (n := x.n) (off := o26) (sz := 1) (i := (i : Int)) (by omega) hA26 (by omega) (by omega) sl22 ?_
   refine zyk 18 (.int .i64 (l.getD i 0)) hc26 ty3 ?_
   refine zzf 19 15 [W.v, .int .i64 (l.getD i 0)] ?_
   intro w27 u27 e27 d27
   have k32 := (Post.mono (k_r21Value (W := W) (z := (l.getD i 0)) d27 hW (by omega) (by omega)) (fun v u9 _ h => by obtain ⟨r, e, g⟩ := h; exact (show ∃ r : RL, v = r.v ∧ RatN u9 r ((((l.getD i 0) : Int) : Rat) / ((Nt.p2i W.f : Int) : Rat)) 2 from ⟨r, e, RatN.fit g (Nt.wq_rs (by omega) (by omega) (by omega))⟩)))
   with_reducible refine zPm k32 ?_
   rintro _ u30 g31 ⟨r28, rfl, h29⟩
   refine sy_lit 20 ⟨41, r28.cs⟩ 1 ?_
   refine sy_appL1 21 (T := 28) (E := 41) (z := .agg #[.bool false, .slice none 0 0, .slice none 0 0]) (size := 3) (bytes := 56) (m := 1) (t2 := 20) (n := i) (cap := cp) (t := 21) (cs0 := cs) [5, 13, 21] r28.cs (by kernel_rfl) (by kernel_rfl) (by kernel_rfl) (by decide) rfl (rl_one r28) (by decide) (by unfold maxLen; omega) (by omega) (by omega) (by omega) (by omega) (by repeat first | exact noAt_of | refine zyc ?_ | refine zye ?_ | refine zyd ?_ | refine zzx ?_ | refine zya ?_) ?_
   intro c33 cs33 ha33 hb33 hc33 hd33
   have hd33r : cs33.take ((i + 1) * 3) = rcs (L ++ [r28]) := by rw [hd33, ht, rcs_app]; rfl
   refine zza 5 (.slc 21 0 (i + 1) c33) ?_
   refine zzw ?_
   refine zzo ?_
   refine zze ?_
   refine zza 11 (.v (.int .i64 (i : Int))) ?_
   refine zyp 12 (x := .v (.int .i64 (IntKind.i64.wrap ((i : Int) + 1)))) (.v (.int .i64 ((i + 1 : Nat) : Int))) (eqI (by rw [IntWalk.i64_in _ (by omega)]; omega)) ?_
   refine zza 6 (.v (.int .i64 ((i + 1 : Nat) : Int))) ?_
   refine zzw ?_
   have ht34 : i < (Nt.wqL W.f l).length := by rw [Nt.wqL_len]; omega
   refine ⟨_, ?_, St.of 23 [(0, .v (.slice x.a x.n x.c)), (3, .adr 3 0), (5, .slc 21 0 (i + 1) c33), (6, .v (.int .i64 ((i + 1 : Nat) : Int)))] [(3, ⟨24, [.int .i64 W.b, .int .i64 W.f, .int .i64 W.r, .int .i64 W.o]⟩), (21, ⟨41, cs33⟩)], by exact zzu _ _ _, .inr ⟨i + 1, L ++ [r28], cs33, c33, rfl, by omega, by omega, by simp; omega, hc33, by omega, hb33, hd33r, rfl, (e11.trans (e27.trans g31.ext)), (app_next (hR.ext (e27.trans g31.ext)) (RatN.more (K := 2) h29 (by omega)) ht34 (Nt.wqL_at W.f l (i := i) (by omega)).symm)⟩⟩
   omega
  ·replace hb25 : (decide ((i : Int) < (x.n : Int))) = false := hb25
   have qhb25 := of_decide_eq_false hb25
   refine zyb ?_
   refine zzo ?_
   refine zzc ?_
   refine zyo (r := 5) (t := 21) [5, 21] (by repeat first | exact noAt_of | refine zyc ?_ | refine zye ?_ | refine zyd ?_ | refine zzx ?_ | refine zya ?_) (by kernel_rfl) (by rfl) (by rfl) (by kernel_rfl) (fun b36 u37 e38 hb39 hh40 => ?_)
   have hp35 : PolN u37 ⟨some ⟨b36, 0, none⟩, i, cp⟩ (Nt.wqL W.f l) 2 := by have h8 := pol_data hh40 ht hc hle hmx (hR.ext e38); rw [List.take_of_length_le (l := (Nt.wqL W.f l)) (by rw [Nt.wqL_len]; omega)] at h8; exact h8
   refine zze ?_
   refine zza 22 (.v (.slice (some ⟨b36, 0, none⟩) i cp)) ?_
   refine zza 4 (.v (.slice (some ⟨b36, 0, none⟩) i cp)) ?_
   refine zzb 23 [(4, .v (.slice (some ⟨b36, 0, none⟩) i cp))] [] ?_
   refine zzn (ret0 [.slice (some ⟨b36, 0, none⟩) i cp] ⟨zzp, trivial⟩ fun u41 e42 => ?_)
   exact ⟨(⟨some ⟨b36, 0, none⟩, i, cp⟩ : Sl), rfl, (hp35.ext e42)⟩
theorem Nt.ckE_same {W : WL} {l m : List Int} : Nt.ckE W W l m = Nt.latE W l m := by
 unfold Nt.ckE
 split
 ·rename_i h; rw [Nt.latE_2 h]
 ·rfl
set_option maxHeartbeats 4000000 in
theorem k_rlatIdealG {u w : World} {x y : Sl} {l m : List Int} {W : WL} (d : Dat u w) (hE : Nt.latE W l m = 0) (hx : SlR .i64 u x.a x.n x.c l) (hb : ∀ z ∈ l, -9223372036854775808 ≤ z ∧ z ≤ 9223372036854775807) (hy : SlR .i64 u y.a y.n y.c m) (hc : ∀ z ∈ m, -9223372036854775808 ≤ z ∧ z ≤ 9223372036854775807) : Calls Tryz.prog 19 #[x.v, y.v, W.v] w (Post u w fun v u' => ∃ y z : Sl, v = .tuple #[.agg #[y.v, z.v], .int .i64 0] ∧ PolN u' y (Nt.trimQ (Nt.liS W.f l m m.length)) 80000 ∧ PolN u' z (Nt.trimQ (Nt.upL (Nt.wqL W.f l) (Nt.wqL W.f l).length)) 8176) := by
 obtain ⟨hW, h8, hlm, hbl, hbm⟩ := Nt.latE_ok hE
 obtain ⟨hw1, hw2, hw3, hw4, hw5, hw6, hw7, hw8⟩ := id hW
 have hu0 := Nt.p2i_pos W.f
 have hu1 := Nt.p2i_24 (n := W.f) (by omega)
 have hu2 := Nt.p2i_mono (a := W.f) (b := W.b - 1) (by omega)
 have hu3 := Nt.p2i_24 (n := W.b - 1) (by omega)
 have hlx : l.length = x.n := hx.1
 have hly : m.length = y.n := hy.1
 refine zzl (args := [.slice x.a x.n x.c, .slice y.a y.n y.c, .agg #[.int .i64 W.b, .int .i64 W.f, .int .i64 W.r, .int .i64 W.o]]) Tryz.func19 rfl Tryz.ntmps19 (rs := [.cell 6 31, .tmp 7]) Tryz.results19 (le_b rfl) (le_b rfl) d ?_
 refine sq9 ?_
 refine zzj 5 ⟨24, W.cs⟩ ?_
 refine zzj 6 ⟨31, [.slice none 0 0, .slice none 0 0]⟩ ?_
 refine zza 7 (.v (.int .i64 0)) ?_
 refine zzb 62 [(0, .v x.v), (1, .v y.v), (5, .adr 5 0), (6, .adr 6 0)] [(5, ⟨24, W.cs⟩), (6, ⟨31, [.slice none 0 0, .slice none 0 0]⟩)] ?_
 refine zzc ?_
 refine sq9 ?_
 refine zza 17 (.v x.v) ?_
 refine zza 18 (.v y.v) ?_
 refine zzh 19 (.v (W.v)) ty24 zzd ?_
 refine zzh 20 (.v (W.v)) ty24 zzd ?_
 refine zzf 21 76 [x.v, y.v, W.v, W.v] ?_
 intro w11 u11 e11 d11
 have k14 := (Post.mono (Ψ := fun v _ => v = .int .i64 0) (k_checkG (D := W) (W := W) d11 (hx.ext e11) hb (hy.ext e11) hc) (fun v u9 _ h => by rw [Nt.ckE_same.trans hE] at h; exact h))
 with_reducible refine zPm k14 ?_
 rintro _ u12 g13 rfl
 refine zza 8 (.v (.int .i64 0)) ?_
 refine zzb 62 [(0, .v x.v), (1, .v y.v), (5, .adr 5 0), (6, .adr 6 0), (8, .v (.int .i64 0))] [(5, ⟨24, W.cs⟩), (6, ⟨31, [.slice none 0 0, .slice none 0 0]⟩)] ?_
 refine sq9 ?_
 refine zza 22 (.v (.int .i64 0)) ?_
 refine zza 23 (.v (.bool false)) ?_
 refine zzb 62 [(0, .v x.v), (1, .v y.v), (5, .adr 5 0), (6, .adr 6 0), (8, .v (.int .i64 0)), (23, .v (.bool false))] [(5, ⟨24, W.cs⟩), (6, ⟨31, [.slice none 0 0, .slice none 0 0]⟩)] ?_
 refine zyr (by kernel_rfl) ?_
 refine zzr (zzo ?_)
 refine zzc ?_
 refine zzy [0, 0, 3, 0, 0, 31, 63, 127] [(0, []), (1, []), (3, []), (4, []), (2, []), (5, []), (6, []), (7, [])] (by kernel_rfl) (by kernel_rfl) ?_
 refine zza 26 (.v x.v) ?_
 refine zzh 27 (.v (W.v)) ty24 zzd ?_
 refine zza 29 (.v y.v) ?_
 refine zzh 30 (.v (W.v)) ty24 zzd ?_
 refine zzf 28 77 [x.v, W.v] ?_
 intro w15 u15 e15 d15
 have k20 := k_rationals (W := W) d15 hW (hx.ext (e11.trans (g13.ext.trans e15))) (fun z hz => by have h9 := hbl z hz; omega) (by omega)
 with_reducible refine zPm k20 ?_
 rintro _ u18 g19 ⟨y16, rfl, h17⟩
 have hly16 := h17.len
 have hmy16 := Nt.wqL_len W.f l
 refine zzf 31 77 [y.v, W.v] ?_
 intro w21 u21 e21 d21
 have k26 := k_rationals (W := W) d21 hW (hy.ext (e11.trans (g13.ext.trans (e15.trans (g19.ext.trans e21))))) (fun z hz => by have h9 := hbm z hz; omega) (by omega)
 with_reducible refine zPm k26 ?_
 rintro _ u24 g25 ⟨y22, rfl, h23⟩
 have hly22 := h23.len
 have hmy22 := Nt.wqL_len W.f m
 refine zza 9 (.v y16.v) ?_
 refine zza 10 (.v y22.v) ?_
 refine zzb 62 [(6, .adr 6 0), (9, .v y16.v), (10, .v y22.v)] [(6, ⟨31, [.slice none 0 0, .slice none 0 0]⟩)] ?_
 refine zzc ?_
 have hzz := Nt.wqL_small hbl
 have hql := Nt.wqL_len W.f l
 refine zze ?_
 refine zza 33 (.v y16.v) ?_
 refine zzf 34 78 [y16.v] ?_
 intro w27 u27 e27 d27
 have k32 := k_rstepUpG d27 (h17.ext (e21.trans (g25.ext.trans e27))).raw (by omega) (by omega) hzz
 with_reducible refine zPm k32 ?_
 rintro _ u30 g31 ⟨y28, rfl, h29⟩
 have hly28 := h29.len
 have hky28 := Nt.upK_le8 (show (Nt.wqL W.f l).length ≤ 8 by omega)
 have hm33 : (Nt.trimQ (Nt.upL (Nt.wqL W.f l) (Nt.wqL W.f l).length)).length ≤ l.length + 1 := Nat.le_trans (Nt.zzg _) (by rw [Nt.upL_len, Nt.wqL_len]; exact Nat.le_refl _)
 refine zza 32 (.v (.tuple #[y28.v, .int .i64 0])) ?_
 refine zza 35 (.v y28.v) ?_
 refine zza 36 (.v (.int .i64 0)) ?_
 refine zza 11 (.v y28.v) ?_
 refine zza 12 (.v (.int .i64 0)) ?_
 refine zzb 62 [(6, .adr 6 0), (9, .v y16.v), (10, .v y22.v), (11, .v y28.v)] [(6, ⟨31, [.slice none 0 0, .slice none 0 0]⟩)] ?_
 refine sq9 ?_
 refine zza 13 (.v (.slice none 0 0)) ?_
 refine zzb 62 [(6, .adr 6 0), (9, .v y16.v), (10, .v y22.v), (11, .v y28.v), (13, .v (.slice none 0 0))] [(6, ⟨31, [.slice none 0 0, .slice none 0 0]⟩)] ?_
 refine zzc ?_
 refine sq9 ?_
 refine zza 14 (.v (.int .i64 0)) ?_
 refine zzb 62 [(6, .adr 6 0), (9, .v y16.v), (10, .v y22.v), (11, .v y28.v), (13, .v (.slice none 0 0)), (14, .v (.int .i64 0))] [(6, ⟨31, [.slice none 0 0, .slice none 0 0]⟩)] ?_
 refine zzs ?_
 refine zym (I := fun m34 S' u' => ∃ (i : Nat) (a : Sl), (m34 = m.length - i) ∧ (i ≤ m.length) ∧ (S' = St.of 62 [(6, .adr 6 0), (9, .v (.slice y16.a y16.n y16.c)), (10, .v (.slice y22.a y22.n y22.c)), (11, .v (.slice y28.a y28.n y28.c)), (13, .v (.slice a.a a.n a.c)), (14, .v (.int .i64 (i : Int)))] [(6, ⟨31, [.slice none 0 0, .slice none 0 0]⟩)]) ∧ (Ext u30 u') ∧ (PolN u' a (Nt.liS W.f l m i) (i * 8200 + 1))) (fun m S u1 u2 e h => by obtain ⟨i, a, hm, p0, hS, hE, f0⟩ := h; exact ⟨i, a, hm, p0, hS, hE.trans e, f0.ext e⟩) _ (T := St.of 62 [(6, .adr 6 0), (9, .v (.slice y16.a y16.n y16.c)), (10, .v (.slice y22.a y22.n y22.c)), (11, .v (.slice y28.a y28.n y28.c)), (13, .v (.slice none 0 0)), (14, .v (.int .i64 0))] [(6, ⟨31, [.slice none 0 0, .slice none 0 0]⟩)]) (by exact zzu _ _ _) ⟨0, ⟨none, 0, 0⟩, rfl, Nat.zero_le _, rfl, (Ext.refl _), pol_nil _ _⟩ ?_
 rintro m34 _ u34 ⟨i, a, hm34, hi, rfl, e34, hA⟩
 have hal := hA.len
 have hsl := Nt.liS_len W.f l m i
 refine zzc ?_
 refine sq9 ?_
 refine zza 37 (.v (.int .i64 (i : Int))) ?_
 refine zza 38 (.v y22.v) ?_
 refine zza 39 (.v (.int .i64 (y22.n : Int))) ?_
 refine zza 40 (.v (.bool (decide ((i : Int) < (y22.n : Int))))) ?_
 refine zzb 62 [(6, .adr 6 0), (9, .v y16.v), (10, .v y22.v), (11, .v y28.v), (13, .v a.v), (14, .v (.int .i64 (i : Int))), (40, .v (.bool (decide ((i : Int) < (y22.n : Int)))))] [(6, ⟨31, [.slice none 0 0, .slice none 0 0]⟩)] ?_
 refine zzt (b := decide ((i : Int) < (y22.n : Int))) (by kernel_rfl) (fun hb35 => ?_) (fun hb35 => ?_)
 ·replace hb35 : (decide ((i : Int) < (y22.n : Int))) = true := hb35
  have qhb35 := of_decide_eq_true hb35
  refine zzr (zzo ?_)
  refine zzc ?_
  refine zzs ?_
  refine sq9 ?_
  refine zza 44 (.v y16.v) ?_
  refine zza 45 (.v (.int .i64 (i : Int))) ?_
  refine zzf 46 79 [y16.v, .int .i64 (i : Int)] ?_
  intro w36 u36 e36 d36
  have k41 := (show Calls _ _ #[_, .int .i64 (i : Int)] _ _ from k_rreversed (i := i) d36 (h17.ext (e21.trans (g25.ext.trans (e27.trans (g31.ext.trans (e34.trans e36)))))).raw (by omega) (by omega) hzz (by omega))
  with_reducible refine zPm k41 ?_
  rintro _ u39 g40 ⟨y37, rfl, h38⟩
  have hly37 := h38.len
  have hmy37 := Nt.revL_len (Nt.wqL W.f l) i
  have hk42 := PolN.more h38 (Nt.upK_le8 (show i ≤ 8 by omega))
  refine zza 43 (.v (.tuple #[y37.v, .int .i64 0])) ?_
  refine zza 47 (.v y37.v) ?_
  refine zza 48 (.v (.int .i64 0)) ?_
  refine zza 15 (.v y37.v) ?_
  refine zza 16 (.v (.int .i64 0)) ?_
  refine zzb 62 [(6, .adr 6 0), (9, .v y16.v), (10, .v y22.v), (11, .v y28.v), (13, .v a.v), (14, .v (.int .i64 (i : Int))), (15, .v y37.v)] [(6, ⟨31, [.slice none 0 0, .slice none 0 0]⟩)] ?_
  refine zze ?_
  refine zza 49 (.v a.v) ?_
  refine zza 50 (.v y37.v) ?_
  refine zza 51 (.v y22.v) ?_
  refine zza 52 (.v (.int .i64 (i : Int))) ?_
  have hl43 := (h23.ext (e27.trans (g31.ext.trans (e34.trans (e36.trans g40.ext))))).len
  obtain ⟨r43, b43, o43, hA43, hc43, hr43⟩ := pol_atN (h23.ext (e27.trans (g31.ext.trans (e34.trans (e36.trans g40.ext))))) (i := i) (by omega)
  refine zzz 53 (o43 + i * 3) (n := y22.n) (off := o43) (sz := 3) (i := (i : Int)) (by omega) hA43 (by omega) (by omega) sl28 ?_
  refine zyl 54 r43.cs hc43 ty41 ?_
  refine zzf 55 81 [y37.v, r43.v] ?_
  intro w44 u44 e44 d44
  have k49 := k_r5Scale d44 (hk42.ext e44).raw (hr43.ext e44).raw (by omega) (by omega) (by omega)
  with_reducible refine zPm k49 ?_
  rintro _ u47 g48 ⟨y45, rfl, h46⟩
  have hly45 := h46.len
  refine zzf 56 80 [a.v, y45.v] ?_
  intro w50 u50 e50 d50
  have k55 := k_r5Add d50 (hA.ext (e36.trans (g40.ext.trans (e44.trans (g48.ext.trans e50))))).raw (h46.ext e50).raw (by omega) (by omega) (by first|omega|(simp;omega) | (refine Nat.le_trans (Nt.zzg _) ?_; first|omega|(simp;omega)) | (refine Nat.le_trans (Nt.zzg _) ?_; simp only [List.length_map]; refine Nat.le_trans (Nt.zzg _) ?_; first|omega|(simp;omega))) (by first|omega|(simp;omega) | (refine Nat.le_trans (Nt.zzg _) ?_; first|omega|(simp;omega)) | (refine Nat.le_trans (Nt.zzg _) ?_; simp only [List.length_map]; refine Nat.le_trans (Nt.zzg _) ?_; first|omega|(simp;omega)))
  with_reducible refine zPm k55 ?_
  rintro _ u53 g54 ⟨y51, rfl, h52⟩
  have hly51 := h52.len
  refine zza 13 (.v y51.v) ?_
  refine zzw ?_
  refine zzo ?_
  refine zze ?_
  refine zza 41 (.v (.int .i64 (i : Int))) ?_
  refine zyp 42 (x := .v (.int .i64 (IntKind.i64.wrap ((i : Int) + 1)))) (.v (.int .i64 ((i + 1 : Nat) : Int))) (eqI (by rw [IntWalk.i64_in _ (by omega)]; omega)) ?_
  refine zza 14 (.v (.int .i64 ((i + 1 : Nat) : Int))) ?_
  refine zzw ?_
  refine ⟨_, ?_, St.of 62 [(6, .adr 6 0), (9, .v (.slice y16.a y16.n y16.c)), (10, .v (.slice y22.a y22.n y22.c)), (11, .v (.slice y28.a y28.n y28.c)), (13, .v (.slice y51.a y51.n y51.c)), (14, .v (.int .i64 ((i + 1 : Nat) : Int)))] [(6, ⟨31, [.slice none 0 0, .slice none 0 0]⟩)], by exact zzu _ _ _, i + 1, y51, rfl, by omega, rfl, (e34.trans (e36.trans (g40.ext.trans (e44.trans (g48.ext.trans (e50.trans g54.ext)))))), (show PolN _ _ (Nt.liS W.f l m (i + 1)) _ from PolN.more (K := ((i * 8200 + 1) + (8176 + 2 + 1) + 6)) (by have h9 := h52; rw [Nt.wqL_at W.f m (by omega)] at h9; exact h9) (by omega))⟩
  omega
 ·replace hb35 : (decide ((i : Int) < (y22.n : Int))) = false := hb35
  have qhb35 := of_decide_eq_false hb35
  refine zyb ?_
  refine zzo ?_
  refine sq9 ?_
  refine zza 57 (.v a.v) ?_
  refine zzf 58 82 [a.v] ?_
  intro w56 u56 e56 d56
  have k61 := k_r5Trim d56 (hA.ext e56).raw (by omega) (by first|omega|(simp;omega) | (refine Nat.le_trans (Nt.zzg _) ?_; first|omega|(simp;omega)) | (refine Nat.le_trans (Nt.zzg _) ?_; simp only [List.length_map]; refine Nat.le_trans (Nt.zzg _) ?_; first|omega|(simp;omega)))
  with_reducible refine zPm k61 ?_
  rintro _ u59 g60 ⟨y57, rfl, h58⟩
  have hly57 := h58.len
  refine zza 59 (.v y28.v) ?_
  refine zzf 60 82 [y28.v] ?_
  intro w62 u62 e62 d62
  have k67 := k_r5Trim d62 (h29.ext (e34.trans (e56.trans (g60.ext.trans e62)))).raw (by omega) (by first|omega|(simp;omega) | (refine Nat.le_trans (Nt.zzg _) ?_; first|omega|(simp;omega)) | (refine Nat.le_trans (Nt.zzg _) ?_; simp only [List.length_map]; refine Nat.le_trans (Nt.zzg _) ?_; first|omega|(simp;omega)))
  with_reducible refine zPm k67 ?_
  rintro _ u65 g66 ⟨y63, rfl, h64⟩
  have hly63 := h64.len
  refine zza 61 (.v (.agg #[y57.v, y63.v])) ?_
  refine zzi ⟨31, [y57.v, y63.v]⟩ ty31 ?_
  refine zza 7 (.v (.int .i64 0)) ?_
  refine zzb 62 [(6, .adr 6 0), (7, .v (.int .i64 0))] [(6, ⟨31, [y57.v, y63.v]⟩)] ?_
  refine zzn (ret0 [.agg #[.slice y57.a y57.n y57.c, .slice y63.a y63.n y63.c], .int .i64 0] ⟨zzq ty31 zzd, zzp, trivial⟩ fun u68 e69 => ?_)
  have hi9 : i = m.length := by omega
  refine ⟨y57, y63, rfl, ?_, (by have h9 := (h64.ext e69); rw [Nt.trim_trim] at h9; exact h9.more (by omega))⟩
  have h9 := (h58.ext (e62.trans (g66.ext.trans e69)))
  rw [hi9] at h9
  exact h9.more (by omega)
theorem k_latIdealBad {u w : World} {x y : Sl} {l m : List Int} {W : WL} (d : Dat u w) (hE : Nt.latE W l m ≠ 0) (hx : SlR .i64 u x.a x.n x.c l) (hb : ∀ z ∈ l, -9223372036854775808 ≤ z ∧ z ≤ 9223372036854775807) (hy : SlR .i64 u y.a y.n y.c m) (hc : ∀ z ∈ m, -9223372036854775808 ≤ z ∧ z ≤ 9223372036854775807) : Calls Tryz.prog 11 #[x.v, y.v, W.v] w (Post u w fun v u' => v = .tuple #[.agg #[.slice none 0 0, .slice none 0 0], .int .i64 (Nt.latE W l m)]) := by
 refine zzl (args := [.slice x.a x.n x.c, .slice y.a y.n y.c, .agg #[.int .i64 W.b, .int .i64 W.f, .int .i64 W.r, .int .i64 W.o]]) Tryz.func11 rfl Tryz.ntmps11 (rs := [.cell 6 31, .tmp 7]) Tryz.results11 (le_b rfl) (le_b rfl) d ?_
 refine sq9 ?_
 refine zzj 5 ⟨24, W.cs⟩ ?_
 refine zzj 6 ⟨31, [.slice none 0 0, .slice none 0 0]⟩ ?_
 refine zza 7 (.v (.int .i64 0)) ?_
 refine zzb 72 [(0, .v x.v), (1, .v y.v), (5, .adr 5 0), (6, .adr 6 0)] [(5, ⟨24, W.cs⟩), (6, ⟨31, [.slice none 0 0, .slice none 0 0]⟩)] ?_
 refine zzc ?_
 refine sq9 ?_
 refine zza 17 (.v x.v) ?_
 refine zza 18 (.v y.v) ?_
 refine zzh 19 (.v (W.v)) ty24 zzd ?_
 refine zzf 20 47 [x.v, y.v, W.v] ?_
 intro w11 u11 e11 d11
 have k14 := k_latWrongG (W := W) d11 (hx.ext e11) hb (hy.ext e11) hc
 with_reducible refine zPm k14 ?_
 rintro _ u12 g13 rfl
 refine zza 8 (.v (.int .i64 (Nt.latE W l m))) ?_
 refine zzb 72 [(0, .v x.v), (1, .v y.v), (5, .adr 5 0), (6, .adr 6 0), (8, .v (.int .i64 (Nt.latE W l m)))] [(5, ⟨24, W.cs⟩), (6, ⟨31, [.slice none 0 0, .slice none 0 0]⟩)] ?_
 refine sq9 ?_
 refine zza 21 (.v (.int .i64 (Nt.latE W l m))) ?_
 refine zza 22 (.v (.bool ((Nt.latE W l m) != 0))) ?_
 refine zzb 72 [(0, .v x.v), (1, .v y.v), (5, .adr 5 0), (6, .adr 6 0), (8, .v (.int .i64 (Nt.latE W l m))), (22, .v (.bool ((Nt.latE W l m) != 0)))] [(5, ⟨24, W.cs⟩), (6, ⟨31, [.slice none 0 0, .slice none 0 0]⟩)] ?_
 refine zzt (b := (Nt.latE W l m) != 0) (by kernel_rfl) (fun hb => ?_) (fun hb => ?_)
 ·clear hb
  refine sq9 ?_
  refine zza 23 (.v (.agg #[.slice none 0 0, .slice none 0 0])) ?_
  refine zza 24 (.v (.int .i64 (Nt.latE W l m))) ?_
  refine zzi ⟨31, [.slice none 0 0, .slice none 0 0]⟩ ty31 ?_
  refine zza 7 (.v (.int .i64 (Nt.latE W l m))) ?_
  refine zzb 72 [(6, .adr 6 0), (7, .v (.int .i64 (Nt.latE W l m)))] [(6, ⟨31, [.slice none 0 0, .slice none 0 0]⟩)] ?_
  refine zzn (zzv (ret0 [.agg #[.slice none 0 0, .slice none 0 0], .int .i64 (Nt.latE W l m)] ⟨zzq ty31 zzd, zzp, trivial⟩ fun u15 e16 => ?_))
  rfl
 ·exact absurd hb (by rw [show ((Nt.latE W l m) != 0) = true from (by simpa using hE)]; decide)
theorem k_rlatIdealBad {u w : World} {x y : Sl} {l m : List Int} {W : WL} (d : Dat u w) (hE : Nt.latE W l m ≠ 0) (hx : SlR .i64 u x.a x.n x.c l) (hb : ∀ z ∈ l, -9223372036854775808 ≤ z ∧ z ≤ 9223372036854775807) (hy : SlR .i64 u y.a y.n y.c m) (hc : ∀ z ∈ m, -9223372036854775808 ≤ z ∧ z ≤ 9223372036854775807) : Calls Tryz.prog 19 #[x.v, y.v, W.v] w (Post u w fun v u' => v = .tuple #[.agg #[.slice none 0 0, .slice none 0 0], .int .i64 (Nt.latE W l m)]) := by
 refine zzl (args := [.slice x.a x.n x.c, .slice y.a y.n y.c, .agg #[.int .i64 W.b, .int .i64 W.f, .int .i64 W.r, .int .i64 W.o]]) Tryz.func19 rfl Tryz.ntmps19 (rs := [.cell 6 31, .tmp 7]) Tryz.results19 (le_b rfl) (le_b rfl) d ?_
 refine sq9 ?_
 refine zzj 5 ⟨24, W.cs⟩ ?_
 refine zzj 6 ⟨31, [.slice none 0 0, .slice none 0 0]⟩ ?_
 refine zza 7 (.v (.int .i64 0)) ?_
 refine zzb 62 [(0, .v x.v), (1, .v y.v), (5, .adr 5 0), (6, .adr 6 0)] [(5, ⟨24, W.cs⟩), (6, ⟨31, [.slice none 0 0, .slice none 0 0]⟩)] ?_
 refine zzc ?_
 refine sq9 ?_
 refine zza 17 (.v x.v) ?_
 refine zza 18 (.v y.v) ?_
 refine zzh 19 (.v (W.v)) ty24 zzd ?_
 refine zzh 20 (.v (W.v)) ty24 zzd ?_
 refine zzf 21 76 [x.v, y.v, W.v, W.v] ?_
 intro w11 u11 e11 d11
 have k14 := (Post.mono (Ψ := fun v _ => v = .int .i64 (Nt.latE W l m)) (k_checkG (D := W) (W := W) d11 (hx.ext e11) hb (hy.ext e11) hc) (fun v u9 _ h => by rw [Nt.ckE_same] at h; exact h))
 with_reducible refine zPm k14 ?_
 rintro _ u12 g13 rfl
 refine zza 8 (.v (.int .i64 (Nt.latE W l m))) ?_
 refine zzb 62 [(0, .v x.v), (1, .v y.v), (5, .adr 5 0), (6, .adr 6 0), (8, .v (.int .i64 (Nt.latE W l m)))] [(5, ⟨24, W.cs⟩), (6, ⟨31, [.slice none 0 0, .slice none 0 0]⟩)] ?_
 refine sq9 ?_
 refine zza 22 (.v (.int .i64 (Nt.latE W l m))) ?_
 refine zza 23 (.v (.bool ((Nt.latE W l m) != 0))) ?_
 refine zzb 62 [(0, .v x.v), (1, .v y.v), (5, .adr 5 0), (6, .adr 6 0), (8, .v (.int .i64 (Nt.latE W l m))), (23, .v (.bool ((Nt.latE W l m) != 0)))] [(5, ⟨24, W.cs⟩), (6, ⟨31, [.slice none 0 0, .slice none 0 0]⟩)] ?_
 refine zzt (b := (Nt.latE W l m) != 0) (by kernel_rfl) (fun hb => ?_) (fun hb => ?_)
 ·clear hb
  refine sq9 ?_
  refine zza 24 (.v (.agg #[.slice none 0 0, .slice none 0 0])) ?_
  refine zza 25 (.v (.int .i64 (Nt.latE W l m))) ?_
  refine zzi ⟨31, [.slice none 0 0, .slice none 0 0]⟩ ty31 ?_
  refine zza 7 (.v (.int .i64 (Nt.latE W l m))) ?_
  refine zzb 62 [(6, .adr 6 0), (7, .v (.int .i64 (Nt.latE W l m)))] [(6, ⟨31, [.slice none 0 0, .slice none 0 0]⟩)] ?_
  refine zzn (zzv (ret0 [.agg #[.slice none 0 0, .slice none 0 0], .int .i64 (Nt.latE W l m)] ⟨zzq ty31 zzd, zzp, trivial⟩ fun u15 e16 => ?_))
  rfl
 ·exact absurd hb (by rw [show ((Nt.latE W l m) != 0) = true from (by simpa using hE)]; decide)
theorem k_sameInts {u w : World} {x y : Sl} {l : List Int} (d : Dat u w) (hx : SlR .i64 u x.a x.n x.c l) (hy : SlR .i64 u y.a y.n y.c l) (hb : ∀ z ∈ l, -9223372036854775808 ≤ z ∧ z ≤ 9223372036854775807) (h8 : l.length ≤ 1000000) : Calls Tryz.prog 83 #[x.v, y.v] w (Post u w fun v u' => v = .bool true) := by
 have hlx : l.length = x.n := hx.1
 have hly : l.length = y.n := hy.1
 refine zzl (args := [.slice x.a x.n x.c, .slice y.a y.n y.c]) Tryz.func83 rfl Tryz.ntmps83 (rs := [.tmp 4]) Tryz.results83 (le_b rfl) (le_b rfl) d ?_
 refine sq9 ?_
 refine zza 4 (.v (.bool false)) ?_
 refine zzb 26 [(0, .v x.v), (1, .v y.v)] [] ?_
 refine zzc ?_
 refine sq9 ?_
 refine zza 6 (.v x.v) ?_
 refine zza 7 (.v (.int .i64 (x.n : Int))) ?_
 refine zza 8 (.v y.v) ?_
 refine zza 9 (.v (.int .i64 (y.n : Int))) ?_
 refine zza 10 (.v (.bool ((x.n : Int) != (y.n : Int)))) ?_
 refine zzb 26 [(0, .v x.v), (1, .v y.v), (10, .v (.bool ((x.n : Int) != (y.n : Int))))] [] ?_
 refine zzt (b := (x.n : Int) != (y.n : Int)) (by kernel_rfl) (fun hb => ?_) (fun hb => ?_)
 ·exact absurd hb (by rw [show ((x.n : Int) != (y.n : Int)) = false from (by rw [show y.n = x.n by omega]; simp)]; decide)
 ·clear hb
  refine zzr (zzo ?_)
  refine zzc ?_
  refine sq9 ?_
  refine zza 5 (.v (.int .i64 0)) ?_
  refine zzb 26 [(0, .v x.v), (1, .v y.v), (5, .v (.int .i64 0))] [] ?_
  refine zzs ?_
  refine zym (I := fun m11 S' u' => ∃ (i : Nat), (m11 = x.n - i) ∧ (i ≤ x.n) ∧ (S' = St.of 26 [(0, .v (.slice x.a x.n x.c)), (1, .v (.slice y.a y.n y.c)), (5, .v (.int .i64 (i : Int)))] []) ∧ (Ext u u')) (fun m S u1 u2 e h => by obtain ⟨i, hm, p0, hS, hE⟩ := h; exact ⟨i, hm, p0, hS, hE.trans e⟩) _ (T := St.of 26 [(0, .v (.slice x.a x.n x.c)), (1, .v (.slice y.a y.n y.c)), (5, .v (.int .i64 0))] []) (by exact zzu _ _ _) ⟨0, rfl, Nat.zero_le _, rfl, (Ext.refl _)⟩ ?_
  rintro m11 _ u11 ⟨i, hm11, hi, rfl, e11⟩
  refine zzc ?_
  refine sq9 ?_
  refine zza 11 (.v (.int .i64 (i : Int))) ?_
  refine zza 12 (.v x.v) ?_
  refine zza 13 (.v (.int .i64 (x.n : Int))) ?_
  refine zza 14 (.v (.bool (decide ((i : Int) < (x.n : Int))))) ?_
  refine zzb 26 [(0, .v x.v), (1, .v y.v), (5, .v (.int .i64 (i : Int))), (14, .v (.bool (decide ((i : Int) < (x.n : Int)))))] [] ?_
  refine zzt (b := decide ((i : Int) < (x.n : Int))) (by kernel_rfl) (fun hb12 => ?_) (fun hb12 => ?_)
  ·replace hb12 : (decide ((i : Int) < (x.n : Int))) = true := hb12
   have qhb12 := of_decide_eq_true hb12
   refine zzr (zzo ?_)
   refine zzc ?_
   refine zzs ?_
   refine zzc ?_
   refine zzy [0, 0, 3, 7, 0, 0, 48, 112, 255] [(0, []), (1, []), (2, []), (3, []), (4, []), (5, []), (6, []), (7, []), (8, [])] (by kernel_rfl) (by kernel_rfl) ?_
   refine zza 17 (.v x.v) ?_
   refine zza 18 (.v (.int .i64 (i : Int))) ?_
   have hl13 := ((hx.ext e11)).1
   obtain ⟨b13, o13, hA13, hc13⟩ := ints_at (hx.ext e11) (i := i) (by omega)
   have hz13 := ints_bd hb (by omega) i
   refine zzz 19 (o13 + i * 1) (n := x.n) (off := o13) (sz := 1) (i := (i : Int)) (by omega) hA13 (by omega) (by omega) sl22 ?_
   refine zyk 20 (.int .i64 (l.getD i 0)) hc13 ty3 ?_
   refine zza 21 (.v y.v) ?_
   refine zza 22 (.v (.int .i64 (i : Int))) ?_
   have hl14 := ((hy.ext e11)).1
   obtain ⟨b14, o14, hA14, hc14⟩ := ints_at (hy.ext e11) (i := i) (by omega)
   have hz14 := ints_bd hb (by omega) i
   refine zzz 23 (o14 + i * 1) (n := y.n) (off := o14) (sz := 1) (i := (i : Int)) (by omega) hA14 (by omega) (by omega) sl22 ?_
   refine zyk 24 (.int .i64 (l.getD i 0)) hc14 ty3 ?_
   refine zza 25 (.v (.bool ((l.getD i 0) != (l.getD i 0)))) ?_
   refine zzb 26 [(0, .v x.v), (1, .v y.v), (5, .v (.int .i64 (i : Int))), (25, .v (.bool ((l.getD i 0) != (l.getD i 0))))] [] ?_
   refine zzt (b := (l.getD i 0) != (l.getD i 0)) (by kernel_rfl) (fun hb => ?_) (fun hb => ?_)
   ·exact absurd hb (by rw [show ((l.getD i 0) != (l.getD i 0)) = false from (by simp)]; decide)
   ·clear hb
    refine zzr (zzo ?_)
    refine zze ?_
    refine zza 15 (.v (.int .i64 (i : Int))) ?_
    refine zyp 16 (x := .v (.int .i64 (IntKind.i64.wrap ((i : Int) + 1)))) (.v (.int .i64 ((i + 1 : Nat) : Int))) (eqI (by rw [IntWalk.i64_in _ (by omega)]; omega)) ?_
    refine zza 5 (.v (.int .i64 ((i + 1 : Nat) : Int))) ?_
    refine zzw ?_
    refine ⟨_, ?_, St.of 26 [(0, .v (.slice x.a x.n x.c)), (1, .v (.slice y.a y.n y.c)), (5, .v (.int .i64 ((i + 1 : Nat) : Int)))] [], by exact zzu _ _ _, i + 1, rfl, by omega, rfl, e11⟩
    omega
  ·replace hb12 : (decide ((i : Int) < (x.n : Int))) = false := hb12
   have qhb12 := of_decide_eq_false hb12
   refine zyb ?_
   refine zzo ?_
   refine sq9 ?_
   refine zza 4 (.v (.bool true)) ?_
   refine zzb 26 [(4, .v (.bool true))] [] ?_
   refine zzn (ret0 [.bool true] ⟨zzp, trivial⟩ fun u15 e16 => ?_)
   rfl
set_option maxHeartbeats 4000000 in
theorem k_sameNets {u w : World} {x1 x2 z1 z2 : Sl} {h1 h2 : Nat} {N : List (List TL)} {s : List Int} {D W : WL} {n q : Int} (d : Dat u w) (ha : NodesB 0 h1 u x1 N) (hb : NodesB 0 h2 u x2 N) (hz1 : MutL 1 3 0 u z1 (ics s)) (hz2 : MutL 1 3 0 u z2 (ics s)) (hs : ∀ z ∈ s, -9223372036854775808 ≤ z ∧ z ≤ 9223372036854775807) (hs8 : s.length ≤ 1000) (hN : N.length ≤ 1000) (hT : ∀ i, i < N.length → (N.getD i []).length ≤ 1000) : Calls Tryz.prog 20 #[.agg #[.int .i64 D.b, .int .i64 D.f, .int .i64 D.r, .int .i64 D.o, .int .i64 W.b, .int .i64 W.f, .int .i64 W.r, .int .i64 W.o, .int .i64 n, x1.v, z1.v, .int .i64 q], .agg #[.int .i64 D.b, .int .i64 D.f, .int .i64 D.r, .int .i64 D.o, .int .i64 W.b, .int .i64 W.f, .int .i64 W.r, .int .i64 W.o, .int .i64 n, x2.v, z2.v, .int .i64 q]] w (Post u w fun v u' => v = .bool true) := by
 have hl1 := ha.len
 have hl2 := hb.len
 obtain ⟨La, gA1, gB1, gC1⟩ := id ha
 obtain ⟨Lb, gA2, gB2, gC2⟩ := id hb
 have hT1 : ∀ i, i < N.length → (La.getD i sl0).n = (N.getD i []).length ∧ (N.getD i []).length ≤ 1000 := fun i hi => ⟨tms_len (gC1 i hi).1, hT i hi⟩
 have hT2 : ∀ i, i < N.length → (Lb.getD i sl0).n = (N.getD i []).length := fun i hi => tms_len (gC2 i hi).1
 refine zzl (args := [.agg #[.int .i64 D.b, .int .i64 D.f, .int .i64 D.r, .int .i64 D.o, .int .i64 W.b, .int .i64 W.f, .int .i64 W.r, .int .i64 W.o, .int .i64 n, .slice x1.a x1.n x1.c, .slice z1.a z1.n z1.c, .int .i64 q], .agg #[.int .i64 D.b, .int .i64 D.f, .int .i64 D.r, .int .i64 D.o, .int .i64 W.b, .int .i64 W.f, .int .i64 W.r, .int .i64 W.o, .int .i64 n, .slice x2.a x2.n x2.c, .slice z2.a z2.n z2.c, .int .i64 q]]) Tryz.func20 rfl Tryz.ntmps20 (rs := [.tmp 4]) Tryz.results20 (le_b rfl) (le_b rfl) d ?_
 refine sq9 ?_
 refine zzj 2 ⟨49, [.int .i64 D.b, .int .i64 D.f, .int .i64 D.r, .int .i64 D.o, .int .i64 W.b, .int .i64 W.f, .int .i64 W.r, .int .i64 W.o, .int .i64 n, x1.v, z1.v, .int .i64 q]⟩ ?_
 refine zzj 3 ⟨49, [.int .i64 D.b, .int .i64 D.f, .int .i64 D.r, .int .i64 D.o, .int .i64 W.b, .int .i64 W.f, .int .i64 W.r, .int .i64 W.o, .int .i64 n, x2.v, z2.v, .int .i64 q]⟩ ?_
 refine zza 4 (.v (.bool false)) ?_
 refine zzb 102 [(2, .adr 2 0), (3, .adr 3 0)] [(2, ⟨49, [.int .i64 D.b, .int .i64 D.f, .int .i64 D.r, .int .i64 D.o, .int .i64 W.b, .int .i64 W.f, .int .i64 W.r, .int .i64 W.o, .int .i64 n, x1.v, z1.v, .int .i64 q]⟩), (3, ⟨49, [.int .i64 D.b, .int .i64 D.f, .int .i64 D.r, .int .i64 D.o, .int .i64 W.b, .int .i64 W.f, .int .i64 W.r, .int .i64 W.o, .int .i64 n, x2.v, z2.v, .int .i64 q]⟩)] ?_
 refine zzc ?_
 refine sq9 ?_
 refine zza 7 (.adr 2 0) ?_
 refine zzh 8 (.v (D.v)) ty24 zzd ?_
 refine zza 9 (.adr 3 0) ?_
 refine zzh 10 (.v (D.v)) ty24 zzd ?_
 refine zza 11 (.v (.bool false)) ?_ (hrun := fun B w => exec_neqS (T := 24) (x := .tmp 8) (y := .tmp 10) (t2 := 24) [D.b, D.f, D.r, D.o] w (by rfl) (by kernel_rfl) (by kernel_rfl) (by kernel_rfl) (by kernel_rfl) (by kernel_rfl) (by kernel_rfl))
 refine zza 12 (.v (.bool false)) ?_
 refine zza 13 (.adr 2 4) ?_ (hw := w1 5 false 12)
 refine zzh 14 (.v (W.v)) ty24 zzd ?_ (hw := w1 5 false 12)
 refine zza 15 (.adr 3 4) ?_ (hw := w1 5 false 12)
 refine zzh 16 (.v (W.v)) ty24 zzd ?_ (hw := w1 5 false 12)
 refine zza 17 (.v (.bool false)) ?_ (hw := w1 5 false 12) (hrun := fun B w => exec_neqS (T := 24) (x := .tmp 14) (y := .tmp 16) (t2 := 24) [W.b, W.f, W.r, W.o] w (by rfl) (by kernel_rfl) (by kernel_rfl) (by kernel_rfl) (by kernel_rfl) (by kernel_rfl) (by kernel_rfl))
 refine zza 18 (.v (.bool false)) ?_
 refine zza 19 (.v (.bool false)) ?_
 refine zza 20 (.adr 2 8) ?_ (hw := w1 12 false 19)
 refine zzh 21 (.v (.int .i64 n)) ty3 zzk ?_ (hw := w1 12 false 19)
 refine zza 22 (.adr 3 8) ?_ (hw := w1 12 false 19)
 refine zzh 23 (.v (.int .i64 n)) ty3 zzk ?_ (hw := w1 12 false 19)
 refine zza 24 (.v (.bool (n != n))) ?_ (hw := w1 12 false 19)
 refine zza 25 (.v (.bool (n != n))) ?_
 refine zyp 26 (x := .v (.bool (n != n))) (.v (.bool false)) (by rw [show (n != n) = false from (by simp)]) ?_
 refine zza 27 (.adr 2 11) ?_ (hw := w1 19 false 26)
 refine zzh 28 (.v (.int .i64 q)) ty3 zzk ?_ (hw := w1 19 false 26)
 refine zza 29 (.adr 3 11) ?_ (hw := w1 19 false 26)
 refine zzh 30 (.v (.int .i64 q)) ty3 zzk ?_ (hw := w1 19 false 26)
 refine zza 31 (.v (.bool (q != q))) ?_ (hw := w1 19 false 26)
 refine zza 32 (.v (.bool (q != q))) ?_
 refine zyp 33 (x := .v (.bool (q != q))) (.v (.bool false)) (by rw [show (q != q) = false from (by simp)]) ?_
 refine zza 34 (.adr 2 10) ?_ (hw := w1 26 false 33)
 refine zzh 35 (.v z1.v) ty22 zzk ?_ (hw := w1 26 false 33)
 refine zza 36 (.adr 3 10) ?_ (hw := w1 26 false 33)
 refine zzh 37 (.v z2.v) ty22 zzk ?_ (hw := w1 26 false 33)
 refine zzf 38 83 [z1.v, z2.v] ?_ (hw := w1 26 false 33)
 intro w13 u13 e13 d13
 have k16 := k_sameInts (x := z1) (y := z2) d13 (hz1.ext e13).slr (hz2.ext e13).slr hs (by omega)
 with_reducible refine zPm k16 ?_
 rintro _ u14 g15 rfl
 refine zza 39 (.v (.bool false)) ?_ (hw := w1 26 false 33)
 refine zza 40 (.v (.bool false)) ?_
 refine zza 41 (.v (.bool false)) ?_
 refine zza 42 (.adr 2 9) ?_ (hw := w1 34 false 41)
 refine zzh 43 (.v x1.v) ty47 zzk ?_ (hw := w1 34 false 41)
 refine zza 44 (.v (.int .i64 (x1.n : Int))) ?_ (hw := w1 34 false 41)
 refine zza 45 (.adr 3 9) ?_ (hw := w1 34 false 41)
 refine zzh 46 (.v x2.v) ty47 zzk ?_ (hw := w1 34 false 41)
 refine zza 47 (.v (.int .i64 (x2.n : Int))) ?_ (hw := w1 34 false 41)
 refine zza 48 (.v (.bool ((x1.n : Int) != (x2.n : Int)))) ?_ (hw := w1 34 false 41)
 refine zza 49 (.v (.bool ((x1.n : Int) != (x2.n : Int)))) ?_
 refine zzb 102 [(2, .adr 2 0), (3, .adr 3 0), (49, .v (.bool ((x1.n : Int) != (x2.n : Int))))] [(2, ⟨49, [.int .i64 D.b, .int .i64 D.f, .int .i64 D.r, .int .i64 D.o, .int .i64 W.b, .int .i64 W.f, .int .i64 W.r, .int .i64 W.o, .int .i64 n, x1.v, z1.v, .int .i64 q]⟩), (3, ⟨49, [.int .i64 D.b, .int .i64 D.f, .int .i64 D.r, .int .i64 D.o, .int .i64 W.b, .int .i64 W.f, .int .i64 W.r, .int .i64 W.o, .int .i64 n, x2.v, z2.v, .int .i64 q]⟩)] ?_
 refine zzt (b := (x1.n : Int) != (x2.n : Int)) (by kernel_rfl) (fun hb => ?_) (fun hb => ?_)
 ·exact absurd hb (by rw [show ((x1.n : Int) != (x2.n : Int)) = false from (by rw [show x2.n = x1.n by omega]; simp)]; decide)
 ·clear hb
  refine zzr (zzo ?_)
  refine zzc ?_
  refine sq9 ?_
  refine zza 5 (.v (.int .i64 0)) ?_
  refine zzb 102 [(2, .adr 2 0), (3, .adr 3 0), (5, .v (.int .i64 0))] [(2, ⟨49, [.int .i64 D.b, .int .i64 D.f, .int .i64 D.r, .int .i64 D.o, .int .i64 W.b, .int .i64 W.f, .int .i64 W.r, .int .i64 W.o, .int .i64 n, x1.v, z1.v, .int .i64 q]⟩), (3, ⟨49, [.int .i64 D.b, .int .i64 D.f, .int .i64 D.r, .int .i64 D.o, .int .i64 W.b, .int .i64 W.f, .int .i64 W.r, .int .i64 W.o, .int .i64 n, x2.v, z2.v, .int .i64 q]⟩)] ?_
  refine zzs ?_
  refine zym (I := fun m17 S' u' => ∃ (i : Nat), (m17 = N.length - i) ∧ (i ≤ N.length) ∧ (S' = St.of 102 [(2, .adr 2 0), (3, .adr 3 0), (5, .v (.int .i64 (i : Int)))] [(2, ⟨49, [.int .i64 D.b, .int .i64 D.f, .int .i64 D.r, .int .i64 D.o, .int .i64 W.b, .int .i64 W.f, .int .i64 W.r, .int .i64 W.o, .int .i64 n, .slice x1.a x1.n x1.c, .slice z1.a z1.n z1.c, .int .i64 q]⟩), (3, ⟨49, [.int .i64 D.b, .int .i64 D.f, .int .i64 D.r, .int .i64 D.o, .int .i64 W.b, .int .i64 W.f, .int .i64 W.r, .int .i64 W.o, .int .i64 n, .slice x2.a x2.n x2.c, .slice z2.a z2.n z2.c, .int .i64 q]⟩)]) ∧ (Ext u14 u')) (fun m S u1 u2 e h => by obtain ⟨i, hm, p0, hS, hE⟩ := h; exact ⟨i, hm, p0, hS, hE.trans e⟩) _ (T := St.of 102 [(2, .adr 2 0), (3, .adr 3 0), (5, .v (.int .i64 0))] [(2, ⟨49, [.int .i64 D.b, .int .i64 D.f, .int .i64 D.r, .int .i64 D.o, .int .i64 W.b, .int .i64 W.f, .int .i64 W.r, .int .i64 W.o, .int .i64 n, .slice x1.a x1.n x1.c, .slice z1.a z1.n z1.c, .int .i64 q]⟩), (3, ⟨49, [.int .i64 D.b, .int .i64 D.f, .int .i64 D.r, .int .i64 D.o, .int .i64 W.b, .int .i64 W.f, .int .i64 W.r, .int .i64 W.o, .int .i64 n, .slice x2.a x2.n x2.c, .slice z2.a z2.n z2.c, .int .i64 q]⟩)]) (by exact zzu _ _ _) ⟨0, rfl, Nat.zero_le _, rfl, (Ext.refl _)⟩ ?_
  rintro m17 _ u17 ⟨i, hm17, hi, rfl, e17⟩
  refine zzc ?_
  refine sq9 ?_
  refine zza 50 (.v (.int .i64 (i : Int))) ?_
  refine zza 51 (.adr 2 9) ?_
  refine zzh 52 (.v x1.v) ty47 zzk ?_
  refine zza 53 (.v (.int .i64 (x1.n : Int))) ?_
  refine zza 54 (.v (.bool (decide ((i : Int) < (x1.n : Int))))) ?_
  refine zzb 102 [(2, .adr 2 0), (3, .adr 3 0), (5, .v (.int .i64 (i : Int))), (54, .v (.bool (decide ((i : Int) < (x1.n : Int)))))] [(2, ⟨49, [.int .i64 D.b, .int .i64 D.f, .int .i64 D.r, .int .i64 D.o, .int .i64 W.b, .int .i64 W.f, .int .i64 W.r, .int .i64 W.o, .int .i64 n, x1.v, z1.v, .int .i64 q]⟩), (3, ⟨49, [.int .i64 D.b, .int .i64 D.f, .int .i64 D.r, .int .i64 D.o, .int .i64 W.b, .int .i64 W.f, .int .i64 W.r, .int .i64 W.o, .int .i64 n, x2.v, z2.v, .int .i64 q]⟩)] ?_
  refine zzt (b := decide ((i : Int) < (x1.n : Int))) (by kernel_rfl) (fun hb18 => ?_) (fun hb18 => ?_)
  ·replace hb18 : (decide ((i : Int) < (x1.n : Int))) = true := hb18
   have qhb18 := of_decide_eq_true hb18
   refine zzr (zzo ?_)
   refine zzc ?_
   refine zzs ?_
   refine zzc ?_
   refine zzc ?_
   have hTi := hT1 i (by omega)
   have hTj := hT2 i (by omega)
   refine zzy [0, 1, 0, 7, 15, 31, 63, 0, 128, 0, 896, 1920, 3968, 8064, 16383] [(0, []), (1, []), (2, []), (3, []), (4, []), (5, []), (6, []), (7, []), (8, []), (9, []), (10, []), (11, []), (12, []), (13, []), (14, [])] (by kernel_rfl) (by kernel_rfl) ?_
   refine zza 57 (.adr 2 9) ?_
   refine zzh 58 (.v x1.v) ty47 zzk ?_
   refine zza 59 (.v (.int .i64 (i : Int))) ?_
   obtain ⟨b19, hA19, hc19⟩ := nodes_at (i := i) gA1 (by omega)
   refine zzz 60 (0 + i * 1) (n := x1.n) (off := 0) (sz := 1) (i := (i : Int)) (by omega) hA19 (by omega) (by omega) sl47 ?_
   refine zza 61 (.v (.pointer (some ⟨b19, 0 + i * 1 + 0, none⟩))) ?_
   refine zyk 62 (.slice (La.getD i sl0).a (La.getD i sl0).n (La.getD i sl0).c) ((e13.trans (g15.ext.trans e17)).cell hc19) ty74 ?_
   refine zza 63 (.v (.int .i64 (((La.getD i sl0).n : Nat) : Int))) ?_
   refine zza 64 (.adr 3 9) ?_
   refine zzh 65 (.v x2.v) ty47 zzk ?_
   refine zza 66 (.v (.int .i64 (i : Int))) ?_
   obtain ⟨b20, hA20, hc20⟩ := nodes_at (i := i) gA2 (by omega)
   refine zzz 67 (0 + i * 1) (n := x2.n) (off := 0) (sz := 1) (i := (i : Int)) (by omega) hA20 (by omega) (by omega) sl47 ?_
   refine zza 68 (.v (.pointer (some ⟨b20, 0 + i * 1 + 0, none⟩))) ?_
   refine zyk 69 (.slice (Lb.getD i sl0).a (Lb.getD i sl0).n (Lb.getD i sl0).c) ((e13.trans (g15.ext.trans e17)).cell hc20) ty74 ?_
   refine zza 70 (.v (.int .i64 (((Lb.getD i sl0).n : Nat) : Int))) ?_
   refine zza 71 (.v (.bool ((((La.getD i sl0).n : Nat) : Int) != (((Lb.getD i sl0).n : Nat) : Int)))) ?_
   refine zzb 102 [(2, .adr 2 0), (3, .adr 3 0), (5, .v (.int .i64 (i : Int))), (71, .v (.bool ((((La.getD i sl0).n : Nat) : Int) != (((Lb.getD i sl0).n : Nat) : Int))))] [(2, ⟨49, [.int .i64 D.b, .int .i64 D.f, .int .i64 D.r, .int .i64 D.o, .int .i64 W.b, .int .i64 W.f, .int .i64 W.r, .int .i64 W.o, .int .i64 n, x1.v, z1.v, .int .i64 q]⟩), (3, ⟨49, [.int .i64 D.b, .int .i64 D.f, .int .i64 D.r, .int .i64 D.o, .int .i64 W.b, .int .i64 W.f, .int .i64 W.r, .int .i64 W.o, .int .i64 n, x2.v, z2.v, .int .i64 q]⟩)] ?_
   refine zzt (b := (((La.getD i sl0).n : Nat) : Int) != (((Lb.getD i sl0).n : Nat) : Int)) (by kernel_rfl) (fun hb => ?_) (fun hb => ?_)
   ·exact absurd hb (by rw [show ((((La.getD i sl0).n : Nat) : Int) != (((Lb.getD i sl0).n : Nat) : Int)) = false from (by rw [(hT1 i (by omega)).1, hT2 i (by omega)]; exact bne_self_eq_false _)]; decide)
   ·clear hb
    refine zzr (zzo ?_)
    refine sq9 ?_
    refine zza 6 (.v (.int .i64 0)) ?_
    refine zzb 102 [(2, .adr 2 0), (3, .adr 3 0), (5, .v (.int .i64 (i : Int))), (6, .v (.int .i64 0))] [(2, ⟨49, [.int .i64 D.b, .int .i64 D.f, .int .i64 D.r, .int .i64 D.o, .int .i64 W.b, .int .i64 W.f, .int .i64 W.r, .int .i64 W.o, .int .i64 n, x1.v, z1.v, .int .i64 q]⟩), (3, ⟨49, [.int .i64 D.b, .int .i64 D.f, .int .i64 D.r, .int .i64 D.o, .int .i64 W.b, .int .i64 W.f, .int .i64 W.r, .int .i64 W.o, .int .i64 n, x2.v, z2.v, .int .i64 q]⟩)] ?_
    refine zzs ?_
    refine zym (I := fun m21 S' u' => ∃ (j : Nat), (m21 = (N.getD i []).length - j) ∧ (j ≤ (N.getD i []).length) ∧ (S' = St.of 102 [(2, .adr 2 0), (3, .adr 3 0), (5, .v (.int .i64 (i : Int))), (6, .v (.int .i64 (j : Int)))] [(2, ⟨49, [.int .i64 D.b, .int .i64 D.f, .int .i64 D.r, .int .i64 D.o, .int .i64 W.b, .int .i64 W.f, .int .i64 W.r, .int .i64 W.o, .int .i64 n, .slice x1.a x1.n x1.c, .slice z1.a z1.n z1.c, .int .i64 q]⟩), (3, ⟨49, [.int .i64 D.b, .int .i64 D.f, .int .i64 D.r, .int .i64 D.o, .int .i64 W.b, .int .i64 W.f, .int .i64 W.r, .int .i64 W.o, .int .i64 n, .slice x2.a x2.n x2.c, .slice z2.a z2.n z2.c, .int .i64 q]⟩)]) ∧ (Ext u17 u')) (fun m S u1 u2 e h => by obtain ⟨j, hm, p0, hS, hE⟩ := h; exact ⟨j, hm, p0, hS, hE.trans e⟩) _ (T := St.of 102 [(2, .adr 2 0), (3, .adr 3 0), (5, .v (.int .i64 (i : Int))), (6, .v (.int .i64 0))] [(2, ⟨49, [.int .i64 D.b, .int .i64 D.f, .int .i64 D.r, .int .i64 D.o, .int .i64 W.b, .int .i64 W.f, .int .i64 W.r, .int .i64 W.o, .int .i64 n, .slice x1.a x1.n x1.c, .slice z1.a z1.n z1.c, .int .i64 q]⟩), (3, ⟨49, [.int .i64 D.b, .int .i64 D.f, .int .i64 D.r, .int .i64 D.o, .int .i64 W.b, .int .i64 W.f, .int .i64 W.r, .int .i64 W.o, .int .i64 n, .slice x2.a x2.n x2.c, .slice z2.a z2.n z2.c, .int .i64 q]⟩)]) (by exact zzu _ _ _) ⟨0, rfl, Nat.zero_le _, rfl, (Ext.refl _)⟩ ?_
    rintro m21 _ u21 ⟨j, hm21, hj, rfl, e21⟩
    refine zzc ?_
    refine sq9 ?_
    refine zza 72 (.v (.int .i64 (j : Int))) ?_
    refine zza 73 (.adr 2 9) ?_
    refine zzh 74 (.v x1.v) ty47 zzk ?_
    refine zza 75 (.v (.int .i64 (i : Int))) ?_
    obtain ⟨b22, hA22, hc22⟩ := nodes_at (i := i) gA1 (by omega)
    refine zzz 76 (0 + i * 1) (n := x1.n) (off := 0) (sz := 1) (i := (i : Int)) (by omega) hA22 (by omega) (by omega) sl47 ?_
    refine zza 77 (.v (.pointer (some ⟨b22, 0 + i * 1 + 0, none⟩))) ?_
    refine zyk 78 (.slice (La.getD i sl0).a (La.getD i sl0).n (La.getD i sl0).c) ((e13.trans (g15.ext.trans (e17.trans e21))).cell hc22) ty74 ?_
    refine zza 79 (.v (.int .i64 (((La.getD i sl0).n : Nat) : Int))) ?_
    refine zza 80 (.v (.bool (decide ((j : Int) < (((La.getD i sl0).n : Nat) : Int))))) ?_
    refine zzb 102 [(2, .adr 2 0), (3, .adr 3 0), (5, .v (.int .i64 (i : Int))), (6, .v (.int .i64 (j : Int))), (80, .v (.bool (decide ((j : Int) < (((La.getD i sl0).n : Nat) : Int)))))] [(2, ⟨49, [.int .i64 D.b, .int .i64 D.f, .int .i64 D.r, .int .i64 D.o, .int .i64 W.b, .int .i64 W.f, .int .i64 W.r, .int .i64 W.o, .int .i64 n, x1.v, z1.v, .int .i64 q]⟩), (3, ⟨49, [.int .i64 D.b, .int .i64 D.f, .int .i64 D.r, .int .i64 D.o, .int .i64 W.b, .int .i64 W.f, .int .i64 W.r, .int .i64 W.o, .int .i64 n, x2.v, z2.v, .int .i64 q]⟩)] ?_
    refine zzt (b := decide ((j : Int) < (((La.getD i sl0).n : Nat) : Int))) (by kernel_rfl) (fun hb23 => ?_) (fun hb23 => ?_)
    ·replace hb23 : (decide ((j : Int) < (((La.getD i sl0).n : Nat) : Int))) = true := hb23
     have qhb23 := of_decide_eq_true hb23
     refine zzr (zzo ?_)
     refine zzc ?_
     refine zzs ?_
     refine zzc ?_
     refine zzy [0, 1, 0, 7, 15, 31, 0, 127, 255, 0, 512, 0, 3584, 7680, 15872, 0, 65024, 130560, 262143] [(0, []), (1, []), (2, []), (3, []), (4, []), (5, []), (6, []), (7, []), (8, []), (9, []), (10, []), (11, []), (12, []), (13, []), (14, []), (15, []), (16, []), (17, []), (18, [])] (by kernel_rfl) (by kernel_rfl) ?_
     refine zza 83 (.adr 2 9) ?_
     refine zzh 84 (.v x1.v) ty47 zzk ?_
     refine zza 85 (.v (.int .i64 (i : Int))) ?_
     obtain ⟨b24, hA24, hc24⟩ := nodes_at (i := i) gA1 (by omega)
     refine zzz 86 (0 + i * 1) (n := x1.n) (off := 0) (sz := 1) (i := (i : Int)) (by omega) hA24 (by omega) (by omega) sl47 ?_
     refine zza 87 (.v (.pointer (some ⟨b24, 0 + i * 1 + 0, none⟩))) ?_
     refine zyk 88 (.slice (La.getD i sl0).a (La.getD i sl0).n (La.getD i sl0).c) ((e13.trans (g15.ext.trans (e17.trans e21))).cell hc24) ty74 ?_
     refine zza 89 (.v (.int .i64 (j : Int))) ?_
     obtain ⟨b25, hA25, hc25⟩ := terms_at (i := j) (T := (N.getD i [])) (gC1 i (by omega)).1 (by omega)
     refine zzz 90 (0 + j * 2) (n := (La.getD i sl0).n) (off := 0) (sz := 2) (i := (j : Int)) (by omega) hA25 (by omega) (by omega) sl74 ?_
     refine zyl 91 ((N.getD i []).getD j tl0).cs (fun j hj => by have h9 := hc25 j hj; rw [List.getElem?_eq_getElem hj] at h9 ⊢; exact (e13.trans (g15.ext.trans (e17.trans e21))).cell h9) ty78 ?_
     refine zza 92 (.adr 3 9) ?_
     refine zzh 93 (.v x2.v) ty47 zzk ?_
     refine zza 94 (.v (.int .i64 (i : Int))) ?_
     obtain ⟨b26, hA26, hc26⟩ := nodes_at (i := i) gA2 (by omega)
     refine zzz 95 (0 + i * 1) (n := x2.n) (off := 0) (sz := 1) (i := (i : Int)) (by omega) hA26 (by omega) (by omega) sl47 ?_
     refine zza 96 (.v (.pointer (some ⟨b26, 0 + i * 1 + 0, none⟩))) ?_
     refine zyk 97 (.slice (Lb.getD i sl0).a (Lb.getD i sl0).n (Lb.getD i sl0).c) ((e13.trans (g15.ext.trans (e17.trans e21))).cell hc26) ty74 ?_
     refine zza 98 (.v (.int .i64 (j : Int))) ?_
     obtain ⟨b27, hA27, hc27⟩ := terms_at (i := j) (T := (N.getD i [])) (gC2 i (by omega)).1 (by omega)
     refine zzz 99 (0 + j * 2) (n := (Lb.getD i sl0).n) (off := 0) (sz := 2) (i := (j : Int)) (by omega) hA27 (by omega) (by omega) sl74 ?_
     refine zyl 100 ((N.getD i []).getD j tl0).cs (fun j hj => by have h9 := hc27 j hj; rw [List.getElem?_eq_getElem hj] at h9 ⊢; exact (e13.trans (g15.ext.trans (e17.trans e21))).cell h9) ty78 ?_
     refine zza 101 (.v (.bool false)) ?_ (hrun := fun B w => exec_neqS (T := 78) (x := .tmp 91) (y := .tmp 100) (t2 := 78) [((N.getD i []).getD j tl0).f, ((N.getD i []).getD j tl0).c] w (by rfl) (by kernel_rfl) (by kernel_rfl) (by kernel_rfl) (by kernel_rfl) (by kernel_rfl) (by kernel_rfl))
     refine zzb 102 [(2, .adr 2 0), (3, .adr 3 0), (5, .v (.int .i64 (i : Int))), (6, .v (.int .i64 (j : Int))), (101, .v (.bool false))] [(2, ⟨49, [.int .i64 D.b, .int .i64 D.f, .int .i64 D.r, .int .i64 D.o, .int .i64 W.b, .int .i64 W.f, .int .i64 W.r, .int .i64 W.o, .int .i64 n, x1.v, z1.v, .int .i64 q]⟩), (3, ⟨49, [.int .i64 D.b, .int .i64 D.f, .int .i64 D.r, .int .i64 D.o, .int .i64 W.b, .int .i64 W.f, .int .i64 W.r, .int .i64 W.o, .int .i64 n, x2.v, z2.v, .int .i64 q]⟩)] ?_
     refine zyr (by kernel_rfl) ?_
     refine zzr (zzo ?_)
     refine zze ?_
     refine zza 81 (.v (.int .i64 (j : Int))) ?_
     refine zyp 82 (x := .v (.int .i64 (IntKind.i64.wrap ((j : Int) + 1)))) (.v (.int .i64 ((j + 1 : Nat) : Int))) (eqI (by rw [IntWalk.i64_in _ (by omega)]; omega)) ?_
     refine zza 6 (.v (.int .i64 ((j + 1 : Nat) : Int))) ?_
     refine zzw ?_
     refine ⟨_, ?_, St.of 102 [(2, .adr 2 0), (3, .adr 3 0), (5, .v (.int .i64 (i : Int))), (6, .v (.int .i64 ((j + 1 : Nat) : Int)))] [(2, ⟨49, [.int .i64 D.b, .int .i64 D.f, .int .i64 D.r, .int .i64 D.o, .int .i64 W.b, .int .i64 W.f, .int .i64 W.r, .int .i64 W.o, .int .i64 n, .slice x1.a x1.n x1.c, .slice z1.a z1.n z1.c, .int .i64 q]⟩), (3, ⟨49, [.int .i64 D.b, .int .i64 D.f, .int .i64 D.r, .int .i64 D.o, .int .i64 W.b, .int .i64 W.f, .int .i64 W.r, .int .i64 W.o, .int .i64 n, .slice x2.a x2.n x2.c, .slice z2.a z2.n z2.c, .int .i64 q]⟩)], by exact zzu _ _ _, j + 1, rfl, by omega, rfl, e21⟩
     omega
    ·replace hb23 : (decide ((j : Int) < (((La.getD i sl0).n : Nat) : Int))) = false := hb23
     have qhb23 := of_decide_eq_false hb23
     refine zyb ?_
     refine zzo ?_
     refine zze ?_
     refine zza 55 (.v (.int .i64 (i : Int))) ?_
     refine zyp 56 (x := .v (.int .i64 (IntKind.i64.wrap ((i : Int) + 1)))) (.v (.int .i64 ((i + 1 : Nat) : Int))) (eqI (by rw [IntWalk.i64_in _ (by omega)]; omega)) ?_
     refine zza 5 (.v (.int .i64 ((i + 1 : Nat) : Int))) ?_
     refine zzw ?_
     refine ⟨_, ?_, St.of 102 [(2, .adr 2 0), (3, .adr 3 0), (5, .v (.int .i64 ((i + 1 : Nat) : Int)))] [(2, ⟨49, [.int .i64 D.b, .int .i64 D.f, .int .i64 D.r, .int .i64 D.o, .int .i64 W.b, .int .i64 W.f, .int .i64 W.r, .int .i64 W.o, .int .i64 n, .slice x1.a x1.n x1.c, .slice z1.a z1.n z1.c, .int .i64 q]⟩), (3, ⟨49, [.int .i64 D.b, .int .i64 D.f, .int .i64 D.r, .int .i64 D.o, .int .i64 W.b, .int .i64 W.f, .int .i64 W.r, .int .i64 W.o, .int .i64 n, .slice x2.a x2.n x2.c, .slice z2.a z2.n z2.c, .int .i64 q]⟩)], by exact zzu _ _ _, i + 1, rfl, by omega, rfl, (e17.trans e21)⟩
     omega
  ·replace hb18 : (decide ((i : Int) < (x1.n : Int))) = false := hb18
   have qhb18 := of_decide_eq_false hb18
   refine zyb ?_
   refine zzo ?_
   refine sq9 ?_
   refine zza 4 (.v (.bool true)) ?_
   refine zzb 102 [(4, .v (.bool true))] [] ?_
   refine zzn (ret0 [.bool true] ⟨zzp, trivial⟩ fun u28 e29 => ?_)
   rfl
set_option maxHeartbeats 1000000 in
theorem k_sameFilt {u w : World} {x1 y1 x2 y2 : Sl} {l m : List Rat} {K : Nat} (d : Dat u w) (hx1 : PolN u x1 l K) (hy1 : PolN u y1 m K) (hx2 : PolN u x2 l K) (hy2 : PolN u y2 m K) (hK : K ≤ 1000000) (h8 : l.length ≤ 1000) (h9 : m.length ≤ 1000) : Calls Tryz.prog 21 #[.agg #[x1.v, y1.v], .agg #[x2.v, y2.v]] w (Post u w fun v u' => v = .bool true) := by
 have hl1 := hx1.len
 have hl2 := hx2.len
 have hl3 := hy1.len
 have hl4 := hy2.len
 refine zzl (args := [.agg #[.slice x1.a x1.n x1.c, .slice y1.a y1.n y1.c], .agg #[.slice x2.a x2.n x2.c, .slice y2.a y2.n y2.c]]) Tryz.func21 rfl Tryz.ntmps21 (rs := [.tmp 4]) Tryz.results21 (le_b rfl) (le_b rfl) d ?_
 refine sq9 ?_
 refine zzj 2 ⟨31, [x1.v, y1.v]⟩ ?_
 refine zzj 3 ⟨31, [x2.v, y2.v]⟩ ?_
 refine zza 4 (.v (.bool false)) ?_
 refine zzb 17 [(2, .adr 2 0), (3, .adr 3 0)] [(2, ⟨31, [x1.v, y1.v]⟩), (3, ⟨31, [x2.v, y2.v]⟩)] ?_
 refine sq9 ?_
 refine zza 5 (.adr 2 0) ?_
 refine zzh 6 (.v x1.v) ty29 zzk ?_
 refine zza 7 (.adr 3 0) ?_
 refine zzh 8 (.v x2.v) ty29 zzk ?_
 refine zzf 9 74 [x1.v, x2.v] ?_
 intro w11 u11 e11 d11
 have k14 := k_r5Same d11 (hx1.ext e11).raw (hx2.ext e11).raw (by omega) (by omega) (by first|omega|(simp;omega) | (refine Nat.le_trans (Nt.zzg _) ?_; first|omega|(simp;omega)) | (refine Nat.le_trans (Nt.zzg _) ?_; simp only [List.length_map]; refine Nat.le_trans (Nt.zzg _) ?_; first|omega|(simp;omega))) (by first|omega|(simp;omega) | (refine Nat.le_trans (Nt.zzg _) ?_; first|omega|(simp;omega)) | (refine Nat.le_trans (Nt.zzg _) ?_; simp only [List.length_map]; refine Nat.le_trans (Nt.zzg _) ?_; first|omega|(simp;omega)))
 with_reducible refine zPm k14 ?_
 rintro _ u12 g13 rfl
 refine zyp 10 (x := .v (.bool (decide (Nt.trimQ l = Nt.trimQ l)))) (.v (.bool true)) (by rw [show (decide (Nt.trimQ l = Nt.trimQ l)) = true from decide_eq_true rfl]) ?_
 refine zza 11 (.adr 2 1) ?_ (hw := w1 5 true 10)
 refine zzh 12 (.v y1.v) ty29 zzk ?_ (hw := w1 5 true 10)
 refine zza 13 (.adr 3 1) ?_ (hw := w1 5 true 10)
 refine zzh 14 (.v y2.v) ty29 zzk ?_ (hw := w1 5 true 10)
 refine zzf 15 74 [y1.v, y2.v] ?_ (hw := w1 5 true 10)
 intro w16 u16 e16 d16
 have k19 := k_r5Same d16 (hy1.ext (e11.trans (g13.ext.trans e16))).raw (hy2.ext (e11.trans (g13.ext.trans e16))).raw (by omega) (by omega) (by first|omega|(simp;omega) | (refine Nat.le_trans (Nt.zzg _) ?_; first|omega|(simp;omega)) | (refine Nat.le_trans (Nt.zzg _) ?_; simp only [List.length_map]; refine Nat.le_trans (Nt.zzg _) ?_; first|omega|(simp;omega))) (by first|omega|(simp;omega) | (refine Nat.le_trans (Nt.zzg _) ?_; first|omega|(simp;omega)) | (refine Nat.le_trans (Nt.zzg _) ?_; simp only [List.length_map]; refine Nat.le_trans (Nt.zzg _) ?_; first|omega|(simp;omega)))
 with_reducible refine zPm k19 ?_
 rintro _ u17 g18 rfl
 refine zza 16 (.v (.bool (decide (Nt.trimQ m = Nt.trimQ m)))) ?_
 refine zza 4 (.v (.bool (decide (Nt.trimQ m = Nt.trimQ m)))) ?_
 refine zzb 17 [(4, .v (.bool (decide (Nt.trimQ m = Nt.trimQ m))))] [] ?_
 refine zzn (ret0 [.bool (decide (Nt.trimQ m = Nt.trimQ m))] ⟨zzp, trivial⟩ fun u20 e21 => ?_)
 show Value.bool _ = Value.bool _
 rw [show (decide (Nt.trimQ m = Nt.trimQ m)) = true from decide_eq_true rfl]
namespace Nt
theorem latNd_len (U : Int) (k v : List Int) (m : Nat) : (latNd U k v m).length = 2 * m + 1 := by
 unfold latNd
 rw [List.length_append, ndB_len]
 simp; omega
theorem latNd_tm (U : Int) (k v : List Int) (m : Nat) : ∀ i, i < (latNd U k v m).length → ((latNd U k v m).getD i []).length ≤ m + 2 := fun i hi => by
 have h : (latNd U k v m).getD i [] ∈ latNd U k v m := by
  rw [List.getD_eq_getElem?_getD, List.getElem?_eq_getElem hi]
  exact List.getElem_mem _
 generalize (latNd U k v m).getD i [] = t at h
 unfold latNd ndB ndA at h
 rw [List.mem_append, List.mem_append, List.mem_map, List.mem_map] at h
 rcases h with (⟨a, _, rfl⟩ | ⟨a, _, rfl⟩) | h
 ·show 2 ≤ _; omega
 ·show 2 ≤ _; omega
 ·rw [List.mem_singleton] at h
  subst h
  unfold lasN
  simp
theorem nexN_bd {m n : Nat} (h : m ≤ 1000) : ∀ z ∈ nexN m n, -9223372036854775808 ≤ z ∧ z ≤ 9223372036854775807 := fun z hz => by
 unfold nexN at hz
 rw [List.mem_map] at hz
 obtain ⟨j, hj, rfl⟩ := hz
 have hj := List.mem_range.1 hj
 unfold bakN fwdN
 split
 ·split
  ·split <;> omega
  ·omega
 ·omega
theorem ckE_D {D W : WL} {l m : List Int} (h : ckE D W l m = 0) : WdOK D ∧ latE W l m = 0 := by
 unfold ckE at h
 by_cases hD : WdOK D
 ·rw [if_neg (not_not_intro hD)] at h; exact ⟨hD, h⟩
 ·rw [if_pos hD] at h; cases h
end Nt
def w0L : WL := ⟨0, 0, 0, 0⟩
theorem k_latIdealC {u w : World} {x y : Sl} (d : Dat u w) (hx : SlR .i64 u x.a x.n x.c [8]) (hy : SlR .i64 u y.a y.n y.c [0, 16]) : Calls Tryz.prog 11 #[x.v, y.v, (⟨8, 4, 1, 1⟩ : WL).v] w (Post u w fun v u' => ∃ y z : Sl, v = .tuple #[.agg #[y.v, z.v], .int .i64 0] ∧ PolN u' y [((1 : Int) : Rat) / ((2 : Int) : Rat), ((1 : Int) : Rat)] 80000 ∧ PolN u' z [((1 : Int) : Rat), ((1 : Int) : Rat) / ((2 : Int) : Rat)] 80000) :=
 Post.mono (k_latIdealG (W := (⟨8, 4, 1, 1⟩ : WL)) d (by decide +kernel) hx (show ∀ z ∈ ([8] : List Int), -9223372036854775808 ≤ z ∧ z ≤ 9223372036854775807 by decide) hy (show ∀ z ∈ ([0, 16] : List Int), -9223372036854775808 ≤ z ∧ z ≤ 9223372036854775807 by decide)) fun v u' _ h => by
  obtain ⟨y, z, e, h1, h2⟩ := h
  rw [show Nt.trimQ (Nt.liS (⟨8, 4, 1, 1⟩ : WL).f [8] [0, 16] [(0 : Int), 16].length) = [((1 : Int) : Rat) / ((2 : Int) : Rat), ((1 : Int) : Rat)] from by decide +kernel] at h1
  rw [show Nt.trimQ (Nt.upL (Nt.wqL (⟨8, 4, 1, 1⟩ : WL).f [8]) (Nt.wqL (⟨8, 4, 1, 1⟩ : WL).f [8]).length) = [((1 : Int) : Rat), ((1 : Int) : Rat) / ((2 : Int) : Rat)] from by decide +kernel] at h2
  exact ⟨y, z, e, h1, h2.more (by omega)⟩
set_option maxHeartbeats 4000000 in
theorem k_known25b {u w : World} (d : Dat u w) : Calls Tryz.prog 16 #[] w (Post u w fun v _ => v = .bool true) := by
 refine zzl (args := []) Tryz.func16 rfl Tryz.ntmps16 (rs := [.tmp 0]) Tryz.results16 (le_b rfl) (le_b rfl) d ?_
 refine sq9 ?_
 refine zza 0 (.v (.bool false)) ?_
 refine zzb 52 [] [] ?_
 refine sq9 ?_
 refine zza 6 (.v (.agg #[.int .i64 8, .int .i64 4, .int .i64 1, .int .i64 1])) ?_
 refine zzj 1 ⟨24, [.int .i64 0, .int .i64 0, .int .i64 0, .int .i64 0]⟩ ?_
 refine zzi ⟨24, [.int .i64 8, .int .i64 4, .int .i64 1, .int .i64 1]⟩ ty24 ?_
 refine zzb 52 [(1, .adr 1 0)] [(1, ⟨24, [.int .i64 8, .int .i64 4, .int .i64 1, .int .i64 1]⟩)] ?_
 refine sq9 ?_
 refine zzf 8 13 [.int .i64 1] ?_
 intro w11 u11 e11 d11
 have k16 := k_rqOf d11 (z := 1) (by omega) (by omega)
 with_reducible refine zPm k16 ?_
 rintro _ u14 g15 ⟨r12, rfl, h13⟩
 refine zzf 9 13 [.int .i64 1] ?_
 intro w17 u17 e17 d17
 have k22 := k_rqOf d17 (z := 1) (by omega) (by omega)
 with_reducible refine zPm k22 ?_
 rintro _ u20 g21 ⟨r18, rfl, h19⟩
 refine sy_data 10 ⟨41, r12.cs ++ r18.cs⟩ 2 (fun b23 u24 e25 h26 => ?_)
 have hp27 : PolN u24 (⟨some ⟨b23, 0, none⟩, 2, 2⟩ : Sl) [((1 : Int) : Rat), ((1 : Int) : Rat)] 2 := pol_lit (L := [r12, r18]) h26 (rats2 (h13.ext (e17.trans (g21.ext.trans e25))) (h19.ext e25)) rfl (by decide)
 refine zzf 11 72 [.int .i64 1, .int .i64 2] ?_
 intro w28 u28 e28 d28
 have k33 := k_rqFrac d28 (a := 1) (b := 2) (by omega) (by omega) (by omega) (by omega)
 with_reducible refine zPm k33 ?_
 rintro _ u31 g32 ⟨r29, rfl, h30⟩
 refine sy_data 12 ⟨41, r29.cs⟩ 1 (fun b34 u35 e36 h37 => ?_)
 have hp38 : PolN u35 (⟨some ⟨b34, 0, none⟩, 1, 1⟩ : Sl) [(((1 : Int) : Rat) / ((2 : Int) : Rat))] 3 := pol_lit (L := [r29]) h37 (rats1 (h30.ext e36)) rfl (by decide)
 refine zzf 13 71 [.slice (some ⟨b23, 0, none⟩) 2 2, .slice (some ⟨b34, 0, none⟩) 1 1] ?_
 intro w39 u39 e39 d39
 have k44 := k_taps d39 (hp27.ext (e28.trans (g32.ext.trans (e36.trans e39)))).raw (hp38.ext e39).raw (by first | omega | (simp; done) | (simp; omega)) (by omega) (by omega) (by first | omega | (simp; done) | (simp; omega))
 with_reducible refine zPm k44 ?_
 rintro _ u42 g43 ⟨y40, rfl, h41⟩
 refine zza 7 (.v (.tuple #[y40.v, .int .i64 (Nt.tapE ([((1 : Int) : Rat), ((1 : Int) : Rat)]) ([(((1 : Int) : Rat) / ((2 : Int) : Rat))]))])) ?_
 refine zza 14 (.v y40.v) ?_
 refine zza 15 (.v (.int .i64 (Nt.tapE ([((1 : Int) : Rat), ((1 : Int) : Rat)]) ([(((1 : Int) : Rat) / ((2 : Int) : Rat))])))) ?_
 refine zza 2 (.v y40.v) ?_
 refine zza 3 (.v (.int .i64 (Nt.tapE ([((1 : Int) : Rat), ((1 : Int) : Rat)]) ([(((1 : Int) : Rat) / ((2 : Int) : Rat))])))) ?_
 refine zzb 52 [(1, .adr 1 0), (2, .v y40.v), (3, .v (.int .i64 (Nt.tapE ([((1 : Int) : Rat), ((1 : Int) : Rat)]) ([(((1 : Int) : Rat) / ((2 : Int) : Rat))]))))] [(1, ⟨24, [.int .i64 8, .int .i64 4, .int .i64 1, .int .i64 1]⟩)] ?_
 refine sq9 ?_
 refine sy_data 17 ⟨3, [.int .i64 8]⟩ 1 (fun b45 u46 e47 h48 => ?_)
 have hp49 : SlR .i64 u46 (some ⟨b45, 0, none⟩) 1 1 [8] := ints_data h48 rfl rfl (Nat.le_refl _) (by decide)
 refine sy_data 18 ⟨3, [.int .i64 0, .int .i64 16]⟩ 2 (fun b50 u51 e52 h53 => ?_)
 have hp54 : SlR .i64 u51 (some ⟨b50, 0, none⟩) 2 2 [0, 16] := ints_data h53 rfl rfl (Nat.le_refl _) (by decide)
 refine zzh 19 (.v (.agg #[.int .i64 8, .int .i64 4, .int .i64 1, .int .i64 1])) ty24 zzd ?_
 refine zzf 20 11 [.slice (some ⟨b45, 0, none⟩) 1 1, .slice (some ⟨b50, 0, none⟩) 2 2, .agg #[.int .i64 8, .int .i64 4, .int .i64 1, .int .i64 1]] ?_
 intro w55 u55 e55 d55
 have k62 := k_latIdealC (x := (⟨some ⟨b45, 0, none⟩, 1, 1⟩ : Sl)) (y := (⟨some ⟨b50, 0, none⟩, 2, 2⟩ : Sl)) d55 (hp49.ext (e52.trans e55)) (hp54.ext e55)
 with_reducible refine zPm k62 ?_
 rintro _ u60 g61 ⟨y56, y57, rfl, h58, h59⟩
 refine zza 16 (.v (.tuple #[.agg #[y56.v, y57.v], .int .i64 0])) ?_
 refine zza 21 (.v (.agg #[y56.v, y57.v])) ?_
 refine zza 22 (.v (.int .i64 0)) ?_
 refine zzj 4 ⟨31, [.slice none 0 0, .slice none 0 0]⟩ ?_
 refine zzi ⟨31, [y56.v, y57.v]⟩ ty31 ?_
 refine zza 5 (.v (.int .i64 0)) ?_
 refine zzb 52 [(2, .v y40.v), (3, .v (.int .i64 (Nt.tapE ([((1 : Int) : Rat), ((1 : Int) : Rat)]) ([(((1 : Int) : Rat) / ((2 : Int) : Rat))])))), (4, .adr 4 0), (5, .v (.int .i64 0))] [(4, ⟨31, [y56.v, y57.v]⟩)] ?_
 refine zzc ?_
 refine zzy [0, 1, 3, 7, 15, 31, 63, 127, 127, 383, 895, 2047, 4095, 8191, 16383, 32767, 16383, 81919, 212991, 524287, 1048575, 2097151, 4194303, 8388607, 4194303, 20971519, 54525951, 134217727, 268435455, 536870911] [(0, []), (1, []), (2, []), (3, []), (4, []), (5, []), (6, []), (7, []), (8, []), (9, []), (10, []), (11, [33]), (12, []), (13, []), (14, []), (15, []), (16, []), (17, []), (18, []), (19, [41]), (20, []), (21, []), (22, []), (23, []), (24, []), (25, []), (26, []), (27, [49]), (28, []), (29, [])] (by kernel_rfl) (by kernel_rfl) ?_
 refine zza 23 (.v (.int .i64 (Nt.tapE ([((1 : Int) : Rat), ((1 : Int) : Rat)]) ([(((1 : Int) : Rat) / ((2 : Int) : Rat))])))) ?_
 refine zza 24 (.v (.bool ((Nt.tapE ([((1 : Int) : Rat), ((1 : Int) : Rat)]) ([(((1 : Int) : Rat) / ((2 : Int) : Rat))])) == 0))) ?_
 refine zyp 25 (x := .v (.bool ((Nt.tapE ([((1 : Int) : Rat), ((1 : Int) : Rat)]) ([(((1 : Int) : Rat) / ((2 : Int) : Rat))])) == 0))) (.v (.bool true)) (by rw [show ((Nt.tapE ([((1 : Int) : Rat), ((1 : Int) : Rat)]) ([(((1 : Int) : Rat) / ((2 : Int) : Rat))])) == 0) = true from (by decide +kernel)]) ?_
 refine zza 26 (.v (.int .i64 0)) ?_ (hw := w1 2 true 25)
 refine zza 27 (.v (.bool true)) ?_ (hw := w1 2 true 25)
 refine zza 28 (.v (.bool true)) ?_
 refine zza 29 (.v (.bool true)) ?_
 refine zza 30 (.v y40.v) ?_ (hw := w1 6 true 29)
 refine zzf 31 72 [.int .i64 1, .int .i64 2] ?_ (hw := w1 6 true 29)
 intro w64 u64 e64 d64
 have k69 := k_rqFrac d64 (a := 1) (b := 2) (by omega) (by omega) (by omega) (by omega)
 with_reducible refine zPm k69 ?_
 rintro _ u67 g68 ⟨r65, rfl, h66⟩
 refine zzf 32 13 [.int .i64 1] ?_ (hw := w1 6 true 29)
 intro w70 u70 e70 d70
 have k75 := k_rqOf d70 (z := 1) (by omega) (by omega)
 with_reducible refine zPm k75 ?_
 rintro _ u73 g74 ⟨r71, rfl, h72⟩
 refine sy_lit 33 ⟨41, r65.cs ++ r71.cs⟩ 2 ?_ (hw := w1 6 true 29)
 refine zyn 34 73 [.v y40.v, .slc 33 0 2 2] [33] (.inr rfl) (pub_mk (by repeat first | exact noAt_of | refine zyc ?_ | refine zye ?_ | refine zyd ?_ | refine zzx ?_ | refine zya ?_)) (k := ?_) (hw := w1 6 true 29)
 intro B76 w76 u76 e76 d76 v76
 have h78 : u76.heap[B76 33]? = some (.cells #[.bool r65.s, .slice r65.m.a r65.m.n r65.m.c, .slice r65.d.a r65.d.n r65.d.c, .bool r71.s, .slice r71.m.a r71.m.n r71.m.c, .slice r71.d.a r71.d.n r71.d.c] 41 (0, 0)) := v76 33 (by simp) _ rfl
 obtain ⟨b77, hBb77⟩ : ∃ b, B76 33 = b := ⟨_, rfl⟩
 rw [hBb77] at h78
 have hp79 : PolN u76 (⟨some ⟨b77, 0, none⟩, 2, 2⟩ : Sl) [(((1 : Int) : Rat) / ((2 : Int) : Rat)), ((1 : Int) : Rat)] (max 3 2) := pol_lit (L := [r65, r71]) h78 (rats2 (RatN.more (L := (max 3 2)) (h66.ext (e70.trans (g74.ext.trans e76))) (by omega)) (RatN.more (L := (max 3 2)) (h72.ext e76) (by omega))) rfl (by decide)
 show Calls _ _ #[.slice y40.a y40.n y40.c, .slice (some ⟨B76 33, 0, none⟩) 2 2] _ _
 rw [hBb77]
 have k82 := k_sameRats d76 (h41.ext (e47.trans (e52.trans (e55.trans (g61.ext.trans (e64.trans (g68.ext.trans (e70.trans (g74.ext.trans e76))))))))).raw (show PolV _ _ (Nt.tapO ([((1 : Int) : Rat), ((1 : Int) : Rat)]) ([(((1 : Int) : Rat) / ((2 : Int) : Rat))])) _ from (by rw [show (Nt.tapO ([((1 : Int) : Rat), ((1 : Int) : Rat)]) ([(((1 : Int) : Rat) / ((2 : Int) : Rat))])) = [(((1 : Int) : Rat) / ((2 : Int) : Rat)), ((1 : Int) : Rat)] from by decide +kernel]; exact hp79.raw)) (by decide) (by decide)
 with_reducible refine zPm k82 ?_
 rintro _ u80 g81 rfl
 refine zza 35 (.v (.bool true)) ?_
 refine zza 36 (.v (.bool true)) ?_
 refine zza 37 (.adr 4 1) ?_ (hw := w1 13 true 36)
 refine zzh 38 (.v y57.v) ty29 zzk ?_ (hw := w1 13 true 36)
 refine zzf 39 13 [.int .i64 1] ?_ (hw := w1 13 true 36)
 intro w83 u83 e83 d83
 have k88 := k_rqOf d83 (z := 1) (by omega) (by omega)
 with_reducible refine zPm k88 ?_
 rintro _ u86 g87 ⟨r84, rfl, h85⟩
 refine zzf 40 72 [.int .i64 1, .int .i64 2] ?_ (hw := w1 13 true 36)
 intro w89 u89 e89 d89
 have k94 := k_rqFrac d89 (a := 1) (b := 2) (by omega) (by omega) (by omega) (by omega)
 with_reducible refine zPm k94 ?_
 rintro _ u92 g93 ⟨r90, rfl, h91⟩
 refine sy_lit 41 ⟨41, r84.cs ++ r90.cs⟩ 2 ?_ (hw := w1 13 true 36)
 refine zyn 42 74 [.v y57.v, .slc 41 0 2 2] [41] (.inr rfl) (pub_mk (by repeat first | exact noAt_of | refine zyc ?_ | refine zye ?_ | refine zyd ?_ | refine zzx ?_ | refine zya ?_)) (k := ?_) (hw := w1 13 true 36)
 intro B95 w95 u95 e95 d95 v95
 have h97 : u95.heap[B95 41]? = some (.cells #[.bool r84.s, .slice r84.m.a r84.m.n r84.m.c, .slice r84.d.a r84.d.n r84.d.c, .bool r90.s, .slice r90.m.a r90.m.n r90.m.c, .slice r90.d.a r90.d.n r90.d.c] 41 (0, 0)) := v95 41 (by simp) _ rfl
 obtain ⟨b96, hBb96⟩ : ∃ b, B95 41 = b := ⟨_, rfl⟩
 rw [hBb96] at h97
 have hp98 : PolN u95 (⟨some ⟨b96, 0, none⟩, 2, 2⟩ : Sl) [((1 : Int) : Rat), (((1 : Int) : Rat) / ((2 : Int) : Rat))] (max 2 3) := pol_lit (L := [r84, r90]) h97 (rats2 (RatN.more (L := (max 2 3)) (h85.ext (e89.trans (g93.ext.trans e95))) (by omega)) (RatN.more (L := (max 2 3)) (h91.ext e95) (by omega))) rfl (by decide)
 show Calls _ _ #[.slice y57.a y57.n y57.c, .slice (some ⟨B95 41, 0, none⟩) 2 2] _ _
 rw [hBb96]
 have k101 := k_r5Same d95 (h59.ext (e64.trans (g68.ext.trans (e70.trans (g74.ext.trans (e76.trans (g81.ext.trans (e83.trans (g87.ext.trans (e89.trans (g93.ext.trans e95))))))))))).raw hp98.raw (by decide) (by decide) (by decide) (by decide)
 with_reducible refine zPm k101 ?_
 rintro _ u99 g100 rfl
 refine zza 43 (.v (.bool (decide (Nt.trimQ [((1 : Int) : Rat), ((1 : Int) : Rat) / ((2 : Int) : Rat)] = Nt.trimQ [((1 : Int) : Rat), (((1 : Int) : Rat) / ((2 : Int) : Rat))])))) ?_
 refine zyp 44 (x := .v (.bool (decide (Nt.trimQ [((1 : Int) : Rat), ((1 : Int) : Rat) / ((2 : Int) : Rat)] = Nt.trimQ [((1 : Int) : Rat), (((1 : Int) : Rat) / ((2 : Int) : Rat))])))) (.v (.bool true)) (by rw [show (decide (Nt.trimQ [((1 : Int) : Rat), ((1 : Int) : Rat) / ((2 : Int) : Rat)] = Nt.trimQ [((1 : Int) : Rat), (((1 : Int) : Rat) / ((2 : Int) : Rat))])) = true from decide_eq_true (by decide +kernel)]) ?_
 refine zza 45 (.adr 4 0) ?_ (hw := w1 21 true 44)
 refine zzh 46 (.v y56.v) ty29 zzk ?_ (hw := w1 21 true 44)
 refine zzf 47 72 [.int .i64 1, .int .i64 2] ?_ (hw := w1 21 true 44)
 intro w103 u103 e103 d103
 have k108 := k_rqFrac d103 (a := 1) (b := 2) (by omega) (by omega) (by omega) (by omega)
 with_reducible refine zPm k108 ?_
 rintro _ u106 g107 ⟨r104, rfl, h105⟩
 refine zzf 48 13 [.int .i64 1] ?_ (hw := w1 21 true 44)
 intro w109 u109 e109 d109
 have k114 := k_rqOf d109 (z := 1) (by omega) (by omega)
 with_reducible refine zPm k114 ?_
 rintro _ u112 g113 ⟨r110, rfl, h111⟩
 refine sy_lit 49 ⟨41, r104.cs ++ r110.cs⟩ 2 ?_ (hw := w1 21 true 44)
 refine zyn 50 74 [.v y56.v, .slc 49 0 2 2] [49] (.inr rfl) (pub_mk (by repeat first | exact noAt_of | refine zyc ?_ | refine zye ?_ | refine zyd ?_ | refine zzx ?_ | refine zya ?_)) (k := ?_) (hw := w1 21 true 44)
 intro B115 w115 u115 e115 d115 v115
 have h117 : u115.heap[B115 49]? = some (.cells #[.bool r104.s, .slice r104.m.a r104.m.n r104.m.c, .slice r104.d.a r104.d.n r104.d.c, .bool r110.s, .slice r110.m.a r110.m.n r110.m.c, .slice r110.d.a r110.d.n r110.d.c] 41 (0, 0)) := v115 49 (by simp) _ rfl
 obtain ⟨b116, hBb116⟩ : ∃ b, B115 49 = b := ⟨_, rfl⟩
 rw [hBb116] at h117
 have hp118 : PolN u115 (⟨some ⟨b116, 0, none⟩, 2, 2⟩ : Sl) [(((1 : Int) : Rat) / ((2 : Int) : Rat)), ((1 : Int) : Rat)] (max 3 2) := pol_lit (L := [r104, r110]) h117 (rats2 (RatN.more (L := (max 3 2)) (h105.ext (e109.trans (g113.ext.trans e115))) (by omega)) (RatN.more (L := (max 3 2)) (h111.ext e115) (by omega))) rfl (by decide)
 show Calls _ _ #[.slice y56.a y56.n y56.c, .slice (some ⟨B115 49, 0, none⟩) 2 2] _ _
 rw [hBb116]
 have k121 := k_r5Same d115 (h58.ext (e64.trans (g68.ext.trans (e70.trans (g74.ext.trans (e76.trans (g81.ext.trans (e83.trans (g87.ext.trans (e89.trans (g93.ext.trans (e95.trans (g100.ext.trans (e103.trans (g107.ext.trans (e109.trans (g113.ext.trans e115))))))))))))))))).raw hp118.raw (by decide) (by decide) (by decide) (by decide)
 with_reducible refine zPm k121 ?_
 rintro _ u119 g120 rfl
 refine zza 51 (.v (.bool (decide (Nt.trimQ [((1 : Int) : Rat) / ((2 : Int) : Rat), ((1 : Int) : Rat)] = Nt.trimQ [(((1 : Int) : Rat) / ((2 : Int) : Rat)), ((1 : Int) : Rat)])))) ?_
 refine zza 0 (.v (.bool (decide (Nt.trimQ [((1 : Int) : Rat) / ((2 : Int) : Rat), ((1 : Int) : Rat)] = Nt.trimQ [(((1 : Int) : Rat) / ((2 : Int) : Rat)), ((1 : Int) : Rat)])))) ?_
 refine zzb 52 [(0, .v (.bool (decide (Nt.trimQ [((1 : Int) : Rat) / ((2 : Int) : Rat), ((1 : Int) : Rat)] = Nt.trimQ [(((1 : Int) : Rat) / ((2 : Int) : Rat)), ((1 : Int) : Rat)]))))] [] ?_
 refine zzn (ret0 [.bool (decide (Nt.trimQ [((1 : Int) : Rat) / ((2 : Int) : Rat), ((1 : Int) : Rat)] = Nt.trimQ [(((1 : Int) : Rat) / ((2 : Int) : Rat)), ((1 : Int) : Rat)]))] ⟨zzp, trivial⟩ fun u122 e123 => ?_)
 show Value.bool _ = Value.bool _
 rw [show (decide (Nt.trimQ [((1 : Int) : Rat) / ((2 : Int) : Rat), ((1 : Int) : Rat)] = Nt.trimQ [(((1 : Int) : Rat) / ((2 : Int) : Rat)), ((1 : Int) : Rat)])) = true from decide_eq_true (by decide +kernel)]
structure NetL where
 D : WL
 W : WL
 n : Int
 q : Int
 N : List (List TL)
 s : List Int
def netL (D W : WL) (l m : List Int) : NetL := if Nt.ckE D W l m = 0 then ⟨D, W, l.length, ((3 * l.length + 1 : Nat) : Int), Nt.latNd (Nt.p2i W.f) l m l.length, Nt.nexN l.length l.length⟩ else ⟨w0L, w0L, 0, 0, [], []⟩
def filL (W : WL) (l m : List Int) : List Rat × List Rat := if Nt.latE W l m = 0 then ((Nt.trimQ (Nt.liS W.f l m m.length)), (Nt.trimQ (Nt.upL (Nt.wqL W.f l) (Nt.wqL W.f l).length))) else ([], [])
theorem netL_ok (D W : WL) (l m : List Int) : (∀ z ∈ (netL D W l m).s, -9223372036854775808 ≤ z ∧ z ≤ 9223372036854775807) ∧ (netL D W l m).s.length ≤ 1000 ∧ (netL D W l m).N.length ≤ 1000 ∧ ∀ i, i < (netL D W l m).N.length → ((netL D W l m).N.getD i []).length ≤ 1000 := by
 by_cases h : Nt.ckE D W l m = 0
 ·obtain ⟨_, h8, _⟩ := Nt.latE_ok (Nt.ckE_D h).2
  unfold netL
  rw [if_pos h]
  exact ⟨Nt.nexN_bd (by omega), by rw [Nt.nexN_len]; omega, by rw [Nt.latNd_len]; omega, fun i hi => Nat.le_trans (Nt.latNd_tm _ _ _ _ i hi) (by omega)⟩
 ·unfold netL
  rw [if_neg h]
  exact ⟨fun z hz => (by cases hz), by decide, by decide, fun i hi => (by cases hi)⟩
theorem filL_ok (W : WL) (l m : List Int) : (filL W l m).1.length ≤ 1000 ∧ (filL W l m).2.length ≤ 1000 := by
 by_cases h : Nt.latE W l m = 0
 ·obtain ⟨_, h8, h9, _⟩ := Nt.latE_ok h
  unfold filL
  rw [if_pos h]
  exact ⟨Nat.le_trans (Nt.zzg _) (Nat.le_trans (Nt.liS_len _ _ _ _) (by omega)), Nat.le_trans (Nt.zzg _) (by rw [Nt.upL_len, Nt.wqL_len]; omega)⟩
 ·unfold filL
  rw [if_neg h]
  exact ⟨by decide, by decide⟩
theorem k_latBuildU {u w : World} {x y : Sl} {l m : List Int} {D W : WL} {R : NetL} (d : Dat u w) (hR : R = netL D W l m) (hx : SlR .i64 u x.a x.n x.c l) (hb : ∀ z ∈ l, -9223372036854775808 ≤ z ∧ z ≤ 9223372036854775807) (hy : SlR .i64 u y.a y.n y.c m) (hc : ∀ z ∈ m, -9223372036854775808 ≤ z ∧ z ≤ 9223372036854775807) : Calls Tryz.prog 17 #[x.v, y.v, D.v, W.v] w (Post u w fun v u' => ∃ y z : Sl, v = .tuple #[.agg #[.int .i64 R.D.b, .int .i64 R.D.f, .int .i64 R.D.r, .int .i64 R.D.o, .int .i64 R.W.b, .int .i64 R.W.f, .int .i64 R.W.r, .int .i64 R.W.o, .int .i64 R.n, y.v, z.v, .int .i64 R.q], .int .i64 (Nt.ckE D W l m)] ∧ (∃ h, NodesB 0 h u' y R.N) ∧ MutL 1 3 0 u' z (ics R.s)) := by
 subst hR
 unfold netL
 by_cases h : Nt.ckE D W l m = 0
 ·rw [if_pos h, h]
  exact k_latBuild d (Nt.ckE_D h).1 (Nt.ckE_D h).2 hx hb hy hc
 ·rw [if_neg h]
  exact Post.mono (k_latBuildBad d h hx hb hy hc) fun v u' _ e => ⟨⟨none, 0, 0⟩, ⟨none, 0, 0⟩, e, ⟨0, NodesB.nil 0 0 _⟩, MutL.nil _ _ _ _⟩
theorem k_rlatBuildU {u w : World} {x y : Sl} {l m : List Int} {D W : WL} {R : NetL} (d : Dat u w) (hR : R = netL D W l m) (hx : SlR .i64 u x.a x.n x.c l) (hb : ∀ z ∈ l, -9223372036854775808 ≤ z ∧ z ≤ 9223372036854775807) (hy : SlR .i64 u y.a y.n y.c m) (hc : ∀ z ∈ m, -9223372036854775808 ≤ z ∧ z ≤ 9223372036854775807) : Calls Tryz.prog 18 #[x.v, y.v, D.v, W.v] w (Post u w fun v u' => ∃ y z : Sl, v = .tuple #[.agg #[.int .i64 R.D.b, .int .i64 R.D.f, .int .i64 R.D.r, .int .i64 R.D.o, .int .i64 R.W.b, .int .i64 R.W.f, .int .i64 R.W.r, .int .i64 R.W.o, .int .i64 R.n, y.v, z.v, .int .i64 R.q], .int .i64 (Nt.ckE D W l m)] ∧ (∃ h, NodesB 0 h u' y R.N) ∧ MutL 1 3 0 u' z (ics R.s)) := by
 subst hR
 unfold netL
 by_cases h : Nt.ckE D W l m = 0
 ·rw [if_pos h, h]
  exact k_rlatBuild d (Nt.ckE_D h).1 (Nt.ckE_D h).2 hx hb hy hc
 ·rw [if_neg h]
  exact Post.mono (k_rlatBuildBad d h hx hb hy hc) fun v u' _ e => ⟨⟨none, 0, 0⟩, ⟨none, 0, 0⟩, e, ⟨0, NodesB.nil 0 0 _⟩, MutL.nil _ _ _ _⟩
theorem k_latIdealU {u w : World} {x y : Sl} {l m : List Int} {W : WL} {R : List Rat × List Rat} (d : Dat u w) (hR : R = filL W l m) (hx : SlR .i64 u x.a x.n x.c l) (hb : ∀ z ∈ l, -9223372036854775808 ≤ z ∧ z ≤ 9223372036854775807) (hy : SlR .i64 u y.a y.n y.c m) (hc : ∀ z ∈ m, -9223372036854775808 ≤ z ∧ z ≤ 9223372036854775807) : Calls Tryz.prog 11 #[x.v, y.v, W.v] w (Post u w fun v u' => ∃ y z : Sl, v = .tuple #[.agg #[y.v, z.v], .int .i64 (Nt.latE W l m)] ∧ PolN u' y R.1 80000 ∧ PolN u' z R.2 80000) := by
 subst hR
 unfold filL
 by_cases h : Nt.latE W l m = 0
 ·rw [if_pos h, h]
  exact Post.mono (k_latIdealG d h hx hb hy hc) fun v u' _ ⟨y, z, e, h1, h2⟩ => ⟨y, z, e, h1, h2.more (by omega)⟩
 ·rw [if_neg h]
  exact Post.mono (k_latIdealBad d h hx hb hy hc) fun v u' _ e => ⟨⟨none, 0, 0⟩, ⟨none, 0, 0⟩, e, pol_nil _ _, pol_nil _ _⟩
theorem k_rlatIdealU {u w : World} {x y : Sl} {l m : List Int} {W : WL} {R : List Rat × List Rat} (d : Dat u w) (hR : R = filL W l m) (hx : SlR .i64 u x.a x.n x.c l) (hb : ∀ z ∈ l, -9223372036854775808 ≤ z ∧ z ≤ 9223372036854775807) (hy : SlR .i64 u y.a y.n y.c m) (hc : ∀ z ∈ m, -9223372036854775808 ≤ z ∧ z ≤ 9223372036854775807) : Calls Tryz.prog 19 #[x.v, y.v, W.v] w (Post u w fun v u' => ∃ y z : Sl, v = .tuple #[.agg #[y.v, z.v], .int .i64 (Nt.latE W l m)] ∧ PolN u' y R.1 80000 ∧ PolN u' z R.2 80000) := by
 subst hR
 unfold filL
 by_cases h : Nt.latE W l m = 0
 ·rw [if_pos h, h]
  exact Post.mono (k_rlatIdealG d h hx hb hy hc) fun v u' _ ⟨y, z, e, h1, h2⟩ => ⟨y, z, e, h1, h2.more (by omega)⟩
 ·rw [if_neg h]
  exact Post.mono (k_rlatIdealBad d h hx hb hy hc) fun v u' _ e => ⟨⟨none, 0, 0⟩, ⟨none, 0, 0⟩, e, pol_nil _ _, pol_nil _ _⟩
set_option maxHeartbeats 4000000 in
theorem w_latBuilds {u w : World} {x y : Sl} {l m : List Int} {D W : WL} (d : Dat u w) (hx : SlR .i64 u x.a x.n x.c l) (hb : ∀ z ∈ l, -9223372036854775808 ≤ z ∧ z ≤ 9223372036854775807) (hy : SlR .i64 u y.a y.n y.c m) (hc : ∀ z ∈ m, -9223372036854775808 ≤ z ∧ z ≤ 9223372036854775807) : Calls Tryz.prog 4 #[x.v, y.v, D.v, W.v] w (Post u w fun v _ => v = .bool true) := by
 obtain ⟨hR1, hR2, hR3, hR4⟩ := netL_ok D W l m
 obtain ⟨hQ1, hQ2⟩ := filL_ok W l m
 obtain ⟨R, hR⟩ : ∃ R, R = netL D W l m := ⟨_, rfl⟩
 obtain ⟨Q, hQ⟩ : ∃ Q, Q = filL W l m := ⟨_, rfl⟩
 rw [← hR] at hR1 hR2 hR3 hR4
 rw [← hQ] at hQ1 hQ2
 refine zzl (args := [.slice x.a x.n x.c, .slice y.a y.n y.c, .agg #[.int .i64 D.b, .int .i64 D.f, .int .i64 D.r, .int .i64 D.o], .agg #[.int .i64 W.b, .int .i64 W.f, .int .i64 W.r, .int .i64 W.o]]) Tryz.func4 rfl Tryz.ntmps4 (rs := [.tmp 8]) Tryz.results4 (le_b rfl) (le_b rfl) d ?_
 refine sq9 ?_
 refine zzj 6 ⟨24, D.cs⟩ ?_
 refine zzj 7 ⟨24, W.cs⟩ ?_
 refine zza 8 (.v (.bool false)) ?_
 refine zzb 77 [(0, .v x.v), (1, .v y.v), (6, .adr 6 0), (7, .adr 7 0)] [(6, ⟨24, D.cs⟩), (7, ⟨24, W.cs⟩)] ?_
 refine zzc ?_
 refine sq9 ?_
 refine zza 17 (.v x.v) ?_
 refine zza 18 (.v (.int .i64 (x.n : Int))) ?_
 refine zza 19 (.v (.bool (decide ((20 : Int) < (x.n : Int))))) ?_
 rcases Bool.eq_false_or_eq_true (decide ((20 : Int) < (x.n : Int))) with hs11 | hs11
 ·refine zyp 20 (x := .v (.bool (decide ((20 : Int) < (x.n : Int))))) (.v (.bool true)) (by rw [hs11]) ?_
  have qhs11 := of_decide_eq_true hs11
  refine zzm 21 (uw 3 false true 20) ?_
  refine zzm 22 (uw 3 false true 20) ?_
  refine zzm 23 (uw 3 false true 20) ?_
  refine zza 24 (.v (.bool true)) ?_
  refine zzb 77 [(0, .v x.v), (1, .v y.v), (6, .adr 6 0), (7, .adr 7 0), (24, .v (.bool true))] [(6, ⟨24, D.cs⟩), (7, ⟨24, W.cs⟩)] ?_
  refine zyq (by kernel_rfl) ?_
  refine sq9 ?_
  refine zzf 25 16 [] ?_
  intro w12 u12 e12 d12
  have k15 := k_known25b d12
  with_reducible refine zPm k15 ?_
  rintro _ u13 g14 rfl
  refine zza 8 (.v (.bool true)) ?_
  refine zzb 77 [(8, .v (.bool true))] [] ?_
  refine zzn (zzv (ret0 [.bool true] ⟨zzp, trivial⟩ fun u16 e17 => ?_))
  exact rfl
 ·refine zyp 20 (x := .v (.bool (decide ((20 : Int) < (x.n : Int))))) (.v (.bool false)) (by rw [hs11]) ?_
  have qhs11 := of_decide_eq_false hs11
  refine zza 21 (.v y.v) ?_ (hw := w1 3 false 20)
  refine zza 22 (.v (.int .i64 (y.n : Int))) ?_ (hw := w1 3 false 20)
  refine zza 23 (.v (.bool (decide ((20 : Int) < (y.n : Int))))) ?_ (hw := w1 3 false 20)
  refine zza 24 (.v (.bool (decide ((20 : Int) < (y.n : Int))))) ?_
  refine zzb 77 [(0, .v x.v), (1, .v y.v), (6, .adr 6 0), (7, .adr 7 0), (24, .v (.bool (decide ((20 : Int) < (y.n : Int)))))] [(6, ⟨24, D.cs⟩), (7, ⟨24, W.cs⟩)] ?_
  refine zzt (b := decide ((20 : Int) < (y.n : Int))) (by kernel_rfl) (fun hb18 => ?_) (fun hb18 => ?_)
  ·replace hb18 : (decide ((20 : Int) < (y.n : Int))) = true := hb18
   have qhb18 := of_decide_eq_true hb18
   refine sq9 ?_
   refine zzf 25 16 [] ?_
   intro w19 u19 e19 d19
   have k22 := k_known25b d19
   with_reducible refine zPm k22 ?_
   rintro _ u20 g21 rfl
   refine zza 8 (.v (.bool true)) ?_
   refine zzb 77 [(8, .v (.bool true))] [] ?_
   refine zzn (zzv (ret0 [.bool true] ⟨zzp, trivial⟩ fun u23 e24 => ?_))
   exact rfl
  ·replace hb18 : (decide ((20 : Int) < (y.n : Int))) = false := hb18
   have qhb18 := of_decide_eq_false hb18
   refine zzr (zzo ?_)
   refine sq9 ?_
   refine zza 27 (.v x.v) ?_
   refine zza 28 (.v y.v) ?_
   refine zzh 29 (.v (D.v)) ty24 zzd ?_
   refine zzh 30 (.v (W.v)) ty24 zzd ?_
   refine zzf 31 17 [x.v, y.v, D.v, W.v] ?_
   intro w25 u25 e25 d25
   have k29 := k_latBuildU (D := D) (W := W) d25 hR (hx.ext e25) hb (hy.ext e25) hc
   with_reducible refine zPm k29 ?_
   rintro _ u27 g28 ⟨y26, z26, rfl, ⟨hh26, hN26⟩, hX26⟩
   refine zza 26 (.v (.tuple #[.agg #[.int .i64 R.D.b, .int .i64 R.D.f, .int .i64 R.D.r, .int .i64 R.D.o, .int .i64 R.W.b, .int .i64 R.W.f, .int .i64 R.W.r, .int .i64 R.W.o, .int .i64 R.n, y26.v, z26.v, .int .i64 R.q], .int .i64 (Nt.ckE D W l m)])) ?_
   refine zza 32 (.v (.agg #[.int .i64 R.D.b, .int .i64 R.D.f, .int .i64 R.D.r, .int .i64 R.D.o, .int .i64 R.W.b, .int .i64 R.W.f, .int .i64 R.W.r, .int .i64 R.W.o, .int .i64 R.n, y26.v, z26.v, .int .i64 R.q])) ?_
   refine zza 33 (.v (.int .i64 (Nt.ckE D W l m))) ?_
   refine zzj 9 ⟨49, [.int .i64 0, .int .i64 0, .int .i64 0, .int .i64 0, .int .i64 0, .int .i64 0, .int .i64 0, .int .i64 0, .int .i64 0, .slice none 0 0, .slice none 0 0, .int .i64 0]⟩ ?_
   refine zzi ⟨49, [.int .i64 R.D.b, .int .i64 R.D.f, .int .i64 R.D.r, .int .i64 R.D.o, .int .i64 R.W.b, .int .i64 R.W.f, .int .i64 R.W.r, .int .i64 R.W.o, .int .i64 R.n, y26.v, z26.v, .int .i64 R.q]⟩ ty49 ?_
   refine zza 10 (.v (.int .i64 (Nt.ckE D W l m))) ?_
   refine zzb 77 [(0, .v x.v), (1, .v y.v), (6, .adr 6 0), (7, .adr 7 0), (9, .adr 9 0), (10, .v (.int .i64 (Nt.ckE D W l m)))] [(6, ⟨24, D.cs⟩), (7, ⟨24, W.cs⟩), (9, ⟨49, [.int .i64 R.D.b, .int .i64 R.D.f, .int .i64 R.D.r, .int .i64 R.D.o, .int .i64 R.W.b, .int .i64 R.W.f, .int .i64 R.W.r, .int .i64 R.W.o, .int .i64 R.n, y26.v, z26.v, .int .i64 R.q]⟩)] ?_
   refine sq9 ?_
   refine zza 35 (.v x.v) ?_
   refine zza 36 (.v y.v) ?_
   refine zzh 37 (.v (D.v)) ty24 zzd ?_
   refine zzh 38 (.v (W.v)) ty24 zzd ?_
   refine zzf 39 18 [x.v, y.v, D.v, W.v] ?_
   intro w30 u30 e30 d30
   have k34 := k_rlatBuildU (D := D) (W := W) d30 hR (hx.ext (e25.trans (g28.ext.trans e30))) hb (hy.ext (e25.trans (g28.ext.trans e30))) hc
   with_reducible refine zPm k34 ?_
   rintro _ u32 g33 ⟨y31, z31, rfl, ⟨hh31, hN31⟩, hX31⟩
   refine zza 34 (.v (.tuple #[.agg #[.int .i64 R.D.b, .int .i64 R.D.f, .int .i64 R.D.r, .int .i64 R.D.o, .int .i64 R.W.b, .int .i64 R.W.f, .int .i64 R.W.r, .int .i64 R.W.o, .int .i64 R.n, y31.v, z31.v, .int .i64 R.q], .int .i64 (Nt.ckE D W l m)])) ?_
   refine zza 40 (.v (.agg #[.int .i64 R.D.b, .int .i64 R.D.f, .int .i64 R.D.r, .int .i64 R.D.o, .int .i64 R.W.b, .int .i64 R.W.f, .int .i64 R.W.r, .int .i64 R.W.o, .int .i64 R.n, y31.v, z31.v, .int .i64 R.q])) ?_
   refine zza 41 (.v (.int .i64 (Nt.ckE D W l m))) ?_
   refine zzj 11 ⟨49, [.int .i64 0, .int .i64 0, .int .i64 0, .int .i64 0, .int .i64 0, .int .i64 0, .int .i64 0, .int .i64 0, .int .i64 0, .slice none 0 0, .slice none 0 0, .int .i64 0]⟩ ?_
   refine zzi ⟨49, [.int .i64 R.D.b, .int .i64 R.D.f, .int .i64 R.D.r, .int .i64 R.D.o, .int .i64 R.W.b, .int .i64 R.W.f, .int .i64 R.W.r, .int .i64 R.W.o, .int .i64 R.n, y31.v, z31.v, .int .i64 R.q]⟩ ty49 ?_
   refine zza 12 (.v (.int .i64 (Nt.ckE D W l m))) ?_
   refine zzb 77 [(0, .v x.v), (1, .v y.v), (7, .adr 7 0), (9, .adr 9 0), (10, .v (.int .i64 (Nt.ckE D W l m))), (11, .adr 11 0), (12, .v (.int .i64 (Nt.ckE D W l m)))] [(7, ⟨24, W.cs⟩), (9, ⟨49, [.int .i64 R.D.b, .int .i64 R.D.f, .int .i64 R.D.r, .int .i64 R.D.o, .int .i64 R.W.b, .int .i64 R.W.f, .int .i64 R.W.r, .int .i64 R.W.o, .int .i64 R.n, y26.v, z26.v, .int .i64 R.q]⟩), (11, ⟨49, [.int .i64 R.D.b, .int .i64 R.D.f, .int .i64 R.D.r, .int .i64 R.D.o, .int .i64 R.W.b, .int .i64 R.W.f, .int .i64 R.W.r, .int .i64 R.W.o, .int .i64 R.n, y31.v, z31.v, .int .i64 R.q]⟩)] ?_
   refine sq9 ?_
   refine zza 43 (.v x.v) ?_
   refine zza 44 (.v y.v) ?_
   refine zzh 45 (.v (W.v)) ty24 zzd ?_
   refine zzf 46 11 [x.v, y.v, W.v] ?_
   intro w35 u35 e35 d35
   have k39 := k_latIdealU (W := W) d35 hQ (hx.ext (e25.trans (g28.ext.trans (e30.trans (g33.ext.trans e35))))) hb (hy.ext (e25.trans (g28.ext.trans (e30.trans (g33.ext.trans e35))))) hc
   with_reducible refine zPm k39 ?_
   rintro _ u37 g38 ⟨y36, z36, rfl, hf36, hg36⟩
   refine zza 42 (.v (.tuple #[.agg #[y36.v, z36.v], .int .i64 (Nt.latE W l m)])) ?_
   refine zza 47 (.v (.agg #[y36.v, z36.v])) ?_
   refine zza 48 (.v (.int .i64 (Nt.latE W l m))) ?_
   refine zzj 13 ⟨31, [.slice none 0 0, .slice none 0 0]⟩ ?_
   refine zzi ⟨31, [y36.v, z36.v]⟩ ty31 ?_
   refine zza 14 (.v (.int .i64 (Nt.latE W l m))) ?_
   refine zzb 77 [(0, .v x.v), (1, .v y.v), (7, .adr 7 0), (9, .adr 9 0), (10, .v (.int .i64 (Nt.ckE D W l m))), (11, .adr 11 0), (12, .v (.int .i64 (Nt.ckE D W l m))), (13, .adr 13 0), (14, .v (.int .i64 (Nt.latE W l m)))] [(7, ⟨24, W.cs⟩), (9, ⟨49, [.int .i64 R.D.b, .int .i64 R.D.f, .int .i64 R.D.r, .int .i64 R.D.o, .int .i64 R.W.b, .int .i64 R.W.f, .int .i64 R.W.r, .int .i64 R.W.o, .int .i64 R.n, y26.v, z26.v, .int .i64 R.q]⟩), (11, ⟨49, [.int .i64 R.D.b, .int .i64 R.D.f, .int .i64 R.D.r, .int .i64 R.D.o, .int .i64 R.W.b, .int .i64 R.W.f, .int .i64 R.W.r, .int .i64 R.W.o, .int .i64 R.n, y31.v, z31.v, .int .i64 R.q]⟩), (13, ⟨31, [y36.v, z36.v]⟩)] ?_
   refine sq9 ?_
   refine zza 50 (.v x.v) ?_
   refine zza 51 (.v y.v) ?_
   refine zzh 52 (.v (W.v)) ty24 zzd ?_
   refine zzf 53 19 [x.v, y.v, W.v] ?_
   intro w40 u40 e40 d40
   have k44 := k_rlatIdealU (W := W) d40 hQ (hx.ext (e25.trans (g28.ext.trans (e30.trans (g33.ext.trans (e35.trans (g38.ext.trans e40))))))) hb (hy.ext (e25.trans (g28.ext.trans (e30.trans (g33.ext.trans (e35.trans (g38.ext.trans e40))))))) hc
   with_reducible refine zPm k44 ?_
   rintro _ u42 g43 ⟨y41, z41, rfl, hf41, hg41⟩
   refine zza 49 (.v (.tuple #[.agg #[y41.v, z41.v], .int .i64 (Nt.latE W l m)])) ?_
   refine zza 54 (.v (.agg #[y41.v, z41.v])) ?_
   refine zza 55 (.v (.int .i64 (Nt.latE W l m))) ?_
   refine zzj 15 ⟨31, [.slice none 0 0, .slice none 0 0]⟩ ?_
   refine zzi ⟨31, [y41.v, z41.v]⟩ ty31 ?_
   refine zza 16 (.v (.int .i64 (Nt.latE W l m))) ?_
   refine zzb 77 [(9, .adr 9 0), (10, .v (.int .i64 (Nt.ckE D W l m))), (11, .adr 11 0), (12, .v (.int .i64 (Nt.ckE D W l m))), (13, .adr 13 0), (14, .v (.int .i64 (Nt.latE W l m))), (15, .adr 15 0), (16, .v (.int .i64 (Nt.latE W l m)))] [(9, ⟨49, [.int .i64 R.D.b, .int .i64 R.D.f, .int .i64 R.D.r, .int .i64 R.D.o, .int .i64 R.W.b, .int .i64 R.W.f, .int .i64 R.W.r, .int .i64 R.W.o, .int .i64 R.n, y26.v, z26.v, .int .i64 R.q]⟩), (11, ⟨49, [.int .i64 R.D.b, .int .i64 R.D.f, .int .i64 R.D.r, .int .i64 R.D.o, .int .i64 R.W.b, .int .i64 R.W.f, .int .i64 R.W.r, .int .i64 R.W.o, .int .i64 R.n, y31.v, z31.v, .int .i64 R.q]⟩), (13, ⟨31, [y36.v, z36.v]⟩), (15, ⟨31, [y41.v, z41.v]⟩)] ?_
   refine sq9 ?_
   refine zzf 56 16 [] ?_
   intro w45 u45 e45 d45
   have k48 := k_known25b d45
   with_reducible refine zPm k48 ?_
   rintro _ u46 g47 rfl
   refine zza 57 (.v (.bool true)) ?_
   refine zza 58 (.v (.int .i64 (Nt.ckE D W l m))) ?_ (hw := w1 1 true 57)
   refine zza 59 (.v (.int .i64 (Nt.ckE D W l m))) ?_ (hw := w1 1 true 57)
   refine zza 60 (.v (.bool ((Nt.ckE D W l m) == (Nt.ckE D W l m)))) ?_ (hw := w1 1 true 57)
   refine zza 61 (.v (.bool ((Nt.ckE D W l m) == (Nt.ckE D W l m)))) ?_
   refine zyp 62 (x := .v (.bool ((Nt.ckE D W l m) == (Nt.ckE D W l m)))) (.v (.bool true)) (by rw [show ((Nt.ckE D W l m) == (Nt.ckE D W l m)) = true from (beq_self_eq_true _)]) ?_
   refine zzh 63 (.v (.agg #[.int .i64 R.D.b, .int .i64 R.D.f, .int .i64 R.D.r, .int .i64 R.D.o, .int .i64 R.W.b, .int .i64 R.W.f, .int .i64 R.W.r, .int .i64 R.W.o, .int .i64 R.n, y26.v, z26.v, .int .i64 R.q])) ty49 zzd ?_ (hw := w1 6 true 62)
   refine zzh 64 (.v (.agg #[.int .i64 R.D.b, .int .i64 R.D.f, .int .i64 R.D.r, .int .i64 R.D.o, .int .i64 R.W.b, .int .i64 R.W.f, .int .i64 R.W.r, .int .i64 R.W.o, .int .i64 R.n, y31.v, z31.v, .int .i64 R.q])) ty49 zzd ?_ (hw := w1 6 true 62)
   refine zzf 65 20 [.agg #[.int .i64 R.D.b, .int .i64 R.D.f, .int .i64 R.D.r, .int .i64 R.D.o, .int .i64 R.W.b, .int .i64 R.W.f, .int .i64 R.W.r, .int .i64 R.W.o, .int .i64 R.n, y26.v, z26.v, .int .i64 R.q], .agg #[.int .i64 R.D.b, .int .i64 R.D.f, .int .i64 R.D.r, .int .i64 R.D.o, .int .i64 R.W.b, .int .i64 R.W.f, .int .i64 R.W.r, .int .i64 R.W.o, .int .i64 R.n, y31.v, z31.v, .int .i64 R.q]] ?_ (hw := w1 6 true 62)
   intro w50 u50 e50 d50
   have k53 := k_sameNets (D := R.D) (W := R.W) (x1 := y26) (x2 := y31) (z1 := z26) (z2 := z31) (n := R.n) (q := R.q) d50 (hN26.ext (e30.trans (g33.ext.trans (e35.trans (g38.ext.trans (e40.trans (g43.ext.trans (e45.trans (g47.ext.trans e50))))))))) (hN31.ext (e35.trans (g38.ext.trans (e40.trans (g43.ext.trans (e45.trans (g47.ext.trans e50))))))) (hX26.ext (e30.trans (g33.ext.trans (e35.trans (g38.ext.trans (e40.trans (g43.ext.trans (e45.trans (g47.ext.trans e50))))))))) (hX31.ext (e35.trans (g38.ext.trans (e40.trans (g43.ext.trans (e45.trans (g47.ext.trans e50))))))) hR1 hR2 hR3 hR4
   with_reducible refine zPm k53 ?_
   rintro _ u51 g52 rfl
   refine zza 66 (.v (.bool true)) ?_
   refine zza 67 (.v (.bool true)) ?_
   refine zza 68 (.v (.int .i64 (Nt.latE W l m))) ?_ (hw := w1 11 true 67)
   refine zza 69 (.v (.int .i64 (Nt.latE W l m))) ?_ (hw := w1 11 true 67)
   refine zza 70 (.v (.bool ((Nt.latE W l m) == (Nt.latE W l m)))) ?_ (hw := w1 11 true 67)
   refine zza 71 (.v (.bool ((Nt.latE W l m) == (Nt.latE W l m)))) ?_
   refine zyp 72 (x := .v (.bool ((Nt.latE W l m) == (Nt.latE W l m)))) (.v (.bool true)) (by rw [show ((Nt.latE W l m) == (Nt.latE W l m)) = true from (beq_self_eq_true _)]) ?_
   refine zzh 73 (.v (.agg #[y36.v, z36.v])) ty31 zzd ?_ (hw := w1 16 true 72)
   refine zzh 74 (.v (.agg #[y41.v, z41.v])) ty31 zzd ?_ (hw := w1 16 true 72)
   refine zzf 75 21 [.agg #[y36.v, z36.v], .agg #[y41.v, z41.v]] ?_ (hw := w1 16 true 72)
   intro w55 u55 e55 d55
   have k58 := k_sameFilt (K := 80000) (x1 := y36) (y1 := z36) (x2 := y41) (y2 := z41) d55 (hf36.ext (e40.trans (g43.ext.trans (e45.trans (g47.ext.trans (e50.trans (g52.ext.trans e55))))))) (hg36.ext (e40.trans (g43.ext.trans (e45.trans (g47.ext.trans (e50.trans (g52.ext.trans e55))))))) (hf41.ext (e45.trans (g47.ext.trans (e50.trans (g52.ext.trans e55))))) (hg41.ext (e45.trans (g47.ext.trans (e50.trans (g52.ext.trans e55))))) (by omega) hQ1 hQ2
   with_reducible refine zPm k58 ?_
   rintro _ u56 g57 rfl
   refine zza 76 (.v (.bool true)) ?_
   refine zza 8 (.v (.bool true)) ?_
   refine zzb 77 [(8, .v (.bool true))] [] ?_
   refine zzn (ret0 [.bool true] ⟨zzp, trivial⟩ fun u59 e60 => ?_)
   exact rfl
end Go.Proofs.YtdmpfhhhlhoeiaaGreat
