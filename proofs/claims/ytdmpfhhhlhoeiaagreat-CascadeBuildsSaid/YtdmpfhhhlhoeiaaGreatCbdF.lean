/- The reference's networks of cascades. Printed by wip/sym/g_kt.py. The reference's filters of cascades. Printed by wip/sym/g_ks.py. Networks of lattices. Printed by wip/sym/g_ne.py. Ideal of lattices in general, networks compared. Printed by wip/sym/g_nf.py. CascadeBuilds. Printed by wip/sym/g_ku.py. -/
import Derived.Test.YtdmpfhhhlhoeiaaGreatCbdE
namespace Go.Proofs.YtdmpfhhhlhoeiaaGreat
open Go.RowKit
set_option linter.unusedVariables false
set_option maxHeartbeats 8000000 in
theorem k_rcsBuild {u w : World} {x : Sl} {L : List (List Int)} {D W : WL} (d : Dat u w) (hED : Nt.csED D W L = 0) (hD : WdOK D) (hE : Nt.csE W L = 0) (hx : IrV 5 u x L) (hb : ∀ p ∈ L, ∀ z ∈ p, -9223372036854775808 ≤ z ∧ z ≤ 9223372036854775807) : Calls Tryz.prog 40 #[x.v, D.v, W.v] w (Post u w fun v u' => ∃ (y z : Sl), v = .tuple #[.agg #[.int .i64 D.b, .int .i64 D.f, .int .i64 D.r, .int .i64 D.o, .int .i64 W.b, .int .i64 W.f, .int .i64 W.r, .int .i64 W.o, .int .i64 ((2 + 2 * L.length : Nat) : Int), y.v, z.v, .int .i64 ((2 + 2 * L.length + L.length : Nat) : Int)], .int .i64 0] ∧ (∃ h, NodesB 0 h u' y (Nt.csNodes L.length L L.length)) ∧ MutL 1 3 0 u' z (ics (Nt.csNext L.length L.length))) := by
 obtain ⟨hW, h1, h8, hall⟩ := Nt.csE_ok hE
 have hlx := hx.len
 obtain ⟨hw1, hw2, hw3, hw4, hw5, hw6, hw7, hw8⟩ := id hW
 have hp24 := Nt.p2i_24 (n := W.b - 1) xq
 refine zzm (args := [.slice x.a x.n x.c, .agg #[.int .i64 D.b, .int .i64 D.f, .int .i64 D.r, .int .i64 D.o], .agg #[.int .i64 W.b, .int .i64 W.f, .int .i64 W.r, .int .i64 W.o]]) Tryz.func40 rfl Tryz.ntmps40 (rs := [.cell 6 49, .tmp 7]) Tryz.results40 (le_b rfl) (le_b rfl) d ?_
 refine sq9 (zzk 4 ⟨24, D.cs⟩ (zzk 5 ⟨24, W.cs⟩ (zzk 6 ⟨49, [.int .i64 0, .int .i64 0, .int .i64 0, .int .i64 0, .int .i64 0, .int .i64 0, .int .i64 0, .int .i64 0, .int .i64 0, .slice none 0 0, .slice none 0 0, .int .i64 0]⟩ (zza 7 (zI 0) (zzb (zzd (sq9 (zza 16 (.v x.v) (zzi 17 (.v (D.v)) ty24 zze (zzi 18 (.v (W.v)) ty24 zze (zzg 19 123 [x.v, D.v, W.v] ?_)))))))))))
 intro w11 u11 e11 d11
 have k14 := (Post.mono (Ψ := fun v _ => v = .int .i64 0) (k_check24 (D := D) (W := W) d11 (hx.ext e11) hb) (fun v u9 _ h => by rw [hED] at h; exact h))
 with_reducible refine zPm k14 ?_
 rintro _ u12 g13 rfl
 refine zza 8 (zI 0) (zzb (sq9 (zza 20 (zI 0) (zza 21 (zB false) (zzb (zys xj (zzs (zzp ?_))))))))
 refine sq9 (zza 24 (.v x.v) (zza 25 (zI x.n) (zyq 26 (x := zI (IntKind.i64.wrap ((2 : Int) * (x.n : Int)))) (zI (2 * x.n : Nat)) (eqI xk) (zyq 27 (x := zI (IntKind.i64.wrap ((2 : Int) + ((2 * x.n : Nat) : Int)))) (zI ((2 + (2 * x.n) : Nat) : Int)) (eqI xk) (zza 9 (zI ((2 + (2 * x.n) : Nat) : Int)) (zzb (sq9 (zzi 28 (.v (D.v)) ty24 zze (zzi 29 (.v (W.v)) ty24 zze (zza 30 (zI ((2 + (2 * x.n) : Nat) : Int)) (sy_dataF 31 ⟨3, [.int .i64 0, .int .i64 1]⟩ 2 (fun b15 u15 e15 h15 f15 g15 => ?_))))))))))))
 have hm16 : MutL 1 3 u.heap.size u15 (⟨some ⟨b15, 0, none⟩, 2, 2⟩ : Sl) (ics [0, 1]) := MutL.lit h15 rfl yv f15
 refine zza 32 (zI ((2 + (2 * x.n) : Nat) : Int)) (zza 33 (.v x.v) (zza 34 (zI x.n) (zyq 35 (x := zI (IntKind.i64.wrap (((2 + (2 * x.n) : Nat) : Int) + (x.n : Int)))) (zI (((2 + (2 * x.n)) + x.n : Nat) : Int)) (eqI xk) (zza 36 (.v (.agg #[.int .i64 D.b, .int .i64 D.f, .int .i64 D.r, .int .i64 D.o, .int .i64 W.b, .int .i64 W.f, .int .i64 W.r, .int .i64 W.o, .int .i64 ((2 + (2 * x.n) : Nat) : Int), .slice none 0 0, .slice (some ⟨b15, 0, none⟩) 2 2, .int .i64 (((2 + (2 * x.n)) + x.n : Nat) : Int)])) (zzk 10 ⟨49, [.int .i64 0, .int .i64 0, .int .i64 0, .int .i64 0, .int .i64 0, .int .i64 0, .int .i64 0, .int .i64 0, .int .i64 0, .slice none 0 0, .slice none 0 0, .int .i64 0]⟩ (zzj ⟨49, [.int .i64 D.b, .int .i64 D.f, .int .i64 D.r, .int .i64 D.o, .int .i64 W.b, .int .i64 W.f, .int .i64 W.r, .int .i64 W.o, .int .i64 ((2 + (2 * x.n) : Nat) : Int), .slice none 0 0, .slice (some ⟨b15, 0, none⟩) 2 2, .int .i64 (((2 + (2 * x.n)) + x.n : Nat) : Int)]⟩ ty49 ?_))))))
 refine zzb (zzd (sq9 (zza 11 (zI 0) (zzb (zzt (zyn (I := fun m17 S' u' => ∃ (i : Nat) (hz : Nat) (X : Sl) (Y : Sl), (m17 = x.n - i) ∧ (i ≤ x.n) ∧ (S' = St.of 105 [(0, .v (.slice x.a x.n x.c)), (6, .adr 6 0), (9, zI ((2 + (2 * x.n) : Nat) : Int)), (10, .adr 10 0), (11, zI i)] [(6, ⟨49, [.int .i64 0, .int .i64 0, .int .i64 0, .int .i64 0, .int .i64 0, .int .i64 0, .int .i64 0, .int .i64 0, .int .i64 0, .slice none 0 0, .slice none 0 0, .int .i64 0]⟩), (10, ⟨49, [.int .i64 D.b, .int .i64 D.f, .int .i64 D.r, .int .i64 D.o, .int .i64 W.b, .int .i64 W.f, .int .i64 W.r, .int .i64 W.o, .int .i64 (2 + 2 * x.n : Nat), .slice X.a X.n X.c, .slice Y.a Y.n Y.c, .int .i64 (2 + 2 * x.n + x.n : Nat)]⟩)]) ∧ (Ext u u') ∧ (NodesB u.heap.size hz u' X (Nt.csNodes x.n L i)) ∧ (MutL 1 3 u.heap.size u' Y (ics (Nt.csNext x.n i)))) (fun m S u1 u2 e h => by obtain ⟨i, hz, X, Y, hm, p0, hS, hE, f0, f1⟩ := h; exact ⟨i, hz, X, Y, hm, p0, hS, hE.trans e, f0.ext e, f1.ext e⟩) _ yz ⟨0, u.heap.size, ⟨none, 0, 0⟩, (⟨some ⟨b15, 0, none⟩, 2, 2⟩ : Sl), rfl, Nat.zero_le _, rfl, (e11.trans (g13.ext.trans e15)), NodesB.nil _ _ _, hm16⟩ ?_))))))
 rintro m17 _ u17 ⟨i, hz, X, Y, hm17, hi, rfl, e17, hN, hY⟩
 have hNl := hN.len
 rw [Nt.csNodes_len] at hNl
 have hYl := hY.1
 rw [zwk, Nt.csNext_len, Nat.mul_one] at hYl
 refine zzd (sq9 (zza 37 (zI i) (zza 38 (.v x.v) (zza 39 (zI x.n) (zza 40 (zB (decide ((i : Int) < (x.n : Int)))) (zzc 105 [(0, .v x.v), (6, .adr 6 0), (9, zI ((2 + (2 * x.n) : Nat) : Int)), (10, .adr 10 0), (11, zI i), (40, zB (decide ((i : Int) < (x.n : Int))))] [(6, ⟨49, [.int .i64 0, .int .i64 0, .int .i64 0, .int .i64 0, .int .i64 0, .int .i64 0, .int .i64 0, .int .i64 0, .int .i64 0, .slice none 0 0, .slice none 0 0, .int .i64 0]⟩), (10, ⟨49, [.int .i64 D.b, .int .i64 D.f, .int .i64 D.r, .int .i64 D.o, .int .i64 W.b, .int .i64 W.f, .int .i64 W.r, .int .i64 W.o, .int .i64 (2 + 2 * x.n : Nat), X.v, Y.v, .int .i64 (2 + 2 * x.n + x.n : Nat)]⟩)] (zzu (b := decide ((i : Int) < (x.n : Int))) xj (fun hb18 => ?_) (fun hb18 => ?_))))))))
 ·replace hb18 : (decide ((i : Int) < (x.n : Int))) = true := hb18
  have qhb18 := of_decide_eq_true hb18
  refine zzs (zzp ?_)
  refine zzd (zzt (sq9 (zza 12 (zI 0) (zzb (zzd (sq9 (zza 43 (zI i) (zza 44 (zB (decide ((0 : Int) < (i : Int)))) (zzb (zzu (b := decide ((0 : Int) < (i : Int))) xj (fun hb19 => ?_) (fun hb19 => ?_)))))))))))
  ·replace hb19 : (decide ((0 : Int) < (i : Int))) = true := hb19
   have qhb19 := of_decide_eq_true hb19
   refine zzf (zza 45 (zI ((2 + (2 * x.n) : Nat) : Int)) (zza 46 (zI i) (zyq 47 (x := zI (IntKind.i64.wrap (((2 + (2 * x.n) : Nat) : Int) + (i : Int)))) (zI (((2 + (2 * x.n)) + i : Nat) : Int)) (eqI xk) (zza 12 (zI (((2 + (2 * x.n)) + i : Nat) : Int)) (zzb (zzd ?_))))))
   have hsf := hall i xq
   have hbd := Nt.secFit_ok hsf
   have hbd0 := hbd 0 yq
   have hbd1 := hbd 1 yq
   have hbd2 := hbd 2 yq
   have hbd3 := hbd 3 yq
   have hbd4 := hbd 4 yq
   refine zzf (zza 48 (.v x.v) (zza 49 (zI i) ?_))
   have hl20 := ((hx.ext e17)).len
   obtain ⟨b20, o20, hA20, hc20⟩ := ir_at5 (hx.ext e17) (i := i) xq
   refine zya 50 (o20 + i * 5) (n := x.n) (off := o20) (sz := 5) (i := (i : Int)) xq hA20 xq xq sl82 (zym 51 [.int .i64 (gi L i 0), .int .i64 (gi L i 1), .int .i64 (gi L i 2), .int .i64 (gi L i 3), .int .i64 (gi L i 4)] hc20 ty87 (zza 52 (zI i) (zyq 53 (x := zI (IntKind.i64.wrap ((2 : Int) * (i : Int)))) (zI (2 * i : Nat)) (eqI xk) (zyq 54 (x := zI (IntKind.i64.wrap ((1 : Int) + ((2 * i : Nat) : Int)))) (zI ((1 + (2 * i) : Nat) : Int)) (eqI xk) (zza 55 (zI i) (zyq 56 (x := zI (IntKind.i64.wrap ((2 : Int) * (i : Int)))) (zI (2 * i : Nat)) (eqI xk) (zyq 57 (x := zI (IntKind.i64.wrap ((3 : Int) + ((2 * i : Nat) : Int)))) (zI ((3 + (2 * i) : Nat) : Int)) (eqI xk) (zzk 13 ⟨87, [.int .i64 0, .int .i64 0, .int .i64 0, .int .i64 0, .int .i64 0]⟩ (zzj ⟨87, [.int .i64 (gi L i 0), .int .i64 (gi L i 1), .int .i64 (gi L i 2), .int .i64 (gi L i 3), .int .i64 (gi L i 4)]⟩ ty87 ?_)))))))))
   refine zza 14 (zI ((1 + (2 * i) : Nat) : Int)) (zza 15 (zI ((3 + (2 * i) : Nat) : Int)) (zzb (sq9 (zza 58 (.adr 10 9) (zzi 59 (.v X.v) ty47 zzl (zyq 60 (x := zI (((2 + (2 * x.n)) + i : Nat) : Int)) (zI (Nt.csF0 x.n i)) (eqI (by unfold Nt.csF0; first | (rw [if_pos xq]; done) | (rw [if_neg xq]; done) | (rw [if_neg xq]; omega))) (zza 61 (.adr 13 0) (zza 62 (.adr 13 0) (zzi 63 (zI (gi L i 0)) ty3 zzl (zza 64 (.v (.agg #[.int .i64 (Nt.csF0 x.n i), .int .i64 (gi L i 0)])) (zza 65 (zI ((1 + (2 * i) : Nat) : Int)) ?_)))))))))))
   refine zza 66 (.adr 13 0) (zza 67 (.adr 13 1) (zzi 68 (zI (gi L i 1)) ty3 zzl (zza 69 (.v (.agg #[.int .i64 ((1 + (2 * i) : Nat) : Int), .int .i64 (gi L i 1)])) (zza 70 (zI ((1 + (2 * i) : Nat) : Int)) (zyq 71 (x := zI (IntKind.i64.wrap (((1 + (2 * i) : Nat) : Int) + 1))) (zI (((1 + (2 * i)) + 1 : Nat) : Int)) (eqI xk) (zza 72 (.adr 13 0) (zza 73 (.adr 13 2) (zzi 74 (zI (gi L i 2)) ty3 zzl (zza 75 (.v (.agg #[.int .i64 (((1 + (2 * i)) + 1 : Nat) : Int), .int .i64 (gi L i 2)])) (zza 76 (zI ((3 + (2 * i) : Nat) : Int)) (zza 77 (.adr 13 3) ?_)))))))))))
   refine zza 78 (.adr 13 3) (zzi 79 (zI (gi L i 3)) ty3 zzl (zyq 80 (x := zI (IntKind.i64.wrap (0 - (gi L i 3)))) (zI (-(gi L i 3))) (eqI xk) (zza 81 (.v (.agg #[.int .i64 ((3 + (2 * i) : Nat) : Int), .int .i64 (-(gi L i 3))])) (zza 82 (zI ((3 + (2 * i) : Nat) : Int)) (zyq 83 (x := zI (IntKind.i64.wrap (((3 + (2 * i) : Nat) : Int) + 1))) (zI (((3 + (2 * i)) + 1 : Nat) : Int)) (eqI xk) (zza 84 (.adr 13 3) (zza 85 (.adr 13 4) (zzi 86 (zI (gi L i 4)) ty3 zzl (zyq 87 (x := zI (IntKind.i64.wrap (0 - (gi L i 4)))) (zI (-(gi L i 4))) (eqI xk) (zza 88 (.v (.agg #[.int .i64 (((3 + (2 * i)) + 1 : Nat) : Int), .int .i64 (-(gi L i 4))])) (sy_dataF 89 ⟨78, [.int .i64 (Nt.csF0 x.n i), .int .i64 (gi L i 0), .int .i64 ((1 + (2 * i) : Nat) : Int), .int .i64 (gi L i 1), .int .i64 (((1 + (2 * i)) + 1 : Nat) : Int), .int .i64 (gi L i 2), .int .i64 ((3 + (2 * i) : Nat) : Int), .int .i64 (-(gi L i 3)), .int .i64 (((3 + (2 * i)) + 1 : Nat) : Int), .int .i64 (-(gi L i 4))]⟩ 5 (fun b21 u21 e21 h21 f21 g21 => ?_))))))))))))
   have hm22 : MutL 2 78 u.heap.size u21 (⟨some ⟨b21, 0, none⟩, 5, 5⟩ : Sl) (tcs [(⟨Nt.csF0 x.n i, gi L i 0⟩ : TL), (⟨((1 + (2 * i) : Nat) : Int), gi L i 1⟩ : TL), (⟨(((1 + (2 * i)) + 1 : Nat) : Int), gi L i 2⟩ : TL), (⟨((3 + (2 * i) : Nat) : Int), -(gi L i 3)⟩ : TL), (⟨(((3 + (2 * i)) + 1 : Nat) : Int), -(gi L i 4)⟩ : TL)]) := MutL.lit h21 rfl yv f21
   have hp23 : MutL 2 78 u.heap.size u21 (⟨some ⟨b21, 0, none⟩, 5, 5⟩ : Sl) (tcs (Nt.csNode x.n i (L.getD i []))) := by have h9 := hm22; rw [show 1 + 2 * i + 1 = 2 + 2 * i by omega] at h9; exact h9
   have hNe := NodesB.excl (hN.ext e21) (Nat.le_refl _)
   have hZo := MutL.off hp23 (Nat.le_refl _)
   refine zza 90 (.v (.agg #[.slice (some ⟨b21, 0, none⟩) 5 5])) (zxy 91 ⟨76, [.slice (some ⟨b21, 0, none⟩) 5 5]⟩ 1 (fun b24 u25 e26 h27 => ?_))
   obtain ⟨Ls28, gA28, gB28, gC28⟩ := id (hNe.ext e26)
   have hnl28 := NodesB.len (hNe.ext e26)
   refine sy_appM 92 (T := 47) (E := 76) (z := .agg #[.slice none 0 0]) (size := 1) (bytes := 24) (b2 := b24) (off := 0) (m := 1) X (Ls28.map Sl.v) [.slice (some ⟨b21, 0, none⟩) 5 5] gA28 xj xj xj yq rfl (lit_news ((Ext.refl _).cells h27)) (sl_one (⟨some ⟨b21, 0, none⟩, 5, 5⟩ : Sl)) yq yv xq (fun y28 u28 hm28 hn28 eX28 ho28 => ?_)
   have hN29 := NodesB.snoc (ts := (Nt.csNode x.n i (L.getD i []))) gA28 gB28 gC28 (hp23.ext e26) hZo eX28 hm28
   have eT30 := ExtX.t eX28 gA28
   have eT30r := ExtX.root eX28 gA28 (e17.trans (e21.trans e26))
   have hk31 := MutL.extT (hY.ext (e21.trans e26)) eT30 yq
   have hN29l := NodesB.len hN29
   simp only [List.length_append, List.length_cons, List.length_nil, Nt.ndB_len] at hN29l
   refine zza 93 (.adr 10 9) (zzj ⟨49, [.int .i64 D.b, .int .i64 D.f, .int .i64 D.r, .int .i64 D.o, .int .i64 W.b, .int .i64 W.f, .int .i64 W.r, .int .i64 W.o, .int .i64 (2 + 2 * x.n : Nat), y28.v, Y.v, .int .i64 (2 + 2 * x.n + x.n : Nat)]⟩ ty47 ?_)
   refine zzc 105 [(0, .v x.v), (6, .adr 6 0), (9, zI ((2 + (2 * x.n) : Nat) : Int)), (10, .adr 10 0), (11, zI i), (15, zI ((3 + (2 * i) : Nat) : Int))] [(6, ⟨49, [.int .i64 0, .int .i64 0, .int .i64 0, .int .i64 0, .int .i64 0, .int .i64 0, .int .i64 0, .int .i64 0, .int .i64 0, .slice none 0 0, .slice none 0 0, .int .i64 0]⟩), (10, ⟨49, [.int .i64 D.b, .int .i64 D.f, .int .i64 D.r, .int .i64 D.o, .int .i64 W.b, .int .i64 W.f, .int .i64 W.r, .int .i64 W.o, .int .i64 (2 + 2 * x.n : Nat), y28.v, Y.v, .int .i64 (2 + 2 * x.n + x.n : Nat)]⟩)] (zzf (zza 94 (.adr 10 10) (zzi 95 (.v Y.v) ty22 zzl (zza 96 (zI ((2 + (2 * x.n) : Nat) : Int)) (zyq 97 (x := zI (IntKind.i64.wrap (((2 + (2 * x.n) : Nat) : Int) + 1))) (zI (((2 + (2 * x.n)) + 1 : Nat) : Int)) (eqI xk) (zza 98 (zI i) (zyq 99 (x := zI (IntKind.i64.wrap ((((2 + (2 * x.n)) + 1 : Nat) : Int) + (i : Int)))) (zI ((((2 + (2 * x.n)) + 1) + i : Nat) : Int)) (eqI xk) (zza 100 (zI ((3 + (2 * i) : Nat) : Int)) (zxy 101 ⟨3, [.int .i64 ((((2 + (2 * x.n)) + 1) + i : Nat) : Int), .int .i64 ((3 + (2 * i) : Nat) : Int)]⟩ 2 (fun b32 u33 e34 h35 => ?_))))))))))
   refine sy_appM 102 (T := 22) (E := 3) (z := .int .i64 0) (size := 1) (bytes := 8) (b2 := b32) (off := 0) (m := 2) Y (ics (Nt.csNext x.n i)) [.int .i64 ((((2 + (2 * x.n)) + 1) + i : Nat) : Int), .int .i64 ((3 + (2 * i) : Nat) : Int)] (hk31.ext e34) xj xj xj yq rfl (lit_news ((Ext.refl _).cells h35)) (int_two _ _) yq yv xq (fun y36 u36 hm36 hn36 eX36 ho36 => ?_)
   have eT37 := ExtX.t eX36 (hk31.ext e34)
   have eT37r := ExtX.root eX36 (hk31.ext e34) (eT30r.trans e34)
   have hk38 := NodesB.extT (hN29.ext e34) eT37 yq yq
   have hN39 : MutL 1 3 u.heap.size u36 y36 (ics ((Nt.csNext x.n i) ++ [((((2 + (2 * x.n)) + 1) + i : Nat) : Int), ((3 + (2 * i) : Nat) : Int)])) := by rw [ics_app]; exact hm36
   refine zza 103 (.adr 10 10) (zzj ⟨49, [.int .i64 D.b, .int .i64 D.f, .int .i64 D.r, .int .i64 D.o, .int .i64 W.b, .int .i64 W.f, .int .i64 W.r, .int .i64 W.o, .int .i64 (2 + 2 * x.n : Nat), y28.v, y36.v, .int .i64 (2 + 2 * x.n + x.n : Nat)]⟩ ty22 ?_)
   refine zzx ?_
   refine zzp (zzf (zza 41 (zI i) (zyq 42 (x := zI (IntKind.i64.wrap ((i : Int) + 1))) (zI (i + 1 : Nat)) (eqI xk) (zza 11 (zI (i + 1 : Nat)) (zzx ?_)))))
   refine ⟨_, ?_, _, by exact zzv _ _ _, i + 1, u21.heap.size, y28, y36, rfl, by omega, rfl, eT37r, (by rw [Nt.csNodes_succ]; exact hk38), (by rw [Nt.csNext_succ, show 3 + 2 * x.n + i = 2 + 2 * x.n + 1 + i by omega]; exact hN39)⟩
   omega
  ·replace hb19 : (decide ((0 : Int) < (i : Int))) = false := hb19
   have qhb19 := of_decide_eq_false hb19
   refine zzs (zzp ?_)
   refine zzd ?_
   have hsf := hall i xq
   have hbd := Nt.secFit_ok hsf
   have hbd0 := hbd 0 yq
   have hbd1 := hbd 1 yq
   have hbd2 := hbd 2 yq
   have hbd3 := hbd 3 yq
   have hbd4 := hbd 4 yq
   refine zzf (zza 48 (.v x.v) (zza 49 (zI i) ?_))
   have hl40 := ((hx.ext e17)).len
   obtain ⟨b40, o40, hA40, hc40⟩ := ir_at5 (hx.ext e17) (i := i) xq
   refine zya 50 (o40 + i * 5) (n := x.n) (off := o40) (sz := 5) (i := (i : Int)) xq hA40 xq xq sl82 (zym 51 [.int .i64 (gi L i 0), .int .i64 (gi L i 1), .int .i64 (gi L i 2), .int .i64 (gi L i 3), .int .i64 (gi L i 4)] hc40 ty87 (zza 52 (zI i) (zyq 53 (x := zI (IntKind.i64.wrap ((2 : Int) * (i : Int)))) (zI (2 * i : Nat)) (eqI xk) (zyq 54 (x := zI (IntKind.i64.wrap ((1 : Int) + ((2 * i : Nat) : Int)))) (zI ((1 + (2 * i) : Nat) : Int)) (eqI xk) (zza 55 (zI i) (zyq 56 (x := zI (IntKind.i64.wrap ((2 : Int) * (i : Int)))) (zI (2 * i : Nat)) (eqI xk) (zyq 57 (x := zI (IntKind.i64.wrap ((3 : Int) + ((2 * i : Nat) : Int)))) (zI ((3 + (2 * i) : Nat) : Int)) (eqI xk) (zzk 13 ⟨87, [.int .i64 0, .int .i64 0, .int .i64 0, .int .i64 0, .int .i64 0]⟩ (zzj ⟨87, [.int .i64 (gi L i 0), .int .i64 (gi L i 1), .int .i64 (gi L i 2), .int .i64 (gi L i 3), .int .i64 (gi L i 4)]⟩ ty87 ?_)))))))))
   refine zza 14 (zI ((1 + (2 * i) : Nat) : Int)) (zza 15 (zI ((3 + (2 * i) : Nat) : Int)) (zzb (sq9 (zza 58 (.adr 10 9) (zzi 59 (.v X.v) ty47 zzl (zyq 60 (x := zI 0) (zI (Nt.csF0 x.n i)) (eqI (by unfold Nt.csF0; first | (rw [if_pos xq]; done) | (rw [if_neg xq]; done) | (rw [if_neg xq]; omega))) (zza 61 (.adr 13 0) (zza 62 (.adr 13 0) (zzi 63 (zI (gi L i 0)) ty3 zzl (zza 64 (.v (.agg #[.int .i64 (Nt.csF0 x.n i), .int .i64 (gi L i 0)])) (zza 65 (zI ((1 + (2 * i) : Nat) : Int)) ?_)))))))))))
   refine zza 66 (.adr 13 0) (zza 67 (.adr 13 1) (zzi 68 (zI (gi L i 1)) ty3 zzl (zza 69 (.v (.agg #[.int .i64 ((1 + (2 * i) : Nat) : Int), .int .i64 (gi L i 1)])) (zza 70 (zI ((1 + (2 * i) : Nat) : Int)) (zyq 71 (x := zI (IntKind.i64.wrap (((1 + (2 * i) : Nat) : Int) + 1))) (zI (((1 + (2 * i)) + 1 : Nat) : Int)) (eqI xk) (zza 72 (.adr 13 0) (zza 73 (.adr 13 2) (zzi 74 (zI (gi L i 2)) ty3 zzl (zza 75 (.v (.agg #[.int .i64 (((1 + (2 * i)) + 1 : Nat) : Int), .int .i64 (gi L i 2)])) (zza 76 (zI ((3 + (2 * i) : Nat) : Int)) (zza 77 (.adr 13 3) ?_)))))))))))
   refine zza 78 (.adr 13 3) (zzi 79 (zI (gi L i 3)) ty3 zzl (zyq 80 (x := zI (IntKind.i64.wrap (0 - (gi L i 3)))) (zI (-(gi L i 3))) (eqI xk) (zza 81 (.v (.agg #[.int .i64 ((3 + (2 * i) : Nat) : Int), .int .i64 (-(gi L i 3))])) (zza 82 (zI ((3 + (2 * i) : Nat) : Int)) (zyq 83 (x := zI (IntKind.i64.wrap (((3 + (2 * i) : Nat) : Int) + 1))) (zI (((3 + (2 * i)) + 1 : Nat) : Int)) (eqI xk) (zza 84 (.adr 13 3) (zza 85 (.adr 13 4) (zzi 86 (zI (gi L i 4)) ty3 zzl (zyq 87 (x := zI (IntKind.i64.wrap (0 - (gi L i 4)))) (zI (-(gi L i 4))) (eqI xk) (zza 88 (.v (.agg #[.int .i64 (((3 + (2 * i)) + 1 : Nat) : Int), .int .i64 (-(gi L i 4))])) (sy_dataF 89 ⟨78, [.int .i64 (Nt.csF0 x.n i), .int .i64 (gi L i 0), .int .i64 ((1 + (2 * i) : Nat) : Int), .int .i64 (gi L i 1), .int .i64 (((1 + (2 * i)) + 1 : Nat) : Int), .int .i64 (gi L i 2), .int .i64 ((3 + (2 * i) : Nat) : Int), .int .i64 (-(gi L i 3)), .int .i64 (((3 + (2 * i)) + 1 : Nat) : Int), .int .i64 (-(gi L i 4))]⟩ 5 (fun b41 u41 e41 h41 f41 g41 => ?_))))))))))))
   have hm42 : MutL 2 78 u.heap.size u41 (⟨some ⟨b41, 0, none⟩, 5, 5⟩ : Sl) (tcs [(⟨Nt.csF0 x.n i, gi L i 0⟩ : TL), (⟨((1 + (2 * i) : Nat) : Int), gi L i 1⟩ : TL), (⟨(((1 + (2 * i)) + 1 : Nat) : Int), gi L i 2⟩ : TL), (⟨((3 + (2 * i) : Nat) : Int), -(gi L i 3)⟩ : TL), (⟨(((3 + (2 * i)) + 1 : Nat) : Int), -(gi L i 4)⟩ : TL)]) := MutL.lit h41 rfl yv f41
   have hp43 : MutL 2 78 u.heap.size u41 (⟨some ⟨b41, 0, none⟩, 5, 5⟩ : Sl) (tcs (Nt.csNode x.n i (L.getD i []))) := by have h9 := hm42; rw [show 1 + 2 * i + 1 = 2 + 2 * i by omega] at h9; exact h9
   have hNe := NodesB.excl (hN.ext e41) (Nat.le_refl _)
   have hZo := MutL.off hp43 (Nat.le_refl _)
   refine zza 90 (.v (.agg #[.slice (some ⟨b41, 0, none⟩) 5 5])) (zxy 91 ⟨76, [.slice (some ⟨b41, 0, none⟩) 5 5]⟩ 1 (fun b44 u45 e46 h47 => ?_))
   obtain ⟨Ls48, gA48, gB48, gC48⟩ := id (hNe.ext e46)
   have hnl48 := NodesB.len (hNe.ext e46)
   refine sy_appM 92 (T := 47) (E := 76) (z := .agg #[.slice none 0 0]) (size := 1) (bytes := 24) (b2 := b44) (off := 0) (m := 1) X (Ls48.map Sl.v) [.slice (some ⟨b41, 0, none⟩) 5 5] gA48 xj xj xj yq rfl (lit_news ((Ext.refl _).cells h47)) (sl_one (⟨some ⟨b41, 0, none⟩, 5, 5⟩ : Sl)) yq yv xq (fun y48 u48 hm48 hn48 eX48 ho48 => ?_)
   have hN49 := NodesB.snoc (ts := (Nt.csNode x.n i (L.getD i []))) gA48 gB48 gC48 (hp43.ext e46) hZo eX48 hm48
   have eT50 := ExtX.t eX48 gA48
   have eT50r := ExtX.root eX48 gA48 (e17.trans (e41.trans e46))
   have hk51 := MutL.extT (hY.ext (e41.trans e46)) eT50 yq
   have hN49l := NodesB.len hN49
   simp only [List.length_append, List.length_cons, List.length_nil, Nt.ndB_len] at hN49l
   refine zza 93 (.adr 10 9) (zzj ⟨49, [.int .i64 D.b, .int .i64 D.f, .int .i64 D.r, .int .i64 D.o, .int .i64 W.b, .int .i64 W.f, .int .i64 W.r, .int .i64 W.o, .int .i64 (2 + 2 * x.n : Nat), y48.v, Y.v, .int .i64 (2 + 2 * x.n + x.n : Nat)]⟩ ty47 ?_)
   refine zzc 105 [(0, .v x.v), (6, .adr 6 0), (9, zI ((2 + (2 * x.n) : Nat) : Int)), (10, .adr 10 0), (11, zI i), (15, zI ((3 + (2 * i) : Nat) : Int))] [(6, ⟨49, [.int .i64 0, .int .i64 0, .int .i64 0, .int .i64 0, .int .i64 0, .int .i64 0, .int .i64 0, .int .i64 0, .int .i64 0, .slice none 0 0, .slice none 0 0, .int .i64 0]⟩), (10, ⟨49, [.int .i64 D.b, .int .i64 D.f, .int .i64 D.r, .int .i64 D.o, .int .i64 W.b, .int .i64 W.f, .int .i64 W.r, .int .i64 W.o, .int .i64 (2 + 2 * x.n : Nat), y48.v, Y.v, .int .i64 (2 + 2 * x.n + x.n : Nat)]⟩)] (zzf (zza 94 (.adr 10 10) (zzi 95 (.v Y.v) ty22 zzl (zza 96 (zI ((2 + (2 * x.n) : Nat) : Int)) (zyq 97 (x := zI (IntKind.i64.wrap (((2 + (2 * x.n) : Nat) : Int) + 1))) (zI (((2 + (2 * x.n)) + 1 : Nat) : Int)) (eqI xk) (zza 98 (zI i) (zyq 99 (x := zI (IntKind.i64.wrap ((((2 + (2 * x.n)) + 1 : Nat) : Int) + (i : Int)))) (zI ((((2 + (2 * x.n)) + 1) + i : Nat) : Int)) (eqI xk) (zza 100 (zI ((3 + (2 * i) : Nat) : Int)) (zxy 101 ⟨3, [.int .i64 ((((2 + (2 * x.n)) + 1) + i : Nat) : Int), .int .i64 ((3 + (2 * i) : Nat) : Int)]⟩ 2 (fun b52 u53 e54 h55 => ?_))))))))))
   refine sy_appM 102 (T := 22) (E := 3) (z := .int .i64 0) (size := 1) (bytes := 8) (b2 := b52) (off := 0) (m := 2) Y (ics (Nt.csNext x.n i)) [.int .i64 ((((2 + (2 * x.n)) + 1) + i : Nat) : Int), .int .i64 ((3 + (2 * i) : Nat) : Int)] (hk51.ext e54) xj xj xj yq rfl (lit_news ((Ext.refl _).cells h55)) (int_two _ _) yq yv xq (fun y56 u56 hm56 hn56 eX56 ho56 => ?_)
   have eT57 := ExtX.t eX56 (hk51.ext e54)
   have eT57r := ExtX.root eX56 (hk51.ext e54) (eT50r.trans e54)
   have hk58 := NodesB.extT (hN49.ext e54) eT57 yq yq
   have hN59 : MutL 1 3 u.heap.size u56 y56 (ics ((Nt.csNext x.n i) ++ [((((2 + (2 * x.n)) + 1) + i : Nat) : Int), ((3 + (2 * i) : Nat) : Int)])) := by rw [ics_app]; exact hm56
   refine zza 103 (.adr 10 10) (zzj ⟨49, [.int .i64 D.b, .int .i64 D.f, .int .i64 D.r, .int .i64 D.o, .int .i64 W.b, .int .i64 W.f, .int .i64 W.r, .int .i64 W.o, .int .i64 (2 + 2 * x.n : Nat), y48.v, y56.v, .int .i64 (2 + 2 * x.n + x.n : Nat)]⟩ ty22 ?_)
   refine zzx ?_
   refine zzp (zzf (zza 41 (zI i) (zyq 42 (x := zI (IntKind.i64.wrap ((i : Int) + 1))) (zI (i + 1 : Nat)) (eqI xk) (zza 11 (zI (i + 1 : Nat)) (zzx ?_)))))
   refine ⟨_, ?_, _, by exact zzv _ _ _, i + 1, u41.heap.size, y48, y56, rfl, by omega, rfl, eT57r, (by rw [Nt.csNodes_succ]; exact hk58), (by rw [Nt.csNext_succ, show 3 + 2 * x.n + i = 2 + 2 * x.n + 1 + i by omega]; exact hN59)⟩
   omega
 ·replace hb18 : (decide ((i : Int) < (x.n : Int))) = false := hb18
  have qhb18 := of_decide_eq_false hb18
  refine zyc (zzp (sq9 (zzi 104 (.v (.agg #[.int .i64 D.b, .int .i64 D.f, .int .i64 D.r, .int .i64 D.o, .int .i64 W.b, .int .i64 W.f, .int .i64 W.r, .int .i64 W.o, .int .i64 (2 + 2 * x.n : Nat), X.v, Y.v, .int .i64 (2 + 2 * x.n + x.n : Nat)])) ty49 zze (zzj ⟨49, [.int .i64 D.b, .int .i64 D.f, .int .i64 D.r, .int .i64 D.o, .int .i64 W.b, .int .i64 W.f, .int .i64 W.r, .int .i64 W.o, .int .i64 (2 + 2 * x.n : Nat), X.v, Y.v, .int .i64 (2 + 2 * x.n + x.n : Nat)]⟩ ty49 ?_))))
  refine zza 7 (zI 0) (zzb (zzo (ret0 [.agg #[.int .i64 D.b, .int .i64 D.f, .int .i64 D.r, .int .i64 D.o, .int .i64 W.b, .int .i64 W.f, .int .i64 W.r, .int .i64 W.o, .int .i64 (2 + 2 * x.n : Nat), .slice X.a X.n X.c, .slice Y.a Y.n Y.c, .int .i64 (2 + 2 * x.n + x.n : Nat)], .int .i64 0] ⟨zzr ty49 zze, zzq, trivial⟩ fun u60 e61 => ?_)))
  have hi9 : i = L.length := by omega
  refine ⟨X, Y, ?_, ⟨hz, ?_⟩, ?_⟩
  ·rw [← hlx]; rfl
  ·have h9 := NodesB.low (hN.ext e61) (Nat.zero_le _)
   rw [hi9, hlx] at h9; exact h9
  ·have h9 := MutL.low (hY.ext e61) (Nat.zero_le _)
   rw [hi9, hlx] at h9; exact h9
theorem opp_nil {l : List Int} : ∀ j, j < 0 → ([] : List Int).getD j 0 = -l.getD j 0 := fun j hj => absurd hj (Nat.not_lt_zero j)
theorem opp_snoc {l L : List Int} {i : Nat} {a : Int} (h : ∀ j, j < i → L.getD j 0 = -l.getD j 0) (hl : L.length = i) (ha : a = -l.getD i 0) : ∀ j, j < i + 1 → (L ++ [a]).getD j 0 = -l.getD j 0 := fun j hj => by
 by_cases e : j = i
 ·rw [e, getD_snoc, if_neg xq, hl, if_pos rfl]; exact ha
 ·rw [getD_snoc, if_pos xq]; exact h j xq
theorem bd_at24 {l : List Int} (h : ∀ z ∈ l, -16777216 ≤ z ∧ z ≤ 16777216) (i : Nat) : -16777216 ≤ l.getD i 0 ∧ l.getD i 0 ≤ 16777216 := ints_bd h ⟨by decide, by decide⟩ i
theorem bd_24 {l : List Int} (h : ∀ z ∈ l, -16777216 ≤ z ∧ z ≤ 16777216) : ∀ z ∈ l, -9223372036854775808 ≤ z ∧ z ≤ 9223372036854775807 := fun z hz => by have := h z hz; omega
set_option maxHeartbeats 1000000 in
theorem k_opposite {u w : World} {x : Sl} {l : List Int} (d : Dat u w) (hx : SlR .i64 u x.a x.n x.c l) (hb : ∀ z ∈ l, -16777216 ≤ z ∧ z ≤ 16777216) (hl : l.length ≤ 100) (hl0 : 0 < l.length) : Calls Tryz.prog 194 #[x.v] w (Post u w fun v u' => ∃ (y : Sl) (m : List Int), v = y.v ∧ SlR .i64 u' y.a y.n y.c m ∧ m.length = l.length ∧ ∀ j, j < l.length → m.getD j 0 = -l.getD j 0) := by
 have hlx : l.length = x.n := hx.1
 refine zzm (args := [.slice x.a x.n x.c]) Tryz.func194 rfl Tryz.ntmps194 (rs := [.tmp 2]) Tryz.results194 (le_b rfl) (le_b rfl) d ?_
 refine sq9 (zza 2 (.v (.slice none 0 0)) (zzb (sq9 (zza 3 (.v (.slice none 0 0)) (zzb (zzd (sq9 (zza 4 (zI 0) (zzb (zzt (zyn (I := fun m11 S' u' => (m11 = x.n ∧ S' = St.of 20 [(0, .v (.slice x.a x.n x.c)), (3, .v (.slice none 0 0)), (4, zI 0)] [] ∧ Ext u u') ∨ (∃ (i : Nat) (L : List Int) (cs : List Value) (cp : Nat), m11 = x.n - i ∧ i ≤ x.n ∧ 0 < i ∧ L.length = i ∧ cs.length = cp * 1 ∧ i ≤ cp ∧ cp ≤ maxLen ∧ cs.take (i * 1) = L.map (Value.int .i64) ∧ S' = St.of 20 [(0, .v (.slice x.a x.n x.c)), (3, .slc 18 0 i cp), (4, zI i)] [(18, ⟨3, cs⟩)] ∧ Ext u u' ∧ (∀ j, j < i → (L).getD j 0 = -l.getD j 0))) (fun m S u1 u2 e h => by rcases h with ⟨a, b, c⟩ | ⟨a1, a2, a3, a4, b1, b2, b3, b4, b5, b6, b7, b8, b9, b10, b11⟩; exact .inl ⟨a, b, c.trans e⟩; exact .inr ⟨a1, a2, a3, a4, b1, b2, b3, b4, b5, b6, b7, b8, b9, b10.trans e, b11⟩) _ yz (.inl ⟨rfl, rfl, Ext.refl _⟩) ?_)))))))))))
 rintro m11 _ u11 (⟨hm11, rfl, e11⟩ | ⟨i, L, cs, cp, hm11, hi, hp, hL, hc, hle, hmx, ht, rfl, e11, hP⟩)
 ·change SW _ _ _ _ (St.of 20 [(0, .v (.slice x.a x.n x.c)), (3, .v (.slice none 0 0)), (4, .v (.int .i64 0))] []) _ _
  refine zzd (sq9 (zza 5 (zI 0) (zza 6 (.v x.v) (zza 7 (zI x.n) (zza 8 (zB (decide ((0 : Int) < (x.n : Int)))) (zzb (zzu (b := decide ((0 : Int) < (x.n : Int))) xj (fun hb12 => ?_) (fun hb12 => ?_))))))))
  ·replace hb12 : (decide ((0 : Int) < (x.n : Int))) = true := hb12
   have qhb12 := of_decide_eq_true hb12
   refine zzs (zzp ?_)
   refine zzd (zzt ?_)
   have hbi := bd_at24 hb 0
   refine zzf (zza 11 (.v (.slice none 0 0)) (zza 12 (.v x.v) (zza 13 (zI 0) ?_)))
   have hl13 := ((hx.ext e11)).1
   obtain ⟨b13, o13, hA13, hc13⟩ := ints_at (hx.ext e11) (i := 0) xq
   have hz13 := ints_bd (bd_24 hb) xq 0
   refine zya 14 (o13 + 0 * 1) (n := x.n) (off := o13) (sz := 1) (i := 0) xq hA13 xq xq sl22 (zyl 15 (.int .i64 (l.getD 0 0)) hc13 ty3 (zyq 16 (x := zI (IntKind.i64.wrap (0 - (l.getD 0 0)))) (zI (-(l.getD 0 0))) (eqI xk) (zxy 17 ⟨3, [.int .i64 (-(l.getD 0 0))]⟩ 1 (fun b14 u15 e16 h17 => ?_))))
   refine sy_app0 18 (T := 22) (E := 3) (z := .int .i64 0) (size := 1) (bytes := 8) (b := b14) (off := 0) (m := 1) [.int .i64 (-(l.getD 0 0))] xj xj xj yq rfl (lit_news ((Ext.refl _).cells h17)) (int_one _) yq yq yq ?_
   intro c18 cs18 ha18 hb18 hc18 hd18
   have hd18r : cs18.take (1 * 1) = ([-(l.getD 0 0)]).map (Value.int .i64) := hd18
   refine zza 3 (.slc 18 0 1 c18) (zzx ?_)
   refine zzp (zzf (zza 9 (zI 0) (zza 10 (zI 1) (zza 4 (zI 1) (zzx ?_)))))
   refine ⟨_, ?_, _, by exact zzv _ _ _, .inr ⟨1, [-(l.getD 0 0)], cs18, c18, rfl, by omega, by omega, by simp, hc18, by omega, hb18, hd18r, rfl, (e11.trans e16), (opp_snoc (l := l) (L := []) (i := 0) opp_nil rfl (by rfl))⟩⟩
   omega
  ·replace hb12 : (decide ((0 : Int) < (x.n : Int))) = false := hb12
   have qhb12 := of_decide_eq_false hb12
   refine zyc (zzp (zzd ?_))
   have hp19 : SlR .i64 u11 none 0 0 [] := ints_nil
   refine zzf (zza 19 (.v (.slice none 0 0)) (zza 2 (.v (.slice none 0 0)) (zzb (zzo (ret0 [.slice none 0 0] ⟨zzq, trivial⟩ fun u20 e21 => ?_)))))
   exact ⟨⟨none, 0, 0⟩, [], rfl, (hp19.ext e21), by first|omega|(simp;omega), by rw [show l.length = 0 by omega]; exact opp_nil⟩
 ·change SW _ _ _ _ (St.of 20 [(0, .v (.slice x.a x.n x.c)), (3, .slc 18 0 i cp), (4, .v (.int .i64 (i : Int)))] [(18, ⟨3, cs⟩)]) _ _
  refine zzd (sq9 (zza 5 (zI i) (zza 6 (.v x.v) (zza 7 (zI x.n) (zza 8 (zB (decide ((i : Int) < (x.n : Int)))) (zzb (zzu (b := decide ((i : Int) < (x.n : Int))) xj (fun hb22 => ?_) (fun hb22 => ?_))))))))
  ·replace hb22 : (decide ((i : Int) < (x.n : Int))) = true := hb22
   have qhb22 := of_decide_eq_true hb22
   refine zzs (zzp ?_)
   refine zzd (zzt ?_)
   have hbi := bd_at24 hb i
   refine zzf (zza 11 (.slc 18 0 i cp) (zza 12 (.v x.v) (zza 13 (zI i) ?_)))
   have hl23 := ((hx.ext e11)).1
   obtain ⟨b23, o23, hA23, hc23⟩ := ints_at (hx.ext e11) (i := i) xq
   have hz23 := ints_bd (bd_24 hb) xq i
   refine zya 14 (o23 + i * 1) (n := x.n) (off := o23) (sz := 1) (i := (i : Int)) xq hA23 xq xq sl22 (zyl 15 (.int .i64 (l.getD i 0)) hc23 ty3 (zyq 16 (x := zI (IntKind.i64.wrap (0 - (l.getD i 0)))) (zI (-(l.getD i 0))) (eqI xk) (zxy 17 ⟨3, [.int .i64 (-(l.getD i 0))]⟩ 1 (fun b24 u25 e26 h27 => ?_))))
   refine sy_app1 18 (T := 22) (E := 3) (z := .int .i64 0) (size := 1) (bytes := 8) (b := b24) (off := 0) (m := 1) (n := i) (cap := cp) (t := 18) (cs0 := cs) [3, 11, 18] [.int .i64 (-(l.getD i 0))] xj xj xj yq rfl (lit_news ((Ext.refl _).cells h27)) (int_one _) yq yv xq xq xq xq xw ?_
   intro c28 cs28 ha28 hb28 hc28 hd28
   have hd28r : cs28.take ((i + 1) * 1) = (L ++ [-(l.getD i 0)]).map (Value.int .i64) := by rw [hd28, ht, List.map_append]; rfl
   refine zza 3 (.slc 18 0 (i + 1) c28) (zzx ?_)
   refine zzp (zzf (zza 9 (zI i) (zyq 10 (x := zI (IntKind.i64.wrap ((i : Int) + 1))) (zI (i + 1 : Nat)) (eqI xk) (zza 4 (zI (i + 1 : Nat)) (zzx ?_)))))
   refine ⟨_, ?_, _, by exact zzv _ _ _, .inr ⟨i + 1, L ++ [-(l.getD i 0)], cs28, c28, rfl, by omega, by omega, by simp; omega, hc28, by omega, hb28, hd28r, rfl, (e11.trans e26), (opp_snoc (l := l) (L := L) (i := i) hP hL (by rfl))⟩⟩
   omega
  ·replace hb22 : (decide ((i : Int) < (x.n : Int))) = false := hb22
   have qhb22 := of_decide_eq_false hb22
   refine zyc (zzp (zzd (zyp (r := 3) (t := 18) [3, 18] xw xj (by rfl) (by rfl) xj (fun b30 u31 e32 hb33 hh34 => ?_))))
   have hp29 : SlR .i64 u31 (some ⟨b30, 0, none⟩) i cp L := ints_data hh34 (by have h9 := ht; rw [Nat.mul_one] at h9; exact h9) (by have h9 := hc; rw [Nat.mul_one] at h9; exact h9) hle hmx
   refine zzf (zza 19 (.v (.slice (some ⟨b30, 0, none⟩) i cp)) (zza 2 (.v (.slice (some ⟨b30, 0, none⟩) i cp)) (zzb (zzo (ret0 [.slice (some ⟨b30, 0, none⟩) i cp] ⟨zzq, trivial⟩ fun u35 e36 => ?_)))))
   exact ⟨(⟨some ⟨b30, 0, none⟩, i, cp⟩ : Sl), L, rfl, (hp29.ext e36), by first|omega|(simp;omega), by rw [show l.length = i by omega]; exact hP⟩
theorem opp_bd {l m : List Int} (h : m.length = l.length) (hv : ∀ j, j < l.length → m.getD j 0 = -l.getD j 0) (hb : ∀ z ∈ l, -16777216 ≤ z ∧ z ≤ 16777216) : ∀ z ∈ m, -9223372036854775808 ≤ z ∧ z ≤ 9223372036854775807 := fun z hz => by
 obtain ⟨j, hj, rfl⟩ := Nt.mem_getD hz
 have h1 := bd_at24 hb j
 rw [hv j xq]
 omega
theorem opp_fits {W : WL} {l m : List Int} (h : m.length = l.length) (hv : ∀ j, j < l.length → m.getD j 0 = -l.getD j 0) (hf : ∀ j, j < l.length → Nt.fitB W (-l.getD j 0) = true) : Nt.fitsB W m = true := decide_eq_true (fun j hj => by rw [hv j xq]; exact hf j xq)
set_option maxHeartbeats 1000000 in
theorem k_check23 {u w : World} {x y : Sl} {b a : List Int} {W : WL} (d : Dat u w) (hW : WdOK W) (hx : SlR .i64 u x.a x.n x.c b) (hbb : ∀ z ∈ b, -16777216 ≤ z ∧ z ≤ 16777216) (hy : SlR .i64 u y.a y.n y.c a) (hab : ∀ z ∈ a, -16777216 ≤ z ∧ z ≤ 16777216) (hlb : 1 ≤ b.length ∧ b.length ≤ 49) (hla : 0 < a.length ∧ a.length ≤ 8) (f1 : Nt.fitsB W b = true) (f2 : Nt.fitsB W a = true) (f3 : ∀ j, j < a.length → Nt.fitB W (-a.getD j 0) = true) : Calls Tryz.prog 167 #[x.v, y.v, W.v, W.v] w (Post u w fun v u' => v = .int .i64 0) := by
 have hlx : b.length = x.n := hx.1
 have hly : a.length = y.n := hy.1
 refine zzm (args := [.slice x.a x.n x.c, .slice y.a y.n y.c, .agg #[.int .i64 W.b, .int .i64 W.f, .int .i64 W.r, .int .i64 W.o], .agg #[.int .i64 W.b, .int .i64 W.f, .int .i64 W.r, .int .i64 W.o]]) Tryz.func167 rfl Tryz.ntmps167 (rs := [.tmp 8]) Tryz.results167 (le_b rfl) (le_b rfl) d ?_
 refine sq9 (zzk 6 ⟨24, W.cs⟩ (zzk 7 ⟨24, W.cs⟩ (zza 8 (zI 0) (zzb (zzd (zzt (sq9 (zzi 10 (.v (W.v)) ty24 zze (zzg 11 68 [W.v] ?_)))))))))
 intro w11 u11 e11 d11
 have k14 := k_r21ValidG (W := W) d11
 with_reducible refine zPm k14 ?_
 rintro _ u12 g13 rfl
 refine zza 12 (zB (!(decide (WdOK W)))) (zyq 13 (x := zB (!(decide (WdOK W)))) (zB false) (by rw [show (!(decide (WdOK W))) = false from (by simp [hW])]) (zzi 14 (.v (W.v)) ty24 zze ?_ (hw := w1 3 false 13)))
 refine zzg 15 68 [W.v] ?_ (hw := w1 3 false 13)
 intro w16 u16 e16 d16
 have k19 := k_r21ValidG (W := W) d16
 with_reducible refine zPm k19 ?_
 rintro _ u17 g18 rfl
 refine zza 16 (zB (!(decide (WdOK W)))) ?_ (hw := w1 3 false 13)
 refine zza 17 (zB (!(decide (WdOK W)))) (zza 9 (zB (!(decide (WdOK W)))) (zzb (zzu (b := !(decide (WdOK W))) xj (fun hb => ?_) (fun hb => ?_))))
 ·exact absurd hb (by rw [show (!(decide (WdOK W))) = false from (by simp [hW])]; decide)
 ·clear hb
  refine sq9 (zza 19 (.v x.v) (zza 20 (zI x.n) (zzg 21 118 [.int .i64 x.n, .int .i64 1, .int .i64 49] ?_)))
  intro w20 u20 e20 d20
  have k23 := k_in d20 (z := (x.n : Int)) (a := 1) (b := 49)
  with_reducible refine zPm k23 ?_
  rintro _ u21 g22 rfl
  refine zza 22 (zB (!(decide ((1 : Int) ≤ (x.n : Int)) && decide ((x.n : Int) ≤ 49)))) (zyq 23 (x := zB (!(decide ((1 : Int) ≤ (x.n : Int)) && decide ((x.n : Int) ≤ 49)))) (zB false) (by rw [show (!(decide ((1 : Int) ≤ (x.n : Int)) && decide ((x.n : Int) ≤ 49))) = false from yw]) (zza 24 (.v y.v) ?_ (hw := w1 4 false 23)))
  refine zza 25 (zI y.n) ?_ (hw := w1 4 false 23)
  refine zza 26 (zB (decide ((8 : Int) < (y.n : Int)))) ?_ (hw := w1 4 false 23)
  refine zza 27 (zB (decide ((8 : Int) < (y.n : Int)))) (zza 18 (zB (decide ((8 : Int) < (y.n : Int)))) (zzb (zzu (b := decide ((8 : Int) < (y.n : Int))) xj (fun hb => ?_) (fun hb => ?_))))
  ·exact absurd hb (by rw [show (decide ((8 : Int) < (y.n : Int))) = false from decide_eq_false xq]; decide)
  ·clear hb
   refine zzd (zzz [0, 0, 3, 7, 15, 31, 31, 127, 255, 511, 1023, 2047, 2047, 6143, 16383, 32767, 65535, 131071] [(0, []), (1, []), (2, []), (3, []), (4, []), (5, []), (6, []), (7, []), (8, []), (9, []), (10, []), (11, []), (12, []), (13, []), (14, []), (15, []), (16, []), (17, [])] xj xj (zzi 29 (.v (W.v)) ty24 zze (zza 30 (.v x.v) (zzg 31 154 [W.v, x.v] ?_))))
   intro w25 u25 e25 d25
   have k28 := k_words21 (y := x) (W := W) d25 hW (hx.ext (e11.trans (g13.ext.trans (e16.trans (g18.ext.trans (e20.trans (g22.ext.trans e25))))))) (bd_24 hbb) xq
   with_reducible refine zPm k28 ?_
   rintro _ u26 g27 rfl
   refine zza 32 (zB (!(Nt.fitsB W b))) (zyq 33 (x := zB (!(Nt.fitsB W b))) (zB false) (by rw [show (!(Nt.fitsB W b)) = false from (by rw [show Nt.fitsB W b = true from f1]; rfl)]) (zzi 34 (.v (W.v)) ty24 zze ?_ (hw := w1 4 false 33)))
   refine zza 35 (.v y.v) ?_ (hw := w1 4 false 33)
   refine zzg 36 154 [W.v, y.v] ?_ (hw := w1 4 false 33)
   intro w30 u30 e30 d30
   have k33 := k_words21 (y := y) (W := W) d30 hW (hy.ext (e11.trans (g13.ext.trans (e16.trans (g18.ext.trans (e20.trans (g22.ext.trans (e25.trans (g27.ext.trans e30))))))))) (bd_24 hab) xq
   with_reducible refine zPm k33 ?_
   rintro _ u31 g32 rfl
   refine zza 37 (zB (!(Nt.fitsB W a))) ?_ (hw := w1 4 false 33)
   refine zza 38 (zB (!(Nt.fitsB W a))) (zyq 39 (x := zB (!(Nt.fitsB W a))) (zB false) (by rw [show (!(Nt.fitsB W a)) = false from (by rw [show Nt.fitsB W a = true from f2]; rfl)]) (zzi 40 (.v (W.v)) ty24 zze ?_ (hw := w1 10 false 39)))
   refine zza 41 (.v y.v) ?_ (hw := w1 10 false 39)
   refine zzg 42 194 [y.v] ?_ (hw := w1 10 false 39)
   intro w35 u35 e35 d35
   have k39 := k_opposite (x := y) d35 (hy.ext (e11.trans (g13.ext.trans (e16.trans (g18.ext.trans (e20.trans (g22.ext.trans (e25.trans (g27.ext.trans (e30.trans (g32.ext.trans e35))))))))))) hab xq xq
   with_reducible refine zPm k39 ?_
   rintro _ u37 g38 ⟨y36, m36, rfl, hs36, hl36, hv36⟩
   refine zzg 43 154 [W.v, y36.v] ?_ (hw := w1 10 false 39)
   intro w40 u40 e40 d40
   have k43 := k_words21 (y := y36) (W := W) d40 hW (hs36.ext e40) (opp_bd hl36 hv36 hab) xq
   with_reducible refine zPm k43 ?_
   rintro _ u41 g42 rfl
   refine zza 44 (zB (!(Nt.fitsB W m36))) ?_ (hw := w1 10 false 39)
   refine zza 45 (zB (!(Nt.fitsB W m36))) (zza 28 (zB (!(Nt.fitsB W m36))) (zzc 46 [(28, zB (!(Nt.fitsB W m36)))] [] (zzu (b := !(Nt.fitsB W m36)) xj (fun hb => ?_) (fun hb => ?_))))
   ·exact absurd hb (by rw [show (!(Nt.fitsB W m36)) = false from (by rw [show Nt.fitsB W m36 = true from (opp_fits hl36 hv36 f3)]; rfl)]; decide)
   ·clear hb
    refine zzs (zzp ?_)
    refine sq9 (zza 8 (zI 0) (zzb (zzo (ret0 [.int .i64 0] ⟨zzq, trivial⟩ fun u44 e45 => ?_))))
    rfl
set_option maxHeartbeats 2000000 in
theorem k_num3 {u w : World} {x : Sl} {l : List Int} {W : WL} (d : Dat u w) (hW : WdOK W) (hx : SlR .i64 u x.a 3 x.c l) (hb : ∀ z ∈ l, -16777216 ≤ z ∧ z ≤ 16777216) : Calls Tryz.prog 168 #[.slice none 0 0, .slice x.a 3 x.c, W.v] w (Post u w fun v u' => ∃ y : Sl, v = y.v ∧ PolN u' y (Nt.trimQ [Nt.wq (l.getD 0 0) W.f, Nt.wq (l.getD 1 0) W.f, Nt.wq (l.getD 2 0) W.f]) 3) := by
 have hlx : l.length = 3 := hx.1
 obtain ⟨hw1, hw2, hw3, hw4, hw5, hw6, hw7, hw8⟩ := id hW
 have hpf := Nt.p2i_24 (n := W.f) xq
 have hpp := Nt.zxp W.f
 refine zzm (args := [.slice none 0 0, .slice x.a 3 x.c, .agg #[.int .i64 W.b, .int .i64 W.f, .int .i64 W.r, .int .i64 W.o]]) Tryz.func168 rfl Tryz.ntmps168 (rs := [.tmp 6]) Tryz.results168 (le_b rfl) (le_b rfl) d ?_
 refine sq9 (zzk 5 ⟨24, W.cs⟩ (zza 6 (.v (.slice none 0 0)) (zzb (sq9 (zza 9 (.v (.slice none 0 0)) (zza 7 (.v (.slice none 0 0)) (zzb (zzd (sq9 (zza 8 (zI 0) (zzb ?_)))))))))))
 refine zzt (sw_rounds 3 ?_)
 refine zzd (sq9 (zza 10 (zI 0) (zza 11 (.v (.slice x.a 3 x.c)) (zza 12 (zI 3) (zza 13 (zB true) (zzb (zyr xj (zzs (zzp ?_)))))))))
 refine zzd (zzt ?_)
 have hbi11 := bd_at24 hb 0
 refine zzz [0, 0, 0, 6, 14, 0, 32, 96, 224, 510, 1022, 2047, 4095] [(0, []), (1, []), (2, []), (3, []), (4, []), (5, []), (6, []), (7, []), (8, []), (9, []), (10, []), (11, []), (12, [])] xj xj (zza 16 (.v (.slice none 0 0)) (zza 17 (.v (.slice x.a 3 x.c)) (zza 18 (zI 0) ?_)))
 have hl12 := (hx).1
 change _ = 3 at hl12
 obtain ⟨b12, o12, hA12, hc12⟩ := ints_at hx (i := 0) xq
 have hz12 := ints_bd (bd_24 hb) xq 0
 refine zya 19 (o12 + 0 * 1) (n := 3) (off := o12) (sz := 1) (i := 0) xq hA12 xq xq sl22 (zyl 20 (.int .i64 (l.getD 0 0)) hc12 ty3 (zza 21 (.adr 5 1) (zzi 22 (zI W.f) ty3 zzl (sy_conv 23 (W.f) (fun w => by kernel_rfl) (IntWalk.u64_in _ xq) ?_))))
 refine sy_shl 24 (k := .i64) (s := W.f) (Nt.p2i W.f) xq zq (shl_one xq xq) ?_
 refine zzg 25 72 [.int .i64 (l.getD 0 0), .int .i64 (Nt.p2i W.f)] ?_
 intro w13 u13 e13 d13
 have k18 := k_rqFrac d13 (a := (l.getD 0 0)) (b := Nt.p2i W.f) xq xq xq xq
 with_reducible refine zPm k18 ?_
 rintro _ u16 g17 ⟨r14, rfl, h15⟩
 refine sy_lit 26 ⟨41, r14.cs⟩ 1 ?_
 refine sy_appL0 27 (T := 29) (E := 41) (z := .agg #[.bool false, .slice none 0 0, .slice none 0 0]) (size := 3) (bytes := 56) (m := 1) (t2 := 26) r14.cs xj xj xj yq rfl (rl_one r14) yq yq yq ?_
 intro c19 cs19 ha19 hb19 hc19 hd19
 refine zza 7 (.slc 27 0 1 c19) (zzx ?_)
 refine zzp (zzf (zza 14 (zI 0) (zza 15 (zI 1) (zza 8 (zI 1) (zzx ?_)))))
 refine rn_next ?_
 refine sw_weak (T := St.of 30 [(1, .v (.slice x.a 3 x.c)), (5, .adr 5 0), (7, .slc 27 0 1 c19), (8, zI 1)] [(5, ⟨24, [.int .i64 W.b, .int .i64 W.f, .int .i64 W.r, .int .i64 W.o]⟩), (27, ⟨41, cs19⟩)]) yz ?_
 refine zzd (sq9 (zza 10 (zI 1) (zza 11 (.v (.slice x.a 3 x.c)) (zza 12 (zI 3) (zza 13 (zB true) (zzb (zyr xj (zzs (zzp ?_)))))))))
 refine zzd (zzt ?_)
 have hbi20 := bd_at24 hb 1
 refine zzz [0, 0, 0, 6, 14, 0, 32, 96, 224, 510, 1022, 2047, 4095] [(0, []), (1, []), (2, []), (3, []), (4, []), (5, []), (6, []), (7, []), (8, []), (9, []), (10, []), (11, []), (12, [])] xj xj (zza 16 (.slc 27 0 1 c19) (zza 17 (.v (.slice x.a 3 x.c)) (zza 18 (zI 1) ?_)))
 have hl21 := ((hx.ext (e13.trans g17.ext))).1
 change _ = 3 at hl21
 obtain ⟨b21, o21, hA21, hc21⟩ := ints_at (hx.ext (e13.trans g17.ext)) (i := 1) xq
 have hz21 := ints_bd (bd_24 hb) xq 1
 refine zya 19 (o21 + 1 * 1) (n := 3) (off := o21) (sz := 1) (i := 1) xq hA21 xq xq sl22 (zyl 20 (.int .i64 (l.getD 1 0)) hc21 ty3 (zza 21 (.adr 5 1) (zzi 22 (zI W.f) ty3 zzl (sy_conv 23 (W.f) (fun w => by kernel_rfl) (IntWalk.u64_in _ xq) ?_))))
 refine sy_shl 24 (k := .i64) (s := W.f) (Nt.p2i W.f) xq zq (shl_one xq xq) ?_
 refine zzg 25 72 [.int .i64 (l.getD 1 0), .int .i64 (Nt.p2i W.f)] ?_
 intro w22 u22 e22 d22
 have k27 := k_rqFrac d22 (a := (l.getD 1 0)) (b := Nt.p2i W.f) xq xq xq xq
 with_reducible refine zPm k27 ?_
 rintro _ u25 g26 ⟨r23, rfl, h24⟩
 refine sy_lit 26 ⟨41, r23.cs⟩ 1 ?_
 refine sy_appL1 27 (T := 29) (E := 41) (z := .agg #[.bool false, .slice none 0 0, .slice none 0 0]) (size := 3) (bytes := 56) (m := 1) (t2 := 26) (n := 1) (cap := c19) (t := 27) (cs0 := cs19) [7, 16, 27] r23.cs xj xj xj yq rfl (rl_one r23) yq yv xq xq xq xq xw ?_
 intro c28 cs28 ha28 hb28 hc28 hd28
 have hd28r : cs28.take ((1 + 1) * 3) = rcs ([r14] ++ [r23]) := by rw [hd28, hd19, rcs_app]; rfl
 refine zza 7 (.slc 27 0 (1 + 1) c28) (zzx ?_)
 refine zzp (zzf (zza 14 (zI 1) (zza 15 (zI 2) (zza 8 (zI 2) (zzx ?_)))))
 refine rn_next ?_
 refine sw_weak (T := St.of 30 [(1, .v (.slice x.a 3 x.c)), (5, .adr 5 0), (7, .slc 27 0 (1 + 1) c28), (8, zI 2)] [(5, ⟨24, [.int .i64 W.b, .int .i64 W.f, .int .i64 W.r, .int .i64 W.o]⟩), (27, ⟨41, cs28⟩)]) yz ?_
 refine zzd (sq9 (zza 10 (zI 2) (zza 11 (.v (.slice x.a 3 x.c)) (zza 12 (zI 3) (zza 13 (zB true) (zzb (zyr xj (zzs (zzp ?_)))))))))
 refine zzd (zzt ?_)
 have hbi29 := bd_at24 hb 2
 refine zzz [0, 0, 0, 6, 14, 0, 32, 96, 224, 510, 1022, 2047, 4095] [(0, []), (1, []), (2, []), (3, []), (4, []), (5, []), (6, []), (7, []), (8, []), (9, []), (10, []), (11, []), (12, [])] xj xj (zza 16 (.slc 27 0 (1 + 1) c28) (zza 17 (.v (.slice x.a 3 x.c)) (zza 18 (zI 2) ?_)))
 have hl30 := ((hx.ext (e13.trans (g17.ext.trans (e22.trans g26.ext))))).1
 change _ = 3 at hl30
 obtain ⟨b30, o30, hA30, hc30⟩ := ints_at (hx.ext (e13.trans (g17.ext.trans (e22.trans g26.ext)))) (i := 2) xq
 have hz30 := ints_bd (bd_24 hb) xq 2
 refine zya 19 (o30 + 2 * 1) (n := 3) (off := o30) (sz := 1) (i := 2) xq hA30 xq xq sl22 (zyl 20 (.int .i64 (l.getD 2 0)) hc30 ty3 (zza 21 (.adr 5 1) (zzi 22 (zI W.f) ty3 zzl (sy_conv 23 (W.f) (fun w => by kernel_rfl) (IntWalk.u64_in _ xq) ?_))))
 refine sy_shl 24 (k := .i64) (s := W.f) (Nt.p2i W.f) xq zq (shl_one xq xq) ?_
 refine zzg 25 72 [.int .i64 (l.getD 2 0), .int .i64 (Nt.p2i W.f)] ?_
 intro w31 u31 e31 d31
 have k36 := k_rqFrac d31 (a := (l.getD 2 0)) (b := Nt.p2i W.f) xq xq xq xq
 with_reducible refine zPm k36 ?_
 rintro _ u34 g35 ⟨r32, rfl, h33⟩
 refine sy_lit 26 ⟨41, r32.cs⟩ 1 ?_
 refine sy_appL1 27 (T := 29) (E := 41) (z := .agg #[.bool false, .slice none 0 0, .slice none 0 0]) (size := 3) (bytes := 56) (m := 1) (t2 := 26) (n := 1 + 1) (cap := c28) (t := 27) (cs0 := cs28) [7, 16, 27] r32.cs xj xj xj yq rfl (rl_one r32) yq yv xq xq xq xq xw ?_
 intro c37 cs37 ha37 hb37 hc37 hd37
 have hd37r : cs37.take ((1 + 1 + 1) * 3) = rcs ([r14] ++ [r23] ++ [r32]) := by rw [hd37, hd28r, rcs_app]; rfl
 refine zza 7 (.slc 27 0 (1 + 1 + 1) c37) (zzx ?_)
 refine zzp (zzf (zza 14 (zI 2) (zza 15 (zI 3) (zza 8 (zI 3) (zzx ?_)))))
 refine rn_next ?_
 refine sw_weak (T := St.of 30 [(1, .v (.slice x.a 3 x.c)), (5, .adr 5 0), (7, .slc 27 0 (1 + 1 + 1) c37), (8, zI 3)] [(5, ⟨24, [.int .i64 W.b, .int .i64 W.f, .int .i64 W.r, .int .i64 W.o]⟩), (27, ⟨41, cs37⟩)]) yz ?_
 refine zzd (sq9 (zza 10 (zI 3) (zza 11 (.v (.slice x.a 3 x.c)) (zza 12 (zI 3) (zza 13 (zB false) (zzb (zys xj (zyc (zzp (zzd ?_))))))))))
 have hq44 : RatsN u34 ([r14] ++ [r23] ++ [r32]) [((((l.getD 0 0) : Int) : Rat) / ((Nt.p2i W.f : Int) : Rat)), ((((l.getD 1 0) : Int) : Rat) / ((Nt.p2i W.f : Int) : Rat)), ((((l.getD 2 0) : Int) : Rat) / ((Nt.p2i W.f : Int) : Rat))] 3 := (RatsN.snoc (K := 3) (RatsN.snoc (K := 3) (RatsN.snoc (K := 3) (RatsN.nil _ _) (RatN.more (K := 3) (h15.ext (e22.trans (g26.ext.trans (e31.trans g35.ext)))) yq)) (RatN.more (K := 3) (h24.ext (e31.trans g35.ext)) yq)) (RatN.more (K := 3) h33 yq))
 refine zyp (r := 7) (t := 27) [7, 27] xw xj (by rfl) (by rfl) xj (fun b38 u39 e40 hb41 hh42 => ?_)
 have hp43 : PolN u39 ⟨some ⟨b38, 0, none⟩, 1 + 1 + 1, c37⟩ [((((l.getD 0 0) : Int) : Rat) / ((Nt.p2i W.f : Int) : Rat)), ((((l.getD 1 0) : Int) : Rat) / ((Nt.p2i W.f : Int) : Rat)), ((((l.getD 2 0) : Int) : Rat) / ((Nt.p2i W.f : Int) : Rat))] 3 := pol_data hh42 hd37r hc37 ha37 hb37 (RatsN.ext hq44 e40)
 refine zzf (zza 28 (.v (.slice (some ⟨b38, 0, none⟩) (1 + 1 + 1) c37)) (zzg 29 82 [.slice (some ⟨b38, 0, none⟩) (1 + 1 + 1) c37] ?_))
 intro w45 u45 e45 d45
 have k50 := k_r5Trim d45 (hp43.ext e45).raw xq (by first | omega | (simp; done) | (simp; omega))
 with_reducible refine zPm k50 ?_
 rintro _ u48 g49 ⟨y46, rfl, h47⟩
 have hly46 := h47.len
 refine zza 6 (.v y46.v) (zzb (zzo (ret0 [.slice y46.a y46.n y46.c] ⟨zzq, trivial⟩ fun u51 e52 => ?_)))
 exact ⟨y46, rfl, PolN.more (K := 3) (h47.ext e52) yq⟩
set_option maxHeartbeats 2000000 in
theorem k_num2 {u w : World} {x : Sl} {l : List Int} {W : WL} {za : Option Addr} (d : Dat u w) (hW : WdOK W) (hx : SlR .i64 u x.a 2 x.c l) (hb : ∀ z ∈ l, -16777216 ≤ z ∧ z ≤ 16777216) (hz : PolN u ⟨za, 1, 1⟩ [1] 3) : Calls Tryz.prog 168 #[.slice za 1 1, .slice x.a 2 x.c, W.v] w (Post u w fun v u' => ∃ y : Sl, v = y.v ∧ PolN u' y (Nt.trimQ [1, Nt.wq (l.getD 0 0) W.f, Nt.wq (l.getD 1 0) W.f]) 3) := by
 have hlx : l.length = 2 := hx.1
 obtain ⟨hw1, hw2, hw3, hw4, hw5, hw6, hw7, hw8⟩ := id hW
 have hpf := Nt.p2i_24 (n := W.f) xq
 have hpp := Nt.zxp W.f
 refine zzm (args := [.slice za 1 1, .slice x.a 2 x.c, .agg #[.int .i64 W.b, .int .i64 W.f, .int .i64 W.r, .int .i64 W.o]]) Tryz.func168 rfl Tryz.ntmps168 (rs := [.tmp 6]) Tryz.results168 (le_b rfl) (le_b rfl) d ?_
 refine sq9 (zzk 5 ⟨24, W.cs⟩ (zza 6 (.v (.slice none 0 0)) (zzb (sq9 (zza 9 (.v (.slice za 1 1)) (zza 7 (.v (.slice za 1 1)) (zzb (zzd (sq9 (zza 8 (zI 0) (zzb ?_)))))))))))
 refine zzt (sw_rounds 2 ?_)
 refine zzd (sq9 (zza 10 (zI 0) (zza 11 (.v (.slice x.a 2 x.c)) (zza 12 (zI 2) (zza 13 (zB true) (zzb (zyr xj (zzs (zzp ?_)))))))))
 refine zzd (zzt ?_)
 have hbi11 := bd_at24 hb 0
 refine zzz [0, 0, 0, 6, 14, 0, 32, 96, 224, 510, 1022, 2047, 4095] [(0, []), (1, []), (2, []), (3, []), (4, []), (5, []), (6, []), (7, []), (8, []), (9, []), (10, []), (11, []), (12, [])] xj xj (zza 16 (.v (.slice za 1 1)) (zza 17 (.v (.slice x.a 2 x.c)) (zza 18 (zI 0) ?_)))
 have hl12 := (hx).1
 change _ = 2 at hl12
 obtain ⟨b12, o12, hA12, hc12⟩ := ints_at hx (i := 0) xq
 have hz12 := ints_bd (bd_24 hb) xq 0
 refine zya 19 (o12 + 0 * 1) (n := 2) (off := o12) (sz := 1) (i := 0) xq hA12 xq xq sl22 (zyl 20 (.int .i64 (l.getD 0 0)) hc12 ty3 (zza 21 (.adr 5 1) (zzi 22 (zI W.f) ty3 zzl (sy_conv 23 (W.f) (fun w => by kernel_rfl) (IntWalk.u64_in _ xq) ?_))))
 refine sy_shl 24 (k := .i64) (s := W.f) (Nt.p2i W.f) xq zq (shl_one xq xq) ?_
 refine zzg 25 72 [.int .i64 (l.getD 0 0), .int .i64 (Nt.p2i W.f)] ?_
 intro w13 u13 e13 d13
 have k18 := k_rqFrac d13 (a := (l.getD 0 0)) (b := Nt.p2i W.f) xq xq xq xq
 with_reducible refine zPm k18 ?_
 rintro _ u16 g17 ⟨r14, rfl, h15⟩
 refine sy_lit 26 ⟨41, r14.cs⟩ 1 ?_
 obtain ⟨Lx19, hS19, hR19⟩ := id (hz.ext (e13.trans g17.ext))
 obtain ⟨bx19, ox19, hA19, hC19⟩ := hS19.2.2.2 (by show 0 < 1; decide)
 refine sy_appG 27 (T := 29) (E := 41) (z := .agg #[.bool false, .slice none 0 0, .slice none 0 0]) (size := 3) (bytes := 56) (m := 1) (n := 1) (cap := 1) (t2 := 26) (b := bx19) (off := ox19) (cs0 := rcs Lx19) r14.cs hA19 xj xj xj yq rfl (rl_one r14) yq (by unfold maxLen; decide) yq yq hS19.1 (fun j v hv => by have h9 := hC19 j (List.getElem?_eq_some_iff.1 hv).1; rw [h9]; exact hv) ?_
 intro g19 c19 cs19 u19 e19 hg19 h119 h219 h319 h419 hh19
 refine zza 7 (.v (.slice (some ⟨g19, 0, none⟩) (1 + 1) c19)) (zzx ?_)
 refine zzp (zzf (zza 14 (zI 0) (zza 15 (zI 1) (zza 8 (zI 1) (zzx ?_)))))
 refine rn_next ?_
 refine sw_weak (T := St.of 30 [(1, .v (.slice x.a 2 x.c)), (5, .adr 5 0), (7, .v (.slice (some ⟨g19, 0, none⟩) (1 + 1) c19)), (8, zI 1)] [(5, ⟨24, [.int .i64 W.b, .int .i64 W.f, .int .i64 W.r, .int .i64 W.o]⟩)]) yz ?_
 refine zzd (sq9 (zza 10 (zI 1) (zza 11 (.v (.slice x.a 2 x.c)) (zza 12 (zI 2) (zza 13 (zB true) (zzb (zyr xj (zzs (zzp ?_)))))))))
 refine zzd (zzt (sw_adopt (r := 7) (k := 27) (cs := cs19) (by rfl) hh19 (Nat.le_trans ((e13.trans g17.ext).size) hg19) xj (fun u20 eB21 => ?_)))
 obtain ⟨LL22, hLL22⟩ : ∃ L, L = Lx19 ++ [r14] := ⟨_, rfl⟩
 have h419r : cs19.take ((1 + 1) * 3) = rcs LL22 := by rw [hLL22, h419, rcs_app]; rfl
 have hrl23 : RatsN u20 LL22 [1, ((((l.getD 0 0) : Int) : Rat) / ((Nt.p2i W.f : Int) : Rat))] 3 := by rw [hLL22]; exact RatsN.snoc (RatsN.more (RatsN.ext hR19 (ExtB.old eB21 e19 hg19)) yq) (RatN.more (K := 3) (h15.ext (ExtB.old eB21 e19 hg19)) yq)
 have hbi24 := bd_at24 hb 1
 refine zzz [0, 0, 0, 6, 14, 0, 32, 96, 224, 510, 1022, 2047, 4095] [(0, []), (1, []), (2, []), (3, []), (4, []), (5, []), (6, []), (7, []), (8, []), (9, []), (10, []), (11, []), (12, [])] xj xj (zza 16 (.slc 27 0 (1 + 1) c19) (zza 17 (.v (.slice x.a 2 x.c)) (zza 18 (zI 1) ?_)))
 have hl25 := ((hx.ext (e13.trans (g17.ext.trans (ExtB.old eB21 e19 hg19))))).1
 change _ = 2 at hl25
 obtain ⟨b25, o25, hA25, hc25⟩ := ints_at (hx.ext (e13.trans (g17.ext.trans (ExtB.old eB21 e19 hg19)))) (i := 1) xq
 have hz25 := ints_bd (bd_24 hb) xq 1
 refine zya 19 (o25 + 1 * 1) (n := 2) (off := o25) (sz := 1) (i := 1) xq hA25 xq xq sl22 (zyl 20 (.int .i64 (l.getD 1 0)) hc25 ty3 (zza 21 (.adr 5 1) (zzi 22 (zI W.f) ty3 zzl (sy_conv 23 (W.f) (fun w => by kernel_rfl) (IntWalk.u64_in _ xq) ?_))))
 refine sy_shl 24 (k := .i64) (s := W.f) (Nt.p2i W.f) xq zq (shl_one xq xq) ?_
 refine zzg 25 72 [.int .i64 (l.getD 1 0), .int .i64 (Nt.p2i W.f)] ?_
 intro w26 u26 e26 d26
 have k31 := k_rqFrac d26 (a := (l.getD 1 0)) (b := Nt.p2i W.f) xq xq xq xq
 with_reducible refine zPm k31 ?_
 rintro _ u29 g30 ⟨r27, rfl, h28⟩
 refine sy_lit 26 ⟨41, r27.cs⟩ 1 ?_
 refine sy_appL1 27 (T := 29) (E := 41) (z := .agg #[.bool false, .slice none 0 0, .slice none 0 0]) (size := 3) (bytes := 56) (m := 1) (t2 := 26) (n := 1 + 1) (cap := c19) (t := 27) (cs0 := cs19) [7, 16, 27] r27.cs xj xj xj yq rfl (rl_one r27) yq yv xq xq xq xq xw ?_
 intro c32 cs32 ha32 hb32 hc32 hd32
 have hd32r : cs32.take ((1 + 1 + 1) * 3) = rcs (LL22 ++ [r27]) := by rw [hd32, h419r, rcs_app]; rfl
 refine zza 7 (.slc 27 0 (1 + 1 + 1) c32) (zzx ?_)
 refine zzp (zzf (zza 14 (zI 1) (zza 15 (zI 2) (zza 8 (zI 2) (zzx ?_)))))
 refine rn_next ?_
 refine sw_weak (T := St.of 30 [(1, .v (.slice x.a 2 x.c)), (5, .adr 5 0), (7, .slc 27 0 (1 + 1 + 1) c32), (8, zI 2)] [(5, ⟨24, [.int .i64 W.b, .int .i64 W.f, .int .i64 W.r, .int .i64 W.o]⟩), (27, ⟨41, cs32⟩)]) yz ?_
 refine zzd (sq9 (zza 10 (zI 2) (zza 11 (.v (.slice x.a 2 x.c)) (zza 12 (zI 2) (zza 13 (zB false) (zzb (zys xj (zyc (zzp (zzd ?_))))))))))
 have hq39 : RatsN u29 (LL22 ++ [r27]) [1, ((((l.getD 0 0) : Int) : Rat) / ((Nt.p2i W.f : Int) : Rat)), ((((l.getD 1 0) : Int) : Rat) / ((Nt.p2i W.f : Int) : Rat))] 3 := (RatsN.snoc (K := 3) (RatsN.ext hrl23 (e26.trans g30.ext)) (RatN.more (K := 3) h28 yq))
 refine zyp (r := 7) (t := 27) [7, 27] xw xj (by rfl) (by rfl) xj (fun b33 u34 e35 hb36 hh37 => ?_)
 have hp38 : PolN u34 ⟨some ⟨b33, 0, none⟩, 1 + 1 + 1, c32⟩ [1, ((((l.getD 0 0) : Int) : Rat) / ((Nt.p2i W.f : Int) : Rat)), ((((l.getD 1 0) : Int) : Rat) / ((Nt.p2i W.f : Int) : Rat))] 3 := pol_data hh37 hd32r hc32 ha32 hb32 (RatsN.ext hq39 e35)
 refine zzf (zza 28 (.v (.slice (some ⟨b33, 0, none⟩) (1 + 1 + 1) c32)) (zzg 29 82 [.slice (some ⟨b33, 0, none⟩) (1 + 1 + 1) c32] ?_))
 intro w40 u40 e40 d40
 have k45 := k_r5Trim d40 (hp38.ext e40).raw xq (by first | omega | (simp; done) | (simp; omega))
 with_reducible refine zPm k45 ?_
 rintro _ u43 g44 ⟨y41, rfl, h42⟩
 have hly41 := h42.len
 refine zza 6 (.v y41.v) (zzb (zzo (ret0 [.slice y41.a y41.n y41.c] ⟨zzq, trivial⟩ fun u46 e47 => ?_)))
 exact ⟨y41, rfl, PolN.more (K := 3) (h42.ext e47) yq⟩
set_option maxHeartbeats 1000000 in
theorem k_rsecIdeal {u w : World} {x y : Sl} {b a : List Int} {W : WL} (d : Dat u w) (hW : WdOK W) (hx : SlR .i64 u x.a 3 x.c b) (hbb : ∀ z ∈ b, -16777216 ≤ z ∧ z ≤ 16777216) (hy : SlR .i64 u y.a 2 y.c a) (hab : ∀ z ∈ a, -16777216 ≤ z ∧ z ≤ 16777216) (f1 : Nt.fitsB W b = true) (f2 : Nt.fitsB W a = true) (f3 : ∀ j, j < a.length → Nt.fitB W (-a.getD j 0) = true) : Calls Tryz.prog 124 #[.slice x.a 3 x.c, .slice y.a 2 y.c, W.v] w (Post u w fun v u' => ∃ p q : Sl, v = .tuple #[.agg #[p.v, q.v], .int .i64 0] ∧ PolN u' p (Nt.trimQ [Nt.wq (b.getD 0 0) W.f, Nt.wq (b.getD 1 0) W.f, Nt.wq (b.getD 2 0) W.f]) 3 ∧ PolN u' q (Nt.trimQ [1, Nt.wq (a.getD 0 0) W.f, Nt.wq (a.getD 1 0) W.f]) 3) := by
 have hlx : b.length = 3 := hx.1
 have hly : a.length = 2 := hy.1
 refine zzm (args := [.slice x.a 3 x.c, .slice y.a 2 y.c, .agg #[.int .i64 W.b, .int .i64 W.f, .int .i64 W.r, .int .i64 W.o]]) Tryz.func124 rfl Tryz.ntmps124 (rs := [.cell 6 31, .tmp 7]) Tryz.results124 (le_b rfl) (le_b rfl) d ?_
 refine sq9 (zzk 5 ⟨24, W.cs⟩ (zzk 6 ⟨31, [.slice none 0 0, .slice none 0 0]⟩ (zza 7 (zI 0) (zzb (zzd (sq9 (zza 9 (.v (.slice x.a 3 x.c)) (zza 10 (.v (.slice y.a 2 y.c)) (zzi 11 (.v (W.v)) ty24 zze (zzi 12 (.v (W.v)) ty24 zze (zzg 13 167 [.slice x.a 3 x.c, .slice y.a 2 y.c, W.v, W.v] ?_)))))))))))
 intro w11 u11 e11 d11
 have k14 := (show Calls _ _ #[.slice x.a 3 x.c, .slice y.a 2 y.c, .agg #[.int .i64 W.b, .int .i64 W.f, .int .i64 W.r, .int .i64 W.o], .agg #[.int .i64 W.b, .int .i64 W.f, .int .i64 W.r, .int .i64 W.o]] _ _ from k_check23 (x := ⟨x.a, 3, x.c⟩) (y := ⟨y.a, 2, y.c⟩) d11 hW (hx.ext e11) hbb (hy.ext e11) hab xq xq f1 f2 f3)
 with_reducible refine zPm k14 ?_
 rintro _ u12 g13 rfl
 refine zza 8 (zI 0) (zzb (sq9 (zza 14 (zI 0) (zza 15 (zB false) (zzb (zys xj (zzs (zzp ?_))))))))
 refine zzd (zzz [0, 0, 3, 7, 15, 0, 0, 127, 255, 511, 1023] [(0, []), (1, []), (5, []), (6, []), (2, []), (3, []), (4, []), (7, [22]), (8, []), (9, []), (10, [])] xj xj (zza 18 (.v (.slice x.a 3 x.c)) (zzi 19 (.v (W.v)) ty24 zze (zza 23 (.v (.slice y.a 2 y.c)) (zzi 24 (.v (W.v)) ty24 zze (zzg 20 168 [.slice none 0 0, .slice x.a 3 x.c, W.v] ?_))))))
 intro w15 u15 e15 d15
 have k20 := (show Calls _ _ #[.slice none 0 0, .slice x.a 3 x.c, .agg #[.int .i64 W.b, .int .i64 W.f, .int .i64 W.r, .int .i64 W.o]] _ _ from k_num3 (x := x) d15 hW (hx.ext (e11.trans (g13.ext.trans e15))) hbb)
 with_reducible refine zPm k20 ?_
 rintro _ u18 g19 ⟨y16, rfl, h17⟩
 refine zzg 21 13 [.int .i64 1] ?_
 intro w21 u21 e21 d21
 have k26 := k_rqOf d21 (z := 1) xq xq
 with_reducible refine zPm k26 ?_
 rintro _ u24 g25 ⟨r22, rfl, h23⟩
 refine sy_lit 22 ⟨41, r22.cs⟩ 1 ?_
 refine zyo 25 168 [.slc 22 0 1 1, .v (.slice y.a 2 y.c), .v (W.v)] [22] (.inr rfl) (pub_mk xw) (k := ?_)
 intro B27 w27 u27 e27 d27 v27
 have h29 : u27.heap[B27 22]? = some (.cells #[.bool r22.s, .slice r22.m.a r22.m.n r22.m.c, .slice r22.d.a r22.d.n r22.d.c] 41 (0, 0)) := v27 22 zv _ rfl
 obtain ⟨b28, hBb28⟩ : ∃ b, B27 22 = b := ⟨_, rfl⟩
 rw [hBb28] at h29
 have hp30 : PolN u27 (⟨some ⟨b28, 0, none⟩, 1, 1⟩ : Sl) [((1 : Int) : Rat)] 2 := pol_lit (L := [r22]) h29 (rats1 (h23.ext e27)) rfl yq
 show Calls _ _ #[.slice (some ⟨B27 22, 0, none⟩) 1 1, .slice y.a 2 y.c, .agg #[.int .i64 W.b, .int .i64 W.f, .int .i64 W.r, .int .i64 W.o]] _ _
 rw [hBb28]
 have k35 := (show Calls _ _ #[.slice (some ⟨b28, 0, none⟩) 1 1, .slice y.a 2 y.c, .agg #[.int .i64 W.b, .int .i64 W.f, .int .i64 W.r, .int .i64 W.o]] _ _ from k_num2 (x := y) d27 hW (hy.ext (e11.trans (g13.ext.trans (e15.trans (g19.ext.trans (e21.trans (g25.ext.trans e27))))))) hab (show PolN _ _ [1] _ from PolN.more (K := 2) hp30 yq))
 with_reducible refine zPm k35 ?_
 rintro _ u33 g34 ⟨y31, rfl, h32⟩
 refine zza 26 (.v (.agg #[y16.v, y31.v])) (zzj ⟨31, [y16.v, y31.v]⟩ ty31 ?_)
 refine zza 7 (zI 0) (zzb (zzo (ret0 [.agg #[.slice y16.a y16.n y16.c, .slice y31.a y31.n y31.c], .int .i64 0] ⟨zzr ty31 zze, zzq, trivial⟩ fun u36 e37 => ?_)))
 exact ⟨y16, y31, rfl, (h17.ext (e21.trans (g25.ext.trans (e27.trans (g34.ext.trans e37))))), (h32.ext e37)⟩
theorem Nt.mul_trimR {l m : List Rat} : Nt.trimQ (Nt.mulQ l (Nt.trimQ m)) = Nt.trimQ (Nt.mulQ l m) := Nt.trim_ext (fun i => Nt.zwj (fun _ => rfl) (fun j => Nt.trim_co m j) i)
theorem sec_fits {W : WL} {L : List (List Int)} {i : Nat} (h : Nt.secFit W (L.getD i []) = true) : Nt.fitsB W [gi L i 0, gi L i 1, gi L i 2] = true ∧ Nt.fitsB W [gi L i 3, gi L i 4] = true ∧ ∀ j, j < 2 → Nt.fitB W (-[gi L i 3, gi L i 4].getD j 0) = true := by
 unfold Nt.secFit at h
 simp only [Bool.and_eq_true] at h
 obtain ⟨⟨⟨⟨h0, h1⟩, h2⟩, h3, h5⟩, h4, h6⟩ := h
 refine ⟨decide_eq_true fun j hj => ?_, decide_eq_true fun j hj => ?_, fun j hj => ?_⟩
 ·match j, hj with
  | 0, _ => exact h0
  | 1, _ => exact h1
  | 2, _ => exact h2
 ·match j, hj with
  | 0, _ => exact h3
  | 1, _ => exact h4
 ·match j, hj with
  | 0, _ => exact h5
  | 1, _ => exact h6
theorem bd3 {a b c lo hi : Int} (h1 : lo ≤ a ∧ a ≤ hi) (h2 : lo ≤ b ∧ b ≤ hi) (h3 : lo ≤ c ∧ c ≤ hi) : ∀ z ∈ [a, b, c], lo ≤ z ∧ z ≤ hi := fun z hz => by
 rcases List.mem_cons.1 hz with rfl | hz
 ·exact h1
 rcases List.mem_cons.1 hz with rfl | hz
 ·exact h2
 rw [List.mem_singleton.1 hz]; exact h3
theorem bd2 {a b lo hi : Int} (h1 : lo ≤ a ∧ a ≤ hi) (h2 : lo ≤ b ∧ b ≤ hi) : ∀ z ∈ [a, b], lo ≤ z ∧ z ≤ hi := fun z hz => by
 rcases List.mem_cons.1 hz with rfl | hz
 ·exact h1
 rw [List.mem_singleton.1 hz]; exact h2
set_option maxHeartbeats 4000000 in
theorem k_rcsIdeal {u w : World} {x : Sl} {L : List (List Int)} {W : WL} (d : Dat u w) (hE : Nt.csE W L = 0) (hx : IrV 5 u x L) (hb : ∀ p ∈ L, ∀ z ∈ p, -9223372036854775808 ≤ z ∧ z ≤ 9223372036854775807) : Calls Tryz.prog 41 #[x.v, W.v] w (Post u w fun v u' => ∃ y z : Sl, v = .tuple #[.agg #[y.v, z.v], .int .i64 0] ∧ PolN u' y (Nt.csP (Nt.csN W.f) L L.length) 7 ∧ PolN u' z (Nt.csP (Nt.csD W.f) L L.length) 7) := by
 obtain ⟨hW, h1, h8, hall⟩ := Nt.csE_ok hE
 have hlx := hx.len
 obtain ⟨hw1, hw2, hw3, hw4, hw5, hw6, hw7, hw8⟩ := id hW
 have hp24 := Nt.p2i_24 (n := W.b - 1) xq
 have hpf := Nt.p2i_24 (n := W.f) xq
 have hpp := Nt.zxp W.f
 have hbd5 : ∀ i, i < L.length → ∀ j, j < 5 → ((L.getD i []).getD j 0).natAbs ≤ 2 ^ 24 := fun i hi j hj => by have h9 := Nt.secFit_ok (hall i hi) j hj; unfold gi at h9; omega
 refine zzm (args := [.slice x.a x.n x.c, .agg #[.int .i64 W.b, .int .i64 W.f, .int .i64 W.r, .int .i64 W.o]]) Tryz.func41 rfl Tryz.ntmps41 (rs := [.cell 4 31, .tmp 5]) Tryz.results41 (le_b rfl) (le_b rfl) d ?_
 refine sq9 (zzk 3 ⟨24, W.cs⟩ (zzk 4 ⟨31, [.slice none 0 0, .slice none 0 0]⟩ (zza 5 (zI 0) (zzb (zzd (sq9 (zza 11 (.v x.v) (zzi 12 (.v (W.v)) ty24 zze (zzi 13 (.v (W.v)) ty24 zze (zzg 14 123 [x.v, W.v, W.v] ?_))))))))))
 intro w11 u11 e11 d11
 have k14 := (Post.mono (Ψ := fun v _ => v = .int .i64 0) (Post.mono (Ψ := fun v _ => v = .int .i64 (Nt.csE W L)) (k_check24 (D := W) (W := W) d11 (hx.ext e11) hb) (fun v u9 _ h => by rw [Nt.csED_same] at h; exact h)) (fun v u9 _ h => by rw [hE] at h; exact h))
 with_reducible refine zPm k14 ?_
 rintro _ u12 g13 rfl
 refine zza 6 (zI 0) (zzb (sq9 (zza 15 (zI 0) (zza 16 (zB false) (zzb (zys xj (zzs (zzp ?_))))))))
 refine sq9 (zzg 19 13 [.int .i64 1] ?_)
 intro w15 u15 e15 d15
 have k20 := k_rqOf d15 (z := 1) xq xq
 with_reducible refine zPm k20 ?_
 rintro _ u18 g19 ⟨r16, rfl, h17⟩
 refine zxy 20 ⟨41, r16.cs⟩ 1 (fun b21 u22 e23 h24 => ?_)
 have hp25 : PolN u22 (⟨some ⟨b21, 0, none⟩, 1, 1⟩ : Sl) [((1 : Int) : Rat)] 2 := pol_lit (L := [r16]) h24 (rats1 (h17.ext e23)) rfl yq
 refine zzg 21 13 [.int .i64 1] ?_
 intro w26 u26 e26 d26
 have k31 := k_rqOf d26 (z := 1) xq xq
 with_reducible refine zPm k31 ?_
 rintro _ u29 g30 ⟨r27, rfl, h28⟩
 refine zxy 22 ⟨41, r27.cs⟩ 1 (fun b32 u33 e34 h35 => ?_)
 have hp36 : PolN u33 (⟨some ⟨b32, 0, none⟩, 1, 1⟩ : Sl) [((1 : Int) : Rat)] 2 := pol_lit (L := [r27]) h35 (rats1 (h28.ext e34)) rfl yq
 refine zza 23 (.v (.agg #[.slice (some ⟨b21, 0, none⟩) 1 1, .slice (some ⟨b32, 0, none⟩) 1 1])) (zzk 7 ⟨31, [.slice none 0 0, .slice none 0 0]⟩ (zzj ⟨31, [.slice (some ⟨b21, 0, none⟩) 1 1, .slice (some ⟨b32, 0, none⟩) 1 1]⟩ ty31 ?_))
 refine zzb (zzd (sq9 (zza 8 (zI 0) (zzb (zzt (zyn (I := fun m37 S' u' => ∃ (i : Nat) (a : Sl) (b : Sl), (m37 = x.n - i) ∧ (i ≤ x.n) ∧ (S' = St.of 57 [(0, .v (.slice x.a x.n x.c)), (3, .adr 3 0), (4, .adr 4 0), (7, .adr 7 0), (8, zI i)] [(3, ⟨24, [.int .i64 W.b, .int .i64 W.f, .int .i64 W.r, .int .i64 W.o]⟩), (4, ⟨31, [.slice none 0 0, .slice none 0 0]⟩), (7, ⟨31, [.slice a.a a.n a.c, .slice b.a b.n b.c]⟩)]) ∧ (Ext u33 u') ∧ (PolN u' a (Nt.csP (Nt.csN W.f) L i) 7) ∧ (PolN u' b (Nt.csP (Nt.csD W.f) L i) 7)) (fun m S u1 u2 e h => by obtain ⟨i, a, b, hm, p0, hS, hE, f0, f1⟩ := h; exact ⟨i, a, b, hm, p0, hS, hE.trans e, f0.ext e, f1.ext e⟩) _ yz ⟨0, (⟨some ⟨b21, 0, none⟩, 1, 1⟩ : Sl), (⟨some ⟨b32, 0, none⟩, 1, 1⟩ : Sl), rfl, Nat.zero_le _, rfl, (Ext.refl _), (show PolN _ _ [1] _ from PolN.more (K := 2) (hp25.ext (e26.trans (g30.ext.trans e34))) xq), (show PolN _ _ [1] _ from PolN.more (K := 2) hp36 xq)⟩ ?_))))))
 rintro m37 _ u37 ⟨i, a, b, hm37, hi, rfl, e37, hA, hB⟩
 have hal := hA.len
 have hbl := hB.len
 have hla : ((Nt.csP (Nt.csN W.f) L i)).length ≤ 17 := Nat.le_trans (Nt.csP_len (fun _ => rfl)) xq
 have hlb : ((Nt.csP (Nt.csD W.f) L i)).length ≤ 17 := Nat.le_trans (Nt.csP_len (fun _ => rfl)) xq
 refine zzd (sq9 (zza 24 (zI i) (zza 25 (.v x.v) (zza 26 (zI x.n) (zza 27 (zB (decide ((i : Int) < (x.n : Int)))) (zzb (zzu (b := decide ((i : Int) < (x.n : Int))) xj (fun hb38 => ?_) (fun hb38 => ?_))))))))
 ·replace hb38 : (decide ((i : Int) < (x.n : Int))) = true := hb38
  have qhb38 := of_decide_eq_true hb38
  refine zzs (zzp ?_)
  refine zzd (zzt (zzd ?_))
  have hbd := Nt.secFit_ok (hall i xq)
  have hbd0 := hbd 0 yq
  have hbd1 := hbd 1 yq
  have hbd2 := hbd 2 yq
  have hbd3 := hbd 3 yq
  have hbd4 := hbd 4 yq
  refine zzz [0, 0, 3, 7, 15, 0, 0, 96, 224, 480, 0, 2047, 4095, 8191, 8191, 0, 49151, 131071] [(0, []), (1, []), (2, []), (3, []), (4, []), (5, []), (6, []), (7, []), (8, []), (9, []), (10, []), (15, []), (11, []), (12, []), (13, []), (14, []), (16, []), (17, [])] xj xj (zza 31 (.v x.v) (zza 32 (zI i) ?_))
  have hl39 := ((hx.ext (e11.trans (g13.ext.trans (e15.trans (g19.ext.trans (e23.trans (e26.trans (g30.ext.trans (e34.trans e37)))))))))).len
  obtain ⟨b39, o39, hA39, hc39, hp339, hp239⟩ := ir_parts (hx.ext (e11.trans (g13.ext.trans (e15.trans (g19.ext.trans (e23.trans (e26.trans (g30.ext.trans (e34.trans e37))))))))) (i := i) xq
  refine zya 33 (o39 + i * 5) (n := x.n) (off := o39) (sz := 5) (i := (i : Int)) xq hA39 xq xq sl82 (zza 34 (.v (.pointer (some ⟨b39, o39 + i * 5, none⟩))) (zza 35 (.v (.slice (some ⟨b39, o39 + i * 5, none⟩) 3 3)) (zza 36 (.v x.v) (zza 37 (zI i) ?_))))
  have hl40 := ((hx.ext (e11.trans (g13.ext.trans (e15.trans (g19.ext.trans (e23.trans (e26.trans (g30.ext.trans (e34.trans e37)))))))))).len
  obtain ⟨b40, o40, hA40, hc40, hp340, hp240⟩ := ir_parts (hx.ext (e11.trans (g13.ext.trans (e15.trans (g19.ext.trans (e23.trans (e26.trans (g30.ext.trans (e34.trans e37))))))))) (i := i) xq
  refine zya 38 (o40 + i * 5) (n := x.n) (off := o40) (sz := 5) (i := (i : Int)) xq hA40 xq xq sl82 (zza 39 (.v (.pointer (some ⟨b40, o40 + i * 5 + 3, none⟩))) (zza 40 (.v (.slice (some ⟨b40, o40 + i * 5 + 3, none⟩) 2 2)) (zzi 41 (.v (W.v)) ty24 zze (zzk 9 ⟨31, [.slice none 0 0, .slice none 0 0]⟩ (zzg 42 124 [.slice (some ⟨b39, o39 + i * 5, none⟩) 3 3, .slice (some ⟨b40, o40 + i * 5 + 3, none⟩) 2 2, W.v] ?_)))))
  intro w41 u41 e41 d41
  have k48 := (show Calls _ _ #[.slice (some ⟨b39, o39 + i * 5, none⟩) 3 3, .slice (some ⟨b40, o40 + i * 5 + 3, none⟩) 2 2, .agg #[.int .i64 W.b, .int .i64 W.f, .int .i64 W.r, .int .i64 W.o]] _ _ from k_rsecIdeal (x := (⟨some ⟨b39, o39 + i * 5, none⟩, 3, 3⟩ : Sl)) (y := (⟨some ⟨b40, o40 + i * 5 + 3, none⟩, 2, 2⟩ : Sl)) (b := [gi L i 0, gi L i 1, gi L i 2]) (a := [gi L i 3, gi L i 4]) d41 hW (hp339.ext e41) (bd3 xq xq xq) (hp240.ext e41) (bd2 xq xq) (sec_fits (hall i xq)).1 (sec_fits (hall i xq)).2.1 (sec_fits (hall i xq)).2.2)
  with_reducible refine zPm k48 ?_
  rintro _ u46 g47 ⟨p42, q43, rfl, hp44, hq45⟩
  have h49 : PolN _ p42 (Nt.trimQ (Nt.csN W.f (L.getD i []))) 3 := hp44
  have hlp42 : ((Nt.trimQ (Nt.csN W.f (L.getD i [])))).length ≤ 3 := Nt.zzh _
  have h50 : PolN _ q43 (Nt.trimQ (Nt.csD W.f (L.getD i []))) 3 := hq45
  have hlq43 : ((Nt.trimQ (Nt.csD W.f (L.getD i [])))).length ≤ 3 := Nt.zzh _
  refine zza 30 (.v (.tuple #[.agg #[p42.v, q43.v], .int .i64 0])) (zza 43 (.v (.agg #[p42.v, q43.v])) (zza 44 (zI 0) (zzj ⟨31, [p42.v, q43.v]⟩ ty31 ?_)))
  refine zza 10 (zI 0) (zzc 57 [(0, .v x.v), (3, .adr 3 0), (4, .adr 4 0), (7, .adr 7 0), (8, zI i), (9, .adr 9 0)] [(3, ⟨24, W.cs⟩), (4, ⟨31, [.slice none 0 0, .slice none 0 0]⟩), (7, ⟨31, [a.v, b.v]⟩), (9, ⟨31, [p42.v, q43.v]⟩)] (zzz [0, 1, 0, 4, 15, 0, 32, 0, 128, 511, 1023, 2047] [(0, []), (1, []), (2, []), (3, []), (5, []), (6, []), (7, []), (8, []), (4, []), (9, []), (10, []), (11, [])] xj xj (zza 45 (.adr 7 0) (zzi 46 (.v a.v) ty29 zzl (zza 47 (.adr 9 0) (zzi 48 (.v p42.v) ty29 zzl (zza 50 (.adr 7 1) (zzi 51 (.v b.v) ty29 zzl (zza 52 (.adr 9 1) (zzi 53 (.v q43.v) ty29 zzl (zzg 49 98 [a.v, p42.v] ?_)))))))))))
  intro w51 u51 e51 d51
  have k56 := k_r5Mul d51 (hA.ext (e41.trans (g47.ext.trans e51))).raw (h49.ext e51).raw (Nat.le_trans (Nt.kk_mono (Nat.le_refl _) (Nat.mul_le_mul hla hlp42)) (by decide +kernel)) xq xq (by have h9 := hla; omega) (by have h9 := hlp42; omega)
  with_reducible refine zPm k56 ?_
  rintro _ u54 g55 ⟨y52, rfl, h53⟩
  have hly52 := h53.len
  have hmy52 := Nt.zxu hla hlp42
  refine zzg 54 98 [b.v, q43.v] ?_
  intro w57 u57 e57 d57
  have k62 := k_r5Mul d57 (hB.ext (e41.trans (g47.ext.trans (e51.trans (g55.ext.trans e57))))).raw (h50.ext (e51.trans (g55.ext.trans e57))).raw (Nat.le_trans (Nt.kk_mono (Nat.le_refl _) (Nat.mul_le_mul hlb hlq43)) (by decide +kernel)) xq xq (by have h9 := hlb; omega) (by have h9 := hlq43; omega)
  with_reducible refine zPm k62 ?_
  rintro _ u60 g61 ⟨y58, rfl, h59⟩
  have hly58 := h59.len
  have hmy58 := Nt.zxu hlb hlq43
  refine zza 55 (.v (.agg #[y52.v, y58.v])) (zzj ⟨31, [y52.v, y58.v]⟩ ty31 ?_)
  refine zzx ?_
  refine zzp (zzf (zza 28 (zI i) (zyq 29 (x := zI (IntKind.i64.wrap ((i : Int) + 1))) (zI (i + 1 : Nat)) (eqI xk) (zza 8 (zI (i + 1 : Nat)) (zzx ?_)))))
  refine ⟨_, ?_, _, by exact zzv _ _ _, i + 1, y52, y58, rfl, by omega, rfl, (e37.trans (e41.trans (g47.ext.trans (e51.trans (g55.ext.trans (e57.trans g61.ext)))))), (csP_fit (g := Nt.csN W.f) (L := L) (k := i + 1) (P := (Nt.p2i W.f).toNat) (K := _) (by have h9 := (h53.ext (e57.trans g61.ext)); rw [Nt.mul_trimR] at h9; exact h9) xq xq xq (fun _ => rfl) (fun i hi => Nt.csN_sm (hbd5 i xq))), (csP_fit (g := Nt.csD W.f) (L := L) (k := i + 1) (P := (Nt.p2i W.f).toNat) (K := _) (by have h9 := h59; rw [Nt.mul_trimR] at h9; exact h9) xq xq xq (fun _ => rfl) (fun i hi => Nt.csD_sm xq (hbd5 i xq)))⟩
  omega
 ·replace hb38 : (decide ((i : Int) < (x.n : Int))) = false := hb38
  have qhb38 := of_decide_eq_false hb38
  refine zyc (zzp (sq9 (zzi 56 (.v (.agg #[a.v, b.v])) ty31 zze (zzj ⟨31, [a.v, b.v]⟩ ty31 ?_))))
  refine zza 5 (zI 0) (zzb (zzo (ret0 [.agg #[.slice a.a a.n a.c, .slice b.a b.n b.c], .int .i64 0] ⟨zzr ty31 zze, zzq, trivial⟩ fun u63 e64 => ?_)))
  have hi9 : i = L.length := by omega
  have h9 := (hA.ext e64)
  have h7 := (hB.ext e64)
  rw [hi9] at h9 h7
  exact ⟨a, b, rfl, h9, h7⟩
theorem k_sameInts {u w : World} {x y : Sl} {l : List Int} (d : Dat u w) (hx : SlR .i64 u x.a x.n x.c l) (hy : SlR .i64 u y.a y.n y.c l) (hb : ∀ z ∈ l, -9223372036854775808 ≤ z ∧ z ≤ 9223372036854775807) (h8 : l.length ≤ 1000000) : Calls Tryz.prog 83 #[x.v, y.v] w (Post u w fun v u' => v = .bool true) := by
 have hlx : l.length = x.n := hx.1
 have hly : l.length = y.n := hy.1
 refine zzm (args := [.slice x.a x.n x.c, .slice y.a y.n y.c]) Tryz.func83 rfl Tryz.ntmps83 (rs := [.tmp 4]) Tryz.results83 (le_b rfl) (le_b rfl) d ?_
 refine sq9 (zza 4 (zB false) (zzb (zzd (sq9 (zza 6 (.v x.v) (zza 7 (zI x.n) (zza 8 (.v y.v) (zza 9 (zI y.n) (zza 10 (zB ((x.n : Int) != (y.n : Int))) (zzb (zzu (b := (x.n : Int) != (y.n : Int)) xj (fun hb => ?_) (fun hb => ?_))))))))))))
 ·exact absurd hb (by rw [show ((x.n : Int) != (y.n : Int)) = false from (by rw [show y.n = x.n by omega]; simp)]; decide)
 ·clear hb
  refine zzs (zzp ?_)
  refine zzd (sq9 (zza 5 (zI 0) (zzb (zzt (zyn (I := fun m11 S' u' => ∃ (i : Nat), (m11 = x.n - i) ∧ (i ≤ x.n) ∧ (S' = St.of 26 [(0, .v (.slice x.a x.n x.c)), (1, .v (.slice y.a y.n y.c)), (5, zI i)] []) ∧ (Ext u u')) (fun m S u1 u2 e h => by obtain ⟨i, hm, p0, hS, hE⟩ := h; exact ⟨i, hm, p0, hS, hE.trans e⟩) _ yz ⟨0, rfl, Nat.zero_le _, rfl, (Ext.refl _)⟩ ?_)))))
  rintro m11 _ u11 ⟨i, hm11, hi, rfl, e11⟩
  refine zzd (sq9 (zza 11 (zI i) (zza 12 (.v x.v) (zza 13 (zI x.n) (zza 14 (zB (decide ((i : Int) < (x.n : Int)))) (zzb (zzu (b := decide ((i : Int) < (x.n : Int))) xj (fun hb12 => ?_) (fun hb12 => ?_))))))))
  ·replace hb12 : (decide ((i : Int) < (x.n : Int))) = true := hb12
   have qhb12 := of_decide_eq_true hb12
   refine zzs (zzp ?_)
   refine zzd (zzt (zzd (zzz [0, 0, 3, 7, 0, 0, 48, 112, 255] [(0, []), (1, []), (2, []), (3, []), (4, []), (5, []), (6, []), (7, []), (8, [])] xj xj (zza 17 (.v x.v) (zza 18 (zI i) ?_)))))
   have hl13 := ((hx.ext e11)).1
   obtain ⟨b13, o13, hA13, hc13⟩ := ints_at (hx.ext e11) (i := i) xq
   have hz13 := ints_bd hb xq i
   refine zya 19 (o13 + i * 1) (n := x.n) (off := o13) (sz := 1) (i := (i : Int)) xq hA13 xq xq sl22 (zyl 20 (.int .i64 (l.getD i 0)) hc13 ty3 (zza 21 (.v y.v) (zza 22 (zI i) ?_)))
   have hl14 := ((hy.ext e11)).1
   obtain ⟨b14, o14, hA14, hc14⟩ := ints_at (hy.ext e11) (i := i) xq
   have hz14 := ints_bd hb xq i
   refine zya 23 (o14 + i * 1) (n := y.n) (off := o14) (sz := 1) (i := (i : Int)) xq hA14 xq xq sl22 (zyl 24 (.int .i64 (l.getD i 0)) hc14 ty3 (zza 25 (zB ((l.getD i 0) != (l.getD i 0))) (zzb (zzu (b := (l.getD i 0) != (l.getD i 0)) xj (fun hb => ?_) (fun hb => ?_)))))
   ·exact absurd hb (by rw [show ((l.getD i 0) != (l.getD i 0)) = false from zv]; decide)
   ·clear hb
    refine zzs (zzp ?_)
    refine zzf (zza 15 (zI i) (zyq 16 (x := zI (IntKind.i64.wrap ((i : Int) + 1))) (zI (i + 1 : Nat)) (eqI xk) (zza 5 (zI (i + 1 : Nat)) (zzx ?_))))
    refine ⟨_, ?_, _, by exact zzv _ _ _, i + 1, rfl, by omega, rfl, e11⟩
    omega
  ·replace hb12 : (decide ((i : Int) < (x.n : Int))) = false := hb12
   have qhb12 := of_decide_eq_false hb12
   refine zyc (zzp (sq9 (zza 4 (zB true) (zzb (zzo (ret0 [.bool true] ⟨zzq, trivial⟩ fun u15 e16 => ?_))))))
   rfl
set_option maxHeartbeats 4000000 in
theorem k_sameNets {u w : World} {x1 x2 z1 z2 : Sl} {h1 h2 : Nat} {N : List (List TL)} {s : List Int} {D W : WL} {n q : Int} (d : Dat u w) (ha : NodesB 0 h1 u x1 N) (hb : NodesB 0 h2 u x2 N) (hz1 : MutL 1 3 0 u z1 (ics s)) (hz2 : MutL 1 3 0 u z2 (ics s)) (hs : ∀ z ∈ s, -9223372036854775808 ≤ z ∧ z ≤ 9223372036854775807) (hs8 : s.length ≤ 1000) (hN : N.length ≤ 1000) (hT : ∀ i, i < N.length → (N.getD i []).length ≤ 1000) : Calls Tryz.prog 20 #[.agg #[.int .i64 D.b, .int .i64 D.f, .int .i64 D.r, .int .i64 D.o, .int .i64 W.b, .int .i64 W.f, .int .i64 W.r, .int .i64 W.o, .int .i64 n, x1.v, z1.v, .int .i64 q], .agg #[.int .i64 D.b, .int .i64 D.f, .int .i64 D.r, .int .i64 D.o, .int .i64 W.b, .int .i64 W.f, .int .i64 W.r, .int .i64 W.o, .int .i64 n, x2.v, z2.v, .int .i64 q]] w (Post u w fun v u' => v = .bool true) := by
 have hl1 := ha.len
 have hl2 := hb.len
 obtain ⟨La, gA1, gB1, gC1⟩ := id ha
 obtain ⟨Lb, gA2, gB2, gC2⟩ := id hb
 have hT1 : ∀ i, i < N.length → (La.getD i sl0).n = (N.getD i []).length ∧ (N.getD i []).length ≤ 1000 := fun i hi => ⟨tms_len (gC1 i hi).1, hT i hi⟩
 have hT2 : ∀ i, i < N.length → (Lb.getD i sl0).n = (N.getD i []).length := fun i hi => tms_len (gC2 i hi).1
 refine zzm (args := [.agg #[.int .i64 D.b, .int .i64 D.f, .int .i64 D.r, .int .i64 D.o, .int .i64 W.b, .int .i64 W.f, .int .i64 W.r, .int .i64 W.o, .int .i64 n, .slice x1.a x1.n x1.c, .slice z1.a z1.n z1.c, .int .i64 q], .agg #[.int .i64 D.b, .int .i64 D.f, .int .i64 D.r, .int .i64 D.o, .int .i64 W.b, .int .i64 W.f, .int .i64 W.r, .int .i64 W.o, .int .i64 n, .slice x2.a x2.n x2.c, .slice z2.a z2.n z2.c, .int .i64 q]]) Tryz.func20 rfl Tryz.ntmps20 (rs := [.tmp 4]) Tryz.results20 (le_b rfl) (le_b rfl) d ?_
 refine sq9 (zzk 2 ⟨49, [.int .i64 D.b, .int .i64 D.f, .int .i64 D.r, .int .i64 D.o, .int .i64 W.b, .int .i64 W.f, .int .i64 W.r, .int .i64 W.o, .int .i64 n, x1.v, z1.v, .int .i64 q]⟩ (zzk 3 ⟨49, [.int .i64 D.b, .int .i64 D.f, .int .i64 D.r, .int .i64 D.o, .int .i64 W.b, .int .i64 W.f, .int .i64 W.r, .int .i64 W.o, .int .i64 n, x2.v, z2.v, .int .i64 q]⟩ (zza 4 (zB false) (zzb (zzd (sq9 (zza 7 (.adr 2 0) (zzi 8 (.v (D.v)) ty24 zze (zza 9 (.adr 3 0) (zzi 10 (.v (D.v)) ty24 zze (zza 11 (zB false) ?_ (hrun := fun B w => exec_neqS (T := 24) (x := .tmp 8) (y := .tmp 10) (t2 := 24) [D.b, D.f, D.r, D.o] w (by rfl) xj xj xj xj xj xj))))))))))))
 refine zza 12 (zB false) (zza 13 (.adr 2 4) ?_ (hw := w1 5 false 12))
 refine zzi 14 (.v (W.v)) ty24 zze ?_ (hw := w1 5 false 12)
 refine zza 15 (.adr 3 4) ?_ (hw := w1 5 false 12)
 refine zzi 16 (.v (W.v)) ty24 zze ?_ (hw := w1 5 false 12)
 refine zza 17 (zB false) ?_ (hw := w1 5 false 12) (hrun := fun B w => exec_neqS (T := 24) (x := .tmp 14) (y := .tmp 16) (t2 := 24) [W.b, W.f, W.r, W.o] w (by rfl) xj xj xj xj xj xj)
 refine zza 18 (zB false) (zza 19 (zB false) (zza 20 (.adr 2 8) ?_ (hw := w1 12 false 19)))
 refine zzi 21 (zI n) ty3 zzl ?_ (hw := w1 12 false 19)
 refine zza 22 (.adr 3 8) ?_ (hw := w1 12 false 19)
 refine zzi 23 (zI n) ty3 zzl ?_ (hw := w1 12 false 19)
 refine zza 24 (zB (n != n)) ?_ (hw := w1 12 false 19)
 refine zza 25 (zB (n != n)) (zyq 26 (x := zB (n != n)) (zB false) (by rw [show (n != n) = false from zv]) (zza 27 (.adr 2 11) ?_ (hw := w1 19 false 26)))
 refine zzi 28 (zI q) ty3 zzl ?_ (hw := w1 19 false 26)
 refine zza 29 (.adr 3 11) ?_ (hw := w1 19 false 26)
 refine zzi 30 (zI q) ty3 zzl ?_ (hw := w1 19 false 26)
 refine zza 31 (zB (q != q)) ?_ (hw := w1 19 false 26)
 refine zza 32 (zB (q != q)) (zyq 33 (x := zB (q != q)) (zB false) (by rw [show (q != q) = false from zv]) (zza 34 (.adr 2 10) ?_ (hw := w1 26 false 33)))
 refine zzi 35 (.v z1.v) ty22 zzl ?_ (hw := w1 26 false 33)
 refine zza 36 (.adr 3 10) ?_ (hw := w1 26 false 33)
 refine zzi 37 (.v z2.v) ty22 zzl ?_ (hw := w1 26 false 33)
 refine zzg 38 83 [z1.v, z2.v] ?_ (hw := w1 26 false 33)
 intro w13 u13 e13 d13
 have k16 := k_sameInts (x := z1) (y := z2) d13 (hz1.ext e13).slr (hz2.ext e13).slr hs xq
 with_reducible refine zPm k16 ?_
 rintro _ u14 g15 rfl
 refine zza 39 (zB false) ?_ (hw := w1 26 false 33)
 refine zza 40 (zB false) (zza 41 (zB false) (zza 42 (.adr 2 9) ?_ (hw := w1 34 false 41)))
 refine zzi 43 (.v x1.v) ty47 zzl ?_ (hw := w1 34 false 41)
 refine zza 44 (zI x1.n) ?_ (hw := w1 34 false 41)
 refine zza 45 (.adr 3 9) ?_ (hw := w1 34 false 41)
 refine zzi 46 (.v x2.v) ty47 zzl ?_ (hw := w1 34 false 41)
 refine zza 47 (zI x2.n) ?_ (hw := w1 34 false 41)
 refine zza 48 (zB ((x1.n : Int) != (x2.n : Int))) ?_ (hw := w1 34 false 41)
 refine zza 49 (zB ((x1.n : Int) != (x2.n : Int))) (zzc 102 [(2, .adr 2 0), (3, .adr 3 0), (49, zB ((x1.n : Int) != (x2.n : Int)))] [(2, ⟨49, [.int .i64 D.b, .int .i64 D.f, .int .i64 D.r, .int .i64 D.o, .int .i64 W.b, .int .i64 W.f, .int .i64 W.r, .int .i64 W.o, .int .i64 n, x1.v, z1.v, .int .i64 q]⟩), (3, ⟨49, [.int .i64 D.b, .int .i64 D.f, .int .i64 D.r, .int .i64 D.o, .int .i64 W.b, .int .i64 W.f, .int .i64 W.r, .int .i64 W.o, .int .i64 n, x2.v, z2.v, .int .i64 q]⟩)] (zzu (b := (x1.n : Int) != (x2.n : Int)) xj (fun hb => ?_) (fun hb => ?_)))
 ·exact absurd hb (by rw [show ((x1.n : Int) != (x2.n : Int)) = false from (by rw [show x2.n = x1.n by omega]; simp)]; decide)
 ·clear hb
  refine zzs (zzp ?_)
  refine zzd (sq9 (zza 5 (zI 0) (zzb (zzt (zyn (I := fun m17 S' u' => ∃ (i : Nat), (m17 = N.length - i) ∧ (i ≤ N.length) ∧ (S' = St.of 102 [(2, .adr 2 0), (3, .adr 3 0), (5, zI i)] [(2, ⟨49, [.int .i64 D.b, .int .i64 D.f, .int .i64 D.r, .int .i64 D.o, .int .i64 W.b, .int .i64 W.f, .int .i64 W.r, .int .i64 W.o, .int .i64 n, .slice x1.a x1.n x1.c, .slice z1.a z1.n z1.c, .int .i64 q]⟩), (3, ⟨49, [.int .i64 D.b, .int .i64 D.f, .int .i64 D.r, .int .i64 D.o, .int .i64 W.b, .int .i64 W.f, .int .i64 W.r, .int .i64 W.o, .int .i64 n, .slice x2.a x2.n x2.c, .slice z2.a z2.n z2.c, .int .i64 q]⟩)]) ∧ (Ext u14 u')) (fun m S u1 u2 e h => by obtain ⟨i, hm, p0, hS, hE⟩ := h; exact ⟨i, hm, p0, hS, hE.trans e⟩) _ yz ⟨0, rfl, Nat.zero_le _, rfl, (Ext.refl _)⟩ ?_)))))
  rintro m17 _ u17 ⟨i, hm17, hi, rfl, e17⟩
  refine zzd (sq9 (zza 50 (zI i) (zza 51 (.adr 2 9) (zzi 52 (.v x1.v) ty47 zzl (zza 53 (zI x1.n) (zza 54 (zB (decide ((i : Int) < (x1.n : Int)))) (zzb (zzu (b := decide ((i : Int) < (x1.n : Int))) xj (fun hb18 => ?_) (fun hb18 => ?_)))))))))
  ·replace hb18 : (decide ((i : Int) < (x1.n : Int))) = true := hb18
   have qhb18 := of_decide_eq_true hb18
   refine zzs (zzp ?_)
   refine zzd (zzt (zzd (zzd ?_)))
   have hTi := hT1 i xq
   have hTj := hT2 i xq
   refine zzz [0, 1, 0, 7, 15, 31, 63, 0, 128, 0, 896, 1920, 3968, 8064, 16383] [(0, []), (1, []), (2, []), (3, []), (4, []), (5, []), (6, []), (7, []), (8, []), (9, []), (10, []), (11, []), (12, []), (13, []), (14, [])] xj xj (zza 57 (.adr 2 9) (zzi 58 (.v x1.v) ty47 zzl (zza 59 (zI i) ?_)))
   obtain ⟨b19, hA19, hc19⟩ := nodes_at (i := i) gA1 xq
   refine zya 60 (0 + i * 1) (n := x1.n) (off := 0) (sz := 1) (i := (i : Int)) xq hA19 xq xq sl47 (zza 61 (.v (.pointer (some ⟨b19, 0 + i * 1 + 0, none⟩))) (zyl 62 (.slice (La.getD i sl0).a (La.getD i sl0).n (La.getD i sl0).c) ((e13.trans (g15.ext.trans e17)).cell hc19) ty74 (zza 63 (zI (((La.getD i sl0).n : Nat) : Int)) (zza 64 (.adr 3 9) (zzi 65 (.v x2.v) ty47 zzl (zza 66 (zI i) ?_))))))
   obtain ⟨b20, hA20, hc20⟩ := nodes_at (i := i) gA2 xq
   refine zya 67 (0 + i * 1) (n := x2.n) (off := 0) (sz := 1) (i := (i : Int)) xq hA20 xq xq sl47 (zza 68 (.v (.pointer (some ⟨b20, 0 + i * 1 + 0, none⟩))) (zyl 69 (.slice (Lb.getD i sl0).a (Lb.getD i sl0).n (Lb.getD i sl0).c) ((e13.trans (g15.ext.trans e17)).cell hc20) ty74 (zza 70 (zI (((Lb.getD i sl0).n : Nat) : Int)) (zza 71 (zB ((((La.getD i sl0).n : Nat) : Int) != (((Lb.getD i sl0).n : Nat) : Int))) (zzb (zzu (b := (((La.getD i sl0).n : Nat) : Int) != (((Lb.getD i sl0).n : Nat) : Int)) xj (fun hb => ?_) (fun hb => ?_)))))))
   ·exact absurd hb (by rw [show ((((La.getD i sl0).n : Nat) : Int) != (((Lb.getD i sl0).n : Nat) : Int)) = false from (by rw [(hT1 i xq).1, hT2 i xq]; exact bne_self_eq_false _)]; decide)
   ·clear hb
    refine zzs (zzp ?_)
    refine sq9 (zza 6 (zI 0) (zzb (zzt (zyn (I := fun m21 S' u' => ∃ (j : Nat), (m21 = (N.getD i []).length - j) ∧ (j ≤ (N.getD i []).length) ∧ (S' = St.of 102 [(2, .adr 2 0), (3, .adr 3 0), (5, zI i), (6, zI j)] [(2, ⟨49, [.int .i64 D.b, .int .i64 D.f, .int .i64 D.r, .int .i64 D.o, .int .i64 W.b, .int .i64 W.f, .int .i64 W.r, .int .i64 W.o, .int .i64 n, .slice x1.a x1.n x1.c, .slice z1.a z1.n z1.c, .int .i64 q]⟩), (3, ⟨49, [.int .i64 D.b, .int .i64 D.f, .int .i64 D.r, .int .i64 D.o, .int .i64 W.b, .int .i64 W.f, .int .i64 W.r, .int .i64 W.o, .int .i64 n, .slice x2.a x2.n x2.c, .slice z2.a z2.n z2.c, .int .i64 q]⟩)]) ∧ (Ext u17 u')) (fun m S u1 u2 e h => by obtain ⟨j, hm, p0, hS, hE⟩ := h; exact ⟨j, hm, p0, hS, hE.trans e⟩) _ yz ⟨0, rfl, Nat.zero_le _, rfl, (Ext.refl _)⟩ ?_))))
    rintro m21 _ u21 ⟨j, hm21, hj, rfl, e21⟩
    refine zzd (sq9 (zza 72 (zI j) (zza 73 (.adr 2 9) (zzi 74 (.v x1.v) ty47 zzl (zza 75 (zI i) ?_)))))
    obtain ⟨b22, hA22, hc22⟩ := nodes_at (i := i) gA1 xq
    refine zya 76 (0 + i * 1) (n := x1.n) (off := 0) (sz := 1) (i := (i : Int)) xq hA22 xq xq sl47 (zza 77 (.v (.pointer (some ⟨b22, 0 + i * 1 + 0, none⟩))) (zyl 78 (.slice (La.getD i sl0).a (La.getD i sl0).n (La.getD i sl0).c) ((e13.trans (g15.ext.trans (e17.trans e21))).cell hc22) ty74 (zza 79 (zI (((La.getD i sl0).n : Nat) : Int)) (zza 80 (zB (decide ((j : Int) < (((La.getD i sl0).n : Nat) : Int)))) (zzc 102 [(2, .adr 2 0), (3, .adr 3 0), (5, zI i), (6, zI j), (80, zB (decide ((j : Int) < (((La.getD i sl0).n : Nat) : Int))))] [(2, ⟨49, [.int .i64 D.b, .int .i64 D.f, .int .i64 D.r, .int .i64 D.o, .int .i64 W.b, .int .i64 W.f, .int .i64 W.r, .int .i64 W.o, .int .i64 n, x1.v, z1.v, .int .i64 q]⟩), (3, ⟨49, [.int .i64 D.b, .int .i64 D.f, .int .i64 D.r, .int .i64 D.o, .int .i64 W.b, .int .i64 W.f, .int .i64 W.r, .int .i64 W.o, .int .i64 n, x2.v, z2.v, .int .i64 q]⟩)] (zzu (b := decide ((j : Int) < (((La.getD i sl0).n : Nat) : Int))) xj (fun hb23 => ?_) (fun hb23 => ?_)))))))
    ·replace hb23 : (decide ((j : Int) < (((La.getD i sl0).n : Nat) : Int))) = true := hb23
     have qhb23 := of_decide_eq_true hb23
     refine zzs (zzp ?_)
     refine zzd (zzt (zzd (zzz [0, 1, 0, 7, 15, 31, 0, 127, 255, 0, 512, 0, 3584, 7680, 15872, 0, 65024, 130560, 262143] [(0, []), (1, []), (2, []), (3, []), (4, []), (5, []), (6, []), (7, []), (8, []), (9, []), (10, []), (11, []), (12, []), (13, []), (14, []), (15, []), (16, []), (17, []), (18, [])] xj xj (zza 83 (.adr 2 9) (zzi 84 (.v x1.v) ty47 zzl (zza 85 (zI i) ?_))))))
     obtain ⟨b24, hA24, hc24⟩ := nodes_at (i := i) gA1 xq
     refine zya 86 (0 + i * 1) (n := x1.n) (off := 0) (sz := 1) (i := (i : Int)) xq hA24 xq xq sl47 (zza 87 (.v (.pointer (some ⟨b24, 0 + i * 1 + 0, none⟩))) (zyl 88 (.slice (La.getD i sl0).a (La.getD i sl0).n (La.getD i sl0).c) ((e13.trans (g15.ext.trans (e17.trans e21))).cell hc24) ty74 (zza 89 (zI j) ?_)))
     obtain ⟨b25, hA25, hc25⟩ := terms_at (i := j) (T := (N.getD i [])) (gC1 i xq).1 xq
     refine zya 90 (0 + j * 2) (n := (La.getD i sl0).n) (off := 0) (sz := 2) (i := (j : Int)) xq hA25 xq xq sl74 (zym 91 ((N.getD i []).getD j tl0).cs (fun j hj => by have h9 := hc25 j hj; rw [List.getElem?_eq_getElem hj] at h9 ⊢; exact (e13.trans (g15.ext.trans (e17.trans e21))).cell h9) ty78 ?_)
     refine zza 92 (.adr 3 9) (zzi 93 (.v x2.v) ty47 zzl (zza 94 (zI i) ?_))
     obtain ⟨b26, hA26, hc26⟩ := nodes_at (i := i) gA2 xq
     refine zya 95 (0 + i * 1) (n := x2.n) (off := 0) (sz := 1) (i := (i : Int)) xq hA26 xq xq sl47 (zza 96 (.v (.pointer (some ⟨b26, 0 + i * 1 + 0, none⟩))) (zyl 97 (.slice (Lb.getD i sl0).a (Lb.getD i sl0).n (Lb.getD i sl0).c) ((e13.trans (g15.ext.trans (e17.trans e21))).cell hc26) ty74 (zza 98 (zI j) ?_)))
     obtain ⟨b27, hA27, hc27⟩ := terms_at (i := j) (T := (N.getD i [])) (gC2 i xq).1 xq
     refine zya 99 (0 + j * 2) (n := (Lb.getD i sl0).n) (off := 0) (sz := 2) (i := (j : Int)) xq hA27 xq xq sl74 (zym 100 ((N.getD i []).getD j tl0).cs (fun j hj => by have h9 := hc27 j hj; rw [List.getElem?_eq_getElem hj] at h9 ⊢; exact (e13.trans (g15.ext.trans (e17.trans e21))).cell h9) ty78 ?_)
     refine zza 101 (zB false) ?_ (hrun := fun B w => exec_neqS (T := 78) (x := .tmp 91) (y := .tmp 100) (t2 := 78) [((N.getD i []).getD j tl0).f, ((N.getD i []).getD j tl0).c] w (by rfl) xj xj xj xj xj xj)
     refine zzb (zys xj (zzs (zzp ?_)))
     refine zzf (zza 81 (zI j) (zyq 82 (x := zI (IntKind.i64.wrap ((j : Int) + 1))) (zI (j + 1 : Nat)) (eqI xk) (zza 6 (zI (j + 1 : Nat)) (zzx ?_))))
     refine ⟨_, ?_, _, by exact zzv _ _ _, j + 1, rfl, by omega, rfl, e21⟩
     omega
    ·replace hb23 : (decide ((j : Int) < (((La.getD i sl0).n : Nat) : Int))) = false := hb23
     have qhb23 := of_decide_eq_false hb23
     refine zyc (zzp (zzf (zza 55 (zI i) (zyq 56 (x := zI (IntKind.i64.wrap ((i : Int) + 1))) (zI (i + 1 : Nat)) (eqI xk) (zza 5 (zI (i + 1 : Nat)) (zzx ?_))))))
     refine ⟨_, ?_, _, by exact zzv _ _ _, i + 1, rfl, by omega, rfl, (e17.trans e21)⟩
     omega
  ·replace hb18 : (decide ((i : Int) < (x1.n : Int))) = false := hb18
   have qhb18 := of_decide_eq_false hb18
   refine zyc (zzp (sq9 (zza 4 (zB true) (zzb (zzo (ret0 [.bool true] ⟨zzq, trivial⟩ fun u28 e29 => ?_))))))
   rfl
set_option maxHeartbeats 1000000 in
theorem k_sameFilt {u w : World} {x1 y1 x2 y2 : Sl} {l m : List Rat} {K : Nat} (d : Dat u w) (hx1 : PolN u x1 l K) (hy1 : PolN u y1 m K) (hx2 : PolN u x2 l K) (hy2 : PolN u y2 m K) (hK : K ≤ 1000000) (h8 : l.length ≤ 1000) (h9 : m.length ≤ 1000) : Calls Tryz.prog 21 #[.agg #[x1.v, y1.v], .agg #[x2.v, y2.v]] w (Post u w fun v u' => v = .bool true) := by
 have hl1 := hx1.len
 have hl2 := hx2.len
 have hl3 := hy1.len
 have hl4 := hy2.len
 refine zzm (args := [.agg #[.slice x1.a x1.n x1.c, .slice y1.a y1.n y1.c], .agg #[.slice x2.a x2.n x2.c, .slice y2.a y2.n y2.c]]) Tryz.func21 rfl Tryz.ntmps21 (rs := [.tmp 4]) Tryz.results21 (le_b rfl) (le_b rfl) d ?_
 refine sq9 (zzk 2 ⟨31, [x1.v, y1.v]⟩ (zzk 3 ⟨31, [x2.v, y2.v]⟩ (zza 4 (zB false) (zzb (sq9 (zza 5 (.adr 2 0) (zzi 6 (.v x1.v) ty29 zzl (zza 7 (.adr 3 0) (zzi 8 (.v x2.v) ty29 zzl (zzg 9 74 [x1.v, x2.v] ?_))))))))))
 intro w11 u11 e11 d11
 have k14 := k_r5Same d11 (hx1.ext e11).raw (hx2.ext e11).raw xq xq xz xz
 with_reducible refine zPm k14 ?_
 rintro _ u12 g13 rfl
 refine zyq 10 (x := zB (decide (Nt.trimQ l = Nt.trimQ l))) (zB true) (by rw [show (decide (Nt.trimQ l = Nt.trimQ l)) = true from decide_eq_true rfl]) (zza 11 (.adr 2 1) ?_ (hw := w1 5 true 10))
 refine zzi 12 (.v y1.v) ty29 zzl ?_ (hw := w1 5 true 10)
 refine zza 13 (.adr 3 1) ?_ (hw := w1 5 true 10)
 refine zzi 14 (.v y2.v) ty29 zzl ?_ (hw := w1 5 true 10)
 refine zzg 15 74 [y1.v, y2.v] ?_ (hw := w1 5 true 10)
 intro w16 u16 e16 d16
 have k19 := k_r5Same d16 (hy1.ext (e11.trans (g13.ext.trans e16))).raw (hy2.ext (e11.trans (g13.ext.trans e16))).raw xq xq xz xz
 with_reducible refine zPm k19 ?_
 rintro _ u17 g18 rfl
 refine zza 16 (zB (decide (Nt.trimQ m = Nt.trimQ m))) (zza 4 (zB (decide (Nt.trimQ m = Nt.trimQ m))) (zzb (zzo (ret0 [.bool (decide (Nt.trimQ m = Nt.trimQ m))] ⟨zzq, trivial⟩ fun u20 e21 => ?_))))
 show Value.bool _ = Value.bool _
 rw [show (decide (Nt.trimQ m = Nt.trimQ m)) = true from decide_eq_true rfl]
structure NetC where
 D : WL
 W : WL
 n : Int
 N : List (List TL)
 s : List Int
 q : Int
def netC (D W : WL) (L : List (List Int)) : NetC := if Nt.csED D W L = 0 then ⟨D, W, ((2 + 2 * L.length : Nat) : Int), Nt.csNodes L.length L L.length, Nt.csNext L.length L.length, ((2 + 2 * L.length + L.length : Nat) : Int)⟩ else ⟨⟨0, 0, 0, 0⟩, ⟨0, 0, 0, 0⟩, 0, [], [], 0⟩
def filC (W : WL) (L : List (List Int)) : List Rat × List Rat := if Nt.csE W L = 0 then (Nt.csP (Nt.csN W.f) L L.length, Nt.csP (Nt.csD W.f) L L.length) else ([], [])
def stC (W : WL) (L : List (List Int)) : Bool := if Nt.csE W L = 0 then Nt.csSt W.f L else false
theorem csED_ok {D W : WL} {L : List (List Int)} (h : Nt.csED D W L = 0) : WdOK D ∧ Nt.csE W L = 0 := by
 unfold Nt.csED at h
 by_cases hD : WdOK D
 ·rw [if_neg (not_not_intro hD)] at h; exact ⟨hD, h⟩
 ·rw [if_pos hD] at h; cases h
theorem netC_ok (D W : WL) (L : List (List Int)) : (∀ z ∈ (netC D W L).s, -9223372036854775808 ≤ z ∧ z ≤ 9223372036854775807) ∧ (netC D W L).s.length ≤ 1000 ∧ (netC D W L).N.length ≤ 1000 ∧ ∀ i, i < (netC D W L).N.length → ((netC D W L).N.getD i []).length ≤ 1000 := by
 by_cases h : Nt.csED D W L = 0
 ·obtain ⟨hD, hE⟩ := csED_ok h
  have hok := Nt.csNetOK hD hE
  unfold netC
  rw [if_pos h]
  have h1 := hok.hs
  have h2 := hok.hn
  have h3 := hok.hx
  refine ⟨fun z hz => ?_, by show (Nt.csNext L.length L.length).length ≤ 1000; omega, by show (Nt.csNodes L.length L L.length).length ≤ 1000; omega, fun i hi => Nat.le_trans (hok.ht i hi).1 yq⟩
  have hz : z ∈ Nt.csNext L.length L.length := hz
  obtain ⟨j, hj, rfl⟩ := Nt.mem_getD hz
  have h9 := hok.hr j hj
  omega
 ·unfold netC
  rw [if_neg h]
  exact ⟨fun z hz => (by cases hz), by decide, by decide, fun i hi => absurd hi (Nat.not_lt_zero i)⟩
theorem filC_ok (W : WL) (L : List (List Int)) : (filC W L).1.length ≤ 1000 ∧ (filC W L).2.length ≤ 1000 := by
 unfold filC
 by_cases h : Nt.csE W L = 0
 ·obtain ⟨_, _, h8, _⟩ := Nt.csE_ok h
  rw [if_pos h]
  exact ⟨Nat.le_trans (Nt.csP_len (fun _ => rfl)) xq, Nat.le_trans (Nt.csP_len (fun _ => rfl)) xq⟩
 ·rw [if_neg h]
  exact ⟨by decide, by decide⟩
theorem k_csBuildU {u w : World} {x : Sl} {L : List (List Int)} {D W : WL} {R : NetC} (d : Dat u w) (hR : R = netC D W L) (hx : IrV 5 u x L) (hb : ∀ p ∈ L, ∀ z ∈ p, -9223372036854775808 ≤ z ∧ z ≤ 9223372036854775807) : Calls Tryz.prog 39 #[x.v, D.v, W.v] w (Post u w fun v u' => ∃ y z : Sl, v = .tuple #[.agg #[.int .i64 R.D.b, .int .i64 R.D.f, .int .i64 R.D.r, .int .i64 R.D.o, .int .i64 R.W.b, .int .i64 R.W.f, .int .i64 R.W.r, .int .i64 R.W.o, .int .i64 R.n, y.v, z.v, .int .i64 R.q], .int .i64 (Nt.csED D W L)] ∧ (∃ h, NodesB 0 h u' y R.N) ∧ MutL 1 3 0 u' z (ics R.s)) := by
 subst hR
 unfold netC
 by_cases h : Nt.csED D W L = 0
 ·rw [if_pos h, h]
  exact k_csBuild d (csED_ok h).1 (csED_ok h).2 hx hb
 ·rw [if_neg h]
  exact Post.mono (k_csBuildBad d h hx hb) fun v u' _ e => ⟨⟨none, 0, 0⟩, ⟨none, 0, 0⟩, e, ⟨0, NodesB.nil 0 0 _⟩, MutL.nil _ _ _ _⟩
theorem k_rcsBuildU {u w : World} {x : Sl} {L : List (List Int)} {D W : WL} {R : NetC} (d : Dat u w) (hR : R = netC D W L) (hx : IrV 5 u x L) (hb : ∀ p ∈ L, ∀ z ∈ p, -9223372036854775808 ≤ z ∧ z ≤ 9223372036854775807) : Calls Tryz.prog 40 #[x.v, D.v, W.v] w (Post u w fun v u' => ∃ y z : Sl, v = .tuple #[.agg #[.int .i64 R.D.b, .int .i64 R.D.f, .int .i64 R.D.r, .int .i64 R.D.o, .int .i64 R.W.b, .int .i64 R.W.f, .int .i64 R.W.r, .int .i64 R.W.o, .int .i64 R.n, y.v, z.v, .int .i64 R.q], .int .i64 (Nt.csED D W L)] ∧ (∃ h, NodesB 0 h u' y R.N) ∧ MutL 1 3 0 u' z (ics R.s)) := by
 subst hR
 unfold netC
 by_cases h : Nt.csED D W L = 0
 ·rw [if_pos h, h]
  exact k_rcsBuild d h (csED_ok h).1 (csED_ok h).2 hx hb
 ·rw [if_neg h]
  exact Post.mono (k_rcsBuildBad d h hx hb) fun v u' _ e => ⟨⟨none, 0, 0⟩, ⟨none, 0, 0⟩, e, ⟨0, NodesB.nil 0 0 _⟩, MutL.nil _ _ _ _⟩
theorem k_csIdealU {u w : World} {x : Sl} {L : List (List Int)} {W : WL} {Q : List Rat × List Rat} (d : Dat u w) (hQ : Q = filC W L) (hx : IrV 5 u x L) (hb : ∀ p ∈ L, ∀ z ∈ p, -9223372036854775808 ≤ z ∧ z ≤ 9223372036854775807) : Calls Tryz.prog 38 #[x.v, W.v] w (Post u w fun v u' => ∃ y z : Sl, v = .tuple #[.agg #[y.v, z.v], .int .i64 (Nt.csE W L)] ∧ PolN u' y Q.1 7 ∧ PolN u' z Q.2 7) := by
 subst hQ
 unfold filC
 by_cases h : Nt.csE W L = 0
 ·rw [if_pos h, h]
  exact k_csIdeal d h hx hb
 ·rw [if_neg h]
  exact Post.mono (k_csIdealBad d h hx hb) fun v u' _ e => ⟨⟨none, 0, 0⟩, ⟨none, 0, 0⟩, e, pol_nil _ _, pol_nil _ _⟩
theorem k_rcsIdealU {u w : World} {x : Sl} {L : List (List Int)} {W : WL} {Q : List Rat × List Rat} (d : Dat u w) (hQ : Q = filC W L) (hx : IrV 5 u x L) (hb : ∀ p ∈ L, ∀ z ∈ p, -9223372036854775808 ≤ z ∧ z ≤ 9223372036854775807) : Calls Tryz.prog 41 #[x.v, W.v] w (Post u w fun v u' => ∃ y z : Sl, v = .tuple #[.agg #[y.v, z.v], .int .i64 (Nt.csE W L)] ∧ PolN u' y Q.1 7 ∧ PolN u' z Q.2 7) := by
 subst hQ
 unfold filC
 by_cases h : Nt.csE W L = 0
 ·rw [if_pos h, h]
  exact k_rcsIdeal d h hx hb
 ·rw [if_neg h]
  exact Post.mono (k_rcsIdealBad d h hx hb) fun v u' _ e => ⟨⟨none, 0, 0⟩, ⟨none, 0, 0⟩, e, pol_nil _ _, pol_nil _ _⟩
theorem k_csStableU {u w : World} {x : Sl} {L : List (List Int)} {W : WL} (d : Dat u w) (hx : IrV 5 u x L) (hb : ∀ p ∈ L, ∀ z ∈ p, -9223372036854775808 ≤ z ∧ z ≤ 9223372036854775807) : Calls Tryz.prog 42 #[x.v, W.v] w (Post u w fun v u' => v = .tuple #[.bool (stC W L), .int .i64 (Nt.csE W L)]) := by
 unfold stC
 by_cases h : Nt.csE W L = 0
 ·rw [if_pos h, h]
  exact k_csStable d h hx hb
 ·rw [if_neg h]
  exact k_csStableBad d h hx hb
theorem k_rcsStableU {u w : World} {x : Sl} {L : List (List Int)} {W : WL} (d : Dat u w) (hx : IrV 5 u x L) (hb : ∀ p ∈ L, ∀ z ∈ p, -9223372036854775808 ≤ z ∧ z ≤ 9223372036854775807) : Calls Tryz.prog 43 #[x.v, W.v] w (Post u w fun v u' => v = .tuple #[.bool (stC W L), .int .i64 (Nt.csE W L)]) := by
 unfold stC
 by_cases h : Nt.csE W L = 0
 ·rw [if_pos h, h]
  exact k_rcsStable d h hx hb
 ·rw [if_neg h]
  exact k_rcsStableBad d h hx hb
set_option maxHeartbeats 4000000 in
theorem w_csBuilds {u w : World} {x : Sl} {L : List (List Int)} {D W : WL} (d : Dat u w) (hx : IrV 5 u x L) (hb : ∀ p ∈ L, ∀ z ∈ p, -9223372036854775808 ≤ z ∧ z ≤ 9223372036854775807) : Calls Tryz.prog 8 #[x.v, D.v, W.v] w (Post u w fun v _ => v = .bool true) := by
 obtain ⟨hR1, hR2, hR3, hR4⟩ := netC_ok D W L
 obtain ⟨hQ1, hQ2⟩ := filC_ok W L
 obtain ⟨R, hR⟩ : ∃ R, R = netC D W L := ⟨_, rfl⟩
 obtain ⟨Q, hQ⟩ : ∃ Q, Q = filC W L := ⟨_, rfl⟩
 rw [← hR] at hR1 hR2 hR3 hR4
 rw [← hQ] at hQ1 hQ2
 refine zzm (args := [.slice x.a x.n x.c, .agg #[.int .i64 D.b, .int .i64 D.f, .int .i64 D.r, .int .i64 D.o], .agg #[.int .i64 W.b, .int .i64 W.f, .int .i64 W.r, .int .i64 W.o]]) Tryz.func8 rfl Tryz.ntmps8 (rs := [.tmp 6]) Tryz.results8 (le_b rfl) (le_b rfl) d ?_
 refine sq9 (zzk 4 ⟨24, D.cs⟩ (zzk 5 ⟨24, W.cs⟩ (zza 6 (zB false) (zzb (zzd (sq9 (zza 19 (.v x.v) (zza 20 (zI x.n) (zza 21 (zB (decide ((20 : Int) < (x.n : Int)))) (zzb (zzu (b := decide ((20 : Int) < (x.n : Int))) xj (fun hb11 => ?_) (fun hb11 => ?_))))))))))))
 ·replace hb11 : (decide ((20 : Int) < (x.n : Int))) = true := hb11
  have qhb11 := of_decide_eq_true hb11
  refine sq9 (zzg 22 35 [] ?_)
  intro w12 u12 e12 d12
  have k15 := k_known24 d12
  with_reducible refine zPm k15 ?_
  rintro _ u13 g14 rfl
  refine zza 6 (zB true) (zzb (zzo (zzw (ret0 [.bool true] ⟨zzq, trivial⟩ fun u16 e17 => ?_))))
  exact rfl
 ·replace hb11 : (decide ((20 : Int) < (x.n : Int))) = false := hb11
  have qhb11 := of_decide_eq_false hb11
  refine zzs (zzp ?_)
  refine sq9 (zza 24 (.v x.v) (zzi 25 (.v (D.v)) ty24 zze (zzi 26 (.v (W.v)) ty24 zze (zzg 27 39 [x.v, D.v, W.v] ?_))))
  intro w18 u18 e18 d18
  have k22 := k_csBuildU (D := D) (W := W) d18 hR (hx.ext e18) hb
  with_reducible refine zPm k22 ?_
  rintro _ u20 g21 ⟨y19, z19, rfl, ⟨hh19, hN19⟩, hX19⟩
  refine zza 23 (.v (.tuple #[.agg #[.int .i64 R.D.b, .int .i64 R.D.f, .int .i64 R.D.r, .int .i64 R.D.o, .int .i64 R.W.b, .int .i64 R.W.f, .int .i64 R.W.r, .int .i64 R.W.o, .int .i64 R.n, y19.v, z19.v, .int .i64 R.q], .int .i64 (Nt.csED D W L)])) (zza 28 (.v (.agg #[.int .i64 R.D.b, .int .i64 R.D.f, .int .i64 R.D.r, .int .i64 R.D.o, .int .i64 R.W.b, .int .i64 R.W.f, .int .i64 R.W.r, .int .i64 R.W.o, .int .i64 R.n, y19.v, z19.v, .int .i64 R.q])) (zza 29 (zI (Nt.csED D W L)) (zzk 7 ⟨49, [.int .i64 0, .int .i64 0, .int .i64 0, .int .i64 0, .int .i64 0, .int .i64 0, .int .i64 0, .int .i64 0, .int .i64 0, .slice none 0 0, .slice none 0 0, .int .i64 0]⟩ (zzj ⟨49, [.int .i64 R.D.b, .int .i64 R.D.f, .int .i64 R.D.r, .int .i64 R.D.o, .int .i64 R.W.b, .int .i64 R.W.f, .int .i64 R.W.r, .int .i64 R.W.o, .int .i64 R.n, y19.v, z19.v, .int .i64 R.q]⟩ ty49 ?_))))
  refine zza 8 (zI (Nt.csED D W L)) (zzb (sq9 (zza 31 (.v x.v) (zzi 32 (.v (D.v)) ty24 zze (zzi 33 (.v (W.v)) ty24 zze (zzg 34 40 [x.v, D.v, W.v] ?_))))))
  intro w23 u23 e23 d23
  have k27 := k_rcsBuildU (D := D) (W := W) d23 hR (hx.ext (e18.trans (g21.ext.trans e23))) hb
  with_reducible refine zPm k27 ?_
  rintro _ u25 g26 ⟨y24, z24, rfl, ⟨hh24, hN24⟩, hX24⟩
  refine zza 30 (.v (.tuple #[.agg #[.int .i64 R.D.b, .int .i64 R.D.f, .int .i64 R.D.r, .int .i64 R.D.o, .int .i64 R.W.b, .int .i64 R.W.f, .int .i64 R.W.r, .int .i64 R.W.o, .int .i64 R.n, y24.v, z24.v, .int .i64 R.q], .int .i64 (Nt.csED D W L)])) (zza 35 (.v (.agg #[.int .i64 R.D.b, .int .i64 R.D.f, .int .i64 R.D.r, .int .i64 R.D.o, .int .i64 R.W.b, .int .i64 R.W.f, .int .i64 R.W.r, .int .i64 R.W.o, .int .i64 R.n, y24.v, z24.v, .int .i64 R.q])) (zza 36 (zI (Nt.csED D W L)) (zzk 9 ⟨49, [.int .i64 0, .int .i64 0, .int .i64 0, .int .i64 0, .int .i64 0, .int .i64 0, .int .i64 0, .int .i64 0, .int .i64 0, .slice none 0 0, .slice none 0 0, .int .i64 0]⟩ (zzj ⟨49, [.int .i64 R.D.b, .int .i64 R.D.f, .int .i64 R.D.r, .int .i64 R.D.o, .int .i64 R.W.b, .int .i64 R.W.f, .int .i64 R.W.r, .int .i64 R.W.o, .int .i64 R.n, y24.v, z24.v, .int .i64 R.q]⟩ ty49 ?_))))
  refine zza 10 (zI (Nt.csED D W L)) (zzb (sq9 (zza 38 (.v x.v) (zzi 39 (.v (W.v)) ty24 zze (zzg 40 38 [x.v, W.v] ?_)))))
  intro w28 u28 e28 d28
  have k32 := k_csIdealU (W := W) d28 hQ (hx.ext (e18.trans (g21.ext.trans (e23.trans (g26.ext.trans e28))))) hb
  with_reducible refine zPm k32 ?_
  rintro _ u30 g31 ⟨y29, z29, rfl, hf29, hg29⟩
  refine zza 37 (.v (.tuple #[.agg #[y29.v, z29.v], .int .i64 (Nt.csE W L)])) (zza 41 (.v (.agg #[y29.v, z29.v])) (zza 42 (zI (Nt.csE W L)) (zzk 11 ⟨31, [.slice none 0 0, .slice none 0 0]⟩ (zzj ⟨31, [y29.v, z29.v]⟩ ty31 ?_))))
  refine zza 12 (zI (Nt.csE W L)) (zzc 92 [(0, .v x.v), (5, .adr 5 0), (7, .adr 7 0), (8, zI (Nt.csED D W L)), (9, .adr 9 0), (10, zI (Nt.csED D W L)), (11, .adr 11 0), (12, zI (Nt.csE W L))] [(5, ⟨24, W.cs⟩), (7, ⟨49, [.int .i64 R.D.b, .int .i64 R.D.f, .int .i64 R.D.r, .int .i64 R.D.o, .int .i64 R.W.b, .int .i64 R.W.f, .int .i64 R.W.r, .int .i64 R.W.o, .int .i64 R.n, y19.v, z19.v, .int .i64 R.q]⟩), (9, ⟨49, [.int .i64 R.D.b, .int .i64 R.D.f, .int .i64 R.D.r, .int .i64 R.D.o, .int .i64 R.W.b, .int .i64 R.W.f, .int .i64 R.W.r, .int .i64 R.W.o, .int .i64 R.n, y24.v, z24.v, .int .i64 R.q]⟩), (11, ⟨31, [y29.v, z29.v]⟩)] (sq9 (zza 44 (.v x.v) (zzi 45 (.v (W.v)) ty24 zze (zzg 46 41 [x.v, W.v] ?_)))))
  intro w33 u33 e33 d33
  have k37 := k_rcsIdealU (W := W) d33 hQ (hx.ext (e18.trans (g21.ext.trans (e23.trans (g26.ext.trans (e28.trans (g31.ext.trans e33))))))) hb
  with_reducible refine zPm k37 ?_
  rintro _ u35 g36 ⟨y34, z34, rfl, hf34, hg34⟩
  refine zza 43 (.v (.tuple #[.agg #[y34.v, z34.v], .int .i64 (Nt.csE W L)])) (zza 47 (.v (.agg #[y34.v, z34.v])) (zza 48 (zI (Nt.csE W L)) (zzk 13 ⟨31, [.slice none 0 0, .slice none 0 0]⟩ (zzj ⟨31, [y34.v, z34.v]⟩ ty31 ?_))))
  refine zza 14 (zI (Nt.csE W L)) (zzb (sq9 (zza 50 (.v x.v) (zzi 51 (.v (W.v)) ty24 zze (zzg 52 42 [x.v, W.v] ?_)))))
  intro w38 u38 e38 d38
  have k41 := k_csStableU (W := W) d38 (hx.ext (e18.trans (g21.ext.trans (e23.trans (g26.ext.trans (e28.trans (g31.ext.trans (e33.trans (g36.ext.trans e38))))))))) hb
  with_reducible refine zPm k41 ?_
  rintro _ u39 g40 rfl
  refine zza 49 (.v (.tuple #[.bool (stC W L), .int .i64 (Nt.csE W L)])) (zza 53 (zB (stC W L)) (zza 54 (zI (Nt.csE W L)) (zza 15 (zB (stC W L)) (zza 16 (zI (Nt.csE W L)) (zzb (sq9 (zza 56 (.v x.v) (zzi 57 (.v (W.v)) ty24 zze (zzg 58 43 [x.v, W.v] ?_)))))))))
  intro w42 u42 e42 d42
  have k45 := k_rcsStableU (W := W) d42 (hx.ext (e18.trans (g21.ext.trans (e23.trans (g26.ext.trans (e28.trans (g31.ext.trans (e33.trans (g36.ext.trans (e38.trans (g40.ext.trans e42))))))))))) hb
  with_reducible refine zPm k45 ?_
  rintro _ u43 g44 rfl
  refine zza 55 (.v (.tuple #[.bool (stC W L), .int .i64 (Nt.csE W L)])) (zza 59 (zB (stC W L)) (zza 60 (zI (Nt.csE W L)) (zza 17 (zB (stC W L)) (zza 18 (zI (Nt.csE W L)) (zzb (sq9 (zzg 61 35 [] ?_)))))))
  intro w46 u46 e46 d46
  have k49 := k_known24 d46
  with_reducible refine zPm k49 ?_
  rintro _ u47 g48 rfl
  refine zza 62 (zB true) (zza 63 (zI (Nt.csED D W L)) ?_ (hw := w1 1 true 62))
  refine zza 64 (zI (Nt.csED D W L)) ?_ (hw := w1 1 true 62)
  refine zza 65 (zB ((Nt.csED D W L) == (Nt.csED D W L))) ?_ (hw := w1 1 true 62)
  refine zza 66 (zB ((Nt.csED D W L) == (Nt.csED D W L))) (zyq 67 (x := zB ((Nt.csED D W L) == (Nt.csED D W L))) (zB true) (by rw [show ((Nt.csED D W L) == (Nt.csED D W L)) = true from (beq_self_eq_true _)]) (zzi 68 (.v (.agg #[.int .i64 R.D.b, .int .i64 R.D.f, .int .i64 R.D.r, .int .i64 R.D.o, .int .i64 R.W.b, .int .i64 R.W.f, .int .i64 R.W.r, .int .i64 R.W.o, .int .i64 R.n, y19.v, z19.v, .int .i64 R.q])) ty49 zze ?_ (hw := w1 6 true 67)))
  refine zzi 69 (.v (.agg #[.int .i64 R.D.b, .int .i64 R.D.f, .int .i64 R.D.r, .int .i64 R.D.o, .int .i64 R.W.b, .int .i64 R.W.f, .int .i64 R.W.r, .int .i64 R.W.o, .int .i64 R.n, y24.v, z24.v, .int .i64 R.q])) ty49 zze ?_ (hw := w1 6 true 67)
  refine zzg 70 20 [.agg #[.int .i64 R.D.b, .int .i64 R.D.f, .int .i64 R.D.r, .int .i64 R.D.o, .int .i64 R.W.b, .int .i64 R.W.f, .int .i64 R.W.r, .int .i64 R.W.o, .int .i64 R.n, y19.v, z19.v, .int .i64 R.q], .agg #[.int .i64 R.D.b, .int .i64 R.D.f, .int .i64 R.D.r, .int .i64 R.D.o, .int .i64 R.W.b, .int .i64 R.W.f, .int .i64 R.W.r, .int .i64 R.W.o, .int .i64 R.n, y24.v, z24.v, .int .i64 R.q]] ?_ (hw := w1 6 true 67)
  intro w51 u51 e51 d51
  have k54 := k_sameNets (D := R.D) (W := R.W) (x1 := y19) (x2 := y24) (z1 := z19) (z2 := z24) (n := R.n) (q := R.q) d51 (hN19.ext (e23.trans (g26.ext.trans (e28.trans (g31.ext.trans (e33.trans (g36.ext.trans (e38.trans (g40.ext.trans (e42.trans (g44.ext.trans (e46.trans (g48.ext.trans e51))))))))))))) (hN24.ext (e28.trans (g31.ext.trans (e33.trans (g36.ext.trans (e38.trans (g40.ext.trans (e42.trans (g44.ext.trans (e46.trans (g48.ext.trans e51))))))))))) (hX19.ext (e23.trans (g26.ext.trans (e28.trans (g31.ext.trans (e33.trans (g36.ext.trans (e38.trans (g40.ext.trans (e42.trans (g44.ext.trans (e46.trans (g48.ext.trans e51))))))))))))) (hX24.ext (e28.trans (g31.ext.trans (e33.trans (g36.ext.trans (e38.trans (g40.ext.trans (e42.trans (g44.ext.trans (e46.trans (g48.ext.trans e51))))))))))) hR1 hR2 hR3 hR4
  with_reducible refine zPm k54 ?_
  rintro _ u52 g53 rfl
  refine zza 71 (zB true) (zza 72 (zB true) (zza 73 (zI (Nt.csE W L)) ?_ (hw := w1 11 true 72)))
  refine zza 74 (zI (Nt.csE W L)) ?_ (hw := w1 11 true 72)
  refine zza 75 (zB ((Nt.csE W L) == (Nt.csE W L))) ?_ (hw := w1 11 true 72)
  refine zza 76 (zB ((Nt.csE W L) == (Nt.csE W L))) (zyq 77 (x := zB ((Nt.csE W L) == (Nt.csE W L))) (zB true) (by rw [show ((Nt.csE W L) == (Nt.csE W L)) = true from (beq_self_eq_true _)]) (zzi 78 (.v (.agg #[y29.v, z29.v])) ty31 zze ?_ (hw := w1 16 true 77)))
  refine zzi 79 (.v (.agg #[y34.v, z34.v])) ty31 zze ?_ (hw := w1 16 true 77)
  refine zzg 80 21 [.agg #[y29.v, z29.v], .agg #[y34.v, z34.v]] ?_ (hw := w1 16 true 77)
  intro w56 u56 e56 d56
  have k59 := k_sameFilt (K := 7) (x1 := y29) (y1 := z29) (x2 := y34) (y2 := z34) d56 (hf29.ext (e33.trans (g36.ext.trans (e38.trans (g40.ext.trans (e42.trans (g44.ext.trans (e46.trans (g48.ext.trans (e51.trans (g53.ext.trans e56))))))))))) (hg29.ext (e33.trans (g36.ext.trans (e38.trans (g40.ext.trans (e42.trans (g44.ext.trans (e46.trans (g48.ext.trans (e51.trans (g53.ext.trans e56))))))))))) (hf34.ext (e38.trans (g40.ext.trans (e42.trans (g44.ext.trans (e46.trans (g48.ext.trans (e51.trans (g53.ext.trans e56))))))))) (hg34.ext (e38.trans (g40.ext.trans (e42.trans (g44.ext.trans (e46.trans (g48.ext.trans (e51.trans (g53.ext.trans e56))))))))) xq hQ1 hQ2
  with_reducible refine zPm k59 ?_
  rintro _ u57 g58 rfl
  refine zza 81 (zB true) (zza 82 (zB true) (zza 83 (zB (stC W L)) ?_ (hw := w1 21 true 82)))
  refine zza 84 (zB (stC W L)) ?_ (hw := w1 21 true 82)
  refine zza 85 (zB ((stC W L) == (stC W L))) ?_ (hw := w1 21 true 82)
  refine zza 86 (zB ((stC W L) == (stC W L))) (zyq 87 (x := zB ((stC W L) == (stC W L))) (zB true) (by rw [show ((stC W L) == (stC W L)) = true from (beq_self_eq_true _)]) (zza 88 (zI (Nt.csE W L)) ?_ (hw := w1 26 true 87)))
  refine zza 89 (zI (Nt.csE W L)) ?_ (hw := w1 26 true 87)
  refine zza 90 (zB ((Nt.csE W L) == (Nt.csE W L))) ?_ (hw := w1 26 true 87)
  refine zza 91 (zB ((Nt.csE W L) == (Nt.csE W L))) (zza 6 (zB ((Nt.csE W L) == (Nt.csE W L))) (zzc 92 [(6, zB ((Nt.csE W L) == (Nt.csE W L)))] [] (zzo (ret0 [.bool ((Nt.csE W L) == (Nt.csE W L))] ⟨zzq, trivial⟩ fun u61 e62 => ?_))))
  show Value.bool _ = Value.bool _
  rw [show ((Nt.csE W L) == (Nt.csE W L)) = true from (beq_self_eq_true _)]
end Go.Proofs.YtdmpfhhhlhoeiaaGreat
