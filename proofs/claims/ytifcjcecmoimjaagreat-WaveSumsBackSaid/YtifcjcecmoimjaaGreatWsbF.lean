/- Parts of the proof: contracts of functions, each walked once, and plain laws. -/
import Derived.Test.YtifcjcecmoimjaaGreatWsbE
namespace Go.Proofs.YtifcjcecmoimjaaGreat
open Go.RowKit
set_option linter.unusedVariables false
theorem blk_cells {u : World} {b off : Nat} {ty : TypeId} {cs l : List Value} (h : u.heap[b]? = some (.cells cs.toArray ty (0, 0))) (hl : (cs.drop off).take l.length = l) : ∀ i, i < l.length → u.cell? ⟨b, off + i, none⟩ = l[i]? := fun i hi => by
 rw [cells_at h]
 have : l[i]? = ((cs.drop off).take l.length)[i]? := by rw [hl]
 rw [this, List.getElem?_take_of_lt hi, List.getElem?_drop]; simp
set_option maxHeartbeats 2000000 in
theorem k_pnode {u w : World} {F : List Nat} {bb lo : Nat} {r : BL} {N : List (List TL)} {s : List Int} {x c y e : Int} (d : Dat u w) (h : BldR 121 (· ∈ F) u bb r N s) (hlo : lo ≤ u.heap.size) (hn : r.n ≤ 100) (hN : N.length ≤ 200) : Calls Tryz.prog 58 #[.pointer (some ⟨bb, 0, none⟩), .int .i64 x, .int .i64 c, .int .i64 y, .int .i64 e] w (PostF F u w fun v u' => v = .int .i64 ((r.n + N.length + 1 : Nat) : Int) ∧ ∃ X' : Sl, BldR 121 (fun b => b ∈ F ∨ lo ≤ b) u' bb { r with X := X' } (N ++ [[⟨x, c⟩, ⟨y, e⟩]]) s) := by
 obtain ⟨hB0, hM0, hX0, hY0⟩ := BldR.free (u0 := u) (w := w) h
 have hz0 : u.heap.size ≤ u.heap.size := Nat.le_refl _
 have hl0 := NodesM.len hX0
 refine calls_symF (F := F) (args := [.pointer (some ⟨bb, 0, none⟩), .int .i64 x, .int .i64 c, .int .i64 y, .int .i64 e]) Tryz.func58 rfl Tryz.ntmps58 (rs := [.tmp 10]) Tryz.results58 (le_b rfl) (le_b rfl) d ?_
 refine sq9 (zza 10 (zI 0) (zzb (sq9 (zza 12 (zI x) (zza 13 (zI c) (zza 14 (.v (.agg #[.int .i64 x, .int .i64 c])) (zza 15 (zI y) (zza 16 (zI e) (zza 17 (.v (.agg #[.int .i64 y, .int .i64 e])) (sy_dataF 18 ⟨64, [.int .i64 x, .int .i64 c, .int .i64 y, .int .i64 e]⟩ 2 (fun b11 u11 e11 h11 f11 g11 => ?_)))))))))))
 have hm11 : MutM 2 64 (fun _ => True) u11 (⟨some ⟨b11, 0, none⟩, 2, 2⟩ : Sl) (tcs [(⟨x, c⟩ : TL), (⟨y, e⟩ : TL)]) := MutM.lit h11 rfl yj trivial
 refine zza 11 (.v (.slice (some ⟨b11, 0, none⟩) 2 2)) (zzb (sq9 (zza 19 (.v (.pointer (some ⟨bb, 0, none⟩))) (zza 20 (.v (.pointer (some ⟨bb, 0, none⟩))) (zza 21 (.v (.pointer (some ⟨bb, 0, none⟩))) (zza 22 (.v (.pointer (some ⟨bb, 0, none⟩))) (zza 23 (.v (.pointer (some ⟨bb, 9, none⟩))) ?_)))))))
 have hB12 := e11.cells hB0
 have hX12 := hX0.ext e11
 have hY12 := hY0.ext e11
 have hz12 := Nat.le_trans hz0 e11.size
 refine zyl 24 r.X.v (zxc (j := 9) hB12 rfl) ty53 (zza 25 (.v (.slice (some ⟨b11, 0, none⟩) 2 2)) (zza 26 (.v (.agg #[.slice (some ⟨b11, 0, none⟩) 2 2])) (sy_dataF 27 ⟨62, [.slice (some ⟨b11, 0, none⟩) 2 2]⟩ 1 (fun b13 u13 e13 h13 f13 g13 => ?_))))
 have hB14 := e13.cells hB12
 have hX14 := hX12.ext e13
 have hY14 := hY12.ext e13
 have hz14 := Nat.le_trans hz12 e13.size
 obtain ⟨Ls15, gA15, gB15, gC15⟩ := id hX14
 have hl15 := NodesM.len hX14
 refine sy_appX 28 (T := 53) (E := 62) (z := .agg #[.slice none 0 0]) (size := 1) (bytes := 24) (b2 := b13) (off := 0) (m := 1) r.X (Ls15.map Sl.v) [.slice (some ⟨b11, 0, none⟩) 2 2] hz14 gA15 xj xj xj yv rfl (lit_news ((Ext.refl _).cells h13)) (sl_one (⟨some ⟨b11, 0, none⟩, 2, 2⟩ : Sl)) yv yj xq (fun y15 u15 hm15 hn15 hs15 hk15 => ?_)
 have hX15 : NodesM _ u15 y15 (N ++ [[(⟨x, c⟩ : TL), (⟨y, e⟩ : TL)]]) := NodesM.snoc gB15 gC15 (hm11.ext e13) hk15 hm15
 have hB15 := hk15 _ _ _ yv hB14
 have hY15 := hY14.keep hk15 yv
 have hz15 := Nat.le_trans hz14 hs15
 refine zza 29 (.v (.pointer (some ⟨bb, 0, none⟩))) (zza 30 (.v (.pointer (some ⟨bb, 0, none⟩))) (zza 31 (.v (.pointer (some ⟨bb, 9, none⟩))) (sy_storeD (b := bb) (off := 9) hB15 hM0 ty53 (show 9 + 1 ≤ 14 by decide) (fun u16 hS16 eB16 => ?_))))
 have hB16 : u16.heap[bb]? = some (.cells (⟨⟨r.D.b, r.D.f, r.D.r, r.D.o⟩, ⟨r.W.b, r.W.f, r.W.r, r.W.o⟩, r.n, y15, r.Y, r.o, r.t, r.f⟩ : BL).cs.toArray 121 (0, 0)) := hS16
 have hX16 := hX15.extB eB16 hB15 yv yv
 have hY16 := hY15.extB eB16 hB15 yv
 have hz16 := Nat.le_trans hz15 eB16.size
 refine zzb (zzd (zzz [0, 1, 3, 7, 15, 0, 32, 96, 224, 480, 992, 2047, 4095] [(0, []), (1, []), (2, []), (3, []), (4, []), (5, []), (6, []), (7, []), (8, []), (9, []), (10, []), (11, []), (12, [])] xj xj (zza 32 (.v (.pointer (some ⟨bb, 0, none⟩))) (zza 33 (.v (.pointer (some ⟨bb, 0, none⟩))) (zza 34 (.v (.pointer (some ⟨bb, 0, none⟩))) (zza 35 (.v (.pointer (some ⟨bb, 8, none⟩))) (zyl 36 (.int .i64 r.n) (zxc (j := 8) hB16 rfl) ty3 (zza 37 (.v (.pointer (some ⟨bb, 0, none⟩))) (zza 38 (.v (.pointer (some ⟨bb, 0, none⟩))) (zza 39 (.v (.pointer (some ⟨bb, 0, none⟩))) (zza 40 (.v (.pointer (some ⟨bb, 9, none⟩))) ?_)))))))))))
 refine zyl 41 y15.v (zxc (j := 9) hB16 rfl) ty53 (zza 42 (zI y15.n) (zyq 43 (x := zI (IntKind.i64.wrap ((r.n : Int) + (y15.n : Int)))) (zI (r.n + y15.n : Nat)) (eqI xz) (zza 10 (zI (r.n + y15.n : Nat)) (zzc 44 [(10, zI (r.n + y15.n : Nat))] [] (zzo (ret0 [.int .i64 (r.n + y15.n : Nat)] ⟨zzq, trivial⟩ fun u17 e18 => ?_))))))
 have hB19 := e18.cells hB16
 have hX19 := hX16.ext e18
 have hY19 := hY16.ext e18
 have hz19 := Nat.le_trans hz16 e18.size
 refine ⟨?_, y15, ?_⟩
 ·show Value.int _ _ = Value.int _ _
  congr 1
  omega
 ·have hG : BldR 121 (MayB ⟨w, none, F⟩ u) u17 bb (⟨⟨r.D.b, r.D.f, r.D.r, r.D.o⟩, ⟨r.W.b, r.W.f, r.W.r, r.W.o⟩, r.n, y15, r.Y, r.o, r.t, r.f⟩ : BL) (N ++ [[(⟨x, c⟩ : TL), (⟨y, e⟩ : TL)]]) s := ⟨hB19, hM0, hX19, hY19⟩
  exact hG.mono fun b _ hb => hb.elim (fun h9 => .inr (Nat.le_trans hlo h9)) .inl
namespace Nt
def adN (U g u s : Int) (m : Nat) : List (List TL) := [[⟨u, -g⟩, ⟨s, g⟩], [⟨(m : Int), U⟩, ⟨s, U⟩], [⟨(m : Int), U⟩, ⟨u, U⟩]]
def secN (U : Int) (p : PL) (f : Nat) (u : Int) (m : Nat) : List (List TL) := if p.o = 1 then adN U p.g u (f : Int) m else adN U p.h (f : Int) ((f + 1 : Nat) : Int) m ++ adN U p.g u ((m + 1 : Nat) : Int) (m + 3)
def secX (p : PL) (f m : Nat) (s : List Int) : List Int := if p.o = 1 then s.set (f - 1) ((m + 2 : Nat) : Int) else (s.set (f - 1) ((m + 5 : Nat) : Int)).set f ((m + 2 : Nat) : Int)
def secO (p : PL) (m : Nat) : Nat := if p.o = 1 then m + 1 else m + 4
def secF (p : PL) (f : Nat) : Nat := if p.o = 1 then f + 1 else f + 2
end Nt
set_option maxHeartbeats 4000000 in
theorem k_padaptor {u w : World} {F : List Nat} {bb lo : Nat} {r : BL} {N : List (List TL)} {s : List Int} {g x y : Int} (d : Dat u w) (h : BldR 121 (· ∈ F) u bb r N s) (hlo : lo ≤ u.heap.size) (hg0 : -16777216 ≤ g) (hg1 : g ≤ 16777216) (hn : r.n ≤ 100) (hN : N.length ≤ 190) : Calls Tryz.prog 99 #[.pointer (some ⟨bb, 0, none⟩), .int .i64 g, .int .i64 x, .int .i64 y] w (PostF F u w fun v u' => v = .tuple #[.int .i64 ((r.n + N.length + 1 + 1 : Nat) : Int), .int .i64 ((r.n + N.length + 1 + 2 : Nat) : Int)] ∧ ∃ X' : Sl, BldR 121 (fun b => b ∈ F ∨ lo ≤ b) u' bb { r with X := X' } (N ++ Nt.adN r.t g x y (r.n + N.length + 1)) s) := by
 obtain ⟨hB0, hM0, hX0, hY0⟩ := BldR.free (u0 := u) (w := w) h
 have hz0 : u.heap.size ≤ u.heap.size := Nat.le_refl _
 have hl0 := NodesM.len hX0
 refine calls_symF (F := F) (args := [.pointer (some ⟨bb, 0, none⟩), .int .i64 g, .int .i64 x, .int .i64 y]) Tryz.func99 rfl Tryz.ntmps99 (rs := [.tmp 8, .tmp 9]) Tryz.results99 (le_b rfl) (le_b rfl) d ?_
 refine sq9 (zza 8 (zI 0) (zza 9 (zI 0) (zzb (sq9 (zza 13 (.v (.pointer (some ⟨bb, 0, none⟩))) (zza 14 (zI x) (zza 15 (zI g) (zyq 16 (x := zI (IntKind.i64.wrap (0 - g))) (zI (-g)) (eqI xz) (zza 17 (zI y) (zza 18 (zI g) ?_))))))))))
 have hA11 : BldR 121 (MayB ⟨w, none, F⟩ u) u bb (⟨⟨r.D.b, r.D.f, r.D.r, r.D.o⟩, ⟨r.W.b, r.W.f, r.W.r, r.W.o⟩, r.n, r.X, r.Y, r.o, r.t, r.f⟩ : BL) N s := ⟨hB0, hM0, hX0, hY0⟩
 have hl11 := NodesM.len hX0
 refine zwo (blks bb (⟨⟨r.D.b, r.D.f, r.D.r, r.D.o⟩, ⟨r.W.b, r.W.f, r.W.r, r.W.o⟩, r.n, r.X, r.Y, r.o, r.t, r.f⟩ : BL)) 19 58 [.pointer (some ⟨bb, 0, none⟩), .int .i64 x, .int .i64 (-g), .int .i64 y, .int .i64 g] (BldR.may hA11) (fun w11 u11 e11 d11 => k_pnode (lo := u.heap.size) d11 (hA11.own.ext e11) e11.size xq (by first|omega|(simp;omega) | (simp [Nt.adN]; omega))) (fun v11 u11b hF11 hv11 => ?_)
 obtain ⟨rfl, X11, hG11⟩ := hv11
 obtain ⟨hB11, hM11, hX11, hY11⟩ := hG11.back (fun b hb => (BldR.may hA11 b hb).1) hz0
 have hz11 := Nat.le_trans hz0 hF11.size
 have hl11b := NodesM.len hX11
 refine zza 10 (zI (r.n + N.length + 1 : Nat)) (zzb (zzd (sw_anyC [0, 0, 0, 4, 12, 28, 0, 0, 128, 384, 896, 2047, 4095] [(0, []), (1, []), (2, []), (3, []), (4, []), (5, []), (6, []), (7, []), (8, []), (9, []), (10, [])] [(11, []), (12, [])] xj xj xj ?_)))
 refine zza 20 (.v (.pointer (some ⟨bb, 0, none⟩))) (zza 21 (zI (r.n + N.length + 1 : Nat)) (zza 22 (.v (.pointer (some ⟨bb, 0, none⟩))) (zza 23 (.v (.pointer (some ⟨bb, 0, none⟩))) (zza 24 (.v (.pointer (some ⟨bb, 12, none⟩))) (zyl 25 (.int .i64 r.t) (zxc (j := 12) hB11 rfl) ty3 (zza 26 (zI y) (zza 27 (.v (.pointer (some ⟨bb, 0, none⟩))) (zza 28 (.v (.pointer (some ⟨bb, 0, none⟩))) (zza 29 (.v (.pointer (some ⟨bb, 12, none⟩))) (zyl 30 (.int .i64 r.t) (zxc (j := 12) hB11 rfl) ty3 (zzx ?_)))))))))))
 have hA12 : BldR 121 (MayB ⟨w, none, F⟩ u) u11b bb (⟨⟨r.D.b, r.D.f, r.D.r, r.D.o⟩, ⟨r.W.b, r.W.f, r.W.r, r.W.o⟩, r.n, X11, r.Y, r.o, r.t, r.f⟩ : BL) (N ++ [[(⟨x, -g⟩ : TL), (⟨y, g⟩ : TL)]]) s := ⟨hB11, hM11, hX11, hY11⟩
 have hl12 := NodesM.len hX11
 refine zwo (blks bb (⟨⟨r.D.b, r.D.f, r.D.r, r.D.o⟩, ⟨r.W.b, r.W.f, r.W.r, r.W.o⟩, r.n, X11, r.Y, r.o, r.t, r.f⟩ : BL)) 31 58 [.pointer (some ⟨bb, 0, none⟩), .int .i64 (r.n + N.length + 1 : Nat), .int .i64 r.t, .int .i64 y, .int .i64 r.t] (BldR.may hA12) (fun w12 u12 e12 d12 => k_pnode (lo := u11b.heap.size) d12 (hA12.own.ext e12) e12.size xq (by first|omega|(simp;omega) | (simp [Nt.adN]; omega))) (fun v12 u12b hF12 hv12 => ?_)
 obtain ⟨rfl, X12, hG12⟩ := hv12
 obtain ⟨hB12, hM12, hX12, hY12⟩ := hG12.back (fun b hb => (BldR.may hA12 b hb).1) hz11
 have hz12 := Nat.le_trans hz11 hF12.size
 have hl12b := NodesM.len hX12
 refine zza 11 (zI ((r.n + (N ++ [[(⟨x, -g⟩ : TL), (⟨y, g⟩ : TL)]]).length + 1 : Nat) : Int)) (zzb (zzd (sw_anyC [0, 0, 0, 4, 12, 28, 0, 0, 128, 384, 896, 2047, 4095] [(0, []), (1, []), (2, []), (3, []), (4, []), (5, []), (6, []), (7, []), (8, []), (9, []), (10, [])] [(11, []), (12, [])] xj xj xj ?_)))
 refine zza 32 (.v (.pointer (some ⟨bb, 0, none⟩))) (zza 33 (zI (r.n + N.length + 1 : Nat)) (zza 34 (.v (.pointer (some ⟨bb, 0, none⟩))) (zza 35 (.v (.pointer (some ⟨bb, 0, none⟩))) (zza 36 (.v (.pointer (some ⟨bb, 12, none⟩))) (zyl 37 (.int .i64 r.t) (zxc (j := 12) hB12 rfl) ty3 (zza 38 (zI x) (zza 39 (.v (.pointer (some ⟨bb, 0, none⟩))) (zza 40 (.v (.pointer (some ⟨bb, 0, none⟩))) (zza 41 (.v (.pointer (some ⟨bb, 12, none⟩))) (zyl 42 (.int .i64 r.t) (zxc (j := 12) hB12 rfl) ty3 (zzx ?_)))))))))))
 have hA13 : BldR 121 (MayB ⟨w, none, F⟩ u) u12b bb (⟨⟨r.D.b, r.D.f, r.D.r, r.D.o⟩, ⟨r.W.b, r.W.f, r.W.r, r.W.o⟩, r.n, X12, r.Y, r.o, r.t, r.f⟩ : BL) ((N ++ [[(⟨x, -g⟩ : TL), (⟨y, g⟩ : TL)]]) ++ [[(⟨((r.n + N.length + 1 : Nat) : Int), r.t⟩ : TL), (⟨y, r.t⟩ : TL)]]) s := ⟨hB12, hM12, hX12, hY12⟩
 have hl13 := NodesM.len hX12
 refine zwo (blks bb (⟨⟨r.D.b, r.D.f, r.D.r, r.D.o⟩, ⟨r.W.b, r.W.f, r.W.r, r.W.o⟩, r.n, X12, r.Y, r.o, r.t, r.f⟩ : BL)) 43 58 [.pointer (some ⟨bb, 0, none⟩), .int .i64 (r.n + N.length + 1 : Nat), .int .i64 r.t, .int .i64 x, .int .i64 r.t] (BldR.may hA13) (fun w13 u13 e13 d13 => k_pnode (lo := u12b.heap.size) d13 (hA13.own.ext e13) e13.size xq (by first|omega|(simp;omega) | (simp [Nt.adN]; omega))) (fun v13 u13b hF13 hv13 => ?_)
 obtain ⟨rfl, X13, hG13⟩ := hv13
 obtain ⟨hB13, hM13, hX13, hY13⟩ := hG13.back (fun b hb => (BldR.may hA13 b hb).1) hz12
 have hz13 := Nat.le_trans hz12 hF13.size
 have hl13b := NodesM.len hX13
 refine zza 12 (zI ((r.n + ((N ++ [[(⟨x, -g⟩ : TL), (⟨y, g⟩ : TL)]]) ++ [[(⟨((r.n + N.length + 1 : Nat) : Int), r.t⟩ : TL), (⟨y, r.t⟩ : TL)]]).length + 1 : Nat) : Int)) (zzc 46 [(11, zI ((r.n + (N ++ [[(⟨x, -g⟩ : TL), (⟨y, g⟩ : TL)]]).length + 1 : Nat) : Int)), (12, zI ((r.n + ((N ++ [[(⟨x, -g⟩ : TL), (⟨y, g⟩ : TL)]]) ++ [[(⟨((r.n + N.length + 1 : Nat) : Int), r.t⟩ : TL), (⟨y, r.t⟩ : TL)]]).length + 1 : Nat) : Int))] [] (sq9 (zza 44 (zI ((r.n + (N ++ [[(⟨x, -g⟩ : TL), (⟨y, g⟩ : TL)]]).length + 1 : Nat) : Int)) (zza 45 (zI ((r.n + ((N ++ [[(⟨x, -g⟩ : TL), (⟨y, g⟩ : TL)]]) ++ [[(⟨((r.n + N.length + 1 : Nat) : Int), r.t⟩ : TL), (⟨y, r.t⟩ : TL)]]).length + 1 : Nat) : Int)) (zza 8 (zI ((r.n + (N ++ [[(⟨x, -g⟩ : TL), (⟨y, g⟩ : TL)]]).length + 1 : Nat) : Int)) (zza 9 (zI ((r.n + ((N ++ [[(⟨x, -g⟩ : TL), (⟨y, g⟩ : TL)]]) ++ [[(⟨((r.n + N.length + 1 : Nat) : Int), r.t⟩ : TL), (⟨y, r.t⟩ : TL)]]).length + 1 : Nat) : Int)) (zzb (zzo (ret0 [.int .i64 ((r.n + (N ++ [[(⟨x, -g⟩ : TL), (⟨y, g⟩ : TL)]]).length + 1 : Nat) : Int), .int .i64 ((r.n + ((N ++ [[(⟨x, -g⟩ : TL), (⟨y, g⟩ : TL)]]) ++ [[(⟨((r.n + N.length + 1 : Nat) : Int), r.t⟩ : TL), (⟨y, r.t⟩ : TL)]]).length + 1 : Nat) : Int)] ⟨zzq, zzq, trivial⟩ fun u14 e15 => ?_)))))))))
 have hB16 := e15.cells hB13
 have hX16 := hX13.ext e15
 have hY16 := hY13.ext e15
 have hz16 := Nat.le_trans hz13 e15.size
 have eN : (((N ++ [[(⟨x, -g⟩ : TL), (⟨y, g⟩ : TL)]]) ++ [[(⟨((r.n + N.length + 1 : Nat) : Int), r.t⟩ : TL), (⟨y, r.t⟩ : TL)]]) ++ [[(⟨((r.n + N.length + 1 : Nat) : Int), r.t⟩ : TL), (⟨x, r.t⟩ : TL)]]) = (N ++ Nt.adN r.t g x y (r.n + N.length + 1)) := by simp [Nt.adN]
 have hXe := hX16
 rw [eN] at hXe
 refine ⟨?_, X13, ?_⟩
 ·show Value.tuple _ = Value.tuple _
  simp
  omega
 ·have hG : BldR 121 (MayB ⟨w, none, F⟩ u) u14 bb (⟨⟨r.D.b, r.D.f, r.D.r, r.D.o⟩, ⟨r.W.b, r.W.f, r.W.r, r.W.o⟩, r.n, X13, r.Y, r.o, r.t, r.f⟩ : BL) (N ++ Nt.adN r.t g x y (r.n + N.length + 1)) s := ⟨hB16, hM13, hXe, hY16⟩
  exact hG.mono fun b _ hb => hb.elim (fun h9 => .inr (Nat.le_trans hlo h9)) .inl
namespace Nt
theorem adN_len (U g u s : Int) (m : Nat) : (adN U g u s m).length = 3 := rfl
end Nt
set_option maxHeartbeats 4000000 in
theorem k_psection1 {u w : World} {F : List Nat} {bb lo : Nat} {r : BL} {N : List (List TL)} {s : List Int} {q z : Int} {g : Int} (hg0 : -16777216 ≤ g) (hg1 : g ≤ 16777216) (d : Dat u w) (h9 : BldR 121 (· ∈ F) u bb r N s) (hlo : lo ≤ u.heap.size) (hf1 : 1 ≤ r.f) (hfs : r.f + 0 ≤ s.length) (hs : s.length ≤ 100) (hn : r.n ≤ 100) (hN : N.length ≤ 150) (ht : r.t = Nt.p2i z) (hz : z ≤ 23) : Calls Tryz.prog 57 #[.pointer (some ⟨bb, 0, none⟩), (⟨1, g, 0⟩ : PL).v, .int .i64 q] w (PostF F u w fun v u' => v = .int .i64 ((Nt.secO (⟨1, g, 0⟩ : PL) (r.n + N.length + 1) : Nat) : Int) ∧ ∃ X' : Sl, BldR 121 (fun b => b ∈ F ∨ lo ≤ b) u' bb { r with X := X', f := Nt.secF (⟨1, g, 0⟩ : PL) r.f } (N ++ Nt.secN r.t (⟨1, g, 0⟩ : PL) r.f q (r.n + N.length + 1)) (Nt.secX (⟨1, g, 0⟩ : PL) r.f (r.n + N.length + 1) s)) := by
 obtain ⟨hB0, hM0, hX0, hY0⟩ := BldR.free (u0 := u) (w := w) h9
 have hz0 : u.heap.size ≤ u.heap.size := Nat.le_refl _
 have hl0 := NodesM.len hX0
 refine calls_symF (F := F) (args := [.pointer (some ⟨bb, 0, none⟩), .agg #[.int .i64 1, .int .i64 g, .int .i64 0], .int .i64 q]) Tryz.func57 rfl Tryz.ntmps57 (rs := [.tmp 6]) Tryz.results57 (le_b rfl) (le_b rfl) d ?_
 refine sq9 (zzk 4 ⟨114, [.int .i64 1, .int .i64 g, .int .i64 0]⟩ (zza 6 (zI 0) (zzb (sq9 (zza 15 (.v (.pointer (some ⟨bb, 0, none⟩))) (zza 16 (.v (.pointer (some ⟨bb, 0, none⟩))) (zza 17 (.v (.pointer (some ⟨bb, 13, none⟩))) (zyl 18 (.int .i64 r.f) (zxc (j := 13) hB0 rfl) ty3 (zza 7 (zI r.f) (zzb (zzd ?_)))))))))))
 refine sq9 (zza 19 (.adr 4 0) (zzi 20 (zI 1) ty3 zzl (zza 21 (zB true) (zzb (zyr xj (sq9 (zza 22 (.v (.pointer (some ⟨bb, 0, none⟩))) (zza 23 (.v (.pointer (some ⟨bb, 0, none⟩))) (zza 24 (.v (.pointer (some ⟨bb, 13, none⟩))) (zyl 25 (.int .i64 r.f) (zxc (j := 13) hB0 rfl) ty3 (zyq 26 (x := zI (IntKind.i64.wrap ((r.f : Int) + 1))) (zI (r.f + 1 : Nat)) (eqI xz) ?_)))))))))))
 refine zza 27 (.v (.pointer (some ⟨bb, 0, none⟩))) (zza 28 (.v (.pointer (some ⟨bb, 13, none⟩))) (sy_storeD (b := bb) (off := 13) hB0 hM0 ty3 (show 13 + 1 ≤ 14 by decide) (fun u11 hS11 eB11 => ?_)))
 have hB11 : u11.heap[bb]? = some (.cells (⟨⟨r.D.b, r.D.f, r.D.r, r.D.o⟩, ⟨r.W.b, r.W.f, r.W.r, r.W.o⟩, r.n, r.X, r.Y, r.o, r.t, r.f + 1⟩ : BL).cs.toArray 121 (0, 0)) := hS11
 have hX11 := hX0.extB eB11 hB0 yv yv
 have hY11 := hY0.extB eB11 hB0 yv
 have hz11 := Nat.le_trans hz0 eB11.size
 refine zzb (sq9 (zza 30 (.v (.pointer (some ⟨bb, 0, none⟩))) (zza 31 (.adr 4 1) (zza 32 (.adr 4 1) (zzi 33 (zI g) ty3 zzl (zza 34 (zI q) (zza 35 (zI r.f) ?_)))))))
 have hA12 : BldR 121 (MayB ⟨w, none, F⟩ u) u11 bb (⟨⟨r.D.b, r.D.f, r.D.r, r.D.o⟩, ⟨r.W.b, r.W.f, r.W.r, r.W.o⟩, r.n, r.X, r.Y, r.o, r.t, r.f + 1⟩ : BL) N s := ⟨hB11, hM0, hX11, hY11⟩
 have hl12 := NodesM.len hX11
 refine zwo (blks bb (⟨⟨r.D.b, r.D.f, r.D.r, r.D.o⟩, ⟨r.W.b, r.W.f, r.W.r, r.W.o⟩, r.n, r.X, r.Y, r.o, r.t, r.f + 1⟩ : BL)) 36 99 [.pointer (some ⟨bb, 0, none⟩), .int .i64 g, .int .i64 q, .int .i64 r.f] (BldR.may hA12) (fun w12 u12 e12 d12 => k_padaptor (lo := u11.heap.size) d12 (hA12.own.ext e12) e12.size xq xq xq (by first|omega|(simp;omega) | (simp [Nt.adN]; omega))) (fun v12 u12b hF12 hv12 => ?_)
 obtain ⟨rfl, X12, hG12⟩ := hv12
 obtain ⟨hB12, hM12, hX12, hY12⟩ := hG12.back (fun b hb => (BldR.may hA12 b hb).1) hz11
 have hz12 := Nat.le_trans hz11 hF12.size
 have hl12b := NodesM.len hX12
 refine zza 29 (.v (.tuple #[.int .i64 (r.n + N.length + 1 + 1 : Nat), .int .i64 (r.n + N.length + 1 + 2 : Nat)])) (zza 37 (zI (r.n + N.length + 1 + 1 : Nat)) (zza 38 (zI (r.n + N.length + 1 + 2 : Nat)) (zza 8 (zI (r.n + N.length + 1 + 1 : Nat)) (zza 9 (zI (r.n + N.length + 1 + 2 : Nat)) (zzb (sq9 (zza 39 (.v (.pointer (some ⟨bb, 0, none⟩))) (zza 40 (.v (.pointer (some ⟨bb, 0, none⟩))) (zza 41 (.v (.pointer (some ⟨bb, 0, none⟩))) (zza 42 (.v (.pointer (some ⟨bb, 10, none⟩))) (zyl 43 r.Y.v (zxc (j := 10) hB12 rfl) ty37 ?_)))))))))))
 refine zza 44 (zI r.f) (zyq 45 (x := zI (IntKind.i64.wrap ((r.f : Int) - 1))) (zI (r.f - 1 : Nat)) (eqI xz) (zza 46 (zI (r.n + N.length + 1 + 2 : Nat)) ?_))
 obtain ⟨b13, hA13, hc13⟩ := MutL.cell (j := r.f - 1) hY12.toL (by rw [zwm]; first | omega | (simp only [List.length_set]; omega))
 refine zya 47 (0 + (r.f - 1) * 1) (n := r.Y.n) (off := 0) (sz := 1) (i := ((r.f - 1 : Nat) : Int)) xq hA13 xq (by have h9 : (ics s).length = r.Y.n * 1 := hY12.1; rw [zwm] at h9; have h8 : r.f - 1 < s.length := (by first | omega | (simp only [List.length_set]; omega)); omega) sl37 (sy_storeX (z := ((r.n + N.length + 1 + 2 : Nat) : Int)) (i := r.f - 1) (l := s) r.Y hY12 hA13 ty3 (by first | omega | (simp only [List.length_set]; omega)) (fun u14 hY14 hs14 hk14 => ?_))
 have hB14 := hk14 _ _ _ yv hB12
 have hX14 := hX12.keep hk14 yv yv
 have hz14 := Nat.le_trans hz12 hs14
 refine zzc 97 [(8, zI (r.n + N.length + 1 + 1 : Nat))] [] (sq9 (zza 48 (zI (r.n + N.length + 1 + 1 : Nat)) (zza 6 (zI (r.n + N.length + 1 + 1 : Nat)) (zzb (zzo (zzw (ret0 [.int .i64 (r.n + N.length + 1 + 1 : Nat)] ⟨zzq, trivial⟩ fun u15 e16 => ?_)))))))
 have hB17 := e16.cells hB14
 have hX17 := hX14.ext e16
 have hY17 := hY14.ext e16
 have hz17 := Nat.le_trans hz14 e16.size
 have eN : (N ++ Nt.adN r.t g q (r.f : Int) (r.n + N.length + 1)) = (N ++ Nt.secN r.t (⟨1, g, 0⟩ : PL) r.f q (r.n + N.length + 1)) := by simp [Nt.secN]
 have hXe := hX17
 rw [eN] at hXe
 have eS : (s.set (r.f - 1) ((r.n + N.length + 1 + 2 : Nat) : Int)) = (Nt.secX (⟨1, g, 0⟩ : PL) r.f (r.n + N.length + 1) s) := by simp [Nt.secX]
 have hYe := hY17
 rw [eS] at hYe
 refine ⟨?_, X12, ?_⟩
 ·show Value.int _ _ = Value.int _ _
  first | rfl | (congr 1; simp [Nt.secO, Nt.adN]; omega) | (congr 1; simp [Nt.secO]; omega)
 ·have hG : BldR 121 (MayB ⟨w, none, F⟩ u) u15 bb (⟨⟨r.D.b, r.D.f, r.D.r, r.D.o⟩, ⟨r.W.b, r.W.f, r.W.r, r.W.o⟩, r.n, X12, r.Y, r.o, r.t, r.f + 1⟩ : BL) (N ++ Nt.secN r.t (⟨1, g, 0⟩ : PL) r.f q (r.n + N.length + 1)) (Nt.secX (⟨1, g, 0⟩ : PL) r.f (r.n + N.length + 1) s) := ⟨hB17, hM12, hXe, hYe⟩
  exact hG.mono fun b _ hb => hb.elim (fun h9 => .inr (Nat.le_trans hlo h9)) .inl
set_option maxHeartbeats 4000000 in
theorem k_psection2 {u w : World} {F : List Nat} {bb lo : Nat} {r : BL} {N : List (List TL)} {s : List Int} {q z : Int} {g h : Int} (hg0 : -16777216 ≤ g) (hg1 : g ≤ 16777216) (hh0 : -16777216 ≤ h) (hh1 : h ≤ 16777216) (d : Dat u w) (h9 : BldR 121 (· ∈ F) u bb r N s) (hlo : lo ≤ u.heap.size) (hf1 : 1 ≤ r.f) (hfs : r.f + 1 ≤ s.length) (hs : s.length ≤ 100) (hn : r.n ≤ 100) (hN : N.length ≤ 150) (ht : r.t = Nt.p2i z) (hz : z ≤ 23) : Calls Tryz.prog 57 #[.pointer (some ⟨bb, 0, none⟩), (⟨2, g, h⟩ : PL).v, .int .i64 q] w (PostF F u w fun v u' => v = .int .i64 ((Nt.secO (⟨2, g, h⟩ : PL) (r.n + N.length + 1) : Nat) : Int) ∧ ∃ X' : Sl, BldR 121 (fun b => b ∈ F ∨ lo ≤ b) u' bb { r with X := X', f := Nt.secF (⟨2, g, h⟩ : PL) r.f } (N ++ Nt.secN r.t (⟨2, g, h⟩ : PL) r.f q (r.n + N.length + 1)) (Nt.secX (⟨2, g, h⟩ : PL) r.f (r.n + N.length + 1) s)) := by
 obtain ⟨hB0, hM0, hX0, hY0⟩ := BldR.free (u0 := u) (w := w) h9
 have hz0 : u.heap.size ≤ u.heap.size := Nat.le_refl _
 have hl0 := NodesM.len hX0
 refine calls_symF (F := F) (args := [.pointer (some ⟨bb, 0, none⟩), .agg #[.int .i64 2, .int .i64 g, .int .i64 h], .int .i64 q]) Tryz.func57 rfl Tryz.ntmps57 (rs := [.tmp 6]) Tryz.results57 (le_b rfl) (le_b rfl) d ?_
 refine sq9 (zzk 4 ⟨114, [.int .i64 2, .int .i64 g, .int .i64 h]⟩ (zza 6 (zI 0) (zzb (sq9 (zza 15 (.v (.pointer (some ⟨bb, 0, none⟩))) (zza 16 (.v (.pointer (some ⟨bb, 0, none⟩))) (zza 17 (.v (.pointer (some ⟨bb, 13, none⟩))) (zyl 18 (.int .i64 r.f) (zxc (j := 13) hB0 rfl) ty3 (zza 7 (zI r.f) (zzb (zzd ?_)))))))))))
 refine sq9 (zza 19 (.adr 4 0) (zzi 20 (zI 2) ty3 zzl (zza 21 (zB false) (zzb (zys xj (zzs (zzp ?_)))))))
 refine sq9 (zza 49 (zI r.f) (zyq 50 (x := zI (IntKind.i64.wrap ((r.f : Int) + 1))) (zI (r.f + 1 : Nat)) (eqI xz) (zza 10 (zI (r.f + 1 : Nat)) (zzb (sq9 (zza 51 (.v (.pointer (some ⟨bb, 0, none⟩))) (zza 52 (.v (.pointer (some ⟨bb, 0, none⟩))) (zza 53 (.v (.pointer (some ⟨bb, 13, none⟩))) (zyl 54 (.int .i64 r.f) (zxc (j := 13) hB0 rfl) ty3 (zyq 55 (x := zI (IntKind.i64.wrap ((r.f : Int) + 2))) (zI (r.f + 2 : Nat)) (eqI xz) (zza 56 (.v (.pointer (some ⟨bb, 0, none⟩))) ?_)))))))))))
 refine zza 57 (.v (.pointer (some ⟨bb, 13, none⟩))) (sy_storeD (b := bb) (off := 13) hB0 hM0 ty3 (show 13 + 1 ≤ 14 by decide) (fun u11 hS11 eB11 => ?_))
 have hB11 : u11.heap[bb]? = some (.cells (⟨⟨r.D.b, r.D.f, r.D.r, r.D.o⟩, ⟨r.W.b, r.W.f, r.W.r, r.W.o⟩, r.n, r.X, r.Y, r.o, r.t, r.f + 2⟩ : BL).cs.toArray 121 (0, 0)) := hS11
 have hX11 := hX0.extB eB11 hB0 yv yv
 have hY11 := hY0.extB eB11 hB0 yv
 have hz11 := Nat.le_trans hz0 eB11.size
 refine zzb (sq9 (zza 59 (.v (.pointer (some ⟨bb, 0, none⟩))) (zza 60 (.adr 4 1) (zza 61 (.adr 4 2) (zzi 62 (zI h) ty3 zzl (zza 63 (zI r.f) (zza 64 (zI (r.f + 1 : Nat)) ?_)))))))
 have hA12 : BldR 121 (MayB ⟨w, none, F⟩ u) u11 bb (⟨⟨r.D.b, r.D.f, r.D.r, r.D.o⟩, ⟨r.W.b, r.W.f, r.W.r, r.W.o⟩, r.n, r.X, r.Y, r.o, r.t, r.f + 2⟩ : BL) N s := ⟨hB11, hM0, hX11, hY11⟩
 have hl12 := NodesM.len hX11
 refine zwo (blks bb (⟨⟨r.D.b, r.D.f, r.D.r, r.D.o⟩, ⟨r.W.b, r.W.f, r.W.r, r.W.o⟩, r.n, r.X, r.Y, r.o, r.t, r.f + 2⟩ : BL)) 65 99 [.pointer (some ⟨bb, 0, none⟩), .int .i64 h, .int .i64 r.f, .int .i64 (r.f + 1 : Nat)] (BldR.may hA12) (fun w12 u12 e12 d12 => k_padaptor (lo := u11.heap.size) d12 (hA12.own.ext e12) e12.size xq xq xq (by first|omega|(simp;omega) | (simp [Nt.adN]; omega))) (fun v12 u12b hF12 hv12 => ?_)
 obtain ⟨rfl, X12, hG12⟩ := hv12
 obtain ⟨hB12, hM12, hX12, hY12⟩ := hG12.back (fun b hb => (BldR.may hA12 b hb).1) hz11
 have hz12 := Nat.le_trans hz11 hF12.size
 have hl12b := NodesM.len hX12
 refine zza 58 (.v (.tuple #[.int .i64 (r.n + N.length + 1 + 1 : Nat), .int .i64 (r.n + N.length + 1 + 2 : Nat)])) (zza 66 (zI (r.n + N.length + 1 + 1 : Nat)) (zza 67 (zI (r.n + N.length + 1 + 2 : Nat)) (zza 11 (zI (r.n + N.length + 1 + 1 : Nat)) (zza 12 (zI (r.n + N.length + 1 + 2 : Nat)) (zzc 97 [(0, .v (.pointer (some ⟨bb, 0, none⟩))), (2, zI q), (4, .adr 4 0), (7, zI r.f), (10, zI (r.f + 1 : Nat)), (11, zI (r.n + N.length + 1 + 1 : Nat)), (12, zI (r.n + N.length + 1 + 2 : Nat))] [(4, ⟨114, [.int .i64 2, .int .i64 g, .int .i64 h]⟩)] (sq9 (zza 69 (.v (.pointer (some ⟨bb, 0, none⟩))) (zza 70 (.adr 4 1) (zza 71 (.adr 4 1) (zzi 72 (zI g) ty3 zzl (zza 73 (zI q) ?_)))))))))))
 refine zza 74 (zI (r.n + N.length + 1 + 1 : Nat)) ?_
 have hA13 : BldR 121 (MayB ⟨w, none, F⟩ u) u12b bb (⟨⟨r.D.b, r.D.f, r.D.r, r.D.o⟩, ⟨r.W.b, r.W.f, r.W.r, r.W.o⟩, r.n, X12, r.Y, r.o, r.t, r.f + 2⟩ : BL) (N ++ Nt.adN r.t h (r.f : Int) ((r.f + 1 : Nat) : Int) (r.n + N.length + 1)) s := ⟨hB12, hM12, hX12, hY12⟩
 have hl13 := NodesM.len hX12
 refine zwo (blks bb (⟨⟨r.D.b, r.D.f, r.D.r, r.D.o⟩, ⟨r.W.b, r.W.f, r.W.r, r.W.o⟩, r.n, X12, r.Y, r.o, r.t, r.f + 2⟩ : BL)) 75 99 [.pointer (some ⟨bb, 0, none⟩), .int .i64 g, .int .i64 q, .int .i64 (r.n + N.length + 1 + 1 : Nat)] (BldR.may hA13) (fun w13 u13 e13 d13 => k_padaptor (lo := u12b.heap.size) d13 (hA13.own.ext e13) e13.size xq xq xq (by first|omega|(simp;omega) | (simp [Nt.adN]; omega))) (fun v13 u13b hF13 hv13 => ?_)
 obtain ⟨rfl, X13, hG13⟩ := hv13
 obtain ⟨hB13, hM13, hX13, hY13⟩ := hG13.back (fun b hb => (BldR.may hA13 b hb).1) hz12
 have hz13 := Nat.le_trans hz12 hF13.size
 have hl13b := NodesM.len hX13
 refine zza 68 (.v (.tuple #[.int .i64 ((r.n + (N ++ Nt.adN r.t h (r.f : Int) ((r.f + 1 : Nat) : Int) (r.n + N.length + 1)).length + 1 + 1 : Nat) : Int), .int .i64 ((r.n + (N ++ Nt.adN r.t h (r.f : Int) ((r.f + 1 : Nat) : Int) (r.n + N.length + 1)).length + 1 + 2 : Nat) : Int)])) (zza 76 (zI ((r.n + (N ++ Nt.adN r.t h (r.f : Int) ((r.f + 1 : Nat) : Int) (r.n + N.length + 1)).length + 1 + 1 : Nat) : Int)) (zza 77 (zI ((r.n + (N ++ Nt.adN r.t h (r.f : Int) ((r.f + 1 : Nat) : Int) (r.n + N.length + 1)).length + 1 + 2 : Nat) : Int)) (zza 13 (zI ((r.n + (N ++ Nt.adN r.t h (r.f : Int) ((r.f + 1 : Nat) : Int) (r.n + N.length + 1)).length + 1 + 1 : Nat) : Int)) (zza 14 (zI ((r.n + (N ++ Nt.adN r.t h (r.f : Int) ((r.f + 1 : Nat) : Int) (r.n + N.length + 1)).length + 1 + 2 : Nat) : Int)) (zzb (sq9 (zza 78 (.v (.pointer (some ⟨bb, 0, none⟩))) (zza 79 (.v (.pointer (some ⟨bb, 0, none⟩))) (zza 80 (.v (.pointer (some ⟨bb, 0, none⟩))) (zza 81 (.v (.pointer (some ⟨bb, 10, none⟩))) (zyl 82 r.Y.v (zxc (j := 10) hB13 rfl) ty37 ?_)))))))))))
 refine zza 83 (zI r.f) (zyq 84 (x := zI (IntKind.i64.wrap ((r.f : Int) - 1))) (zI (r.f - 1 : Nat)) (eqI xz) (zza 85 (zI ((r.n + (N ++ Nt.adN r.t h (r.f : Int) ((r.f + 1 : Nat) : Int) (r.n + N.length + 1)).length + 1 + 2 : Nat) : Int)) ?_))
 obtain ⟨b14, hA14, hc14⟩ := MutL.cell (j := r.f - 1) hY13.toL (by rw [zwm]; first | omega | (simp only [List.length_set]; omega))
 refine zya 86 (0 + (r.f - 1) * 1) (n := r.Y.n) (off := 0) (sz := 1) (i := ((r.f - 1 : Nat) : Int)) xq hA14 xq (by have h9 : (ics s).length = r.Y.n * 1 := hY13.1; rw [zwm] at h9; have h8 : r.f - 1 < s.length := (by first | omega | (simp only [List.length_set]; omega)); omega) sl37 (sy_storeX (z := ((r.n + (N ++ Nt.adN r.t h (r.f : Int) ((r.f + 1 : Nat) : Int) (r.n + N.length + 1)).length + 1 + 2 : Nat) : Int)) (i := r.f - 1) (l := s) r.Y hY13 hA14 ty3 (by first | omega | (simp only [List.length_set]; omega)) (fun u15 hY15 hs15 hk15 => ?_))
 have hB15 := hk15 _ _ _ yv hB13
 have hX15 := hX13.keep hk15 yv yv
 have hz15 := Nat.le_trans hz13 hs15
 refine zzb (sq9 (zza 87 (.v (.pointer (some ⟨bb, 0, none⟩))) (zza 88 (.v (.pointer (some ⟨bb, 0, none⟩))) (zza 89 (.v (.pointer (some ⟨bb, 0, none⟩))) (zza 90 (.v (.pointer (some ⟨bb, 10, none⟩))) (zyl 91 r.Y.v (zxc (j := 10) hB15 rfl) ty37 (zza 92 (zI (r.f + 1 : Nat)) (zyq 93 (x := zI (IntKind.i64.wrap (((r.f + 1 : Nat) : Int) - 1))) (zI (((r.f + 1) - 1 : Nat) : Int)) (eqI xz) (zza 94 (zI (r.n + N.length + 1 + 2 : Nat)) ?_)))))))))
 obtain ⟨b16, hA16, hc16⟩ := MutL.cell (j := (r.f + 1) - 1) hY15.toL (by rw [zwm]; first | omega | (simp only [List.length_set]; omega))
 refine zya 95 (0 + ((r.f + 1) - 1) * 1) (n := r.Y.n) (off := 0) (sz := 1) (i := (((r.f + 1) - 1 : Nat) : Int)) xq hA16 xq (by have h9 : (ics (s.set (r.f - 1) ((r.n + (N ++ Nt.adN r.t h (r.f : Int) ((r.f + 1 : Nat) : Int) (r.n + N.length + 1)).length + 1 + 2 : Nat) : Int))).length = r.Y.n * 1 := hY15.1; rw [zwm] at h9; have h8 : (r.f + 1) - 1 < (s.set (r.f - 1) ((r.n + (N ++ Nt.adN r.t h (r.f : Int) ((r.f + 1 : Nat) : Int) (r.n + N.length + 1)).length + 1 + 2 : Nat) : Int)).length := (by first | omega | (simp only [List.length_set]; omega)); omega) sl37 (sy_storeX (z := ((r.n + N.length + 1 + 2 : Nat) : Int)) (i := (r.f + 1) - 1) (l := (s.set (r.f - 1) ((r.n + (N ++ Nt.adN r.t h (r.f : Int) ((r.f + 1 : Nat) : Int) (r.n + N.length + 1)).length + 1 + 2 : Nat) : Int))) r.Y hY15 hA16 ty3 (by first | omega | (simp only [List.length_set]; omega)) (fun u17 hY17 hs17 hk17 => ?_))
 have hB17 := hk17 _ _ _ yv hB15
 have hX17 := hX15.keep hk17 yv yv
 have hz17 := Nat.le_trans hz15 hs17
 refine zzc 97 [(13, zI ((r.n + (N ++ Nt.adN r.t h (r.f : Int) ((r.f + 1 : Nat) : Int) (r.n + N.length + 1)).length + 1 + 1 : Nat) : Int))] [] (sq9 (zza 96 (zI ((r.n + (N ++ Nt.adN r.t h (r.f : Int) ((r.f + 1 : Nat) : Int) (r.n + N.length + 1)).length + 1 + 1 : Nat) : Int)) (zza 6 (zI ((r.n + (N ++ Nt.adN r.t h (r.f : Int) ((r.f + 1 : Nat) : Int) (r.n + N.length + 1)).length + 1 + 1 : Nat) : Int)) (zzb (zzo (ret0 [.int .i64 ((r.n + (N ++ Nt.adN r.t h (r.f : Int) ((r.f + 1 : Nat) : Int) (r.n + N.length + 1)).length + 1 + 1 : Nat) : Int)] ⟨zzq, trivial⟩ fun u18 e19 => ?_))))))
 have hB20 := e19.cells hB17
 have hX20 := hX17.ext e19
 have hY20 := hY17.ext e19
 have hz20 := Nat.le_trans hz17 e19.size
 have eN : ((N ++ Nt.adN r.t h (r.f : Int) ((r.f + 1 : Nat) : Int) (r.n + N.length + 1)) ++ Nt.adN r.t g q ((r.n + N.length + 1 + 1 : Nat) : Int) (r.n + (N ++ Nt.adN r.t h (r.f : Int) ((r.f + 1 : Nat) : Int) (r.n + N.length + 1)).length + 1)) = (N ++ Nt.secN r.t (⟨2, g, h⟩ : PL) r.f q (r.n + N.length + 1)) := by (rw [show r.n + (N ++ Nt.adN r.t h (r.f : Int) ((r.f + 1 : Nat) : Int) (r.n + N.length + 1)).length + 1 = r.n + N.length + 1 + 3 by rw [List.length_append, Nt.adN_len]; omega]; simp [Nt.secN, Nt.adN])
 have hXe := hX20
 rw [eN] at hXe
 have eS : ((s.set (r.f - 1) ((r.n + (N ++ Nt.adN r.t h (r.f : Int) ((r.f + 1 : Nat) : Int) (r.n + N.length + 1)).length + 1 + 2 : Nat) : Int)).set ((r.f + 1) - 1) ((r.n + N.length + 1 + 2 : Nat) : Int)) = (Nt.secX (⟨2, g, h⟩ : PL) r.f (r.n + N.length + 1) s) := by (rw [show r.n + (N ++ Nt.adN r.t h (r.f : Int) ((r.f + 1 : Nat) : Int) (r.n + N.length + 1)).length + 1 = r.n + N.length + 1 + 3 by rw [List.length_append, Nt.adN_len]; omega]; unfold Nt.secX; rw [if_neg (show ¬ ((2 : Int) = 1) by decide)]; rfl)
 have hYe := hY20
 rw [eS] at hYe
 refine ⟨?_, X13, ?_⟩
 ·show Value.int _ _ = Value.int _ _
  first | rfl | (congr 1; simp [Nt.secO, Nt.adN]; omega) | (congr 1; simp [Nt.secO]; omega)
 ·have hG : BldR 121 (MayB ⟨w, none, F⟩ u) u18 bb (⟨⟨r.D.b, r.D.f, r.D.r, r.D.o⟩, ⟨r.W.b, r.W.f, r.W.r, r.W.o⟩, r.n, X13, r.Y, r.o, r.t, r.f + 2⟩ : BL) (N ++ Nt.secN r.t (⟨2, g, h⟩ : PL) r.f q (r.n + N.length + 1)) (Nt.secX (⟨2, g, h⟩ : PL) r.f (r.n + N.length + 1) s) := ⟨hB20, hM13, hXe, hYe⟩
  exact hG.mono fun b _ hb => hb.elim (fun h9 => .inr (Nat.le_trans hlo h9)) .inl
namespace Nt
def ordN (p : PL) : Nat := if p.o = 1 then 1 else 2
end Nt
theorem pas_b24 {f g : Int} (hf : f ≤ 24) (h0 : -Nt.p2i f < g) (h1 : g < Nt.p2i f) : -16777216 ≤ g ∧ g ≤ 16777216 := by
 have := Nt.p2i_24 hf
 omega
theorem k_psection {u w : World} {F : List Nat} {bb lo : Nat} {r : BL} {N : List (List TL)} {s : List Int} {q f : Int} {p : PL} (hp : PasOK f p) (hf : f ≤ 23) (ht : r.t = Nt.p2i f) (d : Dat u w) (h : BldR 121 (· ∈ F) u bb r N s) (hlo : lo ≤ u.heap.size) (hf1 : 1 ≤ r.f) (hfs : r.f + Nt.ordN p ≤ s.length + 1) (hs : s.length ≤ 100) (hn : r.n ≤ 100) (hN : N.length ≤ 150) : Calls Tryz.prog 57 #[.pointer (some ⟨bb, 0, none⟩), p.v, .int .i64 q] w (PostF F u w fun v u' => v = .int .i64 ((Nt.secO p (r.n + N.length + 1) : Nat) : Int) ∧ ∃ X' : Sl, BldR 121 (fun b => b ∈ F ∨ lo ≤ b) u' bb { r with X := X', f := Nt.secF p r.f } (N ++ Nt.secN r.t p r.f q (r.n + N.length + 1)) (Nt.secX p r.f (r.n + N.length + 1) s)) := by
 rcases pas_split hp with ⟨g, rfl, h1, h2⟩ | ⟨g, h', rfl, h1, h2, h3, h4⟩
 ·have hb := pas_b24 xq h1 h2
  exact k_psection1 hb.1 hb.2 d h hlo hf1 (by have h8 : r.f + 1 ≤ s.length + 1 := hfs; omega) hs hn hN ht hf
 ·have hb := pas_b24 xq h1 h2
  have hc := pas_b24 xq h3 h4
  exact k_psection2 hb.1 hb.2 hc.1 hc.2 d h hlo hf1 (by have h8 : r.f + 2 ≤ s.length + 1 := hfs; omega) hs hn hN ht hf
namespace Nt
structure WS where
 N : List (List TL)
 s : List Int
 f : Nat
 u : Int
def wsS (n : Nat) (U : Int) (L : List PL) (st : WS) : Nat → WS
 | 0 => st
 | i + 1 => ⟨(wsS n U L st i).N ++ secN U (L.getD i pl0) (wsS n U L st i).f (wsS n U L st i).u (n + (wsS n U L st i).N.length + 1), secX (L.getD i pl0) (wsS n U L st i).f (n + (wsS n U L st i).N.length + 1) (wsS n U L st i).s, secF (L.getD i pl0) (wsS n U L st i).f, ((secO (L.getD i pl0) (n + (wsS n U L st i).N.length + 1) : Nat) : Int)⟩
def ordS (L : List PL) : Nat → Nat
 | 0 => 0
 | i + 1 => ordS L i + ordN (L.getD i pl0)
variable {n : Nat} {U : Int} {L : List PL} {st : WS}
theorem ordN_le (p : PL) : 1 ≤ ordN p ∧ ordN p ≤ 2 := by unfold ordN; split <;> omega
theorem ordS_le (L : List PL) (i : Nat) : ordS L i ≤ 2 * i := by
 induction i with
 | zero => exact Nat.le_refl _
 | succ i ih => have := ordN_le (L.getD i pl0); show ordS L i + _ ≤ _; omega
theorem ordS_mono (L : List PL) {i j : Nat} (h : i ≤ j) : ordS L i ≤ ordS L j := by
 induction j with
 | zero => obtain rfl : i = 0 := by omega
           exact Nat.le_refl _
 | succ j ih =>
  rcases Nat.lt_or_ge j i with h9 | h9
  ·obtain rfl : i = j + 1 := by omega
   exact Nat.le_refl _
  ·exact Nat.le_trans (ih h9) (Nat.le_add_right _ _)
theorem ws_f (i : Nat) : (wsS n U L st i).f = st.f + ordS L i := by
 induction i with
 | zero => rfl
 | succ i ih =>
  show secF _ (wsS n U L st i).f = st.f + (ordS L i + ordN _)
  unfold secF ordN
  split <;> omega
theorem ws_s (i : Nat) : (wsS n U L st i).s.length = st.s.length := by
 induction i with
 | zero => rfl
 | succ i ih =>
  show (secX _ _ _ (wsS n U L st i).s).length = _
  unfold secX
  split <;> simp [ih]
theorem secN_len (U : Int) (p : PL) (f : Nat) (u : Int) (m : Nat) : (secN U p f u m).length ≤ 6 := by
 unfold secN
 split <;> simp [adN]
theorem ws_N (i : Nat) : (wsS n U L st i).N.length ≤ st.N.length + 6 * i := by
 induction i with
 | zero => exact Nat.le_refl _
 | succ i ih =>
  show ((wsS n U L st i).N ++ secN _ _ _ _ _).length ≤ _
  rw [List.length_append]
  have := secN_len U (L.getD i pl0) (wsS n U L st i).f (wsS n U L st i).u (n + (wsS n U L st i).N.length + 1)
  omega
end Nt
def wvN (L M : List PL) : Nat := Nt.ordS L L.length + Nt.ordS M M.length
def wvT (U : Int) (L M : List PL) : Nt.WS := Nt.wsS (wvN L M) U L ⟨[], List.replicate (wvN L M) 0, 1, 0⟩ L.length
def wvB (U : Int) (L M : List PL) : Nt.WS := Nt.wsS (wvN L M) U M ⟨(wvT U L M).N, (wvT U L M).s, (wvT U L M).f, 0⟩ M.length
def wvO (U : Int) (L M : List PL) (c : Bool) : List (List TL) := (wvB U L M).N ++ [[⟨(wvT U L M).u, U.tdiv 2⟩, ⟨(wvB U L M).u, if c then -(U.tdiv 2) else U.tdiv 2⟩]]
theorem ordN_o {f : Int} {p : PL} (h : PasOK f p) : ((Nt.ordN p : Nat) : Int) = p.o := by
 unfold Nt.ordN
 rcases h.1 with ⟨h1, _⟩ | h1
 ·rw [if_pos h1, h1]; rfl
 ·rw [if_neg xq, h1]; rfl
def BlkAt (u : World) (b : Nat) (cs : List Value) (ty : TypeId) : Prop := u.heap[b]? = some (.cells cs.toArray ty (0, 0))
theorem BlkAt.ext {u u' : World} {b : Nat} {cs : List Value} {ty : TypeId} (h : BlkAt u b cs ty) (e : Ext u u') : BlkAt u' b cs ty := e.cells h
theorem half_b {z : Int} (h0 : 0 ≤ z) (h1 : z ≤ 16777216) : ∃ y, z.tdiv 2 = y ∧ 0 ≤ y ∧ y ≤ 16777216 := by
 refine ⟨_, rfl, Int.tdiv_nonneg h0 yv, ?_⟩
 rw [Int.tdiv_eq_ediv_of_nonneg h0]; omega
@[reducible] def wsA (W : WL) (L M : List PL) (i : Nat) := Nt.wsS (wvN L M) (Nt.p2i W.f) L ⟨[], List.replicate (wvN L M) 0, 1, 0⟩ i
@[reducible] def wsM (W : WL) (L M : List PL) (i : Nat) := Nt.wsS (wvN L M) (Nt.p2i W.f) M ⟨(wvT (Nt.p2i W.f) L M).N, (wvT (Nt.p2i W.f) L M).s, (wvT (Nt.p2i W.f) L M).f, 0⟩ i
set_option maxHeartbeats 8000000 in
theorem k_wvBuild {u w : World} {D W : WL} {x y : Sl} {L M : List PL} {c : Bool} (d : Dat u w) (hx : PasV u x L) (hy : PasV u y M) (hD : WdOK D) (hV : WvOK W L M) : Calls Tryz.prog 18 #[.agg #[x.v, y.v], D.v, W.v, .bool c] w (Post u w fun v u' => ∃ X Y : Sl, v = .tuple #[.agg #[.int .i64 D.b, .int .i64 D.f, .int .i64 D.r, .int .i64 D.o, .int .i64 W.b, .int .i64 W.f, .int .i64 W.r, .int .i64 W.o, .int .i64 ((wvN L M : Nat) : Int), X.v, Y.v, .int .i64 ((wvN L M + (wvB (Nt.p2i W.f) L M).N.length + 1 : Nat) : Int)], .int .i64 0] ∧ (∃ h, NodesB 0 h u' X (wvO (Nt.p2i W.f) L M c)) ∧ MutL 1 3 0 u' Y (ics (wvB (Nt.p2i W.f) L M).s)) := by
 obtain ⟨⟨hW, hf⟩, hnx, hny, hax, hay⟩ := id hV
 have hpx := all_mem hax
 have hpy := all_mem hay
 obtain ⟨hw1, hw2, hw3, hw4, hw5, hw6, hw7, hw8⟩ := id hW
 have hu0 := Nt.zxq W.f
 have hu1 := Nt.p2i_24 (n := W.f) xq
 have hu2 := Nt.zwh (a := W.f) (b := W.b - 1) xq
 have hu3 := Nt.p2i_24 (n := W.b - 1) xq
 have hlx := hx.len
 have hly := hy.len
 have hoL := Nt.ordS_le L L.length
 have hoM := Nt.ordS_le M M.length
 have hwN : wvN L M = Nt.ordS L L.length + Nt.ordS M M.length := rfl
 have hfT : (wvT (Nt.p2i W.f) L M).f = 1 + Nt.ordS L L.length := Nt.ws_f _
 have hsT : (wvT (Nt.p2i W.f) L M).s.length = wvN L M := (Nt.ws_s _).trans zq
 have hNT : (wvT (Nt.p2i W.f) L M).N.length ≤ 6 * L.length := Nat.le_trans (Nt.ws_N _) zq
 refine zzm (args := [.agg #[.slice x.a x.n x.c, .slice y.a y.n y.c], .agg #[.int .i64 D.b, .int .i64 D.f, .int .i64 D.r, .int .i64 D.o], .agg #[.int .i64 W.b, .int .i64 W.f, .int .i64 W.r, .int .i64 W.o], .bool c]) Tryz.func18 rfl Tryz.ntmps18 (rs := [.cell 8 55, .tmp 9]) Tryz.results18 (le_b rfl) (le_b rfl) d ?_
 refine sq9 (zzk 4 ⟨51, [x.v, y.v]⟩ (zzk 5 ⟨34, D.cs⟩ (zzk 6 ⟨34, W.cs⟩ (zzk 8 ⟨55, [.int .i64 0, .int .i64 0, .int .i64 0, .int .i64 0, .int .i64 0, .int .i64 0, .int .i64 0, .int .i64 0, .int .i64 0, .slice none 0 0, .slice none 0 0, .int .i64 0]⟩ (zza 9 (zI 0) (zzb (zzd (sq9 (zzi 22 (.v (D.v)) ty34 zze (zzg 23 54 [D.v] ?_))))))))))
 intro w11 u11 e11 d11
 have k14 := (Post.mono (k_fxValidG (W := D) d11) (fun v u9 _ h8 => by rw [decide_eq_true hD] at h8; exact (show v = .bool true from h8)))
 with_reducible refine zPm k14 ?_
 rintro _ u12 g13 rfl
 refine zza 24 (zB false) (zzb (zys xj (zzs (zzp ?_))))
 refine zzd (sq9 (zzi 26 (.v (.agg #[x.v, y.v])) ty51 zze (zzi 27 (.v (W.v)) ty34 zze (zzg 28 55 [.agg #[x.v, y.v], W.v] ?_))))
 intro w15 u15 e15 d15
 have k18 := (Post.mono (k_wvValidG (W := W) (x := x) (y := y) (L := L) (M := M) d15 (hx.ext (e11.trans (g13.ext.trans e15))) (hy.ext (e11.trans (g13.ext.trans e15)))) (fun v u9 _ h8 => by rw [decide_eq_true hV] at h8; exact (show v = .bool true from h8)))
 with_reducible refine zPm k18 ?_
 rintro _ u16 g17 rfl
 refine zza 29 (zB false) (zzb (zys xj (zzs (zzp ?_))))
 refine sq9 (zza 10 (zI 0) (zzb (zzd (sq9 (zza 31 (zI 0) (zzb (zzt (sw_rounds 2 ?_))))))))
 refine sq9 (zza 32 (zB true) (zzb (zzd (zyr xj (zzs (zzp ?_))))))
 refine zzd (zzt (sq9 (zza 33 (zI 0) (zza 11 (zI 0) (zzb (sq9 (zzi 34 (.v (.agg #[x.v, y.v])) ty51 zze (zza 35 (zI 0) (zzg 36 56 [.agg #[x.v, y.v], .int .i64 0] ?_)))))))))
 intro w19 u19 e19 d19
 have k22 := k_branch0 (x := x) (y := y) d19
 with_reducible refine zPm k22 ?_
 rintro _ u20 g21 rfl
 refine zza 37 (zI x.n) (zza 38 (zI 0) (zzb (zzt (zyn (I := fun m23 S' u' => ∃ (i : Nat), (m23 = L.length - i) ∧ (i ≤ L.length) ∧ (S' = St.of 96 [(3, zB c), (4, .adr 4 0), (5, .adr 5 0), (6, .adr 6 0), (8, .adr 8 0), (10, zI (Nt.ordS L i : Nat)), (31, zI 0), (36, .v (.slice x.a x.n x.c)), (37, zI x.n), (38, zI i)] [(4, ⟨51, [.slice x.a x.n x.c, .slice y.a y.n y.c]⟩), (5, ⟨34, [.int .i64 D.b, .int .i64 D.f, .int .i64 D.r, .int .i64 D.o]⟩), (6, ⟨34, [.int .i64 W.b, .int .i64 W.f, .int .i64 W.r, .int .i64 W.o]⟩), (8, ⟨55, [.int .i64 0, .int .i64 0, .int .i64 0, .int .i64 0, .int .i64 0, .int .i64 0, .int .i64 0, .int .i64 0, .int .i64 0, .slice none 0 0, .slice none 0 0, .int .i64 0]⟩)]) ∧ (Ext u20 u')) (fun m S u1 u2 e h => by obtain ⟨i, hm, p0, hS, hE⟩ := h; exact ⟨i, hm, p0, hS, hE.trans e⟩) _ yz ⟨0, rfl, Nat.zero_le _, rfl, (Ext.refl _)⟩ ?_))))
 rintro m23 _ u23 ⟨i, hm23, hi, rfl, e23⟩
 refine sq9 (zza 39 (zB (decide ((i : Int) < (x.n : Int)))) (zzb (zzd (zzu (b := decide ((i : Int) < (x.n : Int))) xj (fun hb24 => ?_) (fun hb24 => ?_)))))
 ·replace hb24 : (decide ((i : Int) < (x.n : Int))) = true := hb24
  have qhb24 := of_decide_eq_true hb24
  refine zzs (zzp ?_)
  refine zzd (zzt (sq9 ?_))
  have hl25 := ((hx.ext (e11.trans (g13.ext.trans (e15.trans (g17.ext.trans (e19.trans (g21.ext.trans e23)))))))).len
  obtain ⟨p25, b25, o25, hA25, hc25, hp25⟩ := pas_at ((hx.ext (e11.trans (g13.ext.trans (e15.trans (g17.ext.trans (e19.trans (g21.ext.trans e23)))))))) (i := i) xq
  refine zya 40 (o25 + i * 3) (n := x.n) (off := o25) (sz := 3) (i := (i : Int)) xq hA25 xq xq sl49 (zym 41 p25.cs hc25 ty114 (zzk 13 ⟨114, [.int .i64 0, .int .i64 0, .int .i64 0]⟩ (zzj ⟨114, [.int .i64 p25.o, .int .i64 p25.g, .int .i64 p25.h]⟩ ty114 ?_)))
  refine zzb ?_
  have hkp25 : PasOK W.f p25 := by rw [hp25]; exact hpx _ (by rw [List.getD_eq_getElem?_getD, List.getElem?_eq_getElem xq]; exact List.getElem_mem _)
  refine zzf (zza 42 (zI (Nt.ordS L i : Nat)) (zza 43 (.adr 13 0) (zzi 44 (zI p25.o) ty3 zzl ?_)))
  have ho2 : Nt.ordS L (i + 1) = Nt.ordS L i + Nt.ordN p25 := by rw [hp25]; rfl
  have ho3 := ordN_o hkp25
  have ho4 := Nt.ordS_mono L (show i + 1 ≤ L.length by omega)
  refine zyq 45 (x := zI (IntKind.i64.wrap (((Nt.ordS L i : Nat) : Int) + p25.o))) (zI ((Nt.ordS L (i + 1) : Nat) : Int)) (eqI xz) (zza 10 (zI ((Nt.ordS L (i + 1) : Nat) : Int)) (zzx ?_))
  refine zzp (zzf (zyq 46 (x := zI (IntKind.i64.wrap ((i : Int) + 1))) (zI (i + 1 : Nat)) (eqI xz) (zza 38 (zI (i + 1 : Nat)) (zzx ?_))))
  refine ⟨_, ?_, _, by exact zzv _ _ _, i + 1, rfl, by omega, rfl, e23⟩
  omega
 ·replace hb24 : (decide ((i : Int) < (x.n : Int))) = false := hb24
  have qhb24 := of_decide_eq_false hb24
  refine zyc (zzp ?_)
  obtain rfl : i = L.length := by omega
  refine zzf (zza 47 (zI 1) (zza 31 (zI 1) (zzx ?_)))
  refine rn_next ?_
  refine sw_weak (T := St.of 96 [(3, zB c), (4, .adr 4 0), (5, .adr 5 0), (6, .adr 6 0), (8, .adr 8 0), (10, zI (Nt.ordS L L.length : Nat)), (31, zI 1)] [(4, ⟨51, [.slice x.a x.n x.c, .slice y.a y.n y.c]⟩), (5, ⟨34, [.int .i64 D.b, .int .i64 D.f, .int .i64 D.r, .int .i64 D.o]⟩), (6, ⟨34, [.int .i64 W.b, .int .i64 W.f, .int .i64 W.r, .int .i64 W.o]⟩), (8, ⟨55, [.int .i64 0, .int .i64 0, .int .i64 0, .int .i64 0, .int .i64 0, .int .i64 0, .int .i64 0, .int .i64 0, .int .i64 0, .slice none 0 0, .slice none 0 0, .int .i64 0]⟩)]) yz ?_
  refine sq9 (zza 32 (zB true) (zzb (zzd (zyr xj (zzs (zzp ?_))))))
  refine zzd (zzt (sq9 (zza 33 (zI 1) (zza 11 (zI 1) (zzb (sq9 (zzi 34 (.v (.agg #[x.v, y.v])) ty51 zze (zza 35 (zI 1) (zzg 36 56 [.agg #[x.v, y.v], .int .i64 1] ?_)))))))))
  intro w26 u26 e26 d26
  have k29 := k_branch1 (x := x) (y := y) d26
  with_reducible refine zPm k29 ?_
  rintro _ u27 g28 rfl
  refine zza 37 (zI y.n) (zza 38 (zI 0) (zzc 96 [(3, zB c), (4, .adr 4 0), (5, .adr 5 0), (6, .adr 6 0), (8, .adr 8 0), (10, zI (Nt.ordS L L.length : Nat)), (31, zI 1), (36, .v y.v), (37, zI y.n), (38, zI 0)] [(4, ⟨51, [x.v, y.v]⟩), (5, ⟨34, D.cs⟩), (6, ⟨34, W.cs⟩), (8, ⟨55, [.int .i64 0, .int .i64 0, .int .i64 0, .int .i64 0, .int .i64 0, .int .i64 0, .int .i64 0, .int .i64 0, .int .i64 0, .slice none 0 0, .slice none 0 0, .int .i64 0]⟩)] (zzt (zyn (I := fun m30 S' u' => ∃ (i : Nat), (m30 = M.length - i) ∧ (i ≤ M.length) ∧ (S' = St.of 96 [(3, zB c), (4, .adr 4 0), (5, .adr 5 0), (6, .adr 6 0), (8, .adr 8 0), (10, zI (Nt.ordS L L.length + Nt.ordS M i : Nat)), (31, zI 1), (36, .v (.slice y.a y.n y.c)), (37, zI y.n), (38, zI i)] [(4, ⟨51, [.slice x.a x.n x.c, .slice y.a y.n y.c]⟩), (5, ⟨34, [.int .i64 D.b, .int .i64 D.f, .int .i64 D.r, .int .i64 D.o]⟩), (6, ⟨34, [.int .i64 W.b, .int .i64 W.f, .int .i64 W.r, .int .i64 W.o]⟩), (8, ⟨55, [.int .i64 0, .int .i64 0, .int .i64 0, .int .i64 0, .int .i64 0, .int .i64 0, .int .i64 0, .int .i64 0, .int .i64 0, .slice none 0 0, .slice none 0 0, .int .i64 0]⟩)]) ∧ (Ext u27 u')) (fun m S u1 u2 e h => by obtain ⟨i, hm, p0, hS, hE⟩ := h; exact ⟨i, hm, p0, hS, hE.trans e⟩) _ yz ⟨0, rfl, Nat.zero_le _, rfl, (Ext.refl _)⟩ ?_))))
  rintro m30 _ u30 ⟨i, hm30, hi, rfl, e30⟩
  refine sq9 (zza 39 (zB (decide ((i : Int) < (y.n : Int)))) (zzb (zzd (zzu (b := decide ((i : Int) < (y.n : Int))) xj (fun hb31 => ?_) (fun hb31 => ?_)))))
  ·replace hb31 : (decide ((i : Int) < (y.n : Int))) = true := hb31
   have qhb31 := of_decide_eq_true hb31
   refine zzs (zzp ?_)
   refine zzd (zzt (sq9 ?_))
   have hl32 := ((hy.ext (e11.trans (g13.ext.trans (e15.trans (g17.ext.trans (e19.trans (g21.ext.trans (e23.trans (e26.trans (g28.ext.trans e30))))))))))).len
   obtain ⟨p32, b32, o32, hA32, hc32, hp32⟩ := pas_at ((hy.ext (e11.trans (g13.ext.trans (e15.trans (g17.ext.trans (e19.trans (g21.ext.trans (e23.trans (e26.trans (g28.ext.trans e30))))))))))) (i := i) xq
   refine zya 40 (o32 + i * 3) (n := y.n) (off := o32) (sz := 3) (i := (i : Int)) xq hA32 xq xq sl49 (zym 41 p32.cs hc32 ty114 (zzk 13 ⟨114, [.int .i64 0, .int .i64 0, .int .i64 0]⟩ (zzj ⟨114, [.int .i64 p32.o, .int .i64 p32.g, .int .i64 p32.h]⟩ ty114 ?_)))
   refine zzb ?_
   have hkp32 : PasOK W.f p32 := by rw [hp32]; exact hpy _ (by rw [List.getD_eq_getElem?_getD, List.getElem?_eq_getElem xq]; exact List.getElem_mem _)
   refine zzf (zza 42 (zI (Nt.ordS L L.length + Nt.ordS M i : Nat)) (zza 43 (.adr 13 0) (zzi 44 (zI p32.o) ty3 zzl ?_)))
   have ho2 : Nt.ordS M (i + 1) = Nt.ordS M i + Nt.ordN p32 := by rw [hp32]; rfl
   have ho3 := ordN_o hkp32
   have ho4 := Nt.ordS_mono M (show i + 1 ≤ M.length by omega)
   refine zyq 45 (x := zI (IntKind.i64.wrap (((Nt.ordS L L.length + Nt.ordS M i : Nat) : Int) + p32.o))) (zI ((Nt.ordS L L.length + Nt.ordS M (i + 1) : Nat) : Int)) (eqI xz) (zza 10 (zI ((Nt.ordS L L.length + Nt.ordS M (i + 1) : Nat) : Int)) (zzx ?_))
   refine zzp (zzf (zyq 46 (x := zI (IntKind.i64.wrap ((i : Int) + 1))) (zI (i + 1 : Nat)) (eqI xz) (zza 38 (zI (i + 1 : Nat)) (zzx ?_))))
   refine ⟨_, ?_, _, by exact zzv _ _ _, i + 1, rfl, by omega, rfl, e30⟩
   omega
  ·replace hb31 : (decide ((i : Int) < (y.n : Int))) = false := hb31
   have qhb31 := of_decide_eq_false hb31
   refine zyc (zzp ?_)
   obtain rfl : i = M.length := by omega
   refine zzf (zza 47 (zI 2) (zza 31 (zI 2) (zzx ?_)))
   refine rn_next ?_
   refine sw_weak (T := St.of 96 [(3, zB c), (4, .adr 4 0), (5, .adr 5 0), (6, .adr 6 0), (8, .adr 8 0), (10, zI (Nt.ordS L L.length + Nt.ordS M M.length : Nat)), (31, zI 2)] [(4, ⟨51, [.slice x.a x.n x.c, .slice y.a y.n y.c]⟩), (5, ⟨34, [.int .i64 D.b, .int .i64 D.f, .int .i64 D.r, .int .i64 D.o]⟩), (6, ⟨34, [.int .i64 W.b, .int .i64 W.f, .int .i64 W.r, .int .i64 W.o]⟩), (8, ⟨55, [.int .i64 0, .int .i64 0, .int .i64 0, .int .i64 0, .int .i64 0, .int .i64 0, .int .i64 0, .int .i64 0, .int .i64 0, .slice none 0 0, .slice none 0 0, .int .i64 0]⟩)]) yz ?_
   refine sq9 (zza 32 (zB false) (zzb (zzd (zys xj (zyc (zzp (sq9 (zza 48 (.adr 6 1) (zzi 49 (zI W.f) ty3 zzl (sy_shl 50 (k := .i64) (s := W.f) (Nt.p2i W.f) xq yw (shl_one xq xq) ?_))))))))))
   refine zza 51 (.v (.agg #[.int .i64 0, .int .i64 0, .int .i64 0, .int .i64 0, .int .i64 0, .int .i64 0, .int .i64 0, .int .i64 0, .int .i64 0, .slice none 0 0, .slice none 0 0, .int .i64 0, .int .i64 (Nt.p2i W.f), .int .i64 1])) (zzk 14 ⟨121, [.int .i64 0, .int .i64 0, .int .i64 0, .int .i64 0, .int .i64 0, .int .i64 0, .int .i64 0, .int .i64 0, .int .i64 0, .slice none 0 0, .slice none 0 0, .int .i64 0, .int .i64 0, .int .i64 0]⟩ (zzj ⟨121, [.int .i64 0, .int .i64 0, .int .i64 0, .int .i64 0, .int .i64 0, .int .i64 0, .int .i64 0, .int .i64 0, .int .i64 0, .slice none 0 0, .slice none 0 0, .int .i64 0, .int .i64 (Nt.p2i W.f), .int .i64 1]⟩ ty121 ?_))
   refine zzb (zzd (zzz [0, 0, 0, 0, 8, 31, 63, 127] [(0, []), (1, []), (2, []), (3, []), (4, [56]), (5, []), (6, []), (7, [])] xj xj (zzi 52 (.v (D.v)) ty34 zze (zzi 53 (.v (W.v)) ty34 zze (zza 54 (zI (Nt.ordS L L.length + Nt.ordS M M.length : Nat)) (zza 55 (zI (Nt.ordS L L.length + Nt.ordS M M.length : Nat)) (sy_makeN 56 (T := 37) (E := 3) (z := .int .i64 0) (size := 1) (bytes := 8) (Nt.ordS L L.length + Nt.ordS M M.length) (ics (List.replicate (Nt.ordS L L.length + Nt.ordS M M.length) 0)) xj xj rfl rfl xq yj (made_ints _) (fun b33 u33 e33 h33 f33 g33 => ?_))))))))
   have hm34 : MutL 1 3 u.heap.size u33 (⟨some ⟨b33, 0, none⟩, Nt.ordS L L.length + Nt.ordS M M.length, Nt.ordS L L.length + Nt.ordS M M.length⟩ : Sl) (ics (List.replicate (Nt.ordS L L.length + Nt.ordS M M.length) 0)) := MutL.lit h33 (by rw [zwm, List.length_replicate, Nat.mul_one]) yj f33
   refine zza 57 (.v (.agg #[.int .i64 D.b, .int .i64 D.f, .int .i64 D.r, .int .i64 D.o, .int .i64 W.b, .int .i64 W.f, .int .i64 W.r, .int .i64 W.o, .int .i64 (Nt.ordS L L.length + Nt.ordS M M.length : Nat), .slice none 0 0, .slice (some ⟨b33, 0, none⟩) (Nt.ordS L L.length + Nt.ordS M M.length) (Nt.ordS L L.length + Nt.ordS M M.length), .int .i64 0])) (zza 58 (.adr 14 0) (zzj ⟨121, [.int .i64 D.b, .int .i64 D.f, .int .i64 D.r, .int .i64 D.o, .int .i64 W.b, .int .i64 W.f, .int .i64 W.r, .int .i64 W.o, .int .i64 (Nt.ordS L L.length + Nt.ordS M M.length : Nat), .slice none 0 0, .slice (some ⟨b33, 0, none⟩) (Nt.ordS L L.length + Nt.ordS M M.length) (Nt.ordS L L.length + Nt.ordS M M.length), .int .i64 0, .int .i64 (Nt.p2i W.f), .int .i64 1]⟩ ty55 ?_))
   refine zzb (sq9 (zzk 15 ⟨30, [.int .i64 0, .int .i64 0]⟩ (zzb (zzd (zzd (sw_pubA (r := 14) (t := 14) [14, 58] xk xj zj zj xj (fun b35 u36 e37 hb38 hv39 hh40 => ?_)))))))
   have hM41 : MayB ⟨w, none, []⟩ u b35 := .inl hb38
   have hY41 : MutM 1 3 (MayB ⟨w, none, []⟩ u) u36 _ _ := ((hm34.ext e37)).toM
   have hX41 := NodesM.nil (MayB ⟨w, none, []⟩ u) u36
   have hz41 := (e11.trans (g13.ext.trans (e15.trans (g17.ext.trans (e19.trans (g21.ext.trans (e23.trans (e26.trans (g28.ext.trans (e30.trans (e33.trans e37))))))))))).size
   have hB41 : u36.heap[b35]? = some (.cells (⟨⟨D.b, D.f, D.r, D.o⟩, ⟨W.b, W.f, W.r, W.o⟩, wvN L M, (⟨none, 0, 0⟩ : Sl), (⟨some ⟨b33, 0, none⟩, Nt.ordS L L.length + Nt.ordS M M.length, Nt.ordS L L.length + Nt.ordS M M.length⟩ : Sl), 0, Nt.p2i W.f, 1⟩ : BL).cs.toArray 121 (0, 0)) := hh40
   refine zzf (zza 59 (zI 0) (zzb (zzt (sw_rounds 2 ?_))))
   refine sq9 (zza 60 (zB true) (zzb (zzd (zyr xj (zzs (zzp ?_))))))
   refine zzd (zzt (sq9 (zza 61 (zI 0) (zza 16 (zI 0) (zzb (sq9 (zza 17 (zI 0) (zzb (zzd (sq9 (zzi 62 (.v (.agg #[x.v, y.v])) ty51 zze ?_)))))))))))
   refine zza 63 (zI 0) (zzg 64 56 [.agg #[x.v, y.v], .int .i64 0] ?_)
   intro w42 u42 e42 d42
   have k45 := k_branch0 (x := x) (y := y) d42
   with_reducible refine zPm k45 ?_
   rintro _ u43 g44 rfl
   refine zza 65 (zI x.n) (zza 66 (zI 0) (zzb (zzt ?_)))
   have hB46 := (e42.trans g44.ext).cells hB41
   have hX46 := hX41.ext (e42.trans g44.ext)
   have hY46 := hY41.ext (e42.trans g44.ext)
   have hz46 := Nat.le_trans hz41 (e42.trans g44.ext).size
   refine zyn (I := fun m47 S' u' => ∃ (i : Nat) (X : Sl), (m47 = L.length - i) ∧ (i ≤ L.length) ∧ (S' = St.of 96 [(3, zB c), (4, .adr 4 0), (8, .adr 8 0), (14, .v (.pointer (some ⟨b35, 0, none⟩))), (15, .adr 15 0), (16, zI 0), (17, zI ((wsA W L M i).u)), (59, zI 0), (64, .v (.slice x.a x.n x.c)), (65, zI x.n), (66, zI i)] [(4, ⟨51, [.slice x.a x.n x.c, .slice y.a y.n y.c]⟩), (8, ⟨55, [.int .i64 0, .int .i64 0, .int .i64 0, .int .i64 0, .int .i64 0, .int .i64 0, .int .i64 0, .int .i64 0, .int .i64 0, .slice none 0 0, .slice none 0 0, .int .i64 0]⟩), (15, ⟨30, [.int .i64 0, .int .i64 0]⟩)]) ∧ (Ext u u') ∧ (BlkAt u' b35 (⟨⟨D.b, D.f, D.r, D.o⟩, ⟨W.b, W.f, W.r, W.o⟩, wvN L M, X, (⟨some ⟨b33, 0, none⟩, Nt.ordS L L.length + Nt.ordS M M.length, Nt.ordS L L.length + Nt.ordS M M.length⟩ : Sl), 0, Nt.p2i W.f, (wsA W L M i).f⟩ : BL).cs 121) ∧ (NodesM (MayB ⟨w, none, []⟩ u) u' X (wsA W L M i).N) ∧ (MutM 1 3 (MayB ⟨w, none, []⟩ u) u' (⟨some ⟨b33, 0, none⟩, Nt.ordS L L.length + Nt.ordS M M.length, Nt.ordS L L.length + Nt.ordS M M.length⟩ : Sl) (ics (wsA W L M i).s))) (fun m S u1 u2 e h => by obtain ⟨i, X, hm, p0, hS, hE, f0, f1, f2⟩ := h; exact ⟨i, X, hm, p0, hS, hE.trans e, f0.ext e, f1.ext e, f2.ext e⟩) _ yz ⟨0, (⟨none, 0, 0⟩ : Sl), rfl, Nat.zero_le _, rfl, (e11.trans (g13.ext.trans (e15.trans (g17.ext.trans (e19.trans (g21.ext.trans (e23.trans (e26.trans (g28.ext.trans (e30.trans (e33.trans (e37.trans (e42.trans g44.ext))))))))))))), hB46, hX46, hY46⟩ ?_
   rintro m47 _ u47 ⟨i, X, hm47, hi, rfl, e47, hBi, hXi, hYi⟩
   have hzi := e47.size
   have hfi : (wsA W L M i).f = 1 + Nt.ordS L i := Nt.ws_f i
   have hsi : (wsA W L M i).s.length = wvN L M := (Nt.ws_s i).trans zq
   have hNi : (wsA W L M i).N.length ≤ 6 * i := Nat.le_trans (Nt.ws_N i) zq
   refine sq9 (zza 67 (zB (decide ((i : Int) < (x.n : Int)))) (zzb (zzd (zzu (b := decide ((i : Int) < (x.n : Int))) xj (fun hb48 => ?_) (fun hb48 => ?_)))))
   ·replace hb48 : (decide ((i : Int) < (x.n : Int))) = true := hb48
    have qhb48 := of_decide_eq_true hb48
    refine zzs (zzp ?_)
    refine zzd (zzt (sq9 ?_))
    have hl49 := ((hx.ext e47)).len
    obtain ⟨p49, b49, o49, hA49, hc49, hp49⟩ := pas_at ((hx.ext e47)) (i := i) xq
    refine zya 68 (o49 + i * 3) (n := x.n) (off := o49) (sz := 3) (i := (i : Int)) xq hA49 xq xq sl49 (zym 69 p49.cs hc49 ty114 (zzk 19 ⟨114, [.int .i64 0, .int .i64 0, .int .i64 0]⟩ (zzj ⟨114, [.int .i64 p49.o, .int .i64 p49.g, .int .i64 p49.h]⟩ ty114 ?_)))
    refine zzc 96 [(3, zB c), (4, .adr 4 0), (8, .adr 8 0), (14, .v (.pointer (some ⟨b35, 0, none⟩))), (15, .adr 15 0), (16, zI 0), (17, zI ((wsA W L M i).u)), (19, .adr 19 0), (59, zI 0), (64, .v x.v), (65, zI x.n), (66, zI i)] [(4, ⟨51, [x.v, y.v]⟩), (8, ⟨55, [.int .i64 0, .int .i64 0, .int .i64 0, .int .i64 0, .int .i64 0, .int .i64 0, .int .i64 0, .int .i64 0, .int .i64 0, .slice none 0 0, .slice none 0 0, .int .i64 0]⟩), (15, ⟨30, [.int .i64 0, .int .i64 0]⟩), (19, ⟨114, [.int .i64 p49.o, .int .i64 p49.g, .int .i64 p49.h]⟩)] ?_
    have hkp49 : PasOK W.f p49 := by rw [hp49]; exact hpx _ (by rw [List.getD_eq_getElem?_getD, List.getElem?_eq_getElem xq]; exact List.getElem_mem _)
    have ho2 : Nt.ordS L (i + 1) = Nt.ordS L i + Nt.ordN p49 := by rw [hp49]; rfl
    have ho4 := Nt.ordS_mono L (show i + 1 ≤ L.length by omega)
    refine zzf (zzi 70 (.v (.agg #[.int .i64 p49.o, .int .i64 p49.g, .int .i64 p49.h])) ty114 zze (zza 71 (zI ((wsA W L M i).u)) ?_))
    have hA50 : BldR 121 (MayB ⟨w, none, []⟩ u) u47 b35 (⟨⟨D.b, D.f, D.r, D.o⟩, ⟨W.b, W.f, W.r, W.o⟩, wvN L M, X, (⟨some ⟨b33, 0, none⟩, Nt.ordS L L.length + Nt.ordS M M.length, Nt.ordS L L.length + Nt.ordS M M.length⟩ : Sl), 0, Nt.p2i W.f, (wsA W L M i).f⟩ : BL) (wsA W L M i).N (wsA W L M i).s := ⟨hBi, hM41, hXi, hYi⟩
    have hl50 := NodesM.len hXi
    refine zwo (blks b35 (⟨⟨D.b, D.f, D.r, D.o⟩, ⟨W.b, W.f, W.r, W.o⟩, wvN L M, X, (⟨some ⟨b33, 0, none⟩, Nt.ordS L L.length + Nt.ordS M M.length, Nt.ordS L L.length + Nt.ordS M M.length⟩ : Sl), 0, Nt.p2i W.f, (wsA W L M i).f⟩ : BL)) 72 57 [.pointer (some ⟨b35, 0, none⟩), .agg #[.int .i64 p49.o, .int .i64 p49.g, .int .i64 p49.h], .int .i64 ((wsA W L M i).u)] (BldR.may hA50) (fun w50 u50 e50 d50 => k_psection (f := W.f) (p := p49) hkp49 xq rfl (lo := u47.heap.size) d50 (hA50.own.ext e50) e50.size (by show 1 ≤ (wsA W L M i).f; omega) (by show (wsA W L M i).f + _ ≤ _; omega) xq (by show wvN L M ≤ 100; omega) xq) (fun v50 u50b hF50 hv50 => ?_)
    obtain ⟨rfl, X50, hG50⟩ := hv50
    obtain ⟨hB50, hM50, hX50, hY50⟩ := hG50.back (fun b hb => (BldR.may hA50 b hb).1) hzi
    have hz50 := Nat.le_trans hzi hF50.size
    have hl50b := NodesM.len hX50
    have eT50 := hF50.root hA50 e47
    refine zza 17 (zI ((Nt.secO p49 (wvN L M + ((wsA W L M i).N).length + 1) : Nat) : Int)) (zzx ?_)
    refine zzp (zzf (zyq 73 (x := zI (IntKind.i64.wrap ((i : Int) + 1))) (zI (i + 1 : Nat)) (eqI xz) (zza 66 (zI (i + 1 : Nat)) (zzx ?_))))
    subst hp49
    refine ⟨_, ?_, _, by exact zzv _ _ _, i + 1, X50, rfl, by omega, rfl, eT50, hB50, hX50, hY50⟩
    omega
   ·replace hb48 : (decide ((i : Int) < (x.n : Int))) = false := hb48
    have qhb48 := of_decide_eq_false hb48
    refine zyc (zzp ?_)
    obtain rfl : i = L.length := by omega
    refine zzf (zza 74 (zI 0) (zza 75 (zI ((wsA W L M L.length).u)) (zza 76 (.adr 15 0) (zzj ⟨30, [.int .i64 ((wsA W L M L.length).u), .int .i64 0]⟩ ty3 ?_))))
    refine zzx ?_
    refine zzp (zzf (zza 77 (zI 1) (zza 59 (zI 1) (zzx ?_))))
    refine rn_next ?_
    refine sw_weak (T := St.of 96 [(3, zB c), (4, .adr 4 0), (8, .adr 8 0), (14, .v (.pointer (some ⟨b35, 0, none⟩))), (15, .adr 15 0), (59, zI 1)] [(4, ⟨51, [.slice x.a x.n x.c, .slice y.a y.n y.c]⟩), (8, ⟨55, [.int .i64 0, .int .i64 0, .int .i64 0, .int .i64 0, .int .i64 0, .int .i64 0, .int .i64 0, .int .i64 0, .int .i64 0, .slice none 0 0, .slice none 0 0, .int .i64 0]⟩), (15, ⟨30, [.int .i64 ((wsA W L M L.length).u), .int .i64 0]⟩)]) yz ?_
    refine sq9 (zza 60 (zB true) (zzb (zzd (zyr xj (zzs (zzp ?_))))))
    refine zzd (zzt (sq9 (zza 61 (zI 1) (zza 16 (zI 1) (zzc 96 [(3, zB c), (4, .adr 4 0), (8, .adr 8 0), (14, .v (.pointer (some ⟨b35, 0, none⟩))), (15, .adr 15 0), (16, zI 1), (59, zI 1)] [(4, ⟨51, [x.v, y.v]⟩), (8, ⟨55, [.int .i64 0, .int .i64 0, .int .i64 0, .int .i64 0, .int .i64 0, .int .i64 0, .int .i64 0, .int .i64 0, .int .i64 0, .slice none 0 0, .slice none 0 0, .int .i64 0]⟩), (15, ⟨30, [.int .i64 ((wsA W L M L.length).u), .int .i64 0]⟩)] (sq9 (zza 17 (zI 0) (zzb (zzd (sq9 (zzi 62 (.v (.agg #[x.v, y.v])) ty51 zze ?_)))))))))))
    refine zza 63 (zI 1) (zzg 64 56 [.agg #[x.v, y.v], .int .i64 1] ?_)
    intro w51 u51 e51 d51
    have k54 := k_branch1 (x := x) (y := y) d51
    with_reducible refine zPm k54 ?_
    rintro _ u52 g53 rfl
    refine zza 65 (zI y.n) (zza 66 (zI 0) (zzb (zzt ?_)))
    have hB55 := (e51.trans g53.ext).cells hBi
    have hX55 := hXi.ext (e51.trans g53.ext)
    have hY55 := hYi.ext (e51.trans g53.ext)
    have hz55 := Nat.le_trans hzi (e51.trans g53.ext).size
    refine zyn (I := fun m56 S' u' => ∃ (i : Nat) (X : Sl), (m56 = M.length - i) ∧ (i ≤ M.length) ∧ (S' = St.of 96 [(3, zB c), (4, .adr 4 0), (8, .adr 8 0), (14, .v (.pointer (some ⟨b35, 0, none⟩))), (15, .adr 15 0), (16, zI 1), (17, zI ((wsM W L M i).u)), (59, zI 1), (64, .v (.slice y.a y.n y.c)), (65, zI y.n), (66, zI i)] [(4, ⟨51, [.slice x.a x.n x.c, .slice y.a y.n y.c]⟩), (8, ⟨55, [.int .i64 0, .int .i64 0, .int .i64 0, .int .i64 0, .int .i64 0, .int .i64 0, .int .i64 0, .int .i64 0, .int .i64 0, .slice none 0 0, .slice none 0 0, .int .i64 0]⟩), (15, ⟨30, [.int .i64 ((wsA W L M L.length).u), .int .i64 0]⟩)]) ∧ (Ext u u') ∧ (BlkAt u' b35 (⟨⟨D.b, D.f, D.r, D.o⟩, ⟨W.b, W.f, W.r, W.o⟩, wvN L M, X, (⟨some ⟨b33, 0, none⟩, Nt.ordS L L.length + Nt.ordS M M.length, Nt.ordS L L.length + Nt.ordS M M.length⟩ : Sl), 0, Nt.p2i W.f, (wsM W L M i).f⟩ : BL).cs 121) ∧ (NodesM (MayB ⟨w, none, []⟩ u) u' X (wsM W L M i).N) ∧ (MutM 1 3 (MayB ⟨w, none, []⟩ u) u' (⟨some ⟨b33, 0, none⟩, Nt.ordS L L.length + Nt.ordS M M.length, Nt.ordS L L.length + Nt.ordS M M.length⟩ : Sl) (ics (wsM W L M i).s))) (fun m S u1 u2 e h => by obtain ⟨i, X, hm, p0, hS, hE, f0, f1, f2⟩ := h; exact ⟨i, X, hm, p0, hS, hE.trans e, f0.ext e, f1.ext e, f2.ext e⟩) _ yz ⟨0, X, rfl, Nat.zero_le _, rfl, (e47.trans (e51.trans g53.ext)), hB55, hX55, hY55⟩ ?_
    rintro m56 _ u56 ⟨i, X, hm56, hi, rfl, e56, hBi, hXi, hYi⟩
    have hzi := e56.size
    have hfi : (wsM W L M i).f = (wvT (Nt.p2i W.f) L M).f + Nt.ordS M i := Nt.ws_f i
    have hsi : (wsM W L M i).s.length = (wvT (Nt.p2i W.f) L M).s.length := Nt.ws_s i
    have hNi : (wsM W L M i).N.length ≤ (wvT (Nt.p2i W.f) L M).N.length + 6 * i := Nt.ws_N i
    refine sq9 (zza 67 (zB (decide ((i : Int) < (y.n : Int)))) (zzb (zzd (zzu (b := decide ((i : Int) < (y.n : Int))) xj (fun hb57 => ?_) (fun hb57 => ?_)))))
    ·replace hb57 : (decide ((i : Int) < (y.n : Int))) = true := hb57
     have qhb57 := of_decide_eq_true hb57
     refine zzs (zzp ?_)
     refine zzd (zzt (sq9 ?_))
     have hl58 := ((hy.ext e56)).len
     obtain ⟨p58, b58, o58, hA58, hc58, hp58⟩ := pas_at ((hy.ext e56)) (i := i) xq
     refine zya 68 (o58 + i * 3) (n := y.n) (off := o58) (sz := 3) (i := (i : Int)) xq hA58 xq xq sl49 (zym 69 p58.cs hc58 ty114 (zzk 19 ⟨114, [.int .i64 0, .int .i64 0, .int .i64 0]⟩ (zzj ⟨114, [.int .i64 p58.o, .int .i64 p58.g, .int .i64 p58.h]⟩ ty114 ?_)))
     refine zzb ?_
     have hkp58 : PasOK W.f p58 := by rw [hp58]; exact hpy _ (by rw [List.getD_eq_getElem?_getD, List.getElem?_eq_getElem xq]; exact List.getElem_mem _)
     have ho2 : Nt.ordS M (i + 1) = Nt.ordS M i + Nt.ordN p58 := by rw [hp58]; rfl
     have ho4 := Nt.ordS_mono M (show i + 1 ≤ M.length by omega)
     refine zzf (zzi 70 (.v (.agg #[.int .i64 p58.o, .int .i64 p58.g, .int .i64 p58.h])) ty114 zze (zza 71 (zI ((wsM W L M i).u)) ?_))
     have hA59 : BldR 121 (MayB ⟨w, none, []⟩ u) u56 b35 (⟨⟨D.b, D.f, D.r, D.o⟩, ⟨W.b, W.f, W.r, W.o⟩, wvN L M, X, (⟨some ⟨b33, 0, none⟩, Nt.ordS L L.length + Nt.ordS M M.length, Nt.ordS L L.length + Nt.ordS M M.length⟩ : Sl), 0, Nt.p2i W.f, (wsM W L M i).f⟩ : BL) (wsM W L M i).N (wsM W L M i).s := ⟨hBi, hM41, hXi, hYi⟩
     have hl59 := NodesM.len hXi
     refine zwo (blks b35 (⟨⟨D.b, D.f, D.r, D.o⟩, ⟨W.b, W.f, W.r, W.o⟩, wvN L M, X, (⟨some ⟨b33, 0, none⟩, Nt.ordS L L.length + Nt.ordS M M.length, Nt.ordS L L.length + Nt.ordS M M.length⟩ : Sl), 0, Nt.p2i W.f, (wsM W L M i).f⟩ : BL)) 72 57 [.pointer (some ⟨b35, 0, none⟩), .agg #[.int .i64 p58.o, .int .i64 p58.g, .int .i64 p58.h], .int .i64 ((wsM W L M i).u)] (BldR.may hA59) (fun w59 u59 e59 d59 => k_psection (f := W.f) (p := p58) hkp58 xq rfl (lo := u56.heap.size) d59 (hA59.own.ext e59) e59.size (by show 1 ≤ (wsM W L M i).f; omega) (by show (wsM W L M i).f + _ ≤ _; omega) xq (by show wvN L M ≤ 100; omega) xq) (fun v59 u59b hF59 hv59 => ?_)
     obtain ⟨rfl, X59, hG59⟩ := hv59
     obtain ⟨hB59, hM59, hX59, hY59⟩ := hG59.back (fun b hb => (BldR.may hA59 b hb).1) hzi
     have hz59 := Nat.le_trans hzi hF59.size
     have hl59b := NodesM.len hX59
     have eT59 := hF59.root hA59 e56
     refine zza 17 (zI ((Nt.secO p58 (wvN L M + ((wsM W L M i).N).length + 1) : Nat) : Int)) (zzx ?_)
     refine zzp (zzf (zyq 73 (x := zI (IntKind.i64.wrap ((i : Int) + 1))) (zI (i + 1 : Nat)) (eqI xz) (zza 66 (zI (i + 1 : Nat)) (zzx ?_))))
     subst hp58
     refine ⟨_, ?_, _, by exact zzv _ _ _, i + 1, X59, rfl, by omega, rfl, eT59, hB59, hX59, hY59⟩
     omega
    ·replace hb57 : (decide ((i : Int) < (y.n : Int))) = false := hb57
     have qhb57 := of_decide_eq_false hb57
     refine zyc (zzp ?_)
     obtain rfl : i = M.length := by omega
     refine zzf (zza 74 (zI 1) (zza 75 (zI ((wsM W L M M.length).u)) (zza 76 (.adr 15 1) (zzj ⟨30, [.int .i64 ((wsA W L M L.length).u), .int .i64 ((wsM W L M M.length).u)]⟩ ty3 ?_))))
     refine zzx ?_
     refine zzp (zzf (zza 77 (zI 2) (zza 59 (zI 2) (zzx ?_))))
     refine rn_next ?_
     refine sw_weak (T := St.of 96 [(3, zB c), (4, .adr 4 0), (8, .adr 8 0), (14, .v (.pointer (some ⟨b35, 0, none⟩))), (15, .adr 15 0), (59, zI 2)] [(4, ⟨51, [.slice x.a x.n x.c, .slice y.a y.n y.c]⟩), (8, ⟨55, [.int .i64 0, .int .i64 0, .int .i64 0, .int .i64 0, .int .i64 0, .int .i64 0, .int .i64 0, .int .i64 0, .int .i64 0, .slice none 0 0, .slice none 0 0, .int .i64 0]⟩), (15, ⟨30, [.int .i64 ((wsA W L M L.length).u), .int .i64 ((wsM W L M M.length).u)]⟩)]) yz ?_
     refine sq9 (zza 60 (zB false) (zzb (zzd (zys xj (zyc (zzp (sq9 (zza 78 (.v (.pointer (some ⟨b35, 12, none⟩))) (zyl 79 (.int .i64 (Nt.p2i W.f)) (zxc (j := 12) hBi rfl) ty3 ?_)))))))))
     obtain ⟨z2, hz2, hz20, hz21⟩ := half_b (z := Nt.p2i W.f) xq xq
     refine zyq 80 (x := zI (IntKind.i64.wrap (Int.tdiv (Nt.p2i W.f) 2))) (zI z2) (by rw [hz2, IntWalk.i64_in _ xq]) (zza 20 (zI z2) (zzb (sq9 (zza 81 (zI z2) (zza 21 (zI z2) (zzb (zzd (sq9 (zza 82 (zB c) (zzb (zzu (b := c) xj (fun hb60 => ?_) (fun hb60 => ?_))))))))))))
     ·replace hb60 : c = true := hb60
      refine zzf (zza 83 (zI z2) (zyq 84 (x := zI (IntKind.i64.wrap (0 - z2))) (zI (-z2)) (eqI xz) (zza 21 (zI (-z2)) (zzb (sq9 (zza 85 (.adr 15 0) (zzi 86 (zI ((wsA W L M L.length).u)) ty3 zzl (zza 87 (zI z2) (zza 88 (.adr 15 1) (zzi 89 (zI ((wsM W L M M.length).u)) ty3 zzl (zza 90 (zI (-z2)) ?_)))))))))))
      have hA61 : BldR 121 (MayB ⟨w, none, []⟩ u) u56 b35 (⟨⟨D.b, D.f, D.r, D.o⟩, ⟨W.b, W.f, W.r, W.o⟩, wvN L M, X, (⟨some ⟨b33, 0, none⟩, Nt.ordS L L.length + Nt.ordS M M.length, Nt.ordS L L.length + Nt.ordS M M.length⟩ : Sl), 0, Nt.p2i W.f, (wsM W L M M.length).f⟩ : BL) (wsM W L M M.length).N (wsM W L M M.length).s := ⟨hBi, hM41, hXi, hYi⟩
      have hl61 := NodesM.len hXi
      refine zwo (blks b35 (⟨⟨D.b, D.f, D.r, D.o⟩, ⟨W.b, W.f, W.r, W.o⟩, wvN L M, X, (⟨some ⟨b33, 0, none⟩, Nt.ordS L L.length + Nt.ordS M M.length, Nt.ordS L L.length + Nt.ordS M M.length⟩ : Sl), 0, Nt.p2i W.f, (wsM W L M M.length).f⟩ : BL)) 91 58 [.pointer (some ⟨b35, 0, none⟩), .int .i64 ((wsA W L M L.length).u), .int .i64 z2, .int .i64 ((wsM W L M M.length).u), .int .i64 (-z2)] (BldR.may hA61) (fun w61 u61 e61 d61 => k_pnode (lo := u56.heap.size) d61 (hA61.own.ext e61) e61.size (by show wvN L M ≤ 100; omega) xq) (fun v61 u61b hF61 hv61 => ?_)
      obtain ⟨rfl, X61, hG61⟩ := hv61
      obtain ⟨hB61, hM61, hX61, hY61⟩ := hG61.back (fun b hb => (BldR.may hA61 b hb).1) hzi
      have hz61 := Nat.le_trans hzi hF61.size
      have hl61b := NodesM.len hX61
      have eT61 := hF61.root hA61 e56
      refine zza 92 (.v (.pointer (some ⟨b35, 0, none⟩))) (zza 93 (.v (.pointer (some ⟨b35, 11, none⟩))) (sy_storeD (b := b35) (off := 11) hB61 hM61 ty3 (show 11 + 1 ≤ 14 by decide) (fun u62 hS62 eB62 => ?_)))
      have hB62 : u62.heap[b35]? = some (.cells (⟨⟨D.b, D.f, D.r, D.o⟩, ⟨W.b, W.f, W.r, W.o⟩, wvN L M, X61, (⟨some ⟨b33, 0, none⟩, Nt.ordS L L.length + Nt.ordS M M.length, Nt.ordS L L.length + Nt.ordS M M.length⟩ : Sl), ((wvN L M + ((wsM W L M M.length).N).length + 1 : Nat) : Int), Nt.p2i W.f, (wsM W L M M.length).f⟩ : BL).cs.toArray 121 (0, 0)) := hS62
      have hX62 := hX61.extB eB62 hB61 yv yv
      have hY62 := hY61.extB eB62 hB61 yv
      have hz62 := Nat.le_trans hz61 eB62.size
      have eT62 : Ext u u62 := (ExtB.toF eB62).old eT61 (fun b hb ob ho => by have h9 := zxa ho; rw [List.mem_singleton] at hb; subst hb; rcases hM61 with h8 | h8; omega; cases h8)
      refine zzb (sq9 (zza 94 (.v (.pointer (some ⟨b35, 0, none⟩))) (zym 95 [.int .i64 D.b, .int .i64 D.f, .int .i64 D.r, .int .i64 D.o, .int .i64 W.b, .int .i64 W.f, .int .i64 W.r, .int .i64 W.o, .int .i64 (wvN L M : Nat), X61.v, .slice (some ⟨b33, 0, none⟩) (Nt.ordS L L.length + Nt.ordS M M.length) (Nt.ordS L L.length + Nt.ordS M M.length), .int .i64 ((wvN L M + ((wsM W L M M.length).N).length + 1 : Nat) : Int)] (blk_cells hB62 (off := 0) rfl) ty55 (zzj ⟨55, [.int .i64 D.b, .int .i64 D.f, .int .i64 D.r, .int .i64 D.o, .int .i64 W.b, .int .i64 W.f, .int .i64 W.r, .int .i64 W.o, .int .i64 (wvN L M : Nat), X61.v, .slice (some ⟨b33, 0, none⟩) (Nt.ordS L L.length + Nt.ordS M M.length) (Nt.ordS L L.length + Nt.ordS M M.length), .int .i64 ((wvN L M + ((wsM W L M M.length).N).length + 1 : Nat) : Int)]⟩ ty55 ?_))))
      refine zza 9 (zI 0) (zzc 96 [(8, .adr 8 0), (9, zI 0)] [(8, ⟨55, [.int .i64 D.b, .int .i64 D.f, .int .i64 D.r, .int .i64 D.o, .int .i64 W.b, .int .i64 W.f, .int .i64 W.r, .int .i64 W.o, .int .i64 (wvN L M : Nat), X61.v, .slice (some ⟨b33, 0, none⟩) (Nt.ordS L L.length + Nt.ordS M M.length) (Nt.ordS L L.length + Nt.ordS M M.length), .int .i64 ((wvN L M + ((wsM W L M M.length).N).length + 1 : Nat) : Int)]⟩)] (zzo (ret0 [.agg #[.int .i64 D.b, .int .i64 D.f, .int .i64 D.r, .int .i64 D.o, .int .i64 W.b, .int .i64 W.f, .int .i64 W.r, .int .i64 W.o, .int .i64 (wvN L M : Nat), .slice X61.a X61.n X61.c, .slice (some ⟨b33, 0, none⟩) (Nt.ordS L L.length + Nt.ordS M M.length) (Nt.ordS L L.length + Nt.ordS M M.length), .int .i64 ((wvN L M + ((wsM W L M M.length).N).length + 1 : Nat) : Int)], .int .i64 0] ⟨zzr ty55 zze, zzq, trivial⟩ fun u63 e64 => ?_)))
      refine ⟨X61, (⟨some ⟨b33, 0, none⟩, Nt.ordS L L.length + Nt.ordS M M.length, Nt.ordS L L.length + Nt.ordS M M.length⟩ : Sl), ?_, ⟨_, NodesM.toB (mb := MayB ⟨w, none, []⟩ u) ?_⟩, ?_⟩
      ·rfl
      ·unfold wvO
       rw [hb60, hz2]
       exact hX62.ext e64
      ·exact (hY62.ext e64).toL
     ·replace hb60 : c = false := hb60
      refine zzs (zzp ?_)
      refine sq9 (zza 85 (.adr 15 0) (zzi 86 (zI ((wsA W L M L.length).u)) ty3 zzl (zza 87 (zI z2) (zza 88 (.adr 15 1) (zzi 89 (zI ((wsM W L M M.length).u)) ty3 zzl (zza 90 (zI z2) ?_))))))
      have hA65 : BldR 121 (MayB ⟨w, none, []⟩ u) u56 b35 (⟨⟨D.b, D.f, D.r, D.o⟩, ⟨W.b, W.f, W.r, W.o⟩, wvN L M, X, (⟨some ⟨b33, 0, none⟩, Nt.ordS L L.length + Nt.ordS M M.length, Nt.ordS L L.length + Nt.ordS M M.length⟩ : Sl), 0, Nt.p2i W.f, (wsM W L M M.length).f⟩ : BL) (wsM W L M M.length).N (wsM W L M M.length).s := ⟨hBi, hM41, hXi, hYi⟩
      have hl65 := NodesM.len hXi
      refine zwo (blks b35 (⟨⟨D.b, D.f, D.r, D.o⟩, ⟨W.b, W.f, W.r, W.o⟩, wvN L M, X, (⟨some ⟨b33, 0, none⟩, Nt.ordS L L.length + Nt.ordS M M.length, Nt.ordS L L.length + Nt.ordS M M.length⟩ : Sl), 0, Nt.p2i W.f, (wsM W L M M.length).f⟩ : BL)) 91 58 [.pointer (some ⟨b35, 0, none⟩), .int .i64 ((wsA W L M L.length).u), .int .i64 z2, .int .i64 ((wsM W L M M.length).u), .int .i64 z2] (BldR.may hA65) (fun w65 u65 e65 d65 => k_pnode (lo := u56.heap.size) d65 (hA65.own.ext e65) e65.size (by show wvN L M ≤ 100; omega) xq) (fun v65 u65b hF65 hv65 => ?_)
      obtain ⟨rfl, X65, hG65⟩ := hv65
      obtain ⟨hB65, hM65, hX65, hY65⟩ := hG65.back (fun b hb => (BldR.may hA65 b hb).1) hzi
      have hz65 := Nat.le_trans hzi hF65.size
      have hl65b := NodesM.len hX65
      have eT65 := hF65.root hA65 e56
      refine zza 92 (.v (.pointer (some ⟨b35, 0, none⟩))) (zza 93 (.v (.pointer (some ⟨b35, 11, none⟩))) (sy_storeD (b := b35) (off := 11) hB65 hM65 ty3 (show 11 + 1 ≤ 14 by decide) (fun u66 hS66 eB66 => ?_)))
      have hB66 : u66.heap[b35]? = some (.cells (⟨⟨D.b, D.f, D.r, D.o⟩, ⟨W.b, W.f, W.r, W.o⟩, wvN L M, X65, (⟨some ⟨b33, 0, none⟩, Nt.ordS L L.length + Nt.ordS M M.length, Nt.ordS L L.length + Nt.ordS M M.length⟩ : Sl), ((wvN L M + ((wsM W L M M.length).N).length + 1 : Nat) : Int), Nt.p2i W.f, (wsM W L M M.length).f⟩ : BL).cs.toArray 121 (0, 0)) := hS66
      have hX66 := hX65.extB eB66 hB65 yv yv
      have hY66 := hY65.extB eB66 hB65 yv
      have hz66 := Nat.le_trans hz65 eB66.size
      have eT66 : Ext u u66 := (ExtB.toF eB66).old eT65 (fun b hb ob ho => by have h9 := zxa ho; rw [List.mem_singleton] at hb; subst hb; rcases hM65 with h8 | h8; omega; cases h8)
      refine zzb (sq9 (zza 94 (.v (.pointer (some ⟨b35, 0, none⟩))) (zym 95 [.int .i64 D.b, .int .i64 D.f, .int .i64 D.r, .int .i64 D.o, .int .i64 W.b, .int .i64 W.f, .int .i64 W.r, .int .i64 W.o, .int .i64 (wvN L M : Nat), X65.v, .slice (some ⟨b33, 0, none⟩) (Nt.ordS L L.length + Nt.ordS M M.length) (Nt.ordS L L.length + Nt.ordS M M.length), .int .i64 ((wvN L M + ((wsM W L M M.length).N).length + 1 : Nat) : Int)] (blk_cells hB66 (off := 0) rfl) ty55 (zzj ⟨55, [.int .i64 D.b, .int .i64 D.f, .int .i64 D.r, .int .i64 D.o, .int .i64 W.b, .int .i64 W.f, .int .i64 W.r, .int .i64 W.o, .int .i64 (wvN L M : Nat), X65.v, .slice (some ⟨b33, 0, none⟩) (Nt.ordS L L.length + Nt.ordS M M.length) (Nt.ordS L L.length + Nt.ordS M M.length), .int .i64 ((wvN L M + ((wsM W L M M.length).N).length + 1 : Nat) : Int)]⟩ ty55 ?_))))
      refine zza 9 (zI 0) (zzb (zzo (ret0 [.agg #[.int .i64 D.b, .int .i64 D.f, .int .i64 D.r, .int .i64 D.o, .int .i64 W.b, .int .i64 W.f, .int .i64 W.r, .int .i64 W.o, .int .i64 (wvN L M : Nat), .slice X65.a X65.n X65.c, .slice (some ⟨b33, 0, none⟩) (Nt.ordS L L.length + Nt.ordS M M.length) (Nt.ordS L L.length + Nt.ordS M M.length), .int .i64 ((wvN L M + ((wsM W L M M.length).N).length + 1 : Nat) : Int)], .int .i64 0] ⟨zzr ty55 zze, zzq, trivial⟩ fun u67 e68 => ?_)))
      refine ⟨X65, (⟨some ⟨b33, 0, none⟩, Nt.ordS L L.length + Nt.ordS M M.length, Nt.ordS L L.length + Nt.ordS M M.length⟩ : Sl), ?_, ⟨_, NodesM.toB (mb := MayB ⟨w, none, []⟩ u) ?_⟩, ?_⟩
      ·rfl
      ·unfold wvO
       rw [hb60, hz2]
       exact hX66.ext e68
      ·exact (hY66.ext e68).toL
section
variable {P : Program} {ops : Array Oper} {w0 : Base} {u0 : World} {S : St} {u : World} {o : Oper} {p : List Tmp} {seq : Bool} {rest : List (Oper × List Tmp)} {K : St → World → Prop}
theorem sy_makeC (d : Tmp) {T E : TypeId} {x y : Operand} {z : Value} {size bytes : Nat} {k1 k2 : IntKind} {i j : Int} (n c : Nat) (cs : List Value) (hT : P.underlying T = some (.slice E)) (hi : (P.info? E).map (fun i => (i.zero, i.size, i.bytes)) = some (some z, size, bytes)) (hn : i = n) (hn2 : j = c) (hnc : n ≤ c) (hb : bytes * c ≤ 281474976710656) (h63 : c ≤ maxLen) (hcs : (madeCells z.cells (c * size)).toList = cs)
  (k : sym P ops w0 u0 true rest (S.own d ⟨E, cs⟩ n c) u K) (hw : Wants ops o S := by exact zwj xj) (hd : o.dst = some d := by kernel_rfl) (hop : o.op = .makeSlice T x y := by rfl) (hf : freeB S d = true := by kernel_rfl) (hv : S.var d = none := by kernel_rfl)
  (hx : evO S x = some (.v (.int k1 i)) := by rfl) (hy : evO S y = some (.v (.int k2 j)) := by rfl) : sym P ops w0 u0 true ((o, p) :: rest) S u K := by
 obtain ⟨inf, hi1, hz, hs, hby⟩ := info_parts hi
 subst hcs hn hn2
 have hfr := zwa (o := o) hd hf d hd
 refine .inr (.inr (.inl ⟨.inl rfl, fun B a w u' he hrep => ⟨hw B a hrep.regs, ?_⟩⟩))
 have hrun : (execOp a.eval o).run P w = .ok (.value (.slice (some ⟨w.heap.size, 0, none⟩) n c)) (w.alloc (.cells (madeCells z.cells (c * size)) E)) := by
  have h63' : (c : Int) ≤ 9223372036854775807 := by unfold maxLen at h63; omega
  have hb' : (inf.bytes : Int) * (c : Int) ≤ 281474976710656 := by
   have h : ((inf.bytes * c : Nat) : Int) ≤ 281474976710656 := by rw [hby]; omega
   rwa [Int.natCast_mul] at h
  have hrun := run_make (P := P) w T E inf z hT hi1 hz k1 k2 n c xq xq hb' h63'
  have e1 : (execOp a.eval o).run P w = (do pure (Next.value (← Instr.makeSlice T (a.eval x) (a.eval y))) : Sem Next).run P w := by unfold execOp; rw [hop]
  rw [e1, ev_of hrep.regs hx, ev_of hrep.regs hy]
  rw [hs] at hrun
  exact run_val (by simpa [SV.conc] using hrun)
 have e : (SV.slc d 0 n c).conc (setB B d w.heap.size) = .slice (some ⟨w.heap.size, 0, none⟩) n c := by simp [SV.conc, setB]
 have hr2 := hrep.new (t := d) (V := ⟨E, (madeCells z.cells (c * size)).toList⟩) (y := .slc d 0 n c) hfr.1 hv hfr.2 rfl
 rw [e] at hr2
 unfold Oper.wp
 rw [hrun]
 show ∃ S' B' u'' u2, Rep w0 u0 S' B' (a.put o.dst _) _ u'' ∧ _
 rw [hd]
 exact ⟨_, _, _, u, (by simpa [St.own] using hr2), (fun h => by cases h), (fun h => by cases h), he.trans (zxw _ _).ext, k⟩
theorem run_shr {T : TypeId} {k yk : IntKind} {n s : Int} {x y : Operand} {w : World} (h0 : 0 ≤ s) (h1 : s ≤ k.bits) : (do eqGuard .shr T x y (.int k n) (.int yk s); binOp .shr T (.int k n) (.int yk s) : Sem Value).run P w = .ok (.int k (n / 2 ^ s.toNat)) w := by
 simp [eqGuard, binOp, shift_shr k yk n s h0 h1, go_sem]
theorem sy_shr (d : Tmp) {T T2 : TypeId} {x y : Operand} {k yk : IntKind} {n s : Int} (v : Int) (h0 : 0 ≤ s) (h1 : s ≤ k.bits) (hv : n / 2 ^ s.toNat = v) (kk : sym P ops w0 u0 seq rest (S.set d (.v (.int k v))) u K) (hw : Wants ops o S := by exact zwj xj) (hd : o.dst = some d := by kernel_rfl) (hop : o.op = .binOp .shr T x y T2 := by rfl) (hf : freeB S d = true := by kernel_rfl)
  (hx : evO S x = some (.v (.int k n)) := by rfl) (hy : evO S y = some (.v (.int yk s)) := by rfl) : sym P ops w0 u0 seq ((o, p) :: rest) S u K := by
 subst hv
 refine .inl ⟨by rw [hop]; exact (by decide : (0 : Nat) ≠ 2), .set (.v (.int k (n / 2 ^ s.toNat))), ⟨zwa hd hf, .inl ⟨(fun t ht => by cases ht), fun B a w u' hr he hdt => ⟨hw B a hr, ?_⟩⟩⟩, ?_⟩
 ·have e1 : (execOp a.eval o).run P w = (do pure (Next.value (← (do eqGuard .shr T x y (a.eval x) (a.eval y); binOp .shr T (a.eval x) (a.eval y)))) : Sem Next).run P w := by unfold execOp; rw [hop]
  rw [e1, ev_eval hr hx, ev_eval hr hy]
  exact run_val (run_shr h0 h1)
 ·show sym P ops w0 u0 seq rest (S.put o.dst (some _)) u K
  rw [hd]; exact kk
theorem sy_minN (d : Tmp) {x y : Operand} {k0 : IntKind} {n m v : Int} {tys : Array TypeId} (hv : (if m < n then m else n) = v)
  (k : sym P ops w0 u0 seq rest (S.set d (.v (.int k0 v))) u K)
  (hw : Wants ops o S := by exact zwj xj) (hd : o.dst = some d := by kernel_rfl) (hop : o.op = .call { callee := .builtin .min, args := #[x, y], argTypes := tys } := by rfl) (hf : freeB S d = true := by kernel_rfl)
  (hx : evO S x = some (.v (.int k0 n)) := by rfl) (hy : evO S y = some (.v (.int k0 m)) := by rfl) : sym P ops w0 u0 seq ((o, p) :: rest) S u K := by
 refine .inr (.inr (.inl ⟨.inr ⟨by rw [hop]; rfl, by rw [hop]; rfl⟩, fun B a w u' he hrep => ⟨hw B a hrep.regs, ?_⟩⟩))
 have hrun : ∀ ty w, (Builtin.min_ tys ty #[.int k0 n, .int k0 m]).run P w = .ok (.int k0 v) w := by
  intro ty w
  rw [← hv]
  rfl
 unfold Oper.wp execOp
 simp only [hop, resolve, invoke, builtin, Sem.run_bind, Sem.run_pure, Result.andThen_ok, List.map_toArray, List.map_cons, List.map_nil, ev_of hrep.regs hx, ev_of hrep.regs hy, SV.conc, hrun]
 have hr2 := hrep.set (d := o.dst) (x := some (.v (.int k0 v))) (v := .int k0 v) (fun s hs => (zwa hd hf s hs).1) (fun z e => by injection e with e; rw [← e]; rfl) (fun z t e ht => by injection e with e; rw [← e] at ht; cases ht)
 show ∃ S' B' u'' u2, Rep w0 u0 S' B' (a.put o.dst _) w u'' ∧ _
 refine ⟨_, B, u', u, hr2, fun _ => Ext.refl _, fun _ => Ext.refl _, he, ?_⟩
 rw [hd]; exact k
theorem sy_copyI (d : Tmp) {T E : TypeId} {s x : Operand} {A : Option Addr} {n m c c2 t : Nat} {cs0 : List Value} (l : List Int) (hT : P.underlying T = some (.slice E)) (hi' : (P.info? E).map (fun i => (i.zero, i.size, i.bytes)) = some (some (.int .i64 0), 1, 8)) (hm : m = n) (hl : SlR .i64 u A m c2 l) (hcs : cs0.length = n)
  (k : sym P ops w0 u0 true rest ((S.setVar t ⟨E, ics l⟩).set d (.v (.int .i64 (n : Int)))) u K)
  (hw : Wants ops o S := by exact zwj xj) (hd : o.dst = some d := by kernel_rfl) (hop : o.op = .call { callee := .builtin .copy, args := #[s, x], argTypes := #[T, T] } := by rfl) (hf : freeB S d = true := by kernel_rfl)
  (hs : evO S s = some (.slc t 0 n c) := by rfl) (hv : S.var t = some ⟨E, cs0⟩ := by rfl) (hx : evO S x = some (.v (.slice A m c2)) := by rfl) : sym P ops w0 u0 true ((o, p) :: rest) S u K := by
 subst hm
 obtain ⟨i, hi, _, hsz, _⟩ := info_parts hi'
 refine .inr (.inr (.inl ⟨.inl rfl, fun B a w u' he hrep => ⟨hw B a hrep.regs, ?_⟩⟩))
 obtain ⟨v1, v2, v3⟩ := hrep.var t _ hv
 have hl2 := (hl.ext he).ext hrep.dat.ext
 have hlen : l.length = m := hl.1
 have hmx : m ≤ maxLen := Nat.le_trans hl.2.1 hl.2.2.1
 obtain ⟨w', k1, k2, k3⟩ := run_storeCells (P := P) (b := B t) (ty := E) (base := 0) (ics l) 0 w cs0 v1 (by rw [zwm]; omega) (fun v hv => by
  unfold ics at hv
  obtain ⟨z, _, rfl⟩ := List.mem_map.1 hv; rfl)
 have e0 : setL cs0 (0 + 0) (ics l) = ics l := by
  unfold setL
  rw [Nat.zero_add, List.take_zero, List.nil_append, Nat.zero_add, List.drop_of_length_le (by rw [zwm]; omega), List.append_nil]
 rw [e0] at k2
 have hfc : (Builtin.firstCells 1 m (.slice A m c2)).run P w = .ok (ics l).toArray w := by
  cases A with
  | none =>
   have : l = [] := by
    cases hm0 : m with
    | zero => exact List.eq_nil_of_length_eq_zero xq
    | succ q => obtain ⟨b, o, e, _⟩ := hl2.2.2.2 xq; cases e
   subst this
   simp [Builtin.firstCells, ics, go_sem]
  | some ad =>
   by_cases hm0 : 0 < m
   ·obtain ⟨b, o, e, hb, hc⟩ := hl2.2.2.2 hm0
    injection e with e
    subst e
    have := run_loadCells (P := P) (w := w) (b := b) (l := ics l) (m * 1) o #[] 0 (fun j hj => by
     rw [Nat.add_zero, hc j xq, Nat.zero_add, ics_at xq, List.getD_eq_getElem?_getD]) (by rw [zwm]; omega)
    simp only [Builtin.firstCells, loadCells]
    rw [this]
    simp
    rw [List.take_of_length_le (by rw [zwm]; omega)]
   ·have : l = [] := List.eq_nil_of_length_eq_zero xq
    subst this
    have hm1 : m = 0 := by omega
    subst hm1
    simp [Builtin.firstCells, loadCells, loadCellsFrom, ics, go_sem]
 have hrun : (Builtin.copy_ #[T, T] o.type #[.slice (some ⟨B t, 0, none⟩) m c, .slice A m c2]).run P w = .ok (.int .i64 (m : Int)) w' := by
  simp [Builtin.copy_, run_underlying hT, sizeOf, typeInfo, hi, hsz, Builtin.lenOf, hfc, k1, goInt]
 unfold Oper.wp execOp
 simp only [hop, resolve, invoke, builtin, Sem.run_bind, Sem.run_pure, Result.andThen_ok, List.map_toArray, List.map_cons, List.map_nil, ev_of hrep.regs hs, ev_of hrep.regs hx, SV.conc, hrun]
 have hr1 := hrep.store (V' := ⟨E, ics l⟩) hv k2 k3
 have hr2 := hr1.set (d := o.dst) (x := some (.v (.int .i64 (m : Int)))) (v := .int .i64 (m : Int)) (fun s hs => (zwa hd hf s hs).1) (fun z e => by injection e with e; rw [← e]; rfl) (fun z t' e ht => by injection e with e; rw [← e] at ht; cases ht)
 show ∃ S' B' u'' u2, Rep w0 u0 S' B' (a.put o.dst _) w' u'' ∧ _
 rw [hd] at hr2 ⊢
 exact ⟨_, B, u', u, hr2, (fun h => by cases h), (fun h => by cases h), he, k⟩
theorem sy_appI (d : Tmp) {T E : TypeId} {s x : Operand} {A : Option Addr} {m c t n cap : Nat} {cs0 : List Value} (pubs : List Tmp) (l : List Int) (hT : P.underlying T = some (.slice E)) (hi : (P.info? E).map (fun i => (i.zero, i.size, i.bytes)) = some (some (.int .i64 0), 1, 8)) (hl : SlR .i64 u A m c l) (h63 : n + m ≤ maxLen) (hbytes : (n + m) * 8 ≤ 140737488355328)
  (hn : n ≤ cap) (hcap : cap ≤ maxLen) (hcl : cs0.length = cap * 1) (hno : NoAt S pubs)
  (k : ∀ c1 cs, n + m ≤ c1 → c1 ≤ maxLen → cs.length = c1 * 1 → cs.take ((n + m) * 1) = cs0.take (n * 1) ++ l.map (Value.int .i64) → sym P ops w0 u0 true rest ((S.unpub pubs).own d ⟨E, cs⟩ (n + m) c1) u K)
  (hw : Wants ops o S := by exact zwj xj) (hd : o.dst = some d := by kernel_rfl) (hop : o.op = .call { callee := .builtin .append, args := #[s, x], argTypes := #[T, T] } := by rfl) (hf : (Nat.blt d S.n && ((S.var d).isNone || pubs.contains d) && pubs.contains t && Nat.blt t S.n) = true := by kernel_rfl)
  (hs : evO S s = some (.slc t 0 n cap) := by rfl) (hv : S.var t = some ⟨E, cs0⟩ := by rfl) (hx : evO S x = some (.v (.slice A m c)) := by rfl) : sym P ops w0 u0 true ((o, p) :: rest) S u K := by
 have hll : l.length = m := hl.1
 by_cases hm : 0 < m
 ·obtain ⟨b, off, rfl, hb, hc⟩ := hl.2.2.2 hm
  exact sy_app1 d (z := .int .i64 0) (size := 1) (bytes := 8) (m := m) pubs (l.map (Value.int .i64)) hT hi rfl yv (by rw [List.length_map]; omega) (fun j v hv => by
   have hj : j < l.length := by have := (List.getElem?_eq_some_iff.1 hv).1; simpa using this
   rw [hc j xq]
   rw [List.getElem?_map, List.getElem?_eq_getElem hj] at hv
   rw [List.getElem?_eq_getElem hj]; exact hv) (fun v hv => by obtain ⟨z, _, rfl⟩ := List.mem_map.1 hv; rfl) hm h63 hbytes hn hcap hcl hno k hw hd hop hf hs hv hx
 ·have hm0 : m = 0 := by omega
  subst hm0
  have hl0 : l = [] := List.eq_nil_of_length_eq_zero hll
  subst hl0
  obtain ⟨inf, hi1, _⟩ := info_parts hi
  simp only [Bool.and_eq_true, Bool.or_eq_true, Option.isNone_iff_eq_none, List.contains_iff_mem] at hf
  refine .inr (.inr (.inl ⟨.inl rfl, fun B a w u' he hrep => ⟨hw B a hrep.regs, ?_⟩⟩))
  have htn : t < S.n := Nat.le_of_ble_eq_true hf.2
  obtain ⟨v1, v2, v3⟩ := hrep.var t _ hv
  have hrun : (Builtin.append_ #[T, T] o.type #[.slice (some ⟨B t, 0, none⟩) n cap, .slice A 0 c]).run P w = .ok (.slice (some ⟨B t, 0, none⟩) n cap) w := run_app_none hT hi1 hn _ _ _ _ _
  unfold Oper.wp execOp
  simp only [hop, resolve, invoke, builtin, Sem.run_bind, Sem.run_pure, Result.andThen_ok, List.map_toArray, List.map_cons, List.map_nil, ev_of hrep.regs hs, ev_of hrep.regs hx, SV.conc, hrun]
  have hr2 := hrep.grown hno (row := some (B t)) (fun b h => by injection h with h; exact ⟨t, hf.1.2, htn, _, hv, h⟩) (w' := w) ⟨rfl, rfl, rfl, Nat.le_refl _, fun _ _ _ => rfl⟩ (d := d) (V := ⟨E, cs0⟩) (g := B t) (n := n) (c := cap) (Nat.le_of_ble_eq_true hf.1.1.1) hf.1.1.2 v1 (.inl rfl)
  have hsz2 : u'.heap.size ≤ w.heap.size := Nat.le_of_eq hrep.dat.size
  show ∃ S' B' u'' u2, Rep w0 u0 S' B' (a.put o.dst _) w u'' ∧ _
  rw [hd]
  exact ⟨_, _, _, u, hr2, (fun h => by cases h), (fun h => by cases h), he.trans (hide_grow hsz2).ext, k cap cs0 hn hcap hcl (by rw [List.map_nil, List.append_nil]; rfl)⟩
end
theorem part_take {cs : List Value} {L : List Int} {n i off : Nat} (h : cs.take (n * 1) = L.map (Value.int .i64)) (hn : L.length = n) (hi : i < n) (ho : off = i * 1) : PartIs cs off false 1 (.v (.int .i64 (L.getD i 0))) := by
 subst ho
 refine ⟨_, ?_, rfl⟩
 rw [Nat.mul_one] at h ⊢
 have h2 : (cs.take n)[i]? = some (.int .i64 (L.getD i 0)) := by
  rw [h, List.getElem?_map, List.getD_eq_getElem?_getD, List.getElem?_eq_getElem xq]; rfl
 rw [List.getElem?_take_of_lt hi] at h2; exact h2
namespace Nt
theorem shl_one9 {n : Int} (h0 : 0 ≤ n) (h1 : n ≤ 62) : IntKind.i64.wrap (1 * 2 ^ n.toNat) = Nt.p2i n := by
 have h2 : Nt.p2i n ≤ 4611686018427387904 := Nt.zwh (b := 62) h1
 have h3 := Nt.zxq n
 rw [Int.one_mul]
 exact IntWalk.i64_in _ (by unfold Nt.p2i at *; omega)
theorem bits_mod (n : Int) (k : Nat) (hk : k ≤ 62) : bits .and .i64 n (2 ^ k - 1) = n % 2 ^ k := by
 have hp : 0 < 2 ^ k := Nat.two_pow_pos k
 have hle : 2 ^ k ≤ 2 ^ 62 := Nat.pow_le_pow_right yv hk
 have hm : (BitVec.ofInt 64 (2 ^ k - 1)).toNat = 2 ^ k - 1 := by
  have e : ((2 : Int) ^ k - 1) = ((2 ^ k - 1 : Nat) : Int) := by rw [Int.natCast_sub hp]; simp
  rw [e, BitVec.ofInt_natCast, BitVec.toNat_ofNat]
  exact Nat.mod_eq_of_lt xq
 have key : (BitVec.ofInt 64 n &&& BitVec.ofInt 64 (2 ^ k - 1)).toNat = (n % ((2 ^ 64 : Nat) : Int)).toNat % 2 ^ k := by
  rw [BitVec.toNat_and, BitVec.toNat_ofInt, hm, Nat.and_two_pow_sub_one_eq_mod]
 show IntKind.i64.wrap ((BitVec.ofInt 64 n &&& BitVec.ofInt 64 (2 ^ k - 1)).toNat : Nat) = n % 2 ^ k
 rw [key]
 have hd : ((2 ^ k : Nat) : Int) ∣ ((2 ^ 64 : Nat) : Int) := Int.natCast_dvd_natCast.2 (Nat.pow_dvd_pow 2 xq)
 have e1 : (((n % ((2 ^ 64 : Nat) : Int)).toNat % 2 ^ k : Nat) : Int) = n % 2 ^ k := by
  rw [Int.natCast_emod, Int.toNat_of_nonneg (Int.emod_nonneg _ yv), Int.emod_emod_of_dvd _ hd]; simp
 have hlt : (n % ((2 ^ 64 : Nat) : Int)).toNat % 2 ^ k < 2 ^ k := Nat.mod_lt _ hp
 rw [IntWalk.i64_in _ xq, e1]
theorem bits_p2 {n b : Int} (h0 : 0 ≤ b) (h1 : b ≤ 62) : bits .and .i64 n (p2i b - 1) = n % p2i b := bits_mod n b.toNat xq
theorem bits_1 (n : Int) : bits .and .i64 n 1 = n % 2 := bits_mod n 1 yv
def shiftW (v n r : Int) : Int := if n = 0 then v else if r = 2 then v / p2i n + v / p2i (n - 1) % 2 else if r = 3 ∧ v < 0 ∧ v % p2i n ≠ 0 then v / p2i n + 1 else v / p2i n
def wrapW (b v : Int) : Int := if p2i (b - 1) ≤ v % p2i b then v % p2i b - p2i b else v % p2i b
def satW (b v : Int) : Int := if p2i (b - 1) - 1 < (if -p2i (b - 1) > v then -p2i (b - 1) else v) then p2i (b - 1) - 1 else (if -p2i (b - 1) > v then -p2i (b - 1) else v)
def redW (D : WL) (v : Int) : Int := if D.o = 2 then wrapW D.b v else satW D.b v
theorem p2i_succ {b : Int} (h : 1 ≤ b) : p2i b = 2 * p2i (b - 1) := by
 unfold p2i
 rw [show b.toNat = (b - 1).toNat + 1 by omega, Int.pow_succ, Int.mul_comm]
theorem wrapW_bd {b v : Int} (hb : 1 ≤ b) : -p2i (b - 1) ≤ wrapW b v ∧ wrapW b v ≤ p2i (b - 1) - 1 := by
 have h1 := p2i_succ hb
 have h2 := zxq (b - 1)
 have h3 := Int.emod_nonneg v (show p2i b ≠ 0 by omega)
 have h4 := Int.emod_lt_of_pos v (show 0 < p2i b by omega)
 unfold wrapW
 split <;> omega
theorem satW_bd {b v : Int} : -p2i (b - 1) ≤ satW b v ∧ satW b v ≤ p2i (b - 1) - 1 := by
 have h2 := zxq (b - 1)
 unfold satW
 split <;> split at * <;> omega
theorem redW_bd {D : WL} {v : Int} (hD : WdOK D) : -p2i (D.b - 1) ≤ redW D v ∧ redW D v ≤ p2i (D.b - 1) - 1 := by
 obtain ⟨h1, _⟩ := hD
 unfold redW
 split
 ·exact wrapW_bd xq
 ·exact satW_bd
def sumT (vals : List Int) : List TL → Int
 | [] => 0
 | t :: T => t.c * vals.getD t.f.toNat 0 + sumT vals T
def sumK (vals : List Int) (T : List TL) (k : Nat) : Int := sumT vals (T.take k)
def nodeV (D W : WL) (vals : List Int) (T : List TL) : Int := redW D (shiftW (sumT vals T) W.f D.r)
def overV (D W : WL) (vals : List Int) (T : List TL) : Bool := !(fitB D (shiftW (sumT vals T) W.f D.r))
def valsK (D W : WL) (N : List (List TL)) (v0 : List Int) : Nat → List Int
 | 0 => v0
 | k + 1 => valsK D W N v0 k ++ [nodeV D W (valsK D W N v0 k) (N.getD k [])]
def oversK (D W : WL) (N : List (List TL)) (v0 : List Int) : Nat → Bool
 | 0 => false
 | k + 1 => oversK D W N v0 k || overV D W (valsK D W N v0 k) (N.getD k [])
def nextV (nx : List Int) (vals : List Int) : List Int := nx.map fun k => vals.getD k.toNat 0
def runS (D W : WL) (N : List (List TL)) (nx : List Int) (st xs : List Int) : Nat → List Int
 | 0 => st
 | k + 1 => nextV nx (valsK D W N (xs.getD k 0 :: runS D W N nx st xs k) N.length)
def runV (D W : WL) (N : List (List TL)) (nx : List Int) (st xs : List Int) (k : Nat) : List Int := valsK D W N (xs.getD k 0 :: runS D W N nx st xs k) N.length
def runO (D W : WL) (N : List (List TL)) (nx : List Int) (q : Int) (st xs : List Int) : Nat → List Int
 | 0 => []
 | k + 1 => runO D W N nx q st xs k ++ [(runV D W N nx st xs k).getD q.toNat 0]
def runC (D W : WL) (N : List (List TL)) (nx : List Int) (st xs : List Int) : Nat → Nat
 | 0 => 0
 | k + 1 => runC D W N nx st xs k + (if oversK D W N (xs.getD k 0 :: runS D W N nx st xs k) N.length then 1 else 0)
structure NetOK (D W : WL) (s : Nat) (N : List (List TL)) (nx : List Int) (q : Int) : Prop where
 hd : WdOK D
 hw : WdOK W
 hs : s ≤ 64
 hn : N.length ≤ 64
 hx : nx.length = s
 ht : ∀ k, k < N.length → (N.getD k []).length ≤ 64 ∧ ∀ j, j < (N.getD k []).length → 0 ≤ ((N.getD k []).getD j tl0).f ∧ ((N.getD k []).getD j tl0).f ≤ s + k ∧ (((N.getD k []).getD j tl0).c = p2i W.f ∨ fitB W ((N.getD k []).getD j tl0).c = true)
 hr : ∀ j, j < nx.length → 0 ≤ nx.getD j 0 ∧ nx.getD j 0 ≤ s + N.length
 hq : 0 ≤ q ∧ q ≤ s + N.length
variable {D W : WL} {s : Nat} {N : List (List TL)} {nx v0 st xs vals : List Int} {q : Int} {k j : Nat} {T : List TL}
theorem valsK_len : (valsK D W N v0 k).length = v0.length + k := by
 induction k with
 | zero => rfl
 | succ k ih => unfold valsK; rw [List.length_append, ih]; rfl
theorem getD_app_lt {l m : List Int} {i : Nat} (h : i < l.length) : (l ++ m).getD i 0 = l.getD i 0 := by
 rw [List.getD_eq_getElem?_getD, List.getElem?_append_left h, ← List.getD_eq_getElem?_getD]
theorem valsK_bd (hD : WdOK D) (h0 : ∀ i, i < v0.length → -p2i (D.b - 1) ≤ v0.getD i 0 ∧ v0.getD i 0 ≤ p2i (D.b - 1) - 1) : ∀ i, i < v0.length + k → -p2i (D.b - 1) ≤ (valsK D W N v0 k).getD i 0 ∧ (valsK D W N v0 k).getD i 0 ≤ p2i (D.b - 1) - 1 := by
 induction k with
 | zero => exact h0
 | succ k ih =>
  intro i hi
  by_cases e : i < v0.length + k
  ·have := ih i e
   unfold valsK
   rw [getD_app_lt (by rw [valsK_len]; exact e)]; exact this
  ·have e2 : i = (valsK D W N v0 k).length := by rw [valsK_len]; omega
   unfold valsK
   rw [e2, List.getD_eq_getElem?_getD, List.getElem?_append_right (Nat.le_refl _), Nat.sub_self]
   exact redW_bd hD
theorem sumT_app {A B : List TL} : sumT vals (A ++ B) = sumT vals A + sumT vals B := by
 induction A with
 | nil => show _ = 0 + _; rw [Int.zero_add]; rfl
 | cons t A ih => show _ + sumT vals (A ++ B) = (_ + _) + _; rw [ih, Int.add_assoc]
theorem sumK_succ (h : k < T.length) : sumK vals T (k + 1) = sumK vals T k + (T.getD k tl0).c * vals.getD (T.getD k tl0).f.toNat 0 := by
 unfold sumK
 rw [List.take_succ_eq_append_getElem h, sumT_app]
 have e : T[k] = T.getD k tl0 := by rw [List.getD_eq_getElem?_getD, List.getElem?_eq_getElem h]; rfl
 rw [e]
 show _ + (_ + 0) = _
 rw [Int.add_zero]
theorem sumK_all : sumK vals T T.length = sumT vals T := by unfold sumK; rw [List.take_length]
theorem mul_bd {a b A B : Int} (ha : -A ≤ a ∧ a ≤ A) (hb : -B ≤ b ∧ b ≤ B) : -(A * B) ≤ a * b ∧ a * b ≤ A * B := by
 have h : (a * b).natAbs ≤ A.natAbs * B.natAbs := by rw [Int.natAbs_mul]; exact Nat.mul_le_mul xq xq
 have h2 : (A * B).natAbs = A.natAbs * B.natAbs := Int.natAbs_mul _ _
 have h3 : 0 ≤ A * B := Int.mul_nonneg xq xq
 omega
theorem sumK_bd (h1 : ∀ j, j < T.length → -16777216 ≤ (T.getD j tl0).c ∧ (T.getD j tl0).c ≤ 16777216) (h2 : ∀ j, j < T.length → -8388608 ≤ vals.getD (T.getD j tl0).f.toNat 0 ∧ vals.getD (T.getD j tl0).f.toNat 0 ≤ 8388608) : ∀ k, k ≤ T.length → -(140737488355328 * (k : Int)) ≤ sumK vals T k ∧ sumK vals T k ≤ 140737488355328 * (k : Int) := by
 intro k
 induction k with
 | zero => intro _; unfold sumK; rw [List.take_zero]; show _ ≤ (0 : Int) ∧ (0 : Int) ≤ _; omega
 | succ k ih =>
  intro hk
  have := ih xq
  have hm := mul_bd (h1 k xq) (h2 k xq)
  rw [sumK_succ xq]
  omega
theorem cons_bd {x : Int} (hD : WdOK D) (hx : fitB D x = true) (hst : ∀ i, i < st.length → fitB D (st.getD i 0) = true) : ∀ i, i < (x :: st).length → -p2i (D.b - 1) ≤ (x :: st).getD i 0 ∧ (x :: st).getD i 0 ≤ p2i (D.b - 1) - 1 := by
 intro i hi
 cases i with
 | zero => exact fit_iff.1 hx
 | succ i => exact fit_iff.1 (hst i (by simpa using hi))
theorem netSum (hok : NetOK D W s N nx q) {i : Nat} (hi : i < N.length) (hl : v0.length = 1 + s) (h0 : ∀ i, i < v0.length → -p2i (D.b - 1) ≤ v0.getD i 0 ∧ v0.getD i 0 ≤ p2i (D.b - 1) - 1) :
  (∀ k, k ≤ (N.getD i []).length → -(140737488355328 * (k : Int)) ≤ sumK (valsK D W N v0 i) (N.getD i []) k ∧ sumK (valsK D W N v0 i) (N.getD i []) k ≤ 140737488355328 * (k : Int)) ∧
  ∀ j, j < (N.getD i []).length → -140737488355328 ≤ ((N.getD i []).getD j tl0).c * (valsK D W N v0 i).getD ((N.getD i []).getD j tl0).f.toNat 0 ∧ ((N.getD i []).getD j tl0).c * (valsK D W N v0 i).getD ((N.getD i []).getD j tl0).f.toNat 0 ≤ 140737488355328 := by
 have hD := hok.hd
 have hW := hok.hw
 have h1 : ∀ j, j < (N.getD i []).length → -16777216 ≤ ((N.getD i []).getD j tl0).c ∧ ((N.getD i []).getD j tl0).c ≤ 16777216 := fun j hj => by
  have hf1 := zxq W.f
  have hf2 := p2i_24 (n := W.f) (by obtain ⟨a, b, c, e, _⟩ := hW; omega)
  have hf3 : p2i (W.b - 1) ≤ 8388608 := zwh (b := 23) (by obtain ⟨a, b, _⟩ := hW; omega)
  rcases ((hok.ht i hi).2 j hj).2.2 with h | h
  ·omega
  ·have := fit_iff.1 h; omega
 have h2 : ∀ j, j < (N.getD i []).length → -8388608 ≤ (valsK D W N v0 i).getD ((N.getD i []).getD j tl0).f.toNat 0 ∧ (valsK D W N v0 i).getD ((N.getD i []).getD j tl0).f.toNat 0 ≤ 8388608 := fun j hj => by
  have ht := (hok.ht i hi).2 j hj
  have hv := valsK_bd (D := D) (W := W) (N := N) (k := i) hD h0 ((N.getD i []).getD j tl0).f.toNat xq
  have hf3 : p2i (D.b - 1) ≤ 8388608 := zwh (b := 23) (by obtain ⟨a, b, _⟩ := hD; omega)
  omega
 exact ⟨sumK_bd h1 h2, fun j hj => mul_bd (h1 j hj) (h2 j hj)⟩
theorem nextV_len {vals : List Int} : (nextV nx vals).length = nx.length := by unfold nextV; rw [List.length_map]
theorem nextV_get {vals : List Int} {j : Nat} (h : j < nx.length) : (nextV nx vals).getD j 0 = vals.getD (nx.getD j 0).toNat 0 := by
 unfold nextV
 rw [List.getD_eq_getElem?_getD, List.getElem?_map, List.getElem?_eq_getElem h]
 have e : nx.getD j 0 = nx[j] := by rw [List.getD_eq_getElem?_getD, List.getElem?_eq_getElem h]; rfl
 rw [e]; rfl
theorem nextV_ext {vals L : List Int} (hl : L.length = nx.length) (h : ∀ j, j < nx.length → L.getD j 0 = vals.getD (nx.getD j 0).toNat 0) : L = nextV nx vals := by
 apply List.ext_getElem (by rw [nextV_len, hl])
 intro j h1 h2
 have e1 : L[j] = L.getD j 0 := by rw [List.getD_eq_getElem?_getD, List.getElem?_eq_getElem h1]; rfl
 have e2 : (nextV nx vals)[j] = (nextV nx vals).getD j 0 := by rw [List.getD_eq_getElem?_getD, List.getElem?_eq_getElem h2]; rfl
 rw [e1, e2, h j xq, nextV_get xq]
theorem runS_ok (hok : NetOK D W s N nx q) (hsl : st.length = s) (hst : ∀ i, i < st.length → fitB D (st.getD i 0) = true) (hxs : ∀ i, i < xs.length → fitB D (xs.getD i 0) = true) : ∀ k, k ≤ xs.length → (runS D W N nx st xs k).length = s ∧ ∀ i, i < s → fitB D ((runS D W N nx st xs k).getD i 0) = true := by
 intro k
 induction k with
 | zero => intro _; exact ⟨hsl, fun i hi => hst i xq⟩
 | succ k ih =>
  intro hk
  obtain ⟨h1, h2⟩ := ih xq
  have hv := valsK_bd (D := D) (W := W) (N := N) (k := N.length) hok.hd (cons_bd hok.hd (hxs k xq) (fun i hi => h2 i xq))
  refine ⟨by show (nextV _ _).length = s; rw [nextV_len]; exact hok.hx, fun i hi => ?_⟩
  show fitB D ((nextV _ _).getD i 0) = true
  rw [nextV_get (by rw [hok.hx]; exact hi)]
  have hr := hok.hr i (by rw [hok.hx]; exact hi)
  exact fit_iff.2 (hv _ (by rw [List.length_cons, h1]; omega))
end Nt
theorem SlR.fresh {k : IntKind} {u u' : World} {A : Option Addr} {n c g b : Nat} {l : List Int} (h : SlR k u A n c l) (hA : A = some ⟨g, 0, none⟩) (hg : g ≠ b) (e : ExtB b u u') : SlR k u' A n c l := by
 obtain ⟨h1, h2, h3, h4⟩ := h
 refine ⟨h1, h2, h3, fun hp => ?_⟩
 obtain ⟨b', o, rfl, hlt, hc⟩ := h4 hp
 injection hA with hA
 injection hA with hA1 hA2 _
 subst hA1
 refine ⟨b', o, rfl, Nat.lt_of_lt_of_le hlt e.size, fun i hi => ?_⟩
 have hk := hc i hi
 unfold World.cell? at hk ⊢
 cases hb : u.heap[b']? with
 | none => rw [hb] at hk; cases hk
 | some ob =>
  rw [hb] at hk
  cases ob with
  | cells cc t fr => rw [e.vis _ _ hg hb (by unfold hidO; exact fun e => by cases e)]; exact hk
  | _ => cases hk
theorem Nt.div_bd {v p : Int} (hp : 0 < p) : -v.natAbs ≤ v / p ∧ v / p ≤ v.natAbs := by
 constructor
 ·rw [Int.le_ediv_iff_mul_le hp]
  have : (-(v.natAbs : Int)) * p ≤ (-(v.natAbs : Int)) * 1 := Int.mul_le_mul_of_nonpos_left xq xq
  omega
 ·by_cases h : 0 ≤ v
  ·have := Int.ediv_le_self p h; omega
  ·have := Int.ediv_neg_of_neg_of_pos (show v < 0 by omega) hp; omega
theorem k_fxShift1 {u w : World} {v n : Int} (d : Dat u w) (hv0 : -1152921504606846976 ≤ v) (hv1 : v ≤ 1152921504606846976) (hn0 : 0 ≤ n) (hn1 : n ≤ 24) : Calls Tryz.prog 100 #[.int .i64 v, .int .i64 n, .int .i64 1] w (Post u w fun y _ => y = .int .i64 (Nt.shiftW v n 1)) := by
 have hp1 := Nt.zxq n
 have hp2 := Nt.p2i_24 (n := n) xq
 have hd1 := Nt.div_bd (v := v) hp1
 have hm1 := Int.emod_nonneg (v / Nt.p2i (n - 1)) (show (2 : Int) ≠ 0 by decide)
 have hm2 := Int.emod_lt_of_pos (v / Nt.p2i (n - 1)) (show (0 : Int) < 2 by decide)
 refine zzm (args := [.int .i64 v, .int .i64 n, .int .i64 1]) Tryz.func100 rfl Tryz.ntmps100 (rs := [.tmp 6]) Tryz.results100 (le_b rfl) (le_b rfl) d ?_
 refine sq9 (zza 6 (zI 0) (zzb (zzd (sq9 (zza 9 (zI n) (zza 10 (zB (decide (n < 0))) (zyq 11 (x := zB (decide (n < 0))) (zB false) (by rw [show (decide (n < 0)) = false from decide_eq_false xq]) (zza 12 (zI n) ?_ (hw := w1 2 false 11)))))))))
 refine zza 13 (zB (decide ((62 : Int) < n))) ?_ (hw := w1 2 false 11)
 refine zza 14 (zB (decide ((62 : Int) < n))) (zyq 15 (x := zB (decide ((62 : Int) < n))) (zB false) (by rw [show (decide ((62 : Int) < n)) = false from decide_eq_false xq]) (zza 16 (zI 1) ?_ (hw := w1 6 false 15)))
 refine zzg 17 98 [.int .i64 1] ?_ (hw := w1 6 false 15)
 intro w13 u13 e13 d13
 have k16 := k_mode (r := 1) d13 xq xq
 with_reducible refine zPm k16 ?_
 rintro _ u14 g15 rfl
 refine zza 18 (zB false) ?_ (hw := w1 6 false 15)
 refine zza 19 (zB false) (zzb (zys xj (zzs (zzp ?_))))
 refine zzd (sq9 (zza 20 (zI n) (zza 21 (zB (n == 0)) (zzb (zzu (b := n == 0) xj (fun hb17 => ?_) (fun hb17 => ?_))))))
 ·replace hb17 : (n == 0) = true := hb17
  have qhb17 := hb17
  simp at qhb17
  refine sq9 (zza 22 (zI v) (zza 6 (zI v) (zzb (zzo (zzw (ret0 [.int .i64 v] ⟨zzq, trivial⟩ fun u18 e19 => ?_))))))
  show Value.int _ _ = Value.int _ _
  unfold Nt.shiftW
  rw [if_pos qhb17]
 ·replace hb17 : (n == 0) = false := hb17
  have qhb17 := hb17
  simp at qhb17
  refine zzs (zzp ?_)
  refine sq9 (zza 23 (zI v) (zza 24 (zI n) (sy_shr 25 (k := .i64) (n := v) (s := n) (v / Nt.p2i n) xq yw rfl ?_)))
  refine zza 7 (zI (v / Nt.p2i n)) (zzb (sq9 (zza 26 (zI (v / Nt.p2i n)) (zza 27 (zI (v / Nt.p2i n)) (zza 28 (zI v) (zza 29 (zI n) (zyq 30 (x := zI (IntKind.i64.wrap (n - 1))) (zI (n - 1)) yq (sy_shr 31 (k := .i64) (n := v) (s := n - 1) (v / Nt.p2i (n - 1)) xq yw rfl ?_))))))))
  refine zyq 32 (x := zI (bits .and .i64 (v / Nt.p2i (n - 1)) 1)) (zI (v / Nt.p2i (n - 1) % 2)) (eqI (Nt.bits_1 _)) (zyq 33 (x := zI (IntKind.i64.wrap ((v / Nt.p2i n) + (v / Nt.p2i (n - 1) % 2)))) (zI ((v / Nt.p2i n) + (v / Nt.p2i (n - 1) % 2))) yq (zza 34 (zI (v / Nt.p2i n)) (zza 35 (.v (.agg #[.int .i64 (v / Nt.p2i n), .int .i64 ((v / Nt.p2i n) + (v / Nt.p2i (n - 1) % 2)), .int .i64 (v / Nt.p2i n)])) (zzk 8 ⟨29, [.int .i64 0, .int .i64 0, .int .i64 0]⟩ (zzj ⟨29, [.int .i64 (v / Nt.p2i n), .int .i64 ((v / Nt.p2i n) + (v / Nt.p2i (n - 1) % 2)), .int .i64 (v / Nt.p2i n)]⟩ ty29 ?_)))))
  refine zzb (zzd (sq9 (zza 36 (zI v) (zza 37 (zB (decide (v < 0))) ?_))))
  rcases Bool.eq_false_or_eq_true (decide (v < 0)) with hs20 | hs20
  ·refine zyq 38 (x := zB (decide (v < 0))) (zB true) (by rw [hs20]) ?_
   have qhs20 := of_decide_eq_true hs20
   refine zza 39 (zI v) ?_ (hw := w1 2 true 38)
   refine zza 40 (zI n) ?_ (hw := w1 2 true 38)
   refine sy_shl 41 (k := .i64) (s := n) (Nt.p2i n) xq yw (shl_one xq xq) ?_ (hw := w1 2 true 38)
   refine zyq 42 (x := zI (IntKind.i64.wrap ((Nt.p2i n) - 1))) (zI ((Nt.p2i n) - 1)) yq ?_ (hw := w1 2 true 38)
   refine zyq 43 (x := zI (bits .and .i64 v (Nt.p2i n - 1))) (zI (v % Nt.p2i n)) (eqI (Nt.bits_p2 xq xq)) ?_ (hw := w1 2 true 38)
   refine zza 44 (zB ((v % Nt.p2i n) != 0)) ?_ (hw := w1 2 true 38)
   refine zza 45 (zB ((v % Nt.p2i n) != 0)) (zzc 54 [(2, zI 1), (8, .adr 8 0), (45, zB ((v % Nt.p2i n) != 0))] [(8, ⟨29, [.int .i64 (v / Nt.p2i n), .int .i64 ((v / Nt.p2i n) + (v / Nt.p2i (n - 1) % 2)), .int .i64 (v / Nt.p2i n)]⟩)] (zzu (b := (v % Nt.p2i n) != 0) xj (fun hb21 => ?_) (fun hb21 => ?_)))
   ·replace hb21 : ((v % Nt.p2i n) != 0) = true := hb21
    have qhb21 := hb21
    simp at qhb21
    refine zzf (zza 46 (.adr 8 2) (zzi 47 (zI (v / Nt.p2i n)) ty3 zzl (zyq 48 (x := zI (IntKind.i64.wrap ((v / Nt.p2i n) + 1))) (zI ((v / Nt.p2i n) + 1)) yq (zza 49 (.adr 8 2) (zzj ⟨29, [.int .i64 (v / Nt.p2i n), .int .i64 ((v / Nt.p2i n) + (v / Nt.p2i (n - 1) % 2)), .int .i64 ((v / Nt.p2i n) + 1)]⟩ ty3 ?_)))))
    refine zzb (sq9 (zza 50 (zI 1) (zza 51 (zI 0) (zza 52 (.adr 8 0) (zzi 53 (zI (v / Nt.p2i n)) ty3 zzl (zza 6 (zI (v / Nt.p2i n)) (zzb (zzo (ret0 [.int .i64 (v / Nt.p2i n)] ⟨zzq, trivial⟩ fun u22 e23 => ?_)))))))))
    show Value.int _ _ = Value.int _ _
    unfold Nt.shiftW
    rw [if_neg qhb17]
    rw [if_neg yv]
    rw [if_neg (by rintro ⟨h9, _⟩; exact absurd h9 yv)]
   ·replace hb21 : ((v % Nt.p2i n) != 0) = false := hb21
    have qhb21 := hb21
    simp at qhb21
    refine zzs (zzp ?_)
    refine sq9 (zza 50 (zI 1) (zza 51 (zI 0) (zza 52 (.adr 8 0) (zzi 53 (zI (v / Nt.p2i n)) ty3 zzl (zza 6 (zI (v / Nt.p2i n)) (zzb (zzo (ret0 [.int .i64 (v / Nt.p2i n)] ⟨zzq, trivial⟩ fun u24 e25 => ?_))))))))
    show Value.int _ _ = Value.int _ _
    unfold Nt.shiftW
    rw [if_neg qhb17]
    rw [if_neg yv]
    rw [if_neg (by rintro ⟨h9, _⟩; exact absurd h9 yv)]
  ·refine zyq 38 (x := zB (decide (v < 0))) (zB false) (by rw [hs20]) ?_
   have qhs20 := of_decide_eq_false hs20
   refine zzn 39 (uw 2 true false 38) (zzn 40 (uw 2 true false 38) (zzn 41 (uw 2 true false 38) (zzn 42 (uw 2 true false 38) (zzn 43 (uw 2 true false 38) (zzn 44 (uw 2 true false 38) (zza 45 (zB false) (zzc 54 [(2, zI 1), (8, .adr 8 0), (45, zB false)] [(8, ⟨29, [.int .i64 (v / Nt.p2i n), .int .i64 ((v / Nt.p2i n) + (v / Nt.p2i (n - 1) % 2)), .int .i64 (v / Nt.p2i n)]⟩)] (zys xj (zzs (zzp ?_))))))))))
   refine sq9 (zza 50 (zI 1) (zza 51 (zI 0) (zza 52 (.adr 8 0) (zzi 53 (zI (v / Nt.p2i n)) ty3 zzl (zza 6 (zI (v / Nt.p2i n)) (zzb (zzo (ret0 [.int .i64 (v / Nt.p2i n)] ⟨zzq, trivial⟩ fun u26 e27 => ?_))))))))
   show Value.int _ _ = Value.int _ _
   unfold Nt.shiftW
   rw [if_neg qhb17]
   rw [if_neg yv]
   rw [if_neg (by rintro ⟨h9, _⟩; exact absurd h9 yv)]
theorem k_fxShift2 {u w : World} {v n : Int} (d : Dat u w) (hv0 : -1152921504606846976 ≤ v) (hv1 : v ≤ 1152921504606846976) (hn0 : 0 ≤ n) (hn1 : n ≤ 24) : Calls Tryz.prog 100 #[.int .i64 v, .int .i64 n, .int .i64 2] w (Post u w fun y _ => y = .int .i64 (Nt.shiftW v n 2)) := by
 have hp1 := Nt.zxq n
 have hp2 := Nt.p2i_24 (n := n) xq
 have hd1 := Nt.div_bd (v := v) hp1
 have hm1 := Int.emod_nonneg (v / Nt.p2i (n - 1)) (show (2 : Int) ≠ 0 by decide)
 have hm2 := Int.emod_lt_of_pos (v / Nt.p2i (n - 1)) (show (0 : Int) < 2 by decide)
 refine zzm (args := [.int .i64 v, .int .i64 n, .int .i64 2]) Tryz.func100 rfl Tryz.ntmps100 (rs := [.tmp 6]) Tryz.results100 (le_b rfl) (le_b rfl) d ?_
 refine sq9 (zza 6 (zI 0) (zzb (zzd (sq9 (zza 9 (zI n) (zza 10 (zB (decide (n < 0))) (zyq 11 (x := zB (decide (n < 0))) (zB false) (by rw [show (decide (n < 0)) = false from decide_eq_false xq]) (zza 12 (zI n) ?_ (hw := w1 2 false 11)))))))))
 refine zza 13 (zB (decide ((62 : Int) < n))) ?_ (hw := w1 2 false 11)
 refine zza 14 (zB (decide ((62 : Int) < n))) (zyq 15 (x := zB (decide ((62 : Int) < n))) (zB false) (by rw [show (decide ((62 : Int) < n)) = false from decide_eq_false xq]) (zza 16 (zI 2) ?_ (hw := w1 6 false 15)))
 refine zzg 17 98 [.int .i64 2] ?_ (hw := w1 6 false 15)
 intro w13 u13 e13 d13
 have k16 := k_mode (r := 2) d13 xq xq
 with_reducible refine zPm k16 ?_
 rintro _ u14 g15 rfl
 refine zza 18 (zB false) ?_ (hw := w1 6 false 15)
 refine zza 19 (zB false) (zzb (zys xj (zzs (zzp ?_))))
 refine zzd (sq9 (zza 20 (zI n) (zza 21 (zB (n == 0)) (zzb (zzu (b := n == 0) xj (fun hb17 => ?_) (fun hb17 => ?_))))))
 ·replace hb17 : (n == 0) = true := hb17
  have qhb17 := hb17
  simp at qhb17
  refine sq9 (zza 22 (zI v) (zza 6 (zI v) (zzb (zzo (zzw (ret0 [.int .i64 v] ⟨zzq, trivial⟩ fun u18 e19 => ?_))))))
  show Value.int _ _ = Value.int _ _
  unfold Nt.shiftW
  rw [if_pos qhb17]
 ·replace hb17 : (n == 0) = false := hb17
  have qhb17 := hb17
  simp at qhb17
  refine zzs (zzp ?_)
  refine sq9 (zza 23 (zI v) (zza 24 (zI n) (sy_shr 25 (k := .i64) (n := v) (s := n) (v / Nt.p2i n) xq yw rfl ?_)))
  refine zza 7 (zI (v / Nt.p2i n)) (zzb (sq9 (zza 26 (zI (v / Nt.p2i n)) (zza 27 (zI (v / Nt.p2i n)) (zza 28 (zI v) (zza 29 (zI n) (zyq 30 (x := zI (IntKind.i64.wrap (n - 1))) (zI (n - 1)) yq (sy_shr 31 (k := .i64) (n := v) (s := n - 1) (v / Nt.p2i (n - 1)) xq yw rfl ?_))))))))
  refine zyq 32 (x := zI (bits .and .i64 (v / Nt.p2i (n - 1)) 1)) (zI (v / Nt.p2i (n - 1) % 2)) (eqI (Nt.bits_1 _)) (zyq 33 (x := zI (IntKind.i64.wrap ((v / Nt.p2i n) + (v / Nt.p2i (n - 1) % 2)))) (zI ((v / Nt.p2i n) + (v / Nt.p2i (n - 1) % 2))) yq (zza 34 (zI (v / Nt.p2i n)) (zza 35 (.v (.agg #[.int .i64 (v / Nt.p2i n), .int .i64 ((v / Nt.p2i n) + (v / Nt.p2i (n - 1) % 2)), .int .i64 (v / Nt.p2i n)])) (zzk 8 ⟨29, [.int .i64 0, .int .i64 0, .int .i64 0]⟩ (zzj ⟨29, [.int .i64 (v / Nt.p2i n), .int .i64 ((v / Nt.p2i n) + (v / Nt.p2i (n - 1) % 2)), .int .i64 (v / Nt.p2i n)]⟩ ty29 ?_)))))
  refine zzb (zzd (sq9 (zza 36 (zI v) (zza 37 (zB (decide (v < 0))) ?_))))
  rcases Bool.eq_false_or_eq_true (decide (v < 0)) with hs20 | hs20
  ·refine zyq 38 (x := zB (decide (v < 0))) (zB true) (by rw [hs20]) ?_
   have qhs20 := of_decide_eq_true hs20
   refine zza 39 (zI v) ?_ (hw := w1 2 true 38)
   refine zza 40 (zI n) ?_ (hw := w1 2 true 38)
   refine sy_shl 41 (k := .i64) (s := n) (Nt.p2i n) xq yw (shl_one xq xq) ?_ (hw := w1 2 true 38)
   refine zyq 42 (x := zI (IntKind.i64.wrap ((Nt.p2i n) - 1))) (zI ((Nt.p2i n) - 1)) yq ?_ (hw := w1 2 true 38)
   refine zyq 43 (x := zI (bits .and .i64 v (Nt.p2i n - 1))) (zI (v % Nt.p2i n)) (eqI (Nt.bits_p2 xq xq)) ?_ (hw := w1 2 true 38)
   refine zza 44 (zB ((v % Nt.p2i n) != 0)) ?_ (hw := w1 2 true 38)
   refine zza 45 (zB ((v % Nt.p2i n) != 0)) (zzc 54 [(2, zI 2), (8, .adr 8 0), (45, zB ((v % Nt.p2i n) != 0))] [(8, ⟨29, [.int .i64 (v / Nt.p2i n), .int .i64 ((v / Nt.p2i n) + (v / Nt.p2i (n - 1) % 2)), .int .i64 (v / Nt.p2i n)]⟩)] (zzu (b := (v % Nt.p2i n) != 0) xj (fun hb21 => ?_) (fun hb21 => ?_)))
   ·replace hb21 : ((v % Nt.p2i n) != 0) = true := hb21
    have qhb21 := hb21
    simp at qhb21
    refine zzf (zza 46 (.adr 8 2) (zzi 47 (zI (v / Nt.p2i n)) ty3 zzl (zyq 48 (x := zI (IntKind.i64.wrap ((v / Nt.p2i n) + 1))) (zI ((v / Nt.p2i n) + 1)) yq (zza 49 (.adr 8 2) (zzj ⟨29, [.int .i64 (v / Nt.p2i n), .int .i64 ((v / Nt.p2i n) + (v / Nt.p2i (n - 1) % 2)), .int .i64 ((v / Nt.p2i n) + 1)]⟩ ty3 ?_)))))
    refine zzb (sq9 (zza 50 (zI 2) (zza 51 (zI 1) (zza 52 (.adr 8 1) (zzi 53 (zI ((v / Nt.p2i n) + (v / Nt.p2i (n - 1) % 2))) ty3 zzl (zza 6 (zI ((v / Nt.p2i n) + (v / Nt.p2i (n - 1) % 2))) (zzb (zzo (ret0 [.int .i64 ((v / Nt.p2i n) + (v / Nt.p2i (n - 1) % 2))] ⟨zzq, trivial⟩ fun u22 e23 => ?_)))))))))
    show Value.int _ _ = Value.int _ _
    unfold Nt.shiftW
    rw [if_neg qhb17]
    rw [if_pos rfl]
   ·replace hb21 : ((v % Nt.p2i n) != 0) = false := hb21
    have qhb21 := hb21
    simp at qhb21
    refine zzs (zzp ?_)
    refine sq9 (zza 50 (zI 2) (zza 51 (zI 1) (zza 52 (.adr 8 1) (zzi 53 (zI ((v / Nt.p2i n) + (v / Nt.p2i (n - 1) % 2))) ty3 zzl (zza 6 (zI ((v / Nt.p2i n) + (v / Nt.p2i (n - 1) % 2))) (zzb (zzo (ret0 [.int .i64 ((v / Nt.p2i n) + (v / Nt.p2i (n - 1) % 2))] ⟨zzq, trivial⟩ fun u24 e25 => ?_))))))))
    show Value.int _ _ = Value.int _ _
    unfold Nt.shiftW
    rw [if_neg qhb17]
    rw [if_pos rfl]
  ·refine zyq 38 (x := zB (decide (v < 0))) (zB false) (by rw [hs20]) ?_
   have qhs20 := of_decide_eq_false hs20
   refine zzn 39 (uw 2 true false 38) (zzn 40 (uw 2 true false 38) (zzn 41 (uw 2 true false 38) (zzn 42 (uw 2 true false 38) (zzn 43 (uw 2 true false 38) (zzn 44 (uw 2 true false 38) (zza 45 (zB false) (zzc 54 [(2, zI 2), (8, .adr 8 0), (45, zB false)] [(8, ⟨29, [.int .i64 (v / Nt.p2i n), .int .i64 ((v / Nt.p2i n) + (v / Nt.p2i (n - 1) % 2)), .int .i64 (v / Nt.p2i n)]⟩)] (zys xj (zzs (zzp ?_))))))))))
   refine sq9 (zza 50 (zI 2) (zza 51 (zI 1) (zza 52 (.adr 8 1) (zzi 53 (zI ((v / Nt.p2i n) + (v / Nt.p2i (n - 1) % 2))) ty3 zzl (zza 6 (zI ((v / Nt.p2i n) + (v / Nt.p2i (n - 1) % 2))) (zzb (zzo (ret0 [.int .i64 ((v / Nt.p2i n) + (v / Nt.p2i (n - 1) % 2))] ⟨zzq, trivial⟩ fun u26 e27 => ?_))))))))
   show Value.int _ _ = Value.int _ _
   unfold Nt.shiftW
   rw [if_neg qhb17]
   rw [if_pos rfl]
theorem k_fxShift3 {u w : World} {v n : Int} (d : Dat u w) (hv0 : -1152921504606846976 ≤ v) (hv1 : v ≤ 1152921504606846976) (hn0 : 0 ≤ n) (hn1 : n ≤ 24) : Calls Tryz.prog 100 #[.int .i64 v, .int .i64 n, .int .i64 3] w (Post u w fun y _ => y = .int .i64 (Nt.shiftW v n 3)) := by
 have hp1 := Nt.zxq n
 have hp2 := Nt.p2i_24 (n := n) xq
 have hd1 := Nt.div_bd (v := v) hp1
 have hm1 := Int.emod_nonneg (v / Nt.p2i (n - 1)) (show (2 : Int) ≠ 0 by decide)
 have hm2 := Int.emod_lt_of_pos (v / Nt.p2i (n - 1)) (show (0 : Int) < 2 by decide)
 refine zzm (args := [.int .i64 v, .int .i64 n, .int .i64 3]) Tryz.func100 rfl Tryz.ntmps100 (rs := [.tmp 6]) Tryz.results100 (le_b rfl) (le_b rfl) d ?_
 refine sq9 (zza 6 (zI 0) (zzb (zzd (sq9 (zza 9 (zI n) (zza 10 (zB (decide (n < 0))) (zyq 11 (x := zB (decide (n < 0))) (zB false) (by rw [show (decide (n < 0)) = false from decide_eq_false xq]) (zza 12 (zI n) ?_ (hw := w1 2 false 11)))))))))
 refine zza 13 (zB (decide ((62 : Int) < n))) ?_ (hw := w1 2 false 11)
 refine zza 14 (zB (decide ((62 : Int) < n))) (zyq 15 (x := zB (decide ((62 : Int) < n))) (zB false) (by rw [show (decide ((62 : Int) < n)) = false from decide_eq_false xq]) (zza 16 (zI 3) ?_ (hw := w1 6 false 15)))
 refine zzg 17 98 [.int .i64 3] ?_ (hw := w1 6 false 15)
 intro w13 u13 e13 d13
 have k16 := k_mode (r := 3) d13 xq xq
 with_reducible refine zPm k16 ?_
 rintro _ u14 g15 rfl
 refine zza 18 (zB false) ?_ (hw := w1 6 false 15)
 refine zza 19 (zB false) (zzb (zys xj (zzs (zzp ?_))))
 refine zzd (sq9 (zza 20 (zI n) (zza 21 (zB (n == 0)) (zzb (zzu (b := n == 0) xj (fun hb17 => ?_) (fun hb17 => ?_))))))
 ·replace hb17 : (n == 0) = true := hb17
  have qhb17 := hb17
  simp at qhb17
  refine sq9 (zza 22 (zI v) (zza 6 (zI v) (zzb (zzo (zzw (ret0 [.int .i64 v] ⟨zzq, trivial⟩ fun u18 e19 => ?_))))))
  show Value.int _ _ = Value.int _ _
  unfold Nt.shiftW
  rw [if_pos qhb17]
 ·replace hb17 : (n == 0) = false := hb17
  have qhb17 := hb17
  simp at qhb17
  refine zzs (zzp ?_)
  refine sq9 (zza 23 (zI v) (zza 24 (zI n) (sy_shr 25 (k := .i64) (n := v) (s := n) (v / Nt.p2i n) xq yw rfl ?_)))
  refine zza 7 (zI (v / Nt.p2i n)) (zzb (sq9 (zza 26 (zI (v / Nt.p2i n)) (zza 27 (zI (v / Nt.p2i n)) (zza 28 (zI v) (zza 29 (zI n) (zyq 30 (x := zI (IntKind.i64.wrap (n - 1))) (zI (n - 1)) yq (sy_shr 31 (k := .i64) (n := v) (s := n - 1) (v / Nt.p2i (n - 1)) xq yw rfl ?_))))))))
  refine zyq 32 (x := zI (bits .and .i64 (v / Nt.p2i (n - 1)) 1)) (zI (v / Nt.p2i (n - 1) % 2)) (eqI (Nt.bits_1 _)) (zyq 33 (x := zI (IntKind.i64.wrap ((v / Nt.p2i n) + (v / Nt.p2i (n - 1) % 2)))) (zI ((v / Nt.p2i n) + (v / Nt.p2i (n - 1) % 2))) yq (zza 34 (zI (v / Nt.p2i n)) (zza 35 (.v (.agg #[.int .i64 (v / Nt.p2i n), .int .i64 ((v / Nt.p2i n) + (v / Nt.p2i (n - 1) % 2)), .int .i64 (v / Nt.p2i n)])) (zzk 8 ⟨29, [.int .i64 0, .int .i64 0, .int .i64 0]⟩ (zzj ⟨29, [.int .i64 (v / Nt.p2i n), .int .i64 ((v / Nt.p2i n) + (v / Nt.p2i (n - 1) % 2)), .int .i64 (v / Nt.p2i n)]⟩ ty29 ?_)))))
  refine zzb (zzd (sq9 (zza 36 (zI v) (zza 37 (zB (decide (v < 0))) ?_))))
  rcases Bool.eq_false_or_eq_true (decide (v < 0)) with hs20 | hs20
  ·refine zyq 38 (x := zB (decide (v < 0))) (zB true) (by rw [hs20]) ?_
   have qhs20 := of_decide_eq_true hs20
   refine zza 39 (zI v) ?_ (hw := w1 2 true 38)
   refine zza 40 (zI n) ?_ (hw := w1 2 true 38)
   refine sy_shl 41 (k := .i64) (s := n) (Nt.p2i n) xq yw (shl_one xq xq) ?_ (hw := w1 2 true 38)
   refine zyq 42 (x := zI (IntKind.i64.wrap ((Nt.p2i n) - 1))) (zI ((Nt.p2i n) - 1)) yq ?_ (hw := w1 2 true 38)
   refine zyq 43 (x := zI (bits .and .i64 v (Nt.p2i n - 1))) (zI (v % Nt.p2i n)) (eqI (Nt.bits_p2 xq xq)) ?_ (hw := w1 2 true 38)
   refine zza 44 (zB ((v % Nt.p2i n) != 0)) ?_ (hw := w1 2 true 38)
   refine zza 45 (zB ((v % Nt.p2i n) != 0)) (zzc 54 [(2, zI 3), (8, .adr 8 0), (45, zB ((v % Nt.p2i n) != 0))] [(8, ⟨29, [.int .i64 (v / Nt.p2i n), .int .i64 ((v / Nt.p2i n) + (v / Nt.p2i (n - 1) % 2)), .int .i64 (v / Nt.p2i n)]⟩)] (zzu (b := (v % Nt.p2i n) != 0) xj (fun hb21 => ?_) (fun hb21 => ?_)))
   ·replace hb21 : ((v % Nt.p2i n) != 0) = true := hb21
    have qhb21 := hb21
    simp at qhb21
    refine zzf (zza 46 (.adr 8 2) (zzi 47 (zI (v / Nt.p2i n)) ty3 zzl (zyq 48 (x := zI (IntKind.i64.wrap ((v / Nt.p2i n) + 1))) (zI ((v / Nt.p2i n) + 1)) yq (zza 49 (.adr 8 2) (zzj ⟨29, [.int .i64 (v / Nt.p2i n), .int .i64 ((v / Nt.p2i n) + (v / Nt.p2i (n - 1) % 2)), .int .i64 ((v / Nt.p2i n) + 1)]⟩ ty3 ?_)))))
    refine zzb (sq9 (zza 50 (zI 3) (zza 51 (zI 2) (zza 52 (.adr 8 2) (zzi 53 (zI ((v / Nt.p2i n) + 1)) ty3 zzl (zza 6 (zI ((v / Nt.p2i n) + 1)) (zzb (zzo (ret0 [.int .i64 ((v / Nt.p2i n) + 1)] ⟨zzq, trivial⟩ fun u22 e23 => ?_)))))))))
    show Value.int _ _ = Value.int _ _
    unfold Nt.shiftW
    rw [if_neg qhb17]
    rw [if_neg yv]
    rw [if_pos ⟨rfl, qhs20, qhb21⟩]
   ·replace hb21 : ((v % Nt.p2i n) != 0) = false := hb21
    have qhb21 := hb21
    simp at qhb21
    refine zzs (zzp ?_)
    refine sq9 (zza 50 (zI 3) (zza 51 (zI 2) (zza 52 (.adr 8 2) (zzi 53 (zI (v / Nt.p2i n)) ty3 zzl (zza 6 (zI (v / Nt.p2i n)) (zzb (zzo (ret0 [.int .i64 (v / Nt.p2i n)] ⟨zzq, trivial⟩ fun u24 e25 => ?_))))))))
    show Value.int _ _ = Value.int _ _
    unfold Nt.shiftW
    rw [if_neg qhb17]
    rw [if_neg yv]
    rw [if_neg (by rintro ⟨_, _, h9⟩; exact h9 qhb21)]
  ·refine zyq 38 (x := zB (decide (v < 0))) (zB false) (by rw [hs20]) ?_
   have qhs20 := of_decide_eq_false hs20
   refine zzn 39 (uw 2 true false 38) (zzn 40 (uw 2 true false 38) (zzn 41 (uw 2 true false 38) (zzn 42 (uw 2 true false 38) (zzn 43 (uw 2 true false 38) (zzn 44 (uw 2 true false 38) (zza 45 (zB false) (zzc 54 [(2, zI 3), (8, .adr 8 0), (45, zB false)] [(8, ⟨29, [.int .i64 (v / Nt.p2i n), .int .i64 ((v / Nt.p2i n) + (v / Nt.p2i (n - 1) % 2)), .int .i64 (v / Nt.p2i n)]⟩)] (zys xj (zzs (zzp ?_))))))))))
   refine sq9 (zza 50 (zI 3) (zza 51 (zI 2) (zza 52 (.adr 8 2) (zzi 53 (zI (v / Nt.p2i n)) ty3 zzl (zza 6 (zI (v / Nt.p2i n)) (zzb (zzo (ret0 [.int .i64 (v / Nt.p2i n)] ⟨zzq, trivial⟩ fun u26 e27 => ?_))))))))
   show Value.int _ _ = Value.int _ _
   unfold Nt.shiftW
   rw [if_neg qhb17]
   rw [if_neg yv]
   rw [if_neg (by rintro ⟨_, h9, _⟩; exact absurd h9 xq)]
theorem k_fxShift {u w : World} {v n r : Int} (d : Dat u w) (hv0 : -1152921504606846976 ≤ v) (hv1 : v ≤ 1152921504606846976) (hn0 : 0 ≤ n) (hn1 : n ≤ 24) (hr : 1 ≤ r ∧ r ≤ 3) : Calls Tryz.prog 100 #[.int .i64 v, .int .i64 n, .int .i64 r] w (Post u w fun y _ => y = .int .i64 (Nt.shiftW v n r)) := by
 obtain rfl | rfl | rfl : r = 1 ∨ r = 2 ∨ r = 3 := by omega
 ·exact k_fxShift1 d hv0 hv1 hn0 hn1
 ·exact k_fxShift2 d hv0 hv1 hn0 hn1
 ·exact k_fxShift3 d hv0 hv1 hn0 hn1
theorem k_fxWrap {u w : World} {b v : Int} (d : Dat u w) (hb0 : 1 ≤ b) (hb1 : b ≤ 62) : Calls Tryz.prog 139 #[.int .i64 b, .int .i64 v] w (Post u w fun y _ => y = .int .i64 (Nt.wrapW b v)) := by
 have hp1 := Nt.zxq b
 have hp2 : Nt.p2i b ≤ 4611686018427387904 := Nt.zwh (b := 62) xq
 have hp3 := Nt.zxq (b - 1)
 have hp4 : Nt.p2i (b - 1) ≤ Nt.p2i b := Nt.zwh xq
 have hm1 := Int.emod_nonneg v (show Nt.p2i b ≠ 0 by omega)
 have hm2 := Int.emod_lt_of_pos v hp1
 refine zzm (args := [.int .i64 b, .int .i64 v]) Tryz.func139 rfl Tryz.ntmps139 (rs := [.tmp 4]) Tryz.results139 (le_b rfl) (le_b rfl) d ?_
 refine sq9 (zza 4 (zI 0) (zzb (zzd (sq9 (zza 6 (zI b) (zza 7 (zB (decide (b < 1))) (zyq 8 (x := zB (decide (b < 1))) (zB false) (by rw [show (decide (b < 1)) = false from decide_eq_false xq]) (zza 9 (zI b) ?_ (hw := w1 2 false 8)))))))))
 refine zza 10 (zB (decide ((62 : Int) < b))) ?_ (hw := w1 2 false 8)
 refine zza 11 (zB (decide ((62 : Int) < b))) (zzb (zzu (b := decide ((62 : Int) < b)) xj (fun hb => ?_) (fun hb => ?_)))
 ·exact absurd hb (by rw [show (decide ((62 : Int) < b)) = false from decide_eq_false xq]; decide)
 ·clear hb
  refine zzs (zzp ?_)
  refine sq9 (zza 12 (zI v) (zza 13 (zI b) (sy_shl 14 (k := .i64) (s := b) (Nt.p2i b) xq yw (Nt.shl_one9 xq xq) ?_)))
  refine zyq 15 (x := zI (IntKind.i64.wrap ((Nt.p2i b) - 1))) (zI ((Nt.p2i b) - 1)) yq (zyq 16 (x := zI (bits .and .i64 v (Nt.p2i b - 1))) (zI (v % Nt.p2i b)) (eqI (Nt.bits_p2 xq xq)) (zza 5 (zI (v % Nt.p2i b)) (zzb (zzd (sq9 (zza 17 (zI (v % Nt.p2i b)) (zza 18 (zI b) (zyq 19 (x := zI (IntKind.i64.wrap (b - 1))) (zI (b - 1)) yq (sy_shl 20 (k := .i64) (s := b - 1) (Nt.p2i (b - 1)) xq yw (Nt.shl_one9 xq xq) ?_)))))))))
  refine zza 21 (zB (decide ((Nt.p2i (b - 1)) ≤ (v % Nt.p2i b)))) (zzb (zzu (b := decide ((Nt.p2i (b - 1)) ≤ (v % Nt.p2i b))) xj (fun hb12 => ?_) (fun hb12 => ?_)))
  ·replace hb12 : (decide ((Nt.p2i (b - 1)) ≤ (v % Nt.p2i b))) = true := hb12
   have qhb12 := of_decide_eq_true hb12
   refine zzf (zza 22 (zI (v % Nt.p2i b)) (zza 23 (zI b) (sy_shl 24 (k := .i64) (s := b) (Nt.p2i b) xq yw (Nt.shl_one9 xq xq) ?_)))
   refine zyq 25 (x := zI (IntKind.i64.wrap ((v % Nt.p2i b) - (Nt.p2i b)))) (zI ((v % Nt.p2i b) - (Nt.p2i b))) yq (zza 5 (zI ((v % Nt.p2i b) - (Nt.p2i b))) (zzb (sq9 (zza 26 (zI ((v % Nt.p2i b) - (Nt.p2i b))) (zza 4 (zI ((v % Nt.p2i b) - (Nt.p2i b))) (zzb (zzo (ret0 [.int .i64 ((v % Nt.p2i b) - (Nt.p2i b))] ⟨zzq, trivial⟩ fun u13 e14 => ?_))))))))
   show Value.int _ _ = Value.int _ _
   unfold Nt.wrapW
   rw [if_pos xq]
  ·replace hb12 : (decide ((Nt.p2i (b - 1)) ≤ (v % Nt.p2i b))) = false := hb12
   have qhb12 := of_decide_eq_false hb12
   refine zzs (zzp ?_)
   refine sq9 (zza 26 (zI (v % Nt.p2i b)) (zza 4 (zI (v % Nt.p2i b)) (zzb (zzo (ret0 [.int .i64 (v % Nt.p2i b)] ⟨zzq, trivial⟩ fun u15 e16 => ?_)))))
   show Value.int _ _ = Value.int _ _
   unfold Nt.wrapW
   rw [if_neg xq]
theorem k_fxSat {u w : World} {D : WL} {v : Int} (d : Dat u w) (hW : WdOK D) : Calls Tryz.prog 140 #[D.v, .int .i64 v] w (Post u w fun y _ => y = .int .i64 (Nt.satW D.b v)) := by
 obtain ⟨hw1, hw2, hw3, hw4, hw5, hw6, hw7, hw8⟩ := id hW
 refine zzm (args := [.agg #[.int .i64 D.b, .int .i64 D.f, .int .i64 D.r, .int .i64 D.o], .int .i64 v]) Tryz.func140 rfl Tryz.ntmps140 (rs := [.tmp 4]) Tryz.results140 (le_b rfl) (le_b rfl) d ?_
 refine sq9 (zzk 2 ⟨34, D.cs⟩ (zza 4 (zI 0) (zzb (zzd (zzz [0, 0, 2, 7, 0, 22, 63, 127] [(0, []), (1, []), (4, []), (2, []), (3, []), (5, []), (6, []), (7, [])] xj xj (zza 5 (zI v) (zzi 6 (.v (D.v)) ty34 zze (zzi 9 (.v (D.v)) ty34 zze (zzg 7 126 [D.v] ?_)))))))))
 intro w11 u11 e11 d11
 have k14 := k_fxLow (W := D) d11 hW
 with_reducible refine zPm k14 ?_
 rintro _ u12 g13 rfl
 refine sy_maxN 8 (n := v) (m := -Nt.p2i (D.b - 1)) (v := if -Nt.p2i (D.b - 1) > v then -Nt.p2i (D.b - 1) else v) rfl ?_
 refine zzg 10 127 [D.v] ?_
 intro w15 u15 e15 d15
 have k18 := k_fxHigh (W := D) d15 hW
 with_reducible refine zPm k18 ?_
 rintro _ u16 g17 rfl
 refine sy_minN 11 (n := if -Nt.p2i (D.b - 1) > v then -Nt.p2i (D.b - 1) else v) (m := Nt.p2i (D.b - 1) - 1) (v := Nt.satW D.b v) rfl ?_
 refine zza 4 (zI (Nt.satW D.b v)) (zzb (zzo (ret0 [.int .i64 (Nt.satW D.b v)] ⟨zzq, trivial⟩ fun u19 e20 => ?_)))
 rfl
theorem k_fxReduce {u w : World} {D : WL} {v : Int} (d : Dat u w) (hW : WdOK D) : Calls Tryz.prog 101 #[D.v, .int .i64 v] w (Post u w fun y _ => y = .int .i64 (Nt.redW D v)) := by
 obtain ⟨hw1, hw2, hw3, hw4, hw5, hw6, hw7, hw8⟩ := id hW
 refine zzm (args := [.agg #[.int .i64 D.b, .int .i64 D.f, .int .i64 D.r, .int .i64 D.o], .int .i64 v]) Tryz.func101 rfl Tryz.ntmps101 (rs := [.tmp 4]) Tryz.results101 (le_b rfl) (le_b rfl) d ?_
 refine sq9 (zzk 2 ⟨34, D.cs⟩ (zza 4 (zI 0) (zzb (zzd (sq9 (zzi 5 (.v (D.v)) ty34 zze (zzg 6 54 [D.v] ?_)))))))
 intro w11 u11 e11 d11
 have k14 := k_fxValid (W := D) d11 hW
 with_reducible refine zPm k14 ?_
 rintro _ u12 g13 rfl
 refine zza 7 (zB false) (zzb (zys xj (zzs (zzp ?_))))
 refine zzd (sq9 (zza 8 (.adr 2 3) (zzi 9 (zI D.o) ty3 zzl (zza 10 (zB (D.o == 2)) (zzb (zzu (b := D.o == 2) xj (fun hb15 => ?_) (fun hb15 => ?_)))))))
 ·replace hb15 : (D.o == 2) = true := hb15
  refine sq9 (zza 11 (.adr 2 0) (zzi 12 (zI D.b) ty3 zzl (zza 13 (zI v) (zzg 14 139 [.int .i64 D.b, .int .i64 v] ?_))))
  intro w16 u16 e16 d16
  have k19 := k_fxWrap (b := D.b) (v := v) d16 xq xq
  with_reducible refine zPm k19 ?_
  rintro _ u17 g18 rfl
  refine zza 4 (zI (Nt.wrapW D.b v)) (zzb (zzo (zzw (ret0 [.int .i64 (Nt.wrapW D.b v)] ⟨zzq, trivial⟩ fun u20 e21 => ?_))))
  show Value.int _ _ = Value.int _ _
  unfold Nt.redW
  rw [if_pos (by simpa using hb15)]
 ·replace hb15 : (D.o == 2) = false := hb15
  refine zzs (zzp ?_)
  refine sq9 (zzi 15 (.v (D.v)) ty34 zze (zza 16 (zI v) (zzg 17 140 [D.v, .int .i64 v] ?_)))
  intro w22 u22 e22 d22
  have k25 := k_fxSat (D := D) (v := v) d22 hW
  with_reducible refine zPm k25 ?_
  rintro _ u23 g24 rfl
  refine zza 4 (zI (Nt.satW D.b v)) (zzb (zzo (ret0 [.int .i64 (Nt.satW D.b v)] ⟨zzq, trivial⟩ fun u26 e27 => ?_)))
  show Value.int _ _ = Value.int _ _
  unfold Nt.redW
  rw [if_neg (by simpa using hb15)]
set_option maxHeartbeats 4000000 in
theorem k_netValid {u w : World} {D W : WL} {s : Nat} {X Y : Sl} {h lo : Nat} {N : List (List TL)} {nx : List Int} {q : Int} (d : Dat u w) (hN : NodesB lo h u X N) (hY : MutL 1 3 lo u Y (ics nx)) (hok : Nt.NetOK D W s N nx q) : Calls Tryz.prog 59 #[.agg #[.int .i64 D.b, .int .i64 D.f, .int .i64 D.r, .int .i64 D.o, .int .i64 W.b, .int .i64 W.f, .int .i64 W.r, .int .i64 W.o, .int .i64 (s : Int), X.v, Y.v, .int .i64 q]] w (Post u w fun y _ => y = .bool true) := by
 obtain ⟨La, gA, gB, gC⟩ := id hN
 have hNl := hN.len
 have hD := hok.hd
 have hWc := hok.hw
 have hs64 := hok.hs
 have hn64 := hok.hn
 have hxs := hok.hx
 have hYr := MutL.slr hY
 have hYl : nx.length = Y.n := hYr.1
 have hqq := hok.hq
 have hbx : ∀ z ∈ nx, -9223372036854775808 ≤ z ∧ z ≤ 9223372036854775807 := fun z hz => by
  obtain ⟨j, hj, rfl⟩ := Nt.mem_getD hz
  have h9 := hok.hr j hj
  omega
 have hT1 : ∀ i, i < N.length → (La.getD i sl0).n = (N.getD i []).length ∧ (N.getD i []).length ≤ 64 := fun i hi => ⟨tms_len (gC i hi).1, (hok.ht i hi).1⟩
 obtain ⟨hd1, hd2, hd3, hd4, hd5, hd6, hd7, hd8⟩ := id hD
 obtain ⟨hw1, hw2, hw3, hw4, hw5, hw6, hw7, hw8⟩ := id hWc
 have hpw1 := Nt.zxq W.f
 have hpw2 := Nt.p2i_24 (n := W.f) xq
 have hpd1 := Nt.zxq (D.b - 1)
 have hpd2 : Nt.p2i (D.b - 1) ≤ 8388608 := Nt.zwh (b := 23) xq
 refine zzm (args := [.agg #[.int .i64 D.b, .int .i64 D.f, .int .i64 D.r, .int .i64 D.o, .int .i64 W.b, .int .i64 W.f, .int .i64 W.r, .int .i64 W.o, .int .i64 s, .slice X.a X.n X.c, .slice Y.a Y.n Y.c, .int .i64 q]]) Tryz.func59 rfl Tryz.ntmps59 (rs := [.tmp 2]) Tryz.results59 (le_b rfl) (le_b rfl) d ?_
 refine sq9 (zzk 1 ⟨55, [.int .i64 D.b, .int .i64 D.f, .int .i64 D.r, .int .i64 D.o, .int .i64 W.b, .int .i64 W.f, .int .i64 W.r, .int .i64 W.o, .int .i64 s, X.v, Y.v, .int .i64 q]⟩ (zza 2 (zB false) (zzb (zzd (sq9 (zza 10 (.adr 1 0) (zzi 11 (.v (D.v)) ty34 zze (zzg 12 54 [D.v] ?_))))))))
 intro w11 u11 e11 d11
 have k14 := k_fxValid (W := D) d11 hD
 with_reducible refine zPm k14 ?_
 rintro _ u12 g13 rfl
 refine zza 13 (zB false) (zza 14 (zB false) (zza 15 (.adr 1 4) ?_ (hw := w1 4 false 14)))
 refine zzi 16 (.v (W.v)) ty34 zze ?_ (hw := w1 4 false 14)
 refine zzg 17 54 [W.v] ?_ (hw := w1 4 false 14)
 intro w15 u15 e15 d15
 have k18 := k_fxValid (W := W) d15 hWc
 with_reducible refine zPm k18 ?_
 rintro _ u16 g17 rfl
 refine zza 18 (zB false) ?_ (hw := w1 4 false 14)
 refine zza 19 (zB false) (zzb (zys xj (zzs (zzp ?_))))
 refine zzd (sq9 (zza 20 (.adr 1 8) (zzi 21 (zI s) ty3 zzl (zza 22 (zB (decide ((s : Int) < 0))) (zyq 23 (x := zB (decide ((s : Int) < 0))) (zB false) (by rw [show (decide ((s : Int) < 0)) = false from decide_eq_false xq]) (zza 24 (.adr 1 8) ?_ (hw := w1 3 false 23)))))))
 refine zzi 25 (zI s) ty3 zzl ?_ (hw := w1 3 false 23)
 refine zza 26 (zB (decide ((64 : Int) < (s : Int)))) ?_ (hw := w1 3 false 23)
 refine zza 27 (zB (decide ((64 : Int) < (s : Int)))) (zyq 28 (x := zB (decide ((64 : Int) < (s : Int)))) (zB false) (by rw [show (decide ((64 : Int) < (s : Int))) = false from decide_eq_false xq]) (zza 29 (.adr 1 9) ?_ (hw := w1 8 false 28)))
 refine zzi 30 (.v X.v) ty53 zzl ?_ (hw := w1 8 false 28)
 refine zza 31 (zI X.n) ?_ (hw := w1 8 false 28)
 refine zza 32 (zB (decide ((64 : Int) < (X.n : Int)))) ?_ (hw := w1 8 false 28)
 refine zza 33 (zB (decide ((64 : Int) < (X.n : Int)))) (zyq 34 (x := zB (decide ((64 : Int) < (X.n : Int)))) (zB false) (by rw [show (decide ((64 : Int) < (X.n : Int))) = false from decide_eq_false xq]) (zza 35 (.adr 1 10) ?_ (hw := w1 14 false 34)))
 refine zzi 36 (.v Y.v) ty37 zzl ?_ (hw := w1 14 false 34)
 refine zza 37 (zI Y.n) ?_ (hw := w1 14 false 34)
 refine zza 38 (.adr 1 8) ?_ (hw := w1 14 false 34)
 refine zzi 39 (zI s) ty3 zzl ?_ (hw := w1 14 false 34)
 refine zza 40 (zB ((Y.n : Int) != (s : Int))) ?_ (hw := w1 14 false 34)
 refine zza 41 (zB ((Y.n : Int) != (s : Int))) (zzc 120 [(1, .adr 1 0), (41, zB ((Y.n : Int) != (s : Int)))] [(1, ⟨55, [.int .i64 D.b, .int .i64 D.f, .int .i64 D.r, .int .i64 D.o, .int .i64 W.b, .int .i64 W.f, .int .i64 W.r, .int .i64 W.o, .int .i64 s, X.v, Y.v, .int .i64 q]⟩)] (zzu (b := (Y.n : Int) != (s : Int)) xj (fun hb => ?_) (fun hb => ?_)))
 ·exact absurd hb (by rw [show ((Y.n : Int) != (s : Int)) = false from (by first | (simp; done) | (simp; omega))]; decide)
 ·clear hb
  refine zzs (zzp ?_)
  refine zzd (sq9 (zza 42 (.adr 1 9) (zzi 43 (.v X.v) ty53 zzl (zza 44 (zI X.n) (zza 45 (zI 0) (zzb (zzt (zyn (I := fun m22 S' u' => ∃ (i : Nat), (m22 = X.n - i) ∧ (i ≤ X.n) ∧ (S' = St.of 120 [(1, .adr 1 0), (43, .v (.slice X.a X.n X.c)), (44, zI X.n), (45, zI i)] [(1, ⟨55, [.int .i64 D.b, .int .i64 D.f, .int .i64 D.r, .int .i64 D.o, .int .i64 W.b, .int .i64 W.f, .int .i64 W.r, .int .i64 W.o, .int .i64 s, .slice X.a X.n X.c, .slice Y.a Y.n Y.c, .int .i64 q]⟩)]) ∧ (Ext u16 u')) (fun m S u1 u2 e h => by obtain ⟨i, hm, p0, hS, hE⟩ := h; exact ⟨i, hm, p0, hS, hE.trans e⟩) _ yz ⟨0, rfl, Nat.zero_le _, rfl, (Ext.refl _)⟩ ?_))))))))
  rintro m22 _ u22 ⟨i, hm22, hi, rfl, e22⟩
  refine sq9 (zza 46 (zB (decide ((i : Int) < (X.n : Int)))) (zzb (zzd (zzu (b := decide ((i : Int) < (X.n : Int))) xj (fun hb23 => ?_) (fun hb23 => ?_)))))
  ·replace hb23 : (decide ((i : Int) < (X.n : Int))) = true := hb23
   have qhb23 := of_decide_eq_true hb23
   refine zzs (zzp ?_)
   refine zzd (zzt (sq9 (zza 47 (zI i) ?_)))
   obtain ⟨b24, hA24, hc24⟩ := nodes_at (i := i) gA xq
   refine zya 48 (0 + i * 1) (n := X.n) (off := 0) (sz := 1) (i := (i : Int)) xq hA24 xq xq sl53 (zym 49 [.slice (La.getD i sl0).a (La.getD i sl0).n (La.getD i sl0).c] (fun j hj => by cases j with | zero => exact ((e11.trans (g13.ext.trans (e15.trans (g17.ext.trans e22)))).cell hc24) | succ j => exact absurd hj zq) ty62 (zzk 4 ⟨62, [.slice none 0 0]⟩ (zza 3 (zI i) (zzj ⟨62, [.slice (La.getD i sl0).a (La.getD i sl0).n (La.getD i sl0).c]⟩ ty62 ?_))))
   refine zzb (zzd (zzd ?_))
   have hTi := hT1 i xq
   refine zzf (zza 50 (.adr 4 0) (zzi 51 (.v (.slice (La.getD i sl0).a (La.getD i sl0).n (La.getD i sl0).c)) ty60 zzl (zza 52 (zI (((La.getD i sl0).n : Nat) : Int)) (zza 53 (zB (decide ((64 : Int) < (((La.getD i sl0).n : Nat) : Int)))) (zzb (zzu (b := decide ((64 : Int) < (((La.getD i sl0).n : Nat) : Int))) xj (fun hb => ?_) (fun hb => ?_)))))))
   ·exact absurd hb (by rw [show (decide ((64 : Int) < (((La.getD i sl0).n : Nat) : Int))) = false from decide_eq_false xq]; decide)
   ·clear hb
    refine zzs (zzp ?_)
    refine sq9 (zza 54 (.adr 4 0) (zzi 55 (.v (.slice (La.getD i sl0).a (La.getD i sl0).n (La.getD i sl0).c)) ty60 zzl (zza 56 (zI (((La.getD i sl0).n : Nat) : Int)) (zza 57 (zI 0) (zzb (zzt (zyn (I := fun m25 S' u' => ∃ (j : Nat), (m25 = (La.getD i sl0).n - j) ∧ (j ≤ (La.getD i sl0).n) ∧ (S' = St.of 120 [(1, .adr 1 0), (3, zI i), (43, .v (.slice X.a X.n X.c)), (44, zI X.n), (45, zI i), (55, .v (.slice (La.getD i sl0).a (La.getD i sl0).n (La.getD i sl0).c)), (56, zI (((La.getD i sl0).n : Nat) : Int)), (57, zI j)] [(1, ⟨55, [.int .i64 D.b, .int .i64 D.f, .int .i64 D.r, .int .i64 D.o, .int .i64 W.b, .int .i64 W.f, .int .i64 W.r, .int .i64 W.o, .int .i64 s, .slice X.a X.n X.c, .slice Y.a Y.n Y.c, .int .i64 q]⟩)]) ∧ (Ext u22 u')) (fun m S u1 u2 e h => by obtain ⟨j, hm, p0, hS, hE⟩ := h; exact ⟨j, hm, p0, hS, hE.trans e⟩) _ yz ⟨0, rfl, Nat.zero_le _, rfl, (Ext.refl _)⟩ ?_)))))))
    rintro m25 _ u25 ⟨j, hm25, hj, rfl, e25⟩
    refine sq9 (zza 58 (zB (decide ((j : Int) < (((La.getD i sl0).n : Nat) : Int)))) (zzb (zzd (zzu (b := decide ((j : Int) < (((La.getD i sl0).n : Nat) : Int))) xj (fun hb26 => ?_) (fun hb26 => ?_)))))
    ·replace hb26 : (decide ((j : Int) < (((La.getD i sl0).n : Nat) : Int))) = true := hb26
     have qhb26 := of_decide_eq_true hb26
     refine zzs (zzp ?_)
     refine zzd (zzt (sq9 ?_))
     obtain ⟨b27, hA27, hc27⟩ := terms_at (i := j) (T := (N.getD i [])) (gC i xq).1 xq
     refine zya 59 (0 + j * 2) (n := (La.getD i sl0).n) (off := 0) (sz := 2) (i := (j : Int)) xq hA27 xq xq sl60 (zym 60 ((N.getD i []).getD j tl0).cs (fun j hj => by have h9 := hc27 j hj; rw [List.getElem?_eq_getElem hj] at h9 ⊢; exact (e11.trans (g13.ext.trans (e15.trans (g17.ext.trans (e22.trans e25))))).cell h9) ty64 ?_)
     refine zzk 6 ⟨64, [.int .i64 0, .int .i64 0]⟩ (zzj ⟨64, [.int .i64 (((N.getD i []).getD j tl0).f), .int .i64 (((N.getD i []).getD j tl0).c)]⟩ ty64 ?_)
     refine zzb (zzd (zzd ?_))
     have htj := (hok.ht i xq).2 j xq
     refine zzf (zza 61 (.adr 6 0) (zzi 62 (zI (((N.getD i []).getD j tl0).f)) ty3 zzl (zza 63 (zB (decide ((((N.getD i []).getD j tl0).f) < 0))) (zyq 64 (x := zB (decide ((((N.getD i []).getD j tl0).f) < 0))) (zB false) (by rw [show (decide ((((N.getD i []).getD j tl0).f) < 0)) = false from decide_eq_false xq]) (zza 65 (.adr 6 0) ?_ (hw := w1 3 false 64))))))
     refine zzi 66 (zI (((N.getD i []).getD j tl0).f)) ty3 zzl ?_ (hw := w1 3 false 64)
     refine zza 67 (.adr 1 8) ?_ (hw := w1 3 false 64)
     refine zzi 68 (zI s) ty3 zzl ?_ (hw := w1 3 false 64)
     refine zza 69 (zI i) ?_ (hw := w1 3 false 64)
     refine zyq 70 (x := zI (IntKind.i64.wrap ((s : Int) + (i : Int)))) (zI (s + i : Nat)) (eqI xz) ?_ (hw := w1 3 false 64)
     refine zza 71 (zB (decide (((s + i : Nat) : Int) < (((N.getD i []).getD j tl0).f)))) ?_ (hw := w1 3 false 64)
     refine zza 72 (zB (decide (((s + i : Nat) : Int) < (((N.getD i []).getD j tl0).f)))) (zzc 120 [(1, .adr 1 0), (3, zI i), (6, .adr 6 0), (43, .v X.v), (44, zI X.n), (45, zI i), (55, .v (.slice (La.getD i sl0).a (La.getD i sl0).n (La.getD i sl0).c)), (56, zI (((La.getD i sl0).n : Nat) : Int)), (57, zI j), (72, zB (decide (((s + i : Nat) : Int) < (((N.getD i []).getD j tl0).f))))] [(1, ⟨55, [.int .i64 D.b, .int .i64 D.f, .int .i64 D.r, .int .i64 D.o, .int .i64 W.b, .int .i64 W.f, .int .i64 W.r, .int .i64 W.o, .int .i64 s, X.v, Y.v, .int .i64 q]⟩), (6, ⟨64, [.int .i64 (((N.getD i []).getD j tl0).f), .int .i64 (((N.getD i []).getD j tl0).c)]⟩)] (zzu (b := decide (((s + i : Nat) : Int) < (((N.getD i []).getD j tl0).f))) xj (fun hb => ?_) (fun hb => ?_)))
     ·exact absurd hb (by rw [show (decide (((s + i : Nat) : Int) < (((N.getD i []).getD j tl0).f))) = false from decide_eq_false xq]; decide)
     ·clear hb
      refine zzs (zzp ?_)
      refine zzd (zzz [0, 1, 0, 4, 12, 28, 63, 127, 255, 511, 255, 1279, 4095, 8191, 16383] [(0, []), (1, []), (2, []), (3, []), (4, []), (5, []), (6, []), (7, []), (8, []), (9, []), (10, []), (11, []), (12, []), (13, []), (14, [])] xj xj (zza 73 (.adr 6 1) (zzi 74 (zI (((N.getD i []).getD j tl0).c)) ty3 zzl (zza 75 (.adr 1 4) (zza 76 (.adr 1 5) (zzi 77 (zI W.f) ty3 zzl (sy_shl 78 (k := .i64) (s := W.f) (Nt.p2i W.f) xq yw (shl_one xq xq) ?_)))))))
      refine zza 79 (zB ((((N.getD i []).getD j tl0).c) != (Nt.p2i W.f))) ?_
      rcases Bool.eq_false_or_eq_true ((((N.getD i []).getD j tl0).c) != (Nt.p2i W.f)) with hs29 | hs29
      ·refine zyq 80 (x := zB ((((N.getD i []).getD j tl0).c) != (Nt.p2i W.f))) (zB true) (by rw [hs29]) ?_
       have qhs29 := hs29
       simp at qhs29
       refine zza 81 (.adr 1 4) ?_ (hw := w1 7 true 80)
       refine zzi 82 (.v (W.v)) ty34 zze ?_ (hw := w1 7 true 80)
       refine zza 83 (.adr 6 1) ?_ (hw := w1 7 true 80)
       refine zzi 84 (zI (((N.getD i []).getD j tl0).c)) ty3 zzl ?_ (hw := w1 7 true 80)
       refine zzg 85 86 [W.v, .int .i64 (((N.getD i []).getD j tl0).c)] ?_ (hw := w1 7 true 80)
       intro w30 u30 e30 d30
       have k33 := k_fxFitsG (W := W) (z := ((N.getD i []).getD j tl0).c) d30 hWc
       with_reducible refine zPm k33 ?_
       rintro _ u31 g32 rfl
       refine zza 86 (zB (!(Nt.fitB W (((N.getD i []).getD j tl0).c)))) ?_ (hw := w1 7 true 80)
       refine zza 87 (zB (!(Nt.fitB W (((N.getD i []).getD j tl0).c)))) (zzb (zzu (b := !(Nt.fitB W (((N.getD i []).getD j tl0).c))) xj (fun hb => ?_) (fun hb => ?_)))
       ·exact absurd hb (by rw [show (!(Nt.fitB W (((N.getD i []).getD j tl0).c))) = false from (by rw [(htj.2.2.resolve_left qhs29)]; rfl)]; decide)
       ·clear hb
        refine zzs (zzp ?_)
        refine zzf (zyq 88 (x := zI (IntKind.i64.wrap ((j : Int) + 1))) (zI (j + 1 : Nat)) (eqI xz) (zza 57 (zI (j + 1 : Nat)) (zzx ?_)))
        refine ⟨_, ?_, _, by exact zzv _ _ _, j + 1, rfl, by omega, rfl, (e25.trans (e30.trans g32.ext))⟩
        omega
      ·refine zyq 80 (x := zB ((((N.getD i []).getD j tl0).c) != (Nt.p2i W.f))) (zB false) (by rw [hs29]) ?_
       have qhs29 := hs29
       simp at qhs29
       refine zzn 81 (uw 7 true false 80) (zzn 82 (uw 7 true false 80) (zzn 83 (uw 7 true false 80) (zzn 84 (uw 7 true false 80) (zzn 85 (uw 7 true false 80) (zzn 86 (uw 7 true false 80) (zza 87 (zB false) (zzb (zys xj (zzs (zzp ?_))))))))))
       refine zzf (zyq 88 (x := zI (IntKind.i64.wrap ((j : Int) + 1))) (zI (j + 1 : Nat)) (eqI xz) (zza 57 (zI (j + 1 : Nat)) (zzx ?_)))
       refine ⟨_, ?_, _, by exact zzv _ _ _, j + 1, rfl, by omega, rfl, e25⟩
       omega
    ·replace hb26 : (decide ((j : Int) < (((La.getD i sl0).n : Nat) : Int))) = false := hb26
     have qhb26 := of_decide_eq_false hb26
     refine zyc (zzp (zzf (zyq 89 (x := zI (IntKind.i64.wrap ((i : Int) + 1))) (zI (i + 1 : Nat)) (eqI xz) (zza 45 (zI (i + 1 : Nat)) (zzx ?_)))))
     refine ⟨_, ?_, _, by exact zzv _ _ _, i + 1, rfl, by omega, rfl, (e22.trans e25)⟩
     omega
  ·replace hb23 : (decide ((i : Int) < (X.n : Int))) = false := hb23
   have qhb23 := of_decide_eq_false hb23
   refine zyc (zzp (sq9 (zza 90 (.adr 1 8) (zzi 91 (zI s) ty3 zzl (zza 92 (.adr 1 9) (zzi 93 (.v X.v) ty53 zzl (zza 94 (zI X.n) (zyq 95 (x := zI (IntKind.i64.wrap ((s : Int) + (X.n : Int)))) (zI (s + X.n : Nat)) (eqI xz) (zza 7 (zI (s + X.n : Nat)) (zzb (zzd ?_)))))))))))
   refine sq9 (zza 96 (.adr 1 10) (zzi 97 (.v Y.v) ty37 zzl (zza 98 (zI Y.n) (zza 99 (zI 0) (zzb (zzt (zyn (I := fun m34 S' u' => ∃ (k : Nat), (m34 = Y.n - k) ∧ (k ≤ Y.n) ∧ (S' = St.of 120 [(1, .adr 1 0), (7, zI (s + X.n : Nat)), (97, .v (.slice Y.a Y.n Y.c)), (98, zI Y.n), (99, zI k)] [(1, ⟨55, [.int .i64 D.b, .int .i64 D.f, .int .i64 D.r, .int .i64 D.o, .int .i64 W.b, .int .i64 W.f, .int .i64 W.r, .int .i64 W.o, .int .i64 s, .slice X.a X.n X.c, .slice Y.a Y.n Y.c, .int .i64 q]⟩)]) ∧ (Ext u22 u')) (fun m S u1 u2 e h => by obtain ⟨k, hm, p0, hS, hE⟩ := h; exact ⟨k, hm, p0, hS, hE.trans e⟩) _ yz ⟨0, rfl, Nat.zero_le _, rfl, (Ext.refl _)⟩ ?_)))))))
   rintro m34 _ u34 ⟨k, hm34, hk, rfl, e34⟩
   refine sq9 (zza 100 (zB (decide ((k : Int) < (Y.n : Int)))) (zzb (zzd (zzu (b := decide ((k : Int) < (Y.n : Int))) xj (fun hb35 => ?_) (fun hb35 => ?_)))))
   ·replace hb35 : (decide ((k : Int) < (Y.n : Int))) = true := hb35
    have qhb35 := of_decide_eq_true hb35
    refine zzs (zzp ?_)
    refine zzd (zzt (sq9 ?_))
    have hl36 := ((hYr.ext (e11.trans (g13.ext.trans (e15.trans (g17.ext.trans (e22.trans e34))))))).1
    obtain ⟨b36, o36, hA36, hc36⟩ := ints_at (hYr.ext (e11.trans (g13.ext.trans (e15.trans (g17.ext.trans (e22.trans e34)))))) (i := k) xq
    have hz36 := ints_bd hbx xq k
    refine zya 101 (o36 + k * 1) (n := Y.n) (off := o36) (sz := 1) (i := (k : Int)) xq hA36 xq xq sl37 (zyl 102 (.int .i64 (nx.getD k 0)) hc36 ty3 (zza 9 (zI (nx.getD k 0)) (zzb (zzd ?_))))
    have hrj := hok.hr k xq
    refine zzf (zza 103 (zI (nx.getD k 0)) (zza 104 (zB (decide ((nx.getD k 0) < 0))) (zyq 105 (x := zB (decide ((nx.getD k 0) < 0))) (zB false) (by rw [show (decide ((nx.getD k 0) < 0)) = false from decide_eq_false xq]) (zza 106 (zI (nx.getD k 0)) ?_ (hw := w1 2 false 105)))))
    refine zza 107 (zI (s + X.n : Nat)) ?_ (hw := w1 2 false 105)
    refine zza 108 (zB (decide (((s + X.n : Nat) : Int) < (nx.getD k 0)))) ?_ (hw := w1 2 false 105)
    refine zza 109 (zB (decide (((s + X.n : Nat) : Int) < (nx.getD k 0)))) (zzb (zzu (b := decide (((s + X.n : Nat) : Int) < (nx.getD k 0))) xj (fun hb => ?_) (fun hb => ?_)))
    ·exact absurd hb (by rw [show (decide (((s + X.n : Nat) : Int) < (nx.getD k 0))) = false from decide_eq_false xq]; decide)
    ·clear hb
     refine zzs (zzp ?_)
     refine zzf (zyq 110 (x := zI (IntKind.i64.wrap ((k : Int) + 1))) (zI (k + 1 : Nat)) (eqI xz) (zza 99 (zI (k + 1 : Nat)) (zzx ?_)))
     refine ⟨_, ?_, _, by exact zzv _ _ _, k + 1, rfl, by omega, rfl, e34⟩
     omega
   ·replace hb35 : (decide ((k : Int) < (Y.n : Int))) = false := hb35
    have qhb35 := of_decide_eq_false hb35
    refine zyc (zzp (sq9 (zza 111 (.adr 1 11) (zzi 112 (zI q) ty3 zzl (zza 113 (zB (decide ((0 : Int) ≤ q))) (zyq 114 (x := zB (decide ((0 : Int) ≤ q))) (zB true) (by rw [show (decide ((0 : Int) ≤ q)) = true from decide_eq_true xq]) (zza 115 (.adr 1 11) ?_ (hw := w1 3 true 114))))))))
    refine zzi 116 (zI q) ty3 zzl ?_ (hw := w1 3 true 114)
    refine zza 117 (zI (s + X.n : Nat)) ?_ (hw := w1 3 true 114)
    refine zza 118 (zB (decide (q ≤ ((s + X.n : Nat) : Int)))) ?_ (hw := w1 3 true 114)
    refine zza 119 (zB (decide (q ≤ ((s + X.n : Nat) : Int)))) (zza 2 (zB (decide (q ≤ ((s + X.n : Nat) : Int)))) (zzb (zzo (ret0 [.bool (decide (q ≤ ((s + X.n : Nat) : Int)))] ⟨zzq, trivial⟩ fun u39 e40 => ?_))))
    show Value.bool _ = Value.bool _
    congr 1
    exact decide_eq_true xq
set_option maxHeartbeats 1000000 in
theorem k_netWrong {u w : World} {D W : WL} {s : Nat} {X Y : Sl} {h lo : Nat} {N : List (List TL)} {nx : List Int} {q : Int} {y z : Sl} {st xs : List Int} (d : Dat u w) (hW : WdOK D) (hy : SlR .i64 u y.a y.n y.c st) (hz : SlR .i64 u z.a z.n z.c xs) (hyb : ∀ z ∈ st, -9223372036854775808 ≤ z ∧ z ≤ 9223372036854775807) (hzb : ∀ z ∈ xs, -9223372036854775808 ≤ z ∧ z ≤ 9223372036854775807) (hsl : st.length = s) (hs9 : s ≤ 64) (hst : ∀ i, i < st.length → Nt.fitB D (st.getD i 0) = true) (hxs9 : ∀ i, i < xs.length → Nt.fitB D (xs.getD i 0) = true) : Calls Tryz.prog 60 #[.agg #[.int .i64 D.b, .int .i64 D.f, .int .i64 D.r, .int .i64 D.o, .int .i64 W.b, .int .i64 W.f, .int .i64 W.r, .int .i64 W.o, .int .i64 (s : Int), X.v, Y.v, .int .i64 q], y.v, z.v] w (Post u w fun y _ => y = .int .i64 0) := by
 have hly : st.length = y.n := hy.1
 have hlz : xs.length = z.n := hz.1
 have hmz := Nat.le_trans hz.2.1 hz.2.2.1
 unfold maxLen at hmz
 refine zzm (args := [.agg #[.int .i64 D.b, .int .i64 D.f, .int .i64 D.r, .int .i64 D.o, .int .i64 W.b, .int .i64 W.f, .int .i64 W.r, .int .i64 W.o, .int .i64 s, .slice X.a X.n X.c, .slice Y.a Y.n Y.c, .int .i64 q], .slice y.a y.n y.c, .slice z.a z.n z.c]) Tryz.func60 rfl Tryz.ntmps60 (rs := [.tmp 6]) Tryz.results60 (le_b rfl) (le_b rfl) d ?_
 refine sq9 (zzk 3 ⟨55, [.int .i64 D.b, .int .i64 D.f, .int .i64 D.r, .int .i64 D.o, .int .i64 W.b, .int .i64 W.f, .int .i64 W.r, .int .i64 W.o, .int .i64 s, X.v, Y.v, .int .i64 q]⟩ (zza 6 (zI 0) (zzb (zzd (sq9 (zza 11 (.v y.v) (zza 12 (zI y.n) (zza 13 (.adr 3 8) (zzi 14 (zI s) ty3 zzl (zza 15 (zB ((y.n : Int) != (s : Int))) (zzb ?_)))))))))))
 refine zzu (b := (y.n : Int) != (s : Int)) xj (fun hb => ?_) (fun hb => ?_)
 ·exact absurd hb (by rw [show ((y.n : Int) != (s : Int)) = false from (by first | (simp; done) | (simp; omega))]; decide)
 ·clear hb
  refine zzs (zzp ?_)
  refine zzd (sq9 (zza 16 (.v y.v) (zza 17 (zI y.n) (zza 18 (zI 0) (zzb (zzt (zyn (I := fun m11 S' u' => ∃ (i : Nat), (m11 = y.n - i) ∧ (i ≤ y.n) ∧ (S' = St.of 40 [(2, .v (.slice z.a z.n z.c)), (3, .adr 3 0), (16, .v (.slice y.a y.n y.c)), (17, zI y.n), (18, zI i)] [(3, ⟨55, [.int .i64 D.b, .int .i64 D.f, .int .i64 D.r, .int .i64 D.o, .int .i64 W.b, .int .i64 W.f, .int .i64 W.r, .int .i64 W.o, .int .i64 s, .slice X.a X.n X.c, .slice Y.a Y.n Y.c, .int .i64 q]⟩)]) ∧ (Ext u u')) (fun m S u1 u2 e h => by obtain ⟨i, hm, p0, hS, hE⟩ := h; exact ⟨i, hm, p0, hS, hE.trans e⟩) _ yz ⟨0, rfl, Nat.zero_le _, rfl, (Ext.refl _)⟩ ?_)))))))
  rintro m11 _ u11 ⟨i, hm11, hi, rfl, e11⟩
  refine sq9 (zza 19 (zB (decide ((i : Int) < (y.n : Int)))) (zzb (zzd (zzu (b := decide ((i : Int) < (y.n : Int))) xj (fun hb12 => ?_) (fun hb12 => ?_)))))
  ·replace hb12 : (decide ((i : Int) < (y.n : Int))) = true := hb12
   have qhb12 := of_decide_eq_true hb12
   refine zzs (zzp ?_)
   refine zzd (zzt (sq9 ?_))
   have hl13 := ((hy.ext e11)).1
   obtain ⟨b13, o13, hA13, hc13⟩ := ints_at (hy.ext e11) (i := i) xq
   have hz13 := ints_bd hyb xq i
   refine zya 20 (o13 + i * 1) (n := y.n) (off := o13) (sz := 1) (i := (i : Int)) xq hA13 xq xq sl37 (zyl 21 (.int .i64 (st.getD i 0)) hc13 ty3 (zza 8 (zI (st.getD i 0)) (zzb (sq9 (zza 22 (.adr 3 0) (zzi 23 (.v (D.v)) ty34 zze (zza 24 (zI (st.getD i 0)) (zzg 25 86 [D.v, .int .i64 (st.getD i 0)] ?_))))))))
   intro w14 u14 e14 d14
   have k17 := k_fxFitsG (W := D) (z := (st.getD i 0)) d14 hW
   with_reducible refine zPm k17 ?_
   rintro _ u15 g16 rfl
   refine zza 26 (zB (!(Nt.fitB D (st.getD i 0)))) (zzb (zzu (b := !(Nt.fitB D (st.getD i 0))) xj (fun hb => ?_) (fun hb => ?_)))
   ·exact absurd hb (by rw [show (!(Nt.fitB D (st.getD i 0))) = false from (by rw [(hst i xq)]; rfl)]; decide)
   ·clear hb
    refine zzs (zzp ?_)
    refine zzf (zyq 27 (x := zI (IntKind.i64.wrap ((i : Int) + 1))) (zI (i + 1 : Nat)) (eqI xz) (zza 18 (zI (i + 1 : Nat)) (zzx ?_)))
    refine ⟨_, ?_, _, by exact zzv _ _ _, i + 1, rfl, by omega, rfl, (e11.trans (e14.trans g16.ext))⟩
    omega
  ·replace hb12 : (decide ((i : Int) < (y.n : Int))) = false := hb12
   have qhb12 := of_decide_eq_false hb12
   refine zyc (zzp (zzd (sq9 (zza 28 (.v z.v) (zza 29 (zI z.n) (zza 30 (zI 0) (zzb (zzt (zyn (I := fun m18 S' u' => ∃ (i : Nat), (m18 = z.n - i) ∧ (i ≤ z.n) ∧ (S' = St.of 40 [(3, .adr 3 0), (28, .v (.slice z.a z.n z.c)), (29, zI z.n), (30, zI i)] [(3, ⟨55, [.int .i64 D.b, .int .i64 D.f, .int .i64 D.r, .int .i64 D.o, .int .i64 W.b, .int .i64 W.f, .int .i64 W.r, .int .i64 W.o, .int .i64 s, .slice X.a X.n X.c, .slice Y.a Y.n Y.c, .int .i64 q]⟩)]) ∧ (Ext u11 u')) (fun m S u1 u2 e h => by obtain ⟨i, hm, p0, hS, hE⟩ := h; exact ⟨i, hm, p0, hS, hE.trans e⟩) _ yz ⟨0, rfl, Nat.zero_le _, rfl, (Ext.refl _)⟩ ?_)))))))))
   rintro m18 _ u18 ⟨i, hm18, hi, rfl, e18⟩
   refine sq9 (zza 31 (zB (decide ((i : Int) < (z.n : Int)))) (zzb (zzd (zzu (b := decide ((i : Int) < (z.n : Int))) xj (fun hb19 => ?_) (fun hb19 => ?_)))))
   ·replace hb19 : (decide ((i : Int) < (z.n : Int))) = true := hb19
    have qhb19 := of_decide_eq_true hb19
    refine zzs (zzp ?_)
    refine zzd (zzt (sq9 ?_))
    have hl20 := ((hz.ext (e11.trans e18))).1
    obtain ⟨b20, o20, hA20, hc20⟩ := ints_at (hz.ext (e11.trans e18)) (i := i) xq
    have hz20 := ints_bd hzb xq i
    refine zya 32 (o20 + i * 1) (n := z.n) (off := o20) (sz := 1) (i := (i : Int)) xq hA20 xq xq sl37 (zyl 33 (.int .i64 (xs.getD i 0)) hc20 ty3 (zza 10 (zI (xs.getD i 0)) (zzb (sq9 (zza 34 (.adr 3 0) (zzi 35 (.v (D.v)) ty34 zze (zza 36 (zI (xs.getD i 0)) (zzg 37 86 [D.v, .int .i64 (xs.getD i 0)] ?_))))))))
    intro w21 u21 e21 d21
    have k24 := k_fxFitsG (W := D) (z := (xs.getD i 0)) d21 hW
    with_reducible refine zPm k24 ?_
    rintro _ u22 g23 rfl
    refine zza 38 (zB (!(Nt.fitB D (xs.getD i 0)))) (zzb (zzu (b := !(Nt.fitB D (xs.getD i 0))) xj (fun hb => ?_) (fun hb => ?_)))
    ·exact absurd hb (by rw [show (!(Nt.fitB D (xs.getD i 0))) = false from (by rw [(hxs9 i xq)]; rfl)]; decide)
    ·clear hb
     refine zzs (zzp ?_)
     refine zzf (zyq 39 (x := zI (IntKind.i64.wrap ((i : Int) + 1))) (zI (i + 1 : Nat)) (eqI xz) (zza 30 (zI (i + 1 : Nat)) (zzx ?_)))
     refine ⟨_, ?_, _, by exact zzv _ _ _, i + 1, rfl, by omega, rfl, (e18.trans (e21.trans g23.ext))⟩
     omega
   ·replace hb19 : (decide ((i : Int) < (z.n : Int))) = false := hb19
    have qhb19 := of_decide_eq_false hb19
    refine zyc (zzp (sq9 (zza 6 (zI 0) (zzb (zzo (ret0 [.int .i64 0] ⟨zzq, trivial⟩ fun u25 e26 => ?_))))))
    rfl
set_option maxHeartbeats 4000000 in
theorem k_netCompute {u w : World} {D W : WL} {s : Nat} {X Y : Sl} {h lo : Nat} {N : List (List TL)} {nx : List Int} {q : Int} {y : Sl} {st : List Int} {x : Int} (d : Dat u w) (hN : NodesB lo h u X N) (hY : MutL 1 3 lo u Y (ics nx)) (hok : Nt.NetOK D W s N nx q) (hy : SlR .i64 u y.a y.n y.c st) (hyb : ∀ z ∈ st, -9223372036854775808 ≤ z ∧ z ≤ 9223372036854775807) (hsl : st.length = s) (hst : ∀ i, i < st.length → Nt.fitB D (st.getD i 0) = true) (hx : Nt.fitB D x = true) : Calls Tryz.prog 61 #[.agg #[.int .i64 D.b, .int .i64 D.f, .int .i64 D.r, .int .i64 D.o, .int .i64 W.b, .int .i64 W.f, .int .i64 W.r, .int .i64 W.o, .int .i64 (s : Int), X.v, Y.v, .int .i64 q], y.v, .int .i64 x] w (Post u w fun v u' => ∃ z : Sl, v = .tuple #[z.v, .bool (Nt.oversK D W N (x :: st) N.length)] ∧ SlR .i64 u' z.a z.n z.c (Nt.valsK D W N (x :: st) N.length) ∧ ∃ g, z.a = some ⟨g, 0, none⟩ ∧ u.heap.size ≤ g) := by
 obtain ⟨ya, yn, yc⟩ := y
 change SlR .i64 u ya yn yc st at hy
 have hyl : st.length = yn := hy.1
 obtain rfl : yn = s := by omega
 obtain ⟨La, gA, gB, gC⟩ := id hN
 have hNl := hN.len
 have hD := hok.hd
 have hWc := hok.hw
 have hs64 := hok.hs
 have hn64 := hok.hn
 have hxs := hok.hx
 have hYr := MutL.slr hY
 have hYl : nx.length = Y.n := hYr.1
 have hqq := hok.hq
 have hbx : ∀ z ∈ nx, -9223372036854775808 ≤ z ∧ z ≤ 9223372036854775807 := fun z hz => by
  obtain ⟨j, hj, rfl⟩ := Nt.mem_getD hz
  have h9 := hok.hr j hj
  omega
 have hT1 : ∀ i, i < N.length → (La.getD i sl0).n = (N.getD i []).length ∧ (N.getD i []).length ≤ 64 := fun i hi => ⟨tms_len (gC i hi).1, (hok.ht i hi).1⟩
 obtain ⟨hd1, hd2, hd3, hd4, hd5, hd6, hd7, hd8⟩ := id hD
 obtain ⟨hw1, hw2, hw3, hw4, hw5, hw6, hw7, hw8⟩ := id hWc
 have hpw1 := Nt.zxq W.f
 have hpw2 := Nt.p2i_24 (n := W.f) xq
 have hpd1 := Nt.zxq (D.b - 1)
 have hpd2 : Nt.p2i (D.b - 1) ≤ 8388608 := Nt.zwh (b := 23) xq
 have hxf := Nt.fit_iff.1 hx
 refine zzm (args := [.agg #[.int .i64 D.b, .int .i64 D.f, .int .i64 D.r, .int .i64 D.o, .int .i64 W.b, .int .i64 W.f, .int .i64 W.r, .int .i64 W.o, .int .i64 yn, .slice X.a X.n X.c, .slice Y.a Y.n Y.c, .int .i64 q], .slice ya yn yc, .int .i64 x]) Tryz.func61 rfl Tryz.ntmps61 (rs := [.tmp 6, .tmp 7]) Tryz.results61 (le_b rfl) (le_b rfl) d ?_
 refine sq9 (zzk 3 ⟨55, [.int .i64 D.b, .int .i64 D.f, .int .i64 D.r, .int .i64 D.o, .int .i64 W.b, .int .i64 W.f, .int .i64 W.r, .int .i64 W.o, .int .i64 yn, X.v, Y.v, .int .i64 q]⟩ (zza 6 (.v (.slice none 0 0)) (zza 7 (zB false) (zzb (sq9 (zza 16 (.adr 3 8) (zzi 17 (zI yn) ty3 zzl (zyq 18 (x := zI (IntKind.i64.wrap ((1 : Int) + (yn : Int)))) (zI (1 + yn : Nat)) (eqI xz) (zza 19 (.adr 3 9) (zzi 20 (.v X.v) ty53 zzl (zza 21 (zI X.n) ?_)))))))))))
 refine zyq 22 (x := zI (IntKind.i64.wrap (((1 + yn : Nat) : Int) + (X.n : Int)))) (zI (((1 + yn) + X.n : Nat) : Int)) (eqI xz) (sy_makeC 23 (T := 37) (E := 3) (z := .int .i64 0) (size := 1) (bytes := 8) 0 ((1 + yn) + X.n) (ics (List.replicate ((1 + yn) + X.n) 0)) xj xj rfl rfl xq xq yj (made_ints _) ?_)
 have hc11 : (ics (List.replicate ((1 + yn) + X.n) 0)).length = ((1 + yn) + X.n) * 1 := by rw [zwm, List.length_replicate, Nat.mul_one]
 have hle11 : 0 ≤ (1 + yn) + X.n := Nat.zero_le _
 have hmx11 : (1 + yn) + X.n ≤ maxLen := by unfold maxLen; omega
 have ht11 : (ics (List.replicate ((1 + yn) + X.n) 0)).take (0 * 1) = ([] : List Int).map (Value.int .i64) := by rw [Nat.zero_mul]; rfl
 refine zza 8 (.slc 23 0 0 ((1 + yn) + X.n)) (zzc 82 [(1, .v (.slice ya yn yc)), (2, zI x), (3, .adr 3 0), (8, .slc 23 0 0 ((1 + yn) + X.n))] [(3, ⟨55, [.int .i64 D.b, .int .i64 D.f, .int .i64 D.r, .int .i64 D.o, .int .i64 W.b, .int .i64 W.f, .int .i64 W.r, .int .i64 W.o, .int .i64 yn, X.v, Y.v, .int .i64 q]⟩), (23, ⟨3, (ics (List.replicate ((1 + yn) + X.n) 0))⟩)] (sq9 (zza 24 (.slc 23 0 0 ((1 + yn) + X.n)) (zza 25 (zI x) (zxz 26 ⟨3, [.int .i64 x]⟩ 1 (fun b12 u13 e14 h15 => ?_))))))
 refine sy_app1 27 (T := 37) (E := 3) (z := .int .i64 0) (size := 1) (bytes := 8) (b := b12) (off := 0) (m := 1) (n := 0) (cap := (1 + yn) + X.n) (t := 23) (cs0 := (ics (List.replicate ((1 + yn) + X.n) 0))) [8, 23, 24, 27] [.int .i64 x] xj xj xj yv rfl (lit_news ((Ext.refl _).cells h15)) (int_one _) yv yj xq xq xq xq xk ?_
 intro c16 cs16 ha16 hb16 hc16 hd16
 have hd16r : cs16.take ((0 + 1) * 1) = ([] ++ [x]).map (Value.int .i64) := by rw [hd16, ht11, List.map_append]; rfl
 refine zza 8 (.slc 27 0 (0 + 1) c16) (zzc 82 [(1, .v (.slice ya yn yc)), (3, .adr 3 0), (8, .slc 27 0 (0 + 1) c16)] [(3, ⟨55, [.int .i64 D.b, .int .i64 D.f, .int .i64 D.r, .int .i64 D.o, .int .i64 W.b, .int .i64 W.f, .int .i64 W.r, .int .i64 W.o, .int .i64 yn, X.v, Y.v, .int .i64 q]⟩), (27, ⟨3, cs16⟩)] (sq9 (zza 28 (.slc 27 0 (0 + 1) c16) (zza 29 (.v (.slice ya yn yc)) (sy_appI 30 (T := 37) (E := 3) (A := (⟨ya, yn, yc⟩ : Sl).a) (m := yn) (c := (⟨ya, yn, yc⟩ : Sl).c) (t := 27) (n := 0 + 1) (cap := c16) (cs0 := cs16) [8, 27, 28, 30] st xj xj (hy.ext e14) yj xq xq xq xq xk ?_)))))
 intro c17 cs17 ha17 hb17 hc17 hd17
 have hd17r : cs17.take ((0 + 1 + yn) * 1) = ([] ++ [x] ++ st).map (Value.int .i64) := by rw [hd17, hd16r]; simp only [List.map_append]
 refine zza 8 (.slc 30 0 (0 + 1 + yn) c17) (zzc 82 [(3, .adr 3 0), (8, .slc 30 0 (0 + 1 + yn) c17)] [(3, ⟨55, [.int .i64 D.b, .int .i64 D.f, .int .i64 D.r, .int .i64 D.o, .int .i64 W.b, .int .i64 W.f, .int .i64 W.r, .int .i64 W.o, .int .i64 yn, X.v, Y.v, .int .i64 q]⟩), (30, ⟨3, cs17⟩)] (zzd (sw_ren (r := 8) (t := 30) 78 [8, 30] xk xj zj zj xj xj ?_)))
 refine zzf (zza 9 (zB false) (zzb (zzd (sq9 (zza 31 (.adr 3 9) (zzi 32 (.v X.v) ty53 zzl (zza 33 (zI X.n) (zza 34 (zI 0) (zzb (zzt (zyn (I := fun m18 S' u' => ∃ (i : Nat) (cs : List Value) (cp : Nat) (b : Bool), (m18 = X.n - i) ∧ (i ≤ X.n) ∧ (cs.take ((1 + yn + i) * 1) = (Nt.valsK D W N (x :: st) i).map (Value.int .i64)) ∧ (cs.length = cp * 1) ∧ (1 + yn + i ≤ cp) ∧ (cp ≤ maxLen) ∧ (b = Nt.oversK D W N (x :: st) i) ∧ (S' = St.of 82 [(3, .adr 3 0), (8, .slc 78 0 (1 + yn + i) cp), (9, zB b), (32, .v (.slice X.a X.n X.c)), (33, zI X.n), (34, zI i)] [(3, ⟨55, [.int .i64 D.b, .int .i64 D.f, .int .i64 D.r, .int .i64 D.o, .int .i64 W.b, .int .i64 W.f, .int .i64 W.r, .int .i64 W.o, .int .i64 yn, .slice X.a X.n X.c, .slice Y.a Y.n Y.c, .int .i64 q]⟩), (78, ⟨3, cs⟩)]) ∧ (Ext u13 u')) (fun m S u1 u2 e h => by obtain ⟨i, cs, cp, b, hm, p0, p1, p2, p3, p4, p5, hS, hE⟩ := h; exact ⟨i, cs, cp, b, hm, p0, p1, p2, p3, p4, p5, hS, hE.trans e⟩) _ yz ⟨0, cs17, c17, false, rfl, Nat.zero_le _, (by have h9 := hd17r; rw [show 0 + 1 + yn = 1 + yn + 0 by omega] at h9; exact h9), hc17, xq, hb17, rfl, rfl, (Ext.refl _)⟩ ?_)))))))))))
 rintro m18 _ u18 ⟨i, cs, cp, b, hm18, hi, ht, hc, hle, hmx, hb9, rfl, e18⟩
 have hvl : (Nt.valsK D W N (x :: st) i).length = 1 + yn + i := Nt.valsK_len.trans yy
 refine sq9 (zza 35 (zB (decide ((i : Int) < (X.n : Int)))) (zzb (zzd (zzu (b := decide ((i : Int) < (X.n : Int))) xj (fun hb19 => ?_) (fun hb19 => ?_)))))
 ·replace hb19 : (decide ((i : Int) < (X.n : Int))) = true := hb19
  have qhb19 := of_decide_eq_true hb19
  refine zzs (zzp ?_)
  refine zzd (zzt (sq9 ?_))
  obtain ⟨b20, hA20, hc20⟩ := nodes_at (i := i) gA xq
  refine zya 36 (0 + i * 1) (n := X.n) (off := 0) (sz := 1) (i := (i : Int)) xq hA20 xq xq sl53 (zym 37 [.slice (La.getD i sl0).a (La.getD i sl0).n (La.getD i sl0).c] (fun j hj => by cases j with | zero => exact ((e14.trans e18).cell hc20) | succ j => exact absurd hj zq) ty62 (zzk 11 ⟨62, [.slice none 0 0]⟩ (zzj ⟨62, [.slice (La.getD i sl0).a (La.getD i sl0).n (La.getD i sl0).c]⟩ ty62 ?_)))
  refine zzb (zzd ?_)
  have hTi := hT1 i xq
  obtain ⟨hSB, hPB⟩ := Nt.netSum (v0 := x :: st) hok (i := i) xq yy (Nt.cons_bd hD hx hst)
  refine zzf (zza 12 (zI 0) (zzb (zzd (sq9 (zza 38 (.adr 11 0) (zzi 39 (.v (.slice (La.getD i sl0).a (La.getD i sl0).n (La.getD i sl0).c)) ty60 zzl (zza 40 (zI (((La.getD i sl0).n : Nat) : Int)) (zza 41 (zI 0) (zzb (zzt (zyn (I := fun m21 S' u' => ∃ (j : Nat), (m21 = (La.getD i sl0).n - j) ∧ (j ≤ (La.getD i sl0).n) ∧ (S' = St.of 82 [(3, .adr 3 0), (8, .slc 78 0 (1 + yn + i) cp), (9, zB b), (12, zI (Nt.sumK (Nt.valsK D W N (x :: st) i) (N.getD i []) j)), (32, .v (.slice X.a X.n X.c)), (33, zI X.n), (34, zI i), (39, .v (.slice (La.getD i sl0).a (La.getD i sl0).n (La.getD i sl0).c)), (40, zI (((La.getD i sl0).n : Nat) : Int)), (41, zI j)] [(3, ⟨55, [.int .i64 D.b, .int .i64 D.f, .int .i64 D.r, .int .i64 D.o, .int .i64 W.b, .int .i64 W.f, .int .i64 W.r, .int .i64 W.o, .int .i64 yn, .slice X.a X.n X.c, .slice Y.a Y.n Y.c, .int .i64 q]⟩), (78, ⟨3, cs⟩)]) ∧ (Ext u18 u')) (fun m S u1 u2 e h => by obtain ⟨j, hm, p0, hS, hE⟩ := h; exact ⟨j, hm, p0, hS, hE.trans e⟩) _ yz ⟨0, rfl, Nat.zero_le _, rfl, (Ext.refl _)⟩ ?_)))))))))))
  rintro m21 _ u21 ⟨j, hm21, hj, rfl, e21⟩
  refine sq9 (zza 42 (zB (decide ((j : Int) < (((La.getD i sl0).n : Nat) : Int)))) (zzb (zzd (zzu (b := decide ((j : Int) < (((La.getD i sl0).n : Nat) : Int))) xj (fun hb22 => ?_) (fun hb22 => ?_)))))
  ·replace hb22 : (decide ((j : Int) < (((La.getD i sl0).n : Nat) : Int))) = true := hb22
   have qhb22 := of_decide_eq_true hb22
   refine zzs (zzp ?_)
   refine zzd (zzt (sq9 ?_))
   obtain ⟨b23, hA23, hc23⟩ := terms_at (i := j) (T := (N.getD i [])) (gC i xq).1 xq
   refine zya 43 (0 + j * 2) (n := (La.getD i sl0).n) (off := 0) (sz := 2) (i := (j : Int)) xq hA23 xq xq sl60 (zym 44 ((N.getD i []).getD j tl0).cs (fun j hj => by have h9 := hc23 j hj; rw [List.getElem?_eq_getElem hj] at h9 ⊢; exact (e14.trans (e18.trans e21)).cell h9) ty64 ?_)
   refine zzk 14 ⟨64, [.int .i64 0, .int .i64 0]⟩ (zzj ⟨64, [.int .i64 (((N.getD i []).getD j tl0).f), .int .i64 (((N.getD i []).getD j tl0).c)]⟩ ty64 ?_)
   refine zzb ?_
   have htj := (hok.ht i xq).2 j xq
   have hs1 := hSB j xq
   have hs2 := hSB (j + 1) xq
   have hp2 := hPB j xq
   refine zzz [0, 0, 2, 0, 0, 16, 56, 120, 254, 511, 1023] [(0, []), (1, []), (2, []), (3, []), (4, []), (5, []), (6, []), (7, []), (8, []), (9, []), (10, [])] xj xj (zza 45 (zI (Nt.sumK (Nt.valsK D W N (x :: st) i) (N.getD i []) j)) (zza 46 (.adr 14 1) (zzi 47 (zI (((N.getD i []).getD j tl0).c)) ty3 zzl (zza 48 (.slc 78 0 (1 + yn + i) cp) (zza 49 (.adr 14 0) (zzi 50 (zI (((N.getD i []).getD j tl0).f)) ty3 zzl (zyw 51 (off' := ((((N.getD i []).getD j tl0).f).toNat) * 1) (n := (1 + yn + i)) (off := 0) (sz := 1) (i := ((N.getD i []).getD j tl0).f) sl37 xq xq xq ?_)))))))
   refine zzi 52 (V := ⟨3, cs⟩) (off := ((((N.getD i []).getD j tl0).f).toNat) * 1) (zI ((Nt.valsK D W N (x :: st) i).getD ((((N.getD i []).getD j tl0).f).toNat) 0)) ty3 (part_take ht hvl xq rfl) (zyq 53 (x := zI (IntKind.i64.wrap ((((N.getD i []).getD j tl0).c) * ((Nt.valsK D W N (x :: st) i).getD ((((N.getD i []).getD j tl0).f).toNat) 0)))) (zI ((((N.getD i []).getD j tl0).c) * ((Nt.valsK D W N (x :: st) i).getD ((((N.getD i []).getD j tl0).f).toNat) 0))) (eqI (IntWalk.i64_in _ xq)) ?_)
   have hs3 : Nt.sumK (Nt.valsK D W N (x :: st) i) (N.getD i []) (j + 1) = Nt.sumK (Nt.valsK D W N (x :: st) i) (N.getD i []) j + (((N.getD i []).getD j tl0).c) * ((Nt.valsK D W N (x :: st) i).getD ((((N.getD i []).getD j tl0).f).toNat) 0) := Nt.sumK_succ xq
   refine zyq 54 (x := zI (IntKind.i64.wrap ((Nt.sumK (Nt.valsK D W N (x :: st) i) (N.getD i []) j) + ((((N.getD i []).getD j tl0).c) * ((Nt.valsK D W N (x :: st) i).getD ((((N.getD i []).getD j tl0).f).toNat) 0))))) (zI (Nt.sumK (Nt.valsK D W N (x :: st) i) (N.getD i []) (j + 1))) (eqI (by rw [← hs3]; exact IntWalk.i64_in _ xq)) (zza 12 (zI (Nt.sumK (Nt.valsK D W N (x :: st) i) (N.getD i []) (j + 1))) (zzx ?_))
   refine zzp (zzf (zyq 55 (x := zI (IntKind.i64.wrap ((j : Int) + 1))) (zI (j + 1 : Nat)) (eqI xz) (zza 41 (zI (j + 1 : Nat)) (zzx ?_))))
   refine ⟨_, ?_, _, by exact zzv _ _ _, j + 1, rfl, by omega, rfl, e21⟩
   omega
  ·replace hb22 : (decide ((j : Int) < (((La.getD i sl0).n : Nat) : Int))) = false := hb22
   have qhb22 := of_decide_eq_false hb22
   refine zyc (zzp (sq9 ?_))
   have hsE : Nt.sumK (Nt.valsK D W N (x :: st) i) (N.getD i []) j = Nt.sumT (Nt.valsK D W N (x :: st) i) (N.getD i []) := by rw [show j = (N.getD i []).length by omega]; exact Nt.sumK_all
   have hsF := hSB j xq
   rw [hsE] at hsF
   refine zyq 56 (x := zI (Nt.sumK (Nt.valsK D W N (x :: st) i) (N.getD i []) j)) (zI (Nt.sumT (Nt.valsK D W N (x :: st) i) (N.getD i []))) (eqI hsE) (zza 57 (.adr 3 4) (zza 58 (.adr 3 5) (zzi 59 (zI W.f) ty3 zzl (zza 60 (.adr 3 0) (zza 61 (.adr 3 2) (zzi 62 (zI D.r) ty3 zzl (zzg 63 100 [.int .i64 (Nt.sumT (Nt.valsK D W N (x :: st) i) (N.getD i [])), .int .i64 W.f, .int .i64 D.r] ?_)))))))
   intro w24 u24 e24 d24
   have k27 := k_fxShift (v := Nt.sumT (Nt.valsK D W N (x :: st) i) (N.getD i [])) (n := W.f) (r := D.r) d24 xq xq xq xq xq
   with_reducible refine zPm k27 ?_
   rintro _ u25 g26 rfl
   refine zza 15 (zI (Nt.shiftW (Nt.sumT (Nt.valsK D W N (x :: st) i) (N.getD i [])) W.f D.r)) (zzb (sq9 (zza 64 (zB b) ?_)))
   rcases Bool.eq_false_or_eq_true b with hs28 | hs28
   ·refine zyq 65 (x := zB b) (zB true) (by rw [hs28]) (zzn 66 (uw 1 false true 65) (zzn 67 (uw 1 false true 65) (zzn 68 (uw 1 false true 65) (zzn 69 (uw 1 false true 65) (zzn 70 (uw 1 false true 65) (zza 71 (zB true) (zza 9 (zB true) (zzc 82 [(3, .adr 3 0), (8, .slc 78 0 (1 + yn + i) cp), (9, zB true), (15, zI (Nt.shiftW (Nt.sumT (Nt.valsK D W N (x :: st) i) (N.getD i [])) W.f D.r)), (32, .v X.v), (33, zI X.n), (34, zI i)] [(3, ⟨55, [.int .i64 D.b, .int .i64 D.f, .int .i64 D.r, .int .i64 D.o, .int .i64 W.b, .int .i64 W.f, .int .i64 W.r, .int .i64 W.o, .int .i64 yn, X.v, Y.v, .int .i64 q]⟩), (78, ⟨3, cs⟩)] (zzf (zza 72 (.slc 78 0 (1 + yn + i) cp) (zza 73 (.adr 3 0) ?_)))))))))))
    refine zzi 74 (.v (D.v)) ty34 zze (zza 75 (zI (Nt.shiftW (Nt.sumT (Nt.valsK D W N (x :: st) i) (N.getD i [])) W.f D.r)) (zzg 76 101 [D.v, .int .i64 (Nt.shiftW (Nt.sumT (Nt.valsK D W N (x :: st) i) (N.getD i [])) W.f D.r)] ?_))
    intro w29 u29 e29 d29
    have k32 := k_fxReduce (D := D) (v := Nt.shiftW (Nt.sumT (Nt.valsK D W N (x :: st) i) (N.getD i [])) W.f D.r) d29 hD
    with_reducible refine zPm k32 ?_
    rintro _ u30 g31 rfl
    have hrd33 := Nt.redW_bd (v := Nt.shiftW (Nt.sumT (Nt.valsK D W N (x :: st) i) (N.getD i [])) W.f D.r) hD
    refine zxz 77 ⟨3, [.int .i64 (Nt.redW D (Nt.shiftW (Nt.sumT (Nt.valsK D W N (x :: st) i) (N.getD i [])) W.f D.r))]⟩ 1 (fun b34 u35 e36 h37 => ?_)
    refine sy_app1 78 (T := 37) (E := 3) (z := .int .i64 0) (size := 1) (bytes := 8) (b := b34) (off := 0) (m := 1) (n := 1 + yn + i) (cap := cp) (t := 78) (cs0 := cs) [8, 72, 78] [.int .i64 (Nt.redW D (Nt.shiftW (Nt.sumT (Nt.valsK D W N (x :: st) i) (N.getD i [])) W.f D.r))] xj xj xj yv rfl (lit_news ((Ext.refl _).cells h37)) (int_one _) yv yj xq xq xq xq xk ?_
    intro c38 cs38 ha38 hb38 hc38 hd38
    have hd38r : cs38.take ((1 + yn + i + 1) * 1) = (Nt.valsK D W N (x :: st) i ++ [Nt.redW D (Nt.shiftW (Nt.sumT (Nt.valsK D W N (x :: st) i) (N.getD i [])) W.f D.r)]).map (Value.int .i64) := by rw [hd38, ht, List.map_append]; rfl
    refine zza 8 (.slc 78 0 (1 + yn + i + 1) c38) (zzx ?_)
    refine zzp (zzf (zyq 79 (x := zI (IntKind.i64.wrap ((i : Int) + 1))) (zI (i + 1 : Nat)) (eqI xz) (zza 34 (zI (i + 1 : Nat)) (zzx ?_))))
    refine ⟨_, ?_, _, by exact zzv _ _ _, i + 1, cs38, c38, true, rfl, by omega, hd38r, hc38, xq, hb38, (by show _ = (_ || _); rw [← hb9, hs28]; rfl), rfl, (e18.trans (e21.trans (e24.trans (g26.ext.trans (e29.trans (g31.ext.trans e36))))))⟩
    omega
   ·refine zyq 65 (x := zB b) (zB false) (by rw [hs28]) (zza 66 (.adr 3 0) ?_ (hw := w1 1 false 65))
    refine zzi 67 (.v (D.v)) ty34 zze ?_ (hw := w1 1 false 65)
    refine zza 68 (zI (Nt.shiftW (Nt.sumT (Nt.valsK D W N (x :: st) i) (N.getD i [])) W.f D.r)) ?_ (hw := w1 1 false 65)
    refine zzg 69 86 [D.v, .int .i64 (Nt.shiftW (Nt.sumT (Nt.valsK D W N (x :: st) i) (N.getD i [])) W.f D.r)] ?_ (hw := w1 1 false 65)
    intro w39 u39 e39 d39
    have k42 := k_fxFitsG (W := D) (z := Nt.shiftW (Nt.sumT (Nt.valsK D W N (x :: st) i) (N.getD i [])) W.f D.r) d39 hD
    with_reducible refine zPm k42 ?_
    rintro _ u40 g41 rfl
    refine zza 70 (zB (!(Nt.fitB D (Nt.shiftW (Nt.sumT (Nt.valsK D W N (x :: st) i) (N.getD i [])) W.f D.r)))) ?_ (hw := w1 1 false 65)
    refine zza 71 (zB (!(Nt.fitB D (Nt.shiftW (Nt.sumT (Nt.valsK D W N (x :: st) i) (N.getD i [])) W.f D.r)))) (zza 9 (zB (!(Nt.fitB D (Nt.shiftW (Nt.sumT (Nt.valsK D W N (x :: st) i) (N.getD i [])) W.f D.r)))) (zzc 82 [(3, .adr 3 0), (8, .slc 78 0 (1 + yn + i) cp), (9, zB (!(Nt.fitB D (Nt.shiftW (Nt.sumT (Nt.valsK D W N (x :: st) i) (N.getD i [])) W.f D.r)))), (15, zI (Nt.shiftW (Nt.sumT (Nt.valsK D W N (x :: st) i) (N.getD i [])) W.f D.r)), (32, .v X.v), (33, zI X.n), (34, zI i)] [(3, ⟨55, [.int .i64 D.b, .int .i64 D.f, .int .i64 D.r, .int .i64 D.o, .int .i64 W.b, .int .i64 W.f, .int .i64 W.r, .int .i64 W.o, .int .i64 yn, X.v, Y.v, .int .i64 q]⟩), (78, ⟨3, cs⟩)] (zzf (zza 72 (.slc 78 0 (1 + yn + i) cp) (zza 73 (.adr 3 0) (zzi 74 (.v (D.v)) ty34 zze (zza 75 (zI (Nt.shiftW (Nt.sumT (Nt.valsK D W N (x :: st) i) (N.getD i [])) W.f D.r)) (zzg 76 101 [D.v, .int .i64 (Nt.shiftW (Nt.sumT (Nt.valsK D W N (x :: st) i) (N.getD i [])) W.f D.r)] ?_))))))))
    intro w43 u43 e43 d43
    have k46 := k_fxReduce (D := D) (v := Nt.shiftW (Nt.sumT (Nt.valsK D W N (x :: st) i) (N.getD i [])) W.f D.r) d43 hD
    with_reducible refine zPm k46 ?_
    rintro _ u44 g45 rfl
    have hrd47 := Nt.redW_bd (v := Nt.shiftW (Nt.sumT (Nt.valsK D W N (x :: st) i) (N.getD i [])) W.f D.r) hD
    refine zxz 77 ⟨3, [.int .i64 (Nt.redW D (Nt.shiftW (Nt.sumT (Nt.valsK D W N (x :: st) i) (N.getD i [])) W.f D.r))]⟩ 1 (fun b48 u49 e50 h51 => ?_)
    refine sy_app1 78 (T := 37) (E := 3) (z := .int .i64 0) (size := 1) (bytes := 8) (b := b48) (off := 0) (m := 1) (n := 1 + yn + i) (cap := cp) (t := 78) (cs0 := cs) [8, 72, 78] [.int .i64 (Nt.redW D (Nt.shiftW (Nt.sumT (Nt.valsK D W N (x :: st) i) (N.getD i [])) W.f D.r))] xj xj xj yv rfl (lit_news ((Ext.refl _).cells h51)) (int_one _) yv yj xq xq xq xq xk ?_
    intro c52 cs52 ha52 hb52 hc52 hd52
    have hd52r : cs52.take ((1 + yn + i + 1) * 1) = (Nt.valsK D W N (x :: st) i ++ [Nt.redW D (Nt.shiftW (Nt.sumT (Nt.valsK D W N (x :: st) i) (N.getD i [])) W.f D.r)]).map (Value.int .i64) := by rw [hd52, ht, List.map_append]; rfl
    refine zza 8 (.slc 78 0 (1 + yn + i + 1) c52) (zzx ?_)
    refine zzp (zzf (zyq 79 (x := zI (IntKind.i64.wrap ((i : Int) + 1))) (zI (i + 1 : Nat)) (eqI xz) (zza 34 (zI (i + 1 : Nat)) (zzx ?_))))
    refine ⟨_, ?_, _, by exact zzv _ _ _, i + 1, cs52, c52, !(Nt.fitB D (Nt.shiftW (Nt.sumT (Nt.valsK D W N (x :: st) i) (N.getD i [])) W.f D.r)), rfl, by omega, hd52r, hc52, xq, hb52, (by show _ = (_ || _); rw [← hb9, hs28]; rfl), rfl, (e18.trans (e21.trans (e24.trans (g26.ext.trans (e39.trans (g41.ext.trans (e43.trans (g45.ext.trans e50))))))))⟩
    omega
 ·replace hb19 : (decide ((i : Int) < (X.n : Int))) = false := hb19
  have qhb19 := of_decide_eq_false hb19
  refine zyc (zzp (zzd (zyp (r := 8) (t := 78) [8, 78] xk xj zj zj xj (fun b53 u54 e55 hb56 hh57 => ?_))))
  have hp58 : SlR .i64 u54 (some ⟨b53, 0, none⟩) (1 + yn + i) cp (Nt.valsK D W N (x :: st) i) := ints_data hh57 (by have h9 := ht; rw [Nat.mul_one] at h9; exact h9) (by have h9 := hc; rw [Nat.mul_one] at h9; exact h9) hle hmx
  refine zzf (zza 80 (.v (.slice (some ⟨b53, 0, none⟩) (1 + yn + i) cp)) (zza 81 (zB b) (zza 6 (.v (.slice (some ⟨b53, 0, none⟩) (1 + yn + i) cp)) (zza 7 (zB b) (zzb (zzo (ret0 [.slice (some ⟨b53, 0, none⟩) (1 + yn + i) cp, .bool b] ⟨zzq, zzq, trivial⟩ fun u59 e60 => ?_)))))))
  have hi9 : i = N.length := by omega
  have h8 := (hp58.ext e60)
  rw [hi9] at h8
  refine ⟨(⟨some ⟨b53, 0, none⟩, 1 + yn + i, cp⟩ : Sl), ?_, ?_, ⟨b53, rfl, hb56⟩⟩
  ·rw [hb9, hi9]; rfl
  ·rw [hi9]; exact h8
set_option maxHeartbeats 2000000 in
theorem k_netFollow {u w : World} {D W : WL} {s : Nat} {X Y : Sl} {h lo : Nat} {N : List (List TL)} {nx : List Int} {q : Int} {z : Sl} {vals : List Int} (d : Dat u w) (hN : NodesB lo h u X N) (hY : MutL 1 3 lo u Y (ics nx)) (hok : Nt.NetOK D W s N nx q) (hz : SlR .i64 u z.a z.n z.c vals) (hzb : ∀ z ∈ vals, -9223372036854775808 ≤ z ∧ z ≤ 9223372036854775807) (hvl : vals.length = 1 + s + N.length) : Calls Tryz.prog 62 #[.agg #[.int .i64 D.b, .int .i64 D.f, .int .i64 D.r, .int .i64 D.o, .int .i64 W.b, .int .i64 W.f, .int .i64 W.r, .int .i64 W.o, .int .i64 (s : Int), X.v, Y.v, .int .i64 q], z.v] w (Post u w fun v u' => ∃ y : Sl, v = y.v ∧ SlR .i64 u' y.a y.n y.c (Nt.nextV nx vals)) := by
 obtain ⟨La, gA, gB, gC⟩ := id hN
 have hNl := hN.len
 have hD := hok.hd
 have hWc := hok.hw
 have hs64 := hok.hs
 have hn64 := hok.hn
 have hxs := hok.hx
 have hYr := MutL.slr hY
 have hYl : nx.length = Y.n := hYr.1
 have hqq := hok.hq
 have hbx : ∀ z ∈ nx, -9223372036854775808 ≤ z ∧ z ≤ 9223372036854775807 := fun z hz => by
  obtain ⟨j, hj, rfl⟩ := Nt.mem_getD hz
  have h9 := hok.hr j hj
  omega
 have hT1 : ∀ i, i < N.length → (La.getD i sl0).n = (N.getD i []).length ∧ (N.getD i []).length ≤ 64 := fun i hi => ⟨tms_len (gC i hi).1, (hok.ht i hi).1⟩
 obtain ⟨hd1, hd2, hd3, hd4, hd5, hd6, hd7, hd8⟩ := id hD
 obtain ⟨hw1, hw2, hw3, hw4, hw5, hw6, hw7, hw8⟩ := id hWc
 have hpw1 := Nt.zxq W.f
 have hpw2 := Nt.p2i_24 (n := W.f) xq
 have hpd1 := Nt.zxq (D.b - 1)
 have hpd2 : Nt.p2i (D.b - 1) ≤ 8388608 := Nt.zwh (b := 23) xq
 have hzl : vals.length = z.n := hz.1
 refine zzm (args := [.agg #[.int .i64 D.b, .int .i64 D.f, .int .i64 D.r, .int .i64 D.o, .int .i64 W.b, .int .i64 W.f, .int .i64 W.r, .int .i64 W.o, .int .i64 s, .slice X.a X.n X.c, .slice Y.a Y.n Y.c, .int .i64 q], .slice z.a z.n z.c]) Tryz.func62 rfl Tryz.ntmps62 (rs := [.tmp 4]) Tryz.results62 (le_b rfl) (le_b rfl) d ?_
 refine sq9 (zzk 2 ⟨55, [.int .i64 D.b, .int .i64 D.f, .int .i64 D.r, .int .i64 D.o, .int .i64 W.b, .int .i64 W.f, .int .i64 W.r, .int .i64 W.o, .int .i64 s, X.v, Y.v, .int .i64 q]⟩ (zza 4 (.v (.slice none 0 0)) (zzb (sq9 (zza 8 (.adr 2 8) (zzi 9 (zI s) ty3 zzl (sy_make 10 (T := 37) (E := 3) (z := .int .i64 0) (size := 1) (bytes := 8) s (ics (List.replicate s 0)) xj xj rfl rfl xq yj (made_ints _) ?_)))))))
 refine zza 5 (.slc 10 0 s s) (zzc 28 [(1, .v z.v), (2, .adr 2 0), (5, .slc 10 0 s s)] [(2, ⟨55, [.int .i64 D.b, .int .i64 D.f, .int .i64 D.r, .int .i64 D.o, .int .i64 W.b, .int .i64 W.f, .int .i64 W.r, .int .i64 W.o, .int .i64 s, X.v, Y.v, .int .i64 q]⟩), (10, ⟨3, ics (List.replicate s 0)⟩)] (zzd (sq9 (zza 11 (.adr 2 10) (zzi 12 (.v Y.v) ty37 zzl (zza 13 (zI Y.n) (zza 14 (zI 0) (zzb (zzt (zyn (I := fun m11 S' u' => ∃ (i : Nat) (M : List Int), (m11 = Y.n - i) ∧ (i ≤ Y.n) ∧ (M.length = s) ∧ (∀ j, j < i → M.getD j 0 = vals.getD (nx.getD j 0).toNat 0) ∧ (S' = St.of 28 [(1, .v (.slice z.a z.n z.c)), (5, .slc 10 0 s s), (12, .v (.slice Y.a Y.n Y.c)), (13, zI Y.n), (14, zI i)] [(10, ⟨3, ics M⟩)]) ∧ (Ext u u')) (fun m S u1 u2 e h => by obtain ⟨i, M, hm, p0, p1, p2, hS, hE⟩ := h; exact ⟨i, M, hm, p0, p1, p2, hS, hE.trans e⟩) _ yz ⟨0, List.replicate s 0, rfl, Nat.zero_le _, zq, (fun j hj => absurd hj (Nat.not_lt_zero j)), rfl, (Ext.refl _)⟩ ?_))))))))))
 rintro m11 _ u11 ⟨i, M, hm11, hi, hM, hF, rfl, e11⟩
 refine sq9 (zza 15 (zB (decide ((i : Int) < (Y.n : Int)))) (zzb (zzd (zzu (b := decide ((i : Int) < (Y.n : Int))) xj (fun hb12 => ?_) (fun hb12 => ?_)))))
 ·replace hb12 : (decide ((i : Int) < (Y.n : Int))) = true := hb12
  have qhb12 := of_decide_eq_true hb12
  refine zzs (zzp ?_)
  refine zzd (zzt (sq9 (zza 16 (zI i) ?_)))
  have hl13 := ((hYr.ext e11)).1
  obtain ⟨b13, o13, hA13, hc13⟩ := ints_at (hYr.ext e11) (i := i) xq
  have hz13 := ints_bd hbx xq i
  refine zya 17 (o13 + i * 1) (n := Y.n) (off := o13) (sz := 1) (i := (i : Int)) xq hA13 xq xq sl37 (zyl 18 (.int .i64 (nx.getD i 0)) hc13 ty3 (zza 6 (zI i) (zza 7 (zI (nx.getD i 0)) (zzb ?_))))
  have hrj := hok.hr i xq
  refine zzf (zza 19 (.slc 10 0 s s) (zza 20 (zI i) (zza 21 (.v z.v) (zza 22 (zI (nx.getD i 0)) ?_))))
  have hl14 := ((hz.ext e11)).1
  obtain ⟨b14, o14, hA14, hc14⟩ := ints_at (hz.ext e11) (i := (nx.getD i 0).toNat) xq
  refine zya 23 (o14 + ((nx.getD i 0).toNat) * 1) (n := z.n) (off := o14) (sz := 1) (i := (nx.getD i 0)) xq hA14 xq xq sl37 (zyl 24 (.int .i64 (vals.getD ((nx.getD i 0).toNat) 0)) hc14 ty3 (zyw 25 (off' := i * 1) (n := s) (off := 0) (sz := 1) (i := (i : Int)) sl37 xq xq xq ?_))
  refine zyv (V := ⟨3, ics M⟩) (off := i * 1) (ics ((M).set i (vals.getD ((nx.getD i 0).toNat) 0))) ty3 (by rw [zwm]; omega) (setL_ints (z := (vals.getD ((nx.getD i 0).toNat) 0)) (i := i) xq rfl) ?_
  refine zzx ?_
  refine zzp (zzf (zyq 26 (x := zI (IntKind.i64.wrap ((i : Int) + 1))) (zI (i + 1 : Nat)) (eqI xz) (zza 14 (zI (i + 1 : Nat)) (zzx ?_))))
  refine ⟨_, ?_, _, by exact zzv _ _ _, i + 1, (M).set i (vals.getD ((nx.getD i 0).toNat) 0), rfl, by omega, (by rw [List.length_set]; exact hM), (fun j hj => by rw [Nt.getD_setI _ _ _ _ xq]; by_cases e : i = j; (rw [if_pos e, ← e]); (rw [if_neg e]; exact hF j xq)), rfl, e11⟩
  omega
 ·replace hb12 : (decide ((i : Int) < (Y.n : Int))) = false := hb12
  have qhb12 := of_decide_eq_false hb12
  refine zyc (zzp (zzd (zyp (r := 5) (t := 10) [5, 10] xk xj zj zj xj (fun b15 u16 e17 hb18 hh19 => ?_))))
  have hp20 : SlR .i64 u16 (some ⟨b15, 0, none⟩) s s M := ints_data hh19 (by unfold ics; exact List.take_of_length_le (by rw [List.length_map]; (first | omega | exact Nat.le_of_eq hrl))) (by unfold ics; rw [List.length_map]; (first | omega | exact hrl)) (Nat.le_refl _) yj
  refine zzf (zza 27 (.v (.slice (some ⟨b15, 0, none⟩) s s)) (zza 4 (.v (.slice (some ⟨b15, 0, none⟩) s s)) (zzb (zzo (ret0 [.slice (some ⟨b15, 0, none⟩) s s] ⟨zzq, trivial⟩ fun u21 e22 => ?_)))))
  have h9 : M = Nt.nextV nx vals := Nt.nextV_ext xq (fun j hj => hF j xq)
  rw [← h9]
  exact ⟨(⟨some ⟨b15, 0, none⟩, s, s⟩ : Sl), rfl, (hp20.ext e22)⟩
theorem Nt.runC_le {D W : WL} {N : List (List TL)} {nx st xs : List Int} {k : Nat} : Nt.runC D W N nx st xs k ≤ k := by
 induction k with
 | zero => exact Nat.le_refl _
 | succ k ih => show _ + (if _ then 1 else 0) ≤ _; split <;> omega
theorem Nt.runO_len {D W : WL} {N : List (List TL)} {nx st xs : List Int} {q : Int} {k : Nat} : (Nt.runO D W N nx q st xs k).length = k := by
 induction k with
 | zero => rfl
 | succ k ih => unfold Nt.runO; rw [List.length_append, ih]; rfl
set_option maxHeartbeats 4000000 in
theorem k_netRun {u w : World} {D W : WL} {s : Nat} {X Y : Sl} {h lo : Nat} {N : List (List TL)} {nx : List Int} {q : Int} {y z : Sl} {st xs : List Int} (d : Dat u w) (hN : NodesB lo h u X N) (hY : MutL 1 3 lo u Y (ics nx)) (hok : Nt.NetOK D W s N nx q) (hy : SlR .i64 u y.a y.n y.c st) (hyb : ∀ z ∈ st, -9223372036854775808 ≤ z ∧ z ≤ 9223372036854775807) (hsl : st.length = s) (hst : ∀ i, i < st.length → Nt.fitB D (st.getD i 0) = true) (hz : SlR .i64 u z.a z.n z.c xs) (hzb : ∀ z ∈ xs, -9223372036854775808 ≤ z ∧ z ≤ 9223372036854775807) (hxl : xs.length ≤ 4096) (hxf : ∀ i, i < xs.length → Nt.fitB D (xs.getD i 0) = true) : Calls Tryz.prog 19 #[.agg #[.int .i64 D.b, .int .i64 D.f, .int .i64 D.r, .int .i64 D.o, .int .i64 W.b, .int .i64 W.f, .int .i64 W.r, .int .i64 W.o, .int .i64 (s : Int), X.v, Y.v, .int .i64 q], y.v, z.v] w (Post u w fun v u' => ∃ o p : Sl, v = .tuple #[o.v, p.v, .int .i64 ((Nt.runC D W N nx st xs xs.length : Nat) : Int), .int .i64 0] ∧ SlR .i64 u' o.a o.n o.c (Nt.runO D W N nx q st xs xs.length) ∧ SlR .i64 u' p.a p.n p.c (Nt.runS D W N nx st xs xs.length)) := by
 obtain ⟨ya, yn, yc⟩ := y
 change SlR .i64 u ya yn yc st at hy
 have hyl : st.length = yn := hy.1
 obtain rfl : yn = s := by omega
 obtain ⟨za, xn, zc⟩ := z
 change SlR .i64 u za xn zc xs at hz
 have hzl : xs.length = xn := hz.1
 obtain ⟨La, gA, gB, gC⟩ := id hN
 have hNl := hN.len
 have hD := hok.hd
 have hWc := hok.hw
 have hs64 := hok.hs
 have hn64 := hok.hn
 have hxs := hok.hx
 have hYr := MutL.slr hY
 have hYl : nx.length = Y.n := hYr.1
 have hqq := hok.hq
 have hbx : ∀ z ∈ nx, -9223372036854775808 ≤ z ∧ z ≤ 9223372036854775807 := fun z hz => by
  obtain ⟨j, hj, rfl⟩ := Nt.mem_getD hz
  have h9 := hok.hr j hj
  omega
 have hT1 : ∀ i, i < N.length → (La.getD i sl0).n = (N.getD i []).length ∧ (N.getD i []).length ≤ 64 := fun i hi => ⟨tms_len (gC i hi).1, (hok.ht i hi).1⟩
 obtain ⟨hd1, hd2, hd3, hd4, hd5, hd6, hd7, hd8⟩ := id hD
 obtain ⟨hw1, hw2, hw3, hw4, hw5, hw6, hw7, hw8⟩ := id hWc
 have hpw1 := Nt.zxq W.f
 have hpw2 := Nt.p2i_24 (n := W.f) xq
 have hpd1 := Nt.zxq (D.b - 1)
 have hpd2 : Nt.p2i (D.b - 1) ≤ 8388608 := Nt.zwh (b := 23) xq
 refine zzm (args := [.agg #[.int .i64 D.b, .int .i64 D.f, .int .i64 D.r, .int .i64 D.o, .int .i64 W.b, .int .i64 W.f, .int .i64 W.r, .int .i64 W.o, .int .i64 yn, .slice X.a X.n X.c, .slice Y.a Y.n Y.c, .int .i64 q], .slice ya yn yc, .slice za xn zc]) Tryz.func19 rfl Tryz.ntmps19 (rs := [.tmp 6, .tmp 7, .tmp 8, .tmp 9]) Tryz.results19 (le_b rfl) (le_b rfl) d ?_
 refine sq9 (zzk 3 ⟨55, [.int .i64 D.b, .int .i64 D.f, .int .i64 D.r, .int .i64 D.o, .int .i64 W.b, .int .i64 W.f, .int .i64 W.r, .int .i64 W.o, .int .i64 yn, X.v, Y.v, .int .i64 q]⟩ (zza 6 (.v (.slice none 0 0)) (zza 7 (.v (.slice none 0 0)) (zza 8 (zI 0) (zza 9 (zI 0) (zzb (zzd (sq9 (zzi 18 (.v (.agg #[.int .i64 D.b, .int .i64 D.f, .int .i64 D.r, .int .i64 D.o, .int .i64 W.b, .int .i64 W.f, .int .i64 W.r, .int .i64 W.o, .int .i64 yn, X.v, Y.v, .int .i64 q])) ty55 zze (zzg 19 59 [.agg #[.int .i64 D.b, .int .i64 D.f, .int .i64 D.r, .int .i64 D.o, .int .i64 W.b, .int .i64 W.f, .int .i64 W.r, .int .i64 W.o, .int .i64 yn, X.v, Y.v, .int .i64 q]] ?_))))))))))
 intro w11 u11 e11 d11
 have k14 := k_netValid d11 (hN.ext e11) (hY.ext e11) hok
 with_reducible refine zPm k14 ?_
 rintro _ u12 g13 rfl
 refine zza 20 (zB false) (zzb (zys xj (zzs (zzp ?_))))
 refine zzd (sq9 (zza 21 (.v (.slice za xn zc)) (zza 22 (zI xn) (zza 23 (zB (decide ((4096 : Int) < (xn : Int)))) (zzb (zzu (b := decide ((4096 : Int) < (xn : Int))) xj (fun hb => ?_) (fun hb => ?_)))))))
 ·exact absurd hb (by rw [show (decide ((4096 : Int) < (xn : Int))) = false from decide_eq_false xq]; decide)
 ·clear hb
  refine zzs (zzp ?_)
  refine zzd (sq9 (zzi 24 (.v (.agg #[.int .i64 D.b, .int .i64 D.f, .int .i64 D.r, .int .i64 D.o, .int .i64 W.b, .int .i64 W.f, .int .i64 W.r, .int .i64 W.o, .int .i64 yn, X.v, Y.v, .int .i64 q])) ty55 zze (zza 25 (.v (.slice ya yn yc)) (zza 26 (.v (.slice za xn zc)) (zzg 27 60 [.agg #[.int .i64 D.b, .int .i64 D.f, .int .i64 D.r, .int .i64 D.o, .int .i64 W.b, .int .i64 W.f, .int .i64 W.r, .int .i64 W.o, .int .i64 yn, X.v, Y.v, .int .i64 q], .slice ya yn yc, .slice za xn zc] ?_)))))
  intro w15 u15 e15 d15
  have k18 := (show Calls _ _ #[_, .slice ya yn yc, .slice za xn zc] _ _ from k_netWrong (X := X) (Y := Y) (y := (⟨ya, yn, yc⟩ : Sl)) (z := (⟨za, xn, zc⟩ : Sl)) (N := N) (nx := nx) (q := q) (h := h) (lo := lo) (W := W) d15 hD (hy.ext (e11.trans (g13.ext.trans e15))) (hz.ext (e11.trans (g13.ext.trans e15))) hyb hzb hsl hs64 hst hxf)
  with_reducible refine zPm k18 ?_
  rintro _ u16 g17 rfl
  refine zza 10 (zI 0) (zzb (sq9 (zza 28 (zI 0) (zza 29 (zB false) (zzb (zys xj (zzs (zzp ?_))))))))
  refine sq9 (zza 31 (.v (.slice ya yn yc)) (zza 32 (zI yn) (sy_make 33 (T := 37) (E := 3) (z := .int .i64 0) (size := 1) (bytes := 8) yn (ics (List.replicate yn 0)) xj xj rfl rfl xq yj (made_ints _) ?_)))
  refine zza 11 (.slc 33 0 yn yn) (zzc 73 [(1, .v (.slice ya yn yc)), (2, .v (.slice za xn zc)), (3, .adr 3 0), (11, .slc 33 0 yn yn)] [(3, ⟨55, [.int .i64 D.b, .int .i64 D.f, .int .i64 D.r, .int .i64 D.o, .int .i64 W.b, .int .i64 W.f, .int .i64 W.r, .int .i64 W.o, .int .i64 yn, X.v, Y.v, .int .i64 q]⟩), (33, ⟨3, ics (List.replicate yn 0)⟩)] (sq9 (zza 34 (.slc 33 0 yn yn) (zza 35 (.v (.slice ya yn yc)) (sy_copyI 36 (T := 37) (E := 3) (A := (⟨ya, yn, yc⟩ : Sl).a) (m := yn) (c2 := (⟨ya, yn, yc⟩ : Sl).c) (t := 33) (n := yn) (c := yn) (cs0 := ics (List.replicate yn 0)) st xj xj rfl (hy.ext (e11.trans (g13.ext.trans (e15.trans g17.ext)))) (by rw [zwm]; rw [List.length_replicate]) ?_)))))
  refine zzc 73 [(2, .v (.slice za xn zc)), (3, .adr 3 0), (11, .slc 33 0 yn yn)] [(3, ⟨55, [.int .i64 D.b, .int .i64 D.f, .int .i64 D.r, .int .i64 D.o, .int .i64 W.b, .int .i64 W.f, .int .i64 W.r, .int .i64 W.o, .int .i64 yn, X.v, Y.v, .int .i64 q]⟩), (33, ⟨3, ics st⟩)] (sq9 (zza 37 (.v (.slice za xn zc)) (zza 38 (zI xn) (sy_makeC 39 (T := 37) (E := 3) (z := .int .i64 0) (size := 1) (bytes := 8) 0 xn (ics (List.replicate xn 0)) xj xj rfl rfl xq xq yj (made_ints _) ?_))))
  have hc19 : (ics (List.replicate xn 0)).length = xn * 1 := by rw [zwm, List.length_replicate, Nat.mul_one]
  have hle19 : 0 ≤ xn := Nat.zero_le _
  have hmx19 : xn ≤ maxLen := by unfold maxLen; omega
  have ht19 : (ics (List.replicate xn 0)).take (0 * 1) = ([] : List Int).map (Value.int .i64) := by rw [Nat.zero_mul]; rfl
  refine zza 12 (.slc 39 0 0 xn) (zzc 73 [(2, .v (.slice za xn zc)), (3, .adr 3 0), (11, .slc 33 0 yn yn), (12, .slc 39 0 0 xn)] [(3, ⟨55, [.int .i64 D.b, .int .i64 D.f, .int .i64 D.r, .int .i64 D.o, .int .i64 W.b, .int .i64 W.f, .int .i64 W.r, .int .i64 W.o, .int .i64 yn, X.v, Y.v, .int .i64 q]⟩), (33, ⟨3, ics st⟩), (39, ⟨3, (ics (List.replicate xn 0))⟩)] (zzd (sw_ren (r := 12) (t := 39) 65 [12, 39] xk xj zj zj xj xj ?_)))
  refine zzf (zza 13 (zI 0) (zzb (zzd (sq9 (zza 40 (.v (.slice za xn zc)) (zza 41 (zI xn) (zza 42 (zI 0) (zzb (zzt (zyn (I := fun m20 S' u' => ∃ (i : Nat) (cs : List Value) (cp : Nat) (m : Nat), (m20 = xn - i) ∧ (i ≤ xn) ∧ (cs.take (i * 1) = (Nt.runO D W N nx q st xs i).map (Value.int .i64)) ∧ (cs.length = cp * 1) ∧ (i ≤ cp) ∧ (cp ≤ maxLen) ∧ (m = Nt.runC D W N nx st xs i) ∧ (S' = St.of 73 [(3, .adr 3 0), (11, .slc 33 0 yn yn), (12, .slc 65 0 i cp), (13, zI m), (40, .v (.slice za xn zc)), (41, zI xn), (42, zI i)] [(3, ⟨55, [.int .i64 D.b, .int .i64 D.f, .int .i64 D.r, .int .i64 D.o, .int .i64 W.b, .int .i64 W.f, .int .i64 W.r, .int .i64 W.o, .int .i64 yn, .slice X.a X.n X.c, .slice Y.a Y.n Y.c, .int .i64 q]⟩), (33, ⟨3, ics (Nt.runS D W N nx st xs i)⟩), (65, ⟨3, cs⟩)]) ∧ (Ext u u')) (fun m S u1 u2 e h => by obtain ⟨i, cs, cp, m, hm, p0, p1, p2, p3, p4, p5, hS, hE⟩ := h; exact ⟨i, cs, cp, m, hm, p0, p1, p2, p3, p4, p5, hS, hE.trans e⟩) _ yz ⟨0, (ics (List.replicate xn 0)), xn, 0, rfl, Nat.zero_le _, ht19, hc19, xq, hmx19, rfl, rfl, (e11.trans (g13.ext.trans (e15.trans g17.ext)))⟩ ?_))))))))))
  rintro m20 _ u20 ⟨i, cs, cp, m, hm20, hi, ht, hc, hle, hmx, hm9, rfl, e20⟩
  obtain ⟨hrl, hrf⟩ := Nt.runS_ok hok hsl hst hxf i xq
  have hmi : m ≤ i := by rw [hm9]; exact Nt.runC_le
  refine sq9 (zza 43 (zB (decide ((i : Int) < (xn : Int)))) (zzb (zzd (zzu (b := decide ((i : Int) < (xn : Int))) xj (fun hb21 => ?_) (fun hb21 => ?_)))))
  ·replace hb21 : (decide ((i : Int) < (xn : Int))) = true := hb21
   have qhb21 := of_decide_eq_true hb21
   refine zzs (zzp ?_)
   refine zzd (zzt (sq9 ?_))
   have hl22 := ((hz.ext e20)).1
   change _ = xn at hl22
   obtain ⟨b22, o22, hA22, hc22⟩ := ints_at (hz.ext e20) (i := i) xq
   have hz22 := ints_bd hzb xq i
   refine zya 44 (o22 + i * 1) (n := xn) (off := o22) (sz := 1) (i := (i : Int)) xq hA22 xq xq sl37 (zyl 45 (.int .i64 (xs.getD i 0)) hc22 ty3 (zza 15 (zI (xs.getD i 0)) (zzb (zzd (zyp (r := 11) (t := 33) [11, 33] xk xj zj zj xj (fun b23 u24 e25 hb26 hh27 => ?_))))))
   have hp28 : SlR .i64 u24 (some ⟨b23, 0, none⟩) yn yn (Nt.runS D W N nx st xs i) := ints_data hh27 (by unfold ics; exact List.take_of_length_le (by rw [List.length_map]; (first | omega | exact Nat.le_of_eq hrl))) (by unfold ics; rw [List.length_map]; (first | omega | exact hrl)) (Nat.le_refl _) yj
   have hxi := hxf i xq
   have hsi : (Nt.runS D W N nx st xs i).length = yn := hrl
   have hfi : ∀ j, j < (Nt.runS D W N nx st xs i).length → Nt.fitB D ((Nt.runS D W N nx st xs i).getD j 0) = true := fun j hj => hrf j xq
   have hsb : ∀ z ∈ Nt.runS D W N nx st xs i, -9223372036854775808 ≤ z ∧ z ≤ 9223372036854775807 := fun z hz => by obtain ⟨j, hj, rfl⟩ := Nt.mem_getD hz; have h9 := Nt.fit_iff.1 (hrf j xq); omega
   have hvv := Nt.valsK_bd (D := D) (W := W) (N := N) (k := N.length) hD (Nt.cons_bd hD hxi hfi)
   have hvl9 : (Nt.runV D W N nx st xs i).length = 1 + yn + N.length := Nt.valsK_len.trans yy
   have hvb : ∀ z ∈ Nt.runV D W N nx st xs i, -9223372036854775808 ≤ z ∧ z ≤ 9223372036854775807 := fun z hz => by obtain ⟨j, hj, rfl⟩ := Nt.mem_getD hz; have h9 := hvv j yy; have h8 : _ ∧ _ := h9; show _ ≤ (Nt.valsK D W N _ N.length).getD j 0 ∧ (Nt.valsK D W N _ N.length).getD j 0 ≤ _; omega
   have hnl : (Nt.nextV nx (Nt.runV D W N nx st xs i)).length = yn := Nt.nextV_len.trans hxs
   have hnb : True := trivial
   refine zzf (zzi 47 (.v (.agg #[.int .i64 D.b, .int .i64 D.f, .int .i64 D.r, .int .i64 D.o, .int .i64 W.b, .int .i64 W.f, .int .i64 W.r, .int .i64 W.o, .int .i64 yn, X.v, Y.v, .int .i64 q])) ty55 zze (zza 48 (.v (.slice (some ⟨b23, 0, none⟩) yn yn)) (zza 49 (zI (xs.getD i 0)) (zzg 50 61 [.agg #[.int .i64 D.b, .int .i64 D.f, .int .i64 D.r, .int .i64 D.o, .int .i64 W.b, .int .i64 W.f, .int .i64 W.r, .int .i64 W.o, .int .i64 yn, X.v, Y.v, .int .i64 q], .slice (some ⟨b23, 0, none⟩) yn yn, .int .i64 (xs.getD i 0)] ?_))))
   intro w29 u29 e29 d29
   have k33 := (show Calls _ _ #[_, .slice (some ⟨b23, 0, none⟩) yn yn, _] _ _ from k_netCompute (y := (⟨some ⟨b23, 0, none⟩, yn, yn⟩ : Sl)) (x := (xs.getD i 0)) d29 (hN.ext (e20.trans (e25.trans e29))) (hY.ext (e20.trans (e25.trans e29))) hok (hp28.ext e29) hsb hsi hfi hxi)
   with_reducible refine zPm k33 ?_
   rintro _ u31 g32 ⟨z30, rfl, hz30, g30, hg30, hh30⟩
   refine zza 46 (.v (.tuple #[z30.v, .bool (Nt.oversK D W N ((xs.getD i 0) :: (Nt.runS D W N nx st xs i)) N.length)])) (zza 51 (.v z30.v) (zza 52 (zB (Nt.oversK D W N ((xs.getD i 0) :: (Nt.runS D W N nx st xs i)) N.length)) (zza 16 (.v z30.v) (zza 17 (zB (Nt.oversK D W N ((xs.getD i 0) :: (Nt.runS D W N nx st xs i)) N.length)) (zzb (zzd (sw_adopt (r := 11) (k := 33) (cs := ics (Nt.runS D W N nx st xs i)) zj ((e29.trans g32.ext).cells hh27) hb26 xj (fun u34 eB35 => ?_))))))))
   have hlt9 := zxa hh27
   have hsz9 := (e29).size
   have hz36 := SlR.fresh hz30 hg30 xq eB35
   have hzn9 : z30.n = 1 + yn + N.length := (hz36).1.symm.trans hvl9
   refine zzf (zza 53 (.slc 33 0 yn yn) (zzi 54 (.v (.agg #[.int .i64 D.b, .int .i64 D.f, .int .i64 D.r, .int .i64 D.o, .int .i64 W.b, .int .i64 W.f, .int .i64 W.r, .int .i64 W.o, .int .i64 yn, X.v, Y.v, .int .i64 q])) ty55 zze (zza 55 (.v z30.v) (zzg 56 62 [.agg #[.int .i64 D.b, .int .i64 D.f, .int .i64 D.r, .int .i64 D.o, .int .i64 W.b, .int .i64 W.f, .int .i64 W.r, .int .i64 W.o, .int .i64 yn, X.v, Y.v, .int .i64 q], z30.v] ?_))))
   intro w37 u37 e37 d37
   have k41 := (show Calls _ _ #[_, .slice z30.a z30.n z30.c] _ _ from k_netFollow (z := z30) d37 (hN.ext ((ExtB.old eB35 (e20.trans (e25.trans (e29.trans g32.ext))) hb26).trans e37)) (hY.ext ((ExtB.old eB35 (e20.trans (e25.trans (e29.trans g32.ext))) hb26).trans e37)) hok (hz36.ext e37) hvb hvl9)
   with_reducible refine zPm k41 ?_
   rintro _ u39 g40 ⟨y38, rfl, hy38⟩
   refine sy_copyI 57 (T := 37) (E := 3) (A := y38.a) (m := y38.n) (c2 := y38.c) (t := 33) (n := yn) (c := yn) (cs0 := ics (Nt.runS D W N nx st xs i)) (Nt.nextV nx (Nt.valsK D W N ((xs.getD i 0) :: (Nt.runS D W N nx st xs i)) N.length)) xj xj ((hy38).1.symm.trans hnl) hy38 (by rw [zwm]; exact hrl) ?_
   refine zzc 73 [(3, .adr 3 0), (11, .slc 33 0 yn yn), (12, .slc 65 0 i cp), (13, zI m), (16, .v z30.v), (17, zB (Nt.oversK D W N ((xs.getD i 0) :: (Nt.runS D W N nx st xs i)) N.length)), (40, .v (.slice za xn zc)), (41, zI xn), (42, zI i)] [(3, ⟨55, [.int .i64 D.b, .int .i64 D.f, .int .i64 D.r, .int .i64 D.o, .int .i64 W.b, .int .i64 W.f, .int .i64 W.r, .int .i64 W.o, .int .i64 yn, X.v, Y.v, .int .i64 q]⟩), (33, ⟨3, ics (Nt.runS D W N nx st xs (i + 1))⟩), (65, ⟨3, cs⟩)] (sq9 (zza 58 (.slc 65 0 i cp) (zza 59 (.v z30.v) (zza 60 (.adr 3 11) (zzi 61 (zI q) ty3 zzl ?_)))))
   have hl42 := ((hz36.ext (e37.trans g40.ext))).1
   obtain ⟨b42, o42, hA42, hc42⟩ := ints_at (hz36.ext (e37.trans g40.ext)) (i := q.toNat) xq
   refine zya 62 (o42 + q.toNat * 1) (n := z30.n) (off := o42) (sz := 1) (i := q) xq hA42 xq xq sl37 (zyl 63 (.int .i64 ((Nt.valsK D W N ((xs.getD i 0) :: (Nt.runS D W N nx st xs i)) N.length).getD q.toNat 0)) hc42 ty3 (zxz 64 ⟨3, [.int .i64 ((Nt.valsK D W N ((xs.getD i 0) :: (Nt.runS D W N nx st xs i)) N.length).getD q.toNat 0)]⟩ 1 (fun b43 u44 e45 h46 => ?_)))
   refine sy_app1 65 (T := 37) (E := 3) (z := .int .i64 0) (size := 1) (bytes := 8) (b := b43) (off := 0) (m := 1) (n := i) (cap := cp) (t := 65) (cs0 := cs) [12, 58, 65] [.int .i64 ((Nt.valsK D W N ((xs.getD i 0) :: (Nt.runS D W N nx st xs i)) N.length).getD q.toNat 0)] xj xj xj yv rfl (lit_news ((Ext.refl _).cells h46)) (int_one _) yv yj xq xq xq xq xk ?_
   intro c47 cs47 ha47 hb47 hc47 hd47
   have hd47r : cs47.take ((i + 1) * 1) = (Nt.runO D W N nx q st xs i ++ [((Nt.valsK D W N ((xs.getD i 0) :: (Nt.runS D W N nx st xs i)) N.length).getD q.toNat 0)]).map (Value.int .i64) := by rw [hd47, ht, List.map_append]; rfl
   refine zza 12 (.slc 65 0 (i + 1) c47) (zzc 73 [(3, .adr 3 0), (11, .slc 33 0 yn yn), (12, .slc 65 0 (i + 1) c47), (13, zI m), (17, zB (Nt.oversK D W N ((xs.getD i 0) :: (Nt.runS D W N nx st xs i)) N.length)), (40, .v (.slice za xn zc)), (41, zI xn), (42, zI i)] [(3, ⟨55, [.int .i64 D.b, .int .i64 D.f, .int .i64 D.r, .int .i64 D.o, .int .i64 W.b, .int .i64 W.f, .int .i64 W.r, .int .i64 W.o, .int .i64 yn, X.v, Y.v, .int .i64 q]⟩), (33, ⟨3, ics (Nt.runS D W N nx st xs (i + 1))⟩), (65, ⟨3, cs47⟩)] (sq9 (zza 66 (zB (Nt.oversK D W N ((xs.getD i 0) :: (Nt.runS D W N nx st xs i)) N.length)) (zzb (zzu (b := (Nt.oversK D W N ((xs.getD i 0) :: (Nt.runS D W N nx st xs i)) N.length)) xj (fun hb48 => ?_) (fun hb48 => ?_))))))
   ·replace hb48 : (Nt.oversK D W N ((xs.getD i 0) :: (Nt.runS D W N nx st xs i)) N.length) = true := hb48
    refine zzf (zza 67 (zI m) (zyq 68 (x := zI (IntKind.i64.wrap ((m : Int) + 1))) (zI (m + 1 : Nat)) (eqI xz) (zza 13 (zI (m + 1 : Nat)) (zzx ?_))))
    refine zzp (zzf (zyq 69 (x := zI (IntKind.i64.wrap ((i : Int) + 1))) (zI (i + 1 : Nat)) (eqI xz) (zza 42 (zI (i + 1 : Nat)) (zzx ?_))))
    refine ⟨_, ?_, _, by exact zzv _ _ _, i + 1, cs47, c47, m + 1, rfl, by omega, hd47r, hc47, xq, hb47, (by show _ = Nt.runC D W N nx st xs i + (if _ then 1 else 0); rw [if_pos hb48]; omega), rfl, ((ExtB.old eB35 (e20.trans (e25.trans (e29.trans g32.ext))) hb26).trans (e37.trans (g40.ext.trans e45)))⟩
    omega
   ·replace hb48 : (Nt.oversK D W N ((xs.getD i 0) :: (Nt.runS D W N nx st xs i)) N.length) = false := hb48
    refine zzs (zzp ?_)
    refine zzf (zyq 69 (x := zI (IntKind.i64.wrap ((i : Int) + 1))) (zI (i + 1 : Nat)) (eqI xz) (zza 42 (zI (i + 1 : Nat)) (zzx ?_)))
    refine ⟨_, ?_, _, by exact zzv _ _ _, i + 1, cs47, c47, m, rfl, by omega, hd47r, hc47, xq, hb47, (by show _ = Nt.runC D W N nx st xs i + (if _ then 1 else 0); rw [if_neg (by rw [hb48]; decide)]; omega), rfl, ((ExtB.old eB35 (e20.trans (e25.trans (e29.trans g32.ext))) hb26).trans (e37.trans (g40.ext.trans e45)))⟩
    omega
  ·replace hb21 : (decide ((i : Int) < (xn : Int))) = false := hb21
   have qhb21 := of_decide_eq_false hb21
   refine zyc (zzp (zzd (zyp (r := 12) (t := 65) [12, 65] xk xj zj zj xj (fun b49 u50 e51 hb52 hh53 => ?_))))
   have hp54 : SlR .i64 u50 (some ⟨b49, 0, none⟩) i cp (Nt.runO D W N nx q st xs i) := ints_data hh53 (by have h9 := ht; rw [Nat.mul_one] at h9; exact h9) (by have h9 := hc; rw [Nat.mul_one] at h9; exact h9) hle hmx
   refine zyp (r := 11) (t := 33) [11, 33] xk xj zj zj xj (fun b55 u56 e57 hb58 hh59 => ?_)
   have hp60 : SlR .i64 u56 (some ⟨b55, 0, none⟩) yn yn (Nt.runS D W N nx st xs i) := ints_data hh59 (by unfold ics; exact List.take_of_length_le (by rw [List.length_map]; (first | omega | exact Nat.le_of_eq hrl))) (by unfold ics; rw [List.length_map]; (first | omega | exact hrl)) (Nat.le_refl _) yj
   refine zzf (zza 70 (.v (.slice (some ⟨b49, 0, none⟩) i cp)) (zza 71 (.v (.slice (some ⟨b55, 0, none⟩) yn yn)) (zza 72 (zI m) (zza 6 (.v (.slice (some ⟨b49, 0, none⟩) i cp)) (zza 7 (.v (.slice (some ⟨b55, 0, none⟩) yn yn)) (zza 8 (zI m) (zza 9 (zI 0) (zzb (zzo (ret0 [.slice (some ⟨b49, 0, none⟩) i cp, .slice (some ⟨b55, 0, none⟩) yn yn, .int .i64 m, .int .i64 0] ⟨zzq, zzq, zzq, zzq, trivial⟩ fun u61 e62 => ?_))))))))))
   have hi9 : i = xs.length := by omega
   have h8 := (hp54.ext (e57.trans e62))
   have h7 := (hp60.ext e62)
   rw [show Nt.runO D W N nx q st xs i = Nt.runO D W N nx q st xs xs.length by rw [hi9]] at h8
   rw [show Nt.runS D W N nx st xs i = Nt.runS D W N nx st xs xs.length by rw [hi9]] at h7
   refine ⟨(⟨some ⟨b49, 0, none⟩, i, cp⟩ : Sl), (⟨some ⟨b55, 0, none⟩, yn, yn⟩ : Sl), ?_, h8, h7⟩
   rw [hm9, hi9]; rfl
def Rows (k : Nat) (L : List (List Int)) : Prop := ∀ p ∈ L, p.length = k
def kcs (L : List (List Int)) : List Value := L.flatMap ics
def gi (L : List (List Int)) (i j : Nat) : Int := (L.getD i []).getD j 0
section
variable {u u' : World} {L M : List (List Int)} {p : List Int} {k n i j c b off : Nat} {x : Sl} {X : List Value} {a1 a2 a3 a4 a5 : Int}
theorem kcs_cons : kcs (p :: L) = ics p ++ kcs L := rfl
theorem Rows.tail (h : Rows k (p :: L)) : Rows k L := fun q hq => h q (List.mem_cons_of_mem _ hq)
theorem Rows.head (h : Rows k (p :: L)) : p.length = k := h p (List.mem_cons_self ..)
theorem kcs_len (h : Rows k L) : (kcs L).length = L.length * k := by
 induction L with
 | nil => simp [kcs]
 | cons p L ih => rw [kcs_cons, List.length_append, ih h.tail, zwm, h.head, List.length_cons, Nat.succ_mul, Nat.add_comm]
theorem Rows.set (h : Rows k L) (hp : p.length = k) : Rows k (L.set i p) := fun q hq => by
 rcases List.mem_or_eq_of_mem_set hq with hq | rfl
 ·exact h q hq
 ·exact hp
theorem Rows.drop (h : Rows k L) : Rows k (L.drop n) := fun q hq => h q (List.mem_of_mem_drop hq)
theorem Rows.erase (h : Rows k L) : Rows k (L.eraseIdx n) := fun q hq => h q (List.mem_of_mem_eraseIdx hq)
def IrV (k : Nat) (u : World) (x : Sl) (L : List (List Int)) : Prop :=
 Rows k L ∧ x.n = L.length ∧ x.n ≤ x.c ∧ x.c ≤ maxLen ∧ (0 < x.n → ∃ b o, x.a = some ⟨b, o, none⟩ ∧ b < u.heap.size ∧ ∀ j, j < L.length * k → u.cell? ⟨b, o + j, none⟩ = (kcs L)[j]?)
theorem IrV.ext (h : IrV k u x L) (e : Ext u u') : IrV k u' x L := by
 obtain ⟨h0, h1, h2, h3, h4⟩ := h
 refine ⟨h0, h1, h2, h3, fun hp => ?_⟩
 obtain ⟨b, o, g1, g2, g3⟩ := h4 hp
 refine ⟨b, o, g1, Nat.lt_of_lt_of_le g2 e.size, fun j hj => ?_⟩
 have hk := g3 j hj
 have hj' : j < (kcs L).length := by rw [kcs_len h0]; exact hj
 rw [List.getElem?_eq_getElem hj'] at hk ⊢
 exact e.cell hk
theorem IrV.rows (h : IrV k u x L) : Rows k L := h.1
theorem IrV.len (h : IrV k u x L) : x.n = L.length := h.2.1
end
section
variable {P : Program} {ops : Array Oper} {w0 : Base} {u0 : World} {S : St} {u : World} {o : Oper} {p : List Tmp} {seq : Bool} {rest : List (Oper × List Tmp)} {K : St → World → Prop}
end
def OkR (k : Nat) (L : List (List Int)) : Prop := ∀ p ∈ L, p.length = k ∧ ∀ z ∈ p, -16777216 ≤ z ∧ z ≤ 16777216
section
variable {L M : List (List Int)} {p : List Int} {k n i j c : Nat} {X : List Value} {a b : Int}
theorem OkR.rows (h : OkR k L) : Rows k L := fun p hp => (h p hp).1
theorem OkR.mem (h : OkR k L) (hi : i < L.length) : (L.getD i []).length = k ∧ ∀ z ∈ L.getD i [], -16777216 ≤ z ∧ z ≤ 16777216 := by
 have e : L[i] = L.getD i [] := by rw [List.getD_eq_getElem?_getD, List.getElem?_eq_getElem hi]; rfl
 rw [← e]; exact h _ (List.getElem_mem hi)
theorem OkR.bd (h : OkR k L) (hi : i < L.length) (hj : j < k) : -16777216 ≤ gi L i j ∧ gi L i j ≤ 16777216 := by
 obtain ⟨h1, h2⟩ := h.mem hi
 refine h2 _ ?_
 show (L.getD i []).getD j 0 ∈ _
 have hj' : j < (L.getD i []).length := by omega
 generalize L.getD i [] = q at *
 rw [List.getD_eq_getElem?_getD, List.getElem?_eq_getElem hj']
 exact List.getElem_mem hj'
theorem OkR.set (h : OkR k L) (hp : p.length = k) (hz : ∀ z ∈ p, -16777216 ≤ z ∧ z ≤ 16777216) : OkR k (L.set i p) := fun q hq => by
 rcases List.mem_or_eq_of_mem_set hq with hq | rfl
 ·exact h q hq
 ·exact ⟨hp, hz⟩
theorem OkR.erase (h : OkR k L) : OkR k (L.eraseIdx n) := fun q hq => h q (List.mem_of_mem_eraseIdx hq)
theorem OkR.drop (h : OkR k L) : OkR k (L.drop n) := fun q hq => h q (List.mem_of_mem_drop hq)
end
namespace Nt
def az (z : Int) : Int := (z.natAbs : Int)
variable {L Z : List (List Int)} {n i j : Nat} {a0 a1 z : Int}
end Nt
namespace Nt
variable {D W : WL} {L : List (List Int)} {i j n k : Nat}
end Nt
instance {k : Nat} {L : List (List Int)} : Decidable (OkR k L) := by unfold OkR; exact inferInstance
instance {k : Nat} {L : List (List Int)} : Decidable (Rows k L) := by unfold Rows; exact inferInstance
namespace Nt
variable {D W : WL} {L : List (List Int)} {N : List (List TL)} {nx st xs : List Int} {q : Int} {n k : Nat} {p p1 p2 : List Int} {x x1 x2 y1 y2 z1 z2 : Int}
theorem runO_len' : (runO D W N nx q st xs k).length = k := by
 induction k with
 | zero => rfl
 | succ k ih => unfold runO; rw [List.length_append, ih]; rfl
theorem runO_get (h : k < n) : (runO D W N nx q st xs n).getD k 0 = (runV D W N nx st xs k).getD q.toNat 0 := by
 induction n with
 | zero => omega
 | succ n ih =>
  unfold runO
  by_cases e : k < n
  ·rw [getD_app_lt (by rw [runO_len']; exact e)]; exact ih e
  ·obtain rfl : k = n := by omega
   rw [List.getD_eq_getElem?_getD, List.getElem?_append_right (by rw [runO_len']; exact Nat.le_refl _), runO_len', Nat.sub_self]; rfl
theorem runO_fit {s : Nat} (hok : NetOK D W s N nx q) (hsl : st.length = s) (hst : ∀ i, i < st.length → fitB D (st.getD i 0) = true) (hxs : ∀ i, i < xs.length → fitB D (xs.getD i 0) = true) (hn : n ≤ xs.length) : ∀ k, k < n → fitB D ((runO D W N nx q st xs n).getD k 0) = true := fun k hk => by
 obtain ⟨h1, h2⟩ := runS_ok hok hsl hst hxs k xq
 rw [runO_get hk]
 have hv := valsK_bd (D := D) (W := W) (N := N) (k := N.length) hok.hd (cons_bd hok.hd (hxs k xq) (fun i hi => h2 i xq))
 have hq := hok.hq
 exact fit_iff.2 (hv _ (by rw [List.length_cons, h1]; omega))
end Nt
section
variable {k n : Nat} {u : World} {x : Sl} {L : List (List Int)}
end
set_option maxHeartbeats 1000000 in
theorem k_wordD {u w : World} {k : Int} (d : Dat u w) (hk0 : -9223372036854775808 ≤ k) (hk1 : k ≤ 9223372036854775807) : Calls Tryz.prog 42 #[.int .i64 k, .int .i64 6, .int .i64 12, .int .i64 2] w (Post u w fun v _ => ∃ W : WL, v = W.v ∧ WdOK W ∧ 6 ≤ W.b ∧ W.b ≤ 12) := by
 refine zzm (args := [.int .i64 k, .int .i64 6, .int .i64 12, .int .i64 2]) Tryz.func42 rfl Tryz.ntmps42 (rs := [.cell 8 34]) Tryz.results42 (le_b rfl) (le_b rfl) d ?_
 refine sq9 (zzk 8 ⟨34, [.int .i64 0, .int .i64 0, .int .i64 0, .int .i64 0]⟩ (zzb (sq9 (zza 10 (zI k) (zzg 11 43 [.int .i64 k, .int .i64 1099511627776] ?_)))))
 intro w11 u11 e11 d11
 have k17 := (show Calls _ _ #[.int .i64 k, .int .i64 1099511627776] _ _ from k_withinB (n := k) (m := 1099511627776) d11 xq xq xq xq)
 with_reducible refine zPm k17 ?_
 rintro _ u15 g16 ⟨z12, rfl, h13, h14⟩
 refine zza 0 (zI z12) (zzb (sq9 (zza 12 (zI 6) (zza 13 (zI z12) (zza 14 (zI 12) (zza 15 (zI 6) (zza 16 (zI 6) (zza 17 (zI 7) (sy_rem 18 (n := z12) (m := 7) (z12 % 7) yv (Int.tmod_eq_emod_of_nonneg xq) ?_)))))))))
 refine zyq 19 (x := zI (IntKind.i64.wrap ((6 : Int) + (z12 % 7)))) (zI ((6 : Int) + (z12 % 7))) yq (zza 20 (.v (.agg #[.int .i64 ((6 : Int) + (z12 % 7)), .int .i64 0, .int .i64 0, .int .i64 0])) (zzk 9 ⟨34, [.int .i64 0, .int .i64 0, .int .i64 0, .int .i64 0]⟩ (zzj ⟨34, [.int .i64 ((6 : Int) + (z12 % 7)), .int .i64 0, .int .i64 0, .int .i64 0]⟩ ty34 ?_)))
 refine zzb (sq9 (zza 21 (zI z12) (zza 22 (zI 12) (zza 23 (zI 6) (zza 24 (zI 6) (zza 25 (zI 7) (sy_quo 26 (n := z12) (m := 7) (z12 / 7) yv (by rw [Int.tdiv_eq_ediv_of_nonneg xq]; exact IntWalk.i64_in _ xq) ?_)))))))
 refine zza 0 (zI (z12 / 7)) (zzb (sq9 (zza 27 (.adr 9 0) (zzi 28 (zI ((6 : Int) + (z12 % 7))) ty3 zzl (zyq 29 (x := zI (IntKind.i64.wrap (((6 : Int) + (z12 % 7)) - 1))) (zI (((6 : Int) + (z12 % 7)) - 1)) yq (zza 30 (zI 2) (zyq 31 (x := zI (IntKind.i64.wrap ((((6 : Int) + (z12 % 7)) - 1) - 2))) (zI ((((6 : Int) + (z12 % 7)) - 1) - 2)) yq (zza 32 (zI (z12 / 7)) (sy_rem 33 (n := z12 / 7) (m := 2) ((z12 / 7) % 2) yv (Int.tmod_eq_emod_of_nonneg xq) ?_)))))))))
 refine zyq 34 (x := zI (IntKind.i64.wrap (((((6 : Int) + (z12 % 7)) - 1) - 2) - ((z12 / 7) % 2)))) (zI (((((6 : Int) + (z12 % 7)) - 1) - 2) - ((z12 / 7) % 2))) yq (zza 35 (.adr 9 1) (zzj ⟨34, [.int .i64 ((6 : Int) + (z12 % 7)), .int .i64 (((((6 : Int) + (z12 % 7)) - 1) - 2) - ((z12 / 7) % 2)), .int .i64 0, .int .i64 0]⟩ ty3 ?_))
 refine zzc 52 [(0, zI (z12 / 7)), (8, .adr 8 0), (9, .adr 9 0)] [(8, ⟨34, [.int .i64 0, .int .i64 0, .int .i64 0, .int .i64 0]⟩), (9, ⟨34, [.int .i64 ((6 : Int) + (z12 % 7)), .int .i64 (((((6 : Int) + (z12 % 7)) - 1) - 2) - ((z12 / 7) % 2)), .int .i64 0, .int .i64 0]⟩)] (sq9 (zza 36 (zI (z12 / 7)) (sy_quo 37 (n := z12 / 7) (m := 2) ((z12 / 7) / 2) yv (by rw [Int.tdiv_eq_ediv_of_nonneg xq]; exact IntWalk.i64_in _ xq) ?_)))
 refine zza 0 (zI ((z12 / 7) / 2)) (zzb (sq9 (zza 38 (.adr 9 1) (zzi 39 (zI (((((6 : Int) + (z12 % 7)) - 1) - 2) - ((z12 / 7) % 2))) ty3 zzl (sy_max0 40 (n := ((((6 : Int) + (z12 % 7)) - 1) - 2) - ((z12 / 7) % 2)) (v := ((((6 : Int) + (z12 % 7)) - 1) - 2) - ((z12 / 7) % 2)) (by split <;> omega) ?_)))))
 refine zza 41 (.adr 9 1) (zzj ⟨34, [.int .i64 ((6 : Int) + (z12 % 7)), .int .i64 (((((6 : Int) + (z12 % 7)) - 1) - 2) - ((z12 / 7) % 2)), .int .i64 0, .int .i64 0]⟩ ty3 ?_)
 refine zzb (sq9 (zza 42 (zI ((z12 / 7) / 2)) (sy_rem 43 (n := (z12 / 7) / 2) (m := 3) (((z12 / 7) / 2) % 3) yv (Int.tmod_eq_emod_of_nonneg xq) ?_)))
 refine zyq 44 (x := zI (IntKind.i64.wrap ((1 : Int) + (((z12 / 7) / 2) % 3)))) (zI ((1 : Int) + (((z12 / 7) / 2) % 3))) yq (zza 45 (zI ((z12 / 7) / 2)) (sy_quo 46 (n := (z12 / 7) / 2) (m := 3) (((z12 / 7) / 2) / 3) yv (by rw [Int.tdiv_eq_ediv_of_nonneg xq]; exact IntWalk.i64_in _ xq) ?_))
 refine sy_rem 47 (n := ((z12 / 7) / 2) / 3) (m := 2) ((((z12 / 7) / 2) / 3) % 2) yv (Int.tmod_eq_emod_of_nonneg xq) ?_
 refine zyq 48 (x := zI (IntKind.i64.wrap ((1 : Int) + ((((z12 / 7) / 2) / 3) % 2)))) (zI ((1 : Int) + ((((z12 / 7) / 2) / 3) % 2))) yq (zza 49 (.adr 9 2) (zzj ⟨34, [.int .i64 ((6 : Int) + (z12 % 7)), .int .i64 (((((6 : Int) + (z12 % 7)) - 1) - 2) - ((z12 / 7) % 2)), .int .i64 ((1 : Int) + (((z12 / 7) / 2) % 3)), .int .i64 0]⟩ ty3 ?_))
 refine zza 50 (.adr 9 3) (zzj ⟨34, [.int .i64 ((6 : Int) + (z12 % 7)), .int .i64 (((((6 : Int) + (z12 % 7)) - 1) - 2) - ((z12 / 7) % 2)), .int .i64 ((1 : Int) + (((z12 / 7) / 2) % 3)), .int .i64 ((1 : Int) + ((((z12 / 7) / 2) / 3) % 2))]⟩ ty3 ?_)
 refine zzb (sq9 (zzi 51 (.v (.agg #[.int .i64 ((6 : Int) + (z12 % 7)), .int .i64 (((((6 : Int) + (z12 % 7)) - 1) - 2) - ((z12 / 7) % 2)), .int .i64 ((1 : Int) + (((z12 / 7) / 2) % 3)), .int .i64 ((1 : Int) + ((((z12 / 7) / 2) / 3) % 2))])) ty34 zze (zzj ⟨34, [.int .i64 ((6 : Int) + (z12 % 7)), .int .i64 (((((6 : Int) + (z12 % 7)) - 1) - 2) - ((z12 / 7) % 2)), .int .i64 ((1 : Int) + (((z12 / 7) / 2) % 3)), .int .i64 ((1 : Int) + ((((z12 / 7) / 2) / 3) % 2))]⟩ ty34 ?_)))
 refine zzb (zzo (ret0 [.agg #[.int .i64 ((6 : Int) + (z12 % 7)), .int .i64 (((((6 : Int) + (z12 % 7)) - 1) - 2) - ((z12 / 7) % 2)), .int .i64 ((1 : Int) + (((z12 / 7) / 2) % 3)), .int .i64 ((1 : Int) + ((((z12 / 7) / 2) / 3) % 2))]] ⟨zzr ty34 zze, trivial⟩ fun u18 e19 => ?_))
 exact ⟨⟨(6 : Int) + (z12 % 7), ((((6 : Int) + (z12 % 7)) - 1) - 2) - ((z12 / 7) % 2), (1 : Int) + (((z12 / 7) / 2) % 3), (1 : Int) + ((((z12 / 7) / 2) / 3) % 2)⟩, rfl, by unfold WdOK; dsimp only; omega, by dsimp only; omega, by dsimp only; omega⟩
theorem k_data {u w : World} {k : Int} (d : Dat u w) (hk0 : -9223372036854775808 ≤ k) (hk1 : k ≤ 9223372036854775807) : Calls Tryz.prog 16 #[.int .i64 k] w (Post u w fun v _ => ∃ W : WL, v = W.v ∧ WdOK W ∧ 6 ≤ W.b ∧ W.b ≤ 12) := by
 refine zzm (args := [.int .i64 k]) Tryz.func16 rfl Tryz.ntmps16 (rs := [.cell 2 34]) Tryz.results16 (le_b rfl) (le_b rfl) d ?_
 refine sq9 (zzk 2 ⟨34, [.int .i64 0, .int .i64 0, .int .i64 0, .int .i64 0]⟩ (zzb (sq9 (zza 3 (zI k) (zzg 4 42 [.int .i64 k, .int .i64 6, .int .i64 12, .int .i64 2] ?_)))))
 intro w11 u11 e11 d11
 have k18 := k_wordD (k := k) d11 xq xq
 with_reducible refine zPm k18 ?_
 rintro _ u16 g17 ⟨D12, rfl, hD13, h614, h715⟩
 refine zzj ⟨34, D12.cs⟩ ty34 ?_
 refine zzb (zzo (ret0 [.agg #[.int .i64 D12.b, .int .i64 D12.f, .int .i64 D12.r, .int .i64 D12.o]] ⟨zzr ty34 zze, trivial⟩ fun u19 e20 => ?_))
 exact ⟨D12, rfl, by assumption, by assumption, by assumption⟩
theorem fit_bd {W : WL} {l : List Int} (hW : WdOK W) (h : ∀ z ∈ l, Nt.fitB W z = true) : ∀ z ∈ l, -9223372036854775808 ≤ z ∧ z ≤ 9223372036854775807 := fun z hz => by
 have h1 := Nt.fit_iff.1 (h z hz)
 have h2 := Nt.p2i_24 (n := W.b - 1) (by obtain ⟨_, h3, _⟩ := hW; omega)
 omega
namespace Nt
variable {n : Nat} {U : Int} {L : List PL} {st : WS}
theorem mem_set' {l : List Int} {i : Nat} {a z : Int} (h : z ∈ l.set i a) : z ∈ l ∨ z = a := List.mem_or_eq_of_mem_set h
end Nt
end Go.Proofs.YtifcjcecmoimjaaGreat
