/- Builders of wave filters. Printed by wip/sym/g_no.py. The networks of wave filters. Plain lists. Build of wave filters. Printed by wip/sym/g_np.py. Wave filters: errors, the law WaveBuilds. Printed by wip/sym/g_nq.py. The networks of wave filters: bounds. WaveIsComplementary, walked. Printed by wip/sym/g_wm.py. WaveBuilds, walked. Printed by wip/sym/g_nr.py. -/
import Derived.Test.YtdmpfhhhlhoeiaaGreatWbdF
namespace Go.Proofs.YtdmpfhhhlhoeiaaGreat
open Go.RowKit
set_option linter.unusedVariables false
theorem blk_cells {u : World} {b off : Nat} {ty : TypeId} {cs l : List Value} (h : u.heap[b]? = some (.cells cs.toArray ty (0, 0))) (hl : (cs.drop off).take l.length = l) : ∀ i, i < l.length → u.cell? ⟨b, off + i, none⟩ = l[i]? := fun i hi => by
 rw [cells_at h]
 have : l[i]? = ((cs.drop off).take l.length)[i]? := by rw [hl]
 rw [this, List.getElem?_take_of_lt hi, List.getElem?_drop]; simp
set_option maxHeartbeats 2000000 in
theorem k_pnode {u w : World} {F : List Nat} {bb lo : Nat} {r : BL} {N : List (List TL)} {s : List Int} {x c y e : Int} (d : Dat u w) (h : BldR 133 (· ∈ F) u bb r N s) (hlo : lo ≤ u.heap.size) (hn : r.n ≤ 100) (hN : N.length ≤ 200) : Calls Tryz.prog 101 #[.pointer (some ⟨bb, 0, none⟩), .int .i64 x, .int .i64 c, .int .i64 y, .int .i64 e] w (PostF F u w fun v u' => v = .int .i64 ((r.n + N.length + 1 : Nat) : Int) ∧ ∃ X' : Sl, BldR 133 (fun b => b ∈ F ∨ lo ≤ b) u' bb { r with X := X' } (N ++ [[⟨x, c⟩, ⟨y, e⟩]]) s) := by
 obtain ⟨hB0, hM0, hX0, hY0⟩ := BldR.free (u0 := u) (w := w) h
 have hz0 : u.heap.size ≤ u.heap.size := Nat.le_refl _
 have hl0 := NodesM.len hX0
 refine calls_symF (F := F) (args := [.pointer (some ⟨bb, 0, none⟩), .int .i64 x, .int .i64 c, .int .i64 y, .int .i64 e]) Tryz.func101 rfl Tryz.ntmps101 (rs := [.tmp 10]) Tryz.results101 (le_b rfl) (le_b rfl) d ?_
 refine sq9 (zza 10 (zI 0) (zzb (sq9 (zza 12 (zI x) (zza 13 (zI c) (zza 14 (.v (.agg #[.int .i64 x, .int .i64 c])) (zza 15 (zI y) (zza 16 (zI e) (zza 17 (.v (.agg #[.int .i64 y, .int .i64 e])) (sy_dataF 18 ⟨78, [.int .i64 x, .int .i64 c, .int .i64 y, .int .i64 e]⟩ 2 (fun b11 u11 e11 h11 f11 g11 => ?_)))))))))))
 have hm11 : MutM 2 78 (fun _ => True) u11 (⟨some ⟨b11, 0, none⟩, 2, 2⟩ : Sl) (tcs [(⟨x, c⟩ : TL), (⟨y, e⟩ : TL)]) := MutM.lit h11 rfl yv trivial
 refine zza 11 (.v (.slice (some ⟨b11, 0, none⟩) 2 2)) (zzb (sq9 (zza 19 (.v (.pointer (some ⟨bb, 0, none⟩))) (zza 20 (.v (.pointer (some ⟨bb, 0, none⟩))) (zza 21 (.v (.pointer (some ⟨bb, 0, none⟩))) (zza 22 (.v (.pointer (some ⟨bb, 0, none⟩))) (zza 23 (.v (.pointer (some ⟨bb, 9, none⟩))) ?_)))))))
 have hB12 := e11.cells hB0
 have hX12 := hX0.ext e11
 have hY12 := hY0.ext e11
 have hz12 := Nat.le_trans hz0 e11.size
 refine zyl 24 r.X.v (zxc (j := 9) hB12 rfl) ty47 (zza 25 (.v (.slice (some ⟨b11, 0, none⟩) 2 2)) (zza 26 (.v (.agg #[.slice (some ⟨b11, 0, none⟩) 2 2])) (sy_dataF 27 ⟨76, [.slice (some ⟨b11, 0, none⟩) 2 2]⟩ 1 (fun b13 u13 e13 h13 f13 g13 => ?_))))
 have hB14 := e13.cells hB12
 have hX14 := hX12.ext e13
 have hY14 := hY12.ext e13
 have hz14 := Nat.le_trans hz12 e13.size
 obtain ⟨Ls15, gA15, gB15, gC15⟩ := id hX14
 have hl15 := NodesM.len hX14
 refine sy_appX 28 (T := 47) (E := 76) (z := .agg #[.slice none 0 0]) (size := 1) (bytes := 24) (b2 := b13) (off := 0) (m := 1) r.X (Ls15.map Sl.v) [.slice (some ⟨b11, 0, none⟩) 2 2] hz14 gA15 xk xk xk yq rfl (lit_news ((Ext.refl _).cells h13)) (sl_one (⟨some ⟨b11, 0, none⟩, 2, 2⟩ : Sl)) yq yv xq (fun y15 u15 hm15 hn15 hs15 hk15 => ?_)
 have hX15 : NodesM _ u15 y15 (N ++ [[(⟨x, c⟩ : TL), (⟨y, e⟩ : TL)]]) := NodesM.snoc gB15 gC15 (hm11.ext e13) hk15 hm15
 have hB15 := hk15 _ _ _ yq hB14
 have hY15 := hY14.keep hk15 yq
 have hz15 := Nat.le_trans hz14 hs15
 refine zza 29 (.v (.pointer (some ⟨bb, 0, none⟩))) (zza 30 (.v (.pointer (some ⟨bb, 0, none⟩))) (zza 31 (.v (.pointer (some ⟨bb, 9, none⟩))) (sy_storeD (b := bb) (off := 9) hB15 hM0 ty47 (show 9 + 1 ≤ 14 by decide) (fun u16 hS16 eB16 => ?_))))
 have hB16 : u16.heap[bb]? = some (.cells (⟨⟨r.D.b, r.D.f, r.D.r, r.D.o⟩, ⟨r.W.b, r.W.f, r.W.r, r.W.o⟩, r.n, y15, r.Y, r.o, r.t, r.f⟩ : BL).cs.toArray 133 (0, 0)) := hS16
 have hX16 := hX15.extB eB16 hB15 yq yq
 have hY16 := hY15.extB eB16 hB15 yq
 have hz16 := Nat.le_trans hz15 eB16.size
 refine zzb (zzd (zzz [0, 1, 3, 7, 15, 0, 32, 96, 224, 480, 992, 2047, 4095] [(0, []), (1, []), (2, []), (3, []), (4, []), (5, []), (6, []), (7, []), (8, []), (9, []), (10, []), (11, []), (12, [])] xk xk (zza 32 (.v (.pointer (some ⟨bb, 0, none⟩))) (zza 33 (.v (.pointer (some ⟨bb, 0, none⟩))) (zza 34 (.v (.pointer (some ⟨bb, 0, none⟩))) (zza 35 (.v (.pointer (some ⟨bb, 8, none⟩))) (zyl 36 (.int .i64 r.n) (zxc (j := 8) hB16 rfl) ty3 (zza 37 (.v (.pointer (some ⟨bb, 0, none⟩))) (zza 38 (.v (.pointer (some ⟨bb, 0, none⟩))) (zza 39 (.v (.pointer (some ⟨bb, 0, none⟩))) (zza 40 (.v (.pointer (some ⟨bb, 9, none⟩))) ?_)))))))))))
 refine zyl 41 y15.v (zxc (j := 9) hB16 rfl) ty47 (zza 42 (zI y15.n) (zyq 43 (x := zI (IntKind.i64.wrap ((r.n : Int) + (y15.n : Int)))) (zI (r.n + y15.n : Nat)) (eqI xw) (zza 10 (zI (r.n + y15.n : Nat)) (zzc 44 [(10, zI (r.n + y15.n : Nat))] [] (zzo (ret0 [.int .i64 (r.n + y15.n : Nat)] ⟨zzq, trivial⟩ fun u17 e18 => ?_))))))
 have hB19 := e18.cells hB16
 have hX19 := hX16.ext e18
 have hY19 := hY16.ext e18
 have hz19 := Nat.le_trans hz16 e18.size
 refine ⟨?_, y15, ?_⟩
 ·show Value.int _ _ = Value.int _ _
  congr 1
  omega
 ·have hG : BldR 133 (MayB ⟨w, none, F⟩ u) u17 bb (⟨⟨r.D.b, r.D.f, r.D.r, r.D.o⟩, ⟨r.W.b, r.W.f, r.W.r, r.W.o⟩, r.n, y15, r.Y, r.o, r.t, r.f⟩ : BL) (N ++ [[(⟨x, c⟩ : TL), (⟨y, e⟩ : TL)]]) s := ⟨hB19, hM0, hX19, hY19⟩
  exact hG.mono fun b _ hb => hb.elim (fun h9 => .inr (Nat.le_trans hlo h9)) .inl
set_option maxHeartbeats 2000000 in
theorem k_rnode {u w : World} {F : List Nat} {bb lo : Nat} {r : BL} {N : List (List TL)} {s : List Int} {x c y e : Int} (d : Dat u w) (h : BldR 138 (· ∈ F) u bb r N s) (hlo : lo ≤ u.heap.size) (hn : r.n ≤ 100) (hN : N.length ≤ 200) : Calls Tryz.prog 103 #[.pointer (some ⟨bb, 0, none⟩), .int .i64 x, .int .i64 c, .int .i64 y, .int .i64 e] w (PostF F u w fun v u' => v = .int .i64 ((r.n + N.length + 1 : Nat) : Int) ∧ ∃ X' : Sl, BldR 138 (fun b => b ∈ F ∨ lo ≤ b) u' bb { r with X := X' } (N ++ [[⟨x, c⟩, ⟨y, e⟩]]) s) := by
 obtain ⟨hB0, hM0, hX0, hY0⟩ := BldR.free (u0 := u) (w := w) h
 have hz0 : u.heap.size ≤ u.heap.size := Nat.le_refl _
 have hl0 := NodesM.len hX0
 refine calls_symF (F := F) (args := [.pointer (some ⟨bb, 0, none⟩), .int .i64 x, .int .i64 c, .int .i64 y, .int .i64 e]) Tryz.func103 rfl Tryz.ntmps103 (rs := [.tmp 10]) Tryz.results103 (le_b rfl) (le_b rfl) d ?_
 refine sq9 (zza 10 (zI 0) (zzb (sq9 (zza 11 (.v (.pointer (some ⟨bb, 0, none⟩))) (zza 12 (.v (.pointer (some ⟨bb, 0, none⟩))) (zza 13 (.v (.pointer (some ⟨bb, 0, none⟩))) (zza 14 (.v (.pointer (some ⟨bb, 0, none⟩))) (zza 15 (.v (.pointer (some ⟨bb, 9, none⟩))) (zyl 16 r.X.v (zxc (j := 9) hB0 rfl) ty47 (zza 17 (zI x) (zza 18 (zI c) ?_)))))))))))
 refine zza 19 (.v (.agg #[.int .i64 x, .int .i64 c])) (zza 20 (zI y) (zza 21 (zI e) (zza 22 (.v (.agg #[.int .i64 y, .int .i64 e])) (sy_dataF 23 ⟨78, [.int .i64 x, .int .i64 c, .int .i64 y, .int .i64 e]⟩ 2 (fun b11 u11 e11 h11 f11 g11 => ?_)))))
 have hm11 : MutM 2 78 (fun _ => True) u11 (⟨some ⟨b11, 0, none⟩, 2, 2⟩ : Sl) (tcs [(⟨x, c⟩ : TL), (⟨y, e⟩ : TL)]) := MutM.lit h11 rfl yv trivial
 refine zza 24 (.v (.agg #[.slice (some ⟨b11, 0, none⟩) 2 2])) (sy_dataF 25 ⟨76, [.slice (some ⟨b11, 0, none⟩) 2 2]⟩ 1 (fun b12 u12 e12 h12 f12 g12 => ?_))
 have hB13 := (e11.trans e12).cells hB0
 have hX13 := hX0.ext (e11.trans e12)
 have hY13 := hY0.ext (e11.trans e12)
 have hz13 := Nat.le_trans hz0 (e11.trans e12).size
 obtain ⟨Ls14, gA14, gB14, gC14⟩ := id hX13
 have hl14 := NodesM.len hX13
 refine sy_appX 26 (T := 47) (E := 76) (z := .agg #[.slice none 0 0]) (size := 1) (bytes := 24) (b2 := b12) (off := 0) (m := 1) r.X (Ls14.map Sl.v) [.slice (some ⟨b11, 0, none⟩) 2 2] hz13 gA14 xk xk xk yq rfl (lit_news ((Ext.refl _).cells h12)) (sl_one (⟨some ⟨b11, 0, none⟩, 2, 2⟩ : Sl)) yq yv xq (fun y14 u14 hm14 hn14 hs14 hk14 => ?_)
 have hX14 : NodesM _ u14 y14 (N ++ [[(⟨x, c⟩ : TL), (⟨y, e⟩ : TL)]]) := NodesM.snoc gB14 gC14 (hm11.ext e12) hk14 hm14
 have hB14 := hk14 _ _ _ yq hB13
 have hY14 := hY13.keep hk14 yq
 have hz14 := Nat.le_trans hz13 hs14
 refine zza 27 (.v (.pointer (some ⟨bb, 0, none⟩))) (zza 28 (.v (.pointer (some ⟨bb, 0, none⟩))) (zza 29 (.v (.pointer (some ⟨bb, 9, none⟩))) (sy_storeD (b := bb) (off := 9) hB14 hM0 ty47 (show 9 + 1 ≤ 14 by decide) (fun u15 hS15 eB15 => ?_))))
 have hB15 : u15.heap[bb]? = some (.cells (⟨⟨r.D.b, r.D.f, r.D.r, r.D.o⟩, ⟨r.W.b, r.W.f, r.W.r, r.W.o⟩, r.n, y14, r.Y, r.o, r.t, r.f⟩ : BL).cs.toArray 138 (0, 0)) := hS15
 have hX15 := hX14.extB eB15 hB14 yq yq
 have hY15 := hY14.extB eB15 hB14 yq
 have hz15 := Nat.le_trans hz14 eB15.size
 refine zzb (zzd (zzz [0, 1, 3, 7, 15, 0, 32, 96, 224, 480, 992, 2047, 4095] [(0, []), (1, []), (2, []), (3, []), (4, []), (5, []), (6, []), (7, []), (8, []), (9, []), (10, []), (11, []), (12, [])] xk xk (zza 30 (.v (.pointer (some ⟨bb, 0, none⟩))) (zza 31 (.v (.pointer (some ⟨bb, 0, none⟩))) (zza 32 (.v (.pointer (some ⟨bb, 0, none⟩))) (zza 33 (.v (.pointer (some ⟨bb, 8, none⟩))) (zyl 34 (.int .i64 r.n) (zxc (j := 8) hB15 rfl) ty3 (zza 35 (.v (.pointer (some ⟨bb, 0, none⟩))) (zza 36 (.v (.pointer (some ⟨bb, 0, none⟩))) (zza 37 (.v (.pointer (some ⟨bb, 0, none⟩))) (zza 38 (.v (.pointer (some ⟨bb, 9, none⟩))) ?_)))))))))))
 refine zyl 39 y14.v (zxc (j := 9) hB15 rfl) ty47 (zza 40 (zI y14.n) (zyq 41 (x := zI (IntKind.i64.wrap ((r.n : Int) + (y14.n : Int)))) (zI (r.n + y14.n : Nat)) (eqI xw) (zza 10 (zI (r.n + y14.n : Nat)) (zzc 42 [(10, zI (r.n + y14.n : Nat))] [] (zzo (ret0 [.int .i64 (r.n + y14.n : Nat)] ⟨zzq, trivial⟩ fun u16 e17 => ?_))))))
 have hB18 := e17.cells hB15
 have hX18 := hX15.ext e17
 have hY18 := hY15.ext e17
 have hz18 := Nat.le_trans hz15 e17.size
 refine ⟨?_, y14, ?_⟩
 ·show Value.int _ _ = Value.int _ _
  congr 1
  omega
 ·have hG : BldR 138 (MayB ⟨w, none, F⟩ u) u16 bb (⟨⟨r.D.b, r.D.f, r.D.r, r.D.o⟩, ⟨r.W.b, r.W.f, r.W.r, r.W.o⟩, r.n, y14, r.Y, r.o, r.t, r.f⟩ : BL) (N ++ [[(⟨x, c⟩ : TL), (⟨y, e⟩ : TL)]]) s := ⟨hB18, hM0, hX18, hY18⟩
  exact hG.mono fun b _ hb => hb.elim (fun h9 => .inr (Nat.le_trans hlo h9)) .inl
namespace Nt
def adN (U g u s : Int) (m : Nat) : List (List TL) := [[⟨u, -g⟩, ⟨s, g⟩], [⟨(m : Int), U⟩, ⟨s, U⟩], [⟨(m : Int), U⟩, ⟨u, U⟩]]
def secN (U : Int) (p : PL) (f : Nat) (u : Int) (m : Nat) : List (List TL) := if p.o = 1 then adN U p.g u (f : Int) m else adN U p.h (f : Int) ((f + 1 : Nat) : Int) m ++ adN U p.g u ((m + 1 : Nat) : Int) (m + 3)
def secX (p : PL) (f m : Nat) (s : List Int) : List Int := if p.o = 1 then s.set (f - 1) ((m + 2 : Nat) : Int) else (s.set (f - 1) ((m + 5 : Nat) : Int)).set f ((m + 2 : Nat) : Int)
def secO (p : PL) (m : Nat) : Nat := if p.o = 1 then m + 1 else m + 4
def secF (p : PL) (f : Nat) : Nat := if p.o = 1 then f + 1 else f + 2
end Nt
set_option maxHeartbeats 4000000 in
theorem k_padaptor {u w : World} {F : List Nat} {bb lo : Nat} {r : BL} {N : List (List TL)} {s : List Int} {g x y : Int} (d : Dat u w) (h : BldR 133 (· ∈ F) u bb r N s) (hlo : lo ≤ u.heap.size) (hg0 : -16777216 ≤ g) (hg1 : g ≤ 16777216) (hn : r.n ≤ 100) (hN : N.length ≤ 190) : Calls Tryz.prog 163 #[.pointer (some ⟨bb, 0, none⟩), .int .i64 g, .int .i64 x, .int .i64 y] w (PostF F u w fun v u' => v = .tuple #[.int .i64 ((r.n + N.length + 1 + 1 : Nat) : Int), .int .i64 ((r.n + N.length + 1 + 2 : Nat) : Int)] ∧ ∃ X' : Sl, BldR 133 (fun b => b ∈ F ∨ lo ≤ b) u' bb { r with X := X' } (N ++ Nt.adN r.t g x y (r.n + N.length + 1)) s) := by
 obtain ⟨hB0, hM0, hX0, hY0⟩ := BldR.free (u0 := u) (w := w) h
 have hz0 : u.heap.size ≤ u.heap.size := Nat.le_refl _
 have hl0 := NodesM.len hX0
 refine calls_symF (F := F) (args := [.pointer (some ⟨bb, 0, none⟩), .int .i64 g, .int .i64 x, .int .i64 y]) Tryz.func163 rfl Tryz.ntmps163 (rs := [.tmp 8, .tmp 9]) Tryz.results163 (le_b rfl) (le_b rfl) d ?_
 refine sq9 (zza 8 (zI 0) (zza 9 (zI 0) (zzb (sq9 (zza 13 (.v (.pointer (some ⟨bb, 0, none⟩))) (zza 14 (zI x) (zza 15 (zI g) (zyq 16 (x := zI (IntKind.i64.wrap (0 - g))) (zI (-g)) (eqI xw) (zza 17 (zI y) (zza 18 (zI g) ?_))))))))))
 have hA11 : BldR 133 (MayB ⟨w, none, F⟩ u) u bb (⟨⟨r.D.b, r.D.f, r.D.r, r.D.o⟩, ⟨r.W.b, r.W.f, r.W.r, r.W.o⟩, r.n, r.X, r.Y, r.o, r.t, r.f⟩ : BL) N s := ⟨hB0, hM0, hX0, hY0⟩
 have hl11 := NodesM.len hX0
 refine zwo (blks bb (⟨⟨r.D.b, r.D.f, r.D.r, r.D.o⟩, ⟨r.W.b, r.W.f, r.W.r, r.W.o⟩, r.n, r.X, r.Y, r.o, r.t, r.f⟩ : BL)) 19 101 [.pointer (some ⟨bb, 0, none⟩), .int .i64 x, .int .i64 (-g), .int .i64 y, .int .i64 g] (BldR.may hA11) (fun w11 u11 e11 d11 => k_pnode (lo := u.heap.size) d11 (hA11.own.ext e11) e11.size xq yw) (fun v11 u11b hF11 hv11 => ?_)
 obtain ⟨rfl, X11, hG11⟩ := hv11
 obtain ⟨hB11, hM11, hX11, hY11⟩ := hG11.back (fun b hb => (BldR.may hA11 b hb).1) hz0
 have hz11 := Nat.le_trans hz0 hF11.size
 have hl11b := NodesM.len hX11
 refine zza 10 (zI (r.n + N.length + 1 : Nat)) (zzb (zzd (sw_anyC [0, 0, 0, 4, 12, 28, 0, 0, 128, 384, 896, 2047, 4095] [(0, []), (1, []), (2, []), (3, []), (4, []), (5, []), (6, []), (7, []), (8, []), (9, []), (10, [])] [(11, []), (12, [])] xk xk xk ?_)))
 refine zza 20 (.v (.pointer (some ⟨bb, 0, none⟩))) (zza 21 (zI (r.n + N.length + 1 : Nat)) (zza 22 (.v (.pointer (some ⟨bb, 0, none⟩))) (zza 23 (.v (.pointer (some ⟨bb, 0, none⟩))) (zza 24 (.v (.pointer (some ⟨bb, 12, none⟩))) (zyl 25 (.int .i64 r.t) (zxc (j := 12) hB11 rfl) ty3 (zza 26 (zI y) (zza 27 (.v (.pointer (some ⟨bb, 0, none⟩))) (zza 28 (.v (.pointer (some ⟨bb, 0, none⟩))) (zza 29 (.v (.pointer (some ⟨bb, 12, none⟩))) (zyl 30 (.int .i64 r.t) (zxc (j := 12) hB11 rfl) ty3 (zzx ?_)))))))))))
 have hA12 : BldR 133 (MayB ⟨w, none, F⟩ u) u11b bb (⟨⟨r.D.b, r.D.f, r.D.r, r.D.o⟩, ⟨r.W.b, r.W.f, r.W.r, r.W.o⟩, r.n, X11, r.Y, r.o, r.t, r.f⟩ : BL) (N ++ [[(⟨x, -g⟩ : TL), (⟨y, g⟩ : TL)]]) s := ⟨hB11, hM11, hX11, hY11⟩
 have hl12 := NodesM.len hX11
 refine zwo (blks bb (⟨⟨r.D.b, r.D.f, r.D.r, r.D.o⟩, ⟨r.W.b, r.W.f, r.W.r, r.W.o⟩, r.n, X11, r.Y, r.o, r.t, r.f⟩ : BL)) 31 101 [.pointer (some ⟨bb, 0, none⟩), .int .i64 (r.n + N.length + 1 : Nat), .int .i64 r.t, .int .i64 y, .int .i64 r.t] (BldR.may hA12) (fun w12 u12 e12 d12 => k_pnode (lo := u11b.heap.size) d12 (hA12.own.ext e12) e12.size xq yw) (fun v12 u12b hF12 hv12 => ?_)
 obtain ⟨rfl, X12, hG12⟩ := hv12
 obtain ⟨hB12, hM12, hX12, hY12⟩ := hG12.back (fun b hb => (BldR.may hA12 b hb).1) hz11
 have hz12 := Nat.le_trans hz11 hF12.size
 have hl12b := NodesM.len hX12
 refine zza 11 (zI ((r.n + (N ++ [[(⟨x, -g⟩ : TL), (⟨y, g⟩ : TL)]]).length + 1 : Nat) : Int)) (zzb (zzd (sw_anyC [0, 0, 0, 4, 12, 28, 0, 0, 128, 384, 896, 2047, 4095] [(0, []), (1, []), (2, []), (3, []), (4, []), (5, []), (6, []), (7, []), (8, []), (9, []), (10, [])] [(11, []), (12, [])] xk xk xk ?_)))
 refine zza 32 (.v (.pointer (some ⟨bb, 0, none⟩))) (zza 33 (zI (r.n + N.length + 1 : Nat)) (zza 34 (.v (.pointer (some ⟨bb, 0, none⟩))) (zza 35 (.v (.pointer (some ⟨bb, 0, none⟩))) (zza 36 (.v (.pointer (some ⟨bb, 12, none⟩))) (zyl 37 (.int .i64 r.t) (zxc (j := 12) hB12 rfl) ty3 (zza 38 (zI x) (zza 39 (.v (.pointer (some ⟨bb, 0, none⟩))) (zza 40 (.v (.pointer (some ⟨bb, 0, none⟩))) (zza 41 (.v (.pointer (some ⟨bb, 12, none⟩))) (zyl 42 (.int .i64 r.t) (zxc (j := 12) hB12 rfl) ty3 (zzx ?_)))))))))))
 have hA13 : BldR 133 (MayB ⟨w, none, F⟩ u) u12b bb (⟨⟨r.D.b, r.D.f, r.D.r, r.D.o⟩, ⟨r.W.b, r.W.f, r.W.r, r.W.o⟩, r.n, X12, r.Y, r.o, r.t, r.f⟩ : BL) ((N ++ [[(⟨x, -g⟩ : TL), (⟨y, g⟩ : TL)]]) ++ [[(⟨((r.n + N.length + 1 : Nat) : Int), r.t⟩ : TL), (⟨y, r.t⟩ : TL)]]) s := ⟨hB12, hM12, hX12, hY12⟩
 have hl13 := NodesM.len hX12
 refine zwo (blks bb (⟨⟨r.D.b, r.D.f, r.D.r, r.D.o⟩, ⟨r.W.b, r.W.f, r.W.r, r.W.o⟩, r.n, X12, r.Y, r.o, r.t, r.f⟩ : BL)) 43 101 [.pointer (some ⟨bb, 0, none⟩), .int .i64 (r.n + N.length + 1 : Nat), .int .i64 r.t, .int .i64 x, .int .i64 r.t] (BldR.may hA13) (fun w13 u13 e13 d13 => k_pnode (lo := u12b.heap.size) d13 (hA13.own.ext e13) e13.size xq yw) (fun v13 u13b hF13 hv13 => ?_)
 obtain ⟨rfl, X13, hG13⟩ := hv13
 obtain ⟨hB13, hM13, hX13, hY13⟩ := hG13.back (fun b hb => (BldR.may hA13 b hb).1) hz12
 have hz13 := Nat.le_trans hz12 hF13.size
 have hl13b := NodesM.len hX13
 refine zza 12 (zI ((r.n + ((N ++ [[(⟨x, -g⟩ : TL), (⟨y, g⟩ : TL)]]) ++ [[(⟨((r.n + N.length + 1 : Nat) : Int), r.t⟩ : TL), (⟨y, r.t⟩ : TL)]]).length + 1 : Nat) : Int)) (zzc 46 [(11, zI ((r.n + (N ++ [[(⟨x, -g⟩ : TL), (⟨y, g⟩ : TL)]]).length + 1 : Nat) : Int)), (12, zI ((r.n + ((N ++ [[(⟨x, -g⟩ : TL), (⟨y, g⟩ : TL)]]) ++ [[(⟨((r.n + N.length + 1 : Nat) : Int), r.t⟩ : TL), (⟨y, r.t⟩ : TL)]]).length + 1 : Nat) : Int))] [] (sq9 (zza 44 (zI ((r.n + (N ++ [[(⟨x, -g⟩ : TL), (⟨y, g⟩ : TL)]]).length + 1 : Nat) : Int)) (zza 45 (zI ((r.n + ((N ++ [[(⟨x, -g⟩ : TL), (⟨y, g⟩ : TL)]]) ++ [[(⟨((r.n + N.length + 1 : Nat) : Int), r.t⟩ : TL), (⟨y, r.t⟩ : TL)]]).length + 1 : Nat) : Int)) (zza 8 (zI ((r.n + (N ++ [[(⟨x, -g⟩ : TL), (⟨y, g⟩ : TL)]]).length + 1 : Nat) : Int)) (zza 9 (zI ((r.n + ((N ++ [[(⟨x, -g⟩ : TL), (⟨y, g⟩ : TL)]]) ++ [[(⟨((r.n + N.length + 1 : Nat) : Int), r.t⟩ : TL), (⟨y, r.t⟩ : TL)]]).length + 1 : Nat) : Int)) (zzb (zzo (ret0 [.int .i64 ((r.n + (N ++ [[(⟨x, -g⟩ : TL), (⟨y, g⟩ : TL)]]).length + 1 : Nat) : Int), .int .i64 ((r.n + ((N ++ [[(⟨x, -g⟩ : TL), (⟨y, g⟩ : TL)]]) ++ [[(⟨((r.n + N.length + 1 : Nat) : Int), r.t⟩ : TL), (⟨y, r.t⟩ : TL)]]).length + 1 : Nat) : Int)] ⟨zzq, zzq, trivial⟩ fun u14 e15 => ?_)))))))))
 have hB16 := e15.cells hB13
 have hX16 := hX13.ext e15
 have hY16 := hY13.ext e15
 have hz16 := Nat.le_trans hz13 e15.size
 have eN : (((N ++ [[(⟨x, -g⟩ : TL), (⟨y, g⟩ : TL)]]) ++ [[(⟨((r.n + N.length + 1 : Nat) : Int), r.t⟩ : TL), (⟨y, r.t⟩ : TL)]]) ++ [[(⟨((r.n + N.length + 1 : Nat) : Int), r.t⟩ : TL), (⟨x, r.t⟩ : TL)]]) = (N ++ Nt.adN r.t g x y (r.n + N.length + 1)) := by simp [Nt.adN]
 have hXe := hX16
 rw [eN] at hXe
 refine ⟨?_, X13, ?_⟩
 ·show Value.tuple _ = Value.tuple _
  simp
  omega
 ·have hG : BldR 133 (MayB ⟨w, none, F⟩ u) u14 bb (⟨⟨r.D.b, r.D.f, r.D.r, r.D.o⟩, ⟨r.W.b, r.W.f, r.W.r, r.W.o⟩, r.n, X13, r.Y, r.o, r.t, r.f⟩ : BL) (N ++ Nt.adN r.t g x y (r.n + N.length + 1)) s := ⟨hB16, hM13, hXe, hY16⟩
  exact hG.mono fun b _ hb => hb.elim (fun h9 => .inr (Nat.le_trans hlo h9)) .inl
namespace Nt
theorem adN_len (U g u s : Int) (m : Nat) : (adN U g u s m).length = 3 := rfl
end Nt
set_option maxHeartbeats 4000000 in
theorem k_psection1 {u w : World} {F : List Nat} {bb lo : Nat} {r : BL} {N : List (List TL)} {s : List Int} {q z : Int} {g : Int} (hg0 : -16777216 ≤ g) (hg1 : g ≤ 16777216) (d : Dat u w) (h9 : BldR 133 (· ∈ F) u bb r N s) (hlo : lo ≤ u.heap.size) (hf1 : 1 ≤ r.f) (hfs : r.f + 0 ≤ s.length) (hs : s.length ≤ 100) (hn : r.n ≤ 100) (hN : N.length ≤ 150) (ht : r.t = Nt.p2i z) (hz : z ≤ 23) : Calls Tryz.prog 100 #[.pointer (some ⟨bb, 0, none⟩), (⟨1, g, 0⟩ : PL).v, .int .i64 q] w (PostF F u w fun v u' => v = .int .i64 ((Nt.secO (⟨1, g, 0⟩ : PL) (r.n + N.length + 1) : Nat) : Int) ∧ ∃ X' : Sl, BldR 133 (fun b => b ∈ F ∨ lo ≤ b) u' bb { r with X := X', f := Nt.secF (⟨1, g, 0⟩ : PL) r.f } (N ++ Nt.secN r.t (⟨1, g, 0⟩ : PL) r.f q (r.n + N.length + 1)) (Nt.secX (⟨1, g, 0⟩ : PL) r.f (r.n + N.length + 1) s)) := by
 obtain ⟨hB0, hM0, hX0, hY0⟩ := BldR.free (u0 := u) (w := w) h9
 have hz0 : u.heap.size ≤ u.heap.size := Nat.le_refl _
 have hl0 := NodesM.len hX0
 refine calls_symF (F := F) (args := [.pointer (some ⟨bb, 0, none⟩), .agg #[.int .i64 1, .int .i64 g, .int .i64 0], .int .i64 q]) Tryz.func100 rfl Tryz.ntmps100 (rs := [.tmp 6]) Tryz.results100 (le_b rfl) (le_b rfl) d ?_
 refine sq9 (zzk 4 ⟨60, [.int .i64 1, .int .i64 g, .int .i64 0]⟩ (zza 6 (zI 0) (zzb (sq9 (zza 15 (.v (.pointer (some ⟨bb, 0, none⟩))) (zza 16 (.v (.pointer (some ⟨bb, 0, none⟩))) (zza 17 (.v (.pointer (some ⟨bb, 13, none⟩))) (zyl 18 (.int .i64 r.f) (zxc (j := 13) hB0 rfl) ty3 (zza 7 (zI r.f) (zzb (zzd ?_)))))))))))
 refine sq9 (zza 19 (.adr 4 0) (zzi 20 (zI 1) ty3 zzl (zza 21 (zB true) (zzb (zyr xk (sq9 (zza 22 (.v (.pointer (some ⟨bb, 0, none⟩))) (zza 23 (.v (.pointer (some ⟨bb, 0, none⟩))) (zza 24 (.v (.pointer (some ⟨bb, 13, none⟩))) (zyl 25 (.int .i64 r.f) (zxc (j := 13) hB0 rfl) ty3 (zyq 26 (x := zI (IntKind.i64.wrap ((r.f : Int) + 1))) (zI (r.f + 1 : Nat)) (eqI xw) ?_)))))))))))
 refine zza 27 (.v (.pointer (some ⟨bb, 0, none⟩))) (zza 28 (.v (.pointer (some ⟨bb, 13, none⟩))) (sy_storeD (b := bb) (off := 13) hB0 hM0 ty3 (show 13 + 1 ≤ 14 by decide) (fun u11 hS11 eB11 => ?_)))
 have hB11 : u11.heap[bb]? = some (.cells (⟨⟨r.D.b, r.D.f, r.D.r, r.D.o⟩, ⟨r.W.b, r.W.f, r.W.r, r.W.o⟩, r.n, r.X, r.Y, r.o, r.t, r.f + 1⟩ : BL).cs.toArray 133 (0, 0)) := hS11
 have hX11 := hX0.extB eB11 hB0 yq yq
 have hY11 := hY0.extB eB11 hB0 yq
 have hz11 := Nat.le_trans hz0 eB11.size
 refine zzb (sq9 (zza 30 (.v (.pointer (some ⟨bb, 0, none⟩))) (zza 31 (.adr 4 1) (zza 32 (.adr 4 1) (zzi 33 (zI g) ty3 zzl (zza 34 (zI q) (zza 35 (zI r.f) ?_)))))))
 have hA12 : BldR 133 (MayB ⟨w, none, F⟩ u) u11 bb (⟨⟨r.D.b, r.D.f, r.D.r, r.D.o⟩, ⟨r.W.b, r.W.f, r.W.r, r.W.o⟩, r.n, r.X, r.Y, r.o, r.t, r.f + 1⟩ : BL) N s := ⟨hB11, hM0, hX11, hY11⟩
 have hl12 := NodesM.len hX11
 refine zwo (blks bb (⟨⟨r.D.b, r.D.f, r.D.r, r.D.o⟩, ⟨r.W.b, r.W.f, r.W.r, r.W.o⟩, r.n, r.X, r.Y, r.o, r.t, r.f + 1⟩ : BL)) 36 163 [.pointer (some ⟨bb, 0, none⟩), .int .i64 g, .int .i64 q, .int .i64 r.f] (BldR.may hA12) (fun w12 u12 e12 d12 => k_padaptor (lo := u11.heap.size) d12 (hA12.own.ext e12) e12.size xq xq xq yw) (fun v12 u12b hF12 hv12 => ?_)
 obtain ⟨rfl, X12, hG12⟩ := hv12
 obtain ⟨hB12, hM12, hX12, hY12⟩ := hG12.back (fun b hb => (BldR.may hA12 b hb).1) hz11
 have hz12 := Nat.le_trans hz11 hF12.size
 have hl12b := NodesM.len hX12
 refine zza 29 (.v (.tuple #[.int .i64 (r.n + N.length + 1 + 1 : Nat), .int .i64 (r.n + N.length + 1 + 2 : Nat)])) (zza 37 (zI (r.n + N.length + 1 + 1 : Nat)) (zza 38 (zI (r.n + N.length + 1 + 2 : Nat)) (zza 8 (zI (r.n + N.length + 1 + 1 : Nat)) (zza 9 (zI (r.n + N.length + 1 + 2 : Nat)) (zzb (sq9 (zza 39 (.v (.pointer (some ⟨bb, 0, none⟩))) (zza 40 (.v (.pointer (some ⟨bb, 0, none⟩))) (zza 41 (.v (.pointer (some ⟨bb, 0, none⟩))) (zza 42 (.v (.pointer (some ⟨bb, 10, none⟩))) (zyl 43 r.Y.v (zxc (j := 10) hB12 rfl) ty22 ?_)))))))))))
 refine zza 44 (zI r.f) (zyq 45 (x := zI (IntKind.i64.wrap ((r.f : Int) - 1))) (zI (r.f - 1 : Nat)) (eqI xw) (zza 46 (zI (r.n + N.length + 1 + 2 : Nat)) ?_))
 obtain ⟨b13, hA13, hc13⟩ := MutL.cell (j := r.f - 1) hY12.toL (by rw [zwm]; first | omega | (simp only [List.length_set]; omega))
 refine zya 47 (0 + (r.f - 1) * 1) (n := r.Y.n) (off := 0) (sz := 1) (i := ((r.f - 1 : Nat) : Int)) xq hA13 xq (by have h9 : (ics s).length = r.Y.n * 1 := hY12.1; rw [zwm] at h9; have h8 : r.f - 1 < s.length := yy; omega) sl22 (sy_storeX (z := ((r.n + N.length + 1 + 2 : Nat) : Int)) (i := r.f - 1) (l := s) r.Y hY12 hA13 ty3 yy (fun u14 hY14 hs14 hk14 => ?_))
 have hB14 := hk14 _ _ _ yq hB12
 have hX14 := hX12.keep hk14 yq yq
 have hz14 := Nat.le_trans hz12 hs14
 refine zzc 97 [(8, zI (r.n + N.length + 1 + 1 : Nat))] [] (sq9 (zza 48 (zI (r.n + N.length + 1 + 1 : Nat)) (zza 6 (zI (r.n + N.length + 1 + 1 : Nat)) (zzb (zzo (zzw (ret0 [.int .i64 (r.n + N.length + 1 + 1 : Nat)] ⟨zzq, trivial⟩ fun u15 e16 => ?_)))))))
 have hB17 := e16.cells hB14
 have hX17 := hX14.ext e16
 have hY17 := hY14.ext e16
 have hz17 := Nat.le_trans hz14 e16.size
 have eN : (N ++ Nt.adN r.t g q (r.f : Int) (r.n + N.length + 1)) = (N ++ Nt.secN r.t (⟨1, g, 0⟩ : PL) r.f q (r.n + N.length + 1)) := by simp [Nt.secN]
 have hXe := hX17
 rw [eN] at hXe
 have eS : (s.set (r.f - 1) ((r.n + N.length + 1 + 2 : Nat) : Int)) = (Nt.secX (⟨1, g, 0⟩ : PL) r.f (r.n + N.length + 1) s) := by simp [Nt.secX]
 have hYe := hY17
 rw [eS] at hYe
 refine ⟨?_, X12, ?_⟩
 ·show Value.int _ _ = Value.int _ _
  first | rfl | (congr 1; simp [Nt.secO, Nt.adN]; omega) | (congr 1; simp [Nt.secO]; omega)
 ·have hG : BldR 133 (MayB ⟨w, none, F⟩ u) u15 bb (⟨⟨r.D.b, r.D.f, r.D.r, r.D.o⟩, ⟨r.W.b, r.W.f, r.W.r, r.W.o⟩, r.n, X12, r.Y, r.o, r.t, r.f + 1⟩ : BL) (N ++ Nt.secN r.t (⟨1, g, 0⟩ : PL) r.f q (r.n + N.length + 1)) (Nt.secX (⟨1, g, 0⟩ : PL) r.f (r.n + N.length + 1) s) := ⟨hB17, hM12, hXe, hYe⟩
  exact hG.mono fun b _ hb => hb.elim (fun h9 => .inr (Nat.le_trans hlo h9)) .inl
set_option maxHeartbeats 4000000 in
theorem k_psection2 {u w : World} {F : List Nat} {bb lo : Nat} {r : BL} {N : List (List TL)} {s : List Int} {q z : Int} {g h : Int} (hg0 : -16777216 ≤ g) (hg1 : g ≤ 16777216) (hh0 : -16777216 ≤ h) (hh1 : h ≤ 16777216) (d : Dat u w) (h9 : BldR 133 (· ∈ F) u bb r N s) (hlo : lo ≤ u.heap.size) (hf1 : 1 ≤ r.f) (hfs : r.f + 1 ≤ s.length) (hs : s.length ≤ 100) (hn : r.n ≤ 100) (hN : N.length ≤ 150) (ht : r.t = Nt.p2i z) (hz : z ≤ 23) : Calls Tryz.prog 100 #[.pointer (some ⟨bb, 0, none⟩), (⟨2, g, h⟩ : PL).v, .int .i64 q] w (PostF F u w fun v u' => v = .int .i64 ((Nt.secO (⟨2, g, h⟩ : PL) (r.n + N.length + 1) : Nat) : Int) ∧ ∃ X' : Sl, BldR 133 (fun b => b ∈ F ∨ lo ≤ b) u' bb { r with X := X', f := Nt.secF (⟨2, g, h⟩ : PL) r.f } (N ++ Nt.secN r.t (⟨2, g, h⟩ : PL) r.f q (r.n + N.length + 1)) (Nt.secX (⟨2, g, h⟩ : PL) r.f (r.n + N.length + 1) s)) := by
 obtain ⟨hB0, hM0, hX0, hY0⟩ := BldR.free (u0 := u) (w := w) h9
 have hz0 : u.heap.size ≤ u.heap.size := Nat.le_refl _
 have hl0 := NodesM.len hX0
 refine calls_symF (F := F) (args := [.pointer (some ⟨bb, 0, none⟩), .agg #[.int .i64 2, .int .i64 g, .int .i64 h], .int .i64 q]) Tryz.func100 rfl Tryz.ntmps100 (rs := [.tmp 6]) Tryz.results100 (le_b rfl) (le_b rfl) d ?_
 refine sq9 (zzk 4 ⟨60, [.int .i64 2, .int .i64 g, .int .i64 h]⟩ (zza 6 (zI 0) (zzb (sq9 (zza 15 (.v (.pointer (some ⟨bb, 0, none⟩))) (zza 16 (.v (.pointer (some ⟨bb, 0, none⟩))) (zza 17 (.v (.pointer (some ⟨bb, 13, none⟩))) (zyl 18 (.int .i64 r.f) (zxc (j := 13) hB0 rfl) ty3 (zza 7 (zI r.f) (zzb (zzd ?_)))))))))))
 refine sq9 (zza 19 (.adr 4 0) (zzi 20 (zI 2) ty3 zzl (zza 21 (zB false) (zzb (zys xk (zzs (zzp ?_)))))))
 refine sq9 (zza 49 (zI r.f) (zyq 50 (x := zI (IntKind.i64.wrap ((r.f : Int) + 1))) (zI (r.f + 1 : Nat)) (eqI xw) (zza 10 (zI (r.f + 1 : Nat)) (zzb (sq9 (zza 51 (.v (.pointer (some ⟨bb, 0, none⟩))) (zza 52 (.v (.pointer (some ⟨bb, 0, none⟩))) (zza 53 (.v (.pointer (some ⟨bb, 13, none⟩))) (zyl 54 (.int .i64 r.f) (zxc (j := 13) hB0 rfl) ty3 (zyq 55 (x := zI (IntKind.i64.wrap ((r.f : Int) + 2))) (zI (r.f + 2 : Nat)) (eqI xw) (zza 56 (.v (.pointer (some ⟨bb, 0, none⟩))) ?_)))))))))))
 refine zza 57 (.v (.pointer (some ⟨bb, 13, none⟩))) (sy_storeD (b := bb) (off := 13) hB0 hM0 ty3 (show 13 + 1 ≤ 14 by decide) (fun u11 hS11 eB11 => ?_))
 have hB11 : u11.heap[bb]? = some (.cells (⟨⟨r.D.b, r.D.f, r.D.r, r.D.o⟩, ⟨r.W.b, r.W.f, r.W.r, r.W.o⟩, r.n, r.X, r.Y, r.o, r.t, r.f + 2⟩ : BL).cs.toArray 133 (0, 0)) := hS11
 have hX11 := hX0.extB eB11 hB0 yq yq
 have hY11 := hY0.extB eB11 hB0 yq
 have hz11 := Nat.le_trans hz0 eB11.size
 refine zzb (sq9 (zza 59 (.v (.pointer (some ⟨bb, 0, none⟩))) (zza 60 (.adr 4 1) (zza 61 (.adr 4 2) (zzi 62 (zI h) ty3 zzl (zza 63 (zI r.f) (zza 64 (zI (r.f + 1 : Nat)) ?_)))))))
 have hA12 : BldR 133 (MayB ⟨w, none, F⟩ u) u11 bb (⟨⟨r.D.b, r.D.f, r.D.r, r.D.o⟩, ⟨r.W.b, r.W.f, r.W.r, r.W.o⟩, r.n, r.X, r.Y, r.o, r.t, r.f + 2⟩ : BL) N s := ⟨hB11, hM0, hX11, hY11⟩
 have hl12 := NodesM.len hX11
 refine zwo (blks bb (⟨⟨r.D.b, r.D.f, r.D.r, r.D.o⟩, ⟨r.W.b, r.W.f, r.W.r, r.W.o⟩, r.n, r.X, r.Y, r.o, r.t, r.f + 2⟩ : BL)) 65 163 [.pointer (some ⟨bb, 0, none⟩), .int .i64 h, .int .i64 r.f, .int .i64 (r.f + 1 : Nat)] (BldR.may hA12) (fun w12 u12 e12 d12 => k_padaptor (lo := u11.heap.size) d12 (hA12.own.ext e12) e12.size xq xq xq yw) (fun v12 u12b hF12 hv12 => ?_)
 obtain ⟨rfl, X12, hG12⟩ := hv12
 obtain ⟨hB12, hM12, hX12, hY12⟩ := hG12.back (fun b hb => (BldR.may hA12 b hb).1) hz11
 have hz12 := Nat.le_trans hz11 hF12.size
 have hl12b := NodesM.len hX12
 refine zza 58 (.v (.tuple #[.int .i64 (r.n + N.length + 1 + 1 : Nat), .int .i64 (r.n + N.length + 1 + 2 : Nat)])) (zza 66 (zI (r.n + N.length + 1 + 1 : Nat)) (zza 67 (zI (r.n + N.length + 1 + 2 : Nat)) (zza 11 (zI (r.n + N.length + 1 + 1 : Nat)) (zza 12 (zI (r.n + N.length + 1 + 2 : Nat)) (zzc 97 [(0, .v (.pointer (some ⟨bb, 0, none⟩))), (2, zI q), (4, .adr 4 0), (7, zI r.f), (10, zI (r.f + 1 : Nat)), (11, zI (r.n + N.length + 1 + 1 : Nat)), (12, zI (r.n + N.length + 1 + 2 : Nat))] [(4, ⟨60, [.int .i64 2, .int .i64 g, .int .i64 h]⟩)] (sq9 (zza 69 (.v (.pointer (some ⟨bb, 0, none⟩))) (zza 70 (.adr 4 1) (zza 71 (.adr 4 1) (zzi 72 (zI g) ty3 zzl (zza 73 (zI q) ?_)))))))))))
 refine zza 74 (zI (r.n + N.length + 1 + 1 : Nat)) ?_
 have hA13 : BldR 133 (MayB ⟨w, none, F⟩ u) u12b bb (⟨⟨r.D.b, r.D.f, r.D.r, r.D.o⟩, ⟨r.W.b, r.W.f, r.W.r, r.W.o⟩, r.n, X12, r.Y, r.o, r.t, r.f + 2⟩ : BL) (N ++ Nt.adN r.t h (r.f : Int) ((r.f + 1 : Nat) : Int) (r.n + N.length + 1)) s := ⟨hB12, hM12, hX12, hY12⟩
 have hl13 := NodesM.len hX12
 refine zwo (blks bb (⟨⟨r.D.b, r.D.f, r.D.r, r.D.o⟩, ⟨r.W.b, r.W.f, r.W.r, r.W.o⟩, r.n, X12, r.Y, r.o, r.t, r.f + 2⟩ : BL)) 75 163 [.pointer (some ⟨bb, 0, none⟩), .int .i64 g, .int .i64 q, .int .i64 (r.n + N.length + 1 + 1 : Nat)] (BldR.may hA13) (fun w13 u13 e13 d13 => k_padaptor (lo := u12b.heap.size) d13 (hA13.own.ext e13) e13.size xq xq xq yw) (fun v13 u13b hF13 hv13 => ?_)
 obtain ⟨rfl, X13, hG13⟩ := hv13
 obtain ⟨hB13, hM13, hX13, hY13⟩ := hG13.back (fun b hb => (BldR.may hA13 b hb).1) hz12
 have hz13 := Nat.le_trans hz12 hF13.size
 have hl13b := NodesM.len hX13
 refine zza 68 (.v (.tuple #[.int .i64 ((r.n + (N ++ Nt.adN r.t h (r.f : Int) ((r.f + 1 : Nat) : Int) (r.n + N.length + 1)).length + 1 + 1 : Nat) : Int), .int .i64 ((r.n + (N ++ Nt.adN r.t h (r.f : Int) ((r.f + 1 : Nat) : Int) (r.n + N.length + 1)).length + 1 + 2 : Nat) : Int)])) (zza 76 (zI ((r.n + (N ++ Nt.adN r.t h (r.f : Int) ((r.f + 1 : Nat) : Int) (r.n + N.length + 1)).length + 1 + 1 : Nat) : Int)) (zza 77 (zI ((r.n + (N ++ Nt.adN r.t h (r.f : Int) ((r.f + 1 : Nat) : Int) (r.n + N.length + 1)).length + 1 + 2 : Nat) : Int)) (zza 13 (zI ((r.n + (N ++ Nt.adN r.t h (r.f : Int) ((r.f + 1 : Nat) : Int) (r.n + N.length + 1)).length + 1 + 1 : Nat) : Int)) (zza 14 (zI ((r.n + (N ++ Nt.adN r.t h (r.f : Int) ((r.f + 1 : Nat) : Int) (r.n + N.length + 1)).length + 1 + 2 : Nat) : Int)) (zzb (sq9 (zza 78 (.v (.pointer (some ⟨bb, 0, none⟩))) (zza 79 (.v (.pointer (some ⟨bb, 0, none⟩))) (zza 80 (.v (.pointer (some ⟨bb, 0, none⟩))) (zza 81 (.v (.pointer (some ⟨bb, 10, none⟩))) (zyl 82 r.Y.v (zxc (j := 10) hB13 rfl) ty22 ?_)))))))))))
 refine zza 83 (zI r.f) (zyq 84 (x := zI (IntKind.i64.wrap ((r.f : Int) - 1))) (zI (r.f - 1 : Nat)) (eqI xw) (zza 85 (zI ((r.n + (N ++ Nt.adN r.t h (r.f : Int) ((r.f + 1 : Nat) : Int) (r.n + N.length + 1)).length + 1 + 2 : Nat) : Int)) ?_))
 obtain ⟨b14, hA14, hc14⟩ := MutL.cell (j := r.f - 1) hY13.toL (by rw [zwm]; first | omega | (simp only [List.length_set]; omega))
 refine zya 86 (0 + (r.f - 1) * 1) (n := r.Y.n) (off := 0) (sz := 1) (i := ((r.f - 1 : Nat) : Int)) xq hA14 xq (by have h9 : (ics s).length = r.Y.n * 1 := hY13.1; rw [zwm] at h9; have h8 : r.f - 1 < s.length := yy; omega) sl22 (sy_storeX (z := ((r.n + (N ++ Nt.adN r.t h (r.f : Int) ((r.f + 1 : Nat) : Int) (r.n + N.length + 1)).length + 1 + 2 : Nat) : Int)) (i := r.f - 1) (l := s) r.Y hY13 hA14 ty3 yy (fun u15 hY15 hs15 hk15 => ?_))
 have hB15 := hk15 _ _ _ yq hB13
 have hX15 := hX13.keep hk15 yq yq
 have hz15 := Nat.le_trans hz13 hs15
 refine zzb (sq9 (zza 87 (.v (.pointer (some ⟨bb, 0, none⟩))) (zza 88 (.v (.pointer (some ⟨bb, 0, none⟩))) (zza 89 (.v (.pointer (some ⟨bb, 0, none⟩))) (zza 90 (.v (.pointer (some ⟨bb, 10, none⟩))) (zyl 91 r.Y.v (zxc (j := 10) hB15 rfl) ty22 (zza 92 (zI (r.f + 1 : Nat)) (zyq 93 (x := zI (IntKind.i64.wrap (((r.f + 1 : Nat) : Int) - 1))) (zI (((r.f + 1) - 1 : Nat) : Int)) (eqI xw) (zza 94 (zI (r.n + N.length + 1 + 2 : Nat)) ?_)))))))))
 obtain ⟨b16, hA16, hc16⟩ := MutL.cell (j := (r.f + 1) - 1) hY15.toL (by rw [zwm]; first | omega | (simp only [List.length_set]; omega))
 refine zya 95 (0 + ((r.f + 1) - 1) * 1) (n := r.Y.n) (off := 0) (sz := 1) (i := (((r.f + 1) - 1 : Nat) : Int)) xq hA16 xq (by have h9 : (ics (s.set (r.f - 1) ((r.n + (N ++ Nt.adN r.t h (r.f : Int) ((r.f + 1 : Nat) : Int) (r.n + N.length + 1)).length + 1 + 2 : Nat) : Int))).length = r.Y.n * 1 := hY15.1; rw [zwm] at h9; have h8 : (r.f + 1) - 1 < (s.set (r.f - 1) ((r.n + (N ++ Nt.adN r.t h (r.f : Int) ((r.f + 1 : Nat) : Int) (r.n + N.length + 1)).length + 1 + 2 : Nat) : Int)).length := yy; omega) sl22 (sy_storeX (z := ((r.n + N.length + 1 + 2 : Nat) : Int)) (i := (r.f + 1) - 1) (l := (s.set (r.f - 1) ((r.n + (N ++ Nt.adN r.t h (r.f : Int) ((r.f + 1 : Nat) : Int) (r.n + N.length + 1)).length + 1 + 2 : Nat) : Int))) r.Y hY15 hA16 ty3 yy (fun u17 hY17 hs17 hk17 => ?_))
 have hB17 := hk17 _ _ _ yq hB15
 have hX17 := hX15.keep hk17 yq yq
 have hz17 := Nat.le_trans hz15 hs17
 refine zzc 97 [(13, zI ((r.n + (N ++ Nt.adN r.t h (r.f : Int) ((r.f + 1 : Nat) : Int) (r.n + N.length + 1)).length + 1 + 1 : Nat) : Int))] [] (sq9 (zza 96 (zI ((r.n + (N ++ Nt.adN r.t h (r.f : Int) ((r.f + 1 : Nat) : Int) (r.n + N.length + 1)).length + 1 + 1 : Nat) : Int)) (zza 6 (zI ((r.n + (N ++ Nt.adN r.t h (r.f : Int) ((r.f + 1 : Nat) : Int) (r.n + N.length + 1)).length + 1 + 1 : Nat) : Int)) (zzb (zzo (ret0 [.int .i64 ((r.n + (N ++ Nt.adN r.t h (r.f : Int) ((r.f + 1 : Nat) : Int) (r.n + N.length + 1)).length + 1 + 1 : Nat) : Int)] ⟨zzq, trivial⟩ fun u18 e19 => ?_))))))
 have hB20 := e19.cells hB17
 have hX20 := hX17.ext e19
 have hY20 := hY17.ext e19
 have hz20 := Nat.le_trans hz17 e19.size
 have eN : ((N ++ Nt.adN r.t h (r.f : Int) ((r.f + 1 : Nat) : Int) (r.n + N.length + 1)) ++ Nt.adN r.t g q ((r.n + N.length + 1 + 1 : Nat) : Int) (r.n + (N ++ Nt.adN r.t h (r.f : Int) ((r.f + 1 : Nat) : Int) (r.n + N.length + 1)).length + 1)) = (N ++ Nt.secN r.t (⟨2, g, h⟩ : PL) r.f q (r.n + N.length + 1)) := by (rw [show r.n + (N ++ Nt.adN r.t h (r.f : Int) ((r.f + 1 : Nat) : Int) (r.n + N.length + 1)).length + 1 = r.n + N.length + 1 + 3 by rw [List.length_append, Nt.adN_len]; omega]; simp [Nt.secN, Nt.adN])
 have hXe := hX20
 rw [eN] at hXe
 have eS : ((s.set (r.f - 1) ((r.n + (N ++ Nt.adN r.t h (r.f : Int) ((r.f + 1 : Nat) : Int) (r.n + N.length + 1)).length + 1 + 2 : Nat) : Int)).set ((r.f + 1) - 1) ((r.n + N.length + 1 + 2 : Nat) : Int)) = (Nt.secX (⟨2, g, h⟩ : PL) r.f (r.n + N.length + 1) s) := by (rw [show r.n + (N ++ Nt.adN r.t h (r.f : Int) ((r.f + 1 : Nat) : Int) (r.n + N.length + 1)).length + 1 = r.n + N.length + 1 + 3 by rw [List.length_append, Nt.adN_len]; omega]; unfold Nt.secX; rw [if_neg (show ¬ ((2 : Int) = 1) by decide)]; rfl)
 have hYe := hY20
 rw [eS] at hYe
 refine ⟨?_, X13, ?_⟩
 ·show Value.int _ _ = Value.int _ _
  first | rfl | (congr 1; simp [Nt.secO, Nt.adN]; omega) | (congr 1; simp [Nt.secO]; omega)
 ·have hG : BldR 133 (MayB ⟨w, none, F⟩ u) u18 bb (⟨⟨r.D.b, r.D.f, r.D.r, r.D.o⟩, ⟨r.W.b, r.W.f, r.W.r, r.W.o⟩, r.n, X13, r.Y, r.o, r.t, r.f + 2⟩ : BL) (N ++ Nt.secN r.t (⟨2, g, h⟩ : PL) r.f q (r.n + N.length + 1)) (Nt.secX (⟨2, g, h⟩ : PL) r.f (r.n + N.length + 1) s) := ⟨hB20, hM13, hXe, hYe⟩
  exact hG.mono fun b _ hb => hb.elim (fun h9 => .inr (Nat.le_trans hlo h9)) .inl
set_option maxHeartbeats 4000000 in
theorem k_rsection1 {u w : World} {F : List Nat} {bb lo : Nat} {r : BL} {N : List (List TL)} {s : List Int} {q z : Int} {g : Int} (hg0 : -16777216 ≤ g) (hg1 : g ≤ 16777216) (d : Dat u w) (h9 : BldR 138 (· ∈ F) u bb r N s) (hlo : lo ≤ u.heap.size) (hf1 : 1 ≤ r.f) (hfs : r.f + 0 ≤ s.length) (hs : s.length ≤ 100) (hn : r.n ≤ 100) (hN : N.length ≤ 150) (ht : r.t = Nt.p2i z) (hz : z ≤ 23) : Calls Tryz.prog 102 #[.pointer (some ⟨bb, 0, none⟩), (⟨1, g, 0⟩ : PL).v, .int .i64 q] w (PostF F u w fun v u' => v = .int .i64 ((Nt.secO (⟨1, g, 0⟩ : PL) (r.n + N.length + 1) : Nat) : Int) ∧ ∃ X' : Sl, BldR 138 (fun b => b ∈ F ∨ lo ≤ b) u' bb { r with X := X', f := Nt.secF (⟨1, g, 0⟩ : PL) r.f } (N ++ Nt.secN r.t (⟨1, g, 0⟩ : PL) r.f q (r.n + N.length + 1)) (Nt.secX (⟨1, g, 0⟩ : PL) r.f (r.n + N.length + 1) s)) := by
 obtain ⟨hB0, hM0, hX0, hY0⟩ := BldR.free (u0 := u) (w := w) h9
 have hz0 : u.heap.size ≤ u.heap.size := Nat.le_refl _
 have hl0 := NodesM.len hX0
 refine calls_symF (F := F) (args := [.pointer (some ⟨bb, 0, none⟩), .agg #[.int .i64 1, .int .i64 g, .int .i64 0], .int .i64 q]) Tryz.func102 rfl Tryz.ntmps102 (rs := [.tmp 6]) Tryz.results102 (le_b rfl) (le_b rfl) d ?_
 refine sq9 (zzk 4 ⟨60, [.int .i64 1, .int .i64 g, .int .i64 0]⟩ (zza 6 (zI 0) (zzb (sq9 (zza 16 (.v (.pointer (some ⟨bb, 0, none⟩))) (zza 17 (.v (.pointer (some ⟨bb, 0, none⟩))) (zza 18 (.v (.pointer (some ⟨bb, 13, none⟩))) (zyl 19 (.int .i64 r.f) (zxc (j := 13) hB0 rfl) ty3 (zza 7 (zI r.f) (zzb (zzd ?_)))))))))))
 refine sq9 (zza 20 (.adr 4 0) (zzi 21 (zI 1) ty3 zzl (zza 22 (zB true) (zzb (zyr xk (sq9 (zza 23 (.v (.pointer (some ⟨bb, 0, none⟩))) (zza 24 (.v (.pointer (some ⟨bb, 0, none⟩))) (zza 25 (.v (.pointer (some ⟨bb, 13, none⟩))) (zyl 26 (.int .i64 r.f) (zxc (j := 13) hB0 rfl) ty3 (zyq 27 (x := zI (IntKind.i64.wrap ((r.f : Int) + 1))) (zI (r.f + 1 : Nat)) (eqI xw) ?_)))))))))))
 refine zza 28 (.v (.pointer (some ⟨bb, 0, none⟩))) (zza 29 (.v (.pointer (some ⟨bb, 13, none⟩))) (sy_storeD (b := bb) (off := 13) hB0 hM0 ty3 (show 13 + 1 ≤ 14 by decide) (fun u11 hS11 eB11 => ?_)))
 have hB11 : u11.heap[bb]? = some (.cells (⟨⟨r.D.b, r.D.f, r.D.r, r.D.o⟩, ⟨r.W.b, r.W.f, r.W.r, r.W.o⟩, r.n, r.X, r.Y, r.o, r.t, r.f + 1⟩ : BL).cs.toArray 138 (0, 0)) := hS11
 have hX11 := hX0.extB eB11 hB0 yq yq
 have hY11 := hY0.extB eB11 hB0 yq
 have hz11 := Nat.le_trans hz0 eB11.size
 refine zzb (sq9 (zza 30 (.v (.pointer (some ⟨bb, 0, none⟩))) (zza 31 (zI q) (zza 32 (.adr 4 1) (zza 33 (.adr 4 1) (zzi 34 (zI g) ty3 zzl (zyq 35 (x := zI (IntKind.i64.wrap (0 - g))) (zI (-g)) (eqI xw) (zza 36 (zI r.f) (zza 37 (.adr 4 1) (zza 38 (.adr 4 1) (zzi 39 (zI g) ty3 zzl ?_)))))))))))
 have hA12 : BldR 138 (MayB ⟨w, none, F⟩ u) u11 bb (⟨⟨r.D.b, r.D.f, r.D.r, r.D.o⟩, ⟨r.W.b, r.W.f, r.W.r, r.W.o⟩, r.n, r.X, r.Y, r.o, r.t, r.f + 1⟩ : BL) N s := ⟨hB11, hM0, hX11, hY11⟩
 have hl12 := NodesM.len hX11
 refine zwo (blks bb (⟨⟨r.D.b, r.D.f, r.D.r, r.D.o⟩, ⟨r.W.b, r.W.f, r.W.r, r.W.o⟩, r.n, r.X, r.Y, r.o, r.t, r.f + 1⟩ : BL)) 40 103 [.pointer (some ⟨bb, 0, none⟩), .int .i64 q, .int .i64 (-g), .int .i64 r.f, .int .i64 g] (BldR.may hA12) (fun w12 u12 e12 d12 => k_rnode (lo := u11.heap.size) d12 (hA12.own.ext e12) e12.size xq yw) (fun v12 u12b hF12 hv12 => ?_)
 obtain ⟨rfl, X12, hG12⟩ := hv12
 obtain ⟨hB12, hM12, hX12, hY12⟩ := hG12.back (fun b hb => (BldR.may hA12 b hb).1) hz11
 have hz12 := Nat.le_trans hz11 hF12.size
 have hl12b := NodesM.len hX12
 refine zza 8 (zI (r.n + N.length + 1 : Nat)) (zzb (zzd (sw_anyC [0, 0, 0, 4, 12, 28, 0, 0, 128, 384, 896, 2047, 4095] [(0, []), (1, []), (2, []), (3, []), (4, []), (5, []), (6, []), (7, []), (8, []), (9, []), (10, [])] [(11, []), (12, [])] xk xk xk ?_)))
 refine zza 41 (.v (.pointer (some ⟨bb, 0, none⟩))) (zza 42 (zI (r.n + N.length + 1 : Nat)) (zza 43 (.v (.pointer (some ⟨bb, 0, none⟩))) (zza 44 (.v (.pointer (some ⟨bb, 0, none⟩))) (zza 45 (.v (.pointer (some ⟨bb, 12, none⟩))) (zyl 46 (.int .i64 r.t) (zxc (j := 12) hB12 rfl) ty3 (zza 47 (zI r.f) (zza 48 (.v (.pointer (some ⟨bb, 0, none⟩))) (zza 49 (.v (.pointer (some ⟨bb, 0, none⟩))) (zza 50 (.v (.pointer (some ⟨bb, 12, none⟩))) (zyl 51 (.int .i64 r.t) (zxc (j := 12) hB12 rfl) ty3 (zzx ?_)))))))))))
 have hA13 : BldR 138 (MayB ⟨w, none, F⟩ u) u12b bb (⟨⟨r.D.b, r.D.f, r.D.r, r.D.o⟩, ⟨r.W.b, r.W.f, r.W.r, r.W.o⟩, r.n, X12, r.Y, r.o, r.t, r.f + 1⟩ : BL) (N ++ [[(⟨q, -g⟩ : TL), (⟨(r.f : Int), g⟩ : TL)]]) s := ⟨hB12, hM12, hX12, hY12⟩
 have hl13 := NodesM.len hX12
 refine zwo (blks bb (⟨⟨r.D.b, r.D.f, r.D.r, r.D.o⟩, ⟨r.W.b, r.W.f, r.W.r, r.W.o⟩, r.n, X12, r.Y, r.o, r.t, r.f + 1⟩ : BL)) 52 103 [.pointer (some ⟨bb, 0, none⟩), .int .i64 (r.n + N.length + 1 : Nat), .int .i64 r.t, .int .i64 r.f, .int .i64 r.t] (BldR.may hA13) (fun w13 u13 e13 d13 => k_rnode (lo := u12b.heap.size) d13 (hA13.own.ext e13) e13.size xq yw) (fun v13 u13b hF13 hv13 => ?_)
 obtain ⟨rfl, X13, hG13⟩ := hv13
 obtain ⟨hB13, hM13, hX13, hY13⟩ := hG13.back (fun b hb => (BldR.may hA13 b hb).1) hz12
 have hz13 := Nat.le_trans hz12 hF13.size
 have hl13b := NodesM.len hX13
 refine zza 9 (zI ((r.n + (N ++ [[(⟨q, -g⟩ : TL), (⟨(r.f : Int), g⟩ : TL)]]).length + 1 : Nat) : Int)) (zzc 171 [(0, .v (.pointer (some ⟨bb, 0, none⟩))), (2, zI q), (7, zI r.f), (8, zI (r.n + N.length + 1 : Nat)), (9, zI ((r.n + (N ++ [[(⟨q, -g⟩ : TL), (⟨(r.f : Int), g⟩ : TL)]]).length + 1 : Nat) : Int))] [] (zzd (sw_anyX xk 21 rfl ?_)))
 refine takeX 0 53 20 (.v (.pointer (some ⟨bb, 0, none⟩))) #[true, false, false, false, false, false, false, false, false, false, false, false, false, false, false, false, false, false, false, false, false] ?_
 refine takeX 1 54 19 (.v (.pointer (some ⟨bb, 0, none⟩))) #[true, true, false, false, false, false, false, false, false, false, false, false, false, false, false, false, false, false, false, false, false] ?_
 refine takeX 2 55 18 (.v (.pointer (some ⟨bb, 0, none⟩))) #[true, true, true, false, false, false, false, false, false, false, false, false, false, false, false, false, false, false, false, false, false] ?_
 refine takeX 3 56 17 (.v (.pointer (some ⟨bb, 10, none⟩))) #[true, true, true, true, false, false, false, false, false, false, false, false, false, false, false, false, false, false, false, false, false] ?_
 refine takeX 5 58 16 (.v (.int .i64 (r.f : Int))) #[true, true, true, true, false, true, false, false, false, false, false, false, false, false, false, false, false, false, false, false, false] ?_
 refine takeXe 6 59 15 (x := .v (.int .i64 (IntKind.i64.wrap ((r.f : Int) - 1)))) (.v (.int .i64 ((r.f - 1 : Nat) : Int))) (eqI xw) #[true, true, true, true, false, true, true, false, false, false, false, false, false, false, false, false, false, false, false, false, false] ?_
 refine restX [0, 1, 3, 7, 15, 0, 32, 0, 0, 0, 512, 1536, 3584, 0, 0, 16384, 49152, 114688, 262016, 524287, 1048575] [(7, []), (8, []), (9, []), (10, []), (11, []), (12, []), (13, []), (14, []), (15, []), (16, []), (17, [])] [(4, [])] (18, []) [(19, []), (20, [])] xk ?_
 refine zza 60 (.v (.pointer (some ⟨bb, 0, none⟩))) (zza 61 (zI (r.n + N.length + 1 : Nat)) (zza 62 (.v (.pointer (some ⟨bb, 0, none⟩))) (zza 63 (.v (.pointer (some ⟨bb, 0, none⟩))) (zza 64 (.v (.pointer (some ⟨bb, 12, none⟩))) (zyl 65 (.int .i64 r.t) (zxc (j := 12) hB13 rfl) ty3 (zza 66 (zI q) (zza 67 (.v (.pointer (some ⟨bb, 0, none⟩))) (zza 68 (.v (.pointer (some ⟨bb, 0, none⟩))) (zza 69 (.v (.pointer (some ⟨bb, 12, none⟩))) (zyl 70 (.int .i64 r.t) (zxc (j := 12) hB13 rfl) ty3 (zzx ?_)))))))))))
 refine exitsK_both ?_ ?_
 ·skip
  have hA14 : BldR 138 (MayB ⟨w, none, F⟩ u) u13b bb (⟨⟨r.D.b, r.D.f, r.D.r, r.D.o⟩, ⟨r.W.b, r.W.f, r.W.r, r.W.o⟩, r.n, X13, r.Y, r.o, r.t, r.f + 1⟩ : BL) ((N ++ [[(⟨q, -g⟩ : TL), (⟨(r.f : Int), g⟩ : TL)]]) ++ [[(⟨((r.n + N.length + 1 : Nat) : Int), r.t⟩ : TL), (⟨(r.f : Int), r.t⟩ : TL)]]) s := ⟨hB13, hM13, hX13, hY13⟩
  have hl14 := NodesM.len hX13
  refine zwo (blks bb (⟨⟨r.D.b, r.D.f, r.D.r, r.D.o⟩, ⟨r.W.b, r.W.f, r.W.r, r.W.o⟩, r.n, X13, r.Y, r.o, r.t, r.f + 1⟩ : BL)) 71 103 [.pointer (some ⟨bb, 0, none⟩), .int .i64 (r.n + N.length + 1 : Nat), .int .i64 r.t, .int .i64 q, .int .i64 r.t] (BldR.may hA14) (fun w14 u14 e14 d14 => k_rnode (lo := u13b.heap.size) d14 (hA14.own.ext e14) e14.size xq yw) (fun v14 u14b hF14 hv14 => ?_)
  obtain ⟨rfl, X14, hG14⟩ := hv14
  obtain ⟨hB14, hM14, hX14, hY14⟩ := hG14.back (fun b hb => (BldR.may hA14 b hb).1) hz13
  have hz14 := Nat.le_trans hz13 hF14.size
  have hl14b := NodesM.len hX14
  refine zyl 57 r.Y.v (zxc (j := 10) hB14 rfl) ty22 ?_
  obtain ⟨b15, hA15, hc15⟩ := MutL.cell (j := r.f - 1) hY14.toL (by rw [zwm]; first | omega | (simp only [List.length_set]; omega))
  refine zya 72 (0 + (r.f - 1) * 1) (n := r.Y.n) (off := 0) (sz := 1) (i := ((r.f - 1 : Nat) : Int)) xq hA15 xq (by have h9 : (ics s).length = r.Y.n * 1 := hY14.1; rw [zwm] at h9; have h8 : r.f - 1 < s.length := yy; omega) sl22 (sy_storeX (z := ((r.n + ((N ++ [[(⟨q, -g⟩ : TL), (⟨(r.f : Int), g⟩ : TL)]]) ++ [[(⟨((r.n + N.length + 1 : Nat) : Int), r.t⟩ : TL), (⟨(r.f : Int), r.t⟩ : TL)]]).length + 1 : Nat) : Int)) (i := r.f - 1) (l := s) r.Y hY14 hA15 ty3 yy (fun u16 hY16 hs16 hk16 => ?_))
  have hB16 := hk16 _ _ _ yq hB14
  have hX16 := hX14.keep hk16 yq yq
  have hz16 := Nat.le_trans hz14 hs16
  refine zzb (sq9 (zza 73 (zI ((r.n + (N ++ [[(⟨q, -g⟩ : TL), (⟨(r.f : Int), g⟩ : TL)]]).length + 1 : Nat) : Int)) (zza 6 (zI ((r.n + (N ++ [[(⟨q, -g⟩ : TL), (⟨(r.f : Int), g⟩ : TL)]]).length + 1 : Nat) : Int)) (zzb (zzo (zzw (ret0 [.int .i64 ((r.n + (N ++ [[(⟨q, -g⟩ : TL), (⟨(r.f : Int), g⟩ : TL)]]).length + 1 : Nat) : Int)] ⟨zzq, trivial⟩ fun u17 e18 => ?_)))))))
  have hB19 := e18.cells hB16
  have hX19 := hX16.ext e18
  have hY19 := hY16.ext e18
  have hz19 := Nat.le_trans hz16 e18.size
  have eN : (((N ++ [[(⟨q, -g⟩ : TL), (⟨(r.f : Int), g⟩ : TL)]]) ++ [[(⟨((r.n + N.length + 1 : Nat) : Int), r.t⟩ : TL), (⟨(r.f : Int), r.t⟩ : TL)]]) ++ [[(⟨((r.n + N.length + 1 : Nat) : Int), r.t⟩ : TL), (⟨q, r.t⟩ : TL)]]) = (N ++ Nt.secN r.t (⟨1, g, 0⟩ : PL) r.f q (r.n + N.length + 1)) := by (first | (simp [Nt.secN, Nt.adN]; done) | (simp [Nt.secN, Nt.adN]; omega))
  have hXe := hX19
  rw [eN] at hXe
  have eS : (s.set (r.f - 1) ((r.n + ((N ++ [[(⟨q, -g⟩ : TL), (⟨(r.f : Int), g⟩ : TL)]]) ++ [[(⟨((r.n + N.length + 1 : Nat) : Int), r.t⟩ : TL), (⟨(r.f : Int), r.t⟩ : TL)]]).length + 1 : Nat) : Int)) = (Nt.secX (⟨1, g, 0⟩ : PL) r.f (r.n + N.length + 1) s) := by (first | (simp [Nt.secX]; congr 1; omega) | (simp [Nt.secX]; congr 1 <;> first | omega | (congr 1; omega)))
  have hYe := hY19
  rw [eS] at hYe
  refine ⟨?_, X14, ?_⟩
  ·show Value.int _ _ = Value.int _ _
   first | rfl | (congr 1; simp [Nt.secO, Nt.adN]; omega) | (congr 1; simp [Nt.secO]; omega)
  ·have hG : BldR 138 (MayB ⟨w, none, F⟩ u) u17 bb (⟨⟨r.D.b, r.D.f, r.D.r, r.D.o⟩, ⟨r.W.b, r.W.f, r.W.r, r.W.o⟩, r.n, X14, r.Y, r.o, r.t, r.f + 1⟩ : BL) (N ++ Nt.secN r.t (⟨1, g, 0⟩ : PL) r.f q (r.n + N.length + 1)) (Nt.secX (⟨1, g, 0⟩ : PL) r.f (r.n + N.length + 1) s) := ⟨hB19, hM14, hXe, hYe⟩
   exact hG.mono fun b _ hb => hb.elim (fun h9 => .inr (Nat.le_trans hlo h9)) .inl
 ·skip
  refine zyl 57 r.Y.v (zxc (j := 10) hB13 rfl) ty22 (zzx ?_)
  refine exitsK_last ?_
  have hA20 : BldR 138 (MayB ⟨w, none, F⟩ u) u13b bb (⟨⟨r.D.b, r.D.f, r.D.r, r.D.o⟩, ⟨r.W.b, r.W.f, r.W.r, r.W.o⟩, r.n, X13, r.Y, r.o, r.t, r.f + 1⟩ : BL) ((N ++ [[(⟨q, -g⟩ : TL), (⟨(r.f : Int), g⟩ : TL)]]) ++ [[(⟨((r.n + N.length + 1 : Nat) : Int), r.t⟩ : TL), (⟨(r.f : Int), r.t⟩ : TL)]]) s := ⟨hB13, hM13, hX13, hY13⟩
  have hl20 := NodesM.len hX13
  refine zwo (blks bb (⟨⟨r.D.b, r.D.f, r.D.r, r.D.o⟩, ⟨r.W.b, r.W.f, r.W.r, r.W.o⟩, r.n, X13, r.Y, r.o, r.t, r.f + 1⟩ : BL)) 71 103 [.pointer (some ⟨bb, 0, none⟩), .int .i64 (r.n + N.length + 1 : Nat), .int .i64 r.t, .int .i64 q, .int .i64 r.t] (BldR.may hA20) (fun w20 u20 e20 d20 => k_rnode (lo := u13b.heap.size) d20 (hA20.own.ext e20) e20.size xq yw) (fun v20 u20b hF20 hv20 => ?_)
  obtain ⟨rfl, X20, hG20⟩ := hv20
  obtain ⟨hB20, hM20, hX20, hY20⟩ := hG20.back (fun b hb => (BldR.may hA20 b hb).1) hz13
  have hz20 := Nat.le_trans hz13 hF20.size
  have hl20b := NodesM.len hX20
  obtain ⟨b21, hA21, hc21⟩ := MutL.cell (j := r.f - 1) hY20.toL (by rw [zwm]; first | omega | (simp only [List.length_set]; omega))
  refine zya 72 (0 + (r.f - 1) * 1) (n := r.Y.n) (off := 0) (sz := 1) (i := ((r.f - 1 : Nat) : Int)) xq hA21 xq (by have h9 : (ics s).length = r.Y.n * 1 := hY20.1; rw [zwm] at h9; have h8 : r.f - 1 < s.length := yy; omega) sl22 (sy_storeX (z := ((r.n + ((N ++ [[(⟨q, -g⟩ : TL), (⟨(r.f : Int), g⟩ : TL)]]) ++ [[(⟨((r.n + N.length + 1 : Nat) : Int), r.t⟩ : TL), (⟨(r.f : Int), r.t⟩ : TL)]]).length + 1 : Nat) : Int)) (i := r.f - 1) (l := s) r.Y hY20 hA21 ty3 yy (fun u22 hY22 hs22 hk22 => ?_))
  have hB22 := hk22 _ _ _ yq hB20
  have hX22 := hX20.keep hk22 yq yq
  have hz22 := Nat.le_trans hz20 hs22
  refine zzb (sq9 (zza 73 (zI ((r.n + (N ++ [[(⟨q, -g⟩ : TL), (⟨(r.f : Int), g⟩ : TL)]]).length + 1 : Nat) : Int)) (zza 6 (zI ((r.n + (N ++ [[(⟨q, -g⟩ : TL), (⟨(r.f : Int), g⟩ : TL)]]).length + 1 : Nat) : Int)) (zzb (zzo (zzw (ret0 [.int .i64 ((r.n + (N ++ [[(⟨q, -g⟩ : TL), (⟨(r.f : Int), g⟩ : TL)]]).length + 1 : Nat) : Int)] ⟨zzq, trivial⟩ fun u23 e24 => ?_)))))))
  have hB25 := e24.cells hB22
  have hX25 := hX22.ext e24
  have hY25 := hY22.ext e24
  have hz25 := Nat.le_trans hz22 e24.size
  have eN : (((N ++ [[(⟨q, -g⟩ : TL), (⟨(r.f : Int), g⟩ : TL)]]) ++ [[(⟨((r.n + N.length + 1 : Nat) : Int), r.t⟩ : TL), (⟨(r.f : Int), r.t⟩ : TL)]]) ++ [[(⟨((r.n + N.length + 1 : Nat) : Int), r.t⟩ : TL), (⟨q, r.t⟩ : TL)]]) = (N ++ Nt.secN r.t (⟨1, g, 0⟩ : PL) r.f q (r.n + N.length + 1)) := by (first | (simp [Nt.secN, Nt.adN]; done) | (simp [Nt.secN, Nt.adN]; omega))
  have hXe := hX25
  rw [eN] at hXe
  have eS : (s.set (r.f - 1) ((r.n + ((N ++ [[(⟨q, -g⟩ : TL), (⟨(r.f : Int), g⟩ : TL)]]) ++ [[(⟨((r.n + N.length + 1 : Nat) : Int), r.t⟩ : TL), (⟨(r.f : Int), r.t⟩ : TL)]]).length + 1 : Nat) : Int)) = (Nt.secX (⟨1, g, 0⟩ : PL) r.f (r.n + N.length + 1) s) := by (first | (simp [Nt.secX]; congr 1; omega) | (simp [Nt.secX]; congr 1 <;> first | omega | (congr 1; omega)))
  have hYe := hY25
  rw [eS] at hYe
  refine ⟨?_, X20, ?_⟩
  ·show Value.int _ _ = Value.int _ _
   first | rfl | (congr 1; simp [Nt.secO, Nt.adN]; omega) | (congr 1; simp [Nt.secO]; omega)
  ·have hG : BldR 138 (MayB ⟨w, none, F⟩ u) u23 bb (⟨⟨r.D.b, r.D.f, r.D.r, r.D.o⟩, ⟨r.W.b, r.W.f, r.W.r, r.W.o⟩, r.n, X20, r.Y, r.o, r.t, r.f + 1⟩ : BL) (N ++ Nt.secN r.t (⟨1, g, 0⟩ : PL) r.f q (r.n + N.length + 1)) (Nt.secX (⟨1, g, 0⟩ : PL) r.f (r.n + N.length + 1) s) := ⟨hB25, hM20, hXe, hYe⟩
   exact hG.mono fun b _ hb => hb.elim (fun h9 => .inr (Nat.le_trans hlo h9)) .inl
set_option maxHeartbeats 4000000 in
theorem k_rsection2 {u w : World} {F : List Nat} {bb lo : Nat} {r : BL} {N : List (List TL)} {s : List Int} {q z : Int} {g h : Int} (hg0 : -16777216 ≤ g) (hg1 : g ≤ 16777216) (hh0 : -16777216 ≤ h) (hh1 : h ≤ 16777216) (d : Dat u w) (h9 : BldR 138 (· ∈ F) u bb r N s) (hlo : lo ≤ u.heap.size) (hf1 : 1 ≤ r.f) (hfs : r.f + 1 ≤ s.length) (hs : s.length ≤ 100) (hn : r.n ≤ 100) (hN : N.length ≤ 150) (ht : r.t = Nt.p2i z) (hz : z ≤ 23) : Calls Tryz.prog 102 #[.pointer (some ⟨bb, 0, none⟩), (⟨2, g, h⟩ : PL).v, .int .i64 q] w (PostF F u w fun v u' => v = .int .i64 ((Nt.secO (⟨2, g, h⟩ : PL) (r.n + N.length + 1) : Nat) : Int) ∧ ∃ X' : Sl, BldR 138 (fun b => b ∈ F ∨ lo ≤ b) u' bb { r with X := X', f := Nt.secF (⟨2, g, h⟩ : PL) r.f } (N ++ Nt.secN r.t (⟨2, g, h⟩ : PL) r.f q (r.n + N.length + 1)) (Nt.secX (⟨2, g, h⟩ : PL) r.f (r.n + N.length + 1) s)) := by
 obtain ⟨hB0, hM0, hX0, hY0⟩ := BldR.free (u0 := u) (w := w) h9
 have hz0 : u.heap.size ≤ u.heap.size := Nat.le_refl _
 have hl0 := NodesM.len hX0
 refine calls_symF (F := F) (args := [.pointer (some ⟨bb, 0, none⟩), .agg #[.int .i64 2, .int .i64 g, .int .i64 h], .int .i64 q]) Tryz.func102 rfl Tryz.ntmps102 (rs := [.tmp 6]) Tryz.results102 (le_b rfl) (le_b rfl) d ?_
 refine sq9 (zzk 4 ⟨60, [.int .i64 2, .int .i64 g, .int .i64 h]⟩ (zza 6 (zI 0) (zzb (sq9 (zza 16 (.v (.pointer (some ⟨bb, 0, none⟩))) (zza 17 (.v (.pointer (some ⟨bb, 0, none⟩))) (zza 18 (.v (.pointer (some ⟨bb, 13, none⟩))) (zyl 19 (.int .i64 r.f) (zxc (j := 13) hB0 rfl) ty3 (zza 7 (zI r.f) (zzb (zzd ?_)))))))))))
 refine sq9 (zza 20 (.adr 4 0) (zzi 21 (zI 2) ty3 zzl (zza 22 (zB false) (zzb (zys xk (zzs (zzp ?_)))))))
 refine sq9 (zza 74 (.v (.pointer (some ⟨bb, 0, none⟩))) (zza 75 (.v (.pointer (some ⟨bb, 0, none⟩))) (zza 76 (.v (.pointer (some ⟨bb, 13, none⟩))) (zyl 77 (.int .i64 r.f) (zxc (j := 13) hB0 rfl) ty3 (zyq 78 (x := zI (IntKind.i64.wrap ((r.f : Int) + 2))) (zI (r.f + 2 : Nat)) (eqI xw) (zza 79 (.v (.pointer (some ⟨bb, 0, none⟩))) (zza 80 (.v (.pointer (some ⟨bb, 13, none⟩))) (sy_storeD (b := bb) (off := 13) hB0 hM0 ty3 (show 13 + 1 ≤ 14 by decide) (fun u11 hS11 eB11 => ?_)))))))))
 have hB11 : u11.heap[bb]? = some (.cells (⟨⟨r.D.b, r.D.f, r.D.r, r.D.o⟩, ⟨r.W.b, r.W.f, r.W.r, r.W.o⟩, r.n, r.X, r.Y, r.o, r.t, r.f + 2⟩ : BL).cs.toArray 138 (0, 0)) := hS11
 have hX11 := hX0.extB eB11 hB0 yq yq
 have hY11 := hY0.extB eB11 hB0 yq
 have hz11 := Nat.le_trans hz0 eB11.size
 refine zzb (sq9 (zza 81 (.v (.pointer (some ⟨bb, 0, none⟩))) (zza 82 (zI r.f) (zza 83 (.adr 4 1) (zza 84 (.adr 4 2) (zzi 85 (zI h) ty3 zzl (zyq 86 (x := zI (IntKind.i64.wrap (0 - h))) (zI (-h)) (eqI xw) (zza 87 (zI r.f) (zyq 88 (x := zI (IntKind.i64.wrap ((r.f : Int) + 1))) (zI (r.f + 1 : Nat)) (eqI xw) (zza 89 (.adr 4 1) (zza 90 (.adr 4 2) ?_)))))))))))
 refine zzi 91 (zI h) ty3 zzl ?_
 have hA12 : BldR 138 (MayB ⟨w, none, F⟩ u) u11 bb (⟨⟨r.D.b, r.D.f, r.D.r, r.D.o⟩, ⟨r.W.b, r.W.f, r.W.r, r.W.o⟩, r.n, r.X, r.Y, r.o, r.t, r.f + 2⟩ : BL) N s := ⟨hB11, hM0, hX11, hY11⟩
 have hl12 := NodesM.len hX11
 refine zwo (blks bb (⟨⟨r.D.b, r.D.f, r.D.r, r.D.o⟩, ⟨r.W.b, r.W.f, r.W.r, r.W.o⟩, r.n, r.X, r.Y, r.o, r.t, r.f + 2⟩ : BL)) 92 103 [.pointer (some ⟨bb, 0, none⟩), .int .i64 r.f, .int .i64 (-h), .int .i64 (r.f + 1 : Nat), .int .i64 h] (BldR.may hA12) (fun w12 u12 e12 d12 => k_rnode (lo := u11.heap.size) d12 (hA12.own.ext e12) e12.size xq yw) (fun v12 u12b hF12 hv12 => ?_)
 obtain ⟨rfl, X12, hG12⟩ := hv12
 obtain ⟨hB12, hM12, hX12, hY12⟩ := hG12.back (fun b hb => (BldR.may hA12 b hb).1) hz11
 have hz12 := Nat.le_trans hz11 hF12.size
 have hl12b := NodesM.len hX12
 refine zza 10 (zI (r.n + N.length + 1 : Nat)) (zzc 171 [(0, .v (.pointer (some ⟨bb, 0, none⟩))), (2, zI q), (4, .adr 4 0), (7, zI r.f), (10, zI (r.n + N.length + 1 : Nat))] [(4, ⟨60, [.int .i64 2, .int .i64 g, .int .i64 h]⟩)] (zzd (sw_anyC [0, 0, 0, 4, 12, 28, 0, 64, 0, 256, 768, 1792, 4095, 8191] [(0, []), (1, []), (2, []), (3, []), (4, []), (5, []), (6, []), (7, []), (8, []), (9, []), (10, []), (11, [])] [(12, []), (13, [])] xk xk xk ?_)))
 refine zza 93 (.v (.pointer (some ⟨bb, 0, none⟩))) (zza 94 (zI (r.n + N.length + 1 : Nat)) (zza 95 (.v (.pointer (some ⟨bb, 0, none⟩))) (zza 96 (.v (.pointer (some ⟨bb, 0, none⟩))) (zza 97 (.v (.pointer (some ⟨bb, 12, none⟩))) (zyl 98 (.int .i64 r.t) (zxc (j := 12) hB12 rfl) ty3 (zza 99 (zI r.f) (zyq 100 (x := zI (IntKind.i64.wrap ((r.f : Int) + 1))) (zI (r.f + 1 : Nat)) (eqI xw) (zza 101 (.v (.pointer (some ⟨bb, 0, none⟩))) (zza 102 (.v (.pointer (some ⟨bb, 0, none⟩))) (zza 103 (.v (.pointer (some ⟨bb, 12, none⟩))) (zyl 104 (.int .i64 r.t) (zxc (j := 12) hB12 rfl) ty3 ?_)))))))))))
 refine zzx ?_
 have hA13 : BldR 138 (MayB ⟨w, none, F⟩ u) u12b bb (⟨⟨r.D.b, r.D.f, r.D.r, r.D.o⟩, ⟨r.W.b, r.W.f, r.W.r, r.W.o⟩, r.n, X12, r.Y, r.o, r.t, r.f + 2⟩ : BL) (N ++ [[(⟨(r.f : Int), -h⟩ : TL), (⟨((r.f + 1 : Nat) : Int), h⟩ : TL)]]) s := ⟨hB12, hM12, hX12, hY12⟩
 have hl13 := NodesM.len hX12
 refine zwo (blks bb (⟨⟨r.D.b, r.D.f, r.D.r, r.D.o⟩, ⟨r.W.b, r.W.f, r.W.r, r.W.o⟩, r.n, X12, r.Y, r.o, r.t, r.f + 2⟩ : BL)) 105 103 [.pointer (some ⟨bb, 0, none⟩), .int .i64 (r.n + N.length + 1 : Nat), .int .i64 r.t, .int .i64 (r.f + 1 : Nat), .int .i64 r.t] (BldR.may hA13) (fun w13 u13 e13 d13 => k_rnode (lo := u12b.heap.size) d13 (hA13.own.ext e13) e13.size xq yw) (fun v13 u13b hF13 hv13 => ?_)
 obtain ⟨rfl, X13, hG13⟩ := hv13
 obtain ⟨hB13, hM13, hX13, hY13⟩ := hG13.back (fun b hb => (BldR.may hA13 b hb).1) hz12
 have hz13 := Nat.le_trans hz12 hF13.size
 have hl13b := NodesM.len hX13
 refine zza 11 (zI ((r.n + (N ++ [[(⟨(r.f : Int), -h⟩ : TL), (⟨((r.f + 1 : Nat) : Int), h⟩ : TL)]]).length + 1 : Nat) : Int)) (zzb (zzd (sw_anyC [0, 0, 0, 4, 12, 28, 0, 0, 128, 384, 896, 2047, 4095] [(0, []), (1, []), (2, []), (3, []), (4, []), (5, []), (6, []), (7, []), (8, []), (9, []), (10, [])] [(11, []), (12, [])] xk xk xk ?_)))
 refine zza 106 (.v (.pointer (some ⟨bb, 0, none⟩))) (zza 107 (zI (r.n + N.length + 1 : Nat)) (zza 108 (.v (.pointer (some ⟨bb, 0, none⟩))) (zza 109 (.v (.pointer (some ⟨bb, 0, none⟩))) (zza 110 (.v (.pointer (some ⟨bb, 12, none⟩))) (zyl 111 (.int .i64 r.t) (zxc (j := 12) hB13 rfl) ty3 (zza 112 (zI r.f) (zza 113 (.v (.pointer (some ⟨bb, 0, none⟩))) (zza 114 (.v (.pointer (some ⟨bb, 0, none⟩))) (zza 115 (.v (.pointer (some ⟨bb, 12, none⟩))) (zyl 116 (.int .i64 r.t) (zxc (j := 12) hB13 rfl) ty3 (zzx ?_)))))))))))
 have hA14 : BldR 138 (MayB ⟨w, none, F⟩ u) u13b bb (⟨⟨r.D.b, r.D.f, r.D.r, r.D.o⟩, ⟨r.W.b, r.W.f, r.W.r, r.W.o⟩, r.n, X13, r.Y, r.o, r.t, r.f + 2⟩ : BL) ((N ++ [[(⟨(r.f : Int), -h⟩ : TL), (⟨((r.f + 1 : Nat) : Int), h⟩ : TL)]]) ++ [[(⟨((r.n + N.length + 1 : Nat) : Int), r.t⟩ : TL), (⟨((r.f + 1 : Nat) : Int), r.t⟩ : TL)]]) s := ⟨hB13, hM13, hX13, hY13⟩
 have hl14 := NodesM.len hX13
 refine zwo (blks bb (⟨⟨r.D.b, r.D.f, r.D.r, r.D.o⟩, ⟨r.W.b, r.W.f, r.W.r, r.W.o⟩, r.n, X13, r.Y, r.o, r.t, r.f + 2⟩ : BL)) 117 103 [.pointer (some ⟨bb, 0, none⟩), .int .i64 (r.n + N.length + 1 : Nat), .int .i64 r.t, .int .i64 r.f, .int .i64 r.t] (BldR.may hA14) (fun w14 u14 e14 d14 => k_rnode (lo := u13b.heap.size) d14 (hA14.own.ext e14) e14.size xq yw) (fun v14 u14b hF14 hv14 => ?_)
 obtain ⟨rfl, X14, hG14⟩ := hv14
 obtain ⟨hB14, hM14, hX14, hY14⟩ := hG14.back (fun b hb => (BldR.may hA14 b hb).1) hz13
 have hz14 := Nat.le_trans hz13 hF14.size
 have hl14b := NodesM.len hX14
 refine zza 12 (zI ((r.n + ((N ++ [[(⟨(r.f : Int), -h⟩ : TL), (⟨((r.f + 1 : Nat) : Int), h⟩ : TL)]]) ++ [[(⟨((r.n + N.length + 1 : Nat) : Int), r.t⟩ : TL), (⟨((r.f + 1 : Nat) : Int), r.t⟩ : TL)]]).length + 1 : Nat) : Int)) (zzb (sq9 (zza 118 (.v (.pointer (some ⟨bb, 0, none⟩))) (zza 119 (zI q) (zza 120 (.adr 4 1) (zza 121 (.adr 4 1) (zzi 122 (zI g) ty3 zzl (zyq 123 (x := zI (IntKind.i64.wrap (0 - g))) (zI (-g)) (eqI xw) (zza 124 (zI ((r.n + (N ++ [[(⟨(r.f : Int), -h⟩ : TL), (⟨((r.f + 1 : Nat) : Int), h⟩ : TL)]]).length + 1 : Nat) : Int)) (zza 125 (.adr 4 1) (zza 126 (.adr 4 1) ?_)))))))))))
 refine zzi 127 (zI g) ty3 zzl ?_
 have hA15 : BldR 138 (MayB ⟨w, none, F⟩ u) u14b bb (⟨⟨r.D.b, r.D.f, r.D.r, r.D.o⟩, ⟨r.W.b, r.W.f, r.W.r, r.W.o⟩, r.n, X14, r.Y, r.o, r.t, r.f + 2⟩ : BL) (((N ++ [[(⟨(r.f : Int), -h⟩ : TL), (⟨((r.f + 1 : Nat) : Int), h⟩ : TL)]]) ++ [[(⟨((r.n + N.length + 1 : Nat) : Int), r.t⟩ : TL), (⟨((r.f + 1 : Nat) : Int), r.t⟩ : TL)]]) ++ [[(⟨((r.n + N.length + 1 : Nat) : Int), r.t⟩ : TL), (⟨(r.f : Int), r.t⟩ : TL)]]) s := ⟨hB14, hM14, hX14, hY14⟩
 have hl15 := NodesM.len hX14
 refine zwo (blks bb (⟨⟨r.D.b, r.D.f, r.D.r, r.D.o⟩, ⟨r.W.b, r.W.f, r.W.r, r.W.o⟩, r.n, X14, r.Y, r.o, r.t, r.f + 2⟩ : BL)) 128 103 [.pointer (some ⟨bb, 0, none⟩), .int .i64 q, .int .i64 (-g), .int .i64 ((r.n + (N ++ [[(⟨(r.f : Int), -h⟩ : TL), (⟨((r.f + 1 : Nat) : Int), h⟩ : TL)]]).length + 1 : Nat) : Int), .int .i64 g] (BldR.may hA15) (fun w15 u15 e15 d15 => k_rnode (lo := u14b.heap.size) d15 (hA15.own.ext e15) e15.size xq yw) (fun v15 u15b hF15 hv15 => ?_)
 obtain ⟨rfl, X15, hG15⟩ := hv15
 obtain ⟨hB15, hM15, hX15, hY15⟩ := hG15.back (fun b hb => (BldR.may hA15 b hb).1) hz14
 have hz15 := Nat.le_trans hz14 hF15.size
 have hl15b := NodesM.len hX15
 refine zza 13 (zI ((r.n + (((N ++ [[(⟨(r.f : Int), -h⟩ : TL), (⟨((r.f + 1 : Nat) : Int), h⟩ : TL)]]) ++ [[(⟨((r.n + N.length + 1 : Nat) : Int), r.t⟩ : TL), (⟨((r.f + 1 : Nat) : Int), r.t⟩ : TL)]]) ++ [[(⟨((r.n + N.length + 1 : Nat) : Int), r.t⟩ : TL), (⟨(r.f : Int), r.t⟩ : TL)]]).length + 1 : Nat) : Int)) (zzc 171 [(0, .v (.pointer (some ⟨bb, 0, none⟩))), (2, zI q), (7, zI r.f), (11, zI ((r.n + (N ++ [[(⟨(r.f : Int), -h⟩ : TL), (⟨((r.f + 1 : Nat) : Int), h⟩ : TL)]]).length + 1 : Nat) : Int)), (12, zI ((r.n + ((N ++ [[(⟨(r.f : Int), -h⟩ : TL), (⟨((r.f + 1 : Nat) : Int), h⟩ : TL)]]) ++ [[(⟨((r.n + N.length + 1 : Nat) : Int), r.t⟩ : TL), (⟨((r.f + 1 : Nat) : Int), r.t⟩ : TL)]]).length + 1 : Nat) : Int)), (13, zI ((r.n + (((N ++ [[(⟨(r.f : Int), -h⟩ : TL), (⟨((r.f + 1 : Nat) : Int), h⟩ : TL)]]) ++ [[(⟨((r.n + N.length + 1 : Nat) : Int), r.t⟩ : TL), (⟨((r.f + 1 : Nat) : Int), r.t⟩ : TL)]]) ++ [[(⟨((r.n + N.length + 1 : Nat) : Int), r.t⟩ : TL), (⟨(r.f : Int), r.t⟩ : TL)]]).length + 1 : Nat) : Int))] [] (zzd (sw_anyC [0, 0, 0, 4, 12, 28, 0, 0, 128, 384, 896, 2047, 4095] [(0, []), (1, []), (2, []), (3, []), (4, []), (5, []), (6, []), (7, []), (8, []), (9, []), (10, [])] [(11, []), (12, [])] xk xk xk ?_)))
 refine zza 129 (.v (.pointer (some ⟨bb, 0, none⟩))) (zza 130 (zI ((r.n + (((N ++ [[(⟨(r.f : Int), -h⟩ : TL), (⟨((r.f + 1 : Nat) : Int), h⟩ : TL)]]) ++ [[(⟨((r.n + N.length + 1 : Nat) : Int), r.t⟩ : TL), (⟨((r.f + 1 : Nat) : Int), r.t⟩ : TL)]]) ++ [[(⟨((r.n + N.length + 1 : Nat) : Int), r.t⟩ : TL), (⟨(r.f : Int), r.t⟩ : TL)]]).length + 1 : Nat) : Int)) (zza 131 (.v (.pointer (some ⟨bb, 0, none⟩))) (zza 132 (.v (.pointer (some ⟨bb, 0, none⟩))) (zza 133 (.v (.pointer (some ⟨bb, 12, none⟩))) (zyl 134 (.int .i64 r.t) (zxc (j := 12) hB15 rfl) ty3 (zza 135 (zI ((r.n + (N ++ [[(⟨(r.f : Int), -h⟩ : TL), (⟨((r.f + 1 : Nat) : Int), h⟩ : TL)]]).length + 1 : Nat) : Int)) (zza 136 (.v (.pointer (some ⟨bb, 0, none⟩))) (zza 137 (.v (.pointer (some ⟨bb, 0, none⟩))) (zza 138 (.v (.pointer (some ⟨bb, 12, none⟩))) (zyl 139 (.int .i64 r.t) (zxc (j := 12) hB15 rfl) ty3 (zzx ?_)))))))))))
 have hA16 : BldR 138 (MayB ⟨w, none, F⟩ u) u15b bb (⟨⟨r.D.b, r.D.f, r.D.r, r.D.o⟩, ⟨r.W.b, r.W.f, r.W.r, r.W.o⟩, r.n, X15, r.Y, r.o, r.t, r.f + 2⟩ : BL) ((((N ++ [[(⟨(r.f : Int), -h⟩ : TL), (⟨((r.f + 1 : Nat) : Int), h⟩ : TL)]]) ++ [[(⟨((r.n + N.length + 1 : Nat) : Int), r.t⟩ : TL), (⟨((r.f + 1 : Nat) : Int), r.t⟩ : TL)]]) ++ [[(⟨((r.n + N.length + 1 : Nat) : Int), r.t⟩ : TL), (⟨(r.f : Int), r.t⟩ : TL)]]) ++ [[(⟨q, -g⟩ : TL), (⟨((r.n + (N ++ [[(⟨(r.f : Int), -h⟩ : TL), (⟨((r.f + 1 : Nat) : Int), h⟩ : TL)]]).length + 1 : Nat) : Int), g⟩ : TL)]]) s := ⟨hB15, hM15, hX15, hY15⟩
 have hl16 := NodesM.len hX15
 refine zwo (blks bb (⟨⟨r.D.b, r.D.f, r.D.r, r.D.o⟩, ⟨r.W.b, r.W.f, r.W.r, r.W.o⟩, r.n, X15, r.Y, r.o, r.t, r.f + 2⟩ : BL)) 140 103 [.pointer (some ⟨bb, 0, none⟩), .int .i64 ((r.n + (((N ++ [[(⟨(r.f : Int), -h⟩ : TL), (⟨((r.f + 1 : Nat) : Int), h⟩ : TL)]]) ++ [[(⟨((r.n + N.length + 1 : Nat) : Int), r.t⟩ : TL), (⟨((r.f + 1 : Nat) : Int), r.t⟩ : TL)]]) ++ [[(⟨((r.n + N.length + 1 : Nat) : Int), r.t⟩ : TL), (⟨(r.f : Int), r.t⟩ : TL)]]).length + 1 : Nat) : Int), .int .i64 r.t, .int .i64 ((r.n + (N ++ [[(⟨(r.f : Int), -h⟩ : TL), (⟨((r.f + 1 : Nat) : Int), h⟩ : TL)]]).length + 1 : Nat) : Int), .int .i64 r.t] (BldR.may hA16) (fun w16 u16 e16 d16 => k_rnode (lo := u15b.heap.size) d16 (hA16.own.ext e16) e16.size xq yw) (fun v16 u16b hF16 hv16 => ?_)
 obtain ⟨rfl, X16, hG16⟩ := hv16
 obtain ⟨hB16, hM16, hX16, hY16⟩ := hG16.back (fun b hb => (BldR.may hA16 b hb).1) hz15
 have hz16 := Nat.le_trans hz15 hF16.size
 have hl16b := NodesM.len hX16
 refine zza 14 (zI ((r.n + ((((N ++ [[(⟨(r.f : Int), -h⟩ : TL), (⟨((r.f + 1 : Nat) : Int), h⟩ : TL)]]) ++ [[(⟨((r.n + N.length + 1 : Nat) : Int), r.t⟩ : TL), (⟨((r.f + 1 : Nat) : Int), r.t⟩ : TL)]]) ++ [[(⟨((r.n + N.length + 1 : Nat) : Int), r.t⟩ : TL), (⟨(r.f : Int), r.t⟩ : TL)]]) ++ [[(⟨q, -g⟩ : TL), (⟨((r.n + (N ++ [[(⟨(r.f : Int), -h⟩ : TL), (⟨((r.f + 1 : Nat) : Int), h⟩ : TL)]]).length + 1 : Nat) : Int), g⟩ : TL)]]).length + 1 : Nat) : Int)) (zzb (zzd (sw_anyC [0, 0, 0, 4, 12, 28, 0, 0, 128, 384, 896, 2047, 4095] [(0, []), (1, []), (2, []), (3, []), (4, []), (5, []), (6, []), (7, []), (8, []), (9, []), (10, [])] [(11, []), (12, [])] xk xk xk ?_)))
 refine zza 141 (.v (.pointer (some ⟨bb, 0, none⟩))) (zza 142 (zI ((r.n + (((N ++ [[(⟨(r.f : Int), -h⟩ : TL), (⟨((r.f + 1 : Nat) : Int), h⟩ : TL)]]) ++ [[(⟨((r.n + N.length + 1 : Nat) : Int), r.t⟩ : TL), (⟨((r.f + 1 : Nat) : Int), r.t⟩ : TL)]]) ++ [[(⟨((r.n + N.length + 1 : Nat) : Int), r.t⟩ : TL), (⟨(r.f : Int), r.t⟩ : TL)]]).length + 1 : Nat) : Int)) (zza 143 (.v (.pointer (some ⟨bb, 0, none⟩))) (zza 144 (.v (.pointer (some ⟨bb, 0, none⟩))) (zza 145 (.v (.pointer (some ⟨bb, 12, none⟩))) (zyl 146 (.int .i64 r.t) (zxc (j := 12) hB16 rfl) ty3 (zza 147 (zI q) (zza 148 (.v (.pointer (some ⟨bb, 0, none⟩))) (zza 149 (.v (.pointer (some ⟨bb, 0, none⟩))) (zza 150 (.v (.pointer (some ⟨bb, 12, none⟩))) (zyl 151 (.int .i64 r.t) (zxc (j := 12) hB16 rfl) ty3 (zzx ?_)))))))))))
 have hA17 : BldR 138 (MayB ⟨w, none, F⟩ u) u16b bb (⟨⟨r.D.b, r.D.f, r.D.r, r.D.o⟩, ⟨r.W.b, r.W.f, r.W.r, r.W.o⟩, r.n, X16, r.Y, r.o, r.t, r.f + 2⟩ : BL) (((((N ++ [[(⟨(r.f : Int), -h⟩ : TL), (⟨((r.f + 1 : Nat) : Int), h⟩ : TL)]]) ++ [[(⟨((r.n + N.length + 1 : Nat) : Int), r.t⟩ : TL), (⟨((r.f + 1 : Nat) : Int), r.t⟩ : TL)]]) ++ [[(⟨((r.n + N.length + 1 : Nat) : Int), r.t⟩ : TL), (⟨(r.f : Int), r.t⟩ : TL)]]) ++ [[(⟨q, -g⟩ : TL), (⟨((r.n + (N ++ [[(⟨(r.f : Int), -h⟩ : TL), (⟨((r.f + 1 : Nat) : Int), h⟩ : TL)]]).length + 1 : Nat) : Int), g⟩ : TL)]]) ++ [[(⟨((r.n + (((N ++ [[(⟨(r.f : Int), -h⟩ : TL), (⟨((r.f + 1 : Nat) : Int), h⟩ : TL)]]) ++ [[(⟨((r.n + N.length + 1 : Nat) : Int), r.t⟩ : TL), (⟨((r.f + 1 : Nat) : Int), r.t⟩ : TL)]]) ++ [[(⟨((r.n + N.length + 1 : Nat) : Int), r.t⟩ : TL), (⟨(r.f : Int), r.t⟩ : TL)]]).length + 1 : Nat) : Int), r.t⟩ : TL), (⟨((r.n + (N ++ [[(⟨(r.f : Int), -h⟩ : TL), (⟨((r.f + 1 : Nat) : Int), h⟩ : TL)]]).length + 1 : Nat) : Int), r.t⟩ : TL)]]) s := ⟨hB16, hM16, hX16, hY16⟩
 have hl17 := NodesM.len hX16
 refine zwo (blks bb (⟨⟨r.D.b, r.D.f, r.D.r, r.D.o⟩, ⟨r.W.b, r.W.f, r.W.r, r.W.o⟩, r.n, X16, r.Y, r.o, r.t, r.f + 2⟩ : BL)) 152 103 [.pointer (some ⟨bb, 0, none⟩), .int .i64 ((r.n + (((N ++ [[(⟨(r.f : Int), -h⟩ : TL), (⟨((r.f + 1 : Nat) : Int), h⟩ : TL)]]) ++ [[(⟨((r.n + N.length + 1 : Nat) : Int), r.t⟩ : TL), (⟨((r.f + 1 : Nat) : Int), r.t⟩ : TL)]]) ++ [[(⟨((r.n + N.length + 1 : Nat) : Int), r.t⟩ : TL), (⟨(r.f : Int), r.t⟩ : TL)]]).length + 1 : Nat) : Int), .int .i64 r.t, .int .i64 q, .int .i64 r.t] (BldR.may hA17) (fun w17 u17 e17 d17 => k_rnode (lo := u16b.heap.size) d17 (hA17.own.ext e17) e17.size xq yw) (fun v17 u17b hF17 hv17 => ?_)
 obtain ⟨rfl, X17, hG17⟩ := hv17
 obtain ⟨hB17, hM17, hX17, hY17⟩ := hG17.back (fun b hb => (BldR.may hA17 b hb).1) hz16
 have hz17 := Nat.le_trans hz16 hF17.size
 have hl17b := NodesM.len hX17
 refine zza 15 (zI ((r.n + (((((N ++ [[(⟨(r.f : Int), -h⟩ : TL), (⟨((r.f + 1 : Nat) : Int), h⟩ : TL)]]) ++ [[(⟨((r.n + N.length + 1 : Nat) : Int), r.t⟩ : TL), (⟨((r.f + 1 : Nat) : Int), r.t⟩ : TL)]]) ++ [[(⟨((r.n + N.length + 1 : Nat) : Int), r.t⟩ : TL), (⟨(r.f : Int), r.t⟩ : TL)]]) ++ [[(⟨q, -g⟩ : TL), (⟨((r.n + (N ++ [[(⟨(r.f : Int), -h⟩ : TL), (⟨((r.f + 1 : Nat) : Int), h⟩ : TL)]]).length + 1 : Nat) : Int), g⟩ : TL)]]) ++ [[(⟨((r.n + (((N ++ [[(⟨(r.f : Int), -h⟩ : TL), (⟨((r.f + 1 : Nat) : Int), h⟩ : TL)]]) ++ [[(⟨((r.n + N.length + 1 : Nat) : Int), r.t⟩ : TL), (⟨((r.f + 1 : Nat) : Int), r.t⟩ : TL)]]) ++ [[(⟨((r.n + N.length + 1 : Nat) : Int), r.t⟩ : TL), (⟨(r.f : Int), r.t⟩ : TL)]]).length + 1 : Nat) : Int), r.t⟩ : TL), (⟨((r.n + (N ++ [[(⟨(r.f : Int), -h⟩ : TL), (⟨((r.f + 1 : Nat) : Int), h⟩ : TL)]]).length + 1 : Nat) : Int), r.t⟩ : TL)]]).length + 1 : Nat) : Int)) (zzb (zzd (sw_anyX xk 19 rfl ?_)))
 refine takeX 0 153 18 (.v (.pointer (some ⟨bb, 0, none⟩))) #[true, false, false, false, false, false, false, false, false, false, false, false, false, false, false, false, false, false, false] ?_
 refine takeX 1 154 17 (.v (.pointer (some ⟨bb, 0, none⟩))) #[true, true, false, false, false, false, false, false, false, false, false, false, false, false, false, false, false, false, false] ?_
 refine takeX 2 155 16 (.v (.pointer (some ⟨bb, 0, none⟩))) #[true, true, true, false, false, false, false, false, false, false, false, false, false, false, false, false, false, false, false] ?_
 refine takeX 3 156 15 (.v (.pointer (some ⟨bb, 10, none⟩))) #[true, true, true, true, false, false, false, false, false, false, false, false, false, false, false, false, false, false, false] ?_
 refine takeX 5 158 14 (.v (.int .i64 (r.f : Int))) #[true, true, true, true, false, true, false, false, false, false, false, false, false, false, false, false, false, false, false] ?_
 refine takeXe 6 159 13 (x := .v (.int .i64 (IntKind.i64.wrap ((r.f : Int) - 1)))) (.v (.int .i64 ((r.f - 1 : Nat) : Int))) (eqI xw) #[true, true, true, true, false, true, true, false, false, false, false, false, false, false, false, false, false, false, false] ?_
 refine takeX 7 160 12 (.v (.pointer (some ⟨bb, 0, none⟩))) #[true, true, true, true, false, true, true, true, false, false, false, false, false, false, false, false, false, false, false] ?_
 refine takeX 8 161 11 (.v (.pointer (some ⟨bb, 0, none⟩))) #[true, true, true, true, false, true, true, true, true, false, false, false, false, false, false, false, false, false, false] ?_
 refine takeX 9 162 10 (.v (.pointer (some ⟨bb, 0, none⟩))) #[true, true, true, true, false, true, true, true, true, true, false, false, false, false, false, false, false, false, false] ?_
 refine takeX 10 163 9 (.v (.pointer (some ⟨bb, 10, none⟩))) #[true, true, true, true, false, true, true, true, true, true, true, false, false, false, false, false, false, false, false] ?_
 refine takeX 12 165 8 (.v (.int .i64 (r.f : Int))) #[true, true, true, true, false, true, true, true, true, true, true, false, true, false, false, false, false, false, false] ?_
 refine takeX 13 166 7 (.v (.int .i64 ((r.n + (((((N ++ [[(⟨(r.f : Int), -h⟩ : TL), (⟨((r.f + 1 : Nat) : Int), h⟩ : TL)]]) ++ [[(⟨((r.n + N.length + 1 : Nat) : Int), r.t⟩ : TL), (⟨((r.f + 1 : Nat) : Int), r.t⟩ : TL)]]) ++ [[(⟨((r.n + N.length + 1 : Nat) : Int), r.t⟩ : TL), (⟨(r.f : Int), r.t⟩ : TL)]]) ++ [[(⟨q, -g⟩ : TL), (⟨((r.n + (N ++ [[(⟨(r.f : Int), -h⟩ : TL), (⟨((r.f + 1 : Nat) : Int), h⟩ : TL)]]).length + 1 : Nat) : Int), g⟩ : TL)]]) ++ [[(⟨((r.n + (((N ++ [[(⟨(r.f : Int), -h⟩ : TL), (⟨((r.f + 1 : Nat) : Int), h⟩ : TL)]]) ++ [[(⟨((r.n + N.length + 1 : Nat) : Int), r.t⟩ : TL), (⟨((r.f + 1 : Nat) : Int), r.t⟩ : TL)]]) ++ [[(⟨((r.n + N.length + 1 : Nat) : Int), r.t⟩ : TL), (⟨(r.f : Int), r.t⟩ : TL)]]).length + 1 : Nat) : Int), r.t⟩ : TL), (⟨((r.n + (N ++ [[(⟨(r.f : Int), -h⟩ : TL), (⟨((r.f + 1 : Nat) : Int), h⟩ : TL)]]).length + 1 : Nat) : Int), r.t⟩ : TL)]]).length + 1 : Nat) : Int))) #[true, true, true, true, false, true, true, true, true, true, true, false, true, true, false, false, false, false, false] ?_
 refine takeX 14 167 6 (.v (.int .i64 ((r.n + ((N ++ [[(⟨(r.f : Int), -h⟩ : TL), (⟨((r.f + 1 : Nat) : Int), h⟩ : TL)]]) ++ [[(⟨((r.n + N.length + 1 : Nat) : Int), r.t⟩ : TL), (⟨((r.f + 1 : Nat) : Int), r.t⟩ : TL)]]).length + 1 : Nat) : Int))) #[true, true, true, true, false, true, true, true, true, true, true, false, true, true, true, false, false, false, false] ?_
 refine restX [0, 1, 3, 7, 15, 0, 32, 0, 128, 384, 896, 1920, 0, 0, 0, 12287, 45055, 131071, 262143] [(4, []), (11, [])] [] (15, []) [(16, []), (17, []), (18, [])] xk ?_
 refine zyl 157 r.Y.v (zxc (j := 10) hB17 rfl) ty22 (zyl 164 r.Y.v (zxc (j := 10) hB17 rfl) ty22 (zzx ?_))
 refine exitsK_last ?_
 obtain ⟨b18, hA18, hc18⟩ := MutL.cell (j := r.f - 1) hY17.toL (by rw [zwm]; first | omega | (simp only [List.length_set]; omega))
 refine zya 168 (0 + (r.f - 1) * 1) (n := r.Y.n) (off := 0) (sz := 1) (i := ((r.f - 1 : Nat) : Int)) xq hA18 xq (by have h9 : (ics s).length = r.Y.n * 1 := hY17.1; rw [zwm] at h9; have h8 : r.f - 1 < s.length := yy; omega) sl22 (sy_storeX (z := ((r.n + (((((N ++ [[(⟨(r.f : Int), -h⟩ : TL), (⟨((r.f + 1 : Nat) : Int), h⟩ : TL)]]) ++ [[(⟨((r.n + N.length + 1 : Nat) : Int), r.t⟩ : TL), (⟨((r.f + 1 : Nat) : Int), r.t⟩ : TL)]]) ++ [[(⟨((r.n + N.length + 1 : Nat) : Int), r.t⟩ : TL), (⟨(r.f : Int), r.t⟩ : TL)]]) ++ [[(⟨q, -g⟩ : TL), (⟨((r.n + (N ++ [[(⟨(r.f : Int), -h⟩ : TL), (⟨((r.f + 1 : Nat) : Int), h⟩ : TL)]]).length + 1 : Nat) : Int), g⟩ : TL)]]) ++ [[(⟨((r.n + (((N ++ [[(⟨(r.f : Int), -h⟩ : TL), (⟨((r.f + 1 : Nat) : Int), h⟩ : TL)]]) ++ [[(⟨((r.n + N.length + 1 : Nat) : Int), r.t⟩ : TL), (⟨((r.f + 1 : Nat) : Int), r.t⟩ : TL)]]) ++ [[(⟨((r.n + N.length + 1 : Nat) : Int), r.t⟩ : TL), (⟨(r.f : Int), r.t⟩ : TL)]]).length + 1 : Nat) : Int), r.t⟩ : TL), (⟨((r.n + (N ++ [[(⟨(r.f : Int), -h⟩ : TL), (⟨((r.f + 1 : Nat) : Int), h⟩ : TL)]]).length + 1 : Nat) : Int), r.t⟩ : TL)]]).length + 1 : Nat) : Int)) (i := r.f - 1) (l := s) r.Y hY17 hA18 ty3 yy (fun u19 hY19 hs19 hk19 => ?_))
 have hB19 := hk19 _ _ _ yq hB17
 have hX19 := hX17.keep hk19 yq yq
 have hz19 := Nat.le_trans hz17 hs19
 obtain ⟨b20, hA20, hc20⟩ := MutL.cell (j := r.f) hY19.toL (by rw [zwm]; first | omega | (simp only [List.length_set]; omega))
 refine zya 169 (0 + r.f * 1) (n := r.Y.n) (off := 0) (sz := 1) (i := (r.f : Int)) xq hA20 xq (by have h9 : (ics (s.set (r.f - 1) ((r.n + (((((N ++ [[(⟨(r.f : Int), -h⟩ : TL), (⟨((r.f + 1 : Nat) : Int), h⟩ : TL)]]) ++ [[(⟨((r.n + N.length + 1 : Nat) : Int), r.t⟩ : TL), (⟨((r.f + 1 : Nat) : Int), r.t⟩ : TL)]]) ++ [[(⟨((r.n + N.length + 1 : Nat) : Int), r.t⟩ : TL), (⟨(r.f : Int), r.t⟩ : TL)]]) ++ [[(⟨q, -g⟩ : TL), (⟨((r.n + (N ++ [[(⟨(r.f : Int), -h⟩ : TL), (⟨((r.f + 1 : Nat) : Int), h⟩ : TL)]]).length + 1 : Nat) : Int), g⟩ : TL)]]) ++ [[(⟨((r.n + (((N ++ [[(⟨(r.f : Int), -h⟩ : TL), (⟨((r.f + 1 : Nat) : Int), h⟩ : TL)]]) ++ [[(⟨((r.n + N.length + 1 : Nat) : Int), r.t⟩ : TL), (⟨((r.f + 1 : Nat) : Int), r.t⟩ : TL)]]) ++ [[(⟨((r.n + N.length + 1 : Nat) : Int), r.t⟩ : TL), (⟨(r.f : Int), r.t⟩ : TL)]]).length + 1 : Nat) : Int), r.t⟩ : TL), (⟨((r.n + (N ++ [[(⟨(r.f : Int), -h⟩ : TL), (⟨((r.f + 1 : Nat) : Int), h⟩ : TL)]]).length + 1 : Nat) : Int), r.t⟩ : TL)]]).length + 1 : Nat) : Int))).length = r.Y.n * 1 := hY19.1; rw [zwm] at h9; have h8 : r.f < (s.set (r.f - 1) ((r.n + (((((N ++ [[(⟨(r.f : Int), -h⟩ : TL), (⟨((r.f + 1 : Nat) : Int), h⟩ : TL)]]) ++ [[(⟨((r.n + N.length + 1 : Nat) : Int), r.t⟩ : TL), (⟨((r.f + 1 : Nat) : Int), r.t⟩ : TL)]]) ++ [[(⟨((r.n + N.length + 1 : Nat) : Int), r.t⟩ : TL), (⟨(r.f : Int), r.t⟩ : TL)]]) ++ [[(⟨q, -g⟩ : TL), (⟨((r.n + (N ++ [[(⟨(r.f : Int), -h⟩ : TL), (⟨((r.f + 1 : Nat) : Int), h⟩ : TL)]]).length + 1 : Nat) : Int), g⟩ : TL)]]) ++ [[(⟨((r.n + (((N ++ [[(⟨(r.f : Int), -h⟩ : TL), (⟨((r.f + 1 : Nat) : Int), h⟩ : TL)]]) ++ [[(⟨((r.n + N.length + 1 : Nat) : Int), r.t⟩ : TL), (⟨((r.f + 1 : Nat) : Int), r.t⟩ : TL)]]) ++ [[(⟨((r.n + N.length + 1 : Nat) : Int), r.t⟩ : TL), (⟨(r.f : Int), r.t⟩ : TL)]]).length + 1 : Nat) : Int), r.t⟩ : TL), (⟨((r.n + (N ++ [[(⟨(r.f : Int), -h⟩ : TL), (⟨((r.f + 1 : Nat) : Int), h⟩ : TL)]]).length + 1 : Nat) : Int), r.t⟩ : TL)]]).length + 1 : Nat) : Int)).length := yy; omega) sl22 (sy_storeX (z := ((r.n + ((N ++ [[(⟨(r.f : Int), -h⟩ : TL), (⟨((r.f + 1 : Nat) : Int), h⟩ : TL)]]) ++ [[(⟨((r.n + N.length + 1 : Nat) : Int), r.t⟩ : TL), (⟨((r.f + 1 : Nat) : Int), r.t⟩ : TL)]]).length + 1 : Nat) : Int)) (i := r.f) (l := (s.set (r.f - 1) ((r.n + (((((N ++ [[(⟨(r.f : Int), -h⟩ : TL), (⟨((r.f + 1 : Nat) : Int), h⟩ : TL)]]) ++ [[(⟨((r.n + N.length + 1 : Nat) : Int), r.t⟩ : TL), (⟨((r.f + 1 : Nat) : Int), r.t⟩ : TL)]]) ++ [[(⟨((r.n + N.length + 1 : Nat) : Int), r.t⟩ : TL), (⟨(r.f : Int), r.t⟩ : TL)]]) ++ [[(⟨q, -g⟩ : TL), (⟨((r.n + (N ++ [[(⟨(r.f : Int), -h⟩ : TL), (⟨((r.f + 1 : Nat) : Int), h⟩ : TL)]]).length + 1 : Nat) : Int), g⟩ : TL)]]) ++ [[(⟨((r.n + (((N ++ [[(⟨(r.f : Int), -h⟩ : TL), (⟨((r.f + 1 : Nat) : Int), h⟩ : TL)]]) ++ [[(⟨((r.n + N.length + 1 : Nat) : Int), r.t⟩ : TL), (⟨((r.f + 1 : Nat) : Int), r.t⟩ : TL)]]) ++ [[(⟨((r.n + N.length + 1 : Nat) : Int), r.t⟩ : TL), (⟨(r.f : Int), r.t⟩ : TL)]]).length + 1 : Nat) : Int), r.t⟩ : TL), (⟨((r.n + (N ++ [[(⟨(r.f : Int), -h⟩ : TL), (⟨((r.f + 1 : Nat) : Int), h⟩ : TL)]]).length + 1 : Nat) : Int), r.t⟩ : TL)]]).length + 1 : Nat) : Int))) r.Y hY19 hA20 ty3 yy (fun u21 hY21 hs21 hk21 => ?_))
 have hB21 := hk21 _ _ _ yq hB19
 have hX21 := hX19.keep hk21 yq yq
 have hz21 := Nat.le_trans hz19 hs21
 refine zzb (sq9 (zza 170 (zI ((r.n + ((((N ++ [[(⟨(r.f : Int), -h⟩ : TL), (⟨((r.f + 1 : Nat) : Int), h⟩ : TL)]]) ++ [[(⟨((r.n + N.length + 1 : Nat) : Int), r.t⟩ : TL), (⟨((r.f + 1 : Nat) : Int), r.t⟩ : TL)]]) ++ [[(⟨((r.n + N.length + 1 : Nat) : Int), r.t⟩ : TL), (⟨(r.f : Int), r.t⟩ : TL)]]) ++ [[(⟨q, -g⟩ : TL), (⟨((r.n + (N ++ [[(⟨(r.f : Int), -h⟩ : TL), (⟨((r.f + 1 : Nat) : Int), h⟩ : TL)]]).length + 1 : Nat) : Int), g⟩ : TL)]]).length + 1 : Nat) : Int)) (zza 6 (zI ((r.n + ((((N ++ [[(⟨(r.f : Int), -h⟩ : TL), (⟨((r.f + 1 : Nat) : Int), h⟩ : TL)]]) ++ [[(⟨((r.n + N.length + 1 : Nat) : Int), r.t⟩ : TL), (⟨((r.f + 1 : Nat) : Int), r.t⟩ : TL)]]) ++ [[(⟨((r.n + N.length + 1 : Nat) : Int), r.t⟩ : TL), (⟨(r.f : Int), r.t⟩ : TL)]]) ++ [[(⟨q, -g⟩ : TL), (⟨((r.n + (N ++ [[(⟨(r.f : Int), -h⟩ : TL), (⟨((r.f + 1 : Nat) : Int), h⟩ : TL)]]).length + 1 : Nat) : Int), g⟩ : TL)]]).length + 1 : Nat) : Int)) (zzc 171 [(6, zI ((r.n + ((((N ++ [[(⟨(r.f : Int), -h⟩ : TL), (⟨((r.f + 1 : Nat) : Int), h⟩ : TL)]]) ++ [[(⟨((r.n + N.length + 1 : Nat) : Int), r.t⟩ : TL), (⟨((r.f + 1 : Nat) : Int), r.t⟩ : TL)]]) ++ [[(⟨((r.n + N.length + 1 : Nat) : Int), r.t⟩ : TL), (⟨(r.f : Int), r.t⟩ : TL)]]) ++ [[(⟨q, -g⟩ : TL), (⟨((r.n + (N ++ [[(⟨(r.f : Int), -h⟩ : TL), (⟨((r.f + 1 : Nat) : Int), h⟩ : TL)]]).length + 1 : Nat) : Int), g⟩ : TL)]]).length + 1 : Nat) : Int))] [] (zzo (ret0 [.int .i64 ((r.n + ((((N ++ [[(⟨(r.f : Int), -h⟩ : TL), (⟨((r.f + 1 : Nat) : Int), h⟩ : TL)]]) ++ [[(⟨((r.n + N.length + 1 : Nat) : Int), r.t⟩ : TL), (⟨((r.f + 1 : Nat) : Int), r.t⟩ : TL)]]) ++ [[(⟨((r.n + N.length + 1 : Nat) : Int), r.t⟩ : TL), (⟨(r.f : Int), r.t⟩ : TL)]]) ++ [[(⟨q, -g⟩ : TL), (⟨((r.n + (N ++ [[(⟨(r.f : Int), -h⟩ : TL), (⟨((r.f + 1 : Nat) : Int), h⟩ : TL)]]).length + 1 : Nat) : Int), g⟩ : TL)]]).length + 1 : Nat) : Int)] ⟨zzq, trivial⟩ fun u22 e23 => ?_))))))
 have hB24 := e23.cells hB21
 have hX24 := hX21.ext e23
 have hY24 := hY21.ext e23
 have hz24 := Nat.le_trans hz21 e23.size
 have eN : ((((((N ++ [[(⟨(r.f : Int), -h⟩ : TL), (⟨((r.f + 1 : Nat) : Int), h⟩ : TL)]]) ++ [[(⟨((r.n + N.length + 1 : Nat) : Int), r.t⟩ : TL), (⟨((r.f + 1 : Nat) : Int), r.t⟩ : TL)]]) ++ [[(⟨((r.n + N.length + 1 : Nat) : Int), r.t⟩ : TL), (⟨(r.f : Int), r.t⟩ : TL)]]) ++ [[(⟨q, -g⟩ : TL), (⟨((r.n + (N ++ [[(⟨(r.f : Int), -h⟩ : TL), (⟨((r.f + 1 : Nat) : Int), h⟩ : TL)]]).length + 1 : Nat) : Int), g⟩ : TL)]]) ++ [[(⟨((r.n + (((N ++ [[(⟨(r.f : Int), -h⟩ : TL), (⟨((r.f + 1 : Nat) : Int), h⟩ : TL)]]) ++ [[(⟨((r.n + N.length + 1 : Nat) : Int), r.t⟩ : TL), (⟨((r.f + 1 : Nat) : Int), r.t⟩ : TL)]]) ++ [[(⟨((r.n + N.length + 1 : Nat) : Int), r.t⟩ : TL), (⟨(r.f : Int), r.t⟩ : TL)]]).length + 1 : Nat) : Int), r.t⟩ : TL), (⟨((r.n + (N ++ [[(⟨(r.f : Int), -h⟩ : TL), (⟨((r.f + 1 : Nat) : Int), h⟩ : TL)]]).length + 1 : Nat) : Int), r.t⟩ : TL)]]) ++ [[(⟨((r.n + (((N ++ [[(⟨(r.f : Int), -h⟩ : TL), (⟨((r.f + 1 : Nat) : Int), h⟩ : TL)]]) ++ [[(⟨((r.n + N.length + 1 : Nat) : Int), r.t⟩ : TL), (⟨((r.f + 1 : Nat) : Int), r.t⟩ : TL)]]) ++ [[(⟨((r.n + N.length + 1 : Nat) : Int), r.t⟩ : TL), (⟨(r.f : Int), r.t⟩ : TL)]]).length + 1 : Nat) : Int), r.t⟩ : TL), (⟨q, r.t⟩ : TL)]]) = (N ++ Nt.secN r.t (⟨2, g, h⟩ : PL) r.f q (r.n + N.length + 1)) := by (first | (simp [Nt.secN, Nt.adN]; done) | (simp [Nt.secN, Nt.adN]; omega))
 have hXe := hX24
 rw [eN] at hXe
 have eS : ((s.set (r.f - 1) ((r.n + (((((N ++ [[(⟨(r.f : Int), -h⟩ : TL), (⟨((r.f + 1 : Nat) : Int), h⟩ : TL)]]) ++ [[(⟨((r.n + N.length + 1 : Nat) : Int), r.t⟩ : TL), (⟨((r.f + 1 : Nat) : Int), r.t⟩ : TL)]]) ++ [[(⟨((r.n + N.length + 1 : Nat) : Int), r.t⟩ : TL), (⟨(r.f : Int), r.t⟩ : TL)]]) ++ [[(⟨q, -g⟩ : TL), (⟨((r.n + (N ++ [[(⟨(r.f : Int), -h⟩ : TL), (⟨((r.f + 1 : Nat) : Int), h⟩ : TL)]]).length + 1 : Nat) : Int), g⟩ : TL)]]) ++ [[(⟨((r.n + (((N ++ [[(⟨(r.f : Int), -h⟩ : TL), (⟨((r.f + 1 : Nat) : Int), h⟩ : TL)]]) ++ [[(⟨((r.n + N.length + 1 : Nat) : Int), r.t⟩ : TL), (⟨((r.f + 1 : Nat) : Int), r.t⟩ : TL)]]) ++ [[(⟨((r.n + N.length + 1 : Nat) : Int), r.t⟩ : TL), (⟨(r.f : Int), r.t⟩ : TL)]]).length + 1 : Nat) : Int), r.t⟩ : TL), (⟨((r.n + (N ++ [[(⟨(r.f : Int), -h⟩ : TL), (⟨((r.f + 1 : Nat) : Int), h⟩ : TL)]]).length + 1 : Nat) : Int), r.t⟩ : TL)]]).length + 1 : Nat) : Int)).set r.f ((r.n + ((N ++ [[(⟨(r.f : Int), -h⟩ : TL), (⟨((r.f + 1 : Nat) : Int), h⟩ : TL)]]) ++ [[(⟨((r.n + N.length + 1 : Nat) : Int), r.t⟩ : TL), (⟨((r.f + 1 : Nat) : Int), r.t⟩ : TL)]]).length + 1 : Nat) : Int)) = (Nt.secX (⟨2, g, h⟩ : PL) r.f (r.n + N.length + 1) s) := by (first | (simp [Nt.secX]; congr 1; omega) | (simp [Nt.secX]; congr 1 <;> first | omega | (congr 1; omega)))
 have hYe := hY24
 rw [eS] at hYe
 refine ⟨?_, X17, ?_⟩
 ·show Value.int _ _ = Value.int _ _
  first | rfl | (congr 1; simp [Nt.secO, Nt.adN]; omega) | (congr 1; simp [Nt.secO]; omega)
 ·have hG : BldR 138 (MayB ⟨w, none, F⟩ u) u22 bb (⟨⟨r.D.b, r.D.f, r.D.r, r.D.o⟩, ⟨r.W.b, r.W.f, r.W.r, r.W.o⟩, r.n, X17, r.Y, r.o, r.t, r.f + 2⟩ : BL) (N ++ Nt.secN r.t (⟨2, g, h⟩ : PL) r.f q (r.n + N.length + 1)) (Nt.secX (⟨2, g, h⟩ : PL) r.f (r.n + N.length + 1) s) := ⟨hB24, hM17, hXe, hYe⟩
  exact hG.mono fun b _ hb => hb.elim (fun h9 => .inr (Nat.le_trans hlo h9)) .inl
namespace Nt
def ordN (p : PL) : Nat := if p.o = 1 then 1 else 2
end Nt
theorem pas_b24 {f g : Int} (hf : f ≤ 24) (h0 : -Nt.p2i f < g) (h1 : g < Nt.p2i f) : -16777216 ≤ g ∧ g ≤ 16777216 := by
 have := Nt.p2i_24 hf
 omega
theorem k_psection {u w : World} {F : List Nat} {bb lo : Nat} {r : BL} {N : List (List TL)} {s : List Int} {q f : Int} {p : PL} (hp : PasOK f p) (hf : f ≤ 23) (ht : r.t = Nt.p2i f) (d : Dat u w) (h : BldR 133 (· ∈ F) u bb r N s) (hlo : lo ≤ u.heap.size) (hf1 : 1 ≤ r.f) (hfs : r.f + Nt.ordN p ≤ s.length + 1) (hs : s.length ≤ 100) (hn : r.n ≤ 100) (hN : N.length ≤ 150) : Calls Tryz.prog 100 #[.pointer (some ⟨bb, 0, none⟩), p.v, .int .i64 q] w (PostF F u w fun v u' => v = .int .i64 ((Nt.secO p (r.n + N.length + 1) : Nat) : Int) ∧ ∃ X' : Sl, BldR 133 (fun b => b ∈ F ∨ lo ≤ b) u' bb { r with X := X', f := Nt.secF p r.f } (N ++ Nt.secN r.t p r.f q (r.n + N.length + 1)) (Nt.secX p r.f (r.n + N.length + 1) s)) := by
 rcases pas_split hp with ⟨g, rfl, h1, h2⟩ | ⟨g, h', rfl, h1, h2, h3, h4⟩
 ·have hb := pas_b24 xq h1 h2
  exact k_psection1 hb.1 hb.2 d h hlo hf1 (by have h8 : r.f + 1 ≤ s.length + 1 := hfs; omega) hs hn hN ht hf
 ·have hb := pas_b24 xq h1 h2
  have hc := pas_b24 xq h3 h4
  exact k_psection2 hb.1 hb.2 hc.1 hc.2 d h hlo hf1 (by have h8 : r.f + 2 ≤ s.length + 1 := hfs; omega) hs hn hN ht hf
theorem k_rsection {u w : World} {F : List Nat} {bb lo : Nat} {r : BL} {N : List (List TL)} {s : List Int} {q f : Int} {p : PL} (hp : PasOK f p) (hf : f ≤ 23) (ht : r.t = Nt.p2i f) (d : Dat u w) (h : BldR 138 (· ∈ F) u bb r N s) (hlo : lo ≤ u.heap.size) (hf1 : 1 ≤ r.f) (hfs : r.f + Nt.ordN p ≤ s.length + 1) (hs : s.length ≤ 100) (hn : r.n ≤ 100) (hN : N.length ≤ 150) : Calls Tryz.prog 102 #[.pointer (some ⟨bb, 0, none⟩), p.v, .int .i64 q] w (PostF F u w fun v u' => v = .int .i64 ((Nt.secO p (r.n + N.length + 1) : Nat) : Int) ∧ ∃ X' : Sl, BldR 138 (fun b => b ∈ F ∨ lo ≤ b) u' bb { r with X := X', f := Nt.secF p r.f } (N ++ Nt.secN r.t p r.f q (r.n + N.length + 1)) (Nt.secX p r.f (r.n + N.length + 1) s)) := by
 rcases pas_split hp with ⟨g, rfl, h1, h2⟩ | ⟨g, h', rfl, h1, h2, h3, h4⟩
 ·have hb := pas_b24 xq h1 h2
  exact k_rsection1 hb.1 hb.2 d h hlo hf1 (by have h8 : r.f + 1 ≤ s.length + 1 := hfs; omega) hs hn hN ht hf
 ·have hb := pas_b24 xq h1 h2
  have hc := pas_b24 xq h3 h4
  exact k_rsection2 hb.1 hb.2 hc.1 hc.2 d h hlo hf1 (by have h8 : r.f + 2 ≤ s.length + 1 := hfs; omega) hs hn hN ht hf
namespace Nt
structure WS where
 N : List (List TL)
 s : List Int
 f : Nat
 u : Int
def wsS (n : Nat) (U : Int) (L : List PL) (st : WS) : Nat → WS
 | 0 => st
 | i + 1 => ⟨(wsS n U L st i).N ++ secN U (L.getD i pl0) (wsS n U L st i).f (wsS n U L st i).u (n + (wsS n U L st i).N.length + 1), secX (L.getD i pl0) (wsS n U L st i).f (n + (wsS n U L st i).N.length + 1) (wsS n U L st i).s, secF (L.getD i pl0) (wsS n U L st i).f, ((secO (L.getD i pl0) (n + (wsS n U L st i).N.length + 1) : Nat) : Int)⟩
def ordS (L : List PL) : Nat → Nat
 | 0 => 0
 | i + 1 => ordS L i + ordN (L.getD i pl0)
variable {n : Nat} {U : Int} {L : List PL} {st : WS}
theorem ordN_le (p : PL) : 1 ≤ ordN p ∧ ordN p ≤ 2 := by unfold ordN; split <;> omega
theorem ordS_le (L : List PL) (i : Nat) : ordS L i ≤ 2 * i := by
 induction i with
 | zero => exact Nat.le_refl _
 | succ i ih => have := ordN_le (L.getD i pl0); show ordS L i + _ ≤ _; omega
theorem ordS_mono (L : List PL) {i j : Nat} (h : i ≤ j) : ordS L i ≤ ordS L j := by
 induction j with
 | zero => obtain rfl : i = 0 := by omega
           exact Nat.le_refl _
 | succ j ih =>
  rcases Nat.lt_or_ge j i with h9 | h9
  ·obtain rfl : i = j + 1 := by omega
   exact Nat.le_refl _
  ·exact Nat.le_trans (ih h9) (Nat.le_add_right _ _)
theorem ws_f (i : Nat) : (wsS n U L st i).f = st.f + ordS L i := by
 induction i with
 | zero => rfl
 | succ i ih =>
  show secF _ (wsS n U L st i).f = st.f + (ordS L i + ordN _)
  unfold secF ordN
  split <;> omega
theorem ws_s (i : Nat) : (wsS n U L st i).s.length = st.s.length := by
 induction i with
 | zero => rfl
 | succ i ih =>
  show (secX _ _ _ (wsS n U L st i).s).length = _
  unfold secX
  split <;> simp [ih]
theorem secN_len (U : Int) (p : PL) (f : Nat) (u : Int) (m : Nat) : (secN U p f u m).length ≤ 6 := by
 unfold secN
 split <;> simp [adN]
theorem ws_N (i : Nat) : (wsS n U L st i).N.length ≤ st.N.length + 6 * i := by
 induction i with
 | zero => exact Nat.le_refl _
 | succ i ih =>
  show ((wsS n U L st i).N ++ secN _ _ _ _ _).length ≤ _
  rw [List.length_append]
  have := secN_len U (L.getD i pl0) (wsS n U L st i).f (wsS n U L st i).u (n + (wsS n U L st i).N.length + 1)
  omega
end Nt
def wvN (L M : List PL) : Nat := Nt.ordS L L.length + Nt.ordS M M.length
def wvT (U : Int) (L M : List PL) : Nt.WS := Nt.wsS (wvN L M) U L ⟨[], List.replicate (wvN L M) 0, 1, 0⟩ L.length
def wvB (U : Int) (L M : List PL) : Nt.WS := Nt.wsS (wvN L M) U M ⟨(wvT U L M).N, (wvT U L M).s, (wvT U L M).f, 0⟩ M.length
def wvO (U : Int) (L M : List PL) (c : Bool) : List (List TL) := (wvB U L M).N ++ [[⟨(wvT U L M).u, U.tdiv 2⟩, ⟨(wvB U L M).u, if c then -(U.tdiv 2) else U.tdiv 2⟩]]
theorem ordN_o {f : Int} {p : PL} (h : PasOK f p) : ((Nt.ordN p : Nat) : Int) = p.o := by
 unfold Nt.ordN
 rcases h.1 with ⟨h1, _⟩ | h1
 ·rw [if_pos h1, h1]; rfl
 ·rw [if_neg xq, h1]; rfl
def BlkAt (u : World) (b : Nat) (cs : List Value) (ty : TypeId) : Prop := u.heap[b]? = some (.cells cs.toArray ty (0, 0))
theorem BlkAt.ext {u u' : World} {b : Nat} {cs : List Value} {ty : TypeId} (h : BlkAt u b cs ty) (e : Ext u u') : BlkAt u' b cs ty := e.cells h
theorem half_b {z : Int} (h0 : 0 ≤ z) (h1 : z ≤ 16777216) : ∃ y, z.tdiv 2 = y ∧ 0 ≤ y ∧ y ≤ 16777216 := by
 refine ⟨_, rfl, Int.tdiv_nonneg h0 yq, ?_⟩
 rw [Int.tdiv_eq_ediv_of_nonneg h0]; omega
@[reducible] def wsA (W : WL) (L M : List PL) (i : Nat) := Nt.wsS (wvN L M) (Nt.p2i W.f) L ⟨[], List.replicate (wvN L M) 0, 1, 0⟩ i
@[reducible] def wsM (W : WL) (L M : List PL) (i : Nat) := Nt.wsS (wvN L M) (Nt.p2i W.f) M ⟨(wvT (Nt.p2i W.f) L M).N, (wvT (Nt.p2i W.f) L M).s, (wvT (Nt.p2i W.f) L M).f, 0⟩ i
set_option maxHeartbeats 8000000 in
theorem k_wvBuild {u w : World} {D W : WL} {x y : Sl} {L M : List PL} {c : Bool} (d : Dat u w) (hx : PasV u x L) (hy : PasV u y M) (hD : WdOK D) (hV : WvOK W L M) : Calls Tryz.prog 27 #[.agg #[x.v, y.v], D.v, W.v, .bool c] w (Post u w fun v u' => ∃ X Y : Sl, v = .tuple #[.agg #[.int .i64 D.b, .int .i64 D.f, .int .i64 D.r, .int .i64 D.o, .int .i64 W.b, .int .i64 W.f, .int .i64 W.r, .int .i64 W.o, .int .i64 ((wvN L M : Nat) : Int), X.v, Y.v, .int .i64 ((wvN L M + (wvB (Nt.p2i W.f) L M).N.length + 1 : Nat) : Int)], .int .i64 0] ∧ (∃ h, NodesB 0 h u' X (wvO (Nt.p2i W.f) L M c)) ∧ MutL 1 3 0 u' Y (ics (wvB (Nt.p2i W.f) L M).s)) := by
 obtain ⟨⟨hW, hf⟩, hnx, hny, hax, hay⟩ := id hV
 have hpx := all_mem hax
 have hpy := all_mem hay
 obtain ⟨hw1, hw2, hw3, hw4, hw5, hw6, hw7, hw8⟩ := id hW
 have hu0 := Nt.zxq W.f
 have hu1 := Nt.p2i_24 (n := W.f) xq
 have hu2 := Nt.zwh (a := W.f) (b := W.b - 1) xq
 have hu3 := Nt.p2i_24 (n := W.b - 1) xq
 have hlx := hx.len
 have hly := hy.len
 have hoL := Nt.ordS_le L L.length
 have hoM := Nt.ordS_le M M.length
 have hwN : wvN L M = Nt.ordS L L.length + Nt.ordS M M.length := rfl
 have hfT : (wvT (Nt.p2i W.f) L M).f = 1 + Nt.ordS L L.length := Nt.ws_f _
 have hsT : (wvT (Nt.p2i W.f) L M).s.length = wvN L M := (Nt.ws_s _).trans zj
 have hNT : (wvT (Nt.p2i W.f) L M).N.length ≤ 6 * L.length := Nat.le_trans (Nt.ws_N _) zj
 refine zzm (args := [.agg #[.slice x.a x.n x.c, .slice y.a y.n y.c], .agg #[.int .i64 D.b, .int .i64 D.f, .int .i64 D.r, .int .i64 D.o], .agg #[.int .i64 W.b, .int .i64 W.f, .int .i64 W.r, .int .i64 W.o], .bool c]) Tryz.func27 rfl Tryz.ntmps27 (rs := [.cell 8 49, .tmp 9]) Tryz.results27 (le_b rfl) (le_b rfl) d ?_
 refine sq9 (zzk 4 ⟨57, [x.v, y.v]⟩ (zzk 5 ⟨24, D.cs⟩ (zzk 6 ⟨24, W.cs⟩ (zzk 8 ⟨49, [.int .i64 0, .int .i64 0, .int .i64 0, .int .i64 0, .int .i64 0, .int .i64 0, .int .i64 0, .int .i64 0, .int .i64 0, .slice none 0 0, .slice none 0 0, .int .i64 0]⟩ (zza 9 (zI 0) (zzb (zzd (sq9 (zzi 22 (.v (D.v)) ty24 zze (zzg 23 75 [D.v] ?_))))))))))
 intro w11 u11 e11 d11
 have k14 := (Post.mono (k_fxValidG (W := D) d11) (fun v u9 _ h8 => by rw [decide_eq_true hD] at h8; exact (show v = .bool true from h8)))
 with_reducible refine zPm k14 ?_
 rintro _ u12 g13 rfl
 refine zza 24 (zB false) (zzb (zys xk (zzs (zzp ?_))))
 refine zzd (sq9 (zzi 26 (.v (.agg #[x.v, y.v])) ty57 zze (zzi 27 (.v (W.v)) ty24 zze (zzg 28 29 [.agg #[x.v, y.v], W.v] ?_))))
 intro w15 u15 e15 d15
 have k18 := (Post.mono (k_wvValidG (W := W) (x := x) (y := y) (L := L) (M := M) d15 (hx.ext (e11.trans (g13.ext.trans e15))) (hy.ext (e11.trans (g13.ext.trans e15)))) (fun v u9 _ h8 => by rw [decide_eq_true hV] at h8; exact (show v = .bool true from h8)))
 with_reducible refine zPm k18 ?_
 rintro _ u16 g17 rfl
 refine zza 29 (zB false) (zzb (zys xk (zzs (zzp ?_))))
 refine sq9 (zza 10 (zI 0) (zzb (zzd (sq9 (zza 31 (zI 0) (zzb (zzt (sw_rounds 2 ?_))))))))
 refine sq9 (zza 32 (zB true) (zzb (zzd (zyr xk (zzs (zzp ?_))))))
 refine zzd (zzt (sq9 (zza 33 (zI 0) (zza 11 (zI 0) (zzb (sq9 (zzi 34 (.v (.agg #[x.v, y.v])) ty57 zze (zza 35 (zI 0) (zzg 36 93 [.agg #[x.v, y.v], .int .i64 0] ?_)))))))))
 intro w19 u19 e19 d19
 have k22 := k_branch0 (x := x) (y := y) d19
 with_reducible refine zPm k22 ?_
 rintro _ u20 g21 rfl
 refine zza 37 (zI x.n) (zza 38 (zI 0) (zzb (zzt (zyn (I := fun m23 S' u' => ∃ (i : Nat), (m23 = L.length - i) ∧ (i ≤ L.length) ∧ (S' = St.of 96 [(3, zB c), (4, .adr 4 0), (5, .adr 5 0), (6, .adr 6 0), (8, .adr 8 0), (10, zI (Nt.ordS L i : Nat)), (31, zI 0), (36, .v (.slice x.a x.n x.c)), (37, zI x.n), (38, zI i)] [(4, ⟨57, [.slice x.a x.n x.c, .slice y.a y.n y.c]⟩), (5, ⟨24, [.int .i64 D.b, .int .i64 D.f, .int .i64 D.r, .int .i64 D.o]⟩), (6, ⟨24, [.int .i64 W.b, .int .i64 W.f, .int .i64 W.r, .int .i64 W.o]⟩), (8, ⟨49, [.int .i64 0, .int .i64 0, .int .i64 0, .int .i64 0, .int .i64 0, .int .i64 0, .int .i64 0, .int .i64 0, .int .i64 0, .slice none 0 0, .slice none 0 0, .int .i64 0]⟩)]) ∧ (Ext u20 u')) (fun m S u1 u2 e h => by obtain ⟨i, hm, p0, hS, hE⟩ := h; exact ⟨i, hm, p0, hS, hE.trans e⟩) _ yz ⟨0, rfl, Nat.zero_le _, rfl, (Ext.refl _)⟩ ?_))))
 rintro m23 _ u23 ⟨i, hm23, hi, rfl, e23⟩
 refine sq9 (zza 39 (zB (decide ((i : Int) < (x.n : Int)))) (zzb (zzd (zzu (b := decide ((i : Int) < (x.n : Int))) xk (fun hb24 => ?_) (fun hb24 => ?_)))))
 ·replace hb24 : (decide ((i : Int) < (x.n : Int))) = true := hb24
  have qhb24 := of_decide_eq_true hb24
  refine zzs (zzp ?_)
  refine zzd (zzt (sq9 ?_))
  have hl25 := ((hx.ext (e11.trans (g13.ext.trans (e15.trans (g17.ext.trans (e19.trans (g21.ext.trans e23)))))))).len
  obtain ⟨p25, b25, o25, hA25, hc25, hp25⟩ := pas_at ((hx.ext (e11.trans (g13.ext.trans (e15.trans (g17.ext.trans (e19.trans (g21.ext.trans e23)))))))) (i := i) xq
  refine zya 40 (o25 + i * 3) (n := x.n) (off := o25) (sz := 3) (i := (i : Int)) xq hA25 xq xq sl55 (zym 41 p25.cs hc25 ty60 (zzk 13 ⟨60, [.int .i64 0, .int .i64 0, .int .i64 0]⟩ (zzj ⟨60, [.int .i64 p25.o, .int .i64 p25.g, .int .i64 p25.h]⟩ ty60 ?_)))
  refine zzb ?_
  have hkp25 : PasOK W.f p25 := by rw [hp25]; exact hpx _ (by rw [List.getD_eq_getElem?_getD, List.getElem?_eq_getElem xq]; exact List.getElem_mem _)
  refine zzf (zza 42 (zI (Nt.ordS L i : Nat)) (zza 43 (.adr 13 0) (zzi 44 (zI p25.o) ty3 zzl ?_)))
  have ho2 : Nt.ordS L (i + 1) = Nt.ordS L i + Nt.ordN p25 := by rw [hp25]; rfl
  have ho3 := ordN_o hkp25
  have ho4 := Nt.ordS_mono L (show i + 1 ≤ L.length by omega)
  refine zyq 45 (x := zI (IntKind.i64.wrap (((Nt.ordS L i : Nat) : Int) + p25.o))) (zI ((Nt.ordS L (i + 1) : Nat) : Int)) (eqI xw) (zza 10 (zI ((Nt.ordS L (i + 1) : Nat) : Int)) (zzx ?_))
  refine zzp (zzf (zyq 46 (x := zI (IntKind.i64.wrap ((i : Int) + 1))) (zI (i + 1 : Nat)) (eqI xw) (zza 38 (zI (i + 1 : Nat)) (zzx ?_))))
  refine ⟨_, ?_, _, by exact zzv _ _ _, i + 1, rfl, by omega, rfl, e23⟩
  omega
 ·replace hb24 : (decide ((i : Int) < (x.n : Int))) = false := hb24
  have qhb24 := of_decide_eq_false hb24
  refine zyc (zzp ?_)
  obtain rfl : i = L.length := by omega
  refine zzf (zza 47 (zI 1) (zza 31 (zI 1) (zzx ?_)))
  refine rn_next ?_
  refine sw_weak (T := St.of 96 [(3, zB c), (4, .adr 4 0), (5, .adr 5 0), (6, .adr 6 0), (8, .adr 8 0), (10, zI (Nt.ordS L L.length : Nat)), (31, zI 1)] [(4, ⟨57, [.slice x.a x.n x.c, .slice y.a y.n y.c]⟩), (5, ⟨24, [.int .i64 D.b, .int .i64 D.f, .int .i64 D.r, .int .i64 D.o]⟩), (6, ⟨24, [.int .i64 W.b, .int .i64 W.f, .int .i64 W.r, .int .i64 W.o]⟩), (8, ⟨49, [.int .i64 0, .int .i64 0, .int .i64 0, .int .i64 0, .int .i64 0, .int .i64 0, .int .i64 0, .int .i64 0, .int .i64 0, .slice none 0 0, .slice none 0 0, .int .i64 0]⟩)]) yz ?_
  refine sq9 (zza 32 (zB true) (zzb (zzd (zyr xk (zzs (zzp ?_))))))
  refine zzd (zzt (sq9 (zza 33 (zI 1) (zza 11 (zI 1) (zzb (sq9 (zzi 34 (.v (.agg #[x.v, y.v])) ty57 zze (zza 35 (zI 1) (zzg 36 93 [.agg #[x.v, y.v], .int .i64 1] ?_)))))))))
  intro w26 u26 e26 d26
  have k29 := k_branch1 (x := x) (y := y) d26
  with_reducible refine zPm k29 ?_
  rintro _ u27 g28 rfl
  refine zza 37 (zI y.n) (zza 38 (zI 0) (zzc 96 [(3, zB c), (4, .adr 4 0), (5, .adr 5 0), (6, .adr 6 0), (8, .adr 8 0), (10, zI (Nt.ordS L L.length : Nat)), (31, zI 1), (36, .v y.v), (37, zI y.n), (38, zI 0)] [(4, ⟨57, [x.v, y.v]⟩), (5, ⟨24, D.cs⟩), (6, ⟨24, W.cs⟩), (8, ⟨49, [.int .i64 0, .int .i64 0, .int .i64 0, .int .i64 0, .int .i64 0, .int .i64 0, .int .i64 0, .int .i64 0, .int .i64 0, .slice none 0 0, .slice none 0 0, .int .i64 0]⟩)] (zzt (zyn (I := fun m30 S' u' => ∃ (i : Nat), (m30 = M.length - i) ∧ (i ≤ M.length) ∧ (S' = St.of 96 [(3, zB c), (4, .adr 4 0), (5, .adr 5 0), (6, .adr 6 0), (8, .adr 8 0), (10, zI (Nt.ordS L L.length + Nt.ordS M i : Nat)), (31, zI 1), (36, .v (.slice y.a y.n y.c)), (37, zI y.n), (38, zI i)] [(4, ⟨57, [.slice x.a x.n x.c, .slice y.a y.n y.c]⟩), (5, ⟨24, [.int .i64 D.b, .int .i64 D.f, .int .i64 D.r, .int .i64 D.o]⟩), (6, ⟨24, [.int .i64 W.b, .int .i64 W.f, .int .i64 W.r, .int .i64 W.o]⟩), (8, ⟨49, [.int .i64 0, .int .i64 0, .int .i64 0, .int .i64 0, .int .i64 0, .int .i64 0, .int .i64 0, .int .i64 0, .int .i64 0, .slice none 0 0, .slice none 0 0, .int .i64 0]⟩)]) ∧ (Ext u27 u')) (fun m S u1 u2 e h => by obtain ⟨i, hm, p0, hS, hE⟩ := h; exact ⟨i, hm, p0, hS, hE.trans e⟩) _ yz ⟨0, rfl, Nat.zero_le _, rfl, (Ext.refl _)⟩ ?_))))
  rintro m30 _ u30 ⟨i, hm30, hi, rfl, e30⟩
  refine sq9 (zza 39 (zB (decide ((i : Int) < (y.n : Int)))) (zzb (zzd (zzu (b := decide ((i : Int) < (y.n : Int))) xk (fun hb31 => ?_) (fun hb31 => ?_)))))
  ·replace hb31 : (decide ((i : Int) < (y.n : Int))) = true := hb31
   have qhb31 := of_decide_eq_true hb31
   refine zzs (zzp ?_)
   refine zzd (zzt (sq9 ?_))
   have hl32 := ((hy.ext (e11.trans (g13.ext.trans (e15.trans (g17.ext.trans (e19.trans (g21.ext.trans (e23.trans (e26.trans (g28.ext.trans e30))))))))))).len
   obtain ⟨p32, b32, o32, hA32, hc32, hp32⟩ := pas_at ((hy.ext (e11.trans (g13.ext.trans (e15.trans (g17.ext.trans (e19.trans (g21.ext.trans (e23.trans (e26.trans (g28.ext.trans e30))))))))))) (i := i) xq
   refine zya 40 (o32 + i * 3) (n := y.n) (off := o32) (sz := 3) (i := (i : Int)) xq hA32 xq xq sl55 (zym 41 p32.cs hc32 ty60 (zzk 13 ⟨60, [.int .i64 0, .int .i64 0, .int .i64 0]⟩ (zzj ⟨60, [.int .i64 p32.o, .int .i64 p32.g, .int .i64 p32.h]⟩ ty60 ?_)))
   refine zzb ?_
   have hkp32 : PasOK W.f p32 := by rw [hp32]; exact hpy _ (by rw [List.getD_eq_getElem?_getD, List.getElem?_eq_getElem xq]; exact List.getElem_mem _)
   refine zzf (zza 42 (zI (Nt.ordS L L.length + Nt.ordS M i : Nat)) (zza 43 (.adr 13 0) (zzi 44 (zI p32.o) ty3 zzl ?_)))
   have ho2 : Nt.ordS M (i + 1) = Nt.ordS M i + Nt.ordN p32 := by rw [hp32]; rfl
   have ho3 := ordN_o hkp32
   have ho4 := Nt.ordS_mono M (show i + 1 ≤ M.length by omega)
   refine zyq 45 (x := zI (IntKind.i64.wrap (((Nt.ordS L L.length + Nt.ordS M i : Nat) : Int) + p32.o))) (zI ((Nt.ordS L L.length + Nt.ordS M (i + 1) : Nat) : Int)) (eqI xw) (zza 10 (zI ((Nt.ordS L L.length + Nt.ordS M (i + 1) : Nat) : Int)) (zzx ?_))
   refine zzp (zzf (zyq 46 (x := zI (IntKind.i64.wrap ((i : Int) + 1))) (zI (i + 1 : Nat)) (eqI xw) (zza 38 (zI (i + 1 : Nat)) (zzx ?_))))
   refine ⟨_, ?_, _, by exact zzv _ _ _, i + 1, rfl, by omega, rfl, e30⟩
   omega
  ·replace hb31 : (decide ((i : Int) < (y.n : Int))) = false := hb31
   have qhb31 := of_decide_eq_false hb31
   refine zyc (zzp ?_)
   obtain rfl : i = M.length := by omega
   refine zzf (zza 47 (zI 2) (zza 31 (zI 2) (zzx ?_)))
   refine rn_next ?_
   refine sw_weak (T := St.of 96 [(3, zB c), (4, .adr 4 0), (5, .adr 5 0), (6, .adr 6 0), (8, .adr 8 0), (10, zI (Nt.ordS L L.length + Nt.ordS M M.length : Nat)), (31, zI 2)] [(4, ⟨57, [.slice x.a x.n x.c, .slice y.a y.n y.c]⟩), (5, ⟨24, [.int .i64 D.b, .int .i64 D.f, .int .i64 D.r, .int .i64 D.o]⟩), (6, ⟨24, [.int .i64 W.b, .int .i64 W.f, .int .i64 W.r, .int .i64 W.o]⟩), (8, ⟨49, [.int .i64 0, .int .i64 0, .int .i64 0, .int .i64 0, .int .i64 0, .int .i64 0, .int .i64 0, .int .i64 0, .int .i64 0, .slice none 0 0, .slice none 0 0, .int .i64 0]⟩)]) yz ?_
   refine sq9 (zza 32 (zB false) (zzb (zzd (zys xk (zyc (zzp (sq9 (zza 48 (.adr 6 1) (zzi 49 (zI W.f) ty3 zzl (sy_shl 50 (k := .i64) (s := W.f) (Nt.p2i W.f) xq zw (shl_one xq xq) ?_))))))))))
   refine zza 51 (.v (.agg #[.int .i64 0, .int .i64 0, .int .i64 0, .int .i64 0, .int .i64 0, .int .i64 0, .int .i64 0, .int .i64 0, .int .i64 0, .slice none 0 0, .slice none 0 0, .int .i64 0, .int .i64 (Nt.p2i W.f), .int .i64 1])) (zzk 14 ⟨133, [.int .i64 0, .int .i64 0, .int .i64 0, .int .i64 0, .int .i64 0, .int .i64 0, .int .i64 0, .int .i64 0, .int .i64 0, .slice none 0 0, .slice none 0 0, .int .i64 0, .int .i64 0, .int .i64 0]⟩ (zzj ⟨133, [.int .i64 0, .int .i64 0, .int .i64 0, .int .i64 0, .int .i64 0, .int .i64 0, .int .i64 0, .int .i64 0, .int .i64 0, .slice none 0 0, .slice none 0 0, .int .i64 0, .int .i64 (Nt.p2i W.f), .int .i64 1]⟩ ty133 ?_))
   refine zzb (zzd (zzz [0, 0, 0, 0, 8, 31, 63, 127] [(0, []), (1, []), (2, []), (3, []), (4, [56]), (5, []), (6, []), (7, [])] xk xk (zzi 52 (.v (D.v)) ty24 zze (zzi 53 (.v (W.v)) ty24 zze (zza 54 (zI (Nt.ordS L L.length + Nt.ordS M M.length : Nat)) (zza 55 (zI (Nt.ordS L L.length + Nt.ordS M M.length : Nat)) (sy_makeN 56 (T := 22) (E := 3) (z := .int .i64 0) (size := 1) (bytes := 8) (Nt.ordS L L.length + Nt.ordS M M.length) (ics (List.replicate (Nt.ordS L L.length + Nt.ordS M M.length) 0)) xk xk rfl rfl xq yv (made_ints _) (fun b33 u33 e33 h33 f33 g33 => ?_))))))))
   have hm34 : MutL 1 3 u.heap.size u33 (⟨some ⟨b33, 0, none⟩, Nt.ordS L L.length + Nt.ordS M M.length, Nt.ordS L L.length + Nt.ordS M M.length⟩ : Sl) (ics (List.replicate (Nt.ordS L L.length + Nt.ordS M M.length) 0)) := MutL.lit h33 (by rw [zwm, List.length_replicate, Nat.mul_one]) yv f33
   refine zza 57 (.v (.agg #[.int .i64 D.b, .int .i64 D.f, .int .i64 D.r, .int .i64 D.o, .int .i64 W.b, .int .i64 W.f, .int .i64 W.r, .int .i64 W.o, .int .i64 (Nt.ordS L L.length + Nt.ordS M M.length : Nat), .slice none 0 0, .slice (some ⟨b33, 0, none⟩) (Nt.ordS L L.length + Nt.ordS M M.length) (Nt.ordS L L.length + Nt.ordS M M.length), .int .i64 0])) (zza 58 (.adr 14 0) (zzj ⟨133, [.int .i64 D.b, .int .i64 D.f, .int .i64 D.r, .int .i64 D.o, .int .i64 W.b, .int .i64 W.f, .int .i64 W.r, .int .i64 W.o, .int .i64 (Nt.ordS L L.length + Nt.ordS M M.length : Nat), .slice none 0 0, .slice (some ⟨b33, 0, none⟩) (Nt.ordS L L.length + Nt.ordS M M.length) (Nt.ordS L L.length + Nt.ordS M M.length), .int .i64 0, .int .i64 (Nt.p2i W.f), .int .i64 1]⟩ ty49 ?_))
   refine zzb (sq9 (zzk 15 ⟨58, [.int .i64 0, .int .i64 0]⟩ (zzb (zzd (zzd (sw_pubA (r := 14) (t := 14) [14, 58] xz xk zy zy xk (fun b35 u36 e37 hb38 hv39 hh40 => ?_)))))))
   have hM41 : MayB ⟨w, none, []⟩ u b35 := .inl hb38
   have hY41 : MutM 1 3 (MayB ⟨w, none, []⟩ u) u36 _ _ := ((hm34.ext e37)).toM
   have hX41 := NodesM.nil (MayB ⟨w, none, []⟩ u) u36
   have hz41 := (e11.trans (g13.ext.trans (e15.trans (g17.ext.trans (e19.trans (g21.ext.trans (e23.trans (e26.trans (g28.ext.trans (e30.trans (e33.trans e37))))))))))).size
   have hB41 : u36.heap[b35]? = some (.cells (⟨⟨D.b, D.f, D.r, D.o⟩, ⟨W.b, W.f, W.r, W.o⟩, wvN L M, (⟨none, 0, 0⟩ : Sl), (⟨some ⟨b33, 0, none⟩, Nt.ordS L L.length + Nt.ordS M M.length, Nt.ordS L L.length + Nt.ordS M M.length⟩ : Sl), 0, Nt.p2i W.f, 1⟩ : BL).cs.toArray 133 (0, 0)) := hh40
   refine zzf (zza 59 (zI 0) (zzb (zzt (sw_rounds 2 ?_))))
   refine sq9 (zza 60 (zB true) (zzb (zzd (zyr xk (zzs (zzp ?_))))))
   refine zzd (zzt (sq9 (zza 61 (zI 0) (zza 16 (zI 0) (zzb (sq9 (zza 17 (zI 0) (zzb (zzd (sq9 (zzi 62 (.v (.agg #[x.v, y.v])) ty57 zze ?_)))))))))))
   refine zza 63 (zI 0) (zzg 64 93 [.agg #[x.v, y.v], .int .i64 0] ?_)
   intro w42 u42 e42 d42
   have k45 := k_branch0 (x := x) (y := y) d42
   with_reducible refine zPm k45 ?_
   rintro _ u43 g44 rfl
   refine zza 65 (zI x.n) (zza 66 (zI 0) (zzb (zzt ?_)))
   have hB46 := (e42.trans g44.ext).cells hB41
   have hX46 := hX41.ext (e42.trans g44.ext)
   have hY46 := hY41.ext (e42.trans g44.ext)
   have hz46 := Nat.le_trans hz41 (e42.trans g44.ext).size
   refine zyn (I := fun m47 S' u' => ∃ (i : Nat) (X : Sl), (m47 = L.length - i) ∧ (i ≤ L.length) ∧ (S' = St.of 96 [(3, zB c), (4, .adr 4 0), (8, .adr 8 0), (14, .v (.pointer (some ⟨b35, 0, none⟩))), (15, .adr 15 0), (16, zI 0), (17, zI ((wsA W L M i).u)), (59, zI 0), (64, .v (.slice x.a x.n x.c)), (65, zI x.n), (66, zI i)] [(4, ⟨57, [.slice x.a x.n x.c, .slice y.a y.n y.c]⟩), (8, ⟨49, [.int .i64 0, .int .i64 0, .int .i64 0, .int .i64 0, .int .i64 0, .int .i64 0, .int .i64 0, .int .i64 0, .int .i64 0, .slice none 0 0, .slice none 0 0, .int .i64 0]⟩), (15, ⟨58, [.int .i64 0, .int .i64 0]⟩)]) ∧ (Ext u u') ∧ (BlkAt u' b35 (⟨⟨D.b, D.f, D.r, D.o⟩, ⟨W.b, W.f, W.r, W.o⟩, wvN L M, X, (⟨some ⟨b33, 0, none⟩, Nt.ordS L L.length + Nt.ordS M M.length, Nt.ordS L L.length + Nt.ordS M M.length⟩ : Sl), 0, Nt.p2i W.f, (wsA W L M i).f⟩ : BL).cs 133) ∧ (NodesM (MayB ⟨w, none, []⟩ u) u' X (wsA W L M i).N) ∧ (MutM 1 3 (MayB ⟨w, none, []⟩ u) u' (⟨some ⟨b33, 0, none⟩, Nt.ordS L L.length + Nt.ordS M M.length, Nt.ordS L L.length + Nt.ordS M M.length⟩ : Sl) (ics (wsA W L M i).s))) (fun m S u1 u2 e h => by obtain ⟨i, X, hm, p0, hS, hE, f0, f1, f2⟩ := h; exact ⟨i, X, hm, p0, hS, hE.trans e, f0.ext e, f1.ext e, f2.ext e⟩) _ yz ⟨0, (⟨none, 0, 0⟩ : Sl), rfl, Nat.zero_le _, rfl, (e11.trans (g13.ext.trans (e15.trans (g17.ext.trans (e19.trans (g21.ext.trans (e23.trans (e26.trans (g28.ext.trans (e30.trans (e33.trans (e37.trans (e42.trans g44.ext))))))))))))), hB46, hX46, hY46⟩ ?_
   rintro m47 _ u47 ⟨i, X, hm47, hi, rfl, e47, hBi, hXi, hYi⟩
   have hzi := e47.size
   have hfi : (wsA W L M i).f = 1 + Nt.ordS L i := Nt.ws_f i
   have hsi : (wsA W L M i).s.length = wvN L M := (Nt.ws_s i).trans zj
   have hNi : (wsA W L M i).N.length ≤ 6 * i := Nat.le_trans (Nt.ws_N i) zj
   refine sq9 (zza 67 (zB (decide ((i : Int) < (x.n : Int)))) (zzb (zzd (zzu (b := decide ((i : Int) < (x.n : Int))) xk (fun hb48 => ?_) (fun hb48 => ?_)))))
   ·replace hb48 : (decide ((i : Int) < (x.n : Int))) = true := hb48
    have qhb48 := of_decide_eq_true hb48
    refine zzs (zzp ?_)
    refine zzd (zzt (sq9 ?_))
    have hl49 := ((hx.ext e47)).len
    obtain ⟨p49, b49, o49, hA49, hc49, hp49⟩ := pas_at ((hx.ext e47)) (i := i) xq
    refine zya 68 (o49 + i * 3) (n := x.n) (off := o49) (sz := 3) (i := (i : Int)) xq hA49 xq xq sl55 (zym 69 p49.cs hc49 ty60 (zzk 19 ⟨60, [.int .i64 0, .int .i64 0, .int .i64 0]⟩ (zzj ⟨60, [.int .i64 p49.o, .int .i64 p49.g, .int .i64 p49.h]⟩ ty60 ?_)))
    refine zzc 96 [(3, zB c), (4, .adr 4 0), (8, .adr 8 0), (14, .v (.pointer (some ⟨b35, 0, none⟩))), (15, .adr 15 0), (16, zI 0), (17, zI ((wsA W L M i).u)), (19, .adr 19 0), (59, zI 0), (64, .v x.v), (65, zI x.n), (66, zI i)] [(4, ⟨57, [x.v, y.v]⟩), (8, ⟨49, [.int .i64 0, .int .i64 0, .int .i64 0, .int .i64 0, .int .i64 0, .int .i64 0, .int .i64 0, .int .i64 0, .int .i64 0, .slice none 0 0, .slice none 0 0, .int .i64 0]⟩), (15, ⟨58, [.int .i64 0, .int .i64 0]⟩), (19, ⟨60, [.int .i64 p49.o, .int .i64 p49.g, .int .i64 p49.h]⟩)] ?_
    have hkp49 : PasOK W.f p49 := by rw [hp49]; exact hpx _ (by rw [List.getD_eq_getElem?_getD, List.getElem?_eq_getElem xq]; exact List.getElem_mem _)
    have ho2 : Nt.ordS L (i + 1) = Nt.ordS L i + Nt.ordN p49 := by rw [hp49]; rfl
    have ho4 := Nt.ordS_mono L (show i + 1 ≤ L.length by omega)
    refine zzf (zzi 70 (.v (.agg #[.int .i64 p49.o, .int .i64 p49.g, .int .i64 p49.h])) ty60 zze (zza 71 (zI ((wsA W L M i).u)) ?_))
    have hA50 : BldR 133 (MayB ⟨w, none, []⟩ u) u47 b35 (⟨⟨D.b, D.f, D.r, D.o⟩, ⟨W.b, W.f, W.r, W.o⟩, wvN L M, X, (⟨some ⟨b33, 0, none⟩, Nt.ordS L L.length + Nt.ordS M M.length, Nt.ordS L L.length + Nt.ordS M M.length⟩ : Sl), 0, Nt.p2i W.f, (wsA W L M i).f⟩ : BL) (wsA W L M i).N (wsA W L M i).s := ⟨hBi, hM41, hXi, hYi⟩
    have hl50 := NodesM.len hXi
    refine zwo (blks b35 (⟨⟨D.b, D.f, D.r, D.o⟩, ⟨W.b, W.f, W.r, W.o⟩, wvN L M, X, (⟨some ⟨b33, 0, none⟩, Nt.ordS L L.length + Nt.ordS M M.length, Nt.ordS L L.length + Nt.ordS M M.length⟩ : Sl), 0, Nt.p2i W.f, (wsA W L M i).f⟩ : BL)) 72 100 [.pointer (some ⟨b35, 0, none⟩), .agg #[.int .i64 p49.o, .int .i64 p49.g, .int .i64 p49.h], .int .i64 ((wsA W L M i).u)] (BldR.may hA50) (fun w50 u50 e50 d50 => k_psection (f := W.f) (p := p49) hkp49 xq rfl (lo := u47.heap.size) d50 (hA50.own.ext e50) e50.size (by show 1 ≤ (wsA W L M i).f; omega) (by show (wsA W L M i).f + _ ≤ _; omega) xq (by show wvN L M ≤ 100; omega) xq) (fun v50 u50b hF50 hv50 => ?_)
    obtain ⟨rfl, X50, hG50⟩ := hv50
    obtain ⟨hB50, hM50, hX50, hY50⟩ := hG50.back (fun b hb => (BldR.may hA50 b hb).1) hzi
    have hz50 := Nat.le_trans hzi hF50.size
    have hl50b := NodesM.len hX50
    have eT50 := hF50.root hA50 e47
    refine zza 17 (zI ((Nt.secO p49 (wvN L M + ((wsA W L M i).N).length + 1) : Nat) : Int)) (zzx ?_)
    refine zzp (zzf (zyq 73 (x := zI (IntKind.i64.wrap ((i : Int) + 1))) (zI (i + 1 : Nat)) (eqI xw) (zza 66 (zI (i + 1 : Nat)) (zzx ?_))))
    subst hp49
    refine ⟨_, ?_, _, by exact zzv _ _ _, i + 1, X50, rfl, by omega, rfl, eT50, hB50, hX50, hY50⟩
    omega
   ·replace hb48 : (decide ((i : Int) < (x.n : Int))) = false := hb48
    have qhb48 := of_decide_eq_false hb48
    refine zyc (zzp ?_)
    obtain rfl : i = L.length := by omega
    refine zzf (zza 74 (zI 0) (zza 75 (zI ((wsA W L M L.length).u)) (zza 76 (.adr 15 0) (zzj ⟨58, [.int .i64 ((wsA W L M L.length).u), .int .i64 0]⟩ ty3 ?_))))
    refine zzx ?_
    refine zzp (zzf (zza 77 (zI 1) (zza 59 (zI 1) (zzx ?_))))
    refine rn_next ?_
    refine sw_weak (T := St.of 96 [(3, zB c), (4, .adr 4 0), (8, .adr 8 0), (14, .v (.pointer (some ⟨b35, 0, none⟩))), (15, .adr 15 0), (59, zI 1)] [(4, ⟨57, [.slice x.a x.n x.c, .slice y.a y.n y.c]⟩), (8, ⟨49, [.int .i64 0, .int .i64 0, .int .i64 0, .int .i64 0, .int .i64 0, .int .i64 0, .int .i64 0, .int .i64 0, .int .i64 0, .slice none 0 0, .slice none 0 0, .int .i64 0]⟩), (15, ⟨58, [.int .i64 ((wsA W L M L.length).u), .int .i64 0]⟩)]) yz ?_
    refine sq9 (zza 60 (zB true) (zzb (zzd (zyr xk (zzs (zzp ?_))))))
    refine zzd (zzt (sq9 (zza 61 (zI 1) (zza 16 (zI 1) (zzc 96 [(3, zB c), (4, .adr 4 0), (8, .adr 8 0), (14, .v (.pointer (some ⟨b35, 0, none⟩))), (15, .adr 15 0), (16, zI 1), (59, zI 1)] [(4, ⟨57, [x.v, y.v]⟩), (8, ⟨49, [.int .i64 0, .int .i64 0, .int .i64 0, .int .i64 0, .int .i64 0, .int .i64 0, .int .i64 0, .int .i64 0, .int .i64 0, .slice none 0 0, .slice none 0 0, .int .i64 0]⟩), (15, ⟨58, [.int .i64 ((wsA W L M L.length).u), .int .i64 0]⟩)] (sq9 (zza 17 (zI 0) (zzb (zzd (sq9 (zzi 62 (.v (.agg #[x.v, y.v])) ty57 zze ?_)))))))))))
    refine zza 63 (zI 1) (zzg 64 93 [.agg #[x.v, y.v], .int .i64 1] ?_)
    intro w51 u51 e51 d51
    have k54 := k_branch1 (x := x) (y := y) d51
    with_reducible refine zPm k54 ?_
    rintro _ u52 g53 rfl
    refine zza 65 (zI y.n) (zza 66 (zI 0) (zzb (zzt ?_)))
    have hB55 := (e51.trans g53.ext).cells hBi
    have hX55 := hXi.ext (e51.trans g53.ext)
    have hY55 := hYi.ext (e51.trans g53.ext)
    have hz55 := Nat.le_trans hzi (e51.trans g53.ext).size
    refine zyn (I := fun m56 S' u' => ∃ (i : Nat) (X : Sl), (m56 = M.length - i) ∧ (i ≤ M.length) ∧ (S' = St.of 96 [(3, zB c), (4, .adr 4 0), (8, .adr 8 0), (14, .v (.pointer (some ⟨b35, 0, none⟩))), (15, .adr 15 0), (16, zI 1), (17, zI ((wsM W L M i).u)), (59, zI 1), (64, .v (.slice y.a y.n y.c)), (65, zI y.n), (66, zI i)] [(4, ⟨57, [.slice x.a x.n x.c, .slice y.a y.n y.c]⟩), (8, ⟨49, [.int .i64 0, .int .i64 0, .int .i64 0, .int .i64 0, .int .i64 0, .int .i64 0, .int .i64 0, .int .i64 0, .int .i64 0, .slice none 0 0, .slice none 0 0, .int .i64 0]⟩), (15, ⟨58, [.int .i64 ((wsA W L M L.length).u), .int .i64 0]⟩)]) ∧ (Ext u u') ∧ (BlkAt u' b35 (⟨⟨D.b, D.f, D.r, D.o⟩, ⟨W.b, W.f, W.r, W.o⟩, wvN L M, X, (⟨some ⟨b33, 0, none⟩, Nt.ordS L L.length + Nt.ordS M M.length, Nt.ordS L L.length + Nt.ordS M M.length⟩ : Sl), 0, Nt.p2i W.f, (wsM W L M i).f⟩ : BL).cs 133) ∧ (NodesM (MayB ⟨w, none, []⟩ u) u' X (wsM W L M i).N) ∧ (MutM 1 3 (MayB ⟨w, none, []⟩ u) u' (⟨some ⟨b33, 0, none⟩, Nt.ordS L L.length + Nt.ordS M M.length, Nt.ordS L L.length + Nt.ordS M M.length⟩ : Sl) (ics (wsM W L M i).s))) (fun m S u1 u2 e h => by obtain ⟨i, X, hm, p0, hS, hE, f0, f1, f2⟩ := h; exact ⟨i, X, hm, p0, hS, hE.trans e, f0.ext e, f1.ext e, f2.ext e⟩) _ yz ⟨0, X, rfl, Nat.zero_le _, rfl, (e47.trans (e51.trans g53.ext)), hB55, hX55, hY55⟩ ?_
    rintro m56 _ u56 ⟨i, X, hm56, hi, rfl, e56, hBi, hXi, hYi⟩
    have hzi := e56.size
    have hfi : (wsM W L M i).f = (wvT (Nt.p2i W.f) L M).f + Nt.ordS M i := Nt.ws_f i
    have hsi : (wsM W L M i).s.length = (wvT (Nt.p2i W.f) L M).s.length := Nt.ws_s i
    have hNi : (wsM W L M i).N.length ≤ (wvT (Nt.p2i W.f) L M).N.length + 6 * i := Nt.ws_N i
    refine sq9 (zza 67 (zB (decide ((i : Int) < (y.n : Int)))) (zzb (zzd (zzu (b := decide ((i : Int) < (y.n : Int))) xk (fun hb57 => ?_) (fun hb57 => ?_)))))
    ·replace hb57 : (decide ((i : Int) < (y.n : Int))) = true := hb57
     have qhb57 := of_decide_eq_true hb57
     refine zzs (zzp ?_)
     refine zzd (zzt (sq9 ?_))
     have hl58 := ((hy.ext e56)).len
     obtain ⟨p58, b58, o58, hA58, hc58, hp58⟩ := pas_at ((hy.ext e56)) (i := i) xq
     refine zya 68 (o58 + i * 3) (n := y.n) (off := o58) (sz := 3) (i := (i : Int)) xq hA58 xq xq sl55 (zym 69 p58.cs hc58 ty60 (zzk 19 ⟨60, [.int .i64 0, .int .i64 0, .int .i64 0]⟩ (zzj ⟨60, [.int .i64 p58.o, .int .i64 p58.g, .int .i64 p58.h]⟩ ty60 ?_)))
     refine zzb ?_
     have hkp58 : PasOK W.f p58 := by rw [hp58]; exact hpy _ (by rw [List.getD_eq_getElem?_getD, List.getElem?_eq_getElem xq]; exact List.getElem_mem _)
     have ho2 : Nt.ordS M (i + 1) = Nt.ordS M i + Nt.ordN p58 := by rw [hp58]; rfl
     have ho4 := Nt.ordS_mono M (show i + 1 ≤ M.length by omega)
     refine zzf (zzi 70 (.v (.agg #[.int .i64 p58.o, .int .i64 p58.g, .int .i64 p58.h])) ty60 zze (zza 71 (zI ((wsM W L M i).u)) ?_))
     have hA59 : BldR 133 (MayB ⟨w, none, []⟩ u) u56 b35 (⟨⟨D.b, D.f, D.r, D.o⟩, ⟨W.b, W.f, W.r, W.o⟩, wvN L M, X, (⟨some ⟨b33, 0, none⟩, Nt.ordS L L.length + Nt.ordS M M.length, Nt.ordS L L.length + Nt.ordS M M.length⟩ : Sl), 0, Nt.p2i W.f, (wsM W L M i).f⟩ : BL) (wsM W L M i).N (wsM W L M i).s := ⟨hBi, hM41, hXi, hYi⟩
     have hl59 := NodesM.len hXi
     refine zwo (blks b35 (⟨⟨D.b, D.f, D.r, D.o⟩, ⟨W.b, W.f, W.r, W.o⟩, wvN L M, X, (⟨some ⟨b33, 0, none⟩, Nt.ordS L L.length + Nt.ordS M M.length, Nt.ordS L L.length + Nt.ordS M M.length⟩ : Sl), 0, Nt.p2i W.f, (wsM W L M i).f⟩ : BL)) 72 100 [.pointer (some ⟨b35, 0, none⟩), .agg #[.int .i64 p58.o, .int .i64 p58.g, .int .i64 p58.h], .int .i64 ((wsM W L M i).u)] (BldR.may hA59) (fun w59 u59 e59 d59 => k_psection (f := W.f) (p := p58) hkp58 xq rfl (lo := u56.heap.size) d59 (hA59.own.ext e59) e59.size (by show 1 ≤ (wsM W L M i).f; omega) (by show (wsM W L M i).f + _ ≤ _; omega) xq (by show wvN L M ≤ 100; omega) xq) (fun v59 u59b hF59 hv59 => ?_)
     obtain ⟨rfl, X59, hG59⟩ := hv59
     obtain ⟨hB59, hM59, hX59, hY59⟩ := hG59.back (fun b hb => (BldR.may hA59 b hb).1) hzi
     have hz59 := Nat.le_trans hzi hF59.size
     have hl59b := NodesM.len hX59
     have eT59 := hF59.root hA59 e56
     refine zza 17 (zI ((Nt.secO p58 (wvN L M + ((wsM W L M i).N).length + 1) : Nat) : Int)) (zzx ?_)
     refine zzp (zzf (zyq 73 (x := zI (IntKind.i64.wrap ((i : Int) + 1))) (zI (i + 1 : Nat)) (eqI xw) (zza 66 (zI (i + 1 : Nat)) (zzx ?_))))
     subst hp58
     refine ⟨_, ?_, _, by exact zzv _ _ _, i + 1, X59, rfl, by omega, rfl, eT59, hB59, hX59, hY59⟩
     omega
    ·replace hb57 : (decide ((i : Int) < (y.n : Int))) = false := hb57
     have qhb57 := of_decide_eq_false hb57
     refine zyc (zzp ?_)
     obtain rfl : i = M.length := by omega
     refine zzf (zza 74 (zI 1) (zza 75 (zI ((wsM W L M M.length).u)) (zza 76 (.adr 15 1) (zzj ⟨58, [.int .i64 ((wsA W L M L.length).u), .int .i64 ((wsM W L M M.length).u)]⟩ ty3 ?_))))
     refine zzx ?_
     refine zzp (zzf (zza 77 (zI 2) (zza 59 (zI 2) (zzx ?_))))
     refine rn_next ?_
     refine sw_weak (T := St.of 96 [(3, zB c), (4, .adr 4 0), (8, .adr 8 0), (14, .v (.pointer (some ⟨b35, 0, none⟩))), (15, .adr 15 0), (59, zI 2)] [(4, ⟨57, [.slice x.a x.n x.c, .slice y.a y.n y.c]⟩), (8, ⟨49, [.int .i64 0, .int .i64 0, .int .i64 0, .int .i64 0, .int .i64 0, .int .i64 0, .int .i64 0, .int .i64 0, .int .i64 0, .slice none 0 0, .slice none 0 0, .int .i64 0]⟩), (15, ⟨58, [.int .i64 ((wsA W L M L.length).u), .int .i64 ((wsM W L M M.length).u)]⟩)]) yz ?_
     refine sq9 (zza 60 (zB false) (zzb (zzd (zys xk (zyc (zzp (sq9 (zza 78 (.v (.pointer (some ⟨b35, 12, none⟩))) (zyl 79 (.int .i64 (Nt.p2i W.f)) (zxc (j := 12) hBi rfl) ty3 ?_)))))))))
     obtain ⟨z2, hz2, hz20, hz21⟩ := half_b (z := Nt.p2i W.f) xq xq
     refine zyq 80 (x := zI (IntKind.i64.wrap (Int.tdiv (Nt.p2i W.f) 2))) (zI z2) (by rw [hz2, IntWalk.i64_in _ xq]) (zza 20 (zI z2) (zzb (sq9 (zza 81 (zI z2) (zza 21 (zI z2) (zzb (zzd (sq9 (zza 82 (zB c) (zzb (zzu (b := c) xk (fun hb60 => ?_) (fun hb60 => ?_))))))))))))
     ·replace hb60 : c = true := hb60
      refine zzf (zza 83 (zI z2) (zyq 84 (x := zI (IntKind.i64.wrap (0 - z2))) (zI (-z2)) (eqI xw) (zza 21 (zI (-z2)) (zzb (sq9 (zza 85 (.adr 15 0) (zzi 86 (zI ((wsA W L M L.length).u)) ty3 zzl (zza 87 (zI z2) (zza 88 (.adr 15 1) (zzi 89 (zI ((wsM W L M M.length).u)) ty3 zzl (zza 90 (zI (-z2)) ?_)))))))))))
      have hA61 : BldR 133 (MayB ⟨w, none, []⟩ u) u56 b35 (⟨⟨D.b, D.f, D.r, D.o⟩, ⟨W.b, W.f, W.r, W.o⟩, wvN L M, X, (⟨some ⟨b33, 0, none⟩, Nt.ordS L L.length + Nt.ordS M M.length, Nt.ordS L L.length + Nt.ordS M M.length⟩ : Sl), 0, Nt.p2i W.f, (wsM W L M M.length).f⟩ : BL) (wsM W L M M.length).N (wsM W L M M.length).s := ⟨hBi, hM41, hXi, hYi⟩
      have hl61 := NodesM.len hXi
      refine zwo (blks b35 (⟨⟨D.b, D.f, D.r, D.o⟩, ⟨W.b, W.f, W.r, W.o⟩, wvN L M, X, (⟨some ⟨b33, 0, none⟩, Nt.ordS L L.length + Nt.ordS M M.length, Nt.ordS L L.length + Nt.ordS M M.length⟩ : Sl), 0, Nt.p2i W.f, (wsM W L M M.length).f⟩ : BL)) 91 101 [.pointer (some ⟨b35, 0, none⟩), .int .i64 ((wsA W L M L.length).u), .int .i64 z2, .int .i64 ((wsM W L M M.length).u), .int .i64 (-z2)] (BldR.may hA61) (fun w61 u61 e61 d61 => k_pnode (lo := u56.heap.size) d61 (hA61.own.ext e61) e61.size (by show wvN L M ≤ 100; omega) xq) (fun v61 u61b hF61 hv61 => ?_)
      obtain ⟨rfl, X61, hG61⟩ := hv61
      obtain ⟨hB61, hM61, hX61, hY61⟩ := hG61.back (fun b hb => (BldR.may hA61 b hb).1) hzi
      have hz61 := Nat.le_trans hzi hF61.size
      have hl61b := NodesM.len hX61
      have eT61 := hF61.root hA61 e56
      refine zza 92 (.v (.pointer (some ⟨b35, 0, none⟩))) (zza 93 (.v (.pointer (some ⟨b35, 11, none⟩))) (sy_storeD (b := b35) (off := 11) hB61 hM61 ty3 (show 11 + 1 ≤ 14 by decide) (fun u62 hS62 eB62 => ?_)))
      have hB62 : u62.heap[b35]? = some (.cells (⟨⟨D.b, D.f, D.r, D.o⟩, ⟨W.b, W.f, W.r, W.o⟩, wvN L M, X61, (⟨some ⟨b33, 0, none⟩, Nt.ordS L L.length + Nt.ordS M M.length, Nt.ordS L L.length + Nt.ordS M M.length⟩ : Sl), ((wvN L M + ((wsM W L M M.length).N).length + 1 : Nat) : Int), Nt.p2i W.f, (wsM W L M M.length).f⟩ : BL).cs.toArray 133 (0, 0)) := hS62
      have hX62 := hX61.extB eB62 hB61 yq yq
      have hY62 := hY61.extB eB62 hB61 yq
      have hz62 := Nat.le_trans hz61 eB62.size
      have eT62 : Ext u u62 := (ExtB.toF eB62).old eT61 (fun b hb ob ho => by have h9 := zxa ho; rw [List.mem_singleton] at hb; subst hb; rcases hM61 with h8 | h8; omega; cases h8)
      refine zzb (sq9 (zza 94 (.v (.pointer (some ⟨b35, 0, none⟩))) (zym 95 [.int .i64 D.b, .int .i64 D.f, .int .i64 D.r, .int .i64 D.o, .int .i64 W.b, .int .i64 W.f, .int .i64 W.r, .int .i64 W.o, .int .i64 (wvN L M : Nat), X61.v, .slice (some ⟨b33, 0, none⟩) (Nt.ordS L L.length + Nt.ordS M M.length) (Nt.ordS L L.length + Nt.ordS M M.length), .int .i64 ((wvN L M + ((wsM W L M M.length).N).length + 1 : Nat) : Int)] (blk_cells hB62 (off := 0) rfl) ty49 (zzj ⟨49, [.int .i64 D.b, .int .i64 D.f, .int .i64 D.r, .int .i64 D.o, .int .i64 W.b, .int .i64 W.f, .int .i64 W.r, .int .i64 W.o, .int .i64 (wvN L M : Nat), X61.v, .slice (some ⟨b33, 0, none⟩) (Nt.ordS L L.length + Nt.ordS M M.length) (Nt.ordS L L.length + Nt.ordS M M.length), .int .i64 ((wvN L M + ((wsM W L M M.length).N).length + 1 : Nat) : Int)]⟩ ty49 ?_))))
      refine zza 9 (zI 0) (zzc 96 [(8, .adr 8 0), (9, zI 0)] [(8, ⟨49, [.int .i64 D.b, .int .i64 D.f, .int .i64 D.r, .int .i64 D.o, .int .i64 W.b, .int .i64 W.f, .int .i64 W.r, .int .i64 W.o, .int .i64 (wvN L M : Nat), X61.v, .slice (some ⟨b33, 0, none⟩) (Nt.ordS L L.length + Nt.ordS M M.length) (Nt.ordS L L.length + Nt.ordS M M.length), .int .i64 ((wvN L M + ((wsM W L M M.length).N).length + 1 : Nat) : Int)]⟩)] (zzo (ret0 [.agg #[.int .i64 D.b, .int .i64 D.f, .int .i64 D.r, .int .i64 D.o, .int .i64 W.b, .int .i64 W.f, .int .i64 W.r, .int .i64 W.o, .int .i64 (wvN L M : Nat), .slice X61.a X61.n X61.c, .slice (some ⟨b33, 0, none⟩) (Nt.ordS L L.length + Nt.ordS M M.length) (Nt.ordS L L.length + Nt.ordS M M.length), .int .i64 ((wvN L M + ((wsM W L M M.length).N).length + 1 : Nat) : Int)], .int .i64 0] ⟨zzr ty49 zze, zzq, trivial⟩ fun u63 e64 => ?_)))
      refine ⟨X61, (⟨some ⟨b33, 0, none⟩, Nt.ordS L L.length + Nt.ordS M M.length, Nt.ordS L L.length + Nt.ordS M M.length⟩ : Sl), ?_, ⟨_, NodesM.toB (mb := MayB ⟨w, none, []⟩ u) ?_⟩, ?_⟩
      ·rfl
      ·unfold wvO
       rw [hb60, hz2]
       exact hX62.ext e64
      ·exact (hY62.ext e64).toL
     ·replace hb60 : c = false := hb60
      refine zzs (zzp ?_)
      refine sq9 (zza 85 (.adr 15 0) (zzi 86 (zI ((wsA W L M L.length).u)) ty3 zzl (zza 87 (zI z2) (zza 88 (.adr 15 1) (zzi 89 (zI ((wsM W L M M.length).u)) ty3 zzl (zza 90 (zI z2) ?_))))))
      have hA65 : BldR 133 (MayB ⟨w, none, []⟩ u) u56 b35 (⟨⟨D.b, D.f, D.r, D.o⟩, ⟨W.b, W.f, W.r, W.o⟩, wvN L M, X, (⟨some ⟨b33, 0, none⟩, Nt.ordS L L.length + Nt.ordS M M.length, Nt.ordS L L.length + Nt.ordS M M.length⟩ : Sl), 0, Nt.p2i W.f, (wsM W L M M.length).f⟩ : BL) (wsM W L M M.length).N (wsM W L M M.length).s := ⟨hBi, hM41, hXi, hYi⟩
      have hl65 := NodesM.len hXi
      refine zwo (blks b35 (⟨⟨D.b, D.f, D.r, D.o⟩, ⟨W.b, W.f, W.r, W.o⟩, wvN L M, X, (⟨some ⟨b33, 0, none⟩, Nt.ordS L L.length + Nt.ordS M M.length, Nt.ordS L L.length + Nt.ordS M M.length⟩ : Sl), 0, Nt.p2i W.f, (wsM W L M M.length).f⟩ : BL)) 91 101 [.pointer (some ⟨b35, 0, none⟩), .int .i64 ((wsA W L M L.length).u), .int .i64 z2, .int .i64 ((wsM W L M M.length).u), .int .i64 z2] (BldR.may hA65) (fun w65 u65 e65 d65 => k_pnode (lo := u56.heap.size) d65 (hA65.own.ext e65) e65.size (by show wvN L M ≤ 100; omega) xq) (fun v65 u65b hF65 hv65 => ?_)
      obtain ⟨rfl, X65, hG65⟩ := hv65
      obtain ⟨hB65, hM65, hX65, hY65⟩ := hG65.back (fun b hb => (BldR.may hA65 b hb).1) hzi
      have hz65 := Nat.le_trans hzi hF65.size
      have hl65b := NodesM.len hX65
      have eT65 := hF65.root hA65 e56
      refine zza 92 (.v (.pointer (some ⟨b35, 0, none⟩))) (zza 93 (.v (.pointer (some ⟨b35, 11, none⟩))) (sy_storeD (b := b35) (off := 11) hB65 hM65 ty3 (show 11 + 1 ≤ 14 by decide) (fun u66 hS66 eB66 => ?_)))
      have hB66 : u66.heap[b35]? = some (.cells (⟨⟨D.b, D.f, D.r, D.o⟩, ⟨W.b, W.f, W.r, W.o⟩, wvN L M, X65, (⟨some ⟨b33, 0, none⟩, Nt.ordS L L.length + Nt.ordS M M.length, Nt.ordS L L.length + Nt.ordS M M.length⟩ : Sl), ((wvN L M + ((wsM W L M M.length).N).length + 1 : Nat) : Int), Nt.p2i W.f, (wsM W L M M.length).f⟩ : BL).cs.toArray 133 (0, 0)) := hS66
      have hX66 := hX65.extB eB66 hB65 yq yq
      have hY66 := hY65.extB eB66 hB65 yq
      have hz66 := Nat.le_trans hz65 eB66.size
      have eT66 : Ext u u66 := (ExtB.toF eB66).old eT65 (fun b hb ob ho => by have h9 := zxa ho; rw [List.mem_singleton] at hb; subst hb; rcases hM65 with h8 | h8; omega; cases h8)
      refine zzb (sq9 (zza 94 (.v (.pointer (some ⟨b35, 0, none⟩))) (zym 95 [.int .i64 D.b, .int .i64 D.f, .int .i64 D.r, .int .i64 D.o, .int .i64 W.b, .int .i64 W.f, .int .i64 W.r, .int .i64 W.o, .int .i64 (wvN L M : Nat), X65.v, .slice (some ⟨b33, 0, none⟩) (Nt.ordS L L.length + Nt.ordS M M.length) (Nt.ordS L L.length + Nt.ordS M M.length), .int .i64 ((wvN L M + ((wsM W L M M.length).N).length + 1 : Nat) : Int)] (blk_cells hB66 (off := 0) rfl) ty49 (zzj ⟨49, [.int .i64 D.b, .int .i64 D.f, .int .i64 D.r, .int .i64 D.o, .int .i64 W.b, .int .i64 W.f, .int .i64 W.r, .int .i64 W.o, .int .i64 (wvN L M : Nat), X65.v, .slice (some ⟨b33, 0, none⟩) (Nt.ordS L L.length + Nt.ordS M M.length) (Nt.ordS L L.length + Nt.ordS M M.length), .int .i64 ((wvN L M + ((wsM W L M M.length).N).length + 1 : Nat) : Int)]⟩ ty49 ?_))))
      refine zza 9 (zI 0) (zzb (zzo (ret0 [.agg #[.int .i64 D.b, .int .i64 D.f, .int .i64 D.r, .int .i64 D.o, .int .i64 W.b, .int .i64 W.f, .int .i64 W.r, .int .i64 W.o, .int .i64 (wvN L M : Nat), .slice X65.a X65.n X65.c, .slice (some ⟨b33, 0, none⟩) (Nt.ordS L L.length + Nt.ordS M M.length) (Nt.ordS L L.length + Nt.ordS M M.length), .int .i64 ((wvN L M + ((wsM W L M M.length).N).length + 1 : Nat) : Int)], .int .i64 0] ⟨zzr ty49 zze, zzq, trivial⟩ fun u67 e68 => ?_)))
      refine ⟨X65, (⟨some ⟨b33, 0, none⟩, Nt.ordS L L.length + Nt.ordS M M.length, Nt.ordS L L.length + Nt.ordS M M.length⟩ : Sl), ?_, ⟨_, NodesM.toB (mb := MayB ⟨w, none, []⟩ u) ?_⟩, ?_⟩
      ·rfl
      ·unfold wvO
       rw [hb60, hz2]
       exact hX66.ext e68
      ·exact (hY66.ext e68).toL
set_option maxHeartbeats 8000000 in
theorem k_rwvBuild {u w : World} {D W : WL} {x y : Sl} {L M : List PL} {c : Bool} (d : Dat u w) (hx : PasV u x L) (hy : PasV u y M) (hD : WdOK D) (hV : WvOK W L M) : Calls Tryz.prog 28 #[.agg #[x.v, y.v], D.v, W.v, .bool c] w (Post u w fun v u' => ∃ X Y : Sl, v = .tuple #[.agg #[.int .i64 D.b, .int .i64 D.f, .int .i64 D.r, .int .i64 D.o, .int .i64 W.b, .int .i64 W.f, .int .i64 W.r, .int .i64 W.o, .int .i64 ((wvN L M : Nat) : Int), X.v, Y.v, .int .i64 ((wvN L M + (wvB (Nt.p2i W.f) L M).N.length + 1 : Nat) : Int)], .int .i64 0] ∧ (∃ h, NodesB 0 h u' X (wvO (Nt.p2i W.f) L M c)) ∧ MutL 1 3 0 u' Y (ics (wvB (Nt.p2i W.f) L M).s)) := by
 obtain ⟨⟨hW, hf⟩, hnx, hny, hax, hay⟩ := id hV
 have hpx := all_mem hax
 have hpy := all_mem hay
 obtain ⟨hw1, hw2, hw3, hw4, hw5, hw6, hw7, hw8⟩ := id hW
 have hu0 := Nt.zxq W.f
 have hu1 := Nt.p2i_24 (n := W.f) xq
 have hu2 := Nt.zwh (a := W.f) (b := W.b - 1) xq
 have hu3 := Nt.p2i_24 (n := W.b - 1) xq
 have hlx := hx.len
 have hly := hy.len
 have hoL := Nt.ordS_le L L.length
 have hoM := Nt.ordS_le M M.length
 have hwN : wvN L M = Nt.ordS L L.length + Nt.ordS M M.length := rfl
 have hfT : (wvT (Nt.p2i W.f) L M).f = 1 + Nt.ordS L L.length := Nt.ws_f _
 have hsT : (wvT (Nt.p2i W.f) L M).s.length = wvN L M := (Nt.ws_s _).trans zj
 have hNT : (wvT (Nt.p2i W.f) L M).N.length ≤ 6 * L.length := Nat.le_trans (Nt.ws_N _) zj
 refine zzm (args := [.agg #[.slice x.a x.n x.c, .slice y.a y.n y.c], .agg #[.int .i64 D.b, .int .i64 D.f, .int .i64 D.r, .int .i64 D.o], .agg #[.int .i64 W.b, .int .i64 W.f, .int .i64 W.r, .int .i64 W.o], .bool c]) Tryz.func28 rfl Tryz.ntmps28 (rs := [.cell 8 49, .tmp 9]) Tryz.results28 (le_b rfl) (le_b rfl) d ?_
 refine sq9 (zzk 4 ⟨57, [x.v, y.v]⟩ (zzk 5 ⟨24, D.cs⟩ (zzk 6 ⟨24, W.cs⟩ (zzk 8 ⟨49, [.int .i64 0, .int .i64 0, .int .i64 0, .int .i64 0, .int .i64 0, .int .i64 0, .int .i64 0, .int .i64 0, .int .i64 0, .slice none 0 0, .slice none 0 0, .int .i64 0]⟩ (zza 9 (zI 0) (zzb (zzd (sq9 (zzi 18 (.v (D.v)) ty24 zze (zzg 19 68 [D.v] ?_))))))))))
 intro w11 u11 e11 d11
 have k14 := (Post.mono (k_r21ValidG (W := D) d11) (fun v u9 _ h8 => by rw [decide_eq_true hD] at h8; exact (show v = .bool true from h8)))
 with_reducible refine zPm k14 ?_
 rintro _ u12 g13 rfl
 refine zza 20 (zB false) (zzb (zys xk (zzs (zzp ?_))))
 refine zzd (sq9 (zzi 22 (.v (.agg #[x.v, y.v])) ty57 zze (zzi 23 (.v (W.v)) ty24 zze (zzg 24 30 [.agg #[x.v, y.v], W.v] ?_))))
 intro w15 u15 e15 d15
 have k18 := (Post.mono (k_rwvValidG (W := W) (x := x) (y := y) (L := L) (M := M) d15 (hx.ext (e11.trans (g13.ext.trans e15))) (hy.ext (e11.trans (g13.ext.trans e15)))) (fun v u9 _ h8 => by rw [decide_eq_true hV] at h8; exact (show v = .bool true from h8)))
 with_reducible refine zPm k18 ?_
 rintro _ u16 g17 rfl
 refine zza 25 (zB false) (zzb (zys xk (zzs (zzp ?_))))
 refine sq9 (zzi 27 (.v (D.v)) ty24 zze (zzi 28 (.v (W.v)) ty24 zze (zza 29 (.v (.agg #[.int .i64 D.b, .int .i64 D.f, .int .i64 D.r, .int .i64 D.o, .int .i64 W.b, .int .i64 W.f, .int .i64 W.r, .int .i64 W.o, .int .i64 0, .slice none 0 0, .slice none 0 0, .int .i64 0])) (zza 30 (.adr 6 1) (zzi 31 (zI W.f) ty3 zzl (sy_conv 32 (W.f) (fun w => by kernel_rfl) (IntWalk.u64_in _ xq) ?_))))))
 refine sy_shl 33 (k := .i64) (s := W.f) (Nt.p2i W.f) xq zw (shl_one xq xq) ?_
 refine zza 34 (.v (.agg #[.int .i64 D.b, .int .i64 D.f, .int .i64 D.r, .int .i64 D.o, .int .i64 W.b, .int .i64 W.f, .int .i64 W.r, .int .i64 W.o, .int .i64 0, .slice none 0 0, .slice none 0 0, .int .i64 0, .int .i64 (Nt.p2i W.f), .int .i64 1])) (zzk 35 ⟨138, [.int .i64 D.b, .int .i64 D.f, .int .i64 D.r, .int .i64 D.o, .int .i64 W.b, .int .i64 W.f, .int .i64 W.r, .int .i64 W.o, .int .i64 0, .slice none 0 0, .slice none 0 0, .int .i64 0, .int .i64 (Nt.p2i W.f), .int .i64 1]⟩ (zza 10 (.adr 35 0) (zzb (zzd (sq9 (zza 11 (zI 0) (zzb (zzt (zyn (I := fun m19 S' u' => ∃ (i : Nat), (m19 = L.length - i) ∧ (i ≤ L.length) ∧ (S' = St.of 151 [(3, zB c), (4, .adr 4 0), (8, .adr 8 0), (10, .adr 35 0), (11, zI i)] [(4, ⟨57, [.slice x.a x.n x.c, .slice y.a y.n y.c]⟩), (8, ⟨49, [.int .i64 0, .int .i64 0, .int .i64 0, .int .i64 0, .int .i64 0, .int .i64 0, .int .i64 0, .int .i64 0, .int .i64 0, .slice none 0 0, .slice none 0 0, .int .i64 0]⟩), (35, ⟨138, [.int .i64 D.b, .int .i64 D.f, .int .i64 D.r, .int .i64 D.o, .int .i64 W.b, .int .i64 W.f, .int .i64 W.r, .int .i64 W.o, .int .i64 (Nt.ordS L i : Nat), .slice none 0 0, .slice none 0 0, .int .i64 0, .int .i64 (Nt.p2i W.f), .int .i64 1]⟩)]) ∧ (Ext u16 u')) (fun m S u1 u2 e h => by obtain ⟨i, hm, p0, hS, hE⟩ := h; exact ⟨i, hm, p0, hS, hE.trans e⟩) _ yz ⟨0, rfl, Nat.zero_le _, rfl, (Ext.refl _)⟩ ?_)))))))))
 rintro m19 _ u19 ⟨i, hm19, hi, rfl, e19⟩
 refine zzd (sq9 (zza 36 (zI i) (zza 37 (.adr 4 0) (zzi 38 (.v x.v) ty55 zzl (zza 39 (zI x.n) (zza 40 (zB (decide ((i : Int) < (x.n : Int)))) (zzb (zzu (b := decide ((i : Int) < (x.n : Int))) xk (fun hb20 => ?_) (fun hb20 => ?_)))))))))
 ·replace hb20 : (decide ((i : Int) < (x.n : Int))) = true := hb20
  have qhb20 := of_decide_eq_true hb20
  refine zzs (zzp ?_)
  refine zzd (zzt (zzz [0, 1, 3, 7, 15, 0, 32, 0, 224, 480, 992, 2047, 4095, 8191, 16383, 32767] [(0, []), (1, []), (2, []), (3, []), (4, []), (5, []), (6, []), (7, []), (8, []), (9, []), (10, []), (11, []), (12, []), (13, []), (14, []), (15, [])] xk xk (zza 43 (.adr 35 0) (zza 44 (.adr 35 0) (zza 45 (.adr 35 0) (zza 46 (.adr 35 8) (zzi 47 (zI (Nt.ordS L i : Nat)) ty3 zzl (zza 48 (.adr 4 0) (zzi 49 (.v x.v) ty55 zzl (zza 50 (zI i) ?_))))))))))
  have hl21 := ((hx.ext (e11.trans (g13.ext.trans (e15.trans (g17.ext.trans e19)))))).len
  obtain ⟨p21, b21, o21, hA21, hc21, hp21⟩ := pas_at ((hx.ext (e11.trans (g13.ext.trans (e15.trans (g17.ext.trans e19)))))) (i := i) xq
  refine zya 51 (o21 + i * 3) (n := x.n) (off := o21) (sz := 3) (i := (i : Int)) xq hA21 xq xq sl55 (zza 52 (.v (.pointer (some ⟨b21, o21 + i * 3 + 0, none⟩))) (zyl 53 (.int .i64 p21.o) (hc21 0 (show 0 < 3 by decide)) ty3 ?_))
  have hkp21 : PasOK W.f p21 := by rw [hp21]; exact hpx _ (by rw [List.getD_eq_getElem?_getD, List.getElem?_eq_getElem xq]; exact List.getElem_mem _)
  have ho2 : Nt.ordS L (i + 1) = Nt.ordS L i + Nt.ordN p21 := by rw [hp21]; rfl
  have ho3 := ordN_o hkp21
  have ho4 := Nt.ordS_mono L (show i + 1 ≤ L.length by omega)
  refine zyq 54 (x := zI (IntKind.i64.wrap (((Nt.ordS L i : Nat) : Int) + p21.o))) (zI ((Nt.ordS L (i + 1) : Nat) : Int)) (eqI xw) (zza 55 (.adr 35 0) (zza 56 (.adr 35 0) (zza 57 (.adr 35 8) (zzj ⟨138, [.int .i64 D.b, .int .i64 D.f, .int .i64 D.r, .int .i64 D.o, .int .i64 W.b, .int .i64 W.f, .int .i64 W.r, .int .i64 W.o, .int .i64 ((Nt.ordS L (i + 1) : Nat) : Int), .slice none 0 0, .slice none 0 0, .int .i64 0, .int .i64 (Nt.p2i W.f), .int .i64 1]⟩ ty3 ?_))))
  refine zzx ?_
  refine zzp (zzf (zza 41 (zI i) (zyq 42 (x := zI (IntKind.i64.wrap ((i : Int) + 1))) (zI (i + 1 : Nat)) (eqI xw) (zza 11 (zI (i + 1 : Nat)) (zzx ?_)))))
  refine ⟨_, ?_, _, by exact zzv _ _ _, i + 1, rfl, by omega, rfl, e19⟩
  omega
 ·replace hb20 : (decide ((i : Int) < (x.n : Int))) = false := hb20
  have qhb20 := of_decide_eq_false hb20
  refine zyc (zzp (zzd (zzd ?_)))
  obtain rfl : i = L.length := by omega
  refine zzf (zza 12 (zI 0) (zzb (zzt (zyn (I := fun m22 S' u' => ∃ (i : Nat), (m22 = M.length - i) ∧ (i ≤ M.length) ∧ (S' = St.of 151 [(3, zB c), (4, .adr 4 0), (8, .adr 8 0), (10, .adr 35 0), (12, zI i)] [(4, ⟨57, [.slice x.a x.n x.c, .slice y.a y.n y.c]⟩), (8, ⟨49, [.int .i64 0, .int .i64 0, .int .i64 0, .int .i64 0, .int .i64 0, .int .i64 0, .int .i64 0, .int .i64 0, .int .i64 0, .slice none 0 0, .slice none 0 0, .int .i64 0]⟩), (35, ⟨138, [.int .i64 D.b, .int .i64 D.f, .int .i64 D.r, .int .i64 D.o, .int .i64 W.b, .int .i64 W.f, .int .i64 W.r, .int .i64 W.o, .int .i64 (Nt.ordS L L.length + Nt.ordS M i : Nat), .slice none 0 0, .slice none 0 0, .int .i64 0, .int .i64 (Nt.p2i W.f), .int .i64 1]⟩)]) ∧ (Ext u19 u')) (fun m S u1 u2 e h => by obtain ⟨i, hm, p0, hS, hE⟩ := h; exact ⟨i, hm, p0, hS, hE.trans e⟩) _ yz ⟨0, rfl, Nat.zero_le _, rfl, (Ext.refl _)⟩ ?_))))
  rintro m22 _ u22 ⟨i, hm22, hi, rfl, e22⟩
  refine zzd (sq9 (zza 58 (zI i) (zza 59 (.adr 4 1) (zzi 60 (.v y.v) ty55 zzl (zza 61 (zI y.n) (zza 62 (zB (decide ((i : Int) < (y.n : Int)))) (zzc 151 [(3, zB c), (4, .adr 4 0), (8, .adr 8 0), (10, .adr 35 0), (12, zI i), (62, zB (decide ((i : Int) < (y.n : Int))))] [(4, ⟨57, [x.v, y.v]⟩), (8, ⟨49, [.int .i64 0, .int .i64 0, .int .i64 0, .int .i64 0, .int .i64 0, .int .i64 0, .int .i64 0, .int .i64 0, .int .i64 0, .slice none 0 0, .slice none 0 0, .int .i64 0]⟩), (35, ⟨138, [.int .i64 D.b, .int .i64 D.f, .int .i64 D.r, .int .i64 D.o, .int .i64 W.b, .int .i64 W.f, .int .i64 W.r, .int .i64 W.o, .int .i64 (Nt.ordS L L.length + Nt.ordS M i : Nat), .slice none 0 0, .slice none 0 0, .int .i64 0, .int .i64 (Nt.p2i W.f), .int .i64 1]⟩)] (zzu (b := decide ((i : Int) < (y.n : Int))) xk (fun hb23 => ?_) (fun hb23 => ?_)))))))))
  ·replace hb23 : (decide ((i : Int) < (y.n : Int))) = true := hb23
   have qhb23 := of_decide_eq_true hb23
   refine zzs (zzp ?_)
   refine zzd (zzt (zzz [0, 1, 3, 7, 15, 0, 32, 0, 224, 480, 992, 2047, 4095, 8191, 16383, 32767] [(0, []), (1, []), (2, []), (3, []), (4, []), (5, []), (6, []), (7, []), (8, []), (9, []), (10, []), (11, []), (12, []), (13, []), (14, []), (15, [])] xk xk (zza 65 (.adr 35 0) (zza 66 (.adr 35 0) (zza 67 (.adr 35 0) (zza 68 (.adr 35 8) (zzi 69 (zI (Nt.ordS L L.length + Nt.ordS M i : Nat)) ty3 zzl (zza 70 (.adr 4 1) (zzi 71 (.v y.v) ty55 zzl (zza 72 (zI i) ?_))))))))))
   have hl24 := ((hy.ext (e11.trans (g13.ext.trans (e15.trans (g17.ext.trans (e19.trans e22))))))).len
   obtain ⟨p24, b24, o24, hA24, hc24, hp24⟩ := pas_at ((hy.ext (e11.trans (g13.ext.trans (e15.trans (g17.ext.trans (e19.trans e22))))))) (i := i) xq
   refine zya 73 (o24 + i * 3) (n := y.n) (off := o24) (sz := 3) (i := (i : Int)) xq hA24 xq xq sl55 (zza 74 (.v (.pointer (some ⟨b24, o24 + i * 3 + 0, none⟩))) (zyl 75 (.int .i64 p24.o) (hc24 0 (show 0 < 3 by decide)) ty3 ?_))
   have hkp24 : PasOK W.f p24 := by rw [hp24]; exact hpy _ (by rw [List.getD_eq_getElem?_getD, List.getElem?_eq_getElem xq]; exact List.getElem_mem _)
   have ho2 : Nt.ordS M (i + 1) = Nt.ordS M i + Nt.ordN p24 := by rw [hp24]; rfl
   have ho3 := ordN_o hkp24
   have ho4 := Nt.ordS_mono M (show i + 1 ≤ M.length by omega)
   refine zyq 76 (x := zI (IntKind.i64.wrap (((Nt.ordS L L.length + Nt.ordS M i : Nat) : Int) + p24.o))) (zI ((Nt.ordS L L.length + Nt.ordS M (i + 1) : Nat) : Int)) (eqI xw) (zza 77 (.adr 35 0) (zza 78 (.adr 35 0) (zza 79 (.adr 35 8) (zzj ⟨138, [.int .i64 D.b, .int .i64 D.f, .int .i64 D.r, .int .i64 D.o, .int .i64 W.b, .int .i64 W.f, .int .i64 W.r, .int .i64 W.o, .int .i64 ((Nt.ordS L L.length + Nt.ordS M (i + 1) : Nat) : Int), .slice none 0 0, .slice none 0 0, .int .i64 0, .int .i64 (Nt.p2i W.f), .int .i64 1]⟩ ty3 ?_))))
   refine zzx ?_
   refine zzp (zzf (zza 63 (zI i) (zyq 64 (x := zI (IntKind.i64.wrap ((i : Int) + 1))) (zI (i + 1 : Nat)) (eqI xw) (zza 12 (zI (i + 1 : Nat)) (zzx ?_)))))
   refine ⟨_, ?_, _, by exact zzv _ _ _, i + 1, rfl, by omega, rfl, e22⟩
   omega
  ·replace hb23 : (decide ((i : Int) < (y.n : Int))) = false := hb23
   have qhb23 := of_decide_eq_false hb23
   refine zyc (zzp (zzd ?_))
   obtain rfl : i = M.length := by omega
   refine zzf (zza 80 (.adr 35 0) (zza 81 (.adr 35 0) (zza 82 (.adr 35 0) (zza 83 (.adr 35 0) (zza 84 (.adr 35 8) (zzi 85 (zI (Nt.ordS L L.length + Nt.ordS M M.length : Nat)) ty3 zzl (sy_makeF 86 (T := 22) (E := 3) (z := .int .i64 0) (size := 1) (bytes := 8) (Nt.ordS L L.length + Nt.ordS M M.length) (ics (List.replicate (Nt.ordS L L.length + Nt.ordS M M.length) 0)) xk xk rfl rfl xq yv (made_ints _) (fun b25 u25 e25 h25 f25 g25 => ?_))))))))
   have hm26 : MutL 1 3 u.heap.size u25 (⟨some ⟨b25, 0, none⟩, Nt.ordS L L.length + Nt.ordS M M.length, Nt.ordS L L.length + Nt.ordS M M.length⟩ : Sl) (ics (List.replicate (Nt.ordS L L.length + Nt.ordS M M.length) 0)) := MutL.lit h25 (by rw [zwm, List.length_replicate, Nat.mul_one]) yv f25
   refine zza 87 (.adr 35 0) (zza 88 (.adr 35 0) (zza 89 (.adr 35 10) (zzj ⟨138, [.int .i64 D.b, .int .i64 D.f, .int .i64 D.r, .int .i64 D.o, .int .i64 W.b, .int .i64 W.f, .int .i64 W.r, .int .i64 W.o, .int .i64 (Nt.ordS L L.length + Nt.ordS M M.length : Nat), .slice none 0 0, .slice (some ⟨b25, 0, none⟩) (Nt.ordS L L.length + Nt.ordS M M.length) (Nt.ordS L L.length + Nt.ordS M M.length), .int .i64 0, .int .i64 (Nt.p2i W.f), .int .i64 1]⟩ ty22 ?_)))
   refine zzb (zzd (sw_pubA (r := 10) (t := 35) [10, 35, 80, 81, 82, 83, 84, 87, 88, 89] xz xk zy zy xk (fun b27 u28 e29 hb30 hv31 hh32 => ?_)))
   have hM33 : MayB ⟨w, none, []⟩ u b27 := .inl hb30
   have hY33 : MutM 1 3 (MayB ⟨w, none, []⟩ u) u28 _ _ := ((hm26.ext e29)).toM
   have hX33 := NodesM.nil (MayB ⟨w, none, []⟩ u) u28
   have hz33 := (e11.trans (g13.ext.trans (e15.trans (g17.ext.trans (e19.trans (e22.trans (e25.trans e29))))))).size
   have hB33 : u28.heap[b27]? = some (.cells (⟨⟨D.b, D.f, D.r, D.o⟩, ⟨W.b, W.f, W.r, W.o⟩, wvN L M, (⟨none, 0, 0⟩ : Sl), (⟨some ⟨b25, 0, none⟩, Nt.ordS L L.length + Nt.ordS M M.length, Nt.ordS L L.length + Nt.ordS M M.length⟩ : Sl), 0, Nt.p2i W.f, 1⟩ : BL).cs.toArray 138 (0, 0)) := hh32
   refine zzf (zza 13 (zI 0) (zza 14 (zI 0) (zzb (zzd (sq9 (zza 15 (zI 0) (zzb (zzt (zyn (I := fun m34 S' u' => ∃ (i : Nat) (X : Sl), (m34 = L.length - i) ∧ (i ≤ L.length) ∧ (S' = St.of 151 [(3, zB c), (4, .adr 4 0), (8, .adr 8 0), (10, .v (.pointer (some ⟨b27, 0, none⟩))), (13, zI ((wsA W L M i).u)), (14, zI 0), (15, zI i)] [(4, ⟨57, [.slice x.a x.n x.c, .slice y.a y.n y.c]⟩), (8, ⟨49, [.int .i64 0, .int .i64 0, .int .i64 0, .int .i64 0, .int .i64 0, .int .i64 0, .int .i64 0, .int .i64 0, .int .i64 0, .slice none 0 0, .slice none 0 0, .int .i64 0]⟩)]) ∧ (Ext u u') ∧ (BlkAt u' b27 (⟨⟨D.b, D.f, D.r, D.o⟩, ⟨W.b, W.f, W.r, W.o⟩, wvN L M, X, (⟨some ⟨b25, 0, none⟩, Nt.ordS L L.length + Nt.ordS M M.length, Nt.ordS L L.length + Nt.ordS M M.length⟩ : Sl), 0, Nt.p2i W.f, (wsA W L M i).f⟩ : BL).cs 138) ∧ (NodesM (MayB ⟨w, none, []⟩ u) u' X (wsA W L M i).N) ∧ (MutM 1 3 (MayB ⟨w, none, []⟩ u) u' (⟨some ⟨b25, 0, none⟩, Nt.ordS L L.length + Nt.ordS M M.length, Nt.ordS L L.length + Nt.ordS M M.length⟩ : Sl) (ics (wsA W L M i).s))) (fun m S u1 u2 e h => by obtain ⟨i, X, hm, p0, hS, hE, f0, f1, f2⟩ := h; exact ⟨i, X, hm, p0, hS, hE.trans e, f0.ext e, f1.ext e, f2.ext e⟩) _ yz ⟨0, (⟨none, 0, 0⟩ : Sl), rfl, Nat.zero_le _, rfl, (e11.trans (g13.ext.trans (e15.trans (g17.ext.trans (e19.trans (e22.trans (e25.trans e29))))))), hB33, hX33, hY33⟩ ?_)))))))))
   rintro m34 _ u34 ⟨i, X, hm34, hi, rfl, e34, hBi, hXi, hYi⟩
   have hzi := e34.size
   have hfi : (wsA W L M i).f = 1 + Nt.ordS L i := Nt.ws_f i
   have hsi : (wsA W L M i).s.length = wvN L M := (Nt.ws_s i).trans zj
   have hNi : (wsA W L M i).N.length ≤ 6 * i := Nat.le_trans (Nt.ws_N i) zj
   refine zzd (sq9 (zza 90 (zI i) (zza 91 (.adr 4 0) (zzi 92 (.v x.v) ty55 zzl (zza 93 (zI x.n) (zza 94 (zB (decide ((i : Int) < (x.n : Int)))) (zzb (zzu (b := decide ((i : Int) < (x.n : Int))) xk (fun hb35 => ?_) (fun hb35 => ?_)))))))))
   ·replace hb35 : (decide ((i : Int) < (x.n : Int))) = true := hb35
    have qhb35 := of_decide_eq_true hb35
    refine zzs (zzp ?_)
    refine zzd (zzt (zzf (zza 97 (.v (.pointer (some ⟨b27, 0, none⟩))) (zza 98 (.adr 4 0) (zzi 99 (.v x.v) ty55 zzl (zza 100 (zI i) ?_))))))
    have hl36 := ((hx.ext e34)).len
    obtain ⟨p36, b36, o36, hA36, hc36, hp36⟩ := pas_at ((hx.ext e34)) (i := i) xq
    refine zya 101 (o36 + i * 3) (n := x.n) (off := o36) (sz := 3) (i := (i : Int)) xq hA36 xq xq sl55 (zym 102 p36.cs hc36 ty60 ?_)
    have hkp36 : PasOK W.f p36 := by rw [hp36]; exact hpx _ (by rw [List.getD_eq_getElem?_getD, List.getElem?_eq_getElem xq]; exact List.getElem_mem _)
    have ho2 : Nt.ordS L (i + 1) = Nt.ordS L i + Nt.ordN p36 := by rw [hp36]; rfl
    have ho4 := Nt.ordS_mono L (show i + 1 ≤ L.length by omega)
    refine zza 103 (zI ((wsA W L M i).u)) ?_
    have hA37 : BldR 138 (MayB ⟨w, none, []⟩ u) u34 b27 (⟨⟨D.b, D.f, D.r, D.o⟩, ⟨W.b, W.f, W.r, W.o⟩, wvN L M, X, (⟨some ⟨b25, 0, none⟩, Nt.ordS L L.length + Nt.ordS M M.length, Nt.ordS L L.length + Nt.ordS M M.length⟩ : Sl), 0, Nt.p2i W.f, (wsA W L M i).f⟩ : BL) (wsA W L M i).N (wsA W L M i).s := ⟨hBi, hM33, hXi, hYi⟩
    have hl37 := NodesM.len hXi
    refine zwo (blks b27 (⟨⟨D.b, D.f, D.r, D.o⟩, ⟨W.b, W.f, W.r, W.o⟩, wvN L M, X, (⟨some ⟨b25, 0, none⟩, Nt.ordS L L.length + Nt.ordS M M.length, Nt.ordS L L.length + Nt.ordS M M.length⟩ : Sl), 0, Nt.p2i W.f, (wsA W L M i).f⟩ : BL)) 104 102 [.pointer (some ⟨b27, 0, none⟩), .agg #[.int .i64 p36.o, .int .i64 p36.g, .int .i64 p36.h], .int .i64 ((wsA W L M i).u)] (BldR.may hA37) (fun w37 u37 e37 d37 => k_rsection (f := W.f) (p := p36) hkp36 xq rfl (lo := u34.heap.size) d37 (hA37.own.ext e37) e37.size (by show 1 ≤ (wsA W L M i).f; omega) (by show (wsA W L M i).f + _ ≤ _; omega) xq (by show wvN L M ≤ 100; omega) xq) (fun v37 u37b hF37 hv37 => ?_)
    obtain ⟨rfl, X37, hG37⟩ := hv37
    obtain ⟨hB37, hM37, hX37, hY37⟩ := hG37.back (fun b hb => (BldR.may hA37 b hb).1) hzi
    have hz37 := Nat.le_trans hzi hF37.size
    have hl37b := NodesM.len hX37
    have eT37 := hF37.root hA37 e34
    refine zza 13 (zI ((Nt.secO p36 (wvN L M + ((wsA W L M i).N).length + 1) : Nat) : Int)) (zzx ?_)
    refine zzp (zzf (zza 95 (zI i) (zyq 96 (x := zI (IntKind.i64.wrap ((i : Int) + 1))) (zI (i + 1 : Nat)) (eqI xw) (zza 15 (zI (i + 1 : Nat)) (zzx ?_)))))
    subst hp36
    refine ⟨_, ?_, _, by exact zzv _ _ _, i + 1, X37, rfl, by omega, rfl, eT37, hB37, hX37, hY37⟩
    omega
   ·replace hb35 : (decide ((i : Int) < (x.n : Int))) = false := hb35
    have qhb35 := of_decide_eq_false hb35
    refine zyc (zzp (zzd (zzd ?_)))
    obtain rfl : i = L.length := by omega
    refine zzf (zza 16 (zI 0) (zzb (zzt (zyn (I := fun m38 S' u' => ∃ (i : Nat) (X : Sl), (m38 = M.length - i) ∧ (i ≤ M.length) ∧ (S' = St.of 151 [(3, zB c), (4, .adr 4 0), (8, .adr 8 0), (10, .v (.pointer (some ⟨b27, 0, none⟩))), (13, zI ((wsA W L M L.length).u)), (14, zI ((wsM W L M i).u)), (16, zI i)] [(4, ⟨57, [.slice x.a x.n x.c, .slice y.a y.n y.c]⟩), (8, ⟨49, [.int .i64 0, .int .i64 0, .int .i64 0, .int .i64 0, .int .i64 0, .int .i64 0, .int .i64 0, .int .i64 0, .int .i64 0, .slice none 0 0, .slice none 0 0, .int .i64 0]⟩)]) ∧ (Ext u u') ∧ (BlkAt u' b27 (⟨⟨D.b, D.f, D.r, D.o⟩, ⟨W.b, W.f, W.r, W.o⟩, wvN L M, X, (⟨some ⟨b25, 0, none⟩, Nt.ordS L L.length + Nt.ordS M M.length, Nt.ordS L L.length + Nt.ordS M M.length⟩ : Sl), 0, Nt.p2i W.f, (wsM W L M i).f⟩ : BL).cs 138) ∧ (NodesM (MayB ⟨w, none, []⟩ u) u' X (wsM W L M i).N) ∧ (MutM 1 3 (MayB ⟨w, none, []⟩ u) u' (⟨some ⟨b25, 0, none⟩, Nt.ordS L L.length + Nt.ordS M M.length, Nt.ordS L L.length + Nt.ordS M M.length⟩ : Sl) (ics (wsM W L M i).s))) (fun m S u1 u2 e h => by obtain ⟨i, X, hm, p0, hS, hE, f0, f1, f2⟩ := h; exact ⟨i, X, hm, p0, hS, hE.trans e, f0.ext e, f1.ext e, f2.ext e⟩) _ yz ⟨0, X, rfl, Nat.zero_le _, rfl, e34, hBi, hXi, hYi⟩ ?_))))
    rintro m38 _ u38 ⟨i, X, hm38, hi, rfl, e38, hBi, hXi, hYi⟩
    have hzi := e38.size
    have hfi : (wsM W L M i).f = (wvT (Nt.p2i W.f) L M).f + Nt.ordS M i := Nt.ws_f i
    have hsi : (wsM W L M i).s.length = (wvT (Nt.p2i W.f) L M).s.length := Nt.ws_s i
    have hNi : (wsM W L M i).N.length ≤ (wvT (Nt.p2i W.f) L M).N.length + 6 * i := Nt.ws_N i
    refine zzd (sq9 (zza 105 (zI i) (zza 106 (.adr 4 1) (zzi 107 (.v y.v) ty55 zzl (zza 108 (zI y.n) (zza 109 (zB (decide ((i : Int) < (y.n : Int)))) (zzb (zzu (b := decide ((i : Int) < (y.n : Int))) xk (fun hb39 => ?_) (fun hb39 => ?_)))))))))
    ·replace hb39 : (decide ((i : Int) < (y.n : Int))) = true := hb39
     have qhb39 := of_decide_eq_true hb39
     refine zzs (zzp ?_)
     refine zzd (zzt (zzf (zza 112 (.v (.pointer (some ⟨b27, 0, none⟩))) (zza 113 (.adr 4 1) (zzi 114 (.v y.v) ty55 zzl (zza 115 (zI i) ?_))))))
     have hl40 := ((hy.ext e38)).len
     obtain ⟨p40, b40, o40, hA40, hc40, hp40⟩ := pas_at ((hy.ext e38)) (i := i) xq
     refine zya 116 (o40 + i * 3) (n := y.n) (off := o40) (sz := 3) (i := (i : Int)) xq hA40 xq xq sl55 (zym 117 p40.cs hc40 ty60 ?_)
     have hkp40 : PasOK W.f p40 := by rw [hp40]; exact hpy _ (by rw [List.getD_eq_getElem?_getD, List.getElem?_eq_getElem xq]; exact List.getElem_mem _)
     have ho2 : Nt.ordS M (i + 1) = Nt.ordS M i + Nt.ordN p40 := by rw [hp40]; rfl
     have ho4 := Nt.ordS_mono M (show i + 1 ≤ M.length by omega)
     refine zza 118 (zI ((wsM W L M i).u)) ?_
     have hA41 : BldR 138 (MayB ⟨w, none, []⟩ u) u38 b27 (⟨⟨D.b, D.f, D.r, D.o⟩, ⟨W.b, W.f, W.r, W.o⟩, wvN L M, X, (⟨some ⟨b25, 0, none⟩, Nt.ordS L L.length + Nt.ordS M M.length, Nt.ordS L L.length + Nt.ordS M M.length⟩ : Sl), 0, Nt.p2i W.f, (wsM W L M i).f⟩ : BL) (wsM W L M i).N (wsM W L M i).s := ⟨hBi, hM33, hXi, hYi⟩
     have hl41 := NodesM.len hXi
     refine zwo (blks b27 (⟨⟨D.b, D.f, D.r, D.o⟩, ⟨W.b, W.f, W.r, W.o⟩, wvN L M, X, (⟨some ⟨b25, 0, none⟩, Nt.ordS L L.length + Nt.ordS M M.length, Nt.ordS L L.length + Nt.ordS M M.length⟩ : Sl), 0, Nt.p2i W.f, (wsM W L M i).f⟩ : BL)) 119 102 [.pointer (some ⟨b27, 0, none⟩), .agg #[.int .i64 p40.o, .int .i64 p40.g, .int .i64 p40.h], .int .i64 ((wsM W L M i).u)] (BldR.may hA41) (fun w41 u41 e41 d41 => k_rsection (f := W.f) (p := p40) hkp40 xq rfl (lo := u38.heap.size) d41 (hA41.own.ext e41) e41.size (by show 1 ≤ (wsM W L M i).f; omega) (by show (wsM W L M i).f + _ ≤ _; omega) xq (by show wvN L M ≤ 100; omega) xq) (fun v41 u41b hF41 hv41 => ?_)
     obtain ⟨rfl, X41, hG41⟩ := hv41
     obtain ⟨hB41, hM41, hX41, hY41⟩ := hG41.back (fun b hb => (BldR.may hA41 b hb).1) hzi
     have hz41 := Nat.le_trans hzi hF41.size
     have hl41b := NodesM.len hX41
     have eT41 := hF41.root hA41 e38
     refine zza 14 (zI ((Nt.secO p40 (wvN L M + ((wsM W L M i).N).length + 1) : Nat) : Int)) (zzx ?_)
     refine zzp (zzf (zza 110 (zI i) (zyq 111 (x := zI (IntKind.i64.wrap ((i : Int) + 1))) (zI (i + 1 : Nat)) (eqI xw) (zza 16 (zI (i + 1 : Nat)) (zzx ?_)))))
     subst hp40
     refine ⟨_, ?_, _, by exact zzv _ _ _, i + 1, X41, rfl, by omega, rfl, eT41, hB41, hX41, hY41⟩
     omega
    ·replace hb39 : (decide ((i : Int) < (y.n : Int))) = false := hb39
     have qhb39 := of_decide_eq_false hb39
     refine zyc (zzp (zzd ?_))
     obtain rfl : i = M.length := by omega
     refine zzf (zza 120 (.v (.pointer (some ⟨b27, 0, none⟩))) (zza 121 (.v (.pointer (some ⟨b27, 0, none⟩))) (zza 122 (.v (.pointer (some ⟨b27, 12, none⟩))) (zyl 123 (.int .i64 (Nt.p2i W.f)) (zxc (j := 12) hBi rfl) ty3 ?_))))
     obtain ⟨z2, hz2, hz20, hz21⟩ := half_b (z := Nt.p2i W.f) xq xq
     refine zyq 124 (x := zI (IntKind.i64.wrap (Int.tdiv (Nt.p2i W.f) 2))) (zI z2) (by rw [hz2, IntWalk.i64_in _ xq]) (zza 17 (zI z2) (zzc 151 [(3, zB c), (8, .adr 8 0), (10, .v (.pointer (some ⟨b27, 0, none⟩))), (13, zI ((wsA W L M L.length).u)), (14, zI ((wsM W L M M.length).u)), (17, zI z2)] [(8, ⟨49, [.int .i64 0, .int .i64 0, .int .i64 0, .int .i64 0, .int .i64 0, .int .i64 0, .int .i64 0, .int .i64 0, .int .i64 0, .slice none 0 0, .slice none 0 0, .int .i64 0]⟩)] (zzd (sq9 (zza 125 (zB c) (zzb (zzu (b := c) xk (fun hb42 => ?_) (fun hb42 => ?_))))))))
     ·replace hb42 : c = true := hb42
      refine zzf (zza 126 (.v (.pointer (some ⟨b27, 0, none⟩))) (zza 127 (.v (.pointer (some ⟨b27, 0, none⟩))) (zza 128 (zI ((wsA W L M L.length).u)) (zza 129 (zI z2) (zza 130 (zI ((wsM W L M M.length).u)) (zza 131 (zI z2) (zyq 132 (x := zI (IntKind.i64.wrap (0 - z2))) (zI (-z2)) (eqI xw) ?_)))))))
      have hA43 : BldR 138 (MayB ⟨w, none, []⟩ u) u38 b27 (⟨⟨D.b, D.f, D.r, D.o⟩, ⟨W.b, W.f, W.r, W.o⟩, wvN L M, X, (⟨some ⟨b25, 0, none⟩, Nt.ordS L L.length + Nt.ordS M M.length, Nt.ordS L L.length + Nt.ordS M M.length⟩ : Sl), 0, Nt.p2i W.f, (wsM W L M M.length).f⟩ : BL) (wsM W L M M.length).N (wsM W L M M.length).s := ⟨hBi, hM33, hXi, hYi⟩
      have hl43 := NodesM.len hXi
      refine zwo (blks b27 (⟨⟨D.b, D.f, D.r, D.o⟩, ⟨W.b, W.f, W.r, W.o⟩, wvN L M, X, (⟨some ⟨b25, 0, none⟩, Nt.ordS L L.length + Nt.ordS M M.length, Nt.ordS L L.length + Nt.ordS M M.length⟩ : Sl), 0, Nt.p2i W.f, (wsM W L M M.length).f⟩ : BL)) 133 103 [.pointer (some ⟨b27, 0, none⟩), .int .i64 ((wsA W L M L.length).u), .int .i64 z2, .int .i64 ((wsM W L M M.length).u), .int .i64 (-z2)] (BldR.may hA43) (fun w43 u43 e43 d43 => k_rnode (lo := u38.heap.size) d43 (hA43.own.ext e43) e43.size (by show wvN L M ≤ 100; omega) xq) (fun v43 u43b hF43 hv43 => ?_)
      obtain ⟨rfl, X43, hG43⟩ := hv43
      obtain ⟨hB43, hM43, hX43, hY43⟩ := hG43.back (fun b hb => (BldR.may hA43 b hb).1) hzi
      have hz43 := Nat.le_trans hzi hF43.size
      have hl43b := NodesM.len hX43
      have eT43 := hF43.root hA43 e38
      refine zza 134 (.v (.pointer (some ⟨b27, 0, none⟩))) (zza 135 (.v (.pointer (some ⟨b27, 0, none⟩))) (zza 136 (.v (.pointer (some ⟨b27, 11, none⟩))) (sy_storeD (b := b27) (off := 11) hB43 hM43 ty3 (show 11 + 1 ≤ 14 by decide) (fun u44 hS44 eB44 => ?_))))
      have hB44 : u44.heap[b27]? = some (.cells (⟨⟨D.b, D.f, D.r, D.o⟩, ⟨W.b, W.f, W.r, W.o⟩, wvN L M, X43, (⟨some ⟨b25, 0, none⟩, Nt.ordS L L.length + Nt.ordS M M.length, Nt.ordS L L.length + Nt.ordS M M.length⟩ : Sl), ((wvN L M + ((wsM W L M M.length).N).length + 1 : Nat) : Int), Nt.p2i W.f, (wsM W L M M.length).f⟩ : BL).cs.toArray 138 (0, 0)) := hS44
      have hX44 := hX43.extB eB44 hB43 yq yq
      have hY44 := hY43.extB eB44 hB43 yq
      have hz44 := Nat.le_trans hz43 eB44.size
      have eT44 : Ext u u44 := (ExtB.toF eB44).old eT43 (fun b hb ob ho => by have h9 := zxa ho; rw [List.mem_singleton] at hb; subst hb; rcases hM43 with h8 | h8; omega; cases h8)
      refine zzb (sq9 (zza 147 (.v (.pointer (some ⟨b27, 0, none⟩))) (zza 148 (.v (.pointer (some ⟨b27, 0, none⟩))) (zza 149 (.v (.pointer (some ⟨b27, 0, none⟩))) (zym 150 [.int .i64 D.b, .int .i64 D.f, .int .i64 D.r, .int .i64 D.o, .int .i64 W.b, .int .i64 W.f, .int .i64 W.r, .int .i64 W.o, .int .i64 (wvN L M : Nat), X43.v, .slice (some ⟨b25, 0, none⟩) (Nt.ordS L L.length + Nt.ordS M M.length) (Nt.ordS L L.length + Nt.ordS M M.length), .int .i64 ((wvN L M + ((wsM W L M M.length).N).length + 1 : Nat) : Int)] (blk_cells hB44 (off := 0) rfl) ty49 (zzj ⟨49, [.int .i64 D.b, .int .i64 D.f, .int .i64 D.r, .int .i64 D.o, .int .i64 W.b, .int .i64 W.f, .int .i64 W.r, .int .i64 W.o, .int .i64 (wvN L M : Nat), X43.v, .slice (some ⟨b25, 0, none⟩) (Nt.ordS L L.length + Nt.ordS M M.length) (Nt.ordS L L.length + Nt.ordS M M.length), .int .i64 ((wvN L M + ((wsM W L M M.length).N).length + 1 : Nat) : Int)]⟩ ty49 ?_))))))
      refine zza 9 (zI 0) (zzb (zzo (ret0 [.agg #[.int .i64 D.b, .int .i64 D.f, .int .i64 D.r, .int .i64 D.o, .int .i64 W.b, .int .i64 W.f, .int .i64 W.r, .int .i64 W.o, .int .i64 (wvN L M : Nat), .slice X43.a X43.n X43.c, .slice (some ⟨b25, 0, none⟩) (Nt.ordS L L.length + Nt.ordS M M.length) (Nt.ordS L L.length + Nt.ordS M M.length), .int .i64 ((wvN L M + ((wsM W L M M.length).N).length + 1 : Nat) : Int)], .int .i64 0] ⟨zzr ty49 zze, zzq, trivial⟩ fun u45 e46 => ?_)))
      refine ⟨X43, (⟨some ⟨b25, 0, none⟩, Nt.ordS L L.length + Nt.ordS M M.length, Nt.ordS L L.length + Nt.ordS M M.length⟩ : Sl), ?_, ⟨_, NodesM.toB (mb := MayB ⟨w, none, []⟩ u) ?_⟩, ?_⟩
      ·rfl
      ·unfold wvO
       rw [hb42, hz2]
       exact hX44.ext e46
      ·exact (hY44.ext e46).toL
     ·replace hb42 : c = false := hb42
      refine zzf (zza 137 (.v (.pointer (some ⟨b27, 0, none⟩))) (zza 138 (.v (.pointer (some ⟨b27, 0, none⟩))) (zza 139 (zI ((wsA W L M L.length).u)) (zza 140 (zI z2) (zza 141 (zI ((wsM W L M M.length).u)) (zza 142 (zI z2) ?_))))))
      have hA47 : BldR 138 (MayB ⟨w, none, []⟩ u) u38 b27 (⟨⟨D.b, D.f, D.r, D.o⟩, ⟨W.b, W.f, W.r, W.o⟩, wvN L M, X, (⟨some ⟨b25, 0, none⟩, Nt.ordS L L.length + Nt.ordS M M.length, Nt.ordS L L.length + Nt.ordS M M.length⟩ : Sl), 0, Nt.p2i W.f, (wsM W L M M.length).f⟩ : BL) (wsM W L M M.length).N (wsM W L M M.length).s := ⟨hBi, hM33, hXi, hYi⟩
      have hl47 := NodesM.len hXi
      refine zwo (blks b27 (⟨⟨D.b, D.f, D.r, D.o⟩, ⟨W.b, W.f, W.r, W.o⟩, wvN L M, X, (⟨some ⟨b25, 0, none⟩, Nt.ordS L L.length + Nt.ordS M M.length, Nt.ordS L L.length + Nt.ordS M M.length⟩ : Sl), 0, Nt.p2i W.f, (wsM W L M M.length).f⟩ : BL)) 143 103 [.pointer (some ⟨b27, 0, none⟩), .int .i64 ((wsA W L M L.length).u), .int .i64 z2, .int .i64 ((wsM W L M M.length).u), .int .i64 z2] (BldR.may hA47) (fun w47 u47 e47 d47 => k_rnode (lo := u38.heap.size) d47 (hA47.own.ext e47) e47.size (by show wvN L M ≤ 100; omega) xq) (fun v47 u47b hF47 hv47 => ?_)
      obtain ⟨rfl, X47, hG47⟩ := hv47
      obtain ⟨hB47, hM47, hX47, hY47⟩ := hG47.back (fun b hb => (BldR.may hA47 b hb).1) hzi
      have hz47 := Nat.le_trans hzi hF47.size
      have hl47b := NodesM.len hX47
      have eT47 := hF47.root hA47 e38
      refine zza 144 (.v (.pointer (some ⟨b27, 0, none⟩))) (zza 145 (.v (.pointer (some ⟨b27, 0, none⟩))) (zza 146 (.v (.pointer (some ⟨b27, 11, none⟩))) (sy_storeD (b := b27) (off := 11) hB47 hM47 ty3 (show 11 + 1 ≤ 14 by decide) (fun u48 hS48 eB48 => ?_))))
      have hB48 : u48.heap[b27]? = some (.cells (⟨⟨D.b, D.f, D.r, D.o⟩, ⟨W.b, W.f, W.r, W.o⟩, wvN L M, X47, (⟨some ⟨b25, 0, none⟩, Nt.ordS L L.length + Nt.ordS M M.length, Nt.ordS L L.length + Nt.ordS M M.length⟩ : Sl), ((wvN L M + ((wsM W L M M.length).N).length + 1 : Nat) : Int), Nt.p2i W.f, (wsM W L M M.length).f⟩ : BL).cs.toArray 138 (0, 0)) := hS48
      have hX48 := hX47.extB eB48 hB47 yq yq
      have hY48 := hY47.extB eB48 hB47 yq
      have hz48 := Nat.le_trans hz47 eB48.size
      have eT48 : Ext u u48 := (ExtB.toF eB48).old eT47 (fun b hb ob ho => by have h9 := zxa ho; rw [List.mem_singleton] at hb; subst hb; rcases hM47 with h8 | h8; omega; cases h8)
      refine zzb (sq9 (zza 147 (.v (.pointer (some ⟨b27, 0, none⟩))) (zza 148 (.v (.pointer (some ⟨b27, 0, none⟩))) (zza 149 (.v (.pointer (some ⟨b27, 0, none⟩))) (zym 150 [.int .i64 D.b, .int .i64 D.f, .int .i64 D.r, .int .i64 D.o, .int .i64 W.b, .int .i64 W.f, .int .i64 W.r, .int .i64 W.o, .int .i64 (wvN L M : Nat), X47.v, .slice (some ⟨b25, 0, none⟩) (Nt.ordS L L.length + Nt.ordS M M.length) (Nt.ordS L L.length + Nt.ordS M M.length), .int .i64 ((wvN L M + ((wsM W L M M.length).N).length + 1 : Nat) : Int)] (blk_cells hB48 (off := 0) rfl) ty49 (zzj ⟨49, [.int .i64 D.b, .int .i64 D.f, .int .i64 D.r, .int .i64 D.o, .int .i64 W.b, .int .i64 W.f, .int .i64 W.r, .int .i64 W.o, .int .i64 (wvN L M : Nat), X47.v, .slice (some ⟨b25, 0, none⟩) (Nt.ordS L L.length + Nt.ordS M M.length) (Nt.ordS L L.length + Nt.ordS M M.length), .int .i64 ((wvN L M + ((wsM W L M M.length).N).length + 1 : Nat) : Int)]⟩ ty49 ?_))))))
      refine zza 9 (zI 0) (zzb (zzo (ret0 [.agg #[.int .i64 D.b, .int .i64 D.f, .int .i64 D.r, .int .i64 D.o, .int .i64 W.b, .int .i64 W.f, .int .i64 W.r, .int .i64 W.o, .int .i64 (wvN L M : Nat), .slice X47.a X47.n X47.c, .slice (some ⟨b25, 0, none⟩) (Nt.ordS L L.length + Nt.ordS M M.length) (Nt.ordS L L.length + Nt.ordS M M.length), .int .i64 ((wvN L M + ((wsM W L M M.length).N).length + 1 : Nat) : Int)], .int .i64 0] ⟨zzr ty49 zze, zzq, trivial⟩ fun u49 e50 => ?_)))
      refine ⟨X47, (⟨some ⟨b25, 0, none⟩, Nt.ordS L L.length + Nt.ordS M M.length, Nt.ordS L L.length + Nt.ordS M M.length⟩ : Sl), ?_, ⟨_, NodesM.toB (mb := MayB ⟨w, none, []⟩ u) ?_⟩, ?_⟩
      ·rfl
      ·unfold wvO
       rw [hb42, hz2]
       exact hX48.ext e50
      ·exact (hY48.ext e50).toL
theorem k_wapF {u w : World} {D W : WL} {p : PL} {x y : Sl} {L M : List PL} {c : Bool} (d : Dat u w) (hF : ¬ FmOK W) : Calls Tryz.prog 23 #[p.v, W.v] w (Post u w fun v u' => v = .tuple #[.agg #[.slice none 0 0, .slice none 0 0], .int .i64 2]) := by
 refine zzm (args := [.agg #[.int .i64 p.o, .int .i64 p.g, .int .i64 p.h], .agg #[.int .i64 W.b, .int .i64 W.f, .int .i64 W.r, .int .i64 W.o]]) Tryz.func23 rfl Tryz.ntmps23 (rs := [.cell 4 31, .tmp 5]) Tryz.results23 (le_b rfl) (le_b rfl) d ?_
 refine sq9 (zzk 2 ⟨60, [.int .i64 p.o, .int .i64 p.g, .int .i64 p.h]⟩ (zzk 3 ⟨24, W.cs⟩ (zzk 4 ⟨31, [.slice none 0 0, .slice none 0 0]⟩ (zza 5 (zI 0) (zzb (zzd (sq9 (zzi 6 (.v (W.v)) ty24 zze (zzg 7 84 [W.v] ?_)))))))))
 intro w11 u11 e11 d11
 have k14 := k_suitableG (W := W) d11
 with_reducible refine zPm k14 ?_
 rintro _ u12 g13 rfl
 refine zza 8 (zB (!(decide (FmOK W)))) (zzb (zzu (b := !(decide (FmOK W))) xk (fun hb => ?_) (fun hb => ?_)))
 ·clear hb
  refine sq9 (zza 9 (.v (.agg #[.slice none 0 0, .slice none 0 0])) (zzj ⟨31, [.slice none 0 0, .slice none 0 0]⟩ ty31 ?_))
  refine zza 5 (zI 2) (zzb (zzo (zzw (ret0 [.agg #[.slice none 0 0, .slice none 0 0], .int .i64 2] ⟨zzr ty31 zze, zzq, trivial⟩ fun u15 e16 => ?_))))
  rfl
 ·exact absurd hb (by rw [show (!(decide (FmOK W))) = true from (by rw [decide_eq_false hF]; rfl)]; decide)
theorem k_wapP {u w : World} {D W : WL} {p : PL} {x y : Sl} {L M : List PL} {c : Bool} (d : Dat u w) (hF : FmOK W) (hP : ¬ PasOK W.f p) : Calls Tryz.prog 23 #[p.v, W.v] w (Post u w fun v u' => v = .tuple #[.agg #[.slice none 0 0, .slice none 0 0], .int .i64 1]) := by
 refine zzm (args := [.agg #[.int .i64 p.o, .int .i64 p.g, .int .i64 p.h], .agg #[.int .i64 W.b, .int .i64 W.f, .int .i64 W.r, .int .i64 W.o]]) Tryz.func23 rfl Tryz.ntmps23 (rs := [.cell 4 31, .tmp 5]) Tryz.results23 (le_b rfl) (le_b rfl) d ?_
 refine sq9 (zzk 2 ⟨60, [.int .i64 p.o, .int .i64 p.g, .int .i64 p.h]⟩ (zzk 3 ⟨24, W.cs⟩ (zzk 4 ⟨31, [.slice none 0 0, .slice none 0 0]⟩ (zza 5 (zI 0) (zzb (zzd (sq9 (zzi 6 (.v (W.v)) ty24 zze (zzg 7 84 [W.v] ?_)))))))))
 intro w11 u11 e11 d11
 have k14 := k_suitableG (W := W) d11
 with_reducible refine zPm k14 ?_
 rintro _ u12 g13 rfl
 refine zza 8 (zB (!(decide (FmOK W)))) (zzb (zzu (b := !(decide (FmOK W))) xk (fun hb => ?_) (fun hb => ?_)))
 ·exact absurd hb (by rw [show (!(decide (FmOK W))) = false from (by rw [decide_eq_true hF]; rfl)]; decide)
 ·clear hb
  refine zzs (zzp ?_)
  refine zzd (sq9 (zzi 10 (.v (.agg #[.int .i64 p.o, .int .i64 p.g, .int .i64 p.h])) ty60 zze (zzi 11 (.v (W.v)) ty24 zze (zzg 12 85 [.agg #[.int .i64 p.o, .int .i64 p.g, .int .i64 p.h], W.v] ?_))))
  intro w15 u15 e15 d15
  have k18 := k_permittedG (p := p) (W := W) d15 hF.1 hF.2
  with_reducible refine zPm k18 ?_
  rintro _ u16 g17 rfl
  refine zza 13 (zB (!(decide (PasOK W.f p)))) (zzb (zzu (b := !(decide (PasOK W.f p))) xk (fun hb => ?_) (fun hb => ?_)))
  ·clear hb
   refine sq9 (zza 14 (.v (.agg #[.slice none 0 0, .slice none 0 0])) (zzj ⟨31, [.slice none 0 0, .slice none 0 0]⟩ ty31 ?_))
   refine zza 5 (zI 1) (zzb (zzo (zzw (ret0 [.agg #[.slice none 0 0, .slice none 0 0], .int .i64 1] ⟨zzr ty31 zze, zzq, trivial⟩ fun u19 e20 => ?_))))
   rfl
  ·exact absurd hb (by rw [show (!(decide (PasOK W.f p))) = true from (by rw [decide_eq_false hP]; rfl)]; decide)
theorem k_rapF {u w : World} {D W : WL} {p : PL} {x y : Sl} {L M : List PL} {c : Bool} (d : Dat u w) (hF : ¬ FmOK W) : Calls Tryz.prog 24 #[p.v, W.v] w (Post u w fun v u' => v = .tuple #[.agg #[.slice none 0 0, .slice none 0 0], .int .i64 2]) := by
 refine zzm (args := [.agg #[.int .i64 p.o, .int .i64 p.g, .int .i64 p.h], .agg #[.int .i64 W.b, .int .i64 W.f, .int .i64 W.r, .int .i64 W.o]]) Tryz.func24 rfl Tryz.ntmps24 (rs := [.cell 4 31, .tmp 5]) Tryz.results24 (le_b rfl) (le_b rfl) d ?_
 refine sq9 (zzk 2 ⟨60, [.int .i64 p.o, .int .i64 p.g, .int .i64 p.h]⟩ (zzk 3 ⟨24, W.cs⟩ (zzk 4 ⟨31, [.slice none 0 0, .slice none 0 0]⟩ (zza 5 (zI 0) (zzb (zzd (sq9 (zzi 10 (.v (W.v)) ty24 zze (zzg 11 87 [W.v] ?_)))))))))
 intro w11 u11 e11 d11
 have k14 := k_formedG (W := W) d11
 with_reducible refine zPm k14 ?_
 rintro _ u12 g13 rfl
 refine zza 12 (zB (!(decide (FmOK W)))) (zzb (zzu (b := !(decide (FmOK W))) xk (fun hb => ?_) (fun hb => ?_)))
 ·clear hb
  refine sq9 (zza 13 (.v (.agg #[.slice none 0 0, .slice none 0 0])) (zzj ⟨31, [.slice none 0 0, .slice none 0 0]⟩ ty31 ?_))
  refine zza 5 (zI 2) (zzb (zzo (zzw (ret0 [.agg #[.slice none 0 0, .slice none 0 0], .int .i64 2] ⟨zzr ty31 zze, zzq, trivial⟩ fun u15 e16 => ?_))))
  rfl
 ·exact absurd hb (by rw [show (!(decide (FmOK W))) = true from (by rw [decide_eq_false hF]; rfl)]; decide)
theorem k_rapP {u w : World} {D W : WL} {p : PL} {x y : Sl} {L M : List PL} {c : Bool} (d : Dat u w) (hF : FmOK W) (hP : ¬ PasOK W.f p) : Calls Tryz.prog 24 #[p.v, W.v] w (Post u w fun v u' => v = .tuple #[.agg #[.slice none 0 0, .slice none 0 0], .int .i64 1]) := by
 refine zzm (args := [.agg #[.int .i64 p.o, .int .i64 p.g, .int .i64 p.h], .agg #[.int .i64 W.b, .int .i64 W.f, .int .i64 W.r, .int .i64 W.o]]) Tryz.func24 rfl Tryz.ntmps24 (rs := [.cell 4 31, .tmp 5]) Tryz.results24 (le_b rfl) (le_b rfl) d ?_
 refine sq9 (zzk 2 ⟨60, [.int .i64 p.o, .int .i64 p.g, .int .i64 p.h]⟩ (zzk 3 ⟨24, W.cs⟩ (zzk 4 ⟨31, [.slice none 0 0, .slice none 0 0]⟩ (zza 5 (zI 0) (zzb (zzd (sq9 (zzi 10 (.v (W.v)) ty24 zze (zzg 11 87 [W.v] ?_)))))))))
 intro w11 u11 e11 d11
 have k14 := k_formedG (W := W) d11
 with_reducible refine zPm k14 ?_
 rintro _ u12 g13 rfl
 refine zza 12 (zB (!(decide (FmOK W)))) (zzb (zzu (b := !(decide (FmOK W))) xk (fun hb => ?_) (fun hb => ?_)))
 ·exact absurd hb (by rw [show (!(decide (FmOK W))) = false from (by rw [decide_eq_true hF]; rfl)]; decide)
 ·clear hb
  refine zzs (zzp ?_)
  refine zzd (sq9 (zzi 14 (.v (.agg #[.int .i64 p.o, .int .i64 p.g, .int .i64 p.h])) ty60 zze (zzi 15 (.v (W.v)) ty24 zze (zzg 16 88 [.agg #[.int .i64 p.o, .int .i64 p.g, .int .i64 p.h], W.v] ?_))))
  intro w15 u15 e15 d15
  have k18 := k_rpermittedG (p := p) (W := W) d15 hF.1 hF.2
  with_reducible refine zPm k18 ?_
  rintro _ u16 g17 rfl
  refine zza 17 (zB (!(decide (PasOK W.f p)))) (zzb (zzu (b := !(decide (PasOK W.f p))) xk (fun hb => ?_) (fun hb => ?_)))
  ·clear hb
   refine sq9 (zza 18 (.v (.agg #[.slice none 0 0, .slice none 0 0])) (zzj ⟨31, [.slice none 0 0, .slice none 0 0]⟩ ty31 ?_))
   refine zza 5 (zI 1) (zzb (zzo (zzw (ret0 [.agg #[.slice none 0 0, .slice none 0 0], .int .i64 1] ⟨zzr ty31 zze, zzq, trivial⟩ fun u19 e20 => ?_))))
   rfl
  ·exact absurd hb (by rw [show (!(decide (PasOK W.f p))) = true from (by rw [decide_eq_false hP]; rfl)]; decide)
theorem k_widV {u w : World} {D W : WL} {p : PL} {x y : Sl} {L M : List PL} {c : Bool} (d : Dat u w) (hx : PasV u x L) (hy : PasV u y M) (hV : ¬ WvOK W L M) : Calls Tryz.prog 25 #[.agg #[x.v, y.v], W.v] w (Post u w fun v u' => v = .tuple #[.agg #[.slice none 0 0, .slice none 0 0], .agg #[.slice none 0 0, .slice none 0 0], .int .i64 1]) := by
 refine zzm (args := [.agg #[.slice x.a x.n x.c, .slice y.a y.n y.c], .agg #[.int .i64 W.b, .int .i64 W.f, .int .i64 W.r, .int .i64 W.o]]) Tryz.func25 rfl Tryz.ntmps25 (rs := [.cell 4 31, .cell 5 31, .tmp 6]) Tryz.results25 (le_b rfl) (le_b rfl) d ?_
 refine sq9 (zzk 2 ⟨57, [x.v, y.v]⟩ (zzk 3 ⟨24, W.cs⟩ (zzk 4 ⟨31, [.slice none 0 0, .slice none 0 0]⟩ (zzk 5 ⟨31, [.slice none 0 0, .slice none 0 0]⟩ (zza 6 (zI 0) (zzb (zzd (sq9 (zzi 14 (.v (.agg #[x.v, y.v])) ty57 zze (zzi 15 (.v (W.v)) ty24 zze (zzg 16 29 [.agg #[x.v, y.v], W.v] ?_)))))))))))
 intro w11 u11 e11 d11
 have k14 := k_wvValidG (W := W) (x := x) (y := y) (L := L) (M := M) d11 (hx.ext e11) (hy.ext e11)
 with_reducible refine zPm k14 ?_
 rintro _ u12 g13 rfl
 refine zza 17 (zB (!(decide (WvOK W L M)))) (zzb (zzu (b := !(decide (WvOK W L M))) xk (fun hb => ?_) (fun hb => ?_)))
 ·clear hb
  refine sq9 (zza 18 (.v (.agg #[.slice none 0 0, .slice none 0 0])) (zza 19 (.v (.agg #[.slice none 0 0, .slice none 0 0])) (zzj ⟨31, [.slice none 0 0, .slice none 0 0]⟩ ty31 ?_)))
  refine zzj ⟨31, [.slice none 0 0, .slice none 0 0]⟩ ty31 ?_
  refine zza 6 (zI 1) (zzb (zzo (zzw (ret0 [.agg #[.slice none 0 0, .slice none 0 0], .agg #[.slice none 0 0, .slice none 0 0], .int .i64 1] ⟨zzr ty31 zze, zzr ty31 zze, zzq, trivial⟩ fun u15 e16 => ?_))))
  rfl
 ·exact absurd hb (by rw [show (!(decide (WvOK W L M))) = true from (by rw [decide_eq_false hV]; rfl)]; decide)
theorem k_ridV {u w : World} {D W : WL} {p : PL} {x y : Sl} {L M : List PL} {c : Bool} (d : Dat u w) (hx : PasV u x L) (hy : PasV u y M) (hV : ¬ WvOK W L M) : Calls Tryz.prog 26 #[.agg #[x.v, y.v], W.v] w (Post u w fun v u' => v = .tuple #[.agg #[.slice none 0 0, .slice none 0 0], .agg #[.slice none 0 0, .slice none 0 0], .int .i64 1]) := by
 refine zzm (args := [.agg #[.slice x.a x.n x.c, .slice y.a y.n y.c], .agg #[.int .i64 W.b, .int .i64 W.f, .int .i64 W.r, .int .i64 W.o]]) Tryz.func26 rfl Tryz.ntmps26 (rs := [.cell 4 31, .cell 5 31, .tmp 6]) Tryz.results26 (le_b rfl) (le_b rfl) d ?_
 refine sq9 (zzk 2 ⟨57, [x.v, y.v]⟩ (zzk 3 ⟨24, W.cs⟩ (zzk 4 ⟨31, [.slice none 0 0, .slice none 0 0]⟩ (zzk 5 ⟨31, [.slice none 0 0, .slice none 0 0]⟩ (zza 6 (zI 0) (zzb (zzd (sq9 (zzi 13 (.v (.agg #[x.v, y.v])) ty57 zze (zzi 14 (.v (W.v)) ty24 zze (zzg 15 30 [.agg #[x.v, y.v], W.v] ?_)))))))))))
 intro w11 u11 e11 d11
 have k14 := k_rwvValidG (W := W) (x := x) (y := y) (L := L) (M := M) d11 (hx.ext e11) (hy.ext e11)
 with_reducible refine zPm k14 ?_
 rintro _ u12 g13 rfl
 refine zza 16 (zB (!(decide (WvOK W L M)))) (zzb (zzu (b := !(decide (WvOK W L M))) xk (fun hb => ?_) (fun hb => ?_)))
 ·clear hb
  refine sq9 (zza 17 (.v (.agg #[.slice none 0 0, .slice none 0 0])) (zza 18 (.v (.agg #[.slice none 0 0, .slice none 0 0])) (zzj ⟨31, [.slice none 0 0, .slice none 0 0]⟩ ty31 ?_)))
  refine zzj ⟨31, [.slice none 0 0, .slice none 0 0]⟩ ty31 ?_
  refine zza 6 (zI 1) (zzb (zzo (zzw (ret0 [.agg #[.slice none 0 0, .slice none 0 0], .agg #[.slice none 0 0, .slice none 0 0], .int .i64 1] ⟨zzr ty31 zze, zzr ty31 zze, zzq, trivial⟩ fun u15 e16 => ?_))))
  rfl
 ·exact absurd hb (by rw [show (!(decide (WvOK W L M))) = true from (by rw [decide_eq_false hV]; rfl)]; decide)
theorem k_wbuD {u w : World} {D W : WL} {p : PL} {x y : Sl} {L M : List PL} {c : Bool} (d : Dat u w) (hx : PasV u x L) (hy : PasV u y M) (hD : ¬ WdOK D) : Calls Tryz.prog 27 #[.agg #[x.v, y.v], D.v, W.v, .bool c] w (Post u w fun v u' => v = .tuple #[.agg #[.int .i64 0, .int .i64 0, .int .i64 0, .int .i64 0, .int .i64 0, .int .i64 0, .int .i64 0, .int .i64 0, .int .i64 0, .slice none 0 0, .slice none 0 0, .int .i64 0], .int .i64 2]) := by
 refine zzm (args := [.agg #[.slice x.a x.n x.c, .slice y.a y.n y.c], .agg #[.int .i64 D.b, .int .i64 D.f, .int .i64 D.r, .int .i64 D.o], .agg #[.int .i64 W.b, .int .i64 W.f, .int .i64 W.r, .int .i64 W.o], .bool c]) Tryz.func27 rfl Tryz.ntmps27 (rs := [.cell 8 49, .tmp 9]) Tryz.results27 (le_b rfl) (le_b rfl) d ?_
 refine sq9 (zzk 4 ⟨57, [x.v, y.v]⟩ (zzk 5 ⟨24, D.cs⟩ (zzk 6 ⟨24, W.cs⟩ (zzk 8 ⟨49, [.int .i64 0, .int .i64 0, .int .i64 0, .int .i64 0, .int .i64 0, .int .i64 0, .int .i64 0, .int .i64 0, .int .i64 0, .slice none 0 0, .slice none 0 0, .int .i64 0]⟩ (zza 9 (zI 0) (zzb (zzd (sq9 (zzi 22 (.v (D.v)) ty24 zze (zzg 23 75 [D.v] ?_))))))))))
 intro w11 u11 e11 d11
 have k14 := k_fxValidG (W := D) d11
 with_reducible refine zPm k14 ?_
 rintro _ u12 g13 rfl
 refine zza 24 (zB (!(decide (WdOK D)))) (zzb (zzu (b := !(decide (WdOK D))) xk (fun hb => ?_) (fun hb => ?_)))
 ·clear hb
  refine sq9 (zza 25 (.v (.agg #[.int .i64 0, .int .i64 0, .int .i64 0, .int .i64 0, .int .i64 0, .int .i64 0, .int .i64 0, .int .i64 0, .int .i64 0, .slice none 0 0, .slice none 0 0, .int .i64 0])) (zzj ⟨49, [.int .i64 0, .int .i64 0, .int .i64 0, .int .i64 0, .int .i64 0, .int .i64 0, .int .i64 0, .int .i64 0, .int .i64 0, .slice none 0 0, .slice none 0 0, .int .i64 0]⟩ ty49 ?_))
  refine zza 9 (zI 2) (zzb (zzo (zzw (ret0 [.agg #[.int .i64 0, .int .i64 0, .int .i64 0, .int .i64 0, .int .i64 0, .int .i64 0, .int .i64 0, .int .i64 0, .int .i64 0, .slice none 0 0, .slice none 0 0, .int .i64 0], .int .i64 2] ⟨zzr ty49 zze, zzq, trivial⟩ fun u15 e16 => ?_))))
  rfl
 ·exact absurd hb (by rw [show (!(decide (WdOK D))) = true from (by rw [decide_eq_false hD]; rfl)]; decide)
theorem k_wbuV {u w : World} {D W : WL} {p : PL} {x y : Sl} {L M : List PL} {c : Bool} (d : Dat u w) (hx : PasV u x L) (hy : PasV u y M) (hD : WdOK D) (hV : ¬ WvOK W L M) : Calls Tryz.prog 27 #[.agg #[x.v, y.v], D.v, W.v, .bool c] w (Post u w fun v u' => v = .tuple #[.agg #[.int .i64 0, .int .i64 0, .int .i64 0, .int .i64 0, .int .i64 0, .int .i64 0, .int .i64 0, .int .i64 0, .int .i64 0, .slice none 0 0, .slice none 0 0, .int .i64 0], .int .i64 1]) := by
 refine zzm (args := [.agg #[.slice x.a x.n x.c, .slice y.a y.n y.c], .agg #[.int .i64 D.b, .int .i64 D.f, .int .i64 D.r, .int .i64 D.o], .agg #[.int .i64 W.b, .int .i64 W.f, .int .i64 W.r, .int .i64 W.o], .bool c]) Tryz.func27 rfl Tryz.ntmps27 (rs := [.cell 8 49, .tmp 9]) Tryz.results27 (le_b rfl) (le_b rfl) d ?_
 refine sq9 (zzk 4 ⟨57, [x.v, y.v]⟩ (zzk 5 ⟨24, D.cs⟩ (zzk 6 ⟨24, W.cs⟩ (zzk 8 ⟨49, [.int .i64 0, .int .i64 0, .int .i64 0, .int .i64 0, .int .i64 0, .int .i64 0, .int .i64 0, .int .i64 0, .int .i64 0, .slice none 0 0, .slice none 0 0, .int .i64 0]⟩ (zza 9 (zI 0) (zzb (zzd (sq9 (zzi 22 (.v (D.v)) ty24 zze (zzg 23 75 [D.v] ?_))))))))))
 intro w11 u11 e11 d11
 have k14 := k_fxValidG (W := D) d11
 with_reducible refine zPm k14 ?_
 rintro _ u12 g13 rfl
 refine zza 24 (zB (!(decide (WdOK D)))) (zzb (zzu (b := !(decide (WdOK D))) xk (fun hb => ?_) (fun hb => ?_)))
 ·exact absurd hb (by rw [show (!(decide (WdOK D))) = false from (by rw [decide_eq_true hD]; rfl)]; decide)
 ·clear hb
  refine zzs (zzp ?_)
  refine zzd (sq9 (zzi 26 (.v (.agg #[x.v, y.v])) ty57 zze (zzi 27 (.v (W.v)) ty24 zze (zzg 28 29 [.agg #[x.v, y.v], W.v] ?_))))
  intro w15 u15 e15 d15
  have k18 := k_wvValidG (W := W) (x := x) (y := y) (L := L) (M := M) d15 (hx.ext (e11.trans (g13.ext.trans e15))) (hy.ext (e11.trans (g13.ext.trans e15)))
  with_reducible refine zPm k18 ?_
  rintro _ u16 g17 rfl
  refine zza 29 (zB (!(decide (WvOK W L M)))) (zzb (zzu (b := !(decide (WvOK W L M))) xk (fun hb => ?_) (fun hb => ?_)))
  ·clear hb
   refine sq9 (zza 30 (.v (.agg #[.int .i64 0, .int .i64 0, .int .i64 0, .int .i64 0, .int .i64 0, .int .i64 0, .int .i64 0, .int .i64 0, .int .i64 0, .slice none 0 0, .slice none 0 0, .int .i64 0])) (zzj ⟨49, [.int .i64 0, .int .i64 0, .int .i64 0, .int .i64 0, .int .i64 0, .int .i64 0, .int .i64 0, .int .i64 0, .int .i64 0, .slice none 0 0, .slice none 0 0, .int .i64 0]⟩ ty49 ?_))
   refine zza 9 (zI 1) (zzb (zzo (zzw (ret0 [.agg #[.int .i64 0, .int .i64 0, .int .i64 0, .int .i64 0, .int .i64 0, .int .i64 0, .int .i64 0, .int .i64 0, .int .i64 0, .slice none 0 0, .slice none 0 0, .int .i64 0], .int .i64 1] ⟨zzr ty49 zze, zzq, trivial⟩ fun u19 e20 => ?_))))
   rfl
  ·exact absurd hb (by rw [show (!(decide (WvOK W L M))) = true from (by rw [decide_eq_false hV]; rfl)]; decide)
theorem k_rbuD {u w : World} {D W : WL} {p : PL} {x y : Sl} {L M : List PL} {c : Bool} (d : Dat u w) (hx : PasV u x L) (hy : PasV u y M) (hD : ¬ WdOK D) : Calls Tryz.prog 28 #[.agg #[x.v, y.v], D.v, W.v, .bool c] w (Post u w fun v u' => v = .tuple #[.agg #[.int .i64 0, .int .i64 0, .int .i64 0, .int .i64 0, .int .i64 0, .int .i64 0, .int .i64 0, .int .i64 0, .int .i64 0, .slice none 0 0, .slice none 0 0, .int .i64 0], .int .i64 2]) := by
 refine zzm (args := [.agg #[.slice x.a x.n x.c, .slice y.a y.n y.c], .agg #[.int .i64 D.b, .int .i64 D.f, .int .i64 D.r, .int .i64 D.o], .agg #[.int .i64 W.b, .int .i64 W.f, .int .i64 W.r, .int .i64 W.o], .bool c]) Tryz.func28 rfl Tryz.ntmps28 (rs := [.cell 8 49, .tmp 9]) Tryz.results28 (le_b rfl) (le_b rfl) d ?_
 refine sq9 (zzk 4 ⟨57, [x.v, y.v]⟩ (zzk 5 ⟨24, D.cs⟩ (zzk 6 ⟨24, W.cs⟩ (zzk 8 ⟨49, [.int .i64 0, .int .i64 0, .int .i64 0, .int .i64 0, .int .i64 0, .int .i64 0, .int .i64 0, .int .i64 0, .int .i64 0, .slice none 0 0, .slice none 0 0, .int .i64 0]⟩ (zza 9 (zI 0) (zzb (zzd (sq9 (zzi 18 (.v (D.v)) ty24 zze (zzg 19 68 [D.v] ?_))))))))))
 intro w11 u11 e11 d11
 have k14 := k_r21ValidG (W := D) d11
 with_reducible refine zPm k14 ?_
 rintro _ u12 g13 rfl
 refine zza 20 (zB (!(decide (WdOK D)))) (zzb (zzu (b := !(decide (WdOK D))) xk (fun hb => ?_) (fun hb => ?_)))
 ·clear hb
  refine sq9 (zza 21 (.v (.agg #[.int .i64 0, .int .i64 0, .int .i64 0, .int .i64 0, .int .i64 0, .int .i64 0, .int .i64 0, .int .i64 0, .int .i64 0, .slice none 0 0, .slice none 0 0, .int .i64 0])) (zzj ⟨49, [.int .i64 0, .int .i64 0, .int .i64 0, .int .i64 0, .int .i64 0, .int .i64 0, .int .i64 0, .int .i64 0, .int .i64 0, .slice none 0 0, .slice none 0 0, .int .i64 0]⟩ ty49 ?_))
  refine zza 9 (zI 2) (zzb (zzo (zzw (ret0 [.agg #[.int .i64 0, .int .i64 0, .int .i64 0, .int .i64 0, .int .i64 0, .int .i64 0, .int .i64 0, .int .i64 0, .int .i64 0, .slice none 0 0, .slice none 0 0, .int .i64 0], .int .i64 2] ⟨zzr ty49 zze, zzq, trivial⟩ fun u15 e16 => ?_))))
  rfl
 ·exact absurd hb (by rw [show (!(decide (WdOK D))) = true from (by rw [decide_eq_false hD]; rfl)]; decide)
theorem k_rbuV {u w : World} {D W : WL} {p : PL} {x y : Sl} {L M : List PL} {c : Bool} (d : Dat u w) (hx : PasV u x L) (hy : PasV u y M) (hD : WdOK D) (hV : ¬ WvOK W L M) : Calls Tryz.prog 28 #[.agg #[x.v, y.v], D.v, W.v, .bool c] w (Post u w fun v u' => v = .tuple #[.agg #[.int .i64 0, .int .i64 0, .int .i64 0, .int .i64 0, .int .i64 0, .int .i64 0, .int .i64 0, .int .i64 0, .int .i64 0, .slice none 0 0, .slice none 0 0, .int .i64 0], .int .i64 1]) := by
 refine zzm (args := [.agg #[.slice x.a x.n x.c, .slice y.a y.n y.c], .agg #[.int .i64 D.b, .int .i64 D.f, .int .i64 D.r, .int .i64 D.o], .agg #[.int .i64 W.b, .int .i64 W.f, .int .i64 W.r, .int .i64 W.o], .bool c]) Tryz.func28 rfl Tryz.ntmps28 (rs := [.cell 8 49, .tmp 9]) Tryz.results28 (le_b rfl) (le_b rfl) d ?_
 refine sq9 (zzk 4 ⟨57, [x.v, y.v]⟩ (zzk 5 ⟨24, D.cs⟩ (zzk 6 ⟨24, W.cs⟩ (zzk 8 ⟨49, [.int .i64 0, .int .i64 0, .int .i64 0, .int .i64 0, .int .i64 0, .int .i64 0, .int .i64 0, .int .i64 0, .int .i64 0, .slice none 0 0, .slice none 0 0, .int .i64 0]⟩ (zza 9 (zI 0) (zzb (zzd (sq9 (zzi 18 (.v (D.v)) ty24 zze (zzg 19 68 [D.v] ?_))))))))))
 intro w11 u11 e11 d11
 have k14 := k_r21ValidG (W := D) d11
 with_reducible refine zPm k14 ?_
 rintro _ u12 g13 rfl
 refine zza 20 (zB (!(decide (WdOK D)))) (zzb (zzu (b := !(decide (WdOK D))) xk (fun hb => ?_) (fun hb => ?_)))
 ·exact absurd hb (by rw [show (!(decide (WdOK D))) = false from (by rw [decide_eq_true hD]; rfl)]; decide)
 ·clear hb
  refine zzs (zzp ?_)
  refine zzd (sq9 (zzi 22 (.v (.agg #[x.v, y.v])) ty57 zze (zzi 23 (.v (W.v)) ty24 zze (zzg 24 30 [.agg #[x.v, y.v], W.v] ?_))))
  intro w15 u15 e15 d15
  have k18 := k_rwvValidG (W := W) (x := x) (y := y) (L := L) (M := M) d15 (hx.ext (e11.trans (g13.ext.trans e15))) (hy.ext (e11.trans (g13.ext.trans e15)))
  with_reducible refine zPm k18 ?_
  rintro _ u16 g17 rfl
  refine zza 25 (zB (!(decide (WvOK W L M)))) (zzb (zzu (b := !(decide (WvOK W L M))) xk (fun hb => ?_) (fun hb => ?_)))
  ·clear hb
   refine sq9 (zza 26 (.v (.agg #[.int .i64 0, .int .i64 0, .int .i64 0, .int .i64 0, .int .i64 0, .int .i64 0, .int .i64 0, .int .i64 0, .int .i64 0, .slice none 0 0, .slice none 0 0, .int .i64 0])) (zzj ⟨49, [.int .i64 0, .int .i64 0, .int .i64 0, .int .i64 0, .int .i64 0, .int .i64 0, .int .i64 0, .int .i64 0, .int .i64 0, .slice none 0 0, .slice none 0 0, .int .i64 0]⟩ ty49 ?_))
   refine zza 9 (zI 1) (zzb (zzo (zzw (ret0 [.agg #[.int .i64 0, .int .i64 0, .int .i64 0, .int .i64 0, .int .i64 0, .int .i64 0, .int .i64 0, .int .i64 0, .int .i64 0, .slice none 0 0, .slice none 0 0, .int .i64 0], .int .i64 1] ⟨zzr ty49 zze, zzq, trivial⟩ fun u19 e20 => ?_))))
   rfl
  ·exact absurd hb (by rw [show (!(decide (WvOK W L M))) = true from (by rw [decide_eq_false hV]; rfl)]; decide)
namespace Nt
variable {n : Nat} {U : Int} {L : List PL} {st : WS}
theorem secN_tm (U : Int) (p : PL) (f : Nat) (u : Int) (m : Nat) : ∀ t ∈ secN U p f u m, t.length ≤ 2 := fun t ht => by
 unfold secN at ht
 split at ht
 ·simp [adN] at ht
  rcases ht with rfl | rfl | rfl <;> simp
 ·simp [adN] at ht
  rcases ht with rfl | rfl | rfl | rfl | rfl | rfl <;> simp
theorem ws_tm (h : ∀ t ∈ st.N, t.length ≤ 2) (i : Nat) : ∀ t ∈ (wsS n U L st i).N, t.length ≤ 2 := by
 induction i with
 | zero => exact h
 | succ i ih =>
  intro t ht
  rcases List.mem_append.1 (show t ∈ (wsS n U L st i).N ++ secN _ _ _ _ _ from ht) with h1 | h1
  ·exact ih t h1
  ·exact secN_tm _ _ _ _ _ t h1
theorem mem_set' {l : List Int} {i : Nat} {a z : Int} (h : z ∈ l.set i a) : z ∈ l ∨ z = a := List.mem_or_eq_of_mem_set h
theorem ws_bd {B : Nat} (h : ∀ z ∈ st.s, 0 ≤ z ∧ z ≤ (B : Int)) (i : Nat) (hB : n + st.N.length + 6 * i + 6 ≤ B) : ∀ z ∈ (wsS n U L st i).s, 0 ≤ z ∧ z ≤ (B : Int) := by
 induction i with
 | zero => exact h
 | succ i ih =>
  intro z hz
  have hN := ws_N (n := n) (U := U) (L := L) (st := st) i
  have hz : z ∈ secX (L.getD i pl0) (wsS n U L st i).f (n + (wsS n U L st i).N.length + 1) (wsS n U L st i).s := hz
  have ih := ih xq
  unfold secX at hz
  split at hz
  ·rcases mem_set' hz with h1 | h1
   ·exact ih z h1
   ·subst h1; omega
  ·rcases mem_set' hz with h1 | h1
   ·rcases mem_set' h1 with h2 | h2
    ·exact ih z h2
    ·subst h2; omega
   ·subst h1; omega
end Nt
theorem wv_bounds (U : Int) {L M : List PL} (hL : L.length ≤ 4) (hM : M.length ≤ 4) (c : Bool) : (∀ z ∈ (wvB U L M).s, -9223372036854775808 ≤ z ∧ z ≤ 9223372036854775807) ∧ (wvB U L M).s.length ≤ 1000 ∧ (wvO U L M c).length ≤ 1000 ∧ ∀ i, i < (wvO U L M c).length → ((wvO U L M c).getD i []).length ≤ 1000 := by
 have h1 := Nt.ordS_le L L.length
 have h2 := Nt.ordS_le M M.length
 have hn : wvN L M ≤ 16 := by unfold wvN; omega
 have hNT : (wvT U L M).N.length ≤ 24 := Nat.le_trans (Nt.ws_N _) zq
 have hNB : (wvB U L M).N.length ≤ 48 := Nat.le_trans (Nt.ws_N _) (by show (wvT U L M).N.length + _ ≤ _; omega)
 have hsT : (wvT U L M).s.length = wvN L M := (Nt.ws_s _).trans zj
 have hsB : (wvB U L M).s.length = wvN L M := (Nt.ws_s _).trans hsT
 have bT : ∀ z ∈ (wvT U L M).s, 0 ≤ z ∧ z ≤ ((200 : Nat) : Int) := Nt.ws_bd (fun z hz => by have := List.eq_of_mem_replicate hz; subst this; omega) _ zq
 have bB : ∀ z ∈ (wvB U L M).s, 0 ≤ z ∧ z ≤ ((200 : Nat) : Int) := Nt.ws_bd (st := ⟨(wvT U L M).N, (wvT U L M).s, (wvT U L M).f, 0⟩) bT M.length (by show _ + (wvT U L M).N.length + _ + _ ≤ _; omega)
 have tT : ∀ t ∈ (wvT U L M).N, t.length ≤ 2 := Nt.ws_tm (fun t ht => by cases ht) _
 have tB : ∀ t ∈ (wvB U L M).N, t.length ≤ 2 := Nt.ws_tm (st := ⟨(wvT U L M).N, (wvT U L M).s, (wvT U L M).f, 0⟩) tT _
 refine ⟨fun z hz => by have := bB z hz; omega, by omega, by unfold wvO; rw [List.length_append]; simp; omega, fun i hi => ?_⟩
 have hm : (wvO U L M c).getD i [] ∈ wvO U L M c := by
  rw [List.getD_eq_getElem?_getD, List.getElem?_eq_getElem hi]
  exact List.getElem_mem _
 generalize (wvO U L M c).getD i [] = t at hm
 unfold wvO at hm
 rcases List.mem_append.1 hm with h3 | h3
 ·have := tB t h3; omega
 ·rw [List.mem_singleton] at h3; subst h3; simp
theorem Nt.id_len {f : Int} {L M : List PL} (hL : L.length ≤ 4) (hM : M.length ≤ 4) : (Nt.trimQ ((Nt.trimQ (Nt.addQ (Nt.trimQ (Nt.mulQ (Nt.prodB f L L.length) (Nt.prodA f M M.length))) (Nt.trimQ (Nt.mulQ (Nt.prodB f M M.length) (Nt.prodA f L L.length))))).map (· * (((1 : Int) : Rat) / ((2 : Int) : Rat))))).length ≤ 17 ∧ (Nt.trimQ ((Nt.trimQ (Nt.addQ (Nt.trimQ (Nt.mulQ (Nt.prodB f L L.length) (Nt.prodA f M M.length))) ((Nt.trimQ (Nt.mulQ (Nt.prodB f M M.length) (Nt.prodA f L L.length))).map (fun z => -z)))).map (· * (((1 : Int) : Rat) / ((2 : Int) : Rat))))).length ≤ 17 ∧ (Nt.trimQ (Nt.mulQ (Nt.prodA f L L.length) (Nt.prodA f M M.length))).length ≤ 17 := by
 have hb : ∀ {L : List PL}, L.length ≤ 4 → (Nt.prodB f L L.length).length ≤ 9 := fun {L} h => by have h9 := (Nt.zwg f L L.length).1; omega
 have ha : ∀ {L : List PL}, L.length ≤ 4 → (Nt.prodA f L L.length).length ≤ 9 := fun {L} h => by have h9 := (Nt.zwg f L L.length).2; omega
 have h1 := Nt.zxv (hb hL) (ha hM)
 have h2 := Nt.zxv (hb hM) (ha hL)
 exact ⟨Nt.map_lenQ (Nt.add_lenQ h1 h2), Nt.map_lenQ (Nt.add_lenQ h1 (by rw [List.length_map]; exact h2 : (List.map (fun z : Rat => -z) _).length ≤ 9 + 9 - 1)), Nt.zxv (ha hL) (ha hM)⟩
set_option maxHeartbeats 4000000 in
theorem k_known26 {u w : World} (d : Dat u w) : Calls Tryz.prog 22 #[] w (Post u w fun v _ => v = .bool true) := by
 refine zzm (args := []) Tryz.func22 rfl Tryz.ntmps22 (rs := [.tmp 0]) Tryz.results22 (le_b rfl) (le_b rfl) d ?_
 refine sq9 (zza 0 (zB false) (zzb (sq9 (zza 8 (.v (.agg #[.int .i64 8, .int .i64 4, .int .i64 1, .int .i64 1])) (zzk 1 ⟨24, [.int .i64 0, .int .i64 0, .int .i64 0, .int .i64 0]⟩ (zzj ⟨24, [.int .i64 8, .int .i64 4, .int .i64 1, .int .i64 1]⟩ ty24 ?_))))))
 refine zzb (sq9 (zza 10 (.v (.agg #[.int .i64 8, .int .i64 0])) (zza 11 (.v (.agg #[.int .i64 1, .int .i64 8, .int .i64 0])) (zzi 12 (.v (.agg #[.int .i64 8, .int .i64 4, .int .i64 1, .int .i64 1])) ty24 zze (zzg 13 23 [.agg #[.int .i64 1, .int .i64 8, .int .i64 0], .agg #[.int .i64 8, .int .i64 4, .int .i64 1, .int .i64 1]] ?_)))))
 intro w11 u11 e11 d11
 have k18 := k_wAllPass (p := (⟨1, 8, 0⟩ : PL)) (W := (⟨8, 4, 1, 1⟩ : WL)) d11 (show WdOK (⟨8, 4, 1, 1⟩ : WL) by unfold WdOK; decide) yq (show PasOK (⟨8, 4, 1, 1⟩ : WL).f (⟨1, 8, 0⟩ : PL) by unfold PasOK; decide)
 with_reducible refine zPm k18 ?_
 rintro _ u16 g17 ⟨y12, y13, rfl, h14, h15⟩
 have hly12 := h14.len
 have hmy12 := Nat.le_trans (Nt.zzh (Nt.secB (⟨8, 4, 1, 1⟩ : WL).f (⟨1, 8, 0⟩ : PL))) (Nt.sec_len (⟨8, 4, 1, 1⟩ : WL).f (⟨1, 8, 0⟩ : PL)).1
 have hly13 := h15.len
 have hmy13 := Nat.le_trans (Nt.zzh (Nt.secA (⟨8, 4, 1, 1⟩ : WL).f (⟨1, 8, 0⟩ : PL))) (Nt.sec_len (⟨8, 4, 1, 1⟩ : WL).f (⟨1, 8, 0⟩ : PL)).2
 refine zza 9 (.v (.tuple #[.agg #[y12.v, y13.v], .int .i64 0])) (zza 14 (.v (.agg #[y12.v, y13.v])) (zza 15 (zI 0) (zzk 2 ⟨31, [.slice none 0 0, .slice none 0 0]⟩ (zzj ⟨31, [y12.v, y13.v]⟩ ty31 ?_))))
 refine zza 3 (zI 0) (zzb (sq9 (zza 17 (.v (.agg #[.slice none 0 0, .slice none 0 0])) (zzi 18 (.v (.agg #[.int .i64 8, .int .i64 4, .int .i64 1, .int .i64 1])) ty24 zze (zzg 19 25 [.agg #[.slice none 0 0, .slice none 0 0], .agg #[.int .i64 8, .int .i64 4, .int .i64 1, .int .i64 1]] ?_)))))
 intro w19 u19 e19 d19
 have k31 := k_wIdeal (W := (⟨8, 4, 1, 1⟩ : WL)) d19 (pas_nil _) pas_all0 yq (pas_nil _) pas_all0 yq (show WdOK (⟨8, 4, 1, 1⟩ : WL) by unfold WdOK; decide) yq
 with_reducible refine zPm k31 ?_
 rintro _ u29 g30 ⟨y20, y21, y22, y23, rfl, h24, h25, h26, h27⟩
 have hly20 := h24.len
 have hly21 := h25.len
 have hly22 := h26.len
 have hly23 := h27.len
 have hq28 := Nt.id_len (f := (⟨8, 4, 1, 1⟩ : WL).f) (L := []) (M := []) yq yq
 refine zza 16 (.v (.tuple #[.agg #[y20.v, y21.v], .agg #[y22.v, y23.v], .int .i64 0])) (zza 20 (.v (.agg #[y20.v, y21.v])) (zza 21 (.v (.agg #[y22.v, y23.v])) (zza 22 (zI 0) (zzk 4 ⟨31, [.slice none 0 0, .slice none 0 0]⟩ (zzk 5 ⟨31, [.slice none 0 0, .slice none 0 0]⟩ (zzj ⟨31, [y20.v, y21.v]⟩ ty31 ?_))))))
 refine zzj ⟨31, [y22.v, y23.v]⟩ ty31 ?_
 refine zza 6 (zI 0) (zzb (sq9 (zzg 23 72 [.int .i64 (-1), .int .i64 2] ?_)))
 intro w32 u32 e32 d32
 have k37 := k_rqFrac d32 (a := (-1)) (b := 2) xq xq xq xq
 with_reducible refine zPm k37 ?_
 rintro _ u35 g36 ⟨r33, rfl, h34⟩
 refine zzk 7 ⟨41, [.bool false, .slice none 0 0, .slice none 0 0]⟩ (zzj ⟨41, r33.cs⟩ ty41 ?_)
 refine zzb (zzd (zzz [0, 1, 3, 7, 15, 31, 63, 127, 255, 127, 127, 1663, 4095, 8191, 16383, 32767, 65535, 32767, 32767, 425983, 1048575, 2097151, 4194303, 8388607, 16777215, 8388607, 41943039, 134217727, 268435455, 536870911, 1073741823, 2147483647, 4294967295, 8589934591, 17179869183, 34359738367] [(0, []), (1, []), (2, []), (3, []), (4, []), (5, []), (6, []), (7, []), (8, []), (9, []), (10, []), (11, []), (12, [35]), (13, []), (14, []), (15, []), (16, []), (18, []), (17, []), (19, []), (20, [43]), (21, []), (22, []), (23, []), (24, []), (25, []), (26, []), (27, []), (28, []), (29, []), (30, []), (31, []), (32, []), (33, []), (34, []), (35, [])] xk xk (zza 24 (zI 0) (zza 25 (zB true) (zza 26 (zB true) (zza 27 (zI 0) ?_ (hw := w1 2 true 26)))))))
 refine zza 28 (zB true) ?_ (hw := w1 2 true 26)
 refine zza 29 (zB true) (zza 30 (zB true) (zza 31 (.adr 2 0) ?_ (hw := w1 6 true 30)))
 refine zzi 32 (.v y12.v) ty29 zzl ?_ (hw := w1 6 true 30)
 refine zzi 33 (.v (r33.v)) ty41 zze ?_ (hw := w1 6 true 30)
 refine zzg 34 13 [.int .i64 1] ?_ (hw := w1 6 true 30)
 intro w38 u38 e38 d38
 have k43 := k_rqOf d38 (z := 1) xq xq
 with_reducible refine zPm k43 ?_
 rintro _ u41 g42 ⟨r39, rfl, h40⟩
 refine sy_lit 35 ⟨41, r33.cs ++ r39.cs⟩ 2 ?_ (hw := w1 6 true 30)
 refine zyo 36 74 [.v y12.v, .slc 35 0 2 2] [35] (.inr rfl) (pub_mk xz) (k := ?_) (hw := w1 6 true 30)
 intro B44 w44 u44 e44 d44 v44
 have h46 : u44.heap[B44 35]? = some (.cells #[.bool r33.s, .slice r33.m.a r33.m.n r33.m.c, .slice r33.d.a r33.d.n r33.d.c, .bool r39.s, .slice r39.m.a r39.m.n r39.m.c, .slice r39.d.a r39.d.n r39.d.c] 41 (0, 0)) := v44 35 zj _ rfl
 obtain ⟨b45, hBb45⟩ : ∃ b, B44 35 = b := ⟨_, rfl⟩
 rw [hBb45] at h46
 have hp47 : PolN u44 (⟨some ⟨b45, 0, none⟩, 2, 2⟩ : Sl) [((((-1) : Int) : Rat) / ((2 : Int) : Rat)), ((1 : Int) : Rat)] (max 3 2) := pol_lit (L := [r33, r39]) h46 (rats2 (RatN.more (L := (max 3 2)) (h34.ext (e38.trans (g42.ext.trans e44))) xq) (RatN.more (L := (max 3 2)) (h40.ext e44) xq)) rfl yq
 show Calls _ _ #[.slice y12.a y12.n y12.c, .slice (some ⟨B44 35, 0, none⟩) 2 2] _ _
 rw [hBb45]
 have k50 := k_r5Same d44 (h14.ext (e19.trans (g30.ext.trans (e32.trans (g36.ext.trans (e38.trans (g42.ext.trans e44))))))).raw hp47.raw xq xq (by have h9 := hmy12; omega) (by first | omega | (simp; done) | (simp; omega) | (refine Nat.le_trans (Nt.zzh _) ?_; rw [Nt.addQ_len]; omega) | (refine Nat.le_trans (Nt.zzh _) ?_; have h9 := Nt.sec_len; exact Nat.le_trans (h9 _ _).1 yq) | (refine Nat.le_trans (Nt.zzh _) ?_; have h9 := Nt.sec_len; exact Nat.le_trans (h9 _ _).2 yq))
 with_reducible refine zPm k50 ?_
 rintro _ u48 g49 rfl
 refine zza 37 (zB (decide (Nt.trimQ (Nt.trimQ (Nt.secB (⟨8, 4, 1, 1⟩ : WL).f (⟨1, 8, 0⟩ : PL))) = Nt.trimQ [((((-1) : Int) : Rat) / ((2 : Int) : Rat)), ((1 : Int) : Rat)]))) (zyq 38 (x := zB (decide (Nt.trimQ (Nt.trimQ (Nt.secB (⟨8, 4, 1, 1⟩ : WL).f (⟨1, 8, 0⟩ : PL))) = Nt.trimQ [((((-1) : Int) : Rat) / ((2 : Int) : Rat)), ((1 : Int) : Rat)]))) (zB true) (by rw [show (decide (Nt.trimQ (Nt.trimQ (Nt.secB (⟨8, 4, 1, 1⟩ : WL).f (⟨1, 8, 0⟩ : PL))) = Nt.trimQ [((((-1) : Int) : Rat) / ((2 : Int) : Rat)), ((1 : Int) : Rat)])) = true from decide_eq_true (by decide +kernel)]) (zza 39 (.adr 2 1) ?_ (hw := w1 14 true 38)))
 refine zzi 40 (.v y13.v) ty29 zzl ?_ (hw := w1 14 true 38)
 refine zzi 42 (.v (r33.v)) ty41 zze ?_ (hw := w1 14 true 38)
 refine zzg 41 13 [.int .i64 1] ?_ (hw := w1 14 true 38)
 intro w52 u52 e52 d52
 have k57 := k_rqOf d52 (z := 1) xq xq
 with_reducible refine zPm k57 ?_
 rintro _ u55 g56 ⟨r53, rfl, h54⟩
 refine sy_lit 43 ⟨41, r53.cs ++ r33.cs⟩ 2 ?_ (hw := w1 14 true 38)
 refine zyo 44 74 [.v y13.v, .slc 43 0 2 2] [43] (.inr rfl) (pub_mk xz) (k := ?_) (hw := w1 14 true 38)
 intro B58 w58 u58 e58 d58 v58
 have h60 : u58.heap[B58 43]? = some (.cells #[.bool r53.s, .slice r53.m.a r53.m.n r53.m.c, .slice r53.d.a r53.d.n r53.d.c, .bool r33.s, .slice r33.m.a r33.m.n r33.m.c, .slice r33.d.a r33.d.n r33.d.c] 41 (0, 0)) := v58 43 zj _ rfl
 obtain ⟨b59, hBb59⟩ : ∃ b, B58 43 = b := ⟨_, rfl⟩
 rw [hBb59] at h60
 have hp61 : PolN u58 (⟨some ⟨b59, 0, none⟩, 2, 2⟩ : Sl) [((1 : Int) : Rat), ((((-1) : Int) : Rat) / ((2 : Int) : Rat))] (max 2 3) := pol_lit (L := [r53, r33]) h60 (rats2 (RatN.more (L := (max 2 3)) (h54.ext e58) xq) (RatN.more (L := (max 2 3)) (h34.ext (e38.trans (g42.ext.trans (e44.trans (g49.ext.trans (e52.trans (g56.ext.trans e58))))))) xq)) rfl yq
 show Calls _ _ #[.slice y13.a y13.n y13.c, .slice (some ⟨B58 43, 0, none⟩) 2 2] _ _
 rw [hBb59]
 have k64 := k_r5Same d58 (h15.ext (e19.trans (g30.ext.trans (e32.trans (g36.ext.trans (e38.trans (g42.ext.trans (e44.trans (g49.ext.trans (e52.trans (g56.ext.trans e58))))))))))).raw hp61.raw xq xq (by have h9 := hmy13; omega) (by first | omega | (simp; done) | (simp; omega) | (refine Nat.le_trans (Nt.zzh _) ?_; rw [Nt.addQ_len]; omega) | (refine Nat.le_trans (Nt.zzh _) ?_; have h9 := Nt.sec_len; exact Nat.le_trans (h9 _ _).1 yq) | (refine Nat.le_trans (Nt.zzh _) ?_; have h9 := Nt.sec_len; exact Nat.le_trans (h9 _ _).2 yq))
 with_reducible refine zPm k64 ?_
 rintro _ u62 g63 rfl
 refine zza 45 (zB (decide (Nt.trimQ (Nt.trimQ (Nt.secA (⟨8, 4, 1, 1⟩ : WL).f (⟨1, 8, 0⟩ : PL))) = Nt.trimQ [((1 : Int) : Rat), ((((-1) : Int) : Rat) / ((2 : Int) : Rat))]))) (zyq 46 (x := zB (decide (Nt.trimQ (Nt.trimQ (Nt.secA (⟨8, 4, 1, 1⟩ : WL).f (⟨1, 8, 0⟩ : PL))) = Nt.trimQ [((1 : Int) : Rat), ((((-1) : Int) : Rat) / ((2 : Int) : Rat))]))) (zB true) (by rw [show (decide (Nt.trimQ (Nt.trimQ (Nt.secA (⟨8, 4, 1, 1⟩ : WL).f (⟨1, 8, 0⟩ : PL))) = Nt.trimQ [((1 : Int) : Rat), ((((-1) : Int) : Rat) / ((2 : Int) : Rat))])) = true from decide_eq_true (by decide +kernel)]) (zza 47 (.adr 4 0) ?_ (hw := w1 22 true 46)))
 refine zzi 48 (.v y20.v) ty29 zzl ?_ (hw := w1 22 true 46)
 refine zza 49 (.adr 4 1) ?_ (hw := w1 22 true 46)
 refine zzi 50 (.v y21.v) ty29 zzl ?_ (hw := w1 22 true 46)
 refine zzg 51 74 [y20.v, y21.v] ?_ (hw := w1 22 true 46)
 intro w66 u66 e66 d66
 have k69 := k_r5Same d66 (h24.ext (e32.trans (g36.ext.trans (e38.trans (g42.ext.trans (e44.trans (g49.ext.trans (e52.trans (g56.ext.trans (e58.trans (g63.ext.trans e66))))))))))).raw (h25.ext (e32.trans (g36.ext.trans (e38.trans (g42.ext.trans (e44.trans (g49.ext.trans (e52.trans (g56.ext.trans (e58.trans (g63.ext.trans e66))))))))))).raw xq xq (by have h9 := hq28.1; omega) (by have h9 := hq28.2.2; omega)
 with_reducible refine zPm k69 ?_
 rintro _ u67 g68 rfl
 refine zza 52 (zB (decide (Nt.trimQ (Nt.trimQ ((Nt.trimQ (Nt.addQ (Nt.trimQ (Nt.mulQ (Nt.prodB (⟨8, 4, 1, 1⟩ : WL).f ([] : List PL) ([] : List PL).length) (Nt.prodA (⟨8, 4, 1, 1⟩ : WL).f ([] : List PL) ([] : List PL).length))) (Nt.trimQ (Nt.mulQ (Nt.prodB (⟨8, 4, 1, 1⟩ : WL).f ([] : List PL) ([] : List PL).length) (Nt.prodA (⟨8, 4, 1, 1⟩ : WL).f ([] : List PL) ([] : List PL).length))))).map (· * (((1 : Int) : Rat) / ((2 : Int) : Rat))))) = Nt.trimQ (Nt.trimQ (Nt.mulQ (Nt.prodA (⟨8, 4, 1, 1⟩ : WL).f ([] : List PL) ([] : List PL).length) (Nt.prodA (⟨8, 4, 1, 1⟩ : WL).f ([] : List PL) ([] : List PL).length)))))) (zyq 53 (x := zB (decide (Nt.trimQ (Nt.trimQ ((Nt.trimQ (Nt.addQ (Nt.trimQ (Nt.mulQ (Nt.prodB (⟨8, 4, 1, 1⟩ : WL).f ([] : List PL) ([] : List PL).length) (Nt.prodA (⟨8, 4, 1, 1⟩ : WL).f ([] : List PL) ([] : List PL).length))) (Nt.trimQ (Nt.mulQ (Nt.prodB (⟨8, 4, 1, 1⟩ : WL).f ([] : List PL) ([] : List PL).length) (Nt.prodA (⟨8, 4, 1, 1⟩ : WL).f ([] : List PL) ([] : List PL).length))))).map (· * (((1 : Int) : Rat) / ((2 : Int) : Rat))))) = Nt.trimQ (Nt.trimQ (Nt.mulQ (Nt.prodA (⟨8, 4, 1, 1⟩ : WL).f ([] : List PL) ([] : List PL).length) (Nt.prodA (⟨8, 4, 1, 1⟩ : WL).f ([] : List PL) ([] : List PL).length)))))) (zB true) (by rw [show (decide (Nt.trimQ (Nt.trimQ ((Nt.trimQ (Nt.addQ (Nt.trimQ (Nt.mulQ (Nt.prodB (⟨8, 4, 1, 1⟩ : WL).f ([] : List PL) ([] : List PL).length) (Nt.prodA (⟨8, 4, 1, 1⟩ : WL).f ([] : List PL) ([] : List PL).length))) (Nt.trimQ (Nt.mulQ (Nt.prodB (⟨8, 4, 1, 1⟩ : WL).f ([] : List PL) ([] : List PL).length) (Nt.prodA (⟨8, 4, 1, 1⟩ : WL).f ([] : List PL) ([] : List PL).length))))).map (· * (((1 : Int) : Rat) / ((2 : Int) : Rat))))) = Nt.trimQ (Nt.trimQ (Nt.mulQ (Nt.prodA (⟨8, 4, 1, 1⟩ : WL).f ([] : List PL) ([] : List PL).length) (Nt.prodA (⟨8, 4, 1, 1⟩ : WL).f ([] : List PL) ([] : List PL).length))))) = true from decide_eq_true (by decide +kernel)]) (zza 54 (.adr 5 0) ?_ (hw := w1 29 true 53)))
 refine zzi 55 (.v y22.v) ty29 zzl ?_ (hw := w1 29 true 53)
 refine zza 56 (zI y22.n) ?_ (hw := w1 29 true 53)
 refine zza 57 (zB ((y22.n : Int) == 0)) ?_ (hw := w1 29 true 53)
 refine zza 58 (zB ((y22.n : Int) == 0)) (zza 0 (zB ((y22.n : Int) == 0)) (zzc 59 [(0, zB ((y22.n : Int) == 0))] [] (zzo (ret0 [.bool ((y22.n : Int) == 0)] ⟨zzq, trivial⟩ fun u71 e72 => ?_))))
 show Value.bool _ = Value.bool _
 rw [show ((y22.n : Int) == 0) = true from (by have h9 := hly22; rw [show (Nt.trimQ ((Nt.trimQ (Nt.addQ (Nt.trimQ (Nt.mulQ (Nt.prodB (⟨8, 4, 1, 1⟩ : WL).f ([] : List PL) ([] : List PL).length) (Nt.prodA (⟨8, 4, 1, 1⟩ : WL).f ([] : List PL) ([] : List PL).length))) ((Nt.trimQ (Nt.mulQ (Nt.prodB (⟨8, 4, 1, 1⟩ : WL).f ([] : List PL) ([] : List PL).length) (Nt.prodA (⟨8, 4, 1, 1⟩ : WL).f ([] : List PL) ([] : List PL).length))).map (fun z => -z)))).map (· * (((1 : Int) : Rat) / ((2 : Int) : Rat))))).length = 0 from by decide +kernel] at h9; rw [h9]; rfl)]
def apE (W : WL) (p : PL) : Int := if FmOK W then (if PasOK W.f p then 0 else 1) else 2
def apR (W : WL) (p : PL) : List Rat × List Rat := if FmOK W ∧ PasOK W.f p then (Nt.trimQ (Nt.secB W.f p), Nt.trimQ (Nt.secA W.f p)) else ([], [])
def wvE (W : WL) (L M : List PL) : Int := if WvOK W L M then 0 else 1
def wvR (W : WL) (L M : List PL) : List Rat × List Rat × List Rat := if WvOK W L M then ((Nt.trimQ ((Nt.trimQ (Nt.addQ (Nt.trimQ (Nt.mulQ (Nt.prodB W.f L L.length) (Nt.prodA W.f M M.length))) (Nt.trimQ (Nt.mulQ (Nt.prodB W.f M M.length) (Nt.prodA W.f L L.length))))).map (· * (((1 : Int) : Rat) / ((2 : Int) : Rat))))), (Nt.trimQ ((Nt.trimQ (Nt.addQ (Nt.trimQ (Nt.mulQ (Nt.prodB W.f L L.length) (Nt.prodA W.f M M.length))) ((Nt.trimQ (Nt.mulQ (Nt.prodB W.f M M.length) (Nt.prodA W.f L L.length))).map (fun z => -z)))).map (· * (((1 : Int) : Rat) / ((2 : Int) : Rat))))), (Nt.trimQ (Nt.mulQ (Nt.prodA W.f L L.length) (Nt.prodA W.f M M.length)))) else ([], [], [])
def buE (D W : WL) (L M : List PL) : Int := if WdOK D then (if WvOK W L M then 0 else 1) else 2
structure NetW where
 D : WL
 W : WL
 n : Int
 q : Int
 N : List (List TL)
 s : List Int
def w0W : WL := ⟨0, 0, 0, 0⟩
def buR (D W : WL) (L M : List PL) (c : Bool) : NetW := if WdOK D ∧ WvOK W L M then ⟨D, W, ((wvN L M : Nat) : Int), ((wvN L M + (wvB (Nt.p2i W.f) L M).N.length + 1 : Nat) : Int), wvO (Nt.p2i W.f) L M c, (wvB (Nt.p2i W.f) L M).s⟩ else ⟨w0W, w0W, 0, 0, [], []⟩
theorem apR_ok (W : WL) (p : PL) : (apR W p).1.length ≤ 1000 ∧ (apR W p).2.length ≤ 1000 := by
 unfold apR
 split
 ·exact ⟨Nat.le_trans (Nt.zzh _) (Nat.le_trans (Nt.sec_len _ _).1 yq), Nat.le_trans (Nt.zzh _) (Nat.le_trans (Nt.sec_len _ _).2 yq)⟩
 ·exact ⟨by decide, by decide⟩
theorem wvR_ok (W : WL) (L M : List PL) : (wvR W L M).1.length ≤ 1000 ∧ (wvR W L M).2.1.length ≤ 1000 ∧ (wvR W L M).2.2.length ≤ 1000 := by
 unfold wvR
 split
 ·rename_i h
  have hL := h.2.1
  have hM := h.2.2.1
  have b1 : (Nt.prodB W.f L L.length).length ≤ 9 := by have h9 := (Nt.zwg W.f L L.length).1; omega
  have b2 : (Nt.prodA W.f L L.length).length ≤ 9 := by have h9 := (Nt.zwg W.f L L.length).2; omega
  have b3 : (Nt.prodB W.f M M.length).length ≤ 9 := by have h9 := (Nt.zwg W.f M M.length).1; omega
  have b4 : (Nt.prodA W.f M M.length).length ≤ 9 := by have h9 := (Nt.zwg W.f M M.length).2; omega
  have l1 := Nt.zxv b1 b4
  have l2 := Nt.zxv b3 b2
  have l3 := Nt.zxv b2 b4
  refine ⟨Nat.le_trans (Nt.map_lenQ (Nt.add_lenQ l1 l2)) yq, Nat.le_trans (Nt.map_lenQ (Nt.add_lenQ l1 (show (List.map (fun z => -z) _).length ≤ _ by rw [List.length_map]; exact l2))) yq, Nat.le_trans l3 yq⟩
 ·exact ⟨by decide, by decide, by decide⟩
theorem buR_ok (D W : WL) (L M : List PL) (c : Bool) : (∀ z ∈ (buR D W L M c).s, -9223372036854775808 ≤ z ∧ z ≤ 9223372036854775807) ∧ (buR D W L M c).s.length ≤ 1000 ∧ (buR D W L M c).N.length ≤ 1000 ∧ ∀ i, i < (buR D W L M c).N.length → ((buR D W L M c).N.getD i []).length ≤ 1000 := by
 unfold buR
 split
 ·rename_i h
  exact wv_bounds (Nt.p2i W.f) h.2.2.1 h.2.2.2.1 c
 ·exact ⟨fun z hz => (by cases hz), by decide, by decide, fun i hi => (by cases hi)⟩
theorem k_wapU {u w : World} {W : WL} {p : PL} {R : List Rat × List Rat} (d : Dat u w) (hR : R = apR W p) : Calls Tryz.prog 23 #[p.v, W.v] w (Post u w fun v u' => ∃ y z : Sl, v = .tuple #[.agg #[y.v, z.v], .int .i64 (apE W p)] ∧ PolN u' y R.1 20 ∧ PolN u' z R.2 20) := by
 subst hR
 unfold apR apE
 by_cases h1 : FmOK W
 ·by_cases h2 : PasOK W.f p
  ·rw [if_pos (show FmOK W ∧ PasOK W.f p from ⟨h1, h2⟩), if_pos h1, if_pos h2]
   exact Post.mono (k_wAllPass d h1.1 h1.2 h2) fun v u' _ ⟨y, z, e, g1, g2⟩ => ⟨y, z, e, g1.more xq, g2.more xq⟩
  ·rw [if_neg (show ¬ (FmOK W ∧ PasOK W.f p) from fun h => h2 h.2), if_pos h1, if_neg h2]
   exact Post.mono (k_wapP (D := w0W) (x := ⟨none, 0, 0⟩) (y := ⟨none, 0, 0⟩) (L := []) (M := []) (c := true) d h1 h2) fun v u' _ e => ⟨⟨none, 0, 0⟩, ⟨none, 0, 0⟩, e, pol_nil _ _, pol_nil _ _⟩
 ·rw [if_neg (show ¬ (FmOK W ∧ PasOK W.f p) from fun h => h1 h.1), if_neg h1]
  exact Post.mono (k_wapF (D := w0W) (x := ⟨none, 0, 0⟩) (y := ⟨none, 0, 0⟩) (L := []) (M := []) (c := true) d h1) fun v u' _ e => ⟨⟨none, 0, 0⟩, ⟨none, 0, 0⟩, e, pol_nil _ _, pol_nil _ _⟩
theorem k_rapU {u w : World} {W : WL} {p : PL} {R : List Rat × List Rat} (d : Dat u w) (hR : R = apR W p) : Calls Tryz.prog 24 #[p.v, W.v] w (Post u w fun v u' => ∃ y z : Sl, v = .tuple #[.agg #[y.v, z.v], .int .i64 (apE W p)] ∧ PolN u' y R.1 20 ∧ PolN u' z R.2 20) := by
 subst hR
 unfold apR apE
 by_cases h1 : FmOK W
 ·by_cases h2 : PasOK W.f p
  ·rw [if_pos (show FmOK W ∧ PasOK W.f p from ⟨h1, h2⟩), if_pos h1, if_pos h2]
   exact Post.mono (k_rAllPass d h1.1 h1.2 h2) fun v u' _ ⟨y, z, e, g1, g2⟩ => ⟨y, z, e, g1, g2⟩
  ·rw [if_neg (show ¬ (FmOK W ∧ PasOK W.f p) from fun h => h2 h.2), if_pos h1, if_neg h2]
   exact Post.mono (k_rapP (D := w0W) (x := ⟨none, 0, 0⟩) (y := ⟨none, 0, 0⟩) (L := []) (M := []) (c := true) d h1 h2) fun v u' _ e => ⟨⟨none, 0, 0⟩, ⟨none, 0, 0⟩, e, pol_nil _ _, pol_nil _ _⟩
 ·rw [if_neg (show ¬ (FmOK W ∧ PasOK W.f p) from fun h => h1 h.1), if_neg h1]
  exact Post.mono (k_rapF (D := w0W) (x := ⟨none, 0, 0⟩) (y := ⟨none, 0, 0⟩) (L := []) (M := []) (c := true) d h1) fun v u' _ e => ⟨⟨none, 0, 0⟩, ⟨none, 0, 0⟩, e, pol_nil _ _, pol_nil _ _⟩
theorem k_widU {u w : World} {W : WL} {x y : Sl} {L M : List PL} {R : List Rat × List Rat × List Rat} (d : Dat u w) (hR : R = wvR W L M) (hx : PasV u x L) (hy : PasV u y M) : Calls Tryz.prog 25 #[.agg #[x.v, y.v], W.v] w (Post u w fun v u' => ∃ y1 y2 y3 y4 : Sl, v = .tuple #[.agg #[y1.v, y2.v], .agg #[y3.v, y4.v], .int .i64 (wvE W L M)] ∧ PolN u' y1 R.1 100000 ∧ PolN u' y2 R.2.2 100000 ∧ PolN u' y3 R.2.1 100000 ∧ PolN u' y4 R.2.2 100000) := by
 subst hR
 unfold wvR wvE
 by_cases h : WvOK W L M
 ·rw [if_pos h, if_pos h]
  exact Post.mono (k_wIdeal d hx (all_mem h.2.2.2.1) h.2.1 hy (all_mem h.2.2.2.2) h.2.2.1 h.1.1 h.1.2) fun v u' _ ⟨y1, y2, y3, y4, e, g1, g2, g3, g4⟩ => ⟨y1, y2, y3, y4, e, g1.more xq, g2.more xq, g3.more xq, g4.more xq⟩
 ·rw [if_neg h, if_neg h]
  exact Post.mono (k_widV (D := w0W) (p := ⟨0, 0, 0⟩) (c := true) d hx hy h) fun v u' _ e => ⟨⟨none, 0, 0⟩, ⟨none, 0, 0⟩, ⟨none, 0, 0⟩, ⟨none, 0, 0⟩, e, pol_nil _ _, pol_nil _ _, pol_nil _ _, pol_nil _ _⟩
theorem k_ridU {u w : World} {W : WL} {x y : Sl} {L M : List PL} {R : List Rat × List Rat × List Rat} (d : Dat u w) (hR : R = wvR W L M) (hx : PasV u x L) (hy : PasV u y M) : Calls Tryz.prog 26 #[.agg #[x.v, y.v], W.v] w (Post u w fun v u' => ∃ y1 y2 y3 y4 : Sl, v = .tuple #[.agg #[y1.v, y2.v], .agg #[y3.v, y4.v], .int .i64 (wvE W L M)] ∧ PolN u' y1 R.1 100000 ∧ PolN u' y2 R.2.2 100000 ∧ PolN u' y3 R.2.1 100000 ∧ PolN u' y4 R.2.2 100000) := by
 subst hR
 unfold wvR wvE
 by_cases h : WvOK W L M
 ·rw [if_pos h, if_pos h]
  exact Post.mono (k_rwIdeal d hx hy h) fun v u' _ ⟨y1, y2, y3, y4, e, g1, g2, g3, g4⟩ => ⟨y1, y2, y3, y4, e, g1, g2, g3, g4⟩
 ·rw [if_neg h, if_neg h]
  exact Post.mono (k_ridV (D := w0W) (p := ⟨0, 0, 0⟩) (c := true) d hx hy h) fun v u' _ e => ⟨⟨none, 0, 0⟩, ⟨none, 0, 0⟩, ⟨none, 0, 0⟩, ⟨none, 0, 0⟩, e, pol_nil _ _, pol_nil _ _, pol_nil _ _, pol_nil _ _⟩
theorem k_wbuU {u w : World} {D W : WL} {x y : Sl} {L M : List PL} {c : Bool} {R : NetW} (d : Dat u w) (hR : R = buR D W L M c) (hx : PasV u x L) (hy : PasV u y M) : Calls Tryz.prog 27 #[.agg #[x.v, y.v], D.v, W.v, .bool c] w (Post u w fun v u' => ∃ X Y : Sl, v = .tuple #[.agg #[.int .i64 R.D.b, .int .i64 R.D.f, .int .i64 R.D.r, .int .i64 R.D.o, .int .i64 R.W.b, .int .i64 R.W.f, .int .i64 R.W.r, .int .i64 R.W.o, .int .i64 R.n, X.v, Y.v, .int .i64 R.q], .int .i64 (buE D W L M)] ∧ (∃ h, NodesB 0 h u' X R.N) ∧ MutL 1 3 0 u' Y (ics R.s)) := by
 subst hR
 unfold buR buE
 by_cases h1 : WdOK D
 ·by_cases h2 : WvOK W L M
  ·rw [if_pos (show WdOK D ∧ WvOK W L M from ⟨h1, h2⟩), if_pos h1, if_pos h2]
   exact k_wvBuild d hx hy h1 h2
  ·rw [if_neg (show ¬ (WdOK D ∧ WvOK W L M) from fun h => h2 h.2), if_pos h1, if_neg h2]
   exact Post.mono (k_wbuV (p := ⟨0, 0, 0⟩) d hx hy h1 h2) fun v u' _ e => ⟨⟨none, 0, 0⟩, ⟨none, 0, 0⟩, e, ⟨0, NodesB.nil 0 0 _⟩, MutL.nil _ _ _ _⟩
 ·rw [if_neg (show ¬ (WdOK D ∧ WvOK W L M) from fun h => h1 h.1), if_neg h1]
  exact Post.mono (k_wbuD (p := ⟨0, 0, 0⟩) d hx hy h1) fun v u' _ e => ⟨⟨none, 0, 0⟩, ⟨none, 0, 0⟩, e, ⟨0, NodesB.nil 0 0 _⟩, MutL.nil _ _ _ _⟩
theorem k_rbuU {u w : World} {D W : WL} {x y : Sl} {L M : List PL} {c : Bool} {R : NetW} (d : Dat u w) (hR : R = buR D W L M c) (hx : PasV u x L) (hy : PasV u y M) : Calls Tryz.prog 28 #[.agg #[x.v, y.v], D.v, W.v, .bool c] w (Post u w fun v u' => ∃ X Y : Sl, v = .tuple #[.agg #[.int .i64 R.D.b, .int .i64 R.D.f, .int .i64 R.D.r, .int .i64 R.D.o, .int .i64 R.W.b, .int .i64 R.W.f, .int .i64 R.W.r, .int .i64 R.W.o, .int .i64 R.n, X.v, Y.v, .int .i64 R.q], .int .i64 (buE D W L M)] ∧ (∃ h, NodesB 0 h u' X R.N) ∧ MutL 1 3 0 u' Y (ics R.s)) := by
 subst hR
 unfold buR buE
 by_cases h1 : WdOK D
 ·by_cases h2 : WvOK W L M
  ·rw [if_pos (show WdOK D ∧ WvOK W L M from ⟨h1, h2⟩), if_pos h1, if_pos h2]
   exact k_rwvBuild d hx hy h1 h2
  ·rw [if_neg (show ¬ (WdOK D ∧ WvOK W L M) from fun h => h2 h.2), if_pos h1, if_neg h2]
   exact Post.mono (k_rbuV (p := ⟨0, 0, 0⟩) d hx hy h1 h2) fun v u' _ e => ⟨⟨none, 0, 0⟩, ⟨none, 0, 0⟩, e, ⟨0, NodesB.nil 0 0 _⟩, MutL.nil _ _ _ _⟩
 ·rw [if_neg (show ¬ (WdOK D ∧ WvOK W L M) from fun h => h1 h.1), if_neg h1]
  exact Post.mono (k_rbuD (p := ⟨0, 0, 0⟩) d hx hy h1) fun v u' _ e => ⟨⟨none, 0, 0⟩, ⟨none, 0, 0⟩, e, ⟨0, NodesB.nil 0 0 _⟩, MutL.nil _ _ _ _⟩
set_option maxHeartbeats 4000000 in
theorem w_wvBuilds {u w : World} {D W : WL} {p : PL} {x y : Sl} {L M : List PL} {c : Bool} (d : Dat u w) (hx : PasV u x L) (hy : PasV u y M) : Calls Tryz.prog 5 #[.agg #[x.v, y.v], p.v, D.v, W.v, .bool c] w (Post u w fun v _ => v = .bool true) := by
 obtain ⟨hA1, hA2⟩ := apR_ok W p
 obtain ⟨hI1, hI2, hI3⟩ := wvR_ok W L M
 obtain ⟨hB1, hB2, hB3, hB4⟩ := buR_ok D W L M c
 obtain ⟨RA, hRA⟩ : ∃ R, R = apR W p := ⟨_, rfl⟩
 obtain ⟨RI, hRI⟩ : ∃ R, R = wvR W L M := ⟨_, rfl⟩
 obtain ⟨RB, hRB⟩ : ∃ R, R = buR D W L M c := ⟨_, rfl⟩
 rw [← hRA] at hA1 hA2
 rw [← hRI] at hI1 hI2 hI3
 rw [← hRB] at hB1 hB2 hB3 hB4
 refine zzm (args := [.agg #[.slice x.a x.n x.c, .slice y.a y.n y.c], .agg #[.int .i64 p.o, .int .i64 p.g, .int .i64 p.h], .agg #[.int .i64 D.b, .int .i64 D.f, .int .i64 D.r, .int .i64 D.o], .agg #[.int .i64 W.b, .int .i64 W.f, .int .i64 W.r, .int .i64 W.o], .bool c]) Tryz.func5 rfl Tryz.ntmps5 (rs := [.tmp 10]) Tryz.results5 (le_b rfl) (le_b rfl) d ?_
 refine sq9 (zzk 5 ⟨57, [x.v, y.v]⟩ (zzk 6 ⟨60, [.int .i64 p.o, .int .i64 p.g, .int .i64 p.h]⟩ (zzk 7 ⟨24, D.cs⟩ (zzk 8 ⟨24, W.cs⟩ (zza 10 (zB false) (zzb (zzd (sq9 (zza 25 (.adr 5 0) (zzi 26 (.v x.v) ty55 zzl (zza 27 (zI x.n) ?_)))))))))))
 refine zza 28 (zB (decide ((10 : Int) < (x.n : Int)))) ?_
 rcases Bool.eq_false_or_eq_true (decide ((10 : Int) < (x.n : Int))) with hs11 | hs11
 ·refine zyq 29 (x := zB (decide ((10 : Int) < (x.n : Int)))) (zB true) (by rw [hs11]) ?_
  have qhs11 := of_decide_eq_true hs11
  refine zzn 30 (uw 4 false true 29) (zzn 31 (uw 4 false true 29) (zzn 32 (uw 4 false true 29) (zzn 33 (uw 4 false true 29) (zza 34 (zB true) (zzb (zyr xk (sq9 (zzg 35 22 [] ?_))))))))
  intro w12 u12 e12 d12
  have k15 := k_known26 d12
  with_reducible refine zPm k15 ?_
  rintro _ u13 g14 rfl
  refine zza 10 (zB true) (zzb (zzo (zzw (ret0 [.bool true] ⟨zzq, trivial⟩ fun u16 e17 => ?_))))
  exact rfl
 ·refine zyq 29 (x := zB (decide ((10 : Int) < (x.n : Int)))) (zB false) (by rw [hs11]) ?_
  have qhs11 := of_decide_eq_false hs11
  refine zza 30 (.adr 5 1) ?_ (hw := w1 4 false 29)
  refine zzi 31 (.v y.v) ty55 zzl ?_ (hw := w1 4 false 29)
  refine zza 32 (zI y.n) ?_ (hw := w1 4 false 29)
  refine zza 33 (zB (decide ((10 : Int) < (y.n : Int)))) ?_ (hw := w1 4 false 29)
  refine zza 34 (zB (decide ((10 : Int) < (y.n : Int)))) (zzb (zzu (b := decide ((10 : Int) < (y.n : Int))) xk (fun hb18 => ?_) (fun hb18 => ?_)))
  ·replace hb18 : (decide ((10 : Int) < (y.n : Int))) = true := hb18
   have qhb18 := of_decide_eq_true hb18
   refine sq9 (zzg 35 22 [] ?_)
   intro w19 u19 e19 d19
   have k22 := k_known26 d19
   with_reducible refine zPm k22 ?_
   rintro _ u20 g21 rfl
   refine zza 10 (zB true) (zzb (zzo (zzw (ret0 [.bool true] ⟨zzq, trivial⟩ fun u23 e24 => ?_))))
   exact rfl
  ·replace hb18 : (decide ((10 : Int) < (y.n : Int))) = false := hb18
   have qhb18 := of_decide_eq_false hb18
   refine zzs (zzp ?_)
   refine sq9 (zzi 37 (.v (.agg #[.int .i64 p.o, .int .i64 p.g, .int .i64 p.h])) ty60 zze (zzi 38 (.v (W.v)) ty24 zze (zzg 39 23 [.agg #[.int .i64 p.o, .int .i64 p.g, .int .i64 p.h], W.v] ?_)))
   intro w25 u25 e25 d25
   have k29 := k_wapU (W := W) (p := p) d25 hRA
   with_reducible refine zPm k29 ?_
   rintro _ u27 g28 ⟨y26, z26, rfl, hf26, hg26⟩
   refine zza 36 (.v (.tuple #[.agg #[y26.v, z26.v], .int .i64 (apE W p)])) (zza 40 (.v (.agg #[y26.v, z26.v])) (zza 41 (zI (apE W p)) (zzk 11 ⟨31, [.slice none 0 0, .slice none 0 0]⟩ (zzj ⟨31, [y26.v, z26.v]⟩ ty31 ?_))))
   refine zza 12 (zI (apE W p)) (zzb (sq9 (zzi 43 (.v (.agg #[.int .i64 p.o, .int .i64 p.g, .int .i64 p.h])) ty60 zze (zzi 44 (.v (W.v)) ty24 zze (zzg 45 24 [.agg #[.int .i64 p.o, .int .i64 p.g, .int .i64 p.h], W.v] ?_)))))
   intro w30 u30 e30 d30
   have k34 := k_rapU (W := W) (p := p) d30 hRA
   with_reducible refine zPm k34 ?_
   rintro _ u32 g33 ⟨y31, z31, rfl, hf31, hg31⟩
   refine zza 42 (.v (.tuple #[.agg #[y31.v, z31.v], .int .i64 (apE W p)])) (zza 46 (.v (.agg #[y31.v, z31.v])) (zza 47 (zI (apE W p)) (zzk 13 ⟨31, [.slice none 0 0, .slice none 0 0]⟩ (zzj ⟨31, [y31.v, z31.v]⟩ ty31 ?_))))
   refine zza 14 (zI (apE W p)) (zzc 123 [(4, zB c), (5, .adr 5 0), (7, .adr 7 0), (8, .adr 8 0), (11, .adr 11 0), (12, zI (apE W p)), (13, .adr 13 0), (14, zI (apE W p))] [(5, ⟨57, [x.v, y.v]⟩), (7, ⟨24, D.cs⟩), (8, ⟨24, W.cs⟩), (11, ⟨31, [y26.v, z26.v]⟩), (13, ⟨31, [y31.v, z31.v]⟩)] (sq9 (zzi 49 (.v (.agg #[x.v, y.v])) ty57 zze (zzi 50 (.v (W.v)) ty24 zze (zzg 51 25 [.agg #[x.v, y.v], W.v] ?_)))))
   intro w35 u35 e35 d35
   have k39 := k_widU (W := W) (x := x) (y := y) (L := L) (M := M) d35 hRI (hx.ext (e25.trans (g28.ext.trans (e30.trans (g33.ext.trans e35))))) (hy.ext (e25.trans (g28.ext.trans (e30.trans (g33.ext.trans e35)))))
   with_reducible refine zPm k39 ?_
   rintro _ u37 g38 ⟨y36a, y36b, y36c, y36d, rfl, hq36a, hq36b, hq36c, hq36d⟩
   refine zza 48 (.v (.tuple #[.agg #[y36a.v, y36b.v], .agg #[y36c.v, y36d.v], .int .i64 (wvE W L M)])) (zza 52 (.v (.agg #[y36a.v, y36b.v])) (zza 53 (.v (.agg #[y36c.v, y36d.v])) (zza 54 (zI (wvE W L M)) (zzk 15 ⟨31, [.slice none 0 0, .slice none 0 0]⟩ (zzk 16 ⟨31, [.slice none 0 0, .slice none 0 0]⟩ (zzj ⟨31, [y36a.v, y36b.v]⟩ ty31 ?_))))))
   refine zzj ⟨31, [y36c.v, y36d.v]⟩ ty31 ?_
   refine zza 17 (zI (wvE W L M)) (zzb (sq9 (zzi 56 (.v (.agg #[x.v, y.v])) ty57 zze (zzi 57 (.v (W.v)) ty24 zze (zzg 58 26 [.agg #[x.v, y.v], W.v] ?_)))))
   intro w40 u40 e40 d40
   have k44 := k_ridU (W := W) (x := x) (y := y) (L := L) (M := M) d40 hRI (hx.ext (e25.trans (g28.ext.trans (e30.trans (g33.ext.trans (e35.trans (g38.ext.trans e40))))))) (hy.ext (e25.trans (g28.ext.trans (e30.trans (g33.ext.trans (e35.trans (g38.ext.trans e40)))))))
   with_reducible refine zPm k44 ?_
   rintro _ u42 g43 ⟨y41a, y41b, y41c, y41d, rfl, hq41a, hq41b, hq41c, hq41d⟩
   refine zza 55 (.v (.tuple #[.agg #[y41a.v, y41b.v], .agg #[y41c.v, y41d.v], .int .i64 (wvE W L M)])) (zza 59 (.v (.agg #[y41a.v, y41b.v])) (zza 60 (.v (.agg #[y41c.v, y41d.v])) (zza 61 (zI (wvE W L M)) (zzk 18 ⟨31, [.slice none 0 0, .slice none 0 0]⟩ (zzk 19 ⟨31, [.slice none 0 0, .slice none 0 0]⟩ (zzj ⟨31, [y41a.v, y41b.v]⟩ ty31 ?_))))))
   refine zzj ⟨31, [y41c.v, y41d.v]⟩ ty31 ?_
   refine zza 20 (zI (wvE W L M)) (zzb (sq9 (zzi 63 (.v (.agg #[x.v, y.v])) ty57 zze (zzi 64 (.v (D.v)) ty24 zze (zzi 65 (.v (W.v)) ty24 zze (zza 66 (zB c) (zzg 67 27 [.agg #[x.v, y.v], D.v, W.v, .bool c] ?_)))))))
   intro w45 u45 e45 d45
   have k49 := k_wbuU (D := D) (W := W) (x := x) (y := y) (L := L) (M := M) (c := c) d45 hRB (hx.ext (e25.trans (g28.ext.trans (e30.trans (g33.ext.trans (e35.trans (g38.ext.trans (e40.trans (g43.ext.trans e45))))))))) (hy.ext (e25.trans (g28.ext.trans (e30.trans (g33.ext.trans (e35.trans (g38.ext.trans (e40.trans (g43.ext.trans e45)))))))))
   with_reducible refine zPm k49 ?_
   rintro _ u47 g48 ⟨y46, z46, rfl, ⟨hh46, hN46⟩, hX46⟩
   refine zza 62 (.v (.tuple #[.agg #[.int .i64 RB.D.b, .int .i64 RB.D.f, .int .i64 RB.D.r, .int .i64 RB.D.o, .int .i64 RB.W.b, .int .i64 RB.W.f, .int .i64 RB.W.r, .int .i64 RB.W.o, .int .i64 RB.n, y46.v, z46.v, .int .i64 RB.q], .int .i64 (buE D W L M)])) (zza 68 (.v (.agg #[.int .i64 RB.D.b, .int .i64 RB.D.f, .int .i64 RB.D.r, .int .i64 RB.D.o, .int .i64 RB.W.b, .int .i64 RB.W.f, .int .i64 RB.W.r, .int .i64 RB.W.o, .int .i64 RB.n, y46.v, z46.v, .int .i64 RB.q])) (zza 69 (zI (buE D W L M)) (zzk 21 ⟨49, [.int .i64 0, .int .i64 0, .int .i64 0, .int .i64 0, .int .i64 0, .int .i64 0, .int .i64 0, .int .i64 0, .int .i64 0, .slice none 0 0, .slice none 0 0, .int .i64 0]⟩ (zzj ⟨49, [.int .i64 RB.D.b, .int .i64 RB.D.f, .int .i64 RB.D.r, .int .i64 RB.D.o, .int .i64 RB.W.b, .int .i64 RB.W.f, .int .i64 RB.W.r, .int .i64 RB.W.o, .int .i64 RB.n, y46.v, z46.v, .int .i64 RB.q]⟩ ty49 ?_))))
   refine zza 22 (zI (buE D W L M)) (zzc 123 [(4, zB c), (5, .adr 5 0), (7, .adr 7 0), (8, .adr 8 0), (11, .adr 11 0), (12, zI (apE W p)), (13, .adr 13 0), (14, zI (apE W p)), (15, .adr 15 0), (16, .adr 16 0), (17, zI (wvE W L M)), (18, .adr 18 0), (19, .adr 19 0), (20, zI (wvE W L M)), (21, .adr 21 0), (22, zI (buE D W L M))] [(5, ⟨57, [x.v, y.v]⟩), (7, ⟨24, D.cs⟩), (8, ⟨24, W.cs⟩), (11, ⟨31, [y26.v, z26.v]⟩), (13, ⟨31, [y31.v, z31.v]⟩), (15, ⟨31, [y36a.v, y36b.v]⟩), (16, ⟨31, [y36c.v, y36d.v]⟩), (18, ⟨31, [y41a.v, y41b.v]⟩), (19, ⟨31, [y41c.v, y41d.v]⟩), (21, ⟨49, [.int .i64 RB.D.b, .int .i64 RB.D.f, .int .i64 RB.D.r, .int .i64 RB.D.o, .int .i64 RB.W.b, .int .i64 RB.W.f, .int .i64 RB.W.r, .int .i64 RB.W.o, .int .i64 RB.n, y46.v, z46.v, .int .i64 RB.q]⟩)] (sq9 (zzi 71 (.v (.agg #[x.v, y.v])) ty57 zze (zzi 72 (.v (D.v)) ty24 zze (zzi 73 (.v (W.v)) ty24 zze (zza 74 (zB c) (zzg 75 28 [.agg #[x.v, y.v], D.v, W.v, .bool c] ?_)))))))
   intro w50 u50 e50 d50
   have k54 := k_rbuU (D := D) (W := W) (x := x) (y := y) (L := L) (M := M) (c := c) d50 hRB (hx.ext (e25.trans (g28.ext.trans (e30.trans (g33.ext.trans (e35.trans (g38.ext.trans (e40.trans (g43.ext.trans (e45.trans (g48.ext.trans e50))))))))))) (hy.ext (e25.trans (g28.ext.trans (e30.trans (g33.ext.trans (e35.trans (g38.ext.trans (e40.trans (g43.ext.trans (e45.trans (g48.ext.trans e50)))))))))))
   with_reducible refine zPm k54 ?_
   rintro _ u52 g53 ⟨y51, z51, rfl, ⟨hh51, hN51⟩, hX51⟩
   refine zza 70 (.v (.tuple #[.agg #[.int .i64 RB.D.b, .int .i64 RB.D.f, .int .i64 RB.D.r, .int .i64 RB.D.o, .int .i64 RB.W.b, .int .i64 RB.W.f, .int .i64 RB.W.r, .int .i64 RB.W.o, .int .i64 RB.n, y51.v, z51.v, .int .i64 RB.q], .int .i64 (buE D W L M)])) (zza 76 (.v (.agg #[.int .i64 RB.D.b, .int .i64 RB.D.f, .int .i64 RB.D.r, .int .i64 RB.D.o, .int .i64 RB.W.b, .int .i64 RB.W.f, .int .i64 RB.W.r, .int .i64 RB.W.o, .int .i64 RB.n, y51.v, z51.v, .int .i64 RB.q])) (zza 77 (zI (buE D W L M)) (zzk 23 ⟨49, [.int .i64 0, .int .i64 0, .int .i64 0, .int .i64 0, .int .i64 0, .int .i64 0, .int .i64 0, .int .i64 0, .int .i64 0, .slice none 0 0, .slice none 0 0, .int .i64 0]⟩ (zzj ⟨49, [.int .i64 RB.D.b, .int .i64 RB.D.f, .int .i64 RB.D.r, .int .i64 RB.D.o, .int .i64 RB.W.b, .int .i64 RB.W.f, .int .i64 RB.W.r, .int .i64 RB.W.o, .int .i64 RB.n, y51.v, z51.v, .int .i64 RB.q]⟩ ty49 ?_))))
   refine zza 24 (zI (buE D W L M)) (zzb (zzd (zzz [0, 1, 3, 3, 15, 3, 3, 127, 255, 511, 1023, 2047, 2047, 8191, 16383, 32767, 65535, 65535, 262143, 524287, 1048575, 2097151, 2097151, 8388607, 16777215, 33554431, 67108863, 67108863, 268435455, 536870911, 1073741823, 2147483647, 2147483647, 8589934591, 17179869183, 34359738367, 68719476735, 68719476735, 274877906943, 549755813887, 1099511627775, 2199023255551, 2199023255551, 8796093022207, 17592186044415, 35184372088831] [(0, []), (1, []), (2, []), (3, []), (5, []), (6, []), (4, []), (7, []), (8, []), (9, []), (10, []), (11, []), (12, []), (13, []), (14, []), (15, []), (16, []), (17, []), (18, []), (19, []), (20, []), (21, []), (22, []), (23, []), (24, []), (25, []), (26, []), (27, []), (28, []), (29, []), (30, []), (31, []), (32, []), (33, []), (34, []), (35, []), (36, []), (37, []), (38, []), (39, []), (40, []), (41, []), (42, []), (43, []), (44, []), (45, [])] xk xk (zzg 78 22 [] ?_))))
   intro w55 u55 e55 d55
   have k58 := k_known26 d55
   with_reducible refine zPm k58 ?_
   rintro _ u56 g57 rfl
   refine zza 79 (zB true) (zzi 80 (.v (.agg #[x.v, y.v])) ty57 zze ?_ (hw := w1 1 true 79))
   refine zzi 81 (.v (W.v)) ty24 zze ?_ (hw := w1 1 true 79)
   refine zzi 83 (.v (.agg #[x.v, y.v])) ty57 zze ?_ (hw := w1 1 true 79)
   refine zzi 84 (.v (W.v)) ty24 zze ?_ (hw := w1 1 true 79)
   refine zzg 82 29 [.agg #[x.v, y.v], W.v] ?_ (hw := w1 1 true 79)
   intro w59 u59 e59 d59
   have k62 := k_wvValidG (W := W) (x := x) (y := y) (L := L) (M := M) d59 (hx.ext (e25.trans (g28.ext.trans (e30.trans (g33.ext.trans (e35.trans (g38.ext.trans (e40.trans (g43.ext.trans (e45.trans (g48.ext.trans (e50.trans (g53.ext.trans (e55.trans (g57.ext.trans e59))))))))))))))) (hy.ext (e25.trans (g28.ext.trans (e30.trans (g33.ext.trans (e35.trans (g38.ext.trans (e40.trans (g43.ext.trans (e45.trans (g48.ext.trans (e50.trans (g53.ext.trans (e55.trans (g57.ext.trans e59)))))))))))))))
   with_reducible refine zPm k62 ?_
   rintro _ u60 g61 rfl
   refine zzg 85 30 [.agg #[x.v, y.v], W.v] ?_ (hw := w1 1 true 79)
   intro w63 u63 e63 d63
   have k66 := k_rwvValidG (W := W) (x := x) (y := y) (L := L) (M := M) d63 (hx.ext (e25.trans (g28.ext.trans (e30.trans (g33.ext.trans (e35.trans (g38.ext.trans (e40.trans (g43.ext.trans (e45.trans (g48.ext.trans (e50.trans (g53.ext.trans (e55.trans (g57.ext.trans (e59.trans (g61.ext.trans e63))))))))))))))))) (hy.ext (e25.trans (g28.ext.trans (e30.trans (g33.ext.trans (e35.trans (g38.ext.trans (e40.trans (g43.ext.trans (e45.trans (g48.ext.trans (e50.trans (g53.ext.trans (e55.trans (g57.ext.trans (e59.trans (g61.ext.trans e63)))))))))))))))))
   with_reducible refine zPm k66 ?_
   rintro _ u64 g65 rfl
   refine zza 86 (zB ((decide (WvOK W L M)) == (decide (WvOK W L M)))) ?_ (hw := w1 1 true 79)
   refine zza 87 (zB ((decide (WvOK W L M)) == (decide (WvOK W L M)))) (zyq 88 (x := zB ((decide (WvOK W L M)) == (decide (WvOK W L M)))) (zB true) (by rw [show ((decide (WvOK W L M)) == (decide (WvOK W L M))) = true from (beq_self_eq_true _)]) (zza 89 (zI (apE W p)) ?_ (hw := w1 10 true 88)))
   refine zza 90 (zI (apE W p)) ?_ (hw := w1 10 true 88)
   refine zza 91 (zB ((apE W p) == (apE W p))) ?_ (hw := w1 10 true 88)
   refine zza 92 (zB ((apE W p) == (apE W p))) (zyq 93 (x := zB ((apE W p) == (apE W p))) (zB true) (by rw [show ((apE W p) == (apE W p)) = true from (beq_self_eq_true _)]) (zzi 94 (.v (.agg #[y26.v, z26.v])) ty31 zze ?_ (hw := w1 15 true 93)))
   refine zzi 95 (.v (.agg #[y31.v, z31.v])) ty31 zze ?_ (hw := w1 15 true 93)
   refine zzg 96 21 [.agg #[y26.v, z26.v], .agg #[y31.v, z31.v]] ?_ (hw := w1 15 true 93)
   intro w69 u69 e69 d69
   have k72 := k_sameFilt (K := 20) (x1 := y26) (y1 := z26) (x2 := y31) (y2 := z31) d69 (hf26.ext (e30.trans (g33.ext.trans (e35.trans (g38.ext.trans (e40.trans (g43.ext.trans (e45.trans (g48.ext.trans (e50.trans (g53.ext.trans (e55.trans (g57.ext.trans (e59.trans (g61.ext.trans (e63.trans (g65.ext.trans e69))))))))))))))))) (hg26.ext (e30.trans (g33.ext.trans (e35.trans (g38.ext.trans (e40.trans (g43.ext.trans (e45.trans (g48.ext.trans (e50.trans (g53.ext.trans (e55.trans (g57.ext.trans (e59.trans (g61.ext.trans (e63.trans (g65.ext.trans e69))))))))))))))))) (hf31.ext (e35.trans (g38.ext.trans (e40.trans (g43.ext.trans (e45.trans (g48.ext.trans (e50.trans (g53.ext.trans (e55.trans (g57.ext.trans (e59.trans (g61.ext.trans (e63.trans (g65.ext.trans e69))))))))))))))) (hg31.ext (e35.trans (g38.ext.trans (e40.trans (g43.ext.trans (e45.trans (g48.ext.trans (e50.trans (g53.ext.trans (e55.trans (g57.ext.trans (e59.trans (g61.ext.trans (e63.trans (g65.ext.trans e69))))))))))))))) xq hA1 hA2
   with_reducible refine zPm k72 ?_
   rintro _ u70 g71 rfl
   refine zza 97 (zB true) (zza 98 (zB true) (zza 99 (zI (wvE W L M)) ?_ (hw := w1 20 true 98)))
   refine zza 100 (zI (wvE W L M)) ?_ (hw := w1 20 true 98)
   refine zza 101 (zB ((wvE W L M) == (wvE W L M))) ?_ (hw := w1 20 true 98)
   refine zza 102 (zB ((wvE W L M) == (wvE W L M))) (zyq 103 (x := zB ((wvE W L M) == (wvE W L M))) (zB true) (by rw [show ((wvE W L M) == (wvE W L M)) = true from (beq_self_eq_true _)]) (zzi 104 (.v (.agg #[y36a.v, y36b.v])) ty31 zze ?_ (hw := w1 25 true 103)))
   refine zzi 105 (.v (.agg #[y41a.v, y41b.v])) ty31 zze ?_ (hw := w1 25 true 103)
   refine zzg 106 21 [.agg #[y36a.v, y36b.v], .agg #[y41a.v, y41b.v]] ?_ (hw := w1 25 true 103)
   intro w74 u74 e74 d74
   have k77 := k_sameFilt (K := 100000) (x1 := y36a) (y1 := y36b) (x2 := y41a) (y2 := y41b) d74 (hq36a.ext (e40.trans (g43.ext.trans (e45.trans (g48.ext.trans (e50.trans (g53.ext.trans (e55.trans (g57.ext.trans (e59.trans (g61.ext.trans (e63.trans (g65.ext.trans (e69.trans (g71.ext.trans e74))))))))))))))) (hq36b.ext (e40.trans (g43.ext.trans (e45.trans (g48.ext.trans (e50.trans (g53.ext.trans (e55.trans (g57.ext.trans (e59.trans (g61.ext.trans (e63.trans (g65.ext.trans (e69.trans (g71.ext.trans e74))))))))))))))) (hq41a.ext (e45.trans (g48.ext.trans (e50.trans (g53.ext.trans (e55.trans (g57.ext.trans (e59.trans (g61.ext.trans (e63.trans (g65.ext.trans (e69.trans (g71.ext.trans e74))))))))))))) (hq41b.ext (e45.trans (g48.ext.trans (e50.trans (g53.ext.trans (e55.trans (g57.ext.trans (e59.trans (g61.ext.trans (e63.trans (g65.ext.trans (e69.trans (g71.ext.trans e74))))))))))))) xq hI1 hI3
   with_reducible refine zPm k77 ?_
   rintro _ u75 g76 rfl
   refine zza 107 (zB true) (zza 108 (zB true) (zzi 109 (.v (.agg #[y36c.v, y36d.v])) ty31 zze ?_ (hw := w1 30 true 108)))
   refine zzi 110 (.v (.agg #[y41c.v, y41d.v])) ty31 zze ?_ (hw := w1 30 true 108)
   refine zzg 111 21 [.agg #[y36c.v, y36d.v], .agg #[y41c.v, y41d.v]] ?_ (hw := w1 30 true 108)
   intro w78 u78 e78 d78
   have k81 := k_sameFilt (K := 100000) (x1 := y36c) (y1 := y36d) (x2 := y41c) (y2 := y41d) d78 (hq36c.ext (e40.trans (g43.ext.trans (e45.trans (g48.ext.trans (e50.trans (g53.ext.trans (e55.trans (g57.ext.trans (e59.trans (g61.ext.trans (e63.trans (g65.ext.trans (e69.trans (g71.ext.trans (e74.trans (g76.ext.trans e78))))))))))))))))) (hq36d.ext (e40.trans (g43.ext.trans (e45.trans (g48.ext.trans (e50.trans (g53.ext.trans (e55.trans (g57.ext.trans (e59.trans (g61.ext.trans (e63.trans (g65.ext.trans (e69.trans (g71.ext.trans (e74.trans (g76.ext.trans e78))))))))))))))))) (hq41c.ext (e45.trans (g48.ext.trans (e50.trans (g53.ext.trans (e55.trans (g57.ext.trans (e59.trans (g61.ext.trans (e63.trans (g65.ext.trans (e69.trans (g71.ext.trans (e74.trans (g76.ext.trans e78))))))))))))))) (hq41d.ext (e45.trans (g48.ext.trans (e50.trans (g53.ext.trans (e55.trans (g57.ext.trans (e59.trans (g61.ext.trans (e63.trans (g65.ext.trans (e69.trans (g71.ext.trans (e74.trans (g76.ext.trans e78))))))))))))))) xq hI2 hI3
   with_reducible refine zPm k81 ?_
   rintro _ u79 g80 rfl
   refine zza 112 (zB true) (zza 113 (zB true) (zza 114 (zI (buE D W L M)) ?_ (hw := w1 35 true 113)))
   refine zza 115 (zI (buE D W L M)) ?_ (hw := w1 35 true 113)
   refine zza 116 (zB ((buE D W L M) == (buE D W L M))) ?_ (hw := w1 35 true 113)
   refine zza 117 (zB ((buE D W L M) == (buE D W L M))) (zyq 118 (x := zB ((buE D W L M) == (buE D W L M))) (zB true) (by rw [show ((buE D W L M) == (buE D W L M)) = true from (beq_self_eq_true _)]) (zzi 119 (.v (.agg #[.int .i64 RB.D.b, .int .i64 RB.D.f, .int .i64 RB.D.r, .int .i64 RB.D.o, .int .i64 RB.W.b, .int .i64 RB.W.f, .int .i64 RB.W.r, .int .i64 RB.W.o, .int .i64 RB.n, y46.v, z46.v, .int .i64 RB.q])) ty49 zze ?_ (hw := w1 40 true 118)))
   refine zzi 120 (.v (.agg #[.int .i64 RB.D.b, .int .i64 RB.D.f, .int .i64 RB.D.r, .int .i64 RB.D.o, .int .i64 RB.W.b, .int .i64 RB.W.f, .int .i64 RB.W.r, .int .i64 RB.W.o, .int .i64 RB.n, y51.v, z51.v, .int .i64 RB.q])) ty49 zze ?_ (hw := w1 40 true 118)
   refine zzg 121 20 [.agg #[.int .i64 RB.D.b, .int .i64 RB.D.f, .int .i64 RB.D.r, .int .i64 RB.D.o, .int .i64 RB.W.b, .int .i64 RB.W.f, .int .i64 RB.W.r, .int .i64 RB.W.o, .int .i64 RB.n, y46.v, z46.v, .int .i64 RB.q], .agg #[.int .i64 RB.D.b, .int .i64 RB.D.f, .int .i64 RB.D.r, .int .i64 RB.D.o, .int .i64 RB.W.b, .int .i64 RB.W.f, .int .i64 RB.W.r, .int .i64 RB.W.o, .int .i64 RB.n, y51.v, z51.v, .int .i64 RB.q]] ?_ (hw := w1 40 true 118)
   intro w83 u83 e83 d83
   have k86 := k_sameNets (D := RB.D) (W := RB.W) (x1 := y46) (x2 := y51) (z1 := z46) (z2 := z51) (n := RB.n) (q := RB.q) d83 (hN46.ext (e50.trans (g53.ext.trans (e55.trans (g57.ext.trans (e59.trans (g61.ext.trans (e63.trans (g65.ext.trans (e69.trans (g71.ext.trans (e74.trans (g76.ext.trans (e78.trans (g80.ext.trans e83))))))))))))))) (hN51.ext (e55.trans (g57.ext.trans (e59.trans (g61.ext.trans (e63.trans (g65.ext.trans (e69.trans (g71.ext.trans (e74.trans (g76.ext.trans (e78.trans (g80.ext.trans e83))))))))))))) (hX46.ext (e50.trans (g53.ext.trans (e55.trans (g57.ext.trans (e59.trans (g61.ext.trans (e63.trans (g65.ext.trans (e69.trans (g71.ext.trans (e74.trans (g76.ext.trans (e78.trans (g80.ext.trans e83))))))))))))))) (hX51.ext (e55.trans (g57.ext.trans (e59.trans (g61.ext.trans (e63.trans (g65.ext.trans (e69.trans (g71.ext.trans (e74.trans (g76.ext.trans (e78.trans (g80.ext.trans e83))))))))))))) hB1 hB2 hB3 hB4
   with_reducible refine zPm k86 ?_
   rintro _ u84 g85 rfl
   refine zza 122 (zB true) (zza 10 (zB true) (zzc 123 [(10, zB true)] [] (zzo (ret0 [.bool true] ⟨zzq, trivial⟩ fun u87 e88 => ?_))))
   exact rfl
end Go.Proofs.YtdmpfhhhlhoeiaaGreat
