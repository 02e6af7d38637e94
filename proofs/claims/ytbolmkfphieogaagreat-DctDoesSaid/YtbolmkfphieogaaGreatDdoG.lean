/- A range over slices.Backward. Printed by wip/sym/g_de.py. DctReverses. Printed by wip/sym/g_df.py. DctStaysNear. Printed by wip/sym/g_di.py. Chapter 37 of the reference: Valid, Linear, walked. Printed by wip/sym/g_dl.py. Chapter 37 of the reference: Forward, Backward, Spread, walked. Printed by wip/sym/g_dp.py. DctDoes. Printed by wip/sym/g_dr.py. -/
import Derived.Test.YtbolmkfphieogaaGreatDdoF
import Derived.RangeFuncFrom
import Derived.RangeFuncLeaves
import Derived.RangeFuncCalls
import Derived.WalkKit
import Derived.OwnWalkIn
import Derived.TacticsInMore
import Derived.LoopNIn
import Derived.LoopIn
import Derived.RangeFuncNested
set_option linter.unusedVariables false
namespace Go.Proofs.YtbolmkfphieogaaGreat
open Go.RowKit
def Nt.bkl (n k : Nat) : List Nat := ((List.range n).drop k).reverse
theorem Nt.bkl_n (n : Nat) : Nt.bkl n n = [] := by simp [Nt.bkl]
theorem Nt.bkl_len (n k : Nat) : (Nt.bkl n k).length = n - k := by simp [Nt.bkl]
theorem Nt.bkl_s {n k : Nat} (h : k < n) : Nt.bkl n k = Nt.bkl n (k + 1) ++ [k] := by
 unfold Nt.bkl
 rw [List.drop_eq_getElem_cons (by simpa using h), List.reverse_cons, List.getElem_range]
@[irreducible]
def Nt.lftV (v : Value) : Nat := match v with | .int _ i => (i + 1).toNat | _ => 0
theorem Nt.lftV_int (k : IntKind) (i : Int) : Nt.lftV (.int k i) = (i + 1).toNat := by unfold Nt.lftV; rfl
def shrV (S : List (List Int)) (j : Nat) : Value := .agg #[.int .i64 (gi S j 0), .int .i64 (gi S j 1), .int .i64 (gi S j 2), .int .i64 (gi S j 3)]
def shrE (S : List (List Int)) (j : Nat) : Array Value := #[.int .i64 (j : Int), shrV S j]
set_option maxRecDepth 100000 in attribute [local go_sem] Oper.semAt_some in
set_option maxHeartbeats 2000000 in
theorem k_sbackI (F : Fence) (n : Nat) (h6 : F.fn 192) (hro : F.round = none) (hn : 1 ≤ n) (l Bx len cap : Nat) (A : Option Addr) (S : List (List Int)) (R : World → Prop) (Kp : World → World → Prop) (J Jx : List {j : Nat // j < len} → World → Prop)
  (hR1 : ∀ W, R W → W.cell? ⟨Bx, 0, none⟩ = some (.slice A len cap))
  (hR2 : ∀ W j, R W → j < len → ∃ b o, A = some ⟨b, o, none⟩ ∧ W.cell? ⟨b, o + j * 4, none⟩ = some (.int .i64 (gi S j 0)) ∧ W.cell? ⟨b, o + j * 4 + 1, none⟩ = some (.int .i64 (gi S j 1)) ∧ W.cell? ⟨b, o + j * 4 + 2, none⟩ = some (.int .i64 (gi S j 2)) ∧ W.cell? ⟨b, o + j * 4 + 3, none⟩ = some (.int .i64 (gi S j 3)))
  (hRK : ∀ W W', Kp W W' → R W → R W') (hlen : len ≤ 1000000)
  (hY : ∀ pre x W, J pre W → pre.length < len → YieldAt F (n - 1) Tryz.prog l (shrE S x.1) W fun e W' =>
   (e = .returned (.bool true) ∧ J (pre ++ [x]) W' ∧ Kp W W') ∨ (e = .returned (.bool false) ∧ Jx (pre ++ [x]) W'))
  (W : World) (hRW : R W) (h0 : J [] W) :
  CallsIn F n Tryz.prog 192 #[.func (.yield l) #[] #[], .pointer (some ⟨Bx, 0, none⟩)] W fun e W' => (∃ v, e = .returned v) ∧ ((∃ ys, ys.map Subtype.val = Nt.bkl len 0 ∧ J ys W') ∨ (∃ pre, True ∧ Jx pre W')) := by
 refine callsIn_of_wp Tryz.func192 rfl h6 ?_ hro
 simp only [Tryz.ntmps192, List.size_toArray, List.length_cons, List.length_nil, Nat.reduceAdd, Nat.reduceSub, Array.replicate_succ, Array.replicate_zero, List.push_toArray, List.append_toArray, List.nil_append, List.cons_append]
 have hbx := hR1 W hRW
 gi_wp2
 gi_loopw [3] (fun p wr => ∃ (k : Nat) (pre : List {j : Nat // j < len}), p = .int .i64 ((k : Int) - 1) ∧ k ≤ len ∧ R wr ∧ pre.map Subtype.val = Nt.bkl len k ∧ J pre wr)
  (fun p wr => Nt.lftV p)
 case atStart =>
  exact ⟨len, [], rfl, Nat.le_refl _, hRW, (Nt.bkl_n _).symm, h0⟩
 case round =>
  obtain ⟨k, pre, rfl, hk, hRr, hpre, hJs⟩ := hrel
  rcases Nat.eq_zero_or_pos k with rfl | hkp
  ·gi_wp2
   go_end0
   exact ⟨⟨_, rfl⟩, .inl ⟨_, hpre, hJs⟩⟩
  obtain ⟨j, rfl⟩ : ∃ j, k = j + 1 := ⟨k - 1, by omega⟩
  obtain ⟨b, o, hA, c0, c1, c2, c3⟩ := hR2 wr j hRr xq
  subst hA
  have hb := hR1 wr hRr
  obtain ⟨fn, tmps, assign, body, hy, hRd⟩ := hY pre ⟨j, by omega⟩ wr hJs (by have h7 := congrArg List.length hpre; rw [List.length_map, Nt.bkl_len] at h7; omega)
  dsimp only [shrE, shrV] at hy
  rw [show ((j + 1 : Nat) : Int) - 1 = (j : Int) by omega]
  gi_wp2
  refine hRd.mono ?_
  rintro e W3 (⟨rfl, hJ3, hk3⟩ | ⟨rfl, hJx3⟩)
  ·gi_wp2
   go_roundw
   case rel => exact ⟨j, pre ++ [⟨j, by omega⟩], rfl, by omega, hRK _ _ hk3 hRr, by rw [Nt.bkl_s (show j < len by omega), List.map_append, hpre]; rfl, hJ3⟩
   case measure => show Nt.lftV (.int .i64 ((j : Int) - 1)) < Nt.lftV (.int .i64 (j : Int)); rw [Nt.lftV_int, Nt.lftV_int]; omega
  gi_wp2
  refine bodyPost_ret (results_none rfl _ _ _) rfl ?_
  exact ⟨⟨_, rfl⟩, .inr ⟨_, trivial, hJx3⟩⟩
theorem k_sbackS (F : Fence) (n : Nat) (h6 : F.fn 192) (hro : F.round = none) (hn : 1 ≤ n) (Bx len cap : Nat) (A : Option Addr) (S : List (List Int)) (R : World → Prop) (Kp : World → World → Prop) (w : World)
  (hR0 : ∀ W, Below w.heap.size w W → R W)
  (hR1 : ∀ W, R W → W.cell? ⟨Bx, 0, none⟩ = some (.slice A len cap))
  (hR2 : ∀ W j, R W → j < len → ∃ b o, A = some ⟨b, o, none⟩ ∧ W.cell? ⟨b, o + j * 4, none⟩ = some (.int .i64 (gi S j 0)) ∧ W.cell? ⟨b, o + j * 4 + 1, none⟩ = some (.int .i64 (gi S j 1)) ∧ W.cell? ⟨b, o + j * 4 + 2, none⟩ = some (.int .i64 (gi S j 2)) ∧ W.cell? ⟨b, o + j * 4 + 3, none⟩ = some (.int .i64 (gi S j 3)))
  (hRK : ∀ W W', Kp W W' → R W → R W') (hlen : len ≤ 1000000) :
  SeqStopsK F n Tryz.prog 192 #[.pointer (some ⟨Bx, 0, none⟩)] (fun x : {j : Nat // j < len} => shrE S x.1) Kp (fun ys => ys.map Subtype.val = Nt.bkl len 0) (fun _ => True) len w := fun l J Jx W hW _ _ hY h0 =>
 k_sbackI F n h6 hro hn l Bx len cap A S R Kp J Jx hR1 hR2 hRK hlen hY W (hR0 W hW) h0
theorem Nt.bkl_fold (S : List (List Int)) (l : List Int) : ∀ n k, k + n = S.length → (Nt.bkl S.length k).foldl (fun l j => Nt.shF (S.getD j []) (-1) l) l = Nt.shBs (S.drop k) l
 | 0, k, h => by rw [show k = S.length by omega, Nt.bkl_n, List.drop_length]; rfl
 | n + 1, k, h => by
  have hk : k < S.length := by omega
  rw [Nt.bkl_s hk, List.foldl_append, Nt.bkl_fold S l n (k + 1) xq, List.drop_eq_getElem_cons hk]
  show Nt.shF (S.getD k []) (-1) _ = Nt.shF S[k] (-1) _
  rw [List.getD_eq_getElem?_getD, List.getElem?_eq_getElem hk]
  rfl
theorem k_sback {u w : World} {x : Sl} (d : Dat u w) : Calls Tryz.prog 117 #[x.v] w (Post u w fun v u' => ∃ b, v = .func (.func 192) #[] #[.pointer (some ⟨b, 0, none⟩)] ∧ u.heap.size ≤ b ∧ u'.heap[b]? = some (.cells #[x.v] 64 (0, 0))) := by
 refine calls_of_wp Tryz.func117 rfl ?_
 simp only [Tryz.ntmps117, List.size_toArray, List.length_cons, List.length_nil, Nat.reduceAdd, Nat.reduceSub, Array.replicate_succ, Array.replicate_zero, List.push_toArray, List.append_toArray, List.nil_append, List.cons_append]
 go_wp2
 go_ret
 exact ⟨_, u.alloc (.cells #[x.v] 64), rfl, dat_vis d _, (Below.refl _ w).alloc (Nat.le_refl _) _, ⟨by simp, fun b hb => Below.heap_alloc u _ b hb⟩, w.heap.size, rfl, by rw [d.size]; exact Nat.le_refl _, by rw [← d.size]; exact World.alloc_heap_new u _⟩
def bst (S : List (List Int)) (l : List Int) (pre : List Nat) : List Int := pre.foldl (fun l j => Nt.shF (S.getD j []) (-1) l) l
theorem bst_len (S : List (List Int)) : ∀ (pre : List Nat) (l : List Int), (bst S l pre).length = l.length
 | [], l => rfl
 | j :: pre, l => by show (bst S _ pre).length = _; rw [bst_len S pre, Nt.shF_len]
theorem bst_w32 (S : List (List Int)) : ∀ (pre : List Nat) (l : List Int), Nt.W32 l → Nt.W32 (bst S l pre)
 | [], l, h => h
 | j :: pre, l, h => bst_w32 S pre _ (Nt.shF_w32 h)
theorem bst_snoc (S : List (List Int)) (l : List Int) (pre : List Nat) (j : Nat) : bst S l (pre ++ [j]) = Nt.shF (S.getD j []) (-1) (bst S l pre) := by unfold bst; rw [List.foldl_append]; rfl
def KpB (N b : Nat) (W W' : World) : Prop := ∀ k, k < N → k ≠ b → W'.heap[k]? = W.heap[k]?
def allH (w : World) : World := { w with heap := Array.replicate w.heap.size hidO }
theorem allH_get {w : World} {b : Nat} (h : b < w.heap.size) : (allH w).heap[b]? = some hidO := by simp [allH, h]
theorem allH_dat (w : World) : Dat (allH w) w := ⟨by simp [allH], fun b o h hh => by
 have h1 := zyz h
 have h2 : b < w.heap.size := by simpa [allH] using h1
 rw [allH_get h2] at h; injection h with h; exact absurd h.symm hh⟩
structure BkI (w3 : World) (b : Nat) (S : List (List Int)) (l : List Int) (X : List Value) (pre : List Nat) (W : World) : Prop where
 kp : KpB w3.heap.size b w3 W
 size : w3.heap.size ≤ W.heap.size
 os : W.os = w3.os
 tape : W.tape = w3.tape
 output : W.output = w3.output
 cell : W.heap[b]? = some (.cells (ics (bst S l pre) ++ X).toArray 3 (0, 0))
theorem BkI.grown {w3 W W' : World} {b : Nat} {S : List (List Int)} {l : List Int} {X : List Value} {pre : List Nat} {row : Option Nat} (h : BkI w3 b S l X pre W) (hb : b < w3.heap.size) (hg : W.grownBy W' row) (hr : ∀ r, row = some r → w3.heap.size ≤ r) : BkI w3 b S l X pre W' :=
 have hblk : ∀ k, k < w3.heap.size → W'.heap[k]? = W.heap[k]? := fun k hk => hg.block k (Nat.lt_of_lt_of_le hk h.size) (fun e => by have := hr k e.symm; omega)
 ⟨fun k hk hkb => (hblk k hk).trans (h.kp k hk hkb), Nat.le_trans h.size hg.size, hg.os.trans h.os, hg.tape.trans h.tape, hg.output.trans h.output, (hblk b hb).trans h.cell⟩
set_option maxRecDepth 100000 in attribute [local go_sem] Oper.semAt_some in
set_option maxHeartbeats 4000000 in
theorem k_dbackward {u w : World} {x y : Sl} {S : List (List Int)} {l : List Int} (d : Dat u w) (hx : IrV 4 u x S) (h9 : S.length ≤ 1000000) (hy : SlR .i64 u y.a y.n y.c l) (hb : ∀ z ∈ l, -9223372036854775808 ≤ z ∧ z ≤ 9223372036854775807) (h8 : l.length ≤ 1000000) : Calls Tryz.prog 50 #[x.v, y.v] w (Post u w fun v u' => ∃ z : Sl, v = .tuple #[z.v, .int .i64 (Nt.chkE S l)] ∧ SlR .i64 u' z.a z.n z.c (Nt.bwdL S l)) := by
 have hlx : x.n = S.length := hx.len
 have hly : l.length = y.n := hy.1
 refine (callsIn_wide (n := 3)).1 ?_
 refine callsIn_of_wp_marks Tryz.func50 rfl trivial ?_ rfl
 simp only [Tryz.ntmps50, List.size_toArray, List.length_cons, List.length_nil, Nat.reduceAdd, Nat.reduceSub, Array.replicate_succ, Array.replicate_zero, List.push_toArray, List.append_toArray, List.nil_append, List.cons_append]
 by_cases hE : Nt.chkE S l = 0
 ·obtain ⟨hV, hW⟩ := Nt.chk_0 hE
  gi_wp2_with (first
   | (refine ⟨trivial, ?_⟩; gi_at_call 114; refine (callsIn_wide.2 (k_dcheck d hx h9 hy hb h8)).mono ?_; rintro e w1 ⟨v, u1, rfl, d1, b1, g1, rfl⟩; rw [hE])
   | (refine ⟨trivial, ?_⟩; gi_at_call 115; refine (callsIn_wide.2 (k_cloneI d1 (SlR.ext hy g1.ext) (by have := hV.1; omega) xq)).mono ?_; rintro e w2 ⟨v, u2, rfl, d2, b2, g2, b, c, X, rfl, aj, ag, ak, hnc, am⟩)
   | (refine ⟨trivial, ?_⟩; gi_at_call 117; refine (callsIn_wide.2 (k_sback (dat_alloc d2 _))).mono ?_; rintro e w3 ⟨v, u3, rfl, d3, b3, g3, bx, rfl, hbx, hbc⟩))
  have hbN : b < w2.heap.size := by rw [← d2.size]; exact zyz ag
  have hN3 : w2.heap.size + 1 ≤ w3.heap.size := by have := b3.size; simpa using this
  have ad : w3.heap[b]? = some (.cells (ics l ++ X).toArray 3 (0, 0)) := d3.ext.cells (g3.ext.cells (Ext.cells ((Grow.ext ⟨by simp, fun k hk => Below.heap_alloc u2 hidO k hk⟩ : Ext u2 (u2.alloc hidO))) ag))
  have ab : w3.heap[w2.heap.size]? = some (.cells #[.slice (some ⟨b, 0, none⟩) y.n c] 30 (0, 0)) := (b3.block _ zk).trans (World.alloc_heap_new w2 _)
  have an : w2.heap.size + 1 ≤ bx := by have := hbx; simp [d2.size] at this; exact this
  have aa : w3.heap[bx]? = some (.cells #[x.v] 64 (0, 0)) := d3.ext.cells hbc
  have hbw : Below w.heap.size w w3 := (b1.trans ((b2.mono b1.size).trans (((Below.refl _ w2).alloc (Nat.le_refl _) _).trans (b3.mono zk) |>.mono (Nat.le_trans b1.size b2.size))))
  have hbge : w.heap.size ≤ b := Nat.le_trans b1.size (by rw [← d1.size]; exact aj)
  have ah : b < w3.heap.size := by omega
  have hbb : bx ≠ b := by omega
  have ai : w2.heap.size ≠ b := by omega
  have ae : bx < w3.heap.size := zyz aa
  have hxr : ∀ j, j < x.n → ∃ b' o, x.a = some ⟨b', o, none⟩ ∧ b' < w.heap.size ∧ ∀ i, i < 4 → w3.cell? ⟨b', o + j * 4 + i, none⟩ = some (.int .i64 (gi S j i)) := fun j hj => by
   obtain ⟨b', o, e1, e2, e3⟩ := ir_at hx (i := j) xq
   refine ⟨b', o, e1, by rw [← d.size]; exact e2, fun i hi => ?_⟩
   have e4 : u.cell? ⟨b', o + j * 4 + i, none⟩ = some (.int .i64 (gi S j i)) := by
    rw [e3 i (by rw [zwi, hx.rows.get xq]; exact hi), ics_at (by rw [hx.rows.get xq]; exact hi)]
    rfl
   exact (World.cell?_of_block (hbw.block b' (by rw [← d.size]; exact e2))).trans (d.ext.cell e4)
  refine wpIn_rangeFunc_ownH (w := w3) rfl xq (gf := 192) (lb := #[.pointer (some ⟨bx, 0, none⟩)]) rfl trivial (enters_of Tryz.func192 xj rfl)
   (k_sbackS Fence.wide 2 trivial rfl xq bx x.n x.c x.a S (KpB w3.heap.size b w3) (KpB w3.heap.size b) w3 ?r0 ?r1 ?r2 ?rk xq)
   (fun h k => fun i hi hib => (k i hi hib).trans (h i hi hib)) ?kb (Below.refl _ _) (fun _ => rfl)
   (fun pre W => BkI w3 b S l X (pre.map Subtype.val) W) (fun _ _ _ => False) ?own (fun _ _ _ _ _ hs _ _ => hs) ?h0
   (fun x' a' W => ∃ B9, w3.heap.size ≤ B9 ∧ W.heap[B9]? = some (.cells #[.int .i64 (gi S x'.1 0), .int .i64 (gi S x'.1 1), .int .i64 (gi S x'.1 2), .int .i64 (gi S x'.1 3)] 90 (0, 0)) ∧ a' = { tmps := #[x.v, y.v, undef, undef, .slice none 0 0, .int .i64 0, .int .i64 0, .pointer (some ⟨w2.heap.size, 0, none⟩), undef, .pointer (some ⟨B9, 0, none⟩), x.v, y.v, .int .i64 0, .int .i64 0, .bool false, undef, y.v, .slice (some ⟨b, 0, none⟩) y.n c, x.v, .func (.func 192) #[] #[.pointer (some ⟨bx, 0, none⟩)], .int .i64 (x'.1 : Int), .agg #[.int .i64 (gi S x'.1 0), .int .i64 (gi S x'.1 1), .int .i64 (gi S x'.1 2), .int .i64 (gi S x'.1 3)], undef, undef, undef, undef], defers := [] }) ?ax ?assign ?body ?done ?stop
  case assign =>
   intro l' pre x' W K hI hK
   dsimp only [shrE, shrV]
   gi_wp2
   exact hK _ _ ((KeepsOthers.alloc W _).from _) (fun k hk _ => Below.heap_alloc W _ k (Nat.lt_of_lt_of_le hk hI.size)) (hI.grown ah (World.grownBy_alloc W _ none) (fun r e => by cases e)) ⟨W.heap.size, hI.size, World.alloc_heap_new W _, rfl⟩
  case r0 => exact fun W hW k hk _ => hW.block k hk
  case r1 => exact fun W hR => (World.cell?_of_block (hR bx ae hbb)).trans (by simp [World.cell?, aa])
  case r2 =>
   intro W j hR hj
   obtain ⟨b', o, e1, e2, e3⟩ := hxr j hj
   have e4 : ∀ i, i < 4 → W.cell? ⟨b', o + j * 4 + i, none⟩ = some (.int .i64 (gi S j i)) := fun i hi => (World.cell?_of_block (hR b' (Nat.lt_of_lt_of_le e2 hbw.size) (by show b' ≠ b; omega))).trans (e3 i hi)
   exact ⟨b', o, e1, e4 0 xw, e4 1 xw, e4 2 xw, e4 3 xw⟩
  case rk => exact fun W W' hk hR k hk' hkb => (hk k hk' hkb).trans (hR k hk' hkb)
  case kb => exact fun W l' o o' hl _ _ _ k hk _ => World.putObj_heap_other xq
  case own => exact fun s W W' row hs hg hr => BkI.grown hs ah hg (fun r e => (hr r e).1)
  case h0 => exact ⟨fun _ _ _ => rfl, Nat.le_refl _, rfl, rfl, rfl, ad⟩
  case ax =>
   rintro x' a' _ W W' row ⟨B9, h1, h2, h3⟩ hg hr
   exact ⟨B9, h1, (hg.block B9 (zyz h2) (fun e => by obtain ⟨_, o, ho, hc⟩ := hr B9 e.symm; rw [h2] at ho; cases ho; cases hc)).trans h2, h3⟩
  case stop => exact fun D c' pre W _ _ h _ => h.elim
  case body =>
   rintro l' pre x' a' W hl' _ hI ⟨B9, hB9, ac, rfl⟩ hpl
   have hxl : x'.1 < S.length := by rw [← hlx]; exact x'.2
   have hsO := hV.2.2.2 x'.1 hxl
   rw [row4 hx.rows hxl] at hsO
   obtain ⟨tz, htz⟩ : ∃ t : Nat, gi S x'.1 0 = (t : Int) := ⟨(gi S x'.1 0).toNat, by have h9 : 0 ≤ gi S x'.1 0 := hsO.1; omega⟩
   obtain ⟨fz, hfz⟩ : ∃ t : Nat, gi S x'.1 1 = (t : Int) := ⟨(gi S x'.1 1).toNat, by have h9 : 0 ≤ gi S x'.1 1 := hsO.2.2.1; omega⟩
   have al : W.cell? ⟨w2.heap.size, 0, none⟩ = some (.slice (some ⟨b, 0, none⟩) y.n c) := (World.cell?_of_block (hI.kp w2.heap.size xq ai)).trans (by simp [World.cell?, ab])
   have e0 : W.cell? ⟨B9, 0, none⟩ = some (.int .i64 (gi S x'.1 0)) := by simp [World.cell?, ac]
   have e1 : W.cell? ⟨B9, 1, none⟩ = some (.int .i64 (gi S x'.1 1)) := by simp [World.cell?, ac]
   have e2 : W.cell? ⟨B9, 2, none⟩ = some (.int .i64 (gi S x'.1 2)) := by simp [World.cell?, ac]
   have e3 : W.cell? ⟨B9, 3, none⟩ = some (.int .i64 (gi S x'.1 3)) := by simp [World.cell?, ac]
   have af : bst S l ((pre ++ [x']).map Subtype.val) = Nt.shF [(tz : Int), (fz : Int), gi S x'.1 2, gi S x'.1 3] (-1) (bst S l (pre.map Subtype.val)) := by rw [List.map_append]; show bst S l (_ ++ [x'.1]) = _; rw [bst_snoc, row4 hx.rows hxl, htz, hfz]
   rw [htz, hfz] at hsO
   have kc := k_perform (n := y.n) (c := c) (t := tz) (f := fz) (cf := gi S x'.1 2) (sh := gi S x'.1 3) (sg := -1) (allH_dat W) hI.cell (allH_get (zyz hI.cell)) ((bst_len _ _ _).trans hly) (bst_w32 _ _ _ hW) (by have := hV.2.1; omega) (by rw [show ((y.n : Nat) : Int) = (l.length : Int) by omega]; exact hsO) xw
   rw [← htz, ← hfz] at kc af
   clear htz hfz hsO
   gi_wp2_with (refine ⟨trivial, ?_⟩; gi_at_call 116; refine (CallsIn.inRound l' (callsIn_wide.2 kc)).mono ?_; rintro e W' ⟨u', V, rfl, dd, hbel, hgr, hVc, rfl⟩)
   refine ⟨⟨hbel.size, fun k o hBk hk _ => (hbel.block k (zyz hk) (fun t e => by injection e with e; injection e with _ e; omega) zk).trans hk⟩, fun k hk hkb => hbel.block k (Nat.lt_of_lt_of_le hk hI.size) (fun t e => by injection e with e; injection e with _ e; omega) zk, ?_⟩
   refine ⟨fun k hk hkb => (hbel.block k (Nat.lt_of_lt_of_le hk hI.size) (fun t e => by injection e with e; injection e with _ e; omega) zk).trans (hI.kp k hk hkb), Nat.le_trans hI.size hbel.size, hbel.os.trans hI.os, hbel.tape.trans hI.tape, hbel.output.trans hI.output, ?_⟩
   rw [af]
   exact hVc
  case done =>
   rintro D xs W hD hxs hI hK
   have al : W.cell? ⟨w2.heap.size, 0, none⟩ = some (.slice (some ⟨b, 0, none⟩) y.n c) := (World.cell?_of_block (hI.kp w2.heap.size xq ai)).trans (by simp [World.cell?, ab])
   gi_wp2
   refine ⟨by simp, .inl ⟨_, _, rfl, run_takeDeferred hK, ?_⟩⟩
   have hfin : bst S l (xs.map Subtype.val) = Nt.shBs S l := by rw [hxs, hlx]; exact (Nt.bkl_fold S l S.length 0 xq).trans (by rw [List.drop_zero])
   have hDb : b ≠ D := by omega
   have hbl : Below w.heap.size w (W.putObj D (.deferred none)) := ⟨hI.os.trans hbw.os, hI.tape.trans hbw.tape, hI.output.trans hbw.output, by rw [World.putObj_size]; exact Nat.le_trans hbw.size hI.size, fun k hk => (World.putObj_heap_other xq).trans ((hI.kp k xq xq).trans (hbw.block k hk))⟩
   have hcell : (over u (W.putObj D (.deferred none))).heap[b]? = some (.cells (ics (Nt.shBs S l) ++ X).toArray 3 (0, 0)) := by
    rw [over_new (by rw [d.size]; exact hbge), World.putObj_heap_other hDb, ← hfin]
    exact hI.cell
   refine ⟨.tuple #[.slice (some ⟨b, 0, none⟩) y.n c, .int .i64 0], by simp [results, Tryz.f50, go_sem], .tuple #[.slice (some ⟨b, 0, none⟩) y.n c, .int .i64 0], over u _, rfl, over_dat d hbl, hbl, over_grow (by rw [d.size]; exact hbl.size), ⟨some ⟨b, 0, none⟩, y.n, c⟩, ?_, ?_⟩
   ·rw [hE]
   rw [show Nt.bwdL S l = Nt.shBs S l from if_pos hE]
   exact ints_dataX hcell (Nt.shBs_len.trans hly) ak hnc am
 gi_wp2_with (refine ⟨trivial, ?_⟩; gi_at_call 114; refine (callsIn_wide.2 (k_dcheck d hx h9 hy hb h8)).mono ?_; rintro e w1 ⟨v, u1, rfl, d1, b1, g1, rfl⟩)
 refine ⟨.tuple #[.slice none 0 0, .int .i64 (Nt.chkE S l)], by simp [results, Tryz.f50, go_sem], _, u1, rfl, d1, b1, g1, sl0, rfl, ?_⟩
 rw [show Nt.bwdL S l = [] from if_neg hE]
 exact ⟨rfl, Nat.le_refl _, Nat.zero_le _, fun h => absurd h (Nat.lt_irrefl 0)⟩
theorem Nt.tm32 (v : Int) : (0 ≤ v ∧ v.tmod 4294967296 = v % 4294967296) ∨ (v < 0 ∧ v.tmod 4294967296 = -((-v) % 4294967296)) := by
 rcases Int.le_total 0 v with h | h
 ·exact .inl ⟨h, Int.tmod_eq_emod_of_nonneg h⟩
 rcases Int.lt_or_eq_of_le h with h1 | rfl
 ·refine .inr ⟨h1, ?_⟩
  have e : v.tmod 4294967296 = -((-v).tmod 4294967296) := by rw [Int.neg_tmod, Int.neg_neg]
  rw [e, Int.tmod_eq_emod_of_nonneg xq]
 exact .inl ⟨Int.le_refl _, rfl⟩
theorem k_r21wrap {u w : World} {v : Int} (d : Dat u w) (hv0 : -9223372036854775808 ≤ v) (hv1 : v ≤ 9223372036854775807) : Calls Tryz.prog 47 #[.int .i64 32, .int .i64 v] w (Post u w fun y _ => y = .int .i64 (Nt.wrapW 32 v)) := by
 refine zzl (args := [.int .i64 32, .int .i64 v]) Tryz.func47 rfl Tryz.ntmps47 (rs := [.tmp 4]) Tryz.results47 (le_b rfl) (le_b rfl) d ?_
 refine sq9 (zza 4 (zI 0) (zzb (zzd (sq9 (zza 7 (zI 32) (zzg 8 113 _ fun _ _ _ ad => Post.mono (k_in ad (z := 32) (a := 1) (b := 62)) ?_))))))
 rintro _ u12 g13 rfl
 refine zza 9 (zB (!(decide ((1 : Int) ≤ 32) && decide (32 ≤ 62)))) (zzb (zzt (b := !(decide ((1 : Int) ≤ 32) && decide (32 ≤ 62))) xj (fun hb => ?_) (fun hb => ?_)))
 ·exact absurd hb (by rw [show (!(decide ((1 : Int) ≤ 32) && decide (32 ≤ 62))) = false from rfl]; decide)
 clear hb
 refine zzr (zzo ?_)
 refine sq9 (zza 10 (zI 32) (sy_conv 11 (32) (fun w => by kernel_rfl) (IntWalk.u64_in _ xq) ?_))
 refine sy_shl 12 (k := .i64) (s := 32) (4294967296) xq yw (show IntKind.i64.wrap ((1 : Int) * 2 ^ (32 : Int).toNat) = 4294967296 from by decide) ?_
 refine zza 5 (zI 4294967296) (zzb (sq9 (zza 13 (zI v) (zza 14 (zI 4294967296) ?_))))
 obtain ⟨g, hg⟩ : ∃ g, v.tmod 4294967296 = g := ⟨_, rfl⟩
 have hm := Nt.tm32 v
 rw [hg] at hm
 refine sy_rem 15 (n := v) (m := 4294967296) g xw hg ?_
 refine zza 6 (zI g) (zzb (zzd (sq9 (zza 16 (zI g) (zza 17 (zB (decide (g < 0))) (zzb (zzt (b := decide (g < 0)) xj (fun ab => ?_) (fun ab => ?_))))))))
 ·have qhb15 := of_decide_eq_true ab
  refine zzf (zza 18 (zI g) (zza 19 (zI 4294967296) (zyp 20 (x := zI (IntKind.i64.wrap (g + 4294967296))) (zI (g + 4294967296)) yq (zza 6 (zI (g + 4294967296)) (zzb (zzd (sq9 (zza 21 (zI (g + 4294967296)) (zza 22 (zI 4294967296) (sy_quo 23 (n := 4294967296) (m := 2) 2147483648 xw (show IntKind.i64.wrap ((4294967296 : Int).tdiv 2) = 2147483648 from by decide) ?_))))))))))
  refine zza 24 (zB (decide ((2147483648 : Int) ≤ (g + 4294967296)))) (zzb (zzt (b := decide ((2147483648 : Int) ≤ (g + 4294967296))) xj (fun aa => ?_) (fun aa => ?_)))
  ·have qhb16 := of_decide_eq_true aa
   refine zzf (zza 25 (zI (g + 4294967296)) (zza 26 (zI 4294967296) (zyp 27 (x := zI (IntKind.i64.wrap ((g + 4294967296) - 4294967296))) (zI ((g + 4294967296) - 4294967296)) yq (zza 6 (zI ((g + 4294967296) - 4294967296)) (zzb (sq9 (zza 28 (zI ((g + 4294967296) - 4294967296)) (zza 4 (zI ((g + 4294967296) - 4294967296)) (zzb (zzn (ret0 [.int .i64 ((g + 4294967296) - 4294967296)] ⟨zzp, trivial⟩ fun u17 e18 => ?_)))))))))))
   show Value.int _ _ = Value.int _ _
   congr 1
   rw [Nt.wrap32]
   omega
  have qhb16 := of_decide_eq_false aa
  refine zzr (zzo ?_)
  refine sq9 (zza 28 (zI (g + 4294967296)) (zza 4 (zI (g + 4294967296)) (zzb (zzn (ret0 [.int .i64 (g + 4294967296)] ⟨zzp, trivial⟩ fun u19 e20 => ?_)))))
  show Value.int _ _ = Value.int _ _
  congr 1
  rw [Nt.wrap32]
  omega
 have qhb15 := of_decide_eq_false ab
 refine zzr (zzo ?_)
 refine zzd (sq9 (zza 21 (zI g) (zza 22 (zI 4294967296) (sy_quo 23 (n := 4294967296) (m := 2) 2147483648 xw (show IntKind.i64.wrap ((4294967296 : Int).tdiv 2) = 2147483648 from by decide) ?_))))
 refine zza 24 (zB (decide ((2147483648 : Int) ≤ g))) (zzb (zzt (b := decide ((2147483648 : Int) ≤ g)) xj (fun ac => ?_) (fun ac => ?_)))
 ·have qhb21 := of_decide_eq_true ac
  refine zzf (zza 25 (zI g) (zza 26 (zI 4294967296) (zyp 27 (x := zI (IntKind.i64.wrap (g - 4294967296))) (zI (g - 4294967296)) yq (zza 6 (zI (g - 4294967296)) (zzb (sq9 (zza 28 (zI (g - 4294967296)) (zza 4 (zI (g - 4294967296)) (zzb (zzn (ret0 [.int .i64 (g - 4294967296)] ⟨zzp, trivial⟩ fun u22 e23 => ?_)))))))))))
  show Value.int _ _ = Value.int _ _
  congr 1
  rw [Nt.wrap32]
  omega
 have qhb21 := of_decide_eq_false ac
 refine zzr (zzo ?_)
 refine sq9 (zza 28 (zI g) (zza 4 (zI g) (zzb (zzn (ret0 [.int .i64 g] ⟨zzp, trivial⟩ fun u24 e25 => ?_)))))
 show Value.int _ _ = Value.int _ _
 congr 1
 rw [Nt.wrap32]
 omega
set_option maxHeartbeats 2000000 in
theorem k_r37valid {u w : World} {x : Sl} {S : List (List Int)} {n : Int} (d : Dat u w) (hx : IrV 4 u x S) (h9 : S.length ≤ 1000000) : Calls Tryz.prog 65 #[x.v, .int .i64 n] w (Post u w fun v _ => v = .bool (decide (Nt.shV n S))) := by
 have hlx : x.n = S.length := hx.len
 refine zzl (args := [x.v, .int .i64 n]) Tryz.func65 rfl Tryz.ntmps65 (rs := [.tmp 4]) Tryz.results65 (le_b rfl) (le_b rfl) d ?_
 refine sq9 (zza 4 (zB false) (zzb (zzd (sq9 (zza 7 (zI n) (zzg 8 113 _ fun _ _ ar av => Post.mono (k_in av (z := n) (a := 1) (b := 64)) ?_))))))
 rintro _ aw aj rfl
 refine zza 9 (zB (!(decide ((1 : Int) ≤ n) && decide (n ≤ 64)))) ?_
 rcases Bool.eq_false_or_eq_true (!(decide ((1 : Int) ≤ n) && decide (n ≤ 64))) with hs15 | hs15
 ·refine zyp 10 (x := zB (!(decide ((1 : Int) ≤ n) && decide (n ≤ 64)))) (zB true) (by rw [hs15]) (zzm 11 (uw 3 false true 10) (zzm 12 (uw 3 false true 10) (zzm 13 (uw 3 false true 10) (zza 14 (zB true) (zzb (zyq xj (sq9 (zza 4 (zB false) (zzb (zzn (zzv (ret0 [.bool false] ⟨zzp, trivial⟩ fun u16 e17 => ?_))))))))))))
  show Value.bool _ = Value.bool _
  congr 1
  symm
  have h9hs15 := hs15
  simp at h9hs15
  exact decide_eq_false (fun h9 => by have k1 := h9.1; have k2 := h9.2.1; have k3 := h9.2.2.1; omega)
 refine zyp 10 (x := zB (!(decide ((1 : Int) ≤ n) && decide (n ≤ 64)))) (zB false) (by rw [hs15]) ?_
 have hn1 : 1 ≤ n ∧ n ≤ 64 := by have h9 := hs15; simp at h9; omega
 refine zza 11 (.v (x.v)) ?_ (hw := w1 3 false 10)
 refine zza 12 (zI x.n) ?_ (hw := w1 3 false 10)
 refine zza 13 (zB (decide ((64 : Int) < (x.n : Int)))) ?_ (hw := w1 3 false 10)
 refine zza 14 (zB (decide ((64 : Int) < (x.n : Int)))) (zzb (zzt (b := decide ((64 : Int) < (x.n : Int))) xj (fun aa => ?_) (fun aa => ?_)))
 ·have qhb18 := of_decide_eq_true aa
  refine sq9 (zza 4 (zB false) (zzb (zzn (zzv (ret0 [.bool false] ⟨zzp, trivial⟩ fun u19 e20 => ?_)))))
  show Value.bool _ = Value.bool _
  congr 1
  symm
  have h9hs15 := hs15
  simp at h9hs15
  have h9hb18 := aa
  simp at h9hb18
  exact decide_eq_false (fun h9 => by have k1 := h9.1; have k2 := h9.2.1; have k3 := h9.2.2.1; omega)
 have qhb18 := of_decide_eq_false aa
 refine zzr (zzo ?_)
 refine zzd (sq9 (zza 5 (zI 0) (zzb (zzs (zym (I := fun am S' u' => ∃ (i : Nat), (am = S.length - i) ∧ (i ≤ S.length) ∧ (∀ j, j < i → Nt.shOK n (S.getD j [])) ∧ (S' = St.of 70 [(0, .v (x.v)), (1, zI n), (5, zI i)] []) ∧ (Ext aw u')) (fun m S u1 u2 e h => by obtain ⟨i, hm, p0, p1, hS, hE⟩ := h; exact ⟨i, hm, p0, p1, hS, hE.trans e⟩) _ yz ⟨0, rfl, by omega, (fun j hj => absurd hj xq), rfl, (Ext.refl _)⟩ ?_)))))
 rintro am _ u21 ⟨i, aA, hi, hA, rfl, ae⟩
 refine zzd (sq9 (zza 15 (zI i) (zza 16 (.v (x.v)) (zza 17 (zI x.n) (zza 18 (zB (decide ((i : Int) < (x.n : Int)))) (zzb (zzt (b := decide ((i : Int) < (x.n : Int))) xj (fun ab => ?_) (fun ab => ?_))))))))
 ·have qhb22 := of_decide_eq_true ab
  refine zzr (zzo ?_)
  refine zzd (zzs (sq9 (zza 21 (.v (x.v)) (zza 22 (zI i) ?_))))
  have hl23 := ((hx.ext (ar.trans (aj.ext.trans ae)))).len
  obtain ⟨b23, ak, af, ag⟩ := ir_at4 (hx.ext (ar.trans (aj.ext.trans ae))) (i := i) xq
  refine zzz 23 (ak + i * 4) (n := x.n) (off := ak) (sz := 4) (i := (i : Int)) xq af xq xq sl64 (zyl 24 [.int .i64 (gi S i 0), .int .i64 (gi S i 1), .int .i64 (gi S i 2), .int .i64 (gi S i 3)] ag ty90 (zzj 6 ⟨90, [.int .i64 0, .int .i64 0, .int .i64 0, .int .i64 0]⟩ (zzi ⟨90, [.int .i64 (gi S i 0), .int .i64 (gi S i 1), .int .i64 (gi S i 2), .int .i64 (gi S i 3)]⟩ ty90 ?_)))
  refine zzb (zzd (sq9 (zza 25 (.adr 6 0) (zzh 26 (zI (gi S i 0)) ty3 zzk (zza 27 (zI n) (zyp 28 (x := zI (IntKind.i64.wrap (n - 1))) (zI (n - 1)) yq (zzg 29 113 _ fun _ _ au ax => Post.mono (k_in ax (z := gi S i 0) (a := 0) (b := n - 1)) ?_)))))))
  rintro _ u25 ai rfl
  refine zza 30 (zB (!(decide ((0 : Int) ≤ (gi S i 0)) && decide ((gi S i 0) ≤ (n - 1))))) ?_
  rcases Bool.eq_false_or_eq_true (!(decide ((0 : Int) ≤ (gi S i 0)) && decide ((gi S i 0) ≤ (n - 1)))) with hs28 | hs28
  ·refine zyp 31 (x := zB (!(decide ((0 : Int) ≤ (gi S i 0)) && decide ((gi S i 0) ≤ (n - 1))))) (zB true) (by rw [hs28]) (zzm 32 (uw 6 false true 31) (zzm 33 (uw 6 false true 31) (zzm 34 (uw 6 false true 31) (zzm 35 (uw 6 false true 31) (zzm 36 (uw 6 false true 31) (zzm 37 (uw 6 false true 31) (zza 38 (zB true) (zza 39 (zB true) (zzm 40 (uw 14 false true 39) (zzm 41 (uw 14 false true 39) (zzm 42 (uw 14 false true 39) ?_)))))))))))
   refine zzm 43 (uw 14 false true 39) (zza 44 (zB true) (zza 45 (zB true) (zzm 46 (uw 20 false true 45) (zzm 47 (uw 20 false true 45) (zzm 48 (uw 20 false true 45) (zzm 49 (uw 20 false true 45) (zzm 50 (uw 20 false true 45) (zzm 51 (uw 20 false true 45) (zzm 52 (uw 20 false true 45) (zzm 53 (uw 20 false true 45) (zzm 54 (uw 20 false true 45) ?_)))))))))))
   refine zza 55 (zB true) (zzc 70 [(0, .v (x.v)), (1, zI n), (5, zI i), (6, .adr 6 0), (55, zB true)] [(6, ⟨90, [.int .i64 (gi S i 0), .int .i64 (gi S i 1), .int .i64 (gi S i 2), .int .i64 (gi S i 3)]⟩)] (zyq xj (sq9 (zza 4 (zB false) (zzb (zzn (zzv (zyt (zzv (zys (zyt (zzv (ret0 [.bool false] ⟨zzp, trivial⟩ fun u29 e30 => ?_)))))))))))))
   show Value.bool _ = Value.bool _
   congr 1
   symm
   have h9hs15 := hs15
   simp at h9hs15
   have h9hb18 := aa
   simp at h9hb18
   have h9hb22 := ab
   simp at h9hb22
   have h9hs28 := hs28
   simp at h9hs28
   exact decide_eq_false (fun h9 => by have h7 := h9.2.2.2 i xq; rw [row4 hx.rows xq] at h7; simp [Nt.shOK] at h7; omega)
  refine zyp 31 (x := zB (!(decide ((0 : Int) ≤ (gi S i 0)) && decide ((gi S i 0) ≤ (n - 1))))) (zB false) (by rw [hs28]) (zza 32 (.adr 6 1) ?_ (hw := w1 6 false 31))
  refine zzh 33 (zI (gi S i 1)) ty3 zzk ?_ (hw := w1 6 false 31)
  refine zza 34 (zI n) ?_ (hw := w1 6 false 31)
  refine zyp 35 (x := zI (IntKind.i64.wrap (n - 1))) (zI (n - 1)) yq ?_ (hw := w1 6 false 31)
  refine zzg 36 113 _ (fun _ _ ah ay => Post.mono (k_in ay (z := gi S i 1) (a := 0) (b := n - 1)) ?_) (hw := w1 6 false 31)
  rintro _ u32 an rfl
  refine zza 37 (zB (!(decide ((0 : Int) ≤ (gi S i 1)) && decide ((gi S i 1) ≤ (n - 1))))) ?_ (hw := w1 6 false 31)
  refine zza 38 (zB (!(decide ((0 : Int) ≤ (gi S i 1)) && decide ((gi S i 1) ≤ (n - 1))))) ?_
  rcases Bool.eq_false_or_eq_true (!(decide ((0 : Int) ≤ (gi S i 1)) && decide ((gi S i 1) ≤ (n - 1)))) with hs35 | hs35
  ·refine zyp 39 (x := zB (!(decide ((0 : Int) ≤ (gi S i 1)) && decide ((gi S i 1) ≤ (n - 1))))) (zB true) (by rw [hs35]) (zzm 40 (uw 14 false true 39) (zzm 41 (uw 14 false true 39) (zzm 42 (uw 14 false true 39) (zzm 43 (uw 14 false true 39) (zza 44 (zB true) (zza 45 (zB true) (zzm 46 (uw 20 false true 45) (zzm 47 (uw 20 false true 45) (zzm 48 (uw 20 false true 45) (zzm 49 (uw 20 false true 45) (zzm 50 (uw 20 false true 45) ?_)))))))))))
   refine zzm 51 (uw 20 false true 45) (zzm 52 (uw 20 false true 45) (zzm 53 (uw 20 false true 45) (zzm 54 (uw 20 false true 45) (zza 55 (zB true) (zzc 70 [(0, .v (x.v)), (1, zI n), (5, zI i), (6, .adr 6 0), (55, zB true)] [(6, ⟨90, [.int .i64 (gi S i 0), .int .i64 (gi S i 1), .int .i64 (gi S i 2), .int .i64 (gi S i 3)]⟩)] (zyq xj (sq9 (zza 4 (zB false) (zzb (zzn (zzv (zyt (zzv (zys (zyt (zzv (ret0 [.bool false] ⟨zzp, trivial⟩ fun u36 e37 => ?_)))))))))))))))))
   show Value.bool _ = Value.bool _
   congr 1
   symm
   have h9hs15 := hs15
   simp at h9hs15
   have h9hb18 := aa
   simp at h9hb18
   have h9hb22 := ab
   simp at h9hb22
   have h9hs28 := hs28
   simp at h9hs28
   have h9hs35 := hs35
   simp at h9hs35
   exact decide_eq_false (fun h9 => by have h7 := h9.2.2.2 i xq; rw [row4 hx.rows xq] at h7; simp [Nt.shOK] at h7; omega)
  refine zyp 39 (x := zB (!(decide ((0 : Int) ≤ (gi S i 1)) && decide ((gi S i 1) ≤ (n - 1))))) (zB false) (by rw [hs35]) (zza 40 (.adr 6 3) ?_ (hw := w1 14 false 39))
  refine zzh 41 (zI (gi S i 3)) ty3 zzk ?_ (hw := w1 14 false 39)
  refine zzg 42 113 _ (fun _ _ al az => Post.mono (k_in az (z := gi S i 3) (a := (-2)) (b := 20)) ?_) (hw := w1 14 false 39)
  rintro _ u39 ap rfl
  refine zza 43 (zB (!(decide ((-2) ≤ (gi S i 3)) && decide ((gi S i 3) ≤ 20)))) ?_ (hw := w1 14 false 39)
  refine zza 44 (zB (!(decide ((-2) ≤ (gi S i 3)) && decide ((gi S i 3) ≤ 20)))) ?_
  rcases Bool.eq_false_or_eq_true (!(decide ((-2) ≤ (gi S i 3)) && decide ((gi S i 3) ≤ 20))) with hs42 | hs42
  ·refine zyp 45 (x := zB (!(decide ((-2) ≤ (gi S i 3)) && decide ((gi S i 3) ≤ 20)))) (zB true) (by rw [hs42]) (zzm 46 (uw 20 false true 45) (zzm 47 (uw 20 false true 45) (zzm 48 (uw 20 false true 45) (zzm 49 (uw 20 false true 45) (zzm 50 (uw 20 false true 45) (zzm 51 (uw 20 false true 45) (zzm 52 (uw 20 false true 45) (zzm 53 (uw 20 false true 45) (zzm 54 (uw 20 false true 45) (zza 55 (zB true) (zzc 70 [(0, .v (x.v)), (1, zI n), (5, zI i), (6, .adr 6 0), (55, zB true)] [(6, ⟨90, [.int .i64 (gi S i 0), .int .i64 (gi S i 1), .int .i64 (gi S i 2), .int .i64 (gi S i 3)]⟩)] ?_)))))))))))
   refine zyq xj (sq9 (zza 4 (zB false) (zzb (zzn (zzv (zyt (zzv (zys (zyt (zzv (ret0 [.bool false] ⟨zzp, trivial⟩ fun u43 e44 => ?_)))))))))))
   show Value.bool _ = Value.bool _
   congr 1
   symm
   have h9hs15 := hs15
   simp at h9hs15
   have h9hb18 := aa
   simp at h9hb18
   have h9hb22 := ab
   simp at h9hb22
   have h9hs28 := hs28
   simp at h9hs28
   have h9hs35 := hs35
   simp at h9hs35
   have h9hs42 := hs42
   simp at h9hs42
   exact decide_eq_false (fun h9 => by have h7 := h9.2.2.2 i xq; rw [row4 hx.rows xq] at h7; simp [Nt.shOK] at h7; omega)
  refine zyp 45 (x := zB (!(decide ((-2) ≤ (gi S i 3)) && decide ((gi S i 3) ≤ 20)))) (zB false) (by rw [hs42]) (zza 46 (.adr 6 0) ?_ (hw := w1 20 false 45))
  refine zzh 47 (zI (gi S i 0)) ty3 zzk ?_ (hw := w1 20 false 45)
  refine zza 48 (.adr 6 1) ?_ (hw := w1 20 false 45)
  refine zzh 49 (zI (gi S i 1)) ty3 zzk ?_ (hw := w1 20 false 45)
  refine zza 50 (zB ((gi S i 0) == (gi S i 1))) ?_ (hw := w1 20 false 45)
  refine zza 51 (.adr 6 3) ?_ (hw := w1 20 false 45)
  refine zzh 52 (zI (gi S i 3)) ty3 zzk ?_ (hw := w1 20 false 45)
  refine zza 53 (zB ((gi S i 3) == (-2))) ?_ (hw := w1 20 false 45)
  refine zza 54 (zB (!(((gi S i 0) == (gi S i 1)) == ((gi S i 3) == (-2))))) ?_ (hw := w1 20 false 45)
  refine zza 55 (zB (!(((gi S i 0) == (gi S i 1)) == ((gi S i 3) == (-2))))) (zzc 70 [(0, .v (x.v)), (1, zI n), (5, zI i), (6, .adr 6 0), (55, zB (!(((gi S i 0) == (gi S i 1)) == ((gi S i 3) == (-2)))))] [(6, ⟨90, [.int .i64 (gi S i 0), .int .i64 (gi S i 1), .int .i64 (gi S i 2), .int .i64 (gi S i 3)]⟩)] (zzt (b := !(((gi S i 0) == (gi S i 1)) == ((gi S i 3) == (-2)))) xj (fun ac => ?_) (fun ac => ?_)))
  ·refine sq9 (zza 4 (zB false) (zzb (zzn (zzv (zyt (zzv (zys (zyt (zzv (ret0 [.bool false] ⟨zzp, trivial⟩ fun u46 e47 => ?_))))))))))
   show Value.bool _ = Value.bool _
   congr 1
   symm
   have h9hs15 := hs15
   simp at h9hs15
   have h9hb18 := aa
   simp at h9hb18
   have h9hb22 := ab
   simp at h9hb22
   have h9hs28 := hs28
   simp at h9hs28
   have h9hs35 := hs35
   simp at h9hs35
   have h9hs42 := hs42
   simp at h9hs42
   have h9hb45 := ac
   rw [Nt.ne_pair] at h9hb45
   replace h9hb45 := of_decide_eq_true h9hb45
   exact decide_eq_false (fun h9 => by have h7 := h9.2.2.2 i xq; rw [row4 hx.rows xq] at h7; simp [Nt.shOK] at h7; omega)
  refine zzr (zzo ?_)
  refine sq9 (zza 56 (.adr 6 2) (zzh 57 (zI (gi S i 2)) ty3 zzk (zzg 58 113 _ fun _ _ aq aB => Post.mono (k_in aB (z := gi S i 2) (a := (-2097152)) (b := 2097152)) ?_)))
  rintro _ u49 ao rfl
  refine zza 59 (zB (!(decide ((-2097152) ≤ (gi S i 2)) && decide ((gi S i 2) ≤ 2097152)))) ?_
  rcases Bool.eq_false_or_eq_true (!(decide ((-2097152) ≤ (gi S i 2)) && decide ((gi S i 2) ≤ 2097152))) with hs52 | hs52
  ·refine zyp 60 (x := zB (!(decide ((-2097152) ≤ (gi S i 2)) && decide ((gi S i 2) ≤ 2097152)))) (zB true) (by rw [hs52]) (zzm 61 (uw 4 false true 60) (zzm 62 (uw 4 false true 60) (zzm 63 (uw 4 false true 60) (zzm 64 (uw 4 false true 60) (zzm 65 (unwantedU (g := 8) (b := true) (t := 64) xj xj xj) (zzm 66 (unwantedU (g := 8) (b := true) (t := 64) xj xj xj) (zzm 67 (unwantedU (g := 8) (b := true) (t := 64) xj xj xj) (zzm 68 (uw 4 false true 60) (zza 69 (zB true) (zzb (zyq xj ?_)))))))))))
   refine sq9 (zza 4 (zB false) (zzb (zzn (zyt (zzv (zys (zyt (zzv (ret0 [.bool false] ⟨zzp, trivial⟩ fun u53 e54 => ?_)))))))))
   show Value.bool _ = Value.bool _
   congr 1
   symm
   have h9hs15 := hs15
   simp at h9hs15
   have h9hb18 := aa
   simp at h9hb18
   have h9hb22 := ab
   simp at h9hb22
   have h9hs28 := hs28
   simp at h9hs28
   have h9hs35 := hs35
   simp at h9hs35
   have h9hs42 := hs42
   simp at h9hs42
   have h9hb45 := ac
   rw [Nt.ne_pair] at h9hb45
   replace h9hb45 := of_decide_eq_false h9hb45
   have h9hs52 := hs52
   simp at h9hs52
   exact decide_eq_false (fun h9 => by have h7 := h9.2.2.2 i xq; rw [row4 hx.rows xq] at h7; simp [Nt.shOK] at h7; omega)
  refine zyp 60 (x := zB (!(decide ((-2097152) ≤ (gi S i 2)) && decide ((gi S i 2) ≤ 2097152)))) (zB false) (by rw [hs52]) (zza 61 (.adr 6 3) ?_ (hw := w1 4 false 60))
  refine zzh 62 (zI (gi S i 3)) ty3 zzk ?_ (hw := w1 4 false 60)
  refine zza 63 (zB (decide ((gi S i 3) < 0))) ?_ (hw := w1 4 false 60)
  rcases Bool.eq_false_or_eq_true (decide ((gi S i 3) < 0)) with hs55 | hs55
  ·refine zyp 64 (x := zB (decide ((gi S i 3) < 0))) (zB true) (by rw [hs55]) ?_ (hw := w1 4 false 60)
   have qhs55 := of_decide_eq_true hs55
   refine zza 65 (.adr 6 2) ?_ (hw := w1 8 true 64)
   refine zzh 66 (zI (gi S i 2)) ty3 zzk ?_ (hw := w1 8 true 64)
   refine zza 67 (zB ((gi S i 2) != 0)) ?_ (hw := w1 8 true 64)
   refine zza 68 (zB ((gi S i 2) != 0)) ?_ (hw := w1 4 false 60)
   refine zza 69 (zB ((gi S i 2) != 0)) (zzb (zzt (b := (gi S i 2) != 0) xj (fun ad => ?_) (fun ad => ?_)))
   ·refine sq9 (zza 4 (zB false) (zzb (zzn (zyt (zzv (zys (zyt (zzv (ret0 [.bool false] ⟨zzp, trivial⟩ fun u57 e58 => ?_)))))))))
    show Value.bool _ = Value.bool _
    congr 1
    symm
    have h9hs15 := hs15
    simp at h9hs15
    have h9hb18 := aa
    simp at h9hb18
    have h9hb22 := ab
    simp at h9hb22
    have h9hs28 := hs28
    simp at h9hs28
    have h9hs35 := hs35
    simp at h9hs35
    have h9hs42 := hs42
    simp at h9hs42
    have h9hb45 := ac
    rw [Nt.ne_pair] at h9hb45
    replace h9hb45 := of_decide_eq_false h9hb45
    have h9hs52 := hs52
    simp at h9hs52
    have h9hs55 := hs55
    simp at h9hs55
    have h9hb56 := ad
    simp at h9hb56
    exact decide_eq_false (fun h9 => by have h7 := h9.2.2.2 i xq; rw [row4 hx.rows xq] at h7; simp [Nt.shOK] at h7; omega)
   refine zzr (zzo ?_)
   refine zzf (zza 19 (zI i) (zyp 20 (x := zI (IntKind.i64.wrap ((i : Int) + 1))) (zI (i + 1 : Nat)) (eqI xk) (zza 5 (zI (i + 1 : Nat)) (zzw ?_))))
   have h9hs15 := hs15
   simp at h9hs15
   have h9hb18 := aa
   simp at h9hb18
   have h9hb22 := ab
   simp at h9hb22
   have h9hs28 := hs28
   simp at h9hs28
   have h9hs35 := hs35
   simp at h9hs35
   have h9hs42 := hs42
   simp at h9hs42
   have h9hb45 := ac
   rw [Nt.ne_pair] at h9hb45
   replace h9hb45 := of_decide_eq_false h9hb45
   have h9hs52 := hs52
   simp at h9hs52
   have h9hs55 := hs55
   simp at h9hs55
   have h9hb56 := ad
   simp at h9hb56
   have hok : Nt.shOK n (S.getD i []) := by rw [row4 hx.rows xq]; simp [Nt.shOK]; omega
   refine ⟨_, ?_, _, by exact zzu _ _ _, i + 1, rfl, by omega, (fun j hj => by rcases Nat.lt_or_ge j i with h9 | h9; exact hA j h9; (obtain rfl : j = i := by omega); exact hok), rfl, (ae.trans (au.trans (ai.ext.trans (ah.trans (an.ext.trans (al.trans (ap.ext.trans (aq.trans ao.ext))))))))⟩
   omega
  refine zyp 64 (x := zB (decide ((gi S i 3) < 0))) (zB false) (by rw [hs55]) ?_ (hw := w1 4 false 60)
  have qhs55 := of_decide_eq_false hs55
  refine zzm 65 (uw 8 true false 64) (zzm 66 (uw 8 true false 64) (zzm 67 (uw 8 true false 64) (zza 68 (zB false) ?_ (hw := w1 4 false 60))))
  refine zza 69 (zB false) (zzb (zyr xj (zzr (zzo ?_))))
  refine zzf (zza 19 (zI i) (zyp 20 (x := zI (IntKind.i64.wrap ((i : Int) + 1))) (zI (i + 1 : Nat)) (eqI xk) (zza 5 (zI (i + 1 : Nat)) (zzw ?_))))
  have h9hs15 := hs15
  simp at h9hs15
  have h9hb18 := aa
  simp at h9hb18
  have h9hb22 := ab
  simp at h9hb22
  have h9hs28 := hs28
  simp at h9hs28
  have h9hs35 := hs35
  simp at h9hs35
  have h9hs42 := hs42
  simp at h9hs42
  have h9hb45 := ac
  rw [Nt.ne_pair] at h9hb45
  replace h9hb45 := of_decide_eq_false h9hb45
  have h9hs52 := hs52
  simp at h9hs52
  have h9hs55 := hs55
  simp at h9hs55
  have hok : Nt.shOK n (S.getD i []) := by rw [row4 hx.rows xq]; simp [Nt.shOK]; omega
  refine ⟨_, ?_, _, by exact zzu _ _ _, i + 1, rfl, by omega, (fun j hj => by rcases Nat.lt_or_ge j i with h9 | h9; exact hA j h9; (obtain rfl : j = i := by omega); exact hok), rfl, (ae.trans (au.trans (ai.ext.trans (ah.trans (an.ext.trans (al.trans (ap.ext.trans (aq.trans ao.ext))))))))⟩
  omega
 have qhb22 := of_decide_eq_false ab
 refine zyb (zzo (sq9 (zza 4 (zB true) (zzb (zzn (ret0 [.bool true] ⟨zzp, trivial⟩ fun u59 e60 => ?_))))))
 show Value.bool _ = Value.bool _
 congr 1
 symm
 have h9hs15 := hs15
 simp at h9hs15
 have h9hb18 := aa
 simp at h9hb18
 have h9hb22 := ab
 simp at h9hb22
 exact decide_eq_true ⟨by omega, by omega, by omega, fun j hj => hA j xq⟩
theorem MutQ.blk {k lo : Nat} {ty : TypeId} {u : World} {x : Sl} {cs : List Value} {a : Addr} (m : MutQ k ty lo u x cs) (ha : x.a = some a) : lo ≤ a.block := by
 rcases m.2.2.2 with h1 | ⟨b, all, h1, _, _, _, h5, _⟩
 ·rw [h1] at ha; cases ha
 rw [h1] at ha; injection ha with ha; subst ha; exact h5
set_option maxHeartbeats 8000000 in
theorem k_r37linear {u w : World} {x : Sl} {S : List (List Int)} {n : Nat} (d : Dat u w) (hx : IrV 4 u x S) (hV : Nt.shV (n : Int) S) : Calls Tryz.prog 61 #[x.v, .int .i64 (n : Int)] w (Post u w fun v u' => ∃ (y : Sl) (Rs : List Sl) (Ls : List (List RL)), v = .tuple #[y.v, .int .i64 0] ∧ MatQ 1 54 26 u.heap.size u' y Rs Ls ∧ MatN u' Ls (Nt.linM n S) 100) := by
 have hlx : x.n = S.length := hx.len
 have hV1 := hV.1
 have hV2 := hV.2.1
 have hV3 := hV.2.2.1
 refine zzl (args := [x.v, .int .i64 n]) Tryz.func61 rfl Tryz.ntmps61 (rs := [.tmp 4, .tmp 5]) Tryz.results61 (le_b rfl) (le_b rfl) d ?_
 refine sq9 (zza 4 (.v (.slice none 0 0)) (zza 5 (zI 0) (zzb (zzd (sq9 (zza 13 (.v (x.v)) (zza 14 (zI n) (zzg 15 65 _ fun _ _ bG cO => Post.mono (k_r37valid (x := x) (n := (n : Int)) cO (hx.ext bG) xq) ?_))))))))
 rintro _ cQ cy rfl
 refine zza 16 (zB (!(decide (Nt.shV (n : Int) S)))) (zzb (zzt (b := !(decide (Nt.shV (n : Int) S))) xj (fun hb => ?_) (fun hb => ?_)))
 ·exact absurd hb (by rw [show (!(decide (Nt.shV (n : Int) S))) = false from (by rw [decide_eq_true hV]; rfl)]; decide)
 clear hb
 refine zzr (zzo ?_)
 refine sq9 (zza 17 (zI n) (sy_makeF 18 (T := 71) (E := 54) (z := .slice none 0 0) (size := 1) (bytes := 24) n ((List.replicate n sl0).map Sl.v) xj xj rfl rfl xq yv (made_sls _) (fun aa cZ c4 c8 aQ dn => ?_)))
 have bI : MutQ 1 54 cQ.heap.size cZ (⟨some ⟨aa, 0, none⟩, n, n⟩ : Sl) ((List.replicate n sl0).map Sl.v) := MutQ.lit c8 (by rw [List.length_map, List.length_replicate, Nat.mul_one]) yv dn (nu_sls _)
 have hlow := MutQ.low bI (Ext.size (bG.trans cy.ext))
 refine zza 6 (.v (.slice (some ⟨aa, 0, none⟩) n n)) (zzb (zzd (sq9 (zza 7 (zI 0) (zzb (zzs (zym (I := fun cG S' u' => ∃ (i : Nat) (R1 : List Sl) (L1 : List (List RL)), (cG = n - i) ∧ (i ≤ n) ∧ (L1.length = n) ∧ (∀ k, i ≤ k → L1.getD k [] = []) ∧ (S' = St.of 147 [(0, .v (x.v)), (1, zI n), (6, .v (.slice (some ⟨aa, 0, none⟩) n n)), (7, zI i)] []) ∧ (Ext u u') ∧ (MatQ 1 54 26 u.heap.size u' (⟨some ⟨aa, 0, none⟩, n, n⟩ : Sl) R1 L1) ∧ (MatP u' L1 (Nt.idR n) i 100)) (fun m S u1 u2 e h => by obtain ⟨i, R1, L1, hm, p0, p1, p2, hS, hE, f0, f1⟩ := h; exact ⟨i, R1, L1, hm, p0, p1, p2, hS, hE.trans e, f0.ext e, f1.ext e⟩) _ yz ⟨0, (List.replicate n sl0), (List.replicate n []), rfl, by omega, by rw [List.length_replicate], (fun k _ => by rw [List.getD_eq_getElem?_getD, List.getElem?_replicate]; split <;> rfl), rfl, (bG.trans (cy.ext.trans c4)), (MatQ.ext (MatQ.nil n hlow) (Ext.refl _)), (MatP.zero _ _ _ _)⟩ ?_)))))))
 rintro cG _ u17 ⟨i, R1, L1, cY, hi, cE, hem, rfl, cu, z0, z1⟩
 have hRz := z0.len
 refine zzd (sq9 (zza 19 (zI i) (zza 20 (zI n) (zza 21 (zB (decide ((i : Int) < (n : Int)))) (zzb (zzt (b := decide ((i : Int) < (n : Int))) xj (fun aL => ?_) (fun aL => ?_)))))))
 ·have qhb18 := of_decide_eq_true aL
  refine zzr (zzo ?_)
  refine zzd (zzs (sq9 (zza 8 (zI 0) (zzb (zzs (zym (I := fun cx S' u' => ∃ (j : Nat) (R2 : List Sl) (L2 : List (List RL)), (cx = n - j) ∧ (j ≤ n) ∧ (L2.length = n) ∧ (∀ k, i < k → L2.getD k [] = []) ∧ (S' = St.of 147 [(0, .v (x.v)), (1, zI n), (6, .v (.slice (some ⟨aa, 0, none⟩) n n)), (7, zI i), (8, zI j)] []) ∧ (Ext u u') ∧ (MatQ 1 54 26 u.heap.size u' (⟨some ⟨aa, 0, none⟩, n, n⟩ : Sl) R2 L2) ∧ (MatP u' L2 (Nt.idR n) i 100) ∧ (RatsN u' (L2.getD i []) ((Nt.idRow n i).take j) 100)) (fun m S u1 u2 e h => by obtain ⟨j, R2, L2, hm, p0, p1, p2, hS, hE, f0, f1, f2⟩ := h; exact ⟨j, R2, L2, hm, p0, p1, p2, hS, hE.trans e, f0.ext e, f1.ext e, f2.ext e⟩) _ yz ⟨0, R1, L1, rfl, by omega, cE, (fun k hk => hem k xq), rfl, cu, z0, z1, (by rw [hem i (Nat.le_refl i), List.take_zero]; exact ⟨rfl, fun k hk => absurd hk (Nat.not_lt_zero k)⟩)⟩ ?_))))))
  rintro cx _ c6 ⟨j, R2, L2, cU, hj, ca, aE, rfl, cq, f0, f1, f2⟩
  have hRz2 := f0.len
  have bw : (L2.getD i []).length = j := by rw [f2.1, List.length_take, Nt.idRow_len]; omega
  have hrow2 := MatQ.row f0 i xq
  have bR : (R2.getD i sl0).n = j := (MutQ.rown hrow2).trans bw
  refine zzd (sq9 (zza 24 (zI j) (zza 25 (zI n) (zza 26 (zB (decide ((j : Int) < (n : Int)))) (zzb (zzt (b := decide ((j : Int) < (n : Int))) xj (fun aC => ?_) (fun aC => ?_)))))))
  ·have qhb20 := of_decide_eq_true aC
   refine zzr (zzo ?_)
   refine zzd (zzs (sq9 (zza 29 (zI i) (zza 30 (zI j) (zza 31 (zB ((i : Int) == (j : Int))) (zzb (zzt (b := (i : Int) == (j : Int)) xj (fun aD => ?_) (fun aD => ?_))))))))
   ·refine sw_anyX xj 11 rfl ?_
    refine takeX 0 32 10 (.v (.slice (some ⟨aa, 0, none⟩) n n)) #[true, false, false, false, false, false, false, false, false, false, false] ?_
    refine takeX 1 33 9 (.v (.int .i64 (i : Int))) #[true, true, false, false, false, false, false, false, false, false, false] ?_
    refine restX [0, 0, 0, 0, 12, 28, 0, 64, 252, 511, 1023] [(2, []), (3, []), (4, []), (5, []), (6, []), (7, [39])] [] (8, []) [(9, []), (10, [])] xj ?_
    refine zza 34 (.v (.slice (some ⟨aa, 0, none⟩) n n)) (zza 35 (zI i) ?_)
    obtain ⟨b22, bz, b7⟩ := MatQ.cell (i := i) f0 xq
    refine zzz 36 (0 + i * 1) (n := n) (off := 0) (sz := 1) (i := (i : Int)) xq bz xq xq sl71 (zyk 37 (.slice (R2.getD i sl0).a (R2.getD i sl0).n (R2.getD i sl0).c) b7 ty54 (zzg 38 30 _ fun _ _ bs dt => Post.mono (k_rqOf dt (z := 1) xq xq) ?_))
    rintro _ u26 br ⟨am, rfl, c3⟩
    refine sy_dataN 39 ⟨26, am.cs⟩ 1 (fun df u29 bc cX f29 g29 => ?_)
    refine zzw ?_
    refine exitsK_last ?_
    have hA30 := (f0.ext (bs.trans (br.ext.trans bc)))
    have hB30 := MatQ.row hA30 i xq
    refine sy_appQ 40 (T := 54) (E := 26) (z := .agg #[.bool false, .slice none 0 0, .slice none 0 0]) (size := 3) (bytes := 56) (b2 := df) (off := 0) (m := 1) (R2.getD i sl0) (rcs (L2.getD i [])) am.cs hB30 xj xj xj xw rfl (lit_news ((Ext.refl _).cells cX)) (rl_one am) xw yv xq (nu_rl am) nu_zrat (fun aN cV bV dw ah bT => ?_)
    have bX : MutQ (1 * 3) 26 u.heap.size cV aN (rcs (L2.getD i [] ++ [am])) := by rw [rcs_app, show rcs [am] = am.cs from by simp [rcs]]; exact bV
    have eR31 := ExtX.root ah (MutQ.mutL hB30) (cq.trans (bs.trans (br.ext.trans bc)))
    have hO31 := (MatQ.rest xw hA30 (i := i) xq ah).1
    have hP31 := MatP.keep (f1.ext (bs.trans (br.ext.trans bc))) hB30 ah
    have ce : ((1 : Int) : Rat) = (Nt.idRow n i).getD j 0 := by rw [Nt.idRow_at xq]; rw [if_pos (show i = j by have h9 := aD; simp at h9; omega)]; rfl
    have hR31 := app_next (MutQ.keeps hB30 ah (f2.ext (bs.trans (br.ext.trans bc)))) (MutQ.keep hB30 ah (RatN.more (K := 2) (c3.ext bc) xq)) (by rw [Nt.idRow_len]; omega) ce
    obtain ⟨b32, a1, _⟩ := MatQ.cell (i := i) hA30 xq
    refine zzz 41 (0 + i * 1) (n := n) (off := 0) (sz := 1) (i := (i : Int)) xq a1 xq xq sl71 (sy_storeQ (v := aN.v) (off := 0 + i * 1) (n := 1) (⟨some ⟨aa, 0, none⟩, n, n⟩ : Sl) hO31 (fun a ha => by injection ha with ha; subst ha; exact .inl aQ) a1 ty54 (by rw [List.length_map, MatQ.len hA30]; omega) (nu_sls [aN]) (fun ci bl ap => ?_))
    have cb : MutQ 1 54 u.heap.size ci (⟨some ⟨aa, 0, none⟩, n, n⟩ : Sl) ((R2.set i aN).map Sl.v) := by rw [← setL_map (y := aN) (i := i) (by rw [MatQ.len hA30]; omega)]; exact bl
    have hG31 := MatQ.grown xw xw hA30 (i := i) xq ah bX bT cb ap
    have eS31 := ExtX.root ap (MutQ.mutL hO31) eR31
    have hP231 := MatP.set (L := (L2.getD i [] ++ [am])) (MatP.keep hP31 hO31 ap) (Nat.le_refl i)
    have hR231 := MutQ.keeps hO31 ap hR31
    refine zzw ?_
    refine zzo (zzf (zza 27 (zI j) (zyp 28 (x := zI (IntKind.i64.wrap ((j : Int) + 1))) (zI (j + 1 : Nat)) (eqI xk) (zza 8 (zI (j + 1 : Nat)) (zzw ?_)))))
    have be : (L2.set i (L2.getD i [] ++ [am])).getD i [] = (L2.getD i [] ++ [am]) := getD_set_same xq
    refine ⟨_, ?_, _, by exact zzu _ _ _, j + 1, (R2.set i aN), (L2.set i (L2.getD i [] ++ [am])), rfl, by omega, (by rw [List.length_set]; exact ca), (fun k hk => by rw [getD_set_other xq]; exact aE k hk), rfl, eS31, (MatQ.ext hG31 (Ext.refl _)), (MatP.ext hP231 (Ext.refl _)), (by rw [be]; exact RatsN.ext hR231 (Ext.refl _))⟩
    omega
   refine sw_anyX xj 11 rfl ?_
   refine takeX 0 42 10 (.v (.slice (some ⟨aa, 0, none⟩) n n)) #[true, false, false, false, false, false, false, false, false, false, false] ?_
   refine takeX 1 43 9 (.v (.int .i64 (i : Int))) #[true, true, false, false, false, false, false, false, false, false, false] ?_
   refine restX [0, 0, 0, 0, 12, 28, 0, 64, 252, 511, 1023] [(2, []), (3, []), (4, []), (5, []), (6, []), (7, [49])] [] (8, []) [(9, []), (10, [])] xj ?_
   refine zza 44 (.v (.slice (some ⟨aa, 0, none⟩) n n)) (zza 45 (zI i) ?_)
   obtain ⟨b33, bS, cm⟩ := MatQ.cell (i := i) f0 xq
   refine zzz 46 (0 + i * 1) (n := n) (off := 0) (sz := 1) (i := (i : Int)) xq bS xq xq sl71 (zyk 47 (.slice (R2.getD i sl0).a (R2.getD i sl0).n (R2.getD i sl0).c) cm ty54 (zzg 48 30 _ fun _ _ bt dr => Post.mono (k_rqOf dr (z := 0) xq xq) ?_))
   rintro _ u37 bq ⟨an, rfl, cT⟩
   refine sy_dataN 49 ⟨26, an.cs⟩ 1 (fun da u40 a9 cW f40 g40 => ?_)
   refine zzw ?_
   refine exitsK_last ?_
   have hA41 := (f0.ext (bt.trans (bq.ext.trans a9)))
   have hB41 := MatQ.row hA41 i xq
   refine sy_appQ 50 (T := 54) (E := 26) (z := .agg #[.bool false, .slice none 0 0, .slice none 0 0]) (size := 3) (bytes := 56) (b2 := da) (off := 0) (m := 1) (R2.getD i sl0) (rcs (L2.getD i [])) an.cs hB41 xj xj xj xw rfl (lit_news ((Ext.refl _).cells cW)) (rl_one an) xw yv xq (nu_rl an) nu_zrat (fun aM ds b3 cS ai cn => ?_)
   have bL : MutQ (1 * 3) 26 u.heap.size ds aM (rcs (L2.getD i [] ++ [an])) := by rw [rcs_app, show rcs [an] = an.cs from by simp [rcs]]; exact b3
   have eR42 := ExtX.root ai (MutQ.mutL hB41) (cq.trans (bt.trans (bq.ext.trans a9)))
   have hO42 := (MatQ.rest xw hA41 (i := i) xq ai).1
   have hP42 := MatP.keep (f1.ext (bt.trans (bq.ext.trans a9))) hB41 ai
   have bW : ((0 : Int) : Rat) = (Nt.idRow n i).getD j 0 := by rw [Nt.idRow_at xq]; rw [if_neg (show ¬ i = j by have h9 := aD; simp at h9; omega)]; rfl
   have hR42 := app_next (MutQ.keeps hB41 ai (f2.ext (bt.trans (bq.ext.trans a9)))) (MutQ.keep hB41 ai (RatN.more (K := 2) (cT.ext a9) xq)) (by rw [Nt.idRow_len]; omega) bW
   obtain ⟨b43, a5, _⟩ := MatQ.cell (i := i) hA41 xq
   refine zzz 51 (0 + i * 1) (n := n) (off := 0) (sz := 1) (i := (i : Int)) xq a5 xq xq sl71 (sy_storeQ (v := aM.v) (off := 0 + i * 1) (n := 1) (⟨some ⟨aa, 0, none⟩, n, n⟩ : Sl) hO42 (fun a ha => by injection ha with ha; subst ha; exact .inl aQ) a5 ty54 (by rw [List.length_map, MatQ.len hA41]; omega) (nu_sls [aM]) (fun cj a0 ao => ?_))
   have cf : MutQ 1 54 u.heap.size cj (⟨some ⟨aa, 0, none⟩, n, n⟩ : Sl) ((R2.set i aM).map Sl.v) := by rw [← setL_map (y := aM) (i := i) (by rw [MatQ.len hA41]; omega)]; exact a0
   have hG42 := MatQ.grown xw xw hA41 (i := i) xq ai bL cn cf ao
   have eS42 := ExtX.root ao (MutQ.mutL hO42) eR42
   have hP242 := MatP.set (L := (L2.getD i [] ++ [an])) (MatP.keep hP42 hO42 ao) (Nat.le_refl i)
   have hR242 := MutQ.keeps hO42 ao hR42
   refine zzw ?_
   refine zzo (zzf (zza 27 (zI j) (zyp 28 (x := zI (IntKind.i64.wrap ((j : Int) + 1))) (zI (j + 1 : Nat)) (eqI xk) (zza 8 (zI (j + 1 : Nat)) (zzw ?_)))))
   have ba : (L2.set i (L2.getD i [] ++ [an])).getD i [] = (L2.getD i [] ++ [an]) := getD_set_same xq
   refine ⟨_, ?_, _, by exact zzu _ _ _, j + 1, (R2.set i aM), (L2.set i (L2.getD i [] ++ [an])), rfl, by omega, (by rw [List.length_set]; exact ca), (fun k hk => by rw [getD_set_other xq]; exact aE k hk), rfl, eS42, (MatQ.ext hG42 (Ext.refl _)), (MatP.ext hP242 (Ext.refl _)), (by rw [ba]; exact RatsN.ext hR242 (Ext.refl _))⟩
   omega
  have qhb20 := of_decide_eq_false aC
  refine zyb (zzo (zzf (zza 22 (zI i) (zyp 23 (x := zI (IntKind.i64.wrap ((i : Int) + 1))) (zI (i + 1 : Nat)) (eqI xk) (zza 7 (zI (i + 1 : Nat)) (zzw ?_))))))
  have hfull : RatsN c6 (L2.getD i []) (Nt.idRow n i) 100 := by have h9 := f2; rw [List.take_of_length_le (by rw [Nt.idRow_len]; omega)] at h9; exact h9
  rw [← Nt.idR_at (n := n) (i := i) xq] at hfull
  refine ⟨_, ?_, _, by exact zzu _ _ _, i + 1, R2, L2, rfl, by omega, ca, (fun k hk => aE k xq), rfl, cq, f0, (MatP.next f1 hfull)⟩
  omega
 have qhb18 := of_decide_eq_false aL
 refine zyb (zzo (zzd (sq9 (zza 9 (zI 0) (zzb (zzs (zym (I := fun cH S' u' => ∃ (k : Nat) (Rz : List Sl) (Lz : List (List RL)), (cH = S.length - k) ∧ (k ≤ S.length) ∧ (S' = St.of 147 [(0, .v (x.v)), (1, zI n), (6, .v (.slice (some ⟨aa, 0, none⟩) n n)), (9, zI k)] []) ∧ (Ext u u') ∧ (MatQ 1 54 26 u.heap.size u' (⟨some ⟨aa, 0, none⟩, n, n⟩ : Sl) Rz Lz) ∧ (MatN u' Lz (Nt.linM n (S.take k)) 100)) (fun m S u1 u2 e h => by obtain ⟨k, Rz, Lz, hm, p0, hS, hE, f0, f1⟩ := h; exact ⟨k, Rz, Lz, hm, p0, hS, hE.trans e, f0.ext e, f1.ext e⟩) _ yz ⟨0, R1, L1, rfl, by omega, rfl, cu, z0, (by rw [List.take_zero, Nt.linM_nil]; exact MatP.full (m := n) (by have h9 := z1; rw [show i = n by omega] at h9; exact h9) cE Nt.idR_len)⟩ ?_)))))))
 rintro cH _ u44 ⟨k, Rz, Lz, dm, hk, rfl, aP, l0, l1⟩
 obtain ⟨M, hMM⟩ : ∃ M, Nt.linM n (S.take k) = M := ⟨_, rfl⟩
 have hsq := (Nt.linM_ok hV.2.2.2 hx.rows k hk).1
 rw [hMM] at hsq l1
 have hLz : Lz.length = n := l1.1.trans hsq.1
 have hRzz := l0.len
 have hm9 := l0
 have hMl := hsq.1
 refine zzd (sq9 (zza 52 (zI k) (zza 53 (.v (x.v)) (zza 54 (zI x.n) (zza 55 (zB (decide ((k : Int) < (x.n : Int)))) (zzb (zzt (b := decide ((k : Int) < (x.n : Int))) xj (fun az => ?_) (fun az => ?_))))))))
 ·have qhb45 := of_decide_eq_true az
  refine zzr (zzo ?_)
  refine zzd (zzs (sq9 (zza 58 (.v (x.v)) (zza 59 (zI k) ?_))))
  have hl46 := ((hx.ext aP)).len
  obtain ⟨b46, cL, bA, bE⟩ := ir_at4 (hx.ext aP) (i := k) xq
  refine zzz 60 (cL + k * 4) (n := x.n) (off := cL) (sz := 4) (i := (k : Int)) xq bA xq xq sl64 (zyl 61 [.int .i64 (gi S k 0), .int .i64 (gi S k 1), .int .i64 (gi S k 2), .int .i64 (gi S k 3)] bE ty90 (zzj 10 ⟨90, [.int .i64 0, .int .i64 0, .int .i64 0, .int .i64 0]⟩ (zzi ⟨90, [.int .i64 (gi S k 0), .int .i64 (gi S k 1), .int .i64 (gi S k 2), .int .i64 (gi S k 3)]⟩ ty90 ?_)))
  refine zzb (zzs (zzd ?_))
  have hsO := hV.2.2.2 k xq
  rw [row4 hx.rows xq] at hsO
  obtain ⟨tz, htz⟩ : ∃ t : Nat, gi S k 0 = (t : Int) := ⟨(gi S k 0).toNat, by have h9 : 0 ≤ gi S k 0 := hsO.1; omega⟩
  obtain ⟨fz, hfz⟩ : ∃ t : Nat, gi S k 1 = (t : Int) := ⟨(gi S k 1).toNat, by have h9 : 0 ≤ gi S k 1 := hsO.2.2.1; omega⟩
  rw [htz, hfz]
  rw [htz, hfz] at hsO
  obtain ⟨hs1, hs2, hs3, hs4, hs5, hs6, dc, hs8⟩ := Nt.shOK_mk hsO
  have hp1 := Nt.zxo (gi S k 3)
  have hp2 := Nt.p2i_24 (n := gi S k 3) xq
  refine zzf (zza 100 (.adr 10 3) (zzh 101 (zI (gi S k 3)) ty3 zzk (zza 102 (zB ((gi S k 3) == (-1))) (zza 99 (zB ((gi S k 3) == (-1))) (zzb (zzt (b := (gi S k 3) == (-1)) xj (fun aJ => ?_) (fun aJ => ?_)))))))
  ·have af : (gi S k 3) = (-1) := by simpa using aJ
   refine sw_anyX xj 20 rfl ?_
   refine takeX 3 106 19 (.v (.slice (some ⟨aa, 0, none⟩) n n)) #[false, false, false, true, false, false, false, false, false, false, false, false, false, false, false, false, false, false, false, false] ?_
   refine takeXa 4 107 18 10 0 1 #[false, false, false, true, true, false, false, false, false, false, false, false, false, false, false, false, false, false, false, false] ?_
   refine restX [0, 0, 2, 0, 0, 16, 0, 0, 128, 448, 960, 0, 0, 4096, 14336, 30720, 65479, 131015, 262143, 524287] [(0, []), (1, []), (2, []), (6, []), (7, []), (8, []), (9, []), (10, []), (11, []), (12, []), (13, []), (14, []), (15, []), (16, [])] [(5, [])] (17, []) [(18, []), (19, [])] xj ?_
   refine zza 103 (.v (.slice (some ⟨aa, 0, none⟩) n n)) (zza 104 (.adr 10 0) (zzh 105 (zI tz) ty3 zzk (zza 109 (.v (.slice (some ⟨aa, 0, none⟩) n n)) (zza 110 (.adr 10 1) (zzh 111 (zI fz) ty3 zzk ?_)))))
   obtain ⟨b48, cp, bO⟩ := MatQ.cell (i := fz) l0 xq
   refine zzz 112 (0 + fz * 1) (n := n) (off := 0) (sz := 1) (i := (fz : Int)) xq cp xq xq sl71 ?_
   have hrw49 := MatQ.row l0 fz xq
   have aW : (Lz.getD fz []).length = n := (MatN.rowlen l1 (by rw [hsq.1]; omega)).trans (hsq.2 fz xq)
   have cM : (Rz.getD fz sl0).n = n := (MutQ.rown hrw49).trans aW
   refine zyk 113 (.slice (Rz.getD fz sl0).a (Rz.getD fz sl0).n (Rz.getD fz sl0).c) bO ty54 (zza 114 (.v (.slice (some ⟨aa, 0, none⟩) n n)) (zza 115 (.adr 10 0) (zzh 116 (zI tz) ty3 zzk ?_)))
   obtain ⟨b50, cd, bu⟩ := MatQ.cell (i := tz) l0 xq
   refine zzz 117 (0 + tz * 1) (n := n) (off := 0) (sz := 1) (i := (tz : Int)) xq cd xq xq sl71 ?_
   have hrw51 := MatQ.row l0 tz xq
   have aY : (Lz.getD tz []).length = n := (MatN.rowlen l1 (by rw [hsq.1]; omega)).trans (hsq.2 tz xq)
   have cF : (Rz.getD tz sl0).n = n := (MutQ.rown hrw51).trans aY
   refine zyk 118 (.slice (Rz.getD tz sl0).a (Rz.getD tz sl0).n (Rz.getD tz sl0).c) bu ty54 ?_
   obtain ⟨b52, aH, c2⟩ := MatQ.cell (i := tz) l0 xq
   refine zzz 119 (0 + tz * 1) (n := n) (off := 0) (sz := 1) (i := (tz : Int)) xq aH xq xq sl71 (zzw ?_)
   refine exitsK_both ?_ ?_
   ·skip
    have hq53 := l0
    refine sy_storeQ (v := .slice (Rz.getD fz sl0).a (Rz.getD fz sl0).n (Rz.getD fz sl0).c) (off := 0 + tz * 1) (n := 1) (⟨some ⟨aa, 0, none⟩, n, n⟩ : Sl) (MatQ.out hq53) (fun a ha => by injection ha with ha; subst ha; exact .inl aQ) aH ty54 (by rw [List.length_map, MatQ.len hq53]; omega) (nu_sls [(Rz.getD fz sl0)]) (fun c9 b9 aG => ?_)
    have aZ : MutQ 1 54 u.heap.size c9 (⟨some ⟨aa, 0, none⟩, n, n⟩ : Sl) ((Rz.set tz (Rz.getD fz sl0)).map Sl.v) := by rw [← setL_map (y := (Rz.getD fz sl0)) (i := tz) (by rw [MatQ.len hq53]; omega)]; exact b9
    have eX53r := ExtX.root aG (MutQ.mutL (MatQ.out hq53)) aP
    refine zzh 108 (zI fz) ty3 zzk ?_
    obtain ⟨b54, aR, _⟩ := MatQ.cell (i := fz) hq53 xq
    refine zzz 120 (0 + fz * 1) (n := n) (off := 0) (sz := 1) (i := (fz : Int)) xq aR xq xq sl71 (sy_storeQ (v := .slice (Rz.getD tz sl0).a (Rz.getD tz sl0).n (Rz.getD tz sl0).c) (off := 0 + fz * 1) (n := 1) (⟨some ⟨aa, 0, none⟩, n, n⟩ : Sl) aZ (fun a ha => by injection ha with ha; subst ha; exact .inl aQ) aR ty54 (by rw [List.length_map, List.length_set, MatQ.len hq53]; omega) (nu_sls [(Rz.getD tz sl0)]) (fun dv bM aI => ?_))
    have b5 : MutQ 1 54 u.heap.size dv (⟨some ⟨aa, 0, none⟩, n, n⟩ : Sl) (((Rz.set tz (Rz.getD fz sl0)).set fz (Rz.getD tz sl0)).map Sl.v) := by rw [← setL_map (y := (Rz.getD tz sl0)) (i := fz) (by rw [List.length_set, MatQ.len hq53]; omega)]; exact bM
    have eX55r := ExtX.root aI (MutQ.mutL aZ) eX53r
    have hW55 := MatQ.swap (p := tz) (t := fz) xw hq53 xq xq b5 (ExtX.trans aG aI)
    have hV55 := MatN.keep (MatN.swap (t := tz) (f := fz) l1 (by rw [hsq.1]; omega) (by rw [hsq.1]; omega)) (MatQ.out hq53) (ExtX.trans aG aI)
    refine zzw ?_
    refine zzo (zzf (zza 56 (zI k) (zyp 57 (x := zI (IntKind.i64.wrap ((k : Int) + 1))) (zI (k + 1 : Nat)) (eqI xk) (zza 9 (zI (k + 1 : Nat)) (zzw ?_)))))
    have hst : Nt.linM n (S.take (k + 1)) = Nt.cmb [(tz : Int), (fz : Int), gi S k 2, gi S k 3] M := by rw [Nt.linM_snoc k xq, row4 hx.rows xq, htz, hfz, hMM]
    rw [Nt.cmb_x af] at hst
    refine ⟨_, ?_, _, by exact zzu _ _ _, k + 1, ((Rz.set tz (Rz.getD fz sl0)).set fz (Rz.getD tz sl0)), ((Lz.set tz (Lz.getD fz [])).set fz (Lz.getD tz [])), rfl, by omega, rfl, eX55r, hW55, (by rw [hst]; exact hV55)⟩
    omega
   refine zzh 108 (zI fz) ty3 zzk (zzw ?_)
   refine exitsK_last ?_
   have hq56 := l0
   refine sy_storeQ (v := .slice (Rz.getD fz sl0).a (Rz.getD fz sl0).n (Rz.getD fz sl0).c) (off := 0 + tz * 1) (n := 1) (⟨some ⟨aa, 0, none⟩, n, n⟩ : Sl) (MatQ.out hq56) (fun a ha => by injection ha with ha; subst ha; exact .inl aQ) aH ty54 (by rw [List.length_map, MatQ.len hq56]; omega) (nu_sls [(Rz.getD fz sl0)]) (fun cN bK aF => ?_)
   have bo : MutQ 1 54 u.heap.size cN (⟨some ⟨aa, 0, none⟩, n, n⟩ : Sl) ((Rz.set tz (Rz.getD fz sl0)).map Sl.v) := by rw [← setL_map (y := (Rz.getD fz sl0)) (i := tz) (by rw [MatQ.len hq56]; omega)]; exact bK
   have eX56r := ExtX.root aF (MutQ.mutL (MatQ.out hq56)) aP
   obtain ⟨b57, aX, _⟩ := MatQ.cell (i := fz) hq56 xq
   refine zzz 120 (0 + fz * 1) (n := n) (off := 0) (sz := 1) (i := (fz : Int)) xq aX xq xq sl71 (sy_storeQ (v := .slice (Rz.getD tz sl0).a (Rz.getD tz sl0).n (Rz.getD tz sl0).c) (off := 0 + fz * 1) (n := 1) (⟨some ⟨aa, 0, none⟩, n, n⟩ : Sl) bo (fun a ha => by injection ha with ha; subst ha; exact .inl aQ) aX ty54 (by rw [List.length_map, List.length_set, MatQ.len hq56]; omega) (nu_sls [(Rz.getD tz sl0)]) (fun dp b6 ay => ?_))
   have bF : MutQ 1 54 u.heap.size dp (⟨some ⟨aa, 0, none⟩, n, n⟩ : Sl) (((Rz.set tz (Rz.getD fz sl0)).set fz (Rz.getD tz sl0)).map Sl.v) := by rw [← setL_map (y := (Rz.getD tz sl0)) (i := fz) (by rw [List.length_set, MatQ.len hq56]; omega)]; exact b6
   have eX58r := ExtX.root ay (MutQ.mutL bo) eX56r
   have hW58 := MatQ.swap (p := tz) (t := fz) xw hq56 xq xq bF (ExtX.trans aF ay)
   have hV58 := MatN.keep (MatN.swap (t := tz) (f := fz) l1 (by rw [hsq.1]; omega) (by rw [hsq.1]; omega)) (MatQ.out hq56) (ExtX.trans aF ay)
   refine zzw ?_
   refine zzo (zzf (zza 56 (zI k) (zyp 57 (x := zI (IntKind.i64.wrap ((k : Int) + 1))) (zI (k + 1 : Nat)) (eqI xk) (zza 9 (zI (k + 1 : Nat)) (zzw ?_)))))
   have hst : Nt.linM n (S.take (k + 1)) = Nt.cmb [(tz : Int), (fz : Int), gi S k 2, gi S k 3] M := by rw [Nt.linM_snoc k xq, row4 hx.rows xq, htz, hfz, hMM]
   rw [Nt.cmb_x af] at hst
   refine ⟨_, ?_, _, by exact zzu _ _ _, k + 1, ((Rz.set tz (Rz.getD fz sl0)).set fz (Rz.getD tz sl0)), ((Lz.set tz (Lz.getD fz [])).set fz (Lz.getD tz [])), rfl, by omega, rfl, eX58r, hW58, (by rw [hst]; exact hV58)⟩
   omega
  have af : ¬ (gi S k 3) = (-1) := by simpa using aJ
  refine sq9 (zza 122 (.adr 10 3) (zzh 123 (zI (gi S k 3)) ty3 zzk (zza 124 (zB ((gi S k 3) == (-2))) (zza 121 (zB ((gi S k 3) == (-2))) (zzc 147 [(0, .v (x.v)), (1, zI n), (6, .v (.slice (some ⟨aa, 0, none⟩) n n)), (9, zI k), (10, .adr 10 0), (121, zB ((gi S k 3) == (-2)))] [(10, ⟨90, [.int .i64 tz, .int .i64 fz, .int .i64 (gi S k 2), .int .i64 (gi S k 3)]⟩)] (zzt (b := (gi S k 3) == (-2)) xj (fun ax => ?_) (fun ax => ?_)))))))
  ·have ae : (gi S k 3) = (-2) := by simpa using ax
   obtain ⟨R, aB⟩ : ∃ R, Nt.negR (M.getD tz []) = R := ⟨_, rfl⟩
   have hMt : tz < M.length := by omega
   have hrow := hsq.2 tz xq
   have hRl : R.length = n := by rw [← aB, Nt.negR_len]; exact hrow
   have ab : R.length = (M.getD tz []).length := by omega
   have hcm : Nt.cmb [(tz : Int), (fz : Int), gi S k 2, gi S k 3] M = M.set tz R := by rw [Nt.cmb_n ae, aB]
   have hRa : ∀ j, j < n → -((M.getD tz []).getD j 0) = R.getD j 0 := fun j hj => by rw [← aB, Nt.negR_at xq]
   have hRs : ∀ j, Nt.rs (R.getD j 0) ≤ 100 := fun j => by have h9 := Nt.linM_rs hV.2.2.2 hx.rows xq (k + 1) xq tz j; rw [Nt.linM_snoc k xq, row4 hx.rows xq, htz, hfz, hMM, hcm, Nt.ent_set, if_pos ⟨rfl, hMt⟩] at h9; exact h9
   refine sq9 (zza 11 (zI 0) (zzb (zzs (zym (I := fun cB S' u' => ∃ (j : Nat) (Q : List (List RL)), (cB = n - j) ∧ (j ≤ n) ∧ (S' = St.of 147 [(0, .v (x.v)), (1, zI n), (6, .v (.slice (some ⟨aa, 0, none⟩) n n)), (9, zI k), (10, .adr 10 0), (11, zI j)] [(10, ⟨90, [.int .i64 tz, .int .i64 fz, .int .i64 (gi S k 2), .int .i64 (gi S k 3)]⟩)]) ∧ (Ext u u') ∧ (MatQ 1 54 26 u.heap.size u' (⟨some ⟨aa, 0, none⟩, n, n⟩ : Sl) Rz Q) ∧ (MatN u' Q (Nt.mixR M tz R j) 100)) (fun m S u1 u2 e h => by obtain ⟨j, Q, hm, p0, hS, hE, f0, f1⟩ := h; exact ⟨j, Q, hm, p0, hS, hE.trans e, f0.ext e, f1.ext e⟩) _ yz ⟨0, Lz, rfl, by omega, rfl, aP, l0, (by rw [Nt.mixR_0]; exact l1)⟩ ?_))))
   rintro cB _ u60 ⟨j, Q, cR, hj, rfl, cz, f0, f1⟩
   have hm9 := f0
   have hQn : Q.length = n := f1.1.trans (Nt.mixR_len.trans hMl)
   refine zzd (sq9 (zza 125 (zI j) (zza 126 (zI n) (zza 127 (zB (decide ((j : Int) < (n : Int)))) (zzb (zzt (b := decide ((j : Int) < (n : Int))) xj (fun aA => ?_) (fun aA => ?_)))))))
   ·have qhb61 := of_decide_eq_true aA
    refine zzr (zzo ?_)
    refine zzd (zzs (sw_anyC [0, 0, 2, 7, 15, 0, 0, 0, 128, 448, 960, 0, 4032, 8128, 16320, 32767, 65535] [(0, []), (1, []), (2, []), (3, []), (4, []), (5, []), (6, []), (7, []), (8, []), (9, []), (10, []), (11, []), (12, []), (13, []), (14, [])] [(15, []), (16, [])] xj xj xj ?_))
    refine zza 130 (.v (.slice (some ⟨aa, 0, none⟩) n n)) (zza 131 (.adr 10 0) (zzh 132 (zI tz) ty3 zzk ?_))
    obtain ⟨b62, bH, ck⟩ := MatQ.cell (i := tz) f0 xq
    refine zzz 133 (0 + tz * 1) (n := n) (off := 0) (sz := 1) (i := (tz : Int)) xq bH xq xq sl71 ?_
    have hrw63 := MatQ.row f0 tz xq
    have bp : (Q.getD tz []).length = n := (MatN.rowlen f1 (by rw [(Nt.mixR_len.trans hMl)]; omega)).trans ((Nt.mixR_row hMt ab xq).trans hRl)
    have ct : (Rz.getD tz sl0).n = n := (MutQ.rown hrw63).trans bp
    refine zyk 134 (.slice (Rz.getD tz sl0).a (Rz.getD tz sl0).n (Rz.getD tz sl0).c) ck ty54 (zza 135 (zI j) (zza 136 (.v (.slice (some ⟨aa, 0, none⟩) n n)) (zza 137 (.adr 10 0) (zzh 138 (zI tz) ty3 zzk ?_))))
    obtain ⟨b64, b4, bD⟩ := MatQ.cell (i := tz) f0 xq
    refine zzz 139 (0 + tz * 1) (n := n) (off := 0) (sz := 1) (i := (tz : Int)) xq b4 xq xq sl71 ?_
    have hrw65 := MatQ.row f0 tz xq
    have bk : (Q.getD tz []).length = n := (MatN.rowlen f1 (by rw [(Nt.mixR_len.trans hMl)]; omega)).trans ((Nt.mixR_row hMt ab xq).trans hRl)
    have cw : (Rz.getD tz sl0).n = n := (MutQ.rown hrw65).trans bk
    refine zyk 140 (.slice (Rz.getD tz sl0).a (Rz.getD tz sl0).n (Rz.getD tz sl0).c) bD ty54 (zza 141 (zI j) ?_)
    obtain ⟨b66, bZ, aU⟩ := MutQ.el1 (j := j) hrw65 xq
    refine zzz 142 (0 + j * 3) (n := (Rz.getD tz sl0).n) (off := 0) (sz := 3) (i := (j : Int)) xq bZ xq xq sl54 ?_
    obtain ⟨dh, a6⟩ : ∃ r : RL, (Q.getD tz []).getD j rl0 = r := ⟨_, rfl⟩
    rw [a6] at aU
    have hv69 := (by have h9 := (MatN.at (i := tz) (j := j) f1 (by rw [(Nt.mixR_len.trans hMl)]; omega) (by rw [((Nt.mixR_row hMt ab xq).trans hRl)]; omega)); rewrite [Nt.mixR_old hMt ab xq] at h9; exact h9)
    rw [a6] at hv69
    refine zyl 143 (dh.cs) aU ty26 (zzg 144 39 _ fun _ _ aO di => Post.mono (k_rqNeg di (hv69.ext aO).raw xq) ?_)
    rintro _ u73 a2 ⟨bb, rfl, du⟩
    refine zzw ?_
    obtain ⟨b76, a7, cP⟩ := MutQ.el1 (j := j) (hrw65.ext (aO.trans a2.ext)) xq
    refine zzz 145 (0 + j * 3) (n := (Rz.getD tz sl0).n) (off := 0) (sz := 3) (i := (j : Int)) xq a7 xq xq sl54 ?_
    have hq77 := (hrw65.ext (aO.trans a2.ext))
    refine sy_storeQ (v := bb.v) (off := 0 + j * 3) (n := 3) (Rz.getD tz sl0) hq77 (fun a ha => .inl (MutQ.blk (MatQ.row hm9 tz xq) ha)) a7 ty26 (by rw [zyx]; have h9 : _ := xq; omega) (nu_rl bb) (fun c0 cg aq => ?_)
    have bN : MutQ (1 * 3) 26 u.heap.size c0 (Rz.getD tz sl0) (rcs ((Q.getD tz []).set j bb)) := by rw [← zyw (off := 0 + j * 3) xq xq]; exact cg
    have eX77r := ExtX.root aq (MutQ.mutL hq77) (cz.trans (aO.trans a2.ext))
    have hM78 := MatQ.storeRow xw (f0.ext (aO.trans a2.ext)) (i := tz) xq (L := ((Q.getD tz []).set j bb)) bN aq
    have bQ : (-((M.getD tz []).getD j 0)) = R.getD j 0 := (hRa j xq)
    have hN78 := MatN.el (i := tz) (j := j) (MatN.keep (f1.ext (aO.trans a2.ext)) hq77 aq) (by rw [(Nt.mixR_len.trans hMl)]; omega) (by rw [((Nt.mixR_row hMt ab xq).trans hRl)]; omega) (RatN.fit (L := 100) (by rw [← bQ]; exact MutQ.keep hq77 aq du) (hRs j))
    rewrite [Nt.mixR_s hMt ab xq] at hN78
    obtain ⟨cI, aT⟩ : ∃ Q9, Q.set tz ((Q.getD tz []).set j bb) = Q9 := ⟨_, rfl⟩
    rewrite [aT] at hM78 hN78
    have cC : cI.length = Q.length := by rw [← aT, List.length_set]
    refine zzw ?_
    refine zzo (zzf (zza 128 (zI j) (zyp 129 (x := zI (IntKind.i64.wrap ((j : Int) + 1))) (zI (j + 1 : Nat)) (eqI xk) (zza 11 (zI (j + 1 : Nat)) (zzw ?_)))))
    refine ⟨_, ?_, _, by exact zzu _ _ _, j + 1, cI, rfl, by omega, rfl, eX77r, hM78, hN78⟩
    omega
   have qhb61 := of_decide_eq_false aA
   refine zyb (zzo (zzf (zza 56 (zI k) (zyp 57 (x := zI (IntKind.i64.wrap ((k : Int) + 1))) (zI (k + 1 : Nat)) (eqI xk) (zza 9 (zI (k + 1 : Nat)) (zzw ?_))))))
   have hst : Nt.linM n (S.take (k + 1)) = Nt.cmb [(tz : Int), (fz : Int), gi S k 2, gi S k 3] M := by rw [Nt.linM_snoc k xq, row4 hx.rows xq, htz, hfz, hMM]
   rw [hcm, ← Nt.mixR_n ab (show j = R.length by omega)] at hst
   refine ⟨_, ?_, _, by exact zzu _ _ _, k + 1, Rz, Q, rfl, by omega, rfl, cz, f0, (by rw [hst]; exact f1)⟩
   omega
  have ae : ¬ (gi S k 3) = (-2) := by simpa using ax
  obtain ⟨R, aB⟩ : ∃ R, Nt.rowA (M.getD tz []) (M.getD fz []) (Nt.wq (gi S k 2) (gi S k 3)) = R := ⟨_, rfl⟩
  have hMt : tz < M.length := by omega
  have hrow := hsq.2 tz xq
  have hRl : R.length = n := by rw [← aB, Nt.rowA_len]; exact hrow
  have ab : R.length = (M.getD tz []).length := by omega
  have hcm : Nt.cmb [(tz : Int), (fz : Int), gi S k 2, gi S k 3] M = M.set tz R := by rw [Nt.cmb_s af ae, aB]
  have hRa : ∀ j, j < n → (M.getD tz []).getD j 0 + Nt.wq (gi S k 2) (gi S k 3) * (M.getD fz []).getD j 0 = R.getD j 0 := fun j hj => by rw [← aB, Nt.rowA_at xq]
  have hne : tz ≠ fz := fun e => ae (dc.1 (by rw [e]))
  have hRs : ∀ j, Nt.rs (R.getD j 0) ≤ 100 := fun j => by have h9 := Nt.linM_rs hV.2.2.2 hx.rows xq (k + 1) xq tz j; rw [Nt.linM_snoc k xq, row4 hx.rows xq, htz, hfz, hMM, hcm, Nt.ent_set, if_pos ⟨rfl, hMt⟩] at h9; exact h9
  refine sq9 (zza 12 (zI 0) (zzb (zzs (zym (I := fun cD S' u' => ∃ (j : Nat) (Q : List (List RL)), (cD = n - j) ∧ (j ≤ n) ∧ (S' = St.of 147 [(0, .v (x.v)), (1, zI n), (6, .v (.slice (some ⟨aa, 0, none⟩) n n)), (9, zI k), (10, .adr 10 0), (12, zI j)] [(10, ⟨90, [.int .i64 tz, .int .i64 fz, .int .i64 (gi S k 2), .int .i64 (gi S k 3)]⟩)]) ∧ (Ext u u') ∧ (MatQ 1 54 26 u.heap.size u' (⟨some ⟨aa, 0, none⟩, n, n⟩ : Sl) Rz Q) ∧ (MatN u' Q (Nt.mixR M tz R j) 100)) (fun m S u1 u2 e h => by obtain ⟨j, Q, hm, p0, hS, hE, f0, f1⟩ := h; exact ⟨j, Q, hm, p0, hS, hE.trans e, f0.ext e, f1.ext e⟩) _ yz ⟨0, Lz, rfl, by omega, rfl, aP, l0, (by rw [Nt.mixR_0]; exact l1)⟩ ?_))))
  rintro cD _ u79 ⟨j, Q, c5, hj, rfl, cr, f0, f1⟩
  have hm9 := f0
  have hQn : Q.length = n := f1.1.trans (Nt.mixR_len.trans hMl)
  refine zzd (sq9 (zza 62 (zI j) (zza 63 (zI n) (zza 64 (zB (decide ((j : Int) < (n : Int)))) (zzb (zzt (b := decide ((j : Int) < (n : Int))) xj (fun av => ?_) (fun av => ?_)))))))
  ·have qhb80 := of_decide_eq_true av
   refine zzr (zzo ?_)
   refine zzd (zzs (sw_anyC [0, 0, 2, 7, 15, 0, 0, 0, 128, 448, 960, 0, 4032, 8128, 0, 16384, 0, 65536, 196608, 458752, 1032192, 0, 0, 4194304, 14680064, 31457280, 0, 132120576, 266338304, 536854528, 1073741760, 2147483647, 4294967295] [(0, []), (1, []), (2, []), (3, []), (4, []), (5, []), (6, []), (7, []), (8, []), (9, []), (10, []), (11, []), (12, []), (13, []), (14, []), (15, []), (16, []), (17, []), (18, []), (19, []), (21, []), (22, []), (23, []), (24, []), (25, []), (26, []), (27, []), (28, []), (20, []), (29, []), (30, [])] [(31, []), (32, [])] xj xj xj ?_))
   refine zza 67 (.v (.slice (some ⟨aa, 0, none⟩) n n)) (zza 68 (.adr 10 0) (zzh 69 (zI tz) ty3 zzk ?_))
   obtain ⟨b81, bC, cc⟩ := MatQ.cell (i := tz) f0 xq
   refine zzz 70 (0 + tz * 1) (n := n) (off := 0) (sz := 1) (i := (tz : Int)) xq bC xq xq sl71 ?_
   have hrw82 := MatQ.row f0 tz xq
   have a8 : (Q.getD tz []).length = n := (MatN.rowlen f1 (by rw [(Nt.mixR_len.trans hMl)]; omega)).trans ((Nt.mixR_row hMt ab xq).trans hRl)
   have cv : (Rz.getD tz sl0).n = n := (MutQ.rown hrw82).trans a8
   refine zyk 71 (.slice (Rz.getD tz sl0).a (Rz.getD tz sl0).n (Rz.getD tz sl0).c) cc ty54 (zza 72 (zI j) (zza 73 (.v (.slice (some ⟨aa, 0, none⟩) n n)) (zza 74 (.adr 10 0) (zzh 75 (zI tz) ty3 zzk ?_))))
   obtain ⟨b83, bx, b8⟩ := MatQ.cell (i := tz) f0 xq
   refine zzz 76 (0 + tz * 1) (n := n) (off := 0) (sz := 1) (i := (tz : Int)) xq bx xq xq sl71 ?_
   have hrw84 := MatQ.row f0 tz xq
   have bi : (Q.getD tz []).length = n := (MatN.rowlen f1 (by rw [(Nt.mixR_len.trans hMl)]; omega)).trans ((Nt.mixR_row hMt ab xq).trans hRl)
   have cK : (Rz.getD tz sl0).n = n := (MutQ.rown hrw84).trans bi
   refine zyk 77 (.slice (Rz.getD tz sl0).a (Rz.getD tz sl0).n (Rz.getD tz sl0).c) b8 ty54 (zza 78 (zI j) ?_)
   obtain ⟨b85, bB, a4⟩ := MutQ.el1 (j := j) hrw84 xq
   refine zzz 79 (0 + j * 3) (n := (Rz.getD tz sl0).n) (off := 0) (sz := 3) (i := (j : Int)) xq bB xq xq sl54 ?_
   obtain ⟨db, aV⟩ : ∃ r : RL, (Q.getD tz []).getD j rl0 = r := ⟨_, rfl⟩
   rw [aV] at a4
   have hv88 := (by have h9 := (MatN.at (i := tz) (j := j) f1 (by rw [(Nt.mixR_len.trans hMl)]; omega) (by rw [((Nt.mixR_row hMt ab xq).trans hRl)]; omega)); rewrite [Nt.mixR_old hMt ab xq] at h9; exact h9)
   rw [aV] at hv88
   refine zyl 80 (db.cs) a4 ty26 (zza 81 (.adr 10 2) (zzh 82 (zI (gi S k 2)) ty3 zzk (zza 83 (.adr 10 3) (zzh 84 (zI (gi S k 3)) ty3 zzk (sy_conv 85 (gi S k 3) (fun w => by kernel_rfl) (IntWalk.u64_in _ xq) ?_)))))
   refine sy_shl 86 (k := .i64) (s := gi S k 3) (Nt.p2i (gi S k 3)) xq yw (shl_one xq xq) ?_
   refine zza 88 (.v (.slice (some ⟨aa, 0, none⟩) n n)) (zza 89 (.adr 10 1) (zzh 90 (zI fz) ty3 zzk ?_))
   obtain ⟨b89, bv, bJ⟩ := MatQ.cell (i := fz) f0 xq
   refine zzz 91 (0 + fz * 1) (n := n) (off := 0) (sz := 1) (i := (fz : Int)) xq bv xq xq sl71 ?_
   have hrw90 := MatQ.row f0 fz xq
   have aS : (Q.getD fz []).length = n := (MatN.rowlen f1 (by rw [(Nt.mixR_len.trans hMl)]; omega)).trans ((congrArg List.length (Nt.mixR_other (M := M) (t := tz) (i := fz) (j := j) (R := R) hne)).trans (hsq.2 fz xq))
   have cJ : (Rz.getD fz sl0).n = n := (MutQ.rown hrw90).trans aS
   refine zyk 92 (.slice (Rz.getD fz sl0).a (Rz.getD fz sl0).n (Rz.getD fz sl0).c) bJ ty54 (zza 93 (zI j) ?_)
   obtain ⟨b91, bU, a3⟩ := MutQ.el1 (j := j) hrw90 xq
   refine zzz 94 (0 + j * 3) (n := (Rz.getD fz sl0).n) (off := 0) (sz := 3) (i := (j : Int)) xq bU xq xq sl54 ?_
   obtain ⟨de, bf⟩ : ∃ r : RL, (Q.getD fz []).getD j rl0 = r := ⟨_, rfl⟩
   rw [bf] at a3
   have hv94 := (by have h9 := (MatN.at (i := fz) (j := j) f1 (by rw [(Nt.mixR_len.trans hMl)]; omega) (by rw [((congrArg List.length (Nt.mixR_other (M := M) (t := tz) (i := fz) (j := j) (R := R) hne)).trans (hsq.2 fz xq))]; omega)); rewrite [Nt.mixR_other hne] at h9; exact h9)
   rw [bf] at hv94
   refine zyl 95 (de.cs) a3 ty26 (zzg 87 75 _ fun _ _ aw dd => Post.mono (k_rqFrac dd (a := gi S k 2) (b := Nt.p2i (gi S k 3)) xq xq xq xq) ?_)
   rintro _ u98 aK ⟨r96, rfl, c7⟩
   refine zzg 96 25 _ fun _ _ ac ch => Post.mono (k_rqMul ch (c7.ext ac).raw (hv94.ext (aw.trans (aK.ext.trans ac))).raw xq xq) ?_
   rintro _ dx aj ⟨dk, rfl, bY⟩
   refine zzg 97 57 _ fun _ _ ad b0 => Post.mono (k_rqAdd b0 (hv88.ext (aw.trans (aK.ext.trans (ac.trans (aj.ext.trans ad))))).raw (bY.ext ad).raw xq xq) ?_
   rintro _ dq al ⟨ak, rfl, cl⟩
   refine zzw ?_
   obtain ⟨c1, au, cA⟩ := MutQ.el1 (j := j) (hrw84.ext (aw.trans (aK.ext.trans (ac.trans (aj.ext.trans (ad.trans al.ext)))))) xq
   refine zzz 98 (0 + j * 3) (n := (Rz.getD tz sl0).n) (off := 0) (sz := 3) (i := (j : Int)) xq au xq xq sl54 ?_
   have hq114 := (hrw84.ext (aw.trans (aK.ext.trans (ac.trans (aj.ext.trans (ad.trans al.ext))))))
   refine sy_storeQ (v := ak.v) (off := 0 + j * 3) (n := 3) (Rz.getD tz sl0) hq114 (fun a ha => .inl (MutQ.blk (MatQ.row hm9 tz xq) ha)) au ty26 (by rw [zyx]; have h9 : _ := xq; omega) (nu_rl ak) (fun b1 bg ag => ?_)
   have bj : MutQ (1 * 3) 26 u.heap.size b1 (Rz.getD tz sl0) (rcs ((Q.getD tz []).set j ak)) := by rw [← zyw (off := 0 + j * 3) xq xq]; exact bg
   have eX114r := ExtX.root ag (MutQ.mutL hq114) (cr.trans (aw.trans (aK.ext.trans (ac.trans (aj.ext.trans (ad.trans al.ext))))))
   have hM115 := MatQ.storeRow xw (f0.ext (aw.trans (aK.ext.trans (ac.trans (aj.ext.trans (ad.trans al.ext)))))) (i := tz) xq (L := ((Q.getD tz []).set j ak)) bj ag
   have bm : (((M.getD tz []).getD j 0) + ((((gi S k 2 : Int) : Rat) / ((Nt.p2i (gi S k 3) : Int) : Rat)) * ((M.getD fz []).getD j 0))) = R.getD j 0 := (hRa j xq)
   have hN115 := MatN.el (i := tz) (j := j) (MatN.keep (f1.ext (aw.trans (aK.ext.trans (ac.trans (aj.ext.trans (ad.trans al.ext)))))) hq114 ag) (by rw [(Nt.mixR_len.trans hMl)]; omega) (by rw [((Nt.mixR_row hMt ab xq).trans hRl)]; omega) (RatN.fit (L := 100) (by rw [← bm]; exact MutQ.keep hq114 ag cl) (hRs j))
   rewrite [Nt.mixR_s hMt ab xq] at hN115
   obtain ⟨bn, ar⟩ : ∃ Q9, Q.set tz ((Q.getD tz []).set j ak) = Q9 := ⟨_, rfl⟩
   rewrite [ar] at hM115 hN115
   have bP : bn.length = Q.length := by rw [← ar, List.length_set]
   refine zzw ?_
   refine zzo (zzf (zza 65 (zI j) (zyp 66 (x := zI (IntKind.i64.wrap ((j : Int) + 1))) (zI (j + 1 : Nat)) (eqI xk) (zza 12 (zI (j + 1 : Nat)) (zzw ?_)))))
   refine ⟨_, ?_, _, by exact zzu _ _ _, j + 1, bn, rfl, by omega, rfl, eX114r, hM115, hN115⟩
   omega
  have qhb80 := of_decide_eq_false av
  refine zyb (zzo (zzf (zza 56 (zI k) (zyp 57 (x := zI (IntKind.i64.wrap ((k : Int) + 1))) (zI (k + 1 : Nat)) (eqI xk) (zza 9 (zI (k + 1 : Nat)) (zzw ?_))))))
  have hst : Nt.linM n (S.take (k + 1)) = Nt.cmb [(tz : Int), (fz : Int), gi S k 2, gi S k 3] M := by rw [Nt.linM_snoc k xq, row4 hx.rows xq, htz, hfz, hMM]
  rw [hcm, ← Nt.mixR_n ab (show j = R.length by omega)] at hst
  refine ⟨_, ?_, _, by exact zzu _ _ _, k + 1, Rz, Q, rfl, by omega, rfl, cr, f0, (by rw [hst]; exact f1)⟩
  omega
 have qhb45 := of_decide_eq_false az
 refine zyb (zzo (sq9 (zza 146 (.v (.slice (some ⟨aa, 0, none⟩) n n)) (zza 4 (.v (.slice (some ⟨aa, 0, none⟩) n n)) (zza 5 (zI 0) (zzb (zzn (ret0 [.slice (some ⟨aa, 0, none⟩) n n, .int .i64 0] ⟨zzp, zzp, trivial⟩ fun dj bh => ?_))))))))
 refine ⟨(⟨some ⟨aa, 0, none⟩, n, n⟩ : Sl), Rz, Lz, rfl, (l0.ext bh), by have h9 := (l1.ext bh); rw [← hMM, show k = S.length by omega, List.take_length] at h9; exact h9⟩
theorem k_r37linearB {u w : World} {x : Sl} {S : List (List Int)} {n : Int} (d : Dat u w) (hx : IrV 4 u x S) (h9 : S.length ≤ 1000000) (hn0 : -9223372036854775808 ≤ n) (hn1 : n ≤ 9223372036854775807) (hV : ¬ Nt.shV n S) : Calls Tryz.prog 61 #[x.v, .int .i64 n] w (Post u w fun v _ => v = .tuple #[.slice none 0 0, .int .i64 2]) := by
 refine zzl (args := [x.v, .int .i64 n]) Tryz.func61 rfl Tryz.ntmps61 (rs := [.tmp 4, .tmp 5]) Tryz.results61 (le_b rfl) (le_b rfl) d ?_
 refine sq9 (zza 4 (.v (.slice none 0 0)) (zza 5 (zI 0) (zzb (zzd (sq9 (zza 13 (.v (x.v)) (zza 14 (zI n) (zzg 15 65 _ fun _ _ aa ab => Post.mono (k_r37valid (x := x) (n := n) ab (hx.ext aa) xq) ?_))))))))
 rintro _ u12 g13 rfl
 refine zza 16 (zB (!(decide (Nt.shV n S)))) (zzb (zzt (b := !(decide (Nt.shV n S))) xj (fun hb => ?_) (fun hb => ?_)))
 ·clear hb
  refine sq9 (zza 4 (.v (.slice none 0 0)) (zza 5 (zI 2) (zzb (zzn (zzv (ret0 [.slice none 0 0, .int .i64 2] ⟨zzp, zzp, trivial⟩ fun u15 e16 => ?_))))))
  rfl
 exact absurd hb (by rw [show (!(decide (Nt.shV n S))) = true from (by rw [decide_eq_false hV]; rfl)]; decide)
theorem k_r21shift {u w : World} {v n : Int} (d : Dat u w) (hv0 : -4611686018427387904 ≤ v) (hv1 : v ≤ 4611686018427387904) (hn0 : 0 ≤ n) (hn1 : n ≤ 24) : Calls Tryz.prog 199 #[.int .i64 v, .int .i64 n, .int .i64 2] w (Post u w fun y _ => y = .int .i64 (Nt.shiftW v n 2)) := by
 have hp1 := Nt.zxo n
 have hp2 := Nt.p2i_24 (n := n) xq
 refine zzl (args := [.int .i64 v, .int .i64 n, .int .i64 2]) Tryz.func199 rfl Tryz.ntmps199 (rs := [.tmp 6]) Tryz.results199 (le_b rfl) (le_b rfl) d ?_
 refine sq9 (zza 6 (zI 0) (zzb (zzd (sq9 (zza 10 (zI n) (zzg 11 113 _ fun _ _ _ ai => Post.mono (k_in ai (z := n) (a := 0) (b := 62)) ?_))))))
 rintro _ u12 g13 rfl
 refine zza 12 (zB (!(decide ((0 : Int) ≤ n) && decide (n ≤ 62)))) (zqB 13 (show (!(decide ((0 : Int) ≤ n) && decide (n ≤ 62))) = false from (by first | (simp; done) | (simp; omega))) (zza 14 (zI 2) ?_ (hw := w1 3 false 13)))
 refine zzg 15 113 _ (fun _ _ _ aj => Post.mono (k_in aj (z := 2) (a := 1) (b := 3)) ?_) (hw := w1 3 false 13)
 rintro _ u17 g18 rfl
 refine zza 16 (zB (!(decide ((1 : Int) ≤ 2) && decide (2 ≤ 3)))) ?_ (hw := w1 3 false 13)
 refine zza 17 (zB (!(decide ((1 : Int) ≤ 2) && decide (2 ≤ 3)))) (zzb (zzt (b := !(decide ((1 : Int) ≤ 2) && decide (2 ≤ 3))) xj (fun hb => ?_) (fun hb => ?_)))
 ·exact absurd hb (by rw [show (!(decide ((1 : Int) ≤ 2) && decide (2 ≤ 3))) = false from (by first | (simp; done) | (simp; omega))]; decide)
 clear hb
 refine zzr (zzo ?_)
 refine sq9 (zza 18 (zI n) (sy_conv 19 (n) (fun w => by kernel_rfl) (IntWalk.u64_in _ xq) ?_))
 refine sy_shl 20 (k := .i64) (s := n) (Nt.p2i n) xq yw (shl_one xq xq) ?_
 refine zza 7 (zI (Nt.p2i n)) (zzb (zzd (zzy [0, 0, 3, 0, 0, 24, 7, 127] [(0, []), (1, []), (2, []), (3, []), (4, []), (5, []), (6, []), (7, [])] xj xj (zza 21 (zI v) (zza 22 (zI (Nt.p2i n)) ?_)))))
 obtain ⟨q, hq⟩ : ∃ q, v.tdiv (Nt.p2i n) = q := ⟨_, rfl⟩
 have hqb : q.natAbs ≤ v.natAbs := by rw [← hq]; exact Nt.tdiv_abs v (Nt.p2i n)
 refine sy_quo 23 (n := v) (m := Nt.p2i n) q xq (by rw [hq]; exact IntWalk.i64_in _ xq) ?_
 refine zza 24 (zI v) (zza 25 (zI (Nt.p2i n)) ?_)
 obtain ⟨r, hr⟩ : ∃ r, v.tmod (Nt.p2i n) = r := ⟨_, rfl⟩
 have hrb : -Nt.p2i n < r ∧ r < Nt.p2i n := by rw [← hr]; exact ⟨Int.lt_tmod_of_pos v hp1, Int.tmod_lt_of_pos v hp1⟩
 refine sy_rem 26 (n := v) (m := Nt.p2i n) r xq hr ?_
 refine zza 8 (zI q) (zza 9 (zI r) (zzb (zzd (sq9 (zza 27 (zI r) (zza 28 (zB (decide (r < 0))) (zzb (zzt (b := decide (r < 0)) xj (fun af => ?_) (fun af => ?_)))))))))
 ·have qhb20 := of_decide_eq_true af
  refine zzf (zza 29 (zI q) (zyp 30 (x := zI (IntKind.i64.wrap (q - 1))) (zI (q - 1)) yq (zza 31 (zI r) (zza 32 (zI (Nt.p2i n)) (zyp 33 (x := zI (IntKind.i64.wrap (r + (Nt.p2i n)))) (zI (r + (Nt.p2i n))) yq (zza 8 (zI (q - 1)) (zza 9 (zI (r + (Nt.p2i n))) (zzb (zzd (sq9 (zza 34 (zI 2) ?_)))))))))))
  refine zza 35 (zB true) (zza 36 (zB true) (zza 37 (zI (r + (Nt.p2i n))) ?_ (hw := w1 2 true 36)))
  refine zza 38 (zI (Nt.p2i n)) ?_ (hw := w1 2 true 36)
  refine zyp 39 (x := zI (IntKind.i64.wrap ((Nt.p2i n) - 1))) (zI ((Nt.p2i n) - 1)) yq ?_ (hw := w1 2 true 36)
  refine zza 40 (zI (r + (Nt.p2i n))) ?_ (hw := w1 2 true 36)
  refine zyp 41 (x := zI (IntKind.i64.wrap (((Nt.p2i n) - 1) - (r + (Nt.p2i n))))) (zI (((Nt.p2i n) - 1) - (r + (Nt.p2i n)))) yq ?_ (hw := w1 2 true 36)
  refine zza 42 (zB (decide ((((Nt.p2i n) - 1) - (r + (Nt.p2i n))) < (r + (Nt.p2i n))))) ?_ (hw := w1 2 true 36)
  refine zza 43 (zB (decide ((((Nt.p2i n) - 1) - (r + (Nt.p2i n))) < (r + (Nt.p2i n))))) ?_
  rcases Bool.eq_false_or_eq_true (decide ((((Nt.p2i n) - 1) - (r + (Nt.p2i n))) < (r + (Nt.p2i n)))) with hs21 | hs21
  ·refine zyp 44 (x := zB (decide ((((Nt.p2i n) - 1) - (r + (Nt.p2i n))) < (r + (Nt.p2i n))))) (zB true) (by rw [hs21]) ?_
   have qhs21 := of_decide_eq_true hs21
   refine zza 45 (zI n) ?_ (hw := w1 10 true 44)
   refine zza 46 (zB (decide ((0 : Int) < n))) ?_ (hw := w1 10 true 44)
   refine zza 47 (zB (decide ((0 : Int) < n))) (zzc 63 [(0, zI v), (2, zI 2), (8, zI (q - 1)), (9, zI (r + (Nt.p2i n))), (47, zB (decide ((0 : Int) < n)))] [] (zzt (b := decide ((0 : Int) < n)) xj (fun ae => ?_) (fun ae => ?_)))
   ·have qhb22 := of_decide_eq_true ae
    refine zzf (zza 48 (zI (q - 1)) (zyp 49 (x := zI (IntKind.i64.wrap ((q - 1) + 1))) (zI ((q - 1) + 1)) yq (zza 8 (zI ((q - 1) + 1)) (zzb (zzd (sq9 (zza 50 (zI 2) (zza 51 (zB false) (zza 52 (zB false) (zzm 53 (uw 2 true false 52) (zzm 54 (uw 2 true false 52) ?_)))))))))))
    refine zza 55 (zB false) (zza 56 (zB false) (zzm 57 (uw 6 true false 56) (zzm 58 (uw 6 true false 56) (zza 59 (zB false) (zzb (zyr xj (zzr (zzo ?_))))))))
    refine sq9 (zza 62 (zI ((q - 1) + 1)) (zza 6 (zI ((q - 1) + 1)) (zzb (zzn (ret0 [.int .i64 ((q - 1) + 1)] ⟨zzp, trivial⟩ fun u23 e24 => ?_)))))
    have h7 := Nt.tm_fl hp1 hq hr
    have h8 := Nt.shift_fl (v := v) hn0
    show Value.int _ _ = Value.int _ _
    congr 1
    obtain ⟨ad, ab, ah⟩ := h7.2 xq
    rw [ad, ab] at h8
    obtain ⟨aa, ac⟩ := h8
    first | (have h9 := aa ⟨by omega, by omega⟩; omega) | (have h9 := ac xq; omega)
   have qhb22 := of_decide_eq_false ae
   refine zzr (zzo ?_)
   refine zzd (sq9 (zza 50 (zI 2) (zza 51 (zB false) (zza 52 (zB false) (zzm 53 (uw 2 true false 52) (zzm 54 (uw 2 true false 52) (zza 55 (zB false) (zza 56 (zB false) (zzm 57 (uw 6 true false 56) (zzm 58 (uw 6 true false 56) (zza 59 (zB false) ?_)))))))))))
   refine zzb (zyr xj (zzr (zzo ?_)))
   refine sq9 (zza 62 (zI (q - 1)) (zza 6 (zI (q - 1)) (zzb (zzn (ret0 [.int .i64 (q - 1)] ⟨zzp, trivial⟩ fun u25 e26 => ?_)))))
   have h7 := Nt.tm_fl hp1 hq hr
   have h8 := Nt.shift_fl (v := v) hn0
   show Value.int _ _ = Value.int _ _
   congr 1
   obtain ⟨ad, ab, ah⟩ := h7.2 xq
   rw [ad, ab] at h8
   obtain ⟨aa, ac⟩ := h8
   first | (have h9 := aa ⟨by omega, by omega⟩; omega) | (have h9 := ac xq; omega)
  refine zyp 44 (x := zB (decide ((((Nt.p2i n) - 1) - (r + (Nt.p2i n))) < (r + (Nt.p2i n))))) (zB false) (by rw [hs21]) ?_
  have qhs21 := of_decide_eq_false hs21
  refine zzm 45 (uw 10 true false 44) (zzm 46 (uw 10 true false 44) (zza 47 (zB false) (zzc 63 [(0, zI v), (2, zI 2), (8, zI (q - 1)), (9, zI (r + (Nt.p2i n))), (47, zB false)] [] (zyr xj (zzr (zzo ?_))))))
  refine zzd (sq9 (zza 50 (zI 2) (zza 51 (zB false) (zza 52 (zB false) (zzm 53 (uw 2 true false 52) (zzm 54 (uw 2 true false 52) (zza 55 (zB false) (zza 56 (zB false) (zzm 57 (uw 6 true false 56) (zzm 58 (uw 6 true false 56) (zza 59 (zB false) ?_)))))))))))
  refine zzb (zyr xj (zzr (zzo ?_)))
  refine sq9 (zza 62 (zI (q - 1)) (zza 6 (zI (q - 1)) (zzb (zzn (ret0 [.int .i64 (q - 1)] ⟨zzp, trivial⟩ fun u27 e28 => ?_)))))
  have h7 := Nt.tm_fl hp1 hq hr
  have h8 := Nt.shift_fl (v := v) hn0
  show Value.int _ _ = Value.int _ _
  congr 1
  obtain ⟨ad, ab, ah⟩ := h7.2 xq
  rw [ad, ab] at h8
  obtain ⟨aa, ac⟩ := h8
  first | (have h9 := aa ⟨by omega, by omega⟩; omega) | (have h9 := ac xq; omega)
 have qhb20 := of_decide_eq_false af
 refine zzr (zzo ?_)
 refine zzd (sq9 (zza 34 (zI 2) (zza 35 (zB true) (zza 36 (zB true) (zza 37 (zI r) ?_ (hw := w1 2 true 36))))))
 refine zza 38 (zI (Nt.p2i n)) ?_ (hw := w1 2 true 36)
 refine zyp 39 (x := zI (IntKind.i64.wrap ((Nt.p2i n) - 1))) (zI ((Nt.p2i n) - 1)) yq ?_ (hw := w1 2 true 36)
 refine zza 40 (zI r) ?_ (hw := w1 2 true 36)
 refine zyp 41 (x := zI (IntKind.i64.wrap (((Nt.p2i n) - 1) - r))) (zI (((Nt.p2i n) - 1) - r)) yq ?_ (hw := w1 2 true 36)
 refine zza 42 (zB (decide ((((Nt.p2i n) - 1) - r) < r))) ?_ (hw := w1 2 true 36)
 refine zza 43 (zB (decide ((((Nt.p2i n) - 1) - r) < r))) ?_
 rcases Bool.eq_false_or_eq_true (decide ((((Nt.p2i n) - 1) - r) < r)) with hs29 | hs29
 ·refine zyp 44 (x := zB (decide ((((Nt.p2i n) - 1) - r) < r))) (zB true) (by rw [hs29]) ?_
  have qhs29 := of_decide_eq_true hs29
  refine zza 45 (zI n) ?_ (hw := w1 10 true 44)
  refine zza 46 (zB (decide ((0 : Int) < n))) ?_ (hw := w1 10 true 44)
  refine zza 47 (zB (decide ((0 : Int) < n))) (zzc 63 [(0, zI v), (2, zI 2), (8, zI q), (9, zI r), (47, zB (decide ((0 : Int) < n)))] [] (zzt (b := decide ((0 : Int) < n)) xj (fun ag => ?_) (fun ag => ?_)))
  ·have qhb30 := of_decide_eq_true ag
   refine zzf (zza 48 (zI q) (zyp 49 (x := zI (IntKind.i64.wrap (q + 1))) (zI (q + 1)) yq (zza 8 (zI (q + 1)) (zzb (zzd (sq9 (zza 50 (zI 2) (zza 51 (zB false) (zza 52 (zB false) (zzm 53 (uw 2 true false 52) (zzm 54 (uw 2 true false 52) ?_)))))))))))
   refine zza 55 (zB false) (zza 56 (zB false) (zzm 57 (uw 6 true false 56) (zzm 58 (uw 6 true false 56) (zza 59 (zB false) (zzb (zyr xj (zzr (zzo ?_))))))))
   refine sq9 (zza 62 (zI (q + 1)) (zza 6 (zI (q + 1)) (zzb (zzn (ret0 [.int .i64 (q + 1)] ⟨zzp, trivial⟩ fun u31 e32 => ?_)))))
   have h7 := Nt.tm_fl hp1 hq hr
   have h8 := Nt.shift_fl (v := v) hn0
   show Value.int _ _ = Value.int _ _
   congr 1
   obtain ⟨ad, ab, ah⟩ := h7.1 xq
   rw [ad, ab] at h8
   obtain ⟨aa, ac⟩ := h8
   first | (have h9 := aa ⟨by omega, by omega⟩; omega) | (have h9 := ac xq; omega)
  have qhb30 := of_decide_eq_false ag
  refine zzr (zzo ?_)
  refine zzd (sq9 (zza 50 (zI 2) (zza 51 (zB false) (zza 52 (zB false) (zzm 53 (uw 2 true false 52) (zzm 54 (uw 2 true false 52) (zza 55 (zB false) (zza 56 (zB false) (zzm 57 (uw 6 true false 56) (zzm 58 (uw 6 true false 56) (zza 59 (zB false) ?_)))))))))))
  refine zzb (zyr xj (zzr (zzo ?_)))
  refine sq9 (zza 62 (zI q) (zza 6 (zI q) (zzb (zzn (ret0 [.int .i64 q] ⟨zzp, trivial⟩ fun u33 e34 => ?_)))))
  have h7 := Nt.tm_fl hp1 hq hr
  have h8 := Nt.shift_fl (v := v) hn0
  show Value.int _ _ = Value.int _ _
  congr 1
  obtain ⟨ad, ab, ah⟩ := h7.1 xq
  rw [ad, ab] at h8
  obtain ⟨aa, ac⟩ := h8
  first | (have h9 := aa ⟨by omega, by omega⟩; omega) | (have h9 := ac xq; omega)
 refine zyp 44 (x := zB (decide ((((Nt.p2i n) - 1) - r) < r))) (zB false) (by rw [hs29]) ?_
 have qhs29 := of_decide_eq_false hs29
 refine zzm 45 (uw 10 true false 44) (zzm 46 (uw 10 true false 44) (zza 47 (zB false) (zzc 63 [(0, zI v), (2, zI 2), (8, zI q), (9, zI r), (47, zB false)] [] (zyr xj (zzr (zzo ?_))))))
 refine zzd (sq9 (zza 50 (zI 2) (zza 51 (zB false) (zza 52 (zB false) (zzm 53 (uw 2 true false 52) (zzm 54 (uw 2 true false 52) (zza 55 (zB false) (zza 56 (zB false) (zzm 57 (uw 6 true false 56) (zzm 58 (uw 6 true false 56) (zza 59 (zB false) ?_)))))))))))
 refine zzb (zyr xj (zzr (zzo ?_)))
 refine sq9 (zza 62 (zI q) (zza 6 (zI q) (zzb (zzn (ret0 [.int .i64 q] ⟨zzp, trivial⟩ fun u35 e36 => ?_)))))
 have h7 := Nt.tm_fl hp1 hq hr
 have h8 := Nt.shift_fl (v := v) hn0
 show Value.int _ _ = Value.int _ _
 congr 1
 obtain ⟨ad, ab, ah⟩ := h7.1 xq
 rw [ad, ab] at h8
 obtain ⟨aa, ac⟩ := h8
 first | (have h9 := aa ⟨by omega, by omega⟩; omega) | (have h9 := ac xq; omega)
set_option maxHeartbeats 4000000 in
theorem k_r37perform {u w v0 : World} {y : Sl} {l : List Int} {t f n : Nat} {cf sh sg : Int} (d : Dat u w) (hv : Ext v0 u) (hy : MutQ 1 3 v0.heap.size u y (ics l)) (hl : l.length = n) (hW : Nt.W32 l) (hn9 : n ≤ 1000) (hs : Nt.shOK (n : Int) [(t : Int), (f : Int), cf, sh]) (hsg : sg = 1 ∨ sg = -1) : Calls Tryz.prog 131 #[.agg #[.int .i64 (t : Int), .int .i64 (f : Int), .int .i64 cf, .int .i64 sh], y.v, .int .i64 sg] w (PostF (mqB y []) u w fun v u' => v = .tuple #[] ∧ MutQ 1 3 v0.heap.size u' y (ics (Nt.shF [(t : Int), (f : Int), cf, sh] sg l))) := by
 obtain ⟨h1, h2, h3, h4, h5, h6, h7, h8⟩ := Nt.shOK_mk hs
 have hyn : y.n = n := by have h9 := hy.1; rw [zwi] at h9; omega
 have hlt := hW.get t
 have hlf := hW.get f
 have hm := Nt.sh_mul (a := cf) (b := l.getD f 0) (A := 2097152) (B := 2147483648) ⟨h5, h6⟩ ⟨by omega, by omega⟩ xw
 have hsb := Nt.shift_bd2 (cf * l.getD f 0) sh
 have hsx := Nt.sg_bd (x := Nt.shiftW (cf * l.getD f 0) sh 2) (B := 4503599627370497) hsg ⟨by omega, by omega⟩
 refine calls_symF (F := mqB y []) (args := [.agg #[.int .i64 (t : Int), .int .i64 (f : Int), .int .i64 cf, .int .i64 sh], y.v, .int .i64 sg]) Tryz.func131 rfl Tryz.ntmps131 (rs := []) Tryz.results131 (le_b rfl) (le_b rfl) d ?_
 refine sq9 (zzj 3 ⟨90, [.int .i64 t, .int .i64 f, .int .i64 cf, .int .i64 sh]⟩ (zzb (zzs (sq9 (zza 31 (.adr 3 3) (zzh 32 (zI sh) ty3 zzk (zza 33 (zB (sh == (-1))) (zza 30 (zB (sh == (-1))) (zzb (zzt (b := sh == (-1)) xj (fun ac => ?_) (fun ac => ?_)))))))))))
 ·have aa : sh = (-1) := by simpa using ac
  refine sw_anyX xj 20 rfl ?_
  refine takeX 3 37 19 (.v (y.v)) #[false, false, false, true, false, false, false, false, false, false, false, false, false, false, false, false, false, false, false, false] ?_
  refine takeXa 4 38 18 3 0 1 #[false, false, false, true, true, false, false, false, false, false, false, false, false, false, false, false, false, false, false, false] ?_
  refine restX [0, 0, 2, 0, 0, 16, 0, 0, 128, 448, 960, 0, 0, 4096, 14336, 30720, 65479, 131015, 262143, 524287] [(0, []), (1, []), (2, []), (6, []), (7, []), (8, []), (9, []), (10, []), (11, []), (12, []), (13, []), (14, []), (15, []), (16, [])] [(5, [])] (17, []) [(18, []), (19, [])] xj ?_
  refine zza 34 (.v (y.v)) (zza 35 (.adr 3 0) (zzh 36 (zI t) ty3 zzk (zza 40 (.v (y.v)) (zza 41 (.adr 3 1) (zzh 42 (zI f) ty3 zzk ?_)))))
  obtain ⟨b12, ar, aF⟩ := MutQ.elI (j := f) hy zj
  refine zzz 43 (0 + f * 1) (n := y.n) (off := 0) (sz := 1) (i := (f : Int)) xq ar xq xq sl30 (zyk 44 (.int .i64 (l.getD f 0)) aF ty3 (zza 45 (.v (y.v)) (zza 46 (.adr 3 0) (zzh 47 (zI t) ty3 zzk ?_))))
  obtain ⟨b13, aC, an⟩ := MutQ.elI (j := t) hy zj
  refine zzz 48 (0 + t * 1) (n := y.n) (off := 0) (sz := 1) (i := (t : Int)) xq aC xq xq sl30 (zyk 49 (.int .i64 (l.getD t 0)) an ty3 ?_)
  obtain ⟨b14, ae, a6⟩ := MutQ.elI (j := t) hy zj
  refine zzz 50 (0 + t * 1) (n := y.n) (off := 0) (sz := 1) (i := (t : Int)) xq ae xq xq sl30 (zzw ?_)
  refine exitsK_both ?_ ?_
  ·skip
   have hq15 := hy
   refine sy_storeQ (v := .int .i64 (l.getD f 0)) (off := 0 + t * 1) (n := 1) y hq15 (fun a ha => .inr (mqB_x ha)) ae ty3 (by rw [zwi, hl]; omega) (nu_ics (l := [(l.getD f 0)])) (fun aZ ay aS => ?_)
   have ai : MutQ 1 3 v0.heap.size aZ y (ics (l.set t (l.getD f 0))) := by rw [← setL_icsQ zj]; exact ay
   have eX15r := ExtX.root aS (MutQ.mutL hq15) hv
   refine zzh 39 (zI f) ty3 zzk ?_
   obtain ⟨b16, ag, a5⟩ := MutQ.elI (j := f) ai (by rw [(List.length_set.trans hl)]; omega)
   refine zzz 51 (0 + f * 1) (n := y.n) (off := 0) (sz := 1) (i := (f : Int)) xq ag xq xq sl30 ?_
   have hq17 := ai
   refine sy_storeQ (v := .int .i64 (l.getD t 0)) (off := 0 + f * 1) (n := 1) y hq17 (fun a ha => .inr (mqB_x ha)) ag ty3 (by rw [zwi, (List.length_set.trans hl)]; omega) (nu_ics (l := [(l.getD t 0)])) (fun aU aB aP => ?_)
   have av : MutQ 1 3 v0.heap.size aU y (ics ((l.set t (l.getD f 0)).set f (l.getD t 0))) := by rw [← setL_icsQ (by rw [(List.length_set.trans hl)]; omega)]; exact aB
   have eX17r := ExtX.root aP (MutQ.mutL hq17) eX15r
   refine zzw ?_
   refine ⟨[], [], trivial, (fun t h => by cases h), fun B u1 e1 _ => ⟨rfl, ?_⟩⟩
   rw [(Nt.shF_x aa)]
   exact (av).ext e1
  refine zzh 39 (zI f) ty3 zzk (zzw ?_)
  refine exitsK_last ?_
  have hq18 := hy
  refine sy_storeQ (v := .int .i64 (l.getD f 0)) (off := 0 + t * 1) (n := 1) y hq18 (fun a ha => .inr (mqB_x ha)) ae ty3 (by rw [zwi, hl]; omega) (nu_ics (l := [(l.getD f 0)])) (fun a3 aK am => ?_)
  have ah : MutQ 1 3 v0.heap.size a3 y (ics (l.set t (l.getD f 0))) := by rw [← setL_icsQ zj]; exact aK
  have eX18r := ExtX.root am (MutQ.mutL hq18) hv
  obtain ⟨b19, af, aY⟩ := MutQ.elI (j := f) ah (by rw [(List.length_set.trans hl)]; omega)
  refine zzz 51 (0 + f * 1) (n := y.n) (off := 0) (sz := 1) (i := (f : Int)) xq af xq xq sl30 ?_
  have hq20 := ah
  refine sy_storeQ (v := .int .i64 (l.getD t 0)) (off := 0 + f * 1) (n := 1) y hq20 (fun a ha => .inr (mqB_x ha)) af ty3 (by rw [zwi, (List.length_set.trans hl)]; omega) (nu_ics (l := [(l.getD t 0)])) (fun aW aR aq => ?_)
  have aQ : MutQ 1 3 v0.heap.size aW y (ics ((l.set t (l.getD f 0)).set f (l.getD t 0))) := by rw [← setL_icsQ (by rw [(List.length_set.trans hl)]; omega)]; exact aR
  have eX20r := ExtX.root aq (MutQ.mutL hq20) eX18r
  refine zzw ?_
  refine ⟨[], [], trivial, (fun t h => by cases h), fun B u1 e1 _ => ⟨rfl, ?_⟩⟩
  rw [(Nt.shF_x aa)]
  exact (aQ).ext e1
 have aa : ¬ sh = (-1) := by simpa using ac
 refine sq9 (zza 53 (.adr 3 3) (zzh 54 (zI sh) ty3 zzk (zza 55 (zB (sh == (-2))) (zza 52 (zB (sh == (-2))) (zzb (zzt (b := sh == (-2)) xj (fun ad => ?_) (fun ad => ?_)))))))
 ·have ab : sh = (-2) := by simpa using ad
  refine sw_anyC [0, 0, 2, 0, 0, 16, 56, 120, 248, 504, 1023, 2047] [(0, []), (1, []), (2, []), (3, []), (4, []), (5, []), (6, []), (7, []), (8, []), (9, [])] [(10, []), (11, [])] xj xj xj ?_
  refine zza 56 (.v (y.v)) (zza 57 (.adr 3 0) (zzh 58 (zI t) ty3 zzk (zza 59 (.v (y.v)) (zza 60 (.adr 3 0) (zzh 61 (zI t) ty3 zzk ?_)))))
  obtain ⟨b22, ax, aL⟩ := MutQ.elI (j := t) hy zj
  refine zzz 62 (0 + t * 1) (n := y.n) (off := 0) (sz := 1) (i := (t : Int)) xq ax xq xq sl30 (zyk 63 (.int .i64 (l.getD t 0)) aL ty3 (zyp 64 (x := zI (IntKind.i64.wrap (0 - (l.getD t 0)))) (zI (-(l.getD t 0))) (eqI xk) (zzg 65 47 _ fun _ _ ap a1 => Post.mono (k_r21wrap (v := -(l.getD t 0)) a1 xq xq) ?_)))
  rintro _ u24 aG rfl
  refine zzw ?_
  obtain ⟨b27, aj, a0⟩ := MutQ.elI (j := t) (hy.ext (ap.trans aG.ext)) zj
  refine zzz 66 (0 + t * 1) (n := y.n) (off := 0) (sz := 1) (i := (t : Int)) xq aj xq xq sl30 ?_
  have hq28 := (hy.ext (ap.trans aG.ext))
  refine sy_storeQ (v := .int .i64 (Nt.wrapW 32 (-(l.getD t 0)))) (off := 0 + t * 1) (n := 1) y hq28 (fun a ha => .inr (mqB_x ha)) aj ty3 (by rw [zwi, hl]; omega) (nu_ics (l := [Nt.wrapW 32 (-(l.getD t 0))])) (fun a2 aM aE => ?_)
  have az : MutQ 1 3 v0.heap.size a2 y (ics (l.set t (Nt.wrapW 32 (-(l.getD t 0))))) := by rw [← setL_icsQ zj]; exact aM
  have eX28r := ExtX.root aE (MutQ.mutL hq28) (hv.trans (ap.trans aG.ext))
  refine zzw ?_
  refine ⟨[], [], trivial, (fun t h => by cases h), fun B u1 e1 _ => ⟨rfl, ?_⟩⟩
  rw [(Nt.shF_n ab)]
  exact (az).ext e1
 have ab : ¬ sh = (-2) := by simpa using ad
 refine sw_anyC [0, 0, 2, 0, 0, 16, 56, 120, 0, 0, 512, 0, 0, 4096, 14336, 30720, 65024, 0, 131072, 523776, 1048320, 2097144, 4194296, 8388607, 16777215] [(0, []), (1, []), (2, []), (3, []), (4, []), (5, []), (6, []), (7, []), (8, []), (9, []), (10, []), (11, []), (12, []), (13, []), (14, []), (15, []), (16, []), (17, []), (18, []), (19, []), (20, []), (21, []), (22, [])] [(23, []), (24, [])] xj xj xj ?_
 refine zza 6 (.v (y.v)) (zza 7 (.adr 3 0) (zzh 8 (zI t) ty3 zzk (zza 9 (.v (y.v)) (zza 10 (.adr 3 0) (zzh 11 (zI t) ty3 zzk ?_)))))
 obtain ⟨b29, aw, aH⟩ := MutQ.elI (j := t) hy zj
 refine zzz 12 (0 + t * 1) (n := y.n) (off := 0) (sz := 1) (i := (t : Int)) xq aw xq xq sl30 (zyk 13 (.int .i64 (l.getD t 0)) aH ty3 (zza 14 (zI sg) (zza 15 (.adr 3 2) (zzh 16 (zI cf) ty3 zzk (zza 17 (.v (y.v)) (zza 18 (.adr 3 1) (zzh 19 (zI f) ty3 zzk ?_)))))))
 obtain ⟨b30, aJ, aA⟩ := MutQ.elI (j := f) hy zj
 refine zzz 20 (0 + f * 1) (n := y.n) (off := 0) (sz := 1) (i := (f : Int)) xq aJ xq xq sl30 (zyk 21 (.int .i64 (l.getD f 0)) aA ty3 (zyp 22 (x := zI (IntKind.i64.wrap (cf * (l.getD f 0)))) (zI (cf * (l.getD f 0))) yq (zza 23 (.adr 3 3) (zzh 24 (zI sh) ty3 zzk (zzg 25 199 _ fun _ _ al aX => Post.mono (k_r21shift (v := cf * (l.getD f 0)) (n := sh) aX xq xq xq xq) ?_)))))
 rintro _ u32 aD rfl
 refine zyp 26 (x := zI (IntKind.i64.wrap (sg * (Nt.shiftW (cf * (l.getD f 0)) sh 2)))) (zI (sg * (Nt.shiftW (cf * (l.getD f 0)) sh 2))) yq (zyp 27 (x := zI (IntKind.i64.wrap ((l.getD t 0) + (sg * (Nt.shiftW (cf * (l.getD f 0)) sh 2))))) (zI ((l.getD t 0) + (sg * (Nt.shiftW (cf * (l.getD f 0)) sh 2)))) yq (zzg 28 47 _ fun _ _ au a4 => Post.mono (k_r21wrap (v := (l.getD t 0) + (sg * (Nt.shiftW (cf * (l.getD f 0)) sh 2))) a4 xq xq) ?_))
 rintro _ u36 aO rfl
 refine zzw ?_
 obtain ⟨b39, ak, aV⟩ := MutQ.elI (j := t) (hy.ext (al.trans (aD.ext.trans (au.trans aO.ext)))) zj
 refine zzz 29 (0 + t * 1) (n := y.n) (off := 0) (sz := 1) (i := (t : Int)) xq ak xq xq sl30 ?_
 have hq40 := (hy.ext (al.trans (aD.ext.trans (au.trans aO.ext))))
 refine sy_storeQ (v := .int .i64 (Nt.wrapW 32 ((l.getD t 0) + (sg * (Nt.shiftW (cf * (l.getD f 0)) sh 2))))) (off := 0 + t * 1) (n := 1) y hq40 (fun a ha => .inr (mqB_x ha)) ak ty3 (by rw [zwi, hl]; omega) (nu_ics (l := [Nt.wrapW 32 ((l.getD t 0) + (sg * (Nt.shiftW (cf * (l.getD f 0)) sh 2)))])) (fun aT aN ao => ?_)
 have aI : MutQ 1 3 v0.heap.size aT y (ics (l.set t (Nt.wrapW 32 ((l.getD t 0) + (sg * (Nt.shiftW (cf * (l.getD f 0)) sh 2)))))) := by rw [← setL_icsQ zj]; exact aN
 have eX40r := ExtX.root ao (MutQ.mutL hq40) (hv.trans (al.trans (aD.ext.trans (au.trans aO.ext))))
 refine zzw ?_
 refine ⟨[], [], trivial, (fun t h => by cases h), fun B u1 e1 _ => ⟨rfl, ?_⟩⟩
 rw [(Nt.shF_s aa ab)]
 exact (aI).ext e1
theorem Nt.in_t {a b : Prop} [Decidable a] [Decidable b] (h : (!(decide a && decide b)) = false) : a ∧ b := by simpa using h
theorem Nt.in_f {a b : Prop} [Decidable a] [Decidable b] (h : (!(decide a && decide b)) = true) (h2 : a ∧ b) : False := by simp [h2.1, h2.2] at h
set_option maxHeartbeats 1000000 in
theorem k_r37check {u w : World} {x y : Sl} {S : List (List Int)} {l : List Int} (d : Dat u w) (hx : IrV 4 u x S) (h9 : S.length ≤ 1000000) (hy : SlR .i64 u y.a y.n y.c l) (hb : ∀ z ∈ l, -9223372036854775808 ≤ z ∧ z ≤ 9223372036854775807) (h8 : l.length ≤ 1000000) : Calls Tryz.prog 130 #[x.v, y.v] w (Post u w fun v _ => v = .int .i64 (Nt.chkE S l)) := by
 have hlx : x.n = S.length := hx.len
 have hly : l.length = y.n := hy.1
 refine zzl (args := [x.v, y.v]) Tryz.func130 rfl Tryz.ntmps130 (rs := [.tmp 4]) Tryz.results130 (le_b rfl) (le_b rfl) d ?_
 refine sq9 (zza 4 (zI 0) (zzb (zzd (sq9 (zza 6 (.v (x.v)) (zza 7 (.v (y.v)) (zza 8 (zI y.n) (zzg 9 65 _ fun _ _ ag al => Post.mono (k_r37valid (x := x) (n := (y.n : Int)) al (hx.ext ag) xq) ?_))))))))
 rintro _ am ai rfl
 refine zza 10 (zB (!(decide (Nt.shV (y.n : Int) S)))) (zzb (zzt (b := !(decide (Nt.shV (y.n : Int) S))) xj (fun aa => ?_) (fun aa => ?_)))
 ·refine sq9 (zza 4 (zI 2) (zzb (zzn (zzv (ret0 [.int .i64 2] ⟨zzp, trivial⟩ fun u16 e17 => ?_)))))
  show Value.int _ _ = Value.int _ _
  congr 1
  symm
  refine Nt.chk_bad (fun h9 => ?_)
  have h8 := aa
  rw [show ((l.length : Nat) : Int) = (y.n : Int) by omega] at h9
  simp [h9] at h8
 refine zzr (zzo ?_)
 refine zzd (sq9 (zza 5 (zI 0) (zzb (zzs (zym (I := fun ah S' u' => ∃ (i : Nat), (ah = l.length - i) ∧ (i ≤ l.length) ∧ (∀ j, j < i → -2147483648 ≤ l.getD j 0 ∧ l.getD j 0 ≤ 2147483647) ∧ (S' = St.of 23 [(1, .v (y.v)), (5, zI i)] []) ∧ (Ext am u')) (fun m S u1 u2 e h => by obtain ⟨i, hm, p0, p1, hS, hE⟩ := h; exact ⟨i, hm, p0, p1, hS, hE.trans e⟩) _ yz ⟨0, rfl, by omega, (fun j hj => absurd hj xq), rfl, (Ext.refl _)⟩ ?_)))))
 rintro ah _ u18 ⟨i, an, hi, hA, rfl, ad⟩
 refine zzd (sq9 (zza 11 (zI i) (zza 12 (.v (y.v)) (zza 13 (zI y.n) (zza 14 (zB (decide ((i : Int) < (y.n : Int)))) (zzb (zzt (b := decide ((i : Int) < (y.n : Int))) xj (fun ac => ?_) (fun ac => ?_))))))))
 ·have qhb19 := of_decide_eq_true ac
  refine zzr (zzo ?_)
  refine zzd (zzs (sq9 (zza 17 (.v (y.v)) (zza 18 (zI i) ?_))))
  have hl20 := ((hy.ext (ag.trans (ai.ext.trans ad)))).1
  obtain ⟨b20, aj, ae, af⟩ := ints_at (hy.ext (ag.trans (ai.ext.trans ad))) (i := i) xq
  have hz20 := ints_bd hb xq i
  refine zzz 19 (aj + i * 1) (n := y.n) (off := aj) (sz := 1) (i := (i : Int)) xq ae xq xq sl30 (zyk 20 (.int .i64 (l.getD i 0)) af ty3 (zzg 21 113 _ fun _ _ ap ak => Post.mono (k_in ak (z := (l.getD i 0)) (a := (-2147483648)) (b := 2147483647)) ?_))
  rintro _ u22 ao rfl
  refine zza 22 (zB (!(decide ((-2147483648) ≤ (l.getD i 0)) && decide ((l.getD i 0) ≤ 2147483647)))) (zzb (zzt (b := !(decide ((-2147483648) ≤ (l.getD i 0)) && decide ((l.getD i 0) ≤ 2147483647))) xj (fun ab => ?_) (fun ab => ?_)))
  ·refine sq9 (zza 4 (zI 17) (zzb (zzn (zyt (zzv (zys (zyt (zzv (ret0 [.int .i64 17] ⟨zzp, trivial⟩ fun u26 e27 => ?_)))))))))
   show Value.int _ _ = Value.int _ _
   congr 1
   symm
   have hV : Nt.shV (l.length : Int) S := by have h8 := aa; simp at h8; rw [show ((l.length : Nat) : Int) = (y.n : Int) by omega]; exact h8
   refine Nt.chk_not hV (fun h9 => ?_)
   exact Nt.in_f ab (h9 i xq)
  refine zzr (zzo ?_)
  refine zzf (zza 15 (zI i) (zyp 16 (x := zI (IntKind.i64.wrap ((i : Int) + 1))) (zI (i + 1 : Nat)) (eqI xk) (zza 5 (zI (i + 1 : Nat)) (zzw ?_))))
  have hin := Nt.in_t ab
  refine ⟨_, ?_, _, by exact zzu _ _ _, i + 1, rfl, by omega, (fun j hj => by rcases Nat.lt_or_ge j i with h9 | h9; exact hA j h9; (obtain rfl : j = i := by omega); omega), rfl, (ad.trans (ap.trans ao.ext))⟩
  omega
 have qhb19 := of_decide_eq_false ac
 refine zyb (zzo (sq9 (zza 4 (zI 0) (zzb (zzn (ret0 [.int .i64 0] ⟨zzp, trivial⟩ fun u28 e29 => ?_))))))
 show Value.int _ _ = Value.int _ _
 congr 1
 symm
 have hV : Nt.shV (l.length : Int) S := by have h8 := aa; simp at h8; rw [show ((l.length : Nat) : Int) = (y.n : Int) by omega]; exact h8
 exact Nt.chk_ok hV (fun j hj => hA j xq)
set_option maxHeartbeats 2000000 in
theorem k_r37forward {u w : World} {x y : Sl} {S : List (List Int)} {l : List Int} (d : Dat u w) (hx : IrV 4 u x S) (h9 : S.length ≤ 1000000) (hy : SlR .i64 u y.a y.n y.c l) (hb : ∀ z ∈ l, -9223372036854775808 ≤ z ∧ z ≤ 9223372036854775807) (h8 : l.length ≤ 1000000) : Calls Tryz.prog 59 #[x.v, y.v] w (Post u w fun v u' => ∃ z : Sl, v = .tuple #[z.v, .int .i64 (Nt.chkE S l)] ∧ SlR .i64 u' z.a z.n z.c (Nt.fwdL S l)) := by
 have hlx : x.n = S.length := hx.len
 have hly : l.length = y.n := hy.1
 refine zzl (args := [x.v, y.v]) Tryz.func59 rfl Tryz.ntmps59 (rs := [.tmp 4, .tmp 5]) Tryz.results59 (le_b rfl) (le_b rfl) d ?_
 refine sq9 (zza 4 (.v (.slice none 0 0)) (zza 5 (zI 0) (zzb (zzd (sq9 (zza 9 (.v (x.v)) (zza 10 (.v (y.v)) (zzg 11 130 _ fun _ _ af ay => Post.mono (k_r37check (x := x) (y := y) ay (hx.ext af) xq (hy.ext af) hb xq) ?_))))))))
 rintro _ u12 ap rfl
 refine zza 6 (zI (Nt.chkE S l)) (zzb (sq9 (zza 12 (zI (Nt.chkE S l)) (zza 13 (zB ((Nt.chkE S l) != 0)) (zzb (zzt (b := (Nt.chkE S l) != 0) xj (fun ab => ?_) (fun ab => ?_)))))))
 ·have hE : ¬ Nt.chkE S l = 0 := by simpa using ab
  refine sq9 (zza 14 (zI (Nt.chkE S l)) (zza 4 (.v (.slice none 0 0)) (zza 5 (zI (Nt.chkE S l)) (zzb (zzn (zzv (ret0 [.slice none 0 0, .int .i64 (Nt.chkE S l)] ⟨zzp, zzp, trivial⟩ fun u16 e17 => ?_)))))))
  rw [show Nt.fwdL S l = [] from if_neg hE]
  exact ⟨sl0, rfl, rfl, Nat.le_refl _, Nat.zero_le _, fun h => absurd h (Nat.lt_irrefl 0)⟩
 have hE : Nt.chkE S l = 0 := by simpa using ab
 obtain ⟨hV, hW⟩ := Nt.chk_0 hE
 have hV1 := hV.1
 have hV2 := hV.2.1
 have hV3 := hV.2.2.1
 refine zzr (zzo ?_)
 refine sq9 (sy_dataF 15 ⟨3, []⟩ 0 (fun av aE ao aG aA g18 => ?_))
 have ad : MutQ 1 3 u.heap.size aE (⟨some ⟨av, 0, none⟩, 0, 0⟩ : Sl) (ics []) := MutQ.lit aG rfl yv aA (fun v hv => by cases hv)
 refine zza 16 (.v y.v) ?_
 obtain ⟨b0, o0, hya, hyb, hyc⟩ := (SlR.ext hy (af.trans (ap.ext.trans ao))).2.2.2 xq
 try rw [show y.v = Value.slice y.a y.n y.c from rfl]
 rw [hya]
 refine sy_appQ 17 (T := 30) (E := 3) (z := .int .i64 0) (size := 1) (bytes := 8) (b2 := b0) (off := o0) (m := y.n) (c := y.c) (⟨some ⟨av, 0, none⟩, 0, 0⟩ : Sl) (ics []) (ics l) ad xj xj xj xw (by rw [zwi, hly, Nat.mul_one]) (fun j v hv => by have h9 := (List.getElem?_eq_some_iff.1 hv).1; rw [zwi] at h9; rw [hyc j xq, ← hv, ics_at h9, List.getD_eq_getElem?_getD]) ics_one xq (by unfold maxLen; show 0 + y.n ≤ _; omega) (by show (0 + y.n) * 8 ≤ _; omega) nu_ics (nu_ics (l := [0])) (fun aa aw ak aF am aD => ?_)
 have eR19 := ExtX.root am (MutQ.mutL ad) (af.trans (ap.ext.trans ao))
 have an : MutQ 1 3 u.heap.size aw aa (ics l) := ak
 refine zza 7 (.v (aa.v)) (zzb (zzd (sq9 (zza 8 (zI 0) (zzb (zzs (zym (I := fun ar S' u' => ∃ (i : Nat), (ar = S.length - i) ∧ (i ≤ S.length) ∧ (S' = St.of 31 [(0, .v (x.v)), (7, .v (aa.v)), (8, zI i)] []) ∧ (Ext u u') ∧ (MutQ 1 3 u.heap.size u' aa (ics (Nt.shFs (S.take i) l)))) (fun m S u1 u2 e h => by obtain ⟨i, hm, p0, hS, hE, f0⟩ := h; exact ⟨i, hm, p0, hS, hE.trans e, f0.ext e⟩) _ yz ⟨0, rfl, by omega, rfl, eR19, an⟩ ?_)))))))
 rintro ar _ u20 ⟨i, aH, hi, rfl, ae, f0⟩
 refine zzd (sq9 (zza 18 (zI i) (zza 19 (.v (x.v)) (zza 20 (zI x.n) (zza 21 (zB (decide ((i : Int) < (x.n : Int)))) (zzb (zzt (b := decide ((i : Int) < (x.n : Int))) xj (fun ac => ?_) (fun ac => ?_))))))))
 ·have qhb21 := of_decide_eq_true ac
  refine zzr (zzo ?_)
  refine zzd (zzs (zzf (zza 24 (.v (x.v)) (zza 25 (zI i) ?_))))
  have hl22 := ((hx.ext ae)).len
  obtain ⟨b22, au, aj, al⟩ := ir_at4 (hx.ext ae) (i := i) xq
  refine zzz 26 (au + i * 4) (n := x.n) (off := au) (sz := 4) (i := (i : Int)) xq aj xq xq sl64 (zyl 27 [.int .i64 (gi S i 0), .int .i64 (gi S i 1), .int .i64 (gi S i 2), .int .i64 (gi S i 3)] al ty90 (zza 28 (.v (aa.v)) ?_))
  have hsO := hV.2.2.2 i xq
  rw [row4 hx.rows xq] at hsO
  obtain ⟨tz, htz⟩ : ∃ t : Nat, gi S i 0 = (t : Int) := ⟨(gi S i 0).toNat, by have h9 : 0 ≤ gi S i 0 := hsO.1; omega⟩
  obtain ⟨fz, hfz⟩ : ∃ t : Nat, gi S i 1 = (t : Int) := ⟨(gi S i 1).toNat, by have h9 : 0 ≤ gi S i 1 := hsO.2.2.1; omega⟩
  rw [htz, hfz]
  rw [htz, hfz] at hsO
  obtain ⟨hs1, hs2, hs3, hs4, hs5, hs6, hs7, hs8⟩ := Nt.shOK_mk hsO
  have hp1 := Nt.zxo (gi S i 3)
  have hp2 := Nt.p2i_24 (n := gi S i 3) xq
  have hA23 := f0
  refine zwk (mqB aa []) 29 131 [.agg #[.int .i64 tz, .int .i64 fz, .int .i64 (gi S i 2), .int .i64 (gi S i 3)], aa.v, .int .i64 1] (MutQ.mayF hA23 (Nat.le_refl _)) (fun w23 u23 aq aC => k_r37perform (v0 := u) (n := l.length) (sg := 1) aC (Ext.trans ae aq) (hA23.ext aq) Nt.shFs_len (Nt.shFs_w32 hW) xq hsO xw) (fun v23 aB ah ag => ?_)
  obtain ⟨rfl, ai⟩ := ag
  have eR23 := ExtF.rootL ah hA23 ae
  refine zzw ?_
  refine zzo (zzf (zza 22 (zI i) (zyp 23 (x := zI (IntKind.i64.wrap ((i : Int) + 1))) (zI (i + 1 : Nat)) (eqI xk) (zza 8 (zI (i + 1 : Nat)) (zzw ?_)))))
  have az : Nt.shFs (S.take (i + 1)) l = Nt.shF [(tz : Int), (fz : Int), gi S i 2, gi S i 3] 1 (Nt.shFs (S.take i) l) := by rw [Nt.shFs_snoc S i xq, row4 hx.rows xq, htz, hfz]
  refine ⟨_, ?_, _, by exact zzu _ _ _, i + 1, rfl, by omega, rfl, eR23, (by rw [az]; exact ai)⟩
  omega
 have qhb21 := of_decide_eq_false ac
 refine zyb (zzo (sq9 (zza 30 (.v (aa.v)) (zza 4 (.v (aa.v)) (zza 5 (zI 0) (zzb (zzn (ret0 [aa.v, .int .i64 0] ⟨zzp, zzp, trivial⟩ fun u24 ax => ?_))))))))
 rw [show Nt.fwdL S l = Nt.shFs S l from if_pos hE, hE]
 refine ⟨aa, rfl, ?_⟩
 have h7 := MutQ.slr (f0.ext ax)
 rw [show i = S.length by omega, List.take_length] at h7
 exact h7
set_option maxHeartbeats 2000000 in
theorem k_r37backward {u w : World} {x y : Sl} {S : List (List Int)} {l : List Int} (d : Dat u w) (hx : IrV 4 u x S) (h9 : S.length ≤ 1000000) (hy : SlR .i64 u y.a y.n y.c l) (hb : ∀ z ∈ l, -9223372036854775808 ≤ z ∧ z ≤ 9223372036854775807) (h8 : l.length ≤ 1000000) : Calls Tryz.prog 60 #[x.v, y.v] w (Post u w fun v u' => ∃ z : Sl, v = .tuple #[z.v, .int .i64 (Nt.chkE S l)] ∧ SlR .i64 u' z.a z.n z.c (Nt.bwdL S l)) := by
 have hlx : x.n = S.length := hx.len
 have hly : l.length = y.n := hy.1
 refine zzl (args := [x.v, y.v]) Tryz.func60 rfl Tryz.ntmps60 (rs := [.tmp 4, .tmp 5]) Tryz.results60 (le_b rfl) (le_b rfl) d ?_
 refine sq9 (zza 4 (.v (.slice none 0 0)) (zza 5 (zI 0) (zzb (zzd (sq9 (zza 9 (.v (x.v)) (zza 10 (.v (y.v)) (zzg 11 130 _ fun _ _ af ay => Post.mono (k_r37check (x := x) (y := y) ay (hx.ext af) xq (hy.ext af) hb xq) ?_))))))))
 rintro _ u12 ap rfl
 refine zza 6 (zI (Nt.chkE S l)) (zzb (sq9 (zza 12 (zI (Nt.chkE S l)) (zza 13 (zB ((Nt.chkE S l) != 0)) (zzb (zzt (b := (Nt.chkE S l) != 0) xj (fun ab => ?_) (fun ab => ?_)))))))
 ·have hE : ¬ Nt.chkE S l = 0 := by simpa using ab
  refine sq9 (zza 14 (zI (Nt.chkE S l)) (zza 4 (.v (.slice none 0 0)) (zza 5 (zI (Nt.chkE S l)) (zzb (zzn (zzv (ret0 [.slice none 0 0, .int .i64 (Nt.chkE S l)] ⟨zzp, zzp, trivial⟩ fun u16 e17 => ?_)))))))
  rw [show Nt.bwdL S l = [] from if_neg hE]
  exact ⟨sl0, rfl, rfl, Nat.le_refl _, Nat.zero_le _, fun h => absurd h (Nat.lt_irrefl 0)⟩
 have hE : Nt.chkE S l = 0 := by simpa using ab
 obtain ⟨hV, hW⟩ := Nt.chk_0 hE
 have hV1 := hV.1
 have hV2 := hV.2.1
 have hV3 := hV.2.2.1
 refine zzr (zzo ?_)
 refine sq9 (sy_dataF 15 ⟨3, []⟩ 0 (fun av aE ao aG aA g18 => ?_))
 have ad : MutQ 1 3 u.heap.size aE (⟨some ⟨av, 0, none⟩, 0, 0⟩ : Sl) (ics []) := MutQ.lit aG rfl yv aA (fun v hv => by cases hv)
 refine zza 16 (.v y.v) ?_
 obtain ⟨b0, o0, hya, hyb, hyc⟩ := (SlR.ext hy (af.trans (ap.ext.trans ao))).2.2.2 xq
 try rw [show y.v = Value.slice y.a y.n y.c from rfl]
 rw [hya]
 refine sy_appQ 17 (T := 30) (E := 3) (z := .int .i64 0) (size := 1) (bytes := 8) (b2 := b0) (off := o0) (m := y.n) (c := y.c) (⟨some ⟨av, 0, none⟩, 0, 0⟩ : Sl) (ics []) (ics l) ad xj xj xj xw (by rw [zwi, hly, Nat.mul_one]) (fun j v hv => by have h9 := (List.getElem?_eq_some_iff.1 hv).1; rw [zwi] at h9; rw [hyc j xq, ← hv, ics_at h9, List.getD_eq_getElem?_getD]) ics_one xq (by unfold maxLen; show 0 + y.n ≤ _; omega) (by show (0 + y.n) * 8 ≤ _; omega) nu_ics (nu_ics (l := [0])) (fun aa aw ak aF am aD => ?_)
 have eR19 := ExtX.root am (MutQ.mutL ad) (af.trans (ap.ext.trans ao))
 have an : MutQ 1 3 u.heap.size aw aa (ics l) := ak
 refine zza 7 (.v (aa.v)) (zzb (zzd (sq9 (zza 18 (.v (x.v)) (zza 19 (zI x.n) (zyp 20 (x := zI (IntKind.i64.wrap ((x.n : Int) - 1))) (zI (((S.length : Nat) : Int) - 1)) (by rw [IntWalk.i64_in _ xq, hlx]) (zza 8 (zI (((S.length : Nat) : Int) - 1)) (zzb (zzs (zym (I := fun ar S' u' => ∃ (i : Nat), (ar = i) ∧ (i ≤ S.length) ∧ (S' = St.of 32 [(0, .v (x.v)), (7, .v (aa.v)), (8, zI ((i : Int) - 1))] []) ∧ (Ext u u') ∧ (MutQ 1 3 u.heap.size u' aa (ics (Nt.shBs (S.drop i) l)))) (fun m S u1 u2 e h => by obtain ⟨i, hm, p0, hS, hE, f0⟩ := h; exact ⟨i, hm, p0, hS, hE.trans e, f0.ext e⟩) _ yz ⟨S.length, rfl, Nat.le_refl _, rfl, eR19, (by rw [List.drop_length]; exact an)⟩ ?_))))))))))
 rintro ar _ u20 ⟨i, aH, hi, rfl, ae, f0⟩
 refine zzd (sq9 (zza 21 (zI ((i : Int) - 1)) (zza 22 (zB (decide ((0 : Int) ≤ ((i : Int) - 1)))) (zzb (zzt (b := decide ((0 : Int) ≤ ((i : Int) - 1))) xj (fun ac => ?_) (fun ac => ?_))))))
 ·have qhb21 := of_decide_eq_true ac
  refine zzr (zzo ?_)
  refine zzd (zzs ?_)
  obtain ⟨k, rfl⟩ : ∃ k, i = k + 1 := ⟨i - 1, by omega⟩
  rw [show (((k + 1 : Nat) : Int) - 1) = (k : Int) by omega]
  refine zzf (zza 25 (.v (x.v)) (zza 26 (zI k) ?_))
  have hl22 := ((hx.ext ae)).len
  obtain ⟨b22, au, aj, al⟩ := ir_at4 (hx.ext ae) (i := k) xq
  refine zzz 27 (au + k * 4) (n := x.n) (off := au) (sz := 4) (i := (k : Int)) xq aj xq xq sl64 (zyl 28 [.int .i64 (gi S k 0), .int .i64 (gi S k 1), .int .i64 (gi S k 2), .int .i64 (gi S k 3)] al ty90 (zza 29 (.v (aa.v)) ?_))
  have hsO := hV.2.2.2 k xq
  rw [row4 hx.rows xq] at hsO
  obtain ⟨tz, htz⟩ : ∃ t : Nat, gi S k 0 = (t : Int) := ⟨(gi S k 0).toNat, by have h9 : 0 ≤ gi S k 0 := hsO.1; omega⟩
  obtain ⟨fz, hfz⟩ : ∃ t : Nat, gi S k 1 = (t : Int) := ⟨(gi S k 1).toNat, by have h9 : 0 ≤ gi S k 1 := hsO.2.2.1; omega⟩
  rw [htz, hfz]
  rw [htz, hfz] at hsO
  obtain ⟨hs1, hs2, hs3, hs4, hs5, hs6, hs7, hs8⟩ := Nt.shOK_mk hsO
  have hp1 := Nt.zxo (gi S k 3)
  have hp2 := Nt.p2i_24 (n := gi S k 3) xq
  have hA23 := f0
  refine zwk (mqB aa []) 30 131 [.agg #[.int .i64 tz, .int .i64 fz, .int .i64 (gi S k 2), .int .i64 (gi S k 3)], aa.v, .int .i64 (-1)] (MutQ.mayF hA23 (Nat.le_refl _)) (fun w23 u23 aq aC => k_r37perform (v0 := u) (n := l.length) (sg := (-1)) aC (Ext.trans ae aq) (hA23.ext aq) Nt.shBs_len (Nt.shBs_w32 hW) xq hsO xw) (fun v23 aB ah ag => ?_)
  obtain ⟨rfl, ai⟩ := ag
  have eR23 := ExtF.rootL ah hA23 ae
  refine zzw ?_
  refine zzo (zzf (zza 23 (zI k) (zyp 24 (x := zI (IntKind.i64.wrap ((k : Int) - 1))) (zI ((k : Int) - 1)) yq (zza 8 (zI ((k : Int) - 1)) (zzw ?_)))))
  have az : Nt.shBs (S.drop k) l = Nt.shF [(tz : Int), (fz : Int), gi S k 2, gi S k 3] (-1) (Nt.shBs (S.drop (k + 1)) l) := by rw [Nt.shBs_drop xq, row4 hx.rows xq, htz, hfz]
  refine ⟨_, ?_, _, by exact zzu _ _ _, k, rfl, by omega, rfl, eR23, (by rw [az]; exact ai)⟩
  omega
 have qhb21 := of_decide_eq_false ac
 refine zyb (zzo (sq9 (zza 31 (.v (aa.v)) (zza 4 (.v (aa.v)) (zza 5 (zI 0) (zzb (zzn (ret0 [aa.v, .int .i64 0] ⟨zzp, zzp, trivial⟩ fun u24 ax => ?_))))))))
 rw [show Nt.bwdL S l = Nt.shBs S l from if_pos hE, hE]
 refine ⟨aa, rfl, ?_⟩
 have h7 := MutQ.slr (f0.ext ax)
 rw [show i = 0 by omega, List.drop_zero] at h7
 exact h7
theorem RatsN.fitQ9 {u : World} {L : List RL} {T : List Rat} {K K' : Nat} (h : RatsN u L T K) (k : ∀ i, Nt.rs (T.getD i 0) ≤ K') : RatsN u L T K' := ⟨h.1, fun i hi => (h.2 i hi).fit (k i)⟩
theorem RatsN.up {u : World} {L : List RL} {T : List Rat} {K K' : Nat} (h : RatsN u L T K) (k : K ≤ K') : RatsN u L T K' := ⟨h.1, fun i hi => (h.2 i hi).more k⟩
set_option maxHeartbeats 8000000 in
theorem k_r37spread {u w : World} {x : Sl} {S : List (List Int)} {n : Nat} (d : Dat u w) (hx : IrV 4 u x S) (hV : Nt.shV (n : Int) S) : Calls Tryz.prog 62 #[x.v, .int .i64 (n : Int)] w (Post u w fun v u' => ∃ r : RL, v = .tuple #[r.v, .int .i64 0] ∧ RatN u' r (Nt.mxL (Nt.spL n S)) 100) := by
 have hlx : x.n = S.length := hx.len
 have hV1 := hV.1
 have hV2 := hV.2.1
 have hV3 := hV.2.2.1
 refine zzl (args := [x.v, .int .i64 n]) Tryz.func62 rfl Tryz.ntmps62 (rs := [.cell 4 26, .tmp 5]) Tryz.results62 (le_b rfl) (le_b rfl) d ?_
 refine sq9 (zzj 4 ⟨26, zw3⟩ (zza 5 (zI 0) (zzb (zzd (sq9 (zza 12 (.v (x.v)) (zza 13 (zI n) (zzg 14 65 _ fun _ _ bX cf => Post.mono (k_r37valid (x := x) (n := (n : Int)) cf (hx.ext bX) xq) ?_))))))))
 rintro _ u12 cp rfl
 refine zza 15 (zB (!(decide (Nt.shV (n : Int) S)))) (zzb (zzt (b := !(decide (Nt.shV (n : Int) S))) xj (fun hb => ?_) (fun hb => ?_)))
 ·exact absurd hb (by rw [show (!(decide (Nt.shV (n : Int) S))) = false from (by rw [decide_eq_true hV]; rfl)]; decide)
 clear hb
 refine zzr (zzo ?_)
 refine sq9 (zza 6 (.v (.slice none 0 0)) (zzb (zzd (sq9 (zza 7 (zI 0) (zzb (zzs (zym (I := fun cd S' u' => ∃ (i : Nat) (z : Sl) (L : List RL), (cd = n - i) ∧ (i ≤ n) ∧ (S' = St.of 124 [(0, .v (x.v)), (1, zI n), (4, .adr 4 0), (6, .v (z.v)), (7, zI i)] [(4, ⟨26, zw3⟩)]) ∧ (Ext u u') ∧ (MutQ (1 * 3) 26 u.heap.size u' z (rcs L)) ∧ (RatsN u' L ((List.replicate n (0 : Rat)).take i) 100)) (fun m S u1 u2 e h => by obtain ⟨i, z, L, hm, p0, hS, hE, f0, f1⟩ := h; exact ⟨i, z, L, hm, p0, hS, hE.trans e, f0.ext e, f1.ext e⟩) _ yz ⟨0, sl0, [], rfl, by omega, rfl, (bX.trans cp.ext), (MutQ.nil _ _ _ _), (by rw [List.take_zero]; exact ⟨rfl, fun k hk => absurd hk (Nat.not_lt_zero k)⟩)⟩ ?_))))))))
 rintro cd _ u15 ⟨i, z, L, cH, hi, rfl, bY, f0, f1⟩
 have hzL := MutQ.rown f0
 have hLi : L.length = i := by rw [f1.1, List.length_take, List.length_replicate]; omega
 refine zzd (sq9 (zza 17 (zI i) (zza 18 (zI n) (zza 19 (zB (decide ((i : Int) < (n : Int)))) (zzb (zzt (b := decide ((i : Int) < (n : Int))) xj (fun aS => ?_) (fun aS => ?_)))))))
 ·have qhb16 := of_decide_eq_true aS
  refine zzr (zzo ?_)
  refine zzd (zzs (zzf (zza 22 (.v (z.v)) (zzg 23 30 _ fun _ _ bt ct => Post.mono (k_rqOf ct (z := 0) xq xq) ?_))))
  rintro _ u20 bO ⟨ax, rfl, b1⟩
  refine zxw 24 ⟨26, ax.cs⟩ 1 (fun b6 cz be b8 => ?_)
  have cq : PolN cz (⟨some ⟨b6, 0, none⟩, 1, 1⟩ : Sl) [((0 : Int) : Rat)] 2 := pol_lit (L := [ax]) b8 (rats1 (b1.ext be)) rfl xw
  have hz28 := (f0.ext (bt.trans (bO.ext.trans be)))
  refine sy_appQ 25 (T := 54) (E := 26) (z := .agg #[.bool false, .slice none 0 0, .slice none 0 0]) (size := 3) (bytes := 56) (b2 := b6) (off := 0) (m := 1) z (rcs L) ax.cs hz28 xj xj xj xw rfl (lit_news ((Ext.refl _).cells b8)) (rl_one ax) xw yv xq (nu_rl ax) nu_zrat (fun bC cF bD ci aQ cE => ?_)
  have bS : MutQ (1 * 3) 26 u.heap.size cF bC (rcs (L ++ [ax])) := by rw [rcs_app, show rcs [ax] = ax.cs from by simp [rcs]]; exact bD
  have eR29 := ExtX.root aQ (MutQ.mutL hz28) (bY.trans (bt.trans (bO.ext.trans be)))
  refine zza 6 (.v (bC.v)) (zzw ?_)
  refine zzo (zzf (zza 20 (zI i) (zyp 21 (x := zI (IntKind.i64.wrap ((i : Int) + 1))) (zI (i + 1 : Nat)) (eqI xk) (zza 7 (zI (i + 1 : Nat)) (zzw ?_)))))
  refine ⟨_, ?_, _, by exact zzu _ _ _, i + 1, bC, (L ++ [ax]), rfl, by omega, rfl, eR29, (MutQ.ext bS (Ext.refl _)), ((app_next (MutQ.keeps hz28 aQ (f1.ext (bt.trans (bO.ext.trans be)))) (MutQ.keep hz28 aQ (RatN.more (K := 2) (b1.ext be) xq)) (by rw [List.length_replicate]; omega) (by rw [Nt.rep0_at]; rfl)).ext (Ext.refl _))⟩
  omega
 have qhb16 := of_decide_eq_false aS
 refine zyb (zzo (zzd (zzd ?_)))
 have hz0 := f0
 have hzn : z.n = n := by omega
 refine zzf (zza 8 (zI 0) (zzb (zzs (zym (I := fun b3 S' u' => ∃ (k : Nat) (Lq : List RL), (b3 = S.length - k) ∧ (k ≤ S.length) ∧ (Lq.length = n) ∧ (S' = St.of 124 [(0, .v (x.v)), (1, zI n), (4, .adr 4 0), (6, .v (z.v)), (8, zI k)] [(4, ⟨26, zw3⟩)]) ∧ (Ext u u') ∧ (MutQ (1 * 3) 26 u.heap.size u' z (rcs Lq)) ∧ (RatsN u' Lq (Nt.spL n (S.take k)) 100)) (fun m S u1 u2 e h => by obtain ⟨k, Lq, hm, p0, p1, hS, hE, f0, f1⟩ := h; exact ⟨k, Lq, hm, p0, p1, hS, hE.trans e, f0.ext e, f1.ext e⟩) _ yz ⟨0, L, rfl, by omega, by omega, rfl, bY, f0, (by rw [List.take_zero, Nt.spL_nil]; have h9 := f1; rw [List.take_of_length_le (by rw [List.length_replicate]; omega)] at h9; exact h9)⟩ ?_))))
 rintro b3 _ b5 ⟨k, Lq, cB, hk, hLl, rfl, aV, g0, g1⟩
 have hEl : (Nt.spL n (S.take k)).length = n := Nt.spL_len
 refine zzd (sq9 (zza 26 (zI k) (zza 27 (.v (x.v)) (zza 28 (zI x.n) (zza 29 (zB (decide ((k : Int) < (x.n : Int)))) (zzb (zzt (b := decide ((k : Int) < (x.n : Int))) xj (fun aP => ?_) (fun aP => ?_))))))))
 ·have qhb31 := of_decide_eq_true aP
  refine zzr (zzo ?_)
  refine zzd (zzs (sq9 (zza 32 (.v (x.v)) (zza 33 (zI k) ?_))))
  have hl32 := ((hx.ext aV)).len
  obtain ⟨b32, b0, bF, bN⟩ := ir_at4 (hx.ext aV) (i := k) xq
  refine zzz 34 (b0 + k * 4) (n := x.n) (off := b0) (sz := 4) (i := (k : Int)) xq bF xq xq sl64 (zyl 35 [.int .i64 (gi S k 0), .int .i64 (gi S k 1), .int .i64 (gi S k 2), .int .i64 (gi S k 3)] bN ty90 (zzj 9 ⟨90, [.int .i64 0, .int .i64 0, .int .i64 0, .int .i64 0]⟩ (zzi ⟨90, [.int .i64 (gi S k 0), .int .i64 (gi S k 1), .int .i64 (gi S k 2), .int .i64 (gi S k 3)]⟩ ty90 ?_)))
  refine zzb (zzd (zzd ?_))
  have hsO := hV.2.2.2 k xq
  rw [row4 hx.rows xq] at hsO
  obtain ⟨tz, htz⟩ : ∃ t : Nat, gi S k 0 = (t : Int) := ⟨(gi S k 0).toNat, by have h9 : 0 ≤ gi S k 0 := hsO.1; omega⟩
  obtain ⟨fz, hfz⟩ : ∃ t : Nat, gi S k 1 = (t : Int) := ⟨(gi S k 1).toNat, by have h9 : 0 ≤ gi S k 1 := hsO.2.2.1; omega⟩
  rw [htz, hfz]
  rw [htz, hfz] at hsO
  obtain ⟨hs1, hs2, hs3, hs4, hs5, hs6, hs7, hs8⟩ := Nt.shOK_mk hsO
  have hp1 := Nt.zxo (gi S k 3)
  have hp2 := Nt.p2i_24 (n := gi S k 3) xq
  refine zzf (zza 36 (.adr 9 3) (zzh 37 (zI (gi S k 3)) ty3 zzk (zza 38 (zB ((gi S k 3) == (-1))) (zzb (zzt (b := (gi S k 3) == (-1)) xj (fun aL => ?_) (fun aL => ?_))))))
  ·have ac : (gi S k 3) = (-1) := by simpa using aL
   refine sw_anyX xj 20 rfl ?_
   refine takeX 3 42 19 (.v (z.v)) #[false, false, false, true, false, false, false, false, false, false, false, false, false, false, false, false, false, false, false, false] ?_
   refine takeXa 4 43 18 9 0 1 #[false, false, false, true, true, false, false, false, false, false, false, false, false, false, false, false, false, false, false, false] ?_
   refine restX [0, 0, 2, 0, 0, 16, 0, 0, 128, 448, 960, 0, 0, 4096, 14336, 30720, 65479, 131015, 262143, 524287] [(0, []), (1, []), (2, []), (6, []), (7, []), (8, []), (9, []), (10, []), (11, []), (12, []), (13, []), (14, []), (15, []), (16, [])] [(5, [])] (17, []) [(18, []), (19, [])] xj ?_
   refine zza 39 (.v (z.v)) (zza 40 (.adr 9 0) (zzh 41 (zI tz) ty3 zzk (zza 45 (.v (z.v)) (zza 46 (.adr 9 1) (zzh 47 (zI fz) ty3 zzk ?_)))))
   obtain ⟨b34, bs, bc⟩ := MutQ.el1 (j := fz) g0 xq
   refine zzz 48 (0 + fz * 3) (n := z.n) (off := 0) (sz := 3) (i := (fz : Int)) xq bs xq xq sl54 ?_
   obtain ⟨ae, a5⟩ : ∃ r : RL, Lq.getD fz rl0 = r := ⟨_, rfl⟩
   rw [a5] at bc
   have hv37 := (g1.2 fz xq)
   rw [a5] at hv37
   refine zyl 49 (ae.cs) bc ty26 (zza 50 (.v (z.v)) (zza 51 (.adr 9 0) (zzh 52 (zI tz) ty3 zzk ?_)))
   obtain ⟨b38, bR, bi⟩ := MutQ.el1 (j := tz) g0 xq
   refine zzz 53 (0 + tz * 3) (n := z.n) (off := 0) (sz := 3) (i := (tz : Int)) xq bR xq xq sl54 ?_
   obtain ⟨ah, a0⟩ : ∃ r : RL, Lq.getD tz rl0 = r := ⟨_, rfl⟩
   rw [a0] at bi
   have hv41 := (g1.2 tz xq)
   rw [a0] at hv41
   refine zyl 54 (ah.cs) bi ty26 ?_
   obtain ⟨b42, aT, cJ⟩ := MutQ.el1 (j := tz) g0 xq
   refine zzz 55 (0 + tz * 3) (n := z.n) (off := 0) (sz := 3) (i := (tz : Int)) xq aT xq xq sl54 (zzw ?_)
   refine exitsK_both ?_ ?_
   ·skip
    have hq43 := g0
    refine sy_storeQ (v := ae.v) (off := 0 + tz * 3) (n := 3) z hq43 (fun a ha => .inl (MutQ.blk hz0 ha)) aT ty26 (by rw [zyx]; have h9 : _ := xq; omega) (nu_rl ae) (fun cL bJ ar => ?_)
    have a8 : MutQ (1 * 3) 26 u.heap.size cL z (rcs (Lq.set tz ae)) := by rw [← zyw (off := 0 + tz * 3) xq xq]; exact bJ
    have eX43r := ExtX.root ar (MutQ.mutL hq43) aV
    have hR44 := rats_set (j := tz) (MutQ.keeps hq43 ar (RatsN.up (K' := 800) g1 xq)) xq (RatN.more (K := 100) (MutQ.keep hq43 ar hv37) xq)
    have br : ((Nt.spL n (S.take k)).set tz ((Nt.spL n (S.take k)).getD fz 0)).length = n := by rw [List.length_set]; exact hEl
    have a4 : (Lq.set tz ae).length = n := by rw [List.length_set]; exact hLl
    have hko45 := MutQ.keep hq43 ar hv41
    refine zzh 44 (zI fz) ty3 zzk ?_
    obtain ⟨b46, aX, ck⟩ := MutQ.el1 (j := fz) a8 xq
    refine zzz 56 (0 + fz * 3) (n := z.n) (off := 0) (sz := 3) (i := (fz : Int)) xq aX xq xq sl54 ?_
    have hq47 := a8
    refine sy_storeQ (v := ah.v) (off := 0 + fz * 3) (n := 3) z hq47 (fun a ha => .inl (MutQ.blk hz0 ha)) aX ty26 (by rw [zyx]; have h9 : _ := xq; omega) (nu_rl ah) (fun bV bx aJ => ?_)
    have bu : MutQ (1 * 3) 26 u.heap.size bV z (rcs ((Lq.set tz ae).set fz ah)) := by rw [← zyw (off := 0 + fz * 3) xq xq]; exact bx
    have eX47r := ExtX.root aJ (MutQ.mutL hq47) eX43r
    have hR48 := rats_set (j := fz) (MutQ.keeps hq47 aJ (RatsN.up (K' := 1500) hR44 xq)) xq (RatN.more (K := 100) (MutQ.keep hq47 aJ hko45) xq)
    have b7 : (((Nt.spL n (S.take k)).set tz ((Nt.spL n (S.take k)).getD fz 0)).set fz ((Nt.spL n (S.take k)).getD tz 0)).length = n := by rw [List.length_set]; exact br
    have bp : ((Lq.set tz ae).set fz ah).length = n := by rw [List.length_set]; exact a4
    refine zzb (sq9 (zza 57 (.adr 9 3) (zzh 58 (zI (gi S k 3)) ty3 zzk (zza 59 (zB (decide ((0 : Int) ≤ (gi S k 3)))) (zzc 124 [(0, .v (x.v)), (1, zI n), (4, .adr 4 0), (6, .v (z.v)), (8, zI k), (9, .adr 9 0), (59, zB (decide ((0 : Int) ≤ (gi S k 3))))] [(4, ⟨26, zw3⟩), (9, ⟨90, [.int .i64 tz, .int .i64 fz, .int .i64 (gi S k 2), .int .i64 (gi S k 3)]⟩)] (zzt (b := decide ((0 : Int) ≤ (gi S k 3))) xj (fun hb => ?_) (fun hb => ?_)))))))
    ·exact absurd hb (by rw [show (decide ((0 : Int) ≤ (gi S k 3))) = false from decide_eq_false xq]; decide)
    clear hb
    refine zzr (zzo ?_)
    refine zzf (zza 30 (zI k) (zyp 31 (x := zI (IntKind.i64.wrap ((k : Int) + 1))) (zI (k + 1 : Nat)) (eqI xk) (zza 8 (zI (k + 1 : Nat)) (zzw ?_))))
    have hst : Nt.spL n (S.take (k + 1)) = Nt.spF [(tz : Int), (fz : Int), gi S k 2, gi S k 3] (Nt.spL n (S.take k)) := by rw [Nt.spL_snoc k xq, row4 hx.rows xq, htz, hfz]
    have hrs9 := Nt.spL_rs hV.2.2.2 hx.rows xq (k + 1) xq
    rw [Nt.spF_x ac] at hst
    have av : RatsN bV ((Lq.set tz ae).set fz ah) (Nt.spL n (S.take (k + 1))) 1500 := by rw [hst]; exact RatsN.up hR48 xq
    refine ⟨_, ?_, _, by exact zzu _ _ _, k + 1, ((Lq.set tz ae).set fz ah), rfl, by omega, bp, rfl, eX47r, bu, (RatsN.fitQ9 av hrs9)⟩
    omega
   refine zzh 44 (zI fz) ty3 zzk (zzw ?_)
   refine exitsK_last ?_
   have hq49 := g0
   refine sy_storeQ (v := ae.v) (off := 0 + tz * 3) (n := 3) z hq49 (fun a ha => .inl (MutQ.blk hz0 ha)) aT ty26 (by rw [zyx]; have h9 : _ := xq; omega) (nu_rl ae) (fun cD bI aw => ?_)
   have bf : MutQ (1 * 3) 26 u.heap.size cD z (rcs (Lq.set tz ae)) := by rw [← zyw (off := 0 + tz * 3) xq xq]; exact bI
   have eX49r := ExtX.root aw (MutQ.mutL hq49) aV
   have hR50 := rats_set (j := tz) (MutQ.keeps hq49 aw (RatsN.up (K' := 800) g1 xq)) xq (RatN.more (K := 100) (MutQ.keep hq49 aw hv37) xq)
   have bo : ((Nt.spL n (S.take k)).set tz ((Nt.spL n (S.take k)).getD fz 0)).length = n := by rw [List.length_set]; exact hEl
   have bn : (Lq.set tz ae).length = n := by rw [List.length_set]; exact hLl
   have hko51 := MutQ.keep hq49 aw hv41
   obtain ⟨b52, bl, cl⟩ := MutQ.el1 (j := fz) bf xq
   refine zzz 56 (0 + fz * 3) (n := z.n) (off := 0) (sz := 3) (i := (fz : Int)) xq bl xq xq sl54 ?_
   have hq53 := bf
   refine sy_storeQ (v := ah.v) (off := 0 + fz * 3) (n := 3) z hq53 (fun a ha => .inl (MutQ.blk hz0 ha)) bl ty26 (by rw [zyx]; have h9 : _ := xq; omega) (nu_rl ah) (fun b4 bL aO => ?_)
   have bB : MutQ (1 * 3) 26 u.heap.size b4 z (rcs ((Lq.set tz ae).set fz ah)) := by rw [← zyw (off := 0 + fz * 3) xq xq]; exact bL
   have eX53r := ExtX.root aO (MutQ.mutL hq53) eX49r
   have hR54 := rats_set (j := fz) (MutQ.keeps hq53 aO (RatsN.up (K' := 1500) hR50 xq)) xq (RatN.more (K := 100) (MutQ.keep hq53 aO hko51) xq)
   have bZ : (((Nt.spL n (S.take k)).set tz ((Nt.spL n (S.take k)).getD fz 0)).set fz ((Nt.spL n (S.take k)).getD tz 0)).length = n := by rw [List.length_set]; exact bo
   have aY : ((Lq.set tz ae).set fz ah).length = n := by rw [List.length_set]; exact bn
   refine zzb (sq9 (zza 57 (.adr 9 3) (zzh 58 (zI (gi S k 3)) ty3 zzk (zza 59 (zB (decide ((0 : Int) ≤ (gi S k 3)))) (zzc 124 [(0, .v (x.v)), (1, zI n), (4, .adr 4 0), (6, .v (z.v)), (8, zI k), (9, .adr 9 0), (59, zB (decide ((0 : Int) ≤ (gi S k 3))))] [(4, ⟨26, zw3⟩), (9, ⟨90, [.int .i64 tz, .int .i64 fz, .int .i64 (gi S k 2), .int .i64 (gi S k 3)]⟩)] (zzt (b := decide ((0 : Int) ≤ (gi S k 3))) xj (fun hb => ?_) (fun hb => ?_)))))))
   ·exact absurd hb (by rw [show (decide ((0 : Int) ≤ (gi S k 3))) = false from decide_eq_false xq]; decide)
   clear hb
   refine zzr (zzo ?_)
   refine zzf (zza 30 (zI k) (zyp 31 (x := zI (IntKind.i64.wrap ((k : Int) + 1))) (zI (k + 1 : Nat)) (eqI xk) (zza 8 (zI (k + 1 : Nat)) (zzw ?_))))
   have hst : Nt.spL n (S.take (k + 1)) = Nt.spF [(tz : Int), (fz : Int), gi S k 2, gi S k 3] (Nt.spL n (S.take k)) := by rw [Nt.spL_snoc k xq, row4 hx.rows xq, htz, hfz]
   have hrs9 := Nt.spL_rs hV.2.2.2 hx.rows xq (k + 1) xq
   rw [Nt.spF_x ac] at hst
   have av : RatsN b4 ((Lq.set tz ae).set fz ah) (Nt.spL n (S.take (k + 1))) 1500 := by rw [hst]; exact RatsN.up hR54 xq
   refine ⟨_, ?_, _, by exact zzu _ _ _, k + 1, ((Lq.set tz ae).set fz ah), rfl, by omega, aY, rfl, eX53r, bB, (RatsN.fitQ9 av hrs9)⟩
   omega
  have ac : ¬ (gi S k 3) = (-1) := by simpa using aL
  refine zzr (zzo ?_)
  refine sq9 (zza 57 (.adr 9 3) (zzh 58 (zI (gi S k 3)) ty3 zzk (zza 59 (zB (decide ((0 : Int) ≤ (gi S k 3)))) (zzb (zzt (b := decide ((0 : Int) ≤ (gi S k 3))) xj (fun aM => ?_) (fun aM => ?_))))))
  ·have qhb55 := of_decide_eq_true aM
   refine zzd (sw_anyC [0, 0, 2, 0, 0, 16, 56, 120, 0, 256, 0, 1024, 3072, 7936, 0, 16384, 49152, 114688, 261888, 0, 0, 1048576, 3670016, 7864320, 16776960, 33554424, 67108863, 134217727] [(0, []), (1, []), (2, []), (3, []), (4, []), (5, []), (6, []), (7, []), (8, []), (9, []), (10, []), (11, []), (12, []), (13, []), (14, []), (15, []), (16, []), (17, []), (19, []), (20, []), (21, []), (22, []), (23, []), (18, []), (24, []), (25, [])] [(26, []), (27, [])] xj xj xj ?_)
   refine zza 60 (.v (z.v)) (zza 61 (.adr 9 0) (zzh 62 (zI tz) ty3 zzk (zza 63 (.v (z.v)) (zza 64 (.adr 9 0) (zzh 65 (zI tz) ty3 zzk ?_)))))
   obtain ⟨b56, bE, aZ⟩ := MutQ.el1 (j := tz) g0 xq
   refine zzz 66 (0 + tz * 3) (n := z.n) (off := 0) (sz := 3) (i := (tz : Int)) xq bE xq xq sl54 ?_
   obtain ⟨cK, a9⟩ : ∃ r : RL, Lq.getD tz rl0 = r := ⟨_, rfl⟩
   rw [a9] at aZ
   have hv59 := (g1.2 tz xq)
   rw [a9] at hv59
   refine zyl 67 (cK.cs) aZ ty26 (zza 68 (.adr 9 2) (zzh 69 (zI (gi S k 2)) ty3 zzk (zza 70 (.adr 9 2) (zzh 71 (zI (gi S k 2)) ty3 zzk (zyp 72 (x := zI (IntKind.i64.wrap (0 - (gi S k 2)))) (zI (-(gi S k 2))) (eqI xk) (sy_maxN 73 (n := gi S k 2) (m := -(gi S k 2)) (v := ((gi S k 2).natAbs : Int)) (by split <;> omega) ?_))))))
   refine zza 74 (.adr 9 3) (zzh 75 (zI (gi S k 3)) ty3 zzk (sy_conv 76 (gi S k 3) (fun w => by kernel_rfl) (IntWalk.u64_in _ xq) ?_))
   refine sy_shl 77 (k := .i64) (s := gi S k 3) (Nt.p2i (gi S k 3)) xq yw (shl_one xq xq) ?_
   refine zza 79 (.v (z.v)) (zza 80 (.adr 9 1) (zzh 81 (zI fz) ty3 zzk ?_))
   obtain ⟨b60, bH, a7⟩ := MutQ.el1 (j := fz) g0 xq
   refine zzz 82 (0 + fz * 3) (n := z.n) (off := 0) (sz := 3) (i := (fz : Int)) xq bH xq xq sl54 ?_
   obtain ⟨cI, bm⟩ : ∃ r : RL, Lq.getD fz rl0 = r := ⟨_, rfl⟩
   rw [bm] at a7
   have hv63 := (g1.2 fz xq)
   rw [bm] at hv63
   refine zyl 83 (cI.cs) a7 ty26 (zzg 78 75 _ fun _ _ aF cn => Post.mono (k_rqFrac cn (a := ((gi S k 2).natAbs : Int)) (b := Nt.p2i (gi S k 3)) xq xq xq xq) ?_)
   rintro _ u67 aG ⟨r65, rfl, cb⟩
   refine zzg 84 25 _ fun _ _ ap cG => Post.mono (k_rqMul cG (cb.ext ap).raw (hv63.ext (aF.trans (aG.ext.trans ap))).raw xq xq) ?_
   rintro _ u73 aB ⟨r71, rfl, cc⟩
   refine zzg 85 57 _ fun _ _ ao cm => Post.mono (k_rqAdd cm (hv59.ext (aF.trans (aG.ext.trans (ap.trans (aB.ext.trans ao))))).raw (cc.ext ao).raw xq xq) ?_
   rintro _ u79 aI ⟨am, rfl, cA⟩
   refine zzw ?_
   obtain ⟨b82, a6, cu⟩ := MutQ.el1 (j := tz) (g0.ext (aF.trans (aG.ext.trans (ap.trans (aB.ext.trans (ao.trans aI.ext)))))) xq
   refine zzz 86 (0 + tz * 3) (n := z.n) (off := 0) (sz := 3) (i := (tz : Int)) xq a6 xq xq sl54 ?_
   have hq83 := (g0.ext (aF.trans (aG.ext.trans (ap.trans (aB.ext.trans (ao.trans aI.ext))))))
   refine sy_storeQ (v := am.v) (off := 0 + tz * 3) (n := 3) z hq83 (fun a ha => .inl (MutQ.blk hz0 ha)) a6 ty26 (by rw [zyx]; have h9 : _ := xq; omega) (nu_rl am) (fun b9 bA af => ?_)
   have au : MutQ (1 * 3) 26 u.heap.size b9 z (rcs (Lq.set tz am)) := by rw [← zyw (off := 0 + tz * 3) xq xq]; exact bA
   have eX83r := ExtX.root af (MutQ.mutL hq83) (aV.trans (aF.trans (aG.ext.trans (ap.trans (aB.ext.trans (ao.trans aI.ext))))))
   have hR84 := rats_set (j := tz) (MutQ.keeps hq83 af (RatsN.up (K' := 800) (g1.ext (aF.trans (aG.ext.trans (ap.trans (aB.ext.trans (ao.trans aI.ext)))))) xq)) xq (RatN.more (K := (100 + (3 + 100 + 1) + 2)) (MutQ.keep hq83 af cA) xq)
   have bq : ((Nt.spL n (S.take k)).set tz (((Nt.spL n (S.take k)).getD tz 0) + ((((((gi S k 2).natAbs : Int) : Int) : Rat) / ((Nt.p2i (gi S k 3) : Int) : Rat)) * ((Nt.spL n (S.take k)).getD fz 0)))).length = n := by rw [List.length_set]; exact hEl
   have aD : (Lq.set tz am).length = n := by rw [List.length_set]; exact hLl
   have hko85 := MutQ.keep hq83 af (hv59.ext (aF.trans (aG.ext.trans (ap.trans (aB.ext.trans (ao.trans aI.ext))))))
   have hko86 := MutQ.keep hq83 af (hv63.ext (aF.trans (aG.ext.trans (ap.trans (aB.ext.trans (ao.trans aI.ext))))))
   have hko87 := MutQ.keep hq83 af (cb.ext (ap.trans (aB.ext.trans (ao.trans aI.ext))))
   have hko88 := MutQ.keep hq83 af (cc.ext (ao.trans aI.ext))
   refine zzc 124 [(0, .v (x.v)), (1, zI n), (4, .adr 4 0), (6, .v (z.v)), (8, zI k), (9, .adr 9 0)] [(4, ⟨26, zw3⟩), (9, ⟨90, [.int .i64 tz, .int .i64 fz, .int .i64 (gi S k 2), .int .i64 (gi S k 3)]⟩)] (sq9 (zza 87 (.adr 9 2) (zzh 88 (zI (gi S k 2)) ty3 zzk (zza 89 (.adr 9 3) (zzh 90 (zI (gi S k 3)) ty3 zzk (sy_conv 91 (gi S k 3) (fun w => by kernel_rfl) (IntWalk.u64_in _ xq) ?_))))))
   refine sy_shl 92 (k := .i64) (s := gi S k 3) (Nt.p2i (gi S k 3)) xq yw (shl_one xq xq) ?_
   refine sy_rem 93 (n := gi S k 2) (m := Nt.p2i (gi S k 3)) ((gi S k 2).tmod (Nt.p2i (gi S k 3))) xq rfl ?_
   refine zza 94 (zB (((gi S k 2).tmod (Nt.p2i (gi S k 3))) != 0)) (zzb (zzt (b := ((gi S k 2).tmod (Nt.p2i (gi S k 3))) != 0) xj (fun aN => ?_) (fun aN => ?_)))
   ·refine sw_anyC [0, 0, 2, 0, 0, 16, 56, 120, 0, 504, 1023, 2047] [(0, []), (1, []), (2, []), (3, []), (4, []), (5, []), (6, []), (7, []), (8, []), (9, [])] [(10, []), (11, [])] xj xj xj ?_
    refine zza 95 (.v (z.v)) (zza 96 (.adr 9 0) (zzh 97 (zI tz) ty3 zzk (zza 98 (.v (z.v)) (zza 99 (.adr 9 0) (zzh 100 (zI tz) ty3 zzk ?_)))))
    obtain ⟨b90, bT, bj⟩ := MutQ.el1 (j := tz) au xq
    refine zzz 101 (0 + tz * 3) (n := z.n) (off := 0) (sz := 3) (i := (tz : Int)) xq bT xq xq sl54 ?_
    obtain ⟨cy, bk⟩ : ∃ r : RL, (Lq.set tz am).getD tz rl0 = r := ⟨_, rfl⟩
    rw [bk] at bj
    have hv93 := (by have h9 := (hR84.2 tz xq); rewrite [Nt.getD_setQ, if_pos ⟨rfl, by omega⟩] at h9; exact h9)
    rw [bk] at hv93
    refine zyl 102 (cy.cs) bj ty26 (zzg 103 75 _ fun _ _ aU cj => Post.mono (k_rqFrac cj (a := 1) (b := 2) xq xq xq xq) ?_)
    rintro _ u97 aW ⟨r95, rfl, ce⟩
    refine zzg 104 57 _ fun _ _ ab bz => Post.mono (k_rqAdd bz (hv93.ext (aU.trans (aW.ext.trans ab))).raw (ce.ext ab).raw xq xq) ?_
    rintro _ cr ak ⟨ai, rfl, bv⟩
    refine zzw ?_
    obtain ⟨cg, aC, ca⟩ := MutQ.el1 (j := tz) (au.ext (aU.trans (aW.ext.trans (ab.trans ak.ext)))) xq
    refine zzz 105 (0 + tz * 3) (n := z.n) (off := 0) (sz := 3) (i := (tz : Int)) xq aC xq xq sl54 ?_
    have hq107 := (au.ext (aU.trans (aW.ext.trans (ab.trans ak.ext))))
    refine sy_storeQ (v := ai.v) (off := 0 + tz * 3) (n := 3) z hq107 (fun a ha => .inl (MutQ.blk hz0 ha)) aC ty26 (by rw [zyx]; have h9 : _ := xq; omega) (nu_rl ai) (fun a1 a2 ad => ?_)
    have bg : MutQ (1 * 3) 26 u.heap.size a1 z (rcs ((Lq.set tz am).set tz ai)) := by rw [← zyw (off := 0 + tz * 3) xq xq]; exact a2
    have eX107r := ExtX.root ad (MutQ.mutL hq107) (eX83r.trans (aU.trans (aW.ext.trans (ab.trans ak.ext))))
    have hR108 := rats_set (j := tz) (MutQ.keeps hq107 ad (RatsN.up (K' := 1500) (hR84.ext (aU.trans (aW.ext.trans (ab.trans ak.ext)))) xq)) xq (RatN.more (K := (800 + 3 + 2)) (MutQ.keep hq107 ad bv) xq)
    have bG : (((Nt.spL n (S.take k)).set tz (((Nt.spL n (S.take k)).getD tz 0) + ((((((gi S k 2).natAbs : Int) : Int) : Rat) / ((Nt.p2i (gi S k 3) : Int) : Rat)) * ((Nt.spL n (S.take k)).getD fz 0)))).set tz ((((Nt.spL n (S.take k)).getD tz 0) + ((((((gi S k 2).natAbs : Int) : Int) : Rat) / ((Nt.p2i (gi S k 3) : Int) : Rat)) * ((Nt.spL n (S.take k)).getD fz 0))) + (((1 : Int) : Rat) / ((2 : Int) : Rat)))).length = n := by rw [List.length_set]; exact bq
    have aK : ((Lq.set tz am).set tz ai).length = n := by rw [List.length_set]; exact aD
    have hko109 := MutQ.keep hq107 ad (hv93.ext (aU.trans (aW.ext.trans (ab.trans ak.ext))))
    have hko110 := MutQ.keep hq107 ad (ce.ext (ab.trans ak.ext))
    refine zzw ?_
    refine zzo (zzf (zza 30 (zI k) (zyp 31 (x := zI (IntKind.i64.wrap ((k : Int) + 1))) (zI (k + 1 : Nat)) (eqI xk) (zza 8 (zI (k + 1 : Nat)) (zzw ?_)))))
    have hst : Nt.spL n (S.take (k + 1)) = Nt.spF [(tz : Int), (fz : Int), gi S k 2, gi S k 3] (Nt.spL n (S.take k)) := by rw [Nt.spL_snoc k xq, row4 hx.rows xq, htz, hfz]
    have hrs9 := Nt.spL_rs hV.2.2.2 hx.rows xq (k + 1) xq
    rw [Nt.spF_s ac (show ¬ gi S k 3 = -2 by omega)] at hst
    have hrm : ¬ (gi S k 2).tmod (Nt.p2i (gi S k 3)) = 0 := by have h9 := aN; simpa using h9
    have av : RatsN a1 ((Lq.set tz am).set tz ai) (Nt.spL n (S.take (k + 1))) 1500 := by rw [hst]; unfold Nt.spG; rw [Nt.absQ_wq xq, if_neg hrm]; have h9 := RatsN.up (K' := 1500) hR108 xq; rw [show ∀ (E : List Rat) (a b : Rat), (E.set tz a).set tz b = E.set tz b from fun E a b => List.set_set ..] at h9; rw [← Rat.add_assoc]; exact h9
    refine ⟨_, ?_, _, by exact zzu _ _ _, k + 1, ((Lq.set tz am).set tz ai), rfl, by omega, aK, rfl, eX107r, bg, (RatsN.fitQ9 av hrs9)⟩
    omega
   refine zzr (zzo ?_)
   refine zzf (zza 30 (zI k) (zyp 31 (x := zI (IntKind.i64.wrap ((k : Int) + 1))) (zI (k + 1 : Nat)) (eqI xk) (zza 8 (zI (k + 1 : Nat)) (zzw ?_))))
   have hst : Nt.spL n (S.take (k + 1)) = Nt.spF [(tz : Int), (fz : Int), gi S k 2, gi S k 3] (Nt.spL n (S.take k)) := by rw [Nt.spL_snoc k xq, row4 hx.rows xq, htz, hfz]
   have hrs9 := Nt.spL_rs hV.2.2.2 hx.rows xq (k + 1) xq
   rw [Nt.spF_s ac (show ¬ gi S k 3 = -2 by omega)] at hst
   have hrm : (gi S k 2).tmod (Nt.p2i (gi S k 3)) = 0 := by have h9 := aN; simpa using h9
   have av : RatsN b9 (Lq.set tz am) (Nt.spL n (S.take (k + 1))) 1500 := by rw [hst]; unfold Nt.spG; rw [Nt.absQ_wq xq, if_pos hrm]; have h9 := RatsN.up (K' := 1500) hR84 xq; rw [Rat.add_zero]; exact h9
   refine ⟨_, ?_, _, by exact zzu _ _ _, k + 1, (Lq.set tz am), rfl, by omega, aD, rfl, eX83r, au, (RatsN.fitQ9 av hrs9)⟩
   omega
  have qhb55 := of_decide_eq_false aM
  refine zzr (zzo ?_)
  refine zzf (zza 30 (zI k) (zyp 31 (x := zI (IntKind.i64.wrap ((k : Int) + 1))) (zI (k + 1 : Nat)) (eqI xk) (zza 8 (zI (k + 1 : Nat)) (zzw ?_))))
  have hst : Nt.spL n (S.take (k + 1)) = Nt.spF [(tz : Int), (fz : Int), gi S k 2, gi S k 3] (Nt.spL n (S.take k)) := by rw [Nt.spL_snoc k xq, row4 hx.rows xq, htz, hfz]
  have hrs9 := Nt.spL_rs hV.2.2.2 hx.rows xq (k + 1) xq
  rw [Nt.spF_n (show gi S k 3 = -2 by omega)] at hst
  have av : RatsN b5 Lq (Nt.spL n (S.take (k + 1))) 1500 := by rw [hst]; exact RatsN.up g1 xq
  refine ⟨_, ?_, _, by exact zzu _ _ _, k + 1, Lq, rfl, by omega, hLl, rfl, aV, g0, (RatsN.fitQ9 av hrs9)⟩
  omega
 have qhb31 := of_decide_eq_false aP
 refine zyb (zzo (zzd ?_))
 obtain ⟨E, hE⟩ : ∃ E, Nt.spL n S = E := ⟨_, rfl⟩
 have hEl : E.length = n := by rw [← hE]; exact Nt.spL_len
 have hO : RatsN b5 Lq E 100 := by have h9 := g1; rw [show k = S.length by omega, List.take_length, hE] at h9; exact h9
 refine zzf (zzg 106 30 _ fun _ _ aq bU => Post.mono (k_rqOf bU (z := 0) xq xq) ?_)
 rintro _ bK ay ⟨ba, rfl, bw⟩
 refine zzj 10 ⟨26, zw3⟩ (zzi ⟨26, ba.cs⟩ ty26 ?_)
 refine zzb (zzd (sq9 (zza 11 (zI 0) (zzb (zzs (zym (I := fun bh S' u' => ∃ (i : Nat) (rm : RL), (bh = n - i) ∧ (i ≤ n) ∧ (S' = St.of 124 [(1, zI n), (4, .adr 4 0), (6, .v (z.v)), (10, .adr 10 0), (11, zI i)] [(4, ⟨26, zw3⟩), (10, ⟨26, rm.cs⟩)]) ∧ (Ext bK u') ∧ (RatN u' rm (Nt.mxL (E.take i)) 100)) (fun m S u1 u2 e h => by obtain ⟨i, rm, hm, p0, hS, hE, f0⟩ := h; exact ⟨i, rm, hm, p0, hS, hE.trans e, f0.ext e⟩) _ yz ⟨0, ba, rfl, by omega, rfl, (Ext.refl _), (by rw [List.take_zero, Nt.mxL_nil]; exact RatN.more (K := 2) (by exact bw) xq)⟩ ?_))))))
 rintro bh _ cv ⟨i, rm, bW, hi, rfl, aj, x0⟩
 refine zzd (sq9 (zza 107 (zI i) (zza 108 (zI n) (zza 109 (zB (decide ((i : Int) < (n : Int)))) (zzb (zzt (b := decide ((i : Int) < (n : Int))) xj (fun al => ?_) (fun al => ?_)))))))
 ·have qhb118 := of_decide_eq_true al
  refine zzr (zzo ?_)
  refine zzd (zzs (zzd (zzy [0, 0, 3, 7, 0, 31, 63] [(0, []), (1, []), (2, []), (3, []), (4, []), (5, []), (6, [])] xj xj (zza 112 (.v (z.v)) (zza 113 (zI i) ?_)))))
  obtain ⟨ch, bb, az⟩ := MutQ.el1 (j := i) (g0.ext (aq.trans (ay.ext.trans aj))) xq
  refine zzz 114 (0 + i * 3) (n := z.n) (off := 0) (sz := 3) (i := (i : Int)) xq bb xq xq sl54 ?_
  obtain ⟨bM, aE⟩ : ∃ r : RL, Lq.getD i rl0 = r := ⟨_, rfl⟩
  rw [aE] at az
  have hv122 := ((hO.ext (aq.trans (ay.ext.trans aj))).2 i xq)
  rw [aE] at hv122
  refine zyl 115 (bM.cs) az ty26 (zzh 116 (.v (rm.v)) ty26 zze (zzg 117 28 _ fun _ _ ag bQ => Post.mono (k_rqCompare bQ (hv122.ext ag).raw (x0.ext ag).raw xq xq) ?_))
  rintro _ cx an rfl
  refine zza 118 (zB (decide ((0 : Int) < (Nt.cmpQ (E.getD i 0) (Nt.mxL (E.take i)))))) (zzb (zzt (b := decide ((0 : Int) < (Nt.cmpQ (E.getD i 0) (Nt.mxL (E.take i))))) xj (fun aa => ?_) (fun aa => ?_)))
  ·have qhb127 := of_decide_eq_true aa
   refine zzf (zza 119 (.v (z.v)) (zza 120 (zI i) ?_))
   obtain ⟨cC, a3, aA⟩ := MutQ.el1 (j := i) (g0.ext (aq.trans (ay.ext.trans (aj.trans (ag.trans an.ext))))) xq
   refine zzz 121 (0 + i * 3) (n := z.n) (off := 0) (sz := 3) (i := (i : Int)) xq a3 xq xq sl54 ?_
   obtain ⟨aR, aH⟩ : ∃ r : RL, Lq.getD i rl0 = r := ⟨_, rfl⟩
   rw [aH] at aA
   have hv131 := ((hO.ext (aq.trans (ay.ext.trans (aj.trans (ag.trans an.ext))))).2 i xq)
   rw [aH] at hv131
   refine zyl 122 (aR.cs) aA ty26 (zzi ⟨26, aR.cs⟩ ty26 ?_)
   refine zzw ?_
   refine zzo (zzf (zza 110 (zI i) (zyp 111 (x := zI (IntKind.i64.wrap ((i : Int) + 1))) (zI (i + 1 : Nat)) (eqI xk) (zza 11 (zI (i + 1 : Nat)) (zzw ?_)))))
   have hc9 := aa
   rw [Nt.cmpQ_gt] at hc9
   have hc8 := of_decide_eq_true hc9
   refine ⟨_, ?_, _, by exact zzu _ _ _, i + 1, aR, rfl, by omega, rfl, (aj.trans (ag.trans an.ext)), (by rw [Nt.mxL_snoc i xq, if_pos hc8]; exact hv131)⟩
   omega
  have qhb127 := of_decide_eq_false aa
  refine zzr (zzo ?_)
  refine zzf (zza 110 (zI i) (zyp 111 (x := zI (IntKind.i64.wrap ((i : Int) + 1))) (zI (i + 1 : Nat)) (eqI xk) (zza 11 (zI (i + 1 : Nat)) (zzw ?_))))
  have hc9 := aa
  rw [Nt.cmpQ_gt] at hc9
  have hc8 := of_decide_eq_false hc9
  refine ⟨_, ?_, _, by exact zzu _ _ _, i + 1, rm, rfl, by omega, rfl, (aj.trans (ag.trans an.ext)), (by rw [Nt.mxL_snoc i xq, if_neg hc8]; exact (x0.ext (ag.trans an.ext)))⟩
  omega
 have qhb118 := of_decide_eq_false al
 refine zyb (zzo (sq9 (zzh 123 (.v (rm.v)) ty26 zze (zzi ⟨26, rm.cs⟩ ty26 ?_))))
 refine zza 5 (zI 0) (zzb (zzn (ret0 [rm.v, .int .i64 0] ⟨zzq ty26 zze, zzp, trivial⟩ fun cw bP => ?_)))
 refine ⟨rm, rfl, ?_⟩
 rw [hE]
 have h9 := (x0.ext bP)
 rw [show i = E.length by omega, List.take_length] at h9
 exact h9
theorem k_r37spreadB {u w : World} {x : Sl} {S : List (List Int)} {n : Int} (d : Dat u w) (hx : IrV 4 u x S) (h9 : S.length ≤ 1000000) (hV : ¬ Nt.shV n S) : Calls Tryz.prog 62 #[x.v, .int .i64 n] w (Post u w fun v u' => v = .tuple #[.agg #[.bool false, .slice none 0 0, .slice none 0 0], .int .i64 2]) := by
 refine zzl (args := [x.v, .int .i64 n]) Tryz.func62 rfl Tryz.ntmps62 (rs := [.cell 4 26, .tmp 5]) Tryz.results62 (le_b rfl) (le_b rfl) d ?_
 refine sq9 (zzj 4 ⟨26, zw3⟩ (zza 5 (zI 0) (zzb (zzd (sq9 (zza 12 (.v (x.v)) (zza 13 (zI n) (zzg 14 65 _ fun _ _ aa ab => Post.mono (k_r37valid (x := x) (n := n) ab (hx.ext aa) xq) ?_))))))))
 rintro _ u12 g13 rfl
 refine zza 15 (zB (!(decide (Nt.shV n S)))) (zzb (zzt (b := !(decide (Nt.shV n S))) xj (fun hb => ?_) (fun hb => ?_)))
 ·clear hb
  refine sq9 (zza 16 (.v (.agg #[.bool false, .slice none 0 0, .slice none 0 0])) (zzi ⟨26, zw3⟩ ty26 ?_))
  refine zza 5 (zI 2) (zzb (zzn (zzv (ret0 [.agg #[.bool false, .slice none 0 0, .slice none 0 0], .int .i64 2] ⟨zzq ty26 zze, zzp, trivial⟩ fun u15 e16 => ?_))))
  rfl
 exact absurd hb (by rw [show (!(decide (Nt.shV n S))) = true from (by rw [decide_eq_false hV]; rfl)]; decide)
theorem Nt.fwdL_le {S : List (List Int)} {l : List Int} : (Nt.fwdL S l).length ≤ l.length := by
 unfold Nt.fwdL; split
 ·rw [Nt.shFs_len]; exact Nat.le_refl _
 exact Nat.zero_le _
theorem Nt.bwdL_le {S : List (List Int)} {l : List Int} : (Nt.bwdL S l).length ≤ l.length := by
 unfold Nt.bwdL; split
 ·rw [Nt.shBs_len]; exact Nat.le_refl _
 exact Nat.zero_le _
theorem k_sameR {u w : World} {lo1 lo2 K : Nat} {x y : Sl} {L1 L2 : List RL} {T : List Rat} (d : Dat u w) (hx : MutQ (1 * 3) 26 lo1 u x (rcs L1)) (hL1 : RatsN u L1 T K) (hy : MutQ (1 * 3) 26 lo2 u y (rcs L2)) (hL2 : RatsN u L2 T K) (hK : K ≤ 1000) (hT : T.length ≤ 1000) : Calls Tryz.prog 63 #[x.v, y.v] w (Post u w fun v _ => v = .bool true) := by
 have hxn := MutQ.rown hx
 have hyn := MutQ.rown hy
 have h1n := hL1.1
 have h2n := hL2.1
 refine zzl (args := [x.v, y.v]) Tryz.func63 rfl Tryz.ntmps63 (rs := [.tmp 4]) Tryz.results63 (le_b rfl) (le_b rfl) d ?_
 refine sq9 (zza 4 (zB false) (zzb (zzd (sq9 (zza 6 (.v (x.v)) (zza 7 (zI x.n) (zza 8 (.v (y.v)) (zza 9 (zI y.n) (zza 10 (zB ((x.n : Int) != (y.n : Int))) (zzb (zzt (b := (x.n : Int) != (y.n : Int)) xj (fun hb => ?_) (fun hb => ?_))))))))))))
 ·exact absurd hb (by rw [show ((x.n : Int) != (y.n : Int)) = false from (by rw [bne_eq_false_iff_eq]; omega)]; decide)
 clear hb
 refine zzr (zzo ?_)
 refine zzd (sq9 (zza 5 (zI 0) (zzb (zzs (zym (I := fun aj S' u' => ∃ (i : Nat), (aj = x.n - i) ∧ (i ≤ x.n) ∧ (S' = St.of 27 [(0, .v (x.v)), (1, .v (y.v)), (5, zI i)] []) ∧ (Ext u u')) (fun m S u1 u2 e h => by obtain ⟨i, hm, p0, hS, hE⟩ := h; exact ⟨i, hm, p0, hS, hE.trans e⟩) _ yz ⟨0, rfl, by omega, rfl, (Ext.refl _)⟩ ?_)))))
 rintro aj _ u11 ⟨i, al, hi, rfl, af⟩
 refine zzd (sq9 (zza 11 (zI i) (zza 12 (.v (x.v)) (zza 13 (zI x.n) (zza 14 (zB (decide ((i : Int) < (x.n : Int)))) (zzb (zzt (b := decide ((i : Int) < (x.n : Int))) xj (fun aa => ?_) (fun aa => ?_))))))))
 ·have qhb12 := of_decide_eq_true aa
  refine zzr (zzo ?_)
  refine zzd (zzs (zzd (zzy [0, 0, 3, 7, 0, 0, 48, 112, 255, 511] [(0, []), (1, []), (2, []), (3, []), (4, []), (5, []), (6, []), (7, []), (8, []), (9, [])] xj xj (zza 17 (.v (x.v)) (zza 18 (zI i) ?_)))))
  obtain ⟨b13, ah, ab⟩ := MutQ.el1 (j := i) (hx.ext af) xq
  refine zzz 19 (0 + i * 3) (n := x.n) (off := 0) (sz := 3) (i := (i : Int)) xq ah xq xq sl54 ?_
  obtain ⟨am, ac⟩ : ∃ r : RL, L1.getD i rl0 = r := ⟨_, rfl⟩
  rw [ac] at ab
  have hv16 := ((hL1.2 i xq).ext af)
  rw [ac] at hv16
  refine zyl 20 (am.cs) ab ty26 (zza 21 (.v (y.v)) (zza 22 (zI i) ?_))
  obtain ⟨b17, ag, ad⟩ := MutQ.el1 (j := i) (hy.ext af) xq
  refine zzz 23 (0 + i * 3) (n := y.n) (off := 0) (sz := 3) (i := (i : Int)) xq ag xq xq sl54 ?_
  obtain ⟨ao, ae⟩ : ∃ r : RL, L2.getD i rl0 = r := ⟨_, rfl⟩
  rw [ae] at ad
  have hv20 := ((hL2.2 i xq).ext af)
  rw [ae] at hv20
  refine zyl 24 (ao.cs) ad ty26 (zzg 25 28 _ fun _ _ ai ak => Post.mono (k_rqCompare ak (hv16.ext ai).raw (hv20.ext ai).raw xq xq) ?_)
  rintro _ u22 an rfl
  refine zza 26 (zB ((Nt.cmpQ (T.getD i 0) (T.getD i 0)) != 0)) (zzb (zzt (b := (Nt.cmpQ (T.getD i 0) (T.getD i 0)) != 0) xj (fun hb => ?_) (fun hb => ?_)))
  ·exact absurd hb (by rw [show ((Nt.cmpQ (T.getD i 0) (T.getD i 0)) != 0) = false from (Nt.cmpQ_self _)]; decide)
  clear hb
  refine zzr (zzo ?_)
  refine zzf (zza 15 (zI i) (zyp 16 (x := zI (IntKind.i64.wrap ((i : Int) + 1))) (zI (i + 1 : Nat)) (eqI xk) (zza 5 (zI (i + 1 : Nat)) (zzw ?_))))
  refine ⟨_, ?_, _, by exact zzu _ _ _, i + 1, rfl, by omega, rfl, (af.trans (ai.trans an.ext))⟩
  omega
 have qhb12 := of_decide_eq_false aa
 refine zyb (zzo (sq9 (zza 4 (zB true) (zzb (zzn (ret0 [.bool true] ⟨zzp, trivial⟩ fun u25 e26 => ?_))))))
 rfl
set_option maxHeartbeats 4000000 in
theorem w_doesV {u w : World} {x y : Sl} {S : List (List Int)} {l : List Int} {z : Int} (d : Dat u w) (hx : IrV 4 u x S) (hy : SlR .i64 u y.a y.n y.c l) (hb : ∀ z ∈ l, -9223372036854775808 ≤ z ∧ z ≤ 9223372036854775807) (hz0 : -9223372036854775808 ≤ z) (hz1 : z ≤ 9223372036854775807) (hV0 : Nt.shV (z.tmod 20) S) : Calls Tryz.prog 12 #[x.v, y.v, .int .i64 z] w (Post u w fun v _ => v = .bool true) := by
 have hlx : x.n = S.length := hx.len
 have hly : l.length = y.n := hy.1
 have hyn : y.n ≤ 9223372036854775807 := Nat.le_trans hy.2.1 (Nat.le_trans hy.2.2.1 yv)
 obtain ⟨m, hm⟩ : ∃ m : Nat, z.tmod 20 = (m : Int) := ⟨(z.tmod 20).toNat, by have h9 := hV0.1; omega⟩
 have hV := hV0
 rw [hm] at hV
 have hV1 := hV.1
 have hV2 := hV.2.1
 have hsqM : Nt.Sq m (Nt.linM m S) := by have h9 := (Nt.linM_ok hV.2.2.2 hx.rows S.length (Nat.le_refl _)).1; rwa [List.take_length] at h9
 refine zzl (args := [x.v, y.v, .int .i64 z]) Tryz.func12 rfl Tryz.ntmps12 (rs := [.tmp 6]) Tryz.results12 (le_b rfl) (le_b rfl) d ?_
 refine sq9 (zza 6 (zB false) (zzb (zzd (sq9 (zza 24 (.v (x.v)) (zza 25 (zI x.n) (zza 26 (zB (decide ((80 : Int) < (x.n : Int)))) ?_)))))))
 rcases Bool.eq_false_or_eq_true (decide ((80 : Int) < (x.n : Int))) with hs11 | hs11
 ·refine zyp 27 (x := zB (decide ((80 : Int) < (x.n : Int)))) (zB true) (by rw [hs11]) ?_
  have qhs11 := of_decide_eq_true hs11
  refine zzm 28 (uw 3 false true 27) (zzm 29 (uw 3 false true 27) (zzm 30 (uw 3 false true 27) (zza 31 (zB true) (zzb (zyq xj (sq9 (zzg 32 51 _ fun _ _ _ bG => Post.mono (k_known37 bG) ?_)))))))
  rintro _ u13 g14 rfl
  refine zza 6 (zB true) (zzb (zzn (zzv (ret0 [.bool true] ⟨zzp, trivial⟩ fun u16 e17 => ?_))))
  rfl
 refine zyp 27 (x := zB (decide ((80 : Int) < (x.n : Int)))) (zB false) (by rw [hs11]) ?_
 have qhs11 := of_decide_eq_false hs11
 refine zza 28 (.v (y.v)) ?_ (hw := w1 3 false 27)
 refine zza 29 (zI y.n) ?_ (hw := w1 3 false 27)
 refine zza 30 (zB (decide ((20 : Int) < (y.n : Int)))) ?_ (hw := w1 3 false 27)
 refine zza 31 (zB (decide ((20 : Int) < (y.n : Int)))) (zzb (zzt (b := decide ((20 : Int) < (y.n : Int))) xj (fun aN => ?_) (fun aN => ?_)))
 ·have qhb18 := of_decide_eq_true aN
  refine sq9 (zzg 32 51 _ fun _ _ _ bx => Post.mono (k_known37 bx) ?_)
  rintro _ u20 g21 rfl
  refine zza 6 (zB true) (zzb (zzn (zzv (ret0 [.bool true] ⟨zzp, trivial⟩ fun u23 e24 => ?_))))
  rfl
 have qhb18 := of_decide_eq_false aN
 refine zzr (zzo ?_)
 refine sq9 (zza 33 (zI z) (sy_rem 34 (n := z) (m := 20) ((m : Nat) : Int) xw hm ?_))
 refine zza 2 (zI m) (zzb (sq9 (zza 36 (.v (x.v)) (zza 37 (.v (y.v)) (zzg 38 49 _ fun _ _ ah bm => Post.mono (k_dforward (x := x) (y := y) bm (hx.ext ah) zq (hy.ext ah) hb zq) ?_)))))
 rintro _ u28 al ⟨ax, rfl, a5⟩
 refine zza 35 (.v (.tuple #[ax.v, .int .i64 (Nt.chkE S l)])) (zza 39 (.v (ax.v)) (zza 40 (zI (Nt.chkE S l)) (zza 7 (.v (ax.v)) (zza 8 (zI (Nt.chkE S l)) (zzb (sq9 (zza 42 (.v (x.v)) (zza 43 (.v (y.v)) (zzg 44 59 _ fun _ _ ai br => Post.mono (k_r37forward (x := x) (y := y) br (hx.ext (ah.trans (al.ext.trans ai))) zq (hy.ext (ah.trans (al.ext.trans ai))) hb zq) ?_)))))))))
 rintro _ u34 an ⟨au, rfl, a3⟩
 refine zza 41 (.v (.tuple #[au.v, .int .i64 (Nt.chkE S l)])) (zza 45 (.v (au.v)) (zza 46 (zI (Nt.chkE S l)) (zza 9 (.v (au.v)) (zza 10 (zI (Nt.chkE S l)) (zzb (sq9 (zza 48 (.v (x.v)) (zza 49 (.v (y.v)) (zzg 50 50 _ fun _ _ ak bD => Post.mono (k_dbackward (x := x) (y := y) bD (hx.ext (ah.trans (al.ext.trans (ai.trans (an.ext.trans ak))))) zq (hy.ext (ah.trans (al.ext.trans (ai.trans (an.ext.trans ak))))) hb zq) ?_)))))))))
 rintro _ u40 aq ⟨aC, rfl, ba⟩
 refine zza 47 (.v (.tuple #[aC.v, .int .i64 (Nt.chkE S l)])) (zza 51 (.v (aC.v)) (zza 52 (zI (Nt.chkE S l)) (zza 11 (.v (aC.v)) (zza 12 (zI (Nt.chkE S l)) (zzc 150 [(0, .v (x.v)), (1, .v (y.v)), (2, zI m), (7, .v (ax.v)), (8, zI (Nt.chkE S l)), (9, .v (au.v)), (10, zI (Nt.chkE S l)), (11, .v (aC.v)), (12, zI (Nt.chkE S l))] [] (sq9 (zza 54 (.v (x.v)) (zza 55 (.v (y.v)) (zzg 56 60 _ fun _ _ ao bv => Post.mono (k_r37backward (x := x) (y := y) bv (hx.ext (ah.trans (al.ext.trans (ai.trans (an.ext.trans (ak.trans (aq.ext.trans ao))))))) zq (hy.ext (ah.trans (al.ext.trans (ai.trans (an.ext.trans (ak.trans (aq.ext.trans ao))))))) hb zq) ?_)))))))))
 rintro _ u46 ar ⟨aG, rfl, a1⟩
 refine zza 53 (.v (.tuple #[aG.v, .int .i64 (Nt.chkE S l)])) (zza 57 (.v (aG.v)) (zza 58 (zI (Nt.chkE S l)) (zza 13 (.v (aG.v)) (zza 14 (zI (Nt.chkE S l)) (zzb (sq9 (zza 60 (.v (x.v)) (zza 61 (zI m) (zzg 62 53 _ fun _ _ ap bz => Post.mono (k_dlinear (n := m) bz (hx.ext (ah.trans (al.ext.trans (ai.trans (an.ext.trans (ak.trans (aq.ext.trans (ao.trans (ar.ext.trans ap))))))))) hV) ?_)))))))))
 rintro _ u51 ay ⟨aa, aB, aY, rfl, aA, aM⟩
 have aW : aY.length = m := aM.1.trans hsqM.1
 have hRl50 := aA.len
 have bg : aa.n = m := aA.rows.trans aW
 refine zza 59 (.v (.tuple #[aa.v, .int .i64 0])) (zza 63 (.v (aa.v)) (zza 64 (zI 0) (zza 15 (.v (aa.v)) (zza 16 (zI 0) (zzb (sq9 (zza 66 (.v (x.v)) (zza 67 (zI m) (zzg 68 61 _ fun _ _ aj bq => Post.mono (k_r37linear (n := m) bq (hx.ext (ah.trans (al.ext.trans (ai.trans (an.ext.trans (ak.trans (aq.ext.trans (ao.trans (ar.ext.trans (ap.trans (ay.ext.trans aj))))))))))) hV) ?_)))))))))
 rintro _ u56 am ⟨ae, av, aZ, rfl, aw, aH⟩
 have aT : aZ.length = m := aH.1.trans hsqM.1
 have hRl55 := aw.len
 have bb : ae.n = m := aw.rows.trans aT
 refine zza 65 (.v (.tuple #[ae.v, .int .i64 0])) (zza 69 (.v (ae.v)) (zza 70 (zI 0) (zza 17 (.v (ae.v)) (zza 18 (zI 0) (zzb (sq9 (zza 72 (.v (x.v)) (zza 73 (zI m) (zzg 74 56 _ fun _ _ ad bC => Post.mono (k_dspread (n := m) bC (hx.ext (ah.trans (al.ext.trans (ai.trans (an.ext.trans (ak.trans (aq.ext.trans (ao.trans (ar.ext.trans (ap.trans (ay.ext.trans (aj.trans (am.ext.trans ad))))))))))))) hV) ?_)))))))))
 rintro _ u62 af ⟨aJ, rfl, bA⟩
 refine zza 71 (.v (.tuple #[aJ.v, .int .i64 0])) (zza 75 (.v (aJ.v)) (zza 76 (zI 0) (zzj 19 ⟨26, zw3⟩ (zzi ⟨26, aJ.cs⟩ ty26 ?_))))
 refine zza 20 (zI 0) (zzc 150 [(0, .v (x.v)), (2, zI m), (7, .v (ax.v)), (8, zI (Nt.chkE S l)), (9, .v (au.v)), (10, zI (Nt.chkE S l)), (11, .v (aC.v)), (12, zI (Nt.chkE S l)), (13, .v (aG.v)), (14, zI (Nt.chkE S l)), (15, .v (aa.v)), (16, zI 0), (17, .v (ae.v)), (18, zI 0), (19, .adr 19 0), (20, zI 0)] [(19, ⟨26, aJ.cs⟩)] (sq9 (zza 78 (.v (x.v)) (zza 79 (zI m) (zzg 80 62 _ fun _ _ ac bo => Post.mono (k_r37spread (n := m) bo (hx.ext (ah.trans (al.ext.trans (ai.trans (an.ext.trans (ak.trans (aq.ext.trans (ao.trans (ar.ext.trans (ap.trans (ay.ext.trans (aj.trans (am.ext.trans (ad.trans (af.ext.trans ac))))))))))))))) hV) ?_)))))
 rintro _ bF ag ⟨aQ, rfl, bp⟩
 refine zza 77 (.v (.tuple #[aQ.v, .int .i64 0])) (zza 81 (.v (aQ.v)) (zza 82 (zI 0) (zzj 21 ⟨26, zw3⟩ (zzi ⟨26, aQ.cs⟩ ty26 ?_))))
 refine zza 22 (zI 0) (zzb (zzd (sq9 (zza 83 (zI (Nt.chkE S l)) (zza 84 (zI (Nt.chkE S l)) (zza 85 (zB ((Nt.chkE S l) != (Nt.chkE S l))) (zqB 86 (show ((Nt.chkE S l) != (Nt.chkE S l)) = false from zk) (zza 87 (zI (Nt.chkE S l)) ?_ (hw := w1 3 false 86)))))))))
 refine zza 88 (zI (Nt.chkE S l)) ?_ (hw := w1 3 false 86)
 refine zza 89 (zB ((Nt.chkE S l) != (Nt.chkE S l))) ?_ (hw := w1 3 false 86)
 refine zza 90 (zB ((Nt.chkE S l) != (Nt.chkE S l))) (zqB 91 (show ((Nt.chkE S l) != (Nt.chkE S l)) = false from zk) (zza 92 (zI 0) ?_ (hw := w1 8 false 91)))
 refine zza 93 (zI 0) ?_ (hw := w1 8 false 91)
 refine zza 94 (zB false) ?_ (hw := w1 8 false 91)
 refine zza 95 (zB false) (zza 96 (zB false) (zza 97 (zI 0) ?_ (hw := w1 13 false 96)))
 refine zza 98 (zI 0) ?_ (hw := w1 13 false 96)
 refine zza 99 (zB false) ?_ (hw := w1 13 false 96)
 refine zza 100 (zB false) (zza 101 (zB false) (zza 102 (.v (aa.v)) ?_ (hw := w1 18 false 101)))
 refine zza 103 (zI aa.n) ?_ (hw := w1 18 false 101)
 refine zza 104 (.v (ae.v)) ?_ (hw := w1 18 false 101)
 refine zza 105 (zI ae.n) ?_ (hw := w1 18 false 101)
 refine zza 106 (zB ((aa.n : Int) != (ae.n : Int))) ?_ (hw := w1 18 false 101)
 refine zza 107 (zB ((aa.n : Int) != (ae.n : Int))) (zzc 150 [(0, .v (x.v)), (2, zI m), (7, .v (ax.v)), (9, .v (au.v)), (11, .v (aC.v)), (13, .v (aG.v)), (15, .v (aa.v)), (17, .v (ae.v)), (19, .adr 19 0), (21, .adr 21 0), (107, zB ((aa.n : Int) != (ae.n : Int)))] [(19, ⟨26, aJ.cs⟩), (21, ⟨26, aQ.cs⟩)] (zzt (b := (aa.n : Int) != (ae.n : Int)) xj (fun hb => ?_) (fun hb => ?_)))
 ·exact absurd hb (by rw [show ((aa.n : Int) != (ae.n : Int)) = false from (by rw [bne_eq_false_iff_eq]; omega)]; decide)
 clear hb
 refine zzr (zzo ?_)
 refine zzd (sq9 (zza 23 (zI 0) (zzb (zzs (zym (I := fun be S' u' => ∃ (i : Nat), (be = m - i) ∧ (i ≤ m) ∧ (S' = St.of 150 [(0, .v (x.v)), (2, zI m), (7, .v (ax.v)), (9, .v (au.v)), (11, .v (aC.v)), (13, .v (aG.v)), (15, .v (aa.v)), (17, .v (ae.v)), (19, .adr 19 0), (21, .adr 21 0), (23, zI i)] [(19, ⟨26, aJ.cs⟩), (21, ⟨26, aQ.cs⟩)]) ∧ (Ext bF u')) (fun m S u1 u2 e h => by obtain ⟨i, hm, p0, hS, hE⟩ := h; exact ⟨i, hm, p0, hS, hE.trans e⟩) _ yz ⟨0, rfl, by omega, rfl, (Ext.refl _)⟩ ?_)))))
 rintro be _ u73 ⟨i, bi, hi, rfl, ab⟩
 refine zzd (sq9 (zza 108 (zI i) (zza 109 (.v (aa.v)) (zza 110 (zI aa.n) (zza 111 (zB (decide ((i : Int) < (aa.n : Int)))) (zzb (zzt (b := decide ((i : Int) < (aa.n : Int))) xj (fun aK => ?_) (fun aK => ?_))))))))
 ·have qhb74 := of_decide_eq_true aK
  refine zzr (zzo ?_)
  refine zzd (zzs (zzd (zzy [0, 0, 3, 7, 0, 0, 48, 112, 255, 511] [(0, []), (1, []), (2, []), (3, []), (4, []), (5, []), (6, []), (7, []), (8, []), (9, [])] xj xj (zza 114 (.v (aa.v)) (zza 115 (zI i) ?_)))))
  obtain ⟨b75, a8, a4⟩ := MatQ.cell (i := i) (aA.ext (aj.trans (am.ext.trans (ad.trans (af.ext.trans (ac.trans (ag.ext.trans ab))))))) xq
  refine zzz 116 (0 + i * 1) (n := aa.n) (off := 0) (sz := 1) (i := (i : Int)) xq a8 xq xq sl71 ?_
  have hrw76 := MatQ.row (aA.ext (aj.trans (am.ext.trans (ad.trans (af.ext.trans (ac.trans (ag.ext.trans ab))))))) i xq
  have aX : (aB.getD i sl0).n = m := by rw [MutQ.rown hrw76, MatN.rowlen (aM.ext (aj.trans (am.ext.trans (ad.trans (af.ext.trans (ac.trans (ag.ext.trans ab))))))) (by rw [hsqM.1]; omega)]; exact hsqM.2 i xq
  have bf : (aY.getD i []).length = m := by rw [← MutQ.rown hrw76]; exact aX
  refine zyk 117 (.slice (aB.getD i sl0).a (aB.getD i sl0).n (aB.getD i sl0).c) a4 ty54 (zza 118 (.v (ae.v)) (zza 119 (zI i) ?_))
  obtain ⟨b77, a9, a6⟩ := MatQ.cell (i := i) (aw.ext (ad.trans (af.ext.trans (ac.trans (ag.ext.trans ab))))) xq
  refine zzz 120 (0 + i * 1) (n := ae.n) (off := 0) (sz := 1) (i := (i : Int)) xq a9 xq xq sl71 ?_
  have hrw78 := MatQ.row (aw.ext (ad.trans (af.ext.trans (ac.trans (ag.ext.trans ab))))) i xq
  have aU : (av.getD i sl0).n = m := by rw [MutQ.rown hrw78, MatN.rowlen (aH.ext (ad.trans (af.ext.trans (ac.trans (ag.ext.trans ab))))) (by rw [hsqM.1]; omega)]; exact hsqM.2 i xq
  have bc : (aZ.getD i []).length = m := by rw [← MutQ.rown hrw78]; exact aU
  refine zyk 121 (.slice (av.getD i sl0).a (av.getD i sl0).n (av.getD i sl0).c) a6 ty54 (zzg 122 63 _ fun _ _ aR bl => Post.mono (k_sameR (K := 100) (T := ((Nt.linM m S).getD i [])) bl (hrw76.ext aR) ((aM.ext (aj.trans (am.ext.trans (ad.trans (af.ext.trans (ac.trans (ag.ext.trans (ab.trans aR)))))))).2 i (by rw [hsqM.1]; omega)) (hrw78.ext aR) ((aH.ext (ad.trans (af.ext.trans (ac.trans (ag.ext.trans (ab.trans aR)))))).2 i (by rw [hsqM.1]; omega)) xq (by rw [hsqM.2 i xq]; omega)) ?_)
  rintro _ u80 bB rfl
  refine zza 123 (zB false) (zzb (zyr xj (zzr (zzo ?_))))
  refine zzf (zza 112 (zI i) (zyp 113 (x := zI (IntKind.i64.wrap ((i : Int) + 1))) (zI (i + 1 : Nat)) (eqI xk) (zza 23 (zI (i + 1 : Nat)) (zzw ?_))))
  refine ⟨_, ?_, _, by exact zzu _ _ _, i + 1, rfl, by omega, rfl, (ab.trans (aR.trans bB.ext))⟩
  omega
 have qhb74 := of_decide_eq_false aK
 refine zyb (zzo (sq9 (zzg 124 51 _ fun _ _ aE bk => Post.mono (k_known37 bk) ?_)))
 rintro _ u84 aF rfl
 refine zza 125 (zB true) (zza 126 (.v (x.v)) ?_ (hw := w1 1 true 125))
 refine zza 127 (zI m) ?_ (hw := w1 1 true 125)
 refine zzg 128 64 _ (fun _ _ aD bu => Post.mono (k_dvalid (x := x) (n := (m : Int)) bu (hx.ext (ah.trans (al.ext.trans (ai.trans (an.ext.trans (ak.trans (aq.ext.trans (ao.trans (ar.ext.trans (ap.trans (ay.ext.trans (aj.trans (am.ext.trans (ad.trans (af.ext.trans (ac.trans (ag.ext.trans (ab.trans (aE.trans (aF.ext.trans aD)))))))))))))))))))) xq) ?_) (hw := w1 1 true 125)
 rintro _ u88 aI rfl
 refine zza 129 (.v (x.v)) ?_ (hw := w1 1 true 125)
 refine zza 130 (zI m) ?_ (hw := w1 1 true 125)
 refine zzg 131 65 _ (fun _ _ aL bn => Post.mono (k_r37valid (x := x) (n := (m : Int)) bn (hx.ext (ah.trans (al.ext.trans (ai.trans (an.ext.trans (ak.trans (aq.ext.trans (ao.trans (ar.ext.trans (ap.trans (ay.ext.trans (aj.trans (am.ext.trans (ad.trans (af.ext.trans (ac.trans (ag.ext.trans (ab.trans (aE.trans (aF.ext.trans (aD.trans (aI.ext.trans aL)))))))))))))))))))))) xq) ?_) (hw := w1 1 true 125)
 rintro _ u92 aO rfl
 refine zza 132 (zB ((decide (Nt.shV (m : Int) S)) == (decide (Nt.shV (m : Int) S)))) ?_ (hw := w1 1 true 125)
 refine zza 133 (zB ((decide (Nt.shV (m : Int) S)) == (decide (Nt.shV (m : Int) S)))) (zqB 134 (show ((decide (Nt.shV (m : Int) S)) == (decide (Nt.shV (m : Int) S))) = true from zk) (zza 135 (.v (ax.v)) ?_ (hw := w1 10 true 134)))
 refine zza 136 (.v (au.v)) ?_ (hw := w1 10 true 134)
 refine zzg 137 52 _ (fun _ _ aP bh => Post.mono (k_sameI (x := ax) (y := au) (l := (Nt.fwdL S l)) bh (a5.ext (ai.trans (an.ext.trans (ak.trans (aq.ext.trans (ao.trans (ar.ext.trans (ap.trans (ay.ext.trans (aj.trans (am.ext.trans (ad.trans (af.ext.trans (ac.trans (ag.ext.trans (ab.trans (aE.trans (aF.ext.trans (aD.trans (aI.ext.trans (aL.trans (aO.ext.trans aP)))))))))))))))))))))) (by have h9 : (Nt.fwdL S l) = (Nt.fwdL S l) := rfl; rw [h9]; exact (a3.ext (ak.trans (aq.ext.trans (ao.trans (ar.ext.trans (ap.trans (ay.ext.trans (aj.trans (am.ext.trans (ad.trans (af.ext.trans (ac.trans (ag.ext.trans (ab.trans (aE.trans (aF.ext.trans (aD.trans (aI.ext.trans (aL.trans (aO.ext.trans aP))))))))))))))))))))) (Nt.fwd_mem (S := S) (l := l)) (by have h9 := Nt.fwdL_le (S := S) (l := l); omega)) ?_) (hw := w1 10 true 134)
 rintro _ u97 a0 rfl
 refine zza 138 (zB true) (zza 139 (zB true) (zza 140 (.v (aC.v)) ?_ (hw := w1 15 true 139)))
 refine zza 141 (.v (aG.v)) ?_ (hw := w1 15 true 139)
 refine zzg 142 52 _ (fun _ _ az a2 => Post.mono (k_sameI (x := aC) (y := aG) (l := (Nt.bwdL S l)) a2 (ba.ext (ao.trans (ar.ext.trans (ap.trans (ay.ext.trans (aj.trans (am.ext.trans (ad.trans (af.ext.trans (ac.trans (ag.ext.trans (ab.trans (aE.trans (aF.ext.trans (aD.trans (aI.ext.trans (aL.trans (aO.ext.trans (aP.trans (a0.ext.trans az)))))))))))))))))))) (by have h9 : (Nt.bwdL S l) = (Nt.bwdL S l) := rfl; rw [h9]; exact (a1.ext (ap.trans (ay.ext.trans (aj.trans (am.ext.trans (ad.trans (af.ext.trans (ac.trans (ag.ext.trans (ab.trans (aE.trans (aF.ext.trans (aD.trans (aI.ext.trans (aL.trans (aO.ext.trans (aP.trans (a0.ext.trans az))))))))))))))))))) (Nt.bwd_mem (S := S) (l := l)) (by have h9 := Nt.bwdL_le (S := S) (l := l); omega)) ?_) (hw := w1 15 true 139)
 rintro _ bw aV rfl
 refine zza 143 (zB true) (zza 144 (zB true) (zzh 145 (.v (aJ.v)) ty26 zze ?_ (hw := w1 20 true 144)))
 refine zzh 146 (.v (aQ.v)) ty26 zze ?_ (hw := w1 20 true 144)
 refine zzg 147 28 _ (fun _ _ aS a7 => Post.mono (k_rqCompare a7 (bA.ext (ac.trans (ag.ext.trans (ab.trans (aE.trans (aF.ext.trans (aD.trans (aI.ext.trans (aL.trans (aO.ext.trans (aP.trans (a0.ext.trans (az.trans (aV.ext.trans aS)))))))))))))).raw (bp.ext (ab.trans (aE.trans (aF.ext.trans (aD.trans (aI.ext.trans (aL.trans (aO.ext.trans (aP.trans (a0.ext.trans (az.trans (aV.ext.trans aS)))))))))))).raw xq xq) ?_) (hw := w1 20 true 144)
 rintro _ bE bs rfl
 refine zza 148 (zB ((Nt.cmpQ (Nt.mxL (Nt.spL m S)) (Nt.mxL (Nt.spL m S))) == 0)) ?_ (hw := w1 20 true 144)
 refine zza 149 (zB ((Nt.cmpQ (Nt.mxL (Nt.spL m S)) (Nt.mxL (Nt.spL m S))) == 0)) (zza 6 (zB ((Nt.cmpQ (Nt.mxL (Nt.spL m S)) (Nt.mxL (Nt.spL m S))) == 0)) (zzc 150 [(6, zB ((Nt.cmpQ (Nt.mxL (Nt.spL m S)) (Nt.mxL (Nt.spL m S))) == 0))] [] (zzn (ret0 [.bool ((Nt.cmpQ (Nt.mxL (Nt.spL m S)) (Nt.mxL (Nt.spL m S))) == 0)] ⟨zzp, trivial⟩ fun bt bj => ?_))))
 show Value.bool _ = Value.bool true
 rw [show ((Nt.cmpQ (Nt.mxL (Nt.spL m S)) (Nt.mxL (Nt.spL m S))) == 0) = true from (by rw [Nt.cmpQ_eq]; exact decide_eq_true rfl)]
set_option maxHeartbeats 4000000 in
theorem w_doesB {u w : World} {x y : Sl} {S : List (List Int)} {l : List Int} {z : Int} (d : Dat u w) (hx : IrV 4 u x S) (hy : SlR .i64 u y.a y.n y.c l) (hb : ∀ z ∈ l, -9223372036854775808 ≤ z ∧ z ≤ 9223372036854775807) (hz0 : -9223372036854775808 ≤ z) (hz1 : z ≤ 9223372036854775807) (hV0 : ¬ Nt.shV (z.tmod 20) S) : Calls Tryz.prog 12 #[x.v, y.v, .int .i64 z] w (Post u w fun v _ => v = .bool true) := by
 have hlx : x.n = S.length := hx.len
 have hly : l.length = y.n := hy.1
 have hyn : y.n ≤ 9223372036854775807 := Nat.le_trans hy.2.1 (Nat.le_trans hy.2.2.1 yv)
 obtain ⟨q, hq⟩ : ∃ q, z.tmod 20 = q := ⟨_, rfl⟩
 have hqb : -20 < q ∧ q < 20 := by rw [← hq]; exact ⟨Int.lt_tmod_of_pos z xw, Int.tmod_lt_of_pos z xw⟩
 have hV := hV0
 rw [hq] at hV
 refine zzl (args := [x.v, y.v, .int .i64 z]) Tryz.func12 rfl Tryz.ntmps12 (rs := [.tmp 6]) Tryz.results12 (le_b rfl) (le_b rfl) d ?_
 refine sq9 (zza 6 (zB false) (zzb (zzd (sq9 (zza 24 (.v (x.v)) (zza 25 (zI x.n) (zza 26 (zB (decide ((80 : Int) < (x.n : Int)))) ?_)))))))
 rcases Bool.eq_false_or_eq_true (decide ((80 : Int) < (x.n : Int))) with hs11 | hs11
 ·refine zyp 27 (x := zB (decide ((80 : Int) < (x.n : Int)))) (zB true) (by rw [hs11]) ?_
  have qhs11 := of_decide_eq_true hs11
  refine zzm 28 (uw 3 false true 27) (zzm 29 (uw 3 false true 27) (zzm 30 (uw 3 false true 27) (zza 31 (zB true) (zzb (zyq xj (sq9 (zzg 32 51 _ fun _ _ _ aV => Post.mono (k_known37 aV) ?_)))))))
  rintro _ u13 g14 rfl
  refine zza 6 (zB true) (zzb (zzn (zzv (ret0 [.bool true] ⟨zzp, trivial⟩ fun u16 e17 => ?_))))
  rfl
 refine zyp 27 (x := zB (decide ((80 : Int) < (x.n : Int)))) (zB false) (by rw [hs11]) ?_
 have qhs11 := of_decide_eq_false hs11
 refine zza 28 (.v (y.v)) ?_ (hw := w1 3 false 27)
 refine zza 29 (zI y.n) ?_ (hw := w1 3 false 27)
 refine zza 30 (zB (decide ((20 : Int) < (y.n : Int)))) ?_ (hw := w1 3 false 27)
 refine zza 31 (zB (decide ((20 : Int) < (y.n : Int)))) (zzb (zzt (b := decide ((20 : Int) < (y.n : Int))) xj (fun ar => ?_) (fun ar => ?_)))
 ·have qhb18 := of_decide_eq_true ar
  refine sq9 (zzg 32 51 _ fun _ _ _ aU => Post.mono (k_known37 aU) ?_)
  rintro _ u20 g21 rfl
  refine zza 6 (zB true) (zzb (zzn (zzv (ret0 [.bool true] ⟨zzp, trivial⟩ fun u23 e24 => ?_))))
  rfl
 have qhb18 := of_decide_eq_false ar
 refine zzr (zzo ?_)
 refine sq9 (zza 33 (zI z) (sy_rem 34 (n := z) (m := 20) q xw hq ?_))
 refine zza 2 (zI q) (zzb (sq9 (zza 36 (.v (x.v)) (zza 37 (.v (y.v)) (zzg 38 49 _ fun _ _ aa aT => Post.mono (k_dforward (x := x) (y := y) aT (hx.ext aa) zq (hy.ext aa) hb zq) ?_)))))
 rintro _ u28 ad ⟨an, rfl, aG⟩
 refine zza 35 (.v (.tuple #[an.v, .int .i64 (Nt.chkE S l)])) (zza 39 (.v (an.v)) (zza 40 (zI (Nt.chkE S l)) (zza 7 (.v (an.v)) (zza 8 (zI (Nt.chkE S l)) (zzb (sq9 (zza 42 (.v (x.v)) (zza 43 (.v (y.v)) (zzg 44 59 _ fun _ _ ab aO => Post.mono (k_r37forward (x := x) (y := y) aO (hx.ext (aa.trans (ad.ext.trans ab))) zq (hy.ext (aa.trans (ad.ext.trans ab))) hb zq) ?_)))))))))
 rintro _ u34 ae ⟨al, rfl, aH⟩
 refine zza 41 (.v (.tuple #[al.v, .int .i64 (Nt.chkE S l)])) (zza 45 (.v (al.v)) (zza 46 (zI (Nt.chkE S l)) (zza 9 (.v (al.v)) (zza 10 (zI (Nt.chkE S l)) (zzb (sq9 (zza 48 (.v (x.v)) (zza 49 (.v (y.v)) (zzg 50 50 _ fun _ _ ac aN => Post.mono (k_dbackward (x := x) (y := y) aN (hx.ext (aa.trans (ad.ext.trans (ab.trans (ae.ext.trans ac))))) zq (hy.ext (aa.trans (ad.ext.trans (ab.trans (ae.ext.trans ac))))) hb zq) ?_)))))))))
 rintro _ u40 ah ⟨ap, rfl, aF⟩
 refine zza 47 (.v (.tuple #[ap.v, .int .i64 (Nt.chkE S l)])) (zza 51 (.v (ap.v)) (zza 52 (zI (Nt.chkE S l)) (zza 11 (.v (ap.v)) (zza 12 (zI (Nt.chkE S l)) (zzc 150 [(0, .v (x.v)), (1, .v (y.v)), (2, zI q), (7, .v (an.v)), (8, zI (Nt.chkE S l)), (9, .v (al.v)), (10, zI (Nt.chkE S l)), (11, .v (ap.v)), (12, zI (Nt.chkE S l))] [] (sq9 (zza 54 (.v (x.v)) (zza 55 (.v (y.v)) (zzg 56 60 _ fun _ _ af aL => Post.mono (k_r37backward (x := x) (y := y) aL (hx.ext (aa.trans (ad.ext.trans (ab.trans (ae.ext.trans (ac.trans (ah.ext.trans af))))))) zq (hy.ext (aa.trans (ad.ext.trans (ab.trans (ae.ext.trans (ac.trans (ah.ext.trans af))))))) hb zq) ?_)))))))))
 rintro _ u46 ai ⟨aq, rfl, aE⟩
 refine zza 53 (.v (.tuple #[aq.v, .int .i64 (Nt.chkE S l)])) (zza 57 (.v (aq.v)) (zza 58 (zI (Nt.chkE S l)) (zza 13 (.v (aq.v)) (zza 14 (zI (Nt.chkE S l)) (zzb (sq9 (zza 60 (.v (x.v)) (zza 61 (zI q) (zzg 62 53 _ fun _ _ ag aZ => Post.mono (k_dlinearB (n := q) aZ (hx.ext (aa.trans (ad.ext.trans (ab.trans (ae.ext.trans (ac.trans (ah.ext.trans (af.trans (ai.ext.trans ag))))))))) xq hV) ?_)))))))))
 rintro _ u50 aj rfl
 refine zza 59 (.v (.tuple #[.slice none 0 0, .int .i64 2])) (zza 63 (.v (.slice none 0 0)) (zza 64 (zI 2) (zza 15 (.v (.slice none 0 0)) (zza 16 (zI 2) (zzb (sq9 (zza 66 (.v (x.v)) (zza 67 (zI q) (zzg 68 61 _ fun _ _ ak aS => Post.mono (k_r37linearB (n := q) aS (hx.ext (aa.trans (ad.ext.trans (ab.trans (ae.ext.trans (ac.trans (ah.ext.trans (af.trans (ai.ext.trans (ag.trans (aj.ext.trans ak))))))))))) xq xq xq hV) ?_)))))))))
 rintro _ u54 ao rfl
 refine zza 65 (.v (.tuple #[.slice none 0 0, .int .i64 2])) (zza 69 (.v (.slice none 0 0)) (zza 70 (zI 2) (zza 17 (.v (.slice none 0 0)) (zza 18 (zI 2) (zzb (sq9 (zza 72 (.v (x.v)) (zza 73 (zI q) (zzg 74 56 _ fun _ _ am aX => Post.mono (k_dspreadB (n := q) aX (hx.ext (aa.trans (ad.ext.trans (ab.trans (ae.ext.trans (ac.trans (ah.ext.trans (af.trans (ai.ext.trans (ag.trans (aj.ext.trans (ak.trans (ao.ext.trans am))))))))))))) xq hV) ?_)))))))))
 rintro _ u58 au rfl
 refine zza 71 (.v (.tuple #[.agg #[.bool false, .slice none 0 0, .slice none 0 0], .int .i64 2])) (zza 75 (.v (.agg #[.bool false, .slice none 0 0, .slice none 0 0])) (zza 76 (zI 2) (zzj 19 ⟨26, zw3⟩ (zzi ⟨26, zw3⟩ ty26 ?_))))
 refine zza 20 (zI 2) (zzc 150 [(0, .v (x.v)), (2, zI q), (7, .v (an.v)), (8, zI (Nt.chkE S l)), (9, .v (al.v)), (10, zI (Nt.chkE S l)), (11, .v (ap.v)), (12, zI (Nt.chkE S l)), (13, .v (aq.v)), (14, zI (Nt.chkE S l)), (15, .v (.slice none 0 0)), (16, zI 2), (17, .v (.slice none 0 0)), (18, zI 2), (19, .adr 19 0), (20, zI 2)] [(19, ⟨26, zw3⟩)] (sq9 (zza 78 (.v (x.v)) (zza 79 (zI q) (zzg 80 62 _ fun _ _ av aM => Post.mono (k_r37spreadB (n := q) aM (hx.ext (aa.trans (ad.ext.trans (ab.trans (ae.ext.trans (ac.trans (ah.ext.trans (af.trans (ai.ext.trans (ag.trans (aj.ext.trans (ak.trans (ao.ext.trans (am.trans (au.ext.trans av))))))))))))))) xq hV) ?_)))))
 rintro _ u62 az rfl
 refine zza 77 (.v (.tuple #[.agg #[.bool false, .slice none 0 0, .slice none 0 0], .int .i64 2])) (zza 81 (.v (.agg #[.bool false, .slice none 0 0, .slice none 0 0])) (zza 82 (zI 2) (zzj 21 ⟨26, zw3⟩ (zzi ⟨26, zw3⟩ ty26 ?_))))
 refine zza 22 (zI 2) (zzb (zzd (sq9 (zza 83 (zI (Nt.chkE S l)) (zza 84 (zI (Nt.chkE S l)) (zza 85 (zB ((Nt.chkE S l) != (Nt.chkE S l))) (zqB 86 (show ((Nt.chkE S l) != (Nt.chkE S l)) = false from zk) (zza 87 (zI (Nt.chkE S l)) ?_ (hw := w1 3 false 86)))))))))
 refine zza 88 (zI (Nt.chkE S l)) ?_ (hw := w1 3 false 86)
 refine zza 89 (zB ((Nt.chkE S l) != (Nt.chkE S l))) ?_ (hw := w1 3 false 86)
 refine zza 90 (zB ((Nt.chkE S l) != (Nt.chkE S l))) (zqB 91 (show ((Nt.chkE S l) != (Nt.chkE S l)) = false from zk) (zza 92 (zI 2) ?_ (hw := w1 8 false 91)))
 refine zza 93 (zI 2) ?_ (hw := w1 8 false 91)
 refine zza 94 (zB false) ?_ (hw := w1 8 false 91)
 refine zza 95 (zB false) (zza 96 (zB false) (zza 97 (zI 2) ?_ (hw := w1 13 false 96)))
 refine zza 98 (zI 2) ?_ (hw := w1 13 false 96)
 refine zza 99 (zB false) ?_ (hw := w1 13 false 96)
 refine zza 100 (zB false) (zza 101 (zB false) (zza 102 (.v (.slice none 0 0)) ?_ (hw := w1 18 false 101)))
 refine zza 103 (zI 0) ?_ (hw := w1 18 false 101)
 refine zza 104 (.v (.slice none 0 0)) ?_ (hw := w1 18 false 101)
 refine zza 105 (zI 0) ?_ (hw := w1 18 false 101)
 refine zza 106 (zB false) ?_ (hw := w1 18 false 101)
 refine zza 107 (zB false) (zzc 150 [(0, .v (x.v)), (2, zI q), (7, .v (an.v)), (9, .v (al.v)), (11, .v (ap.v)), (13, .v (aq.v)), (15, .v (.slice none 0 0)), (17, .v (.slice none 0 0)), (19, .adr 19 0), (21, .adr 21 0), (107, zB false)] [(19, ⟨26, zw3⟩), (21, ⟨26, zw3⟩)] (zyr xj (zzr (zzo ?_))))
 refine zzd (sq9 (zza 23 (zI 0) (zzb (zzs (sw_rounds 0 ?_)))))
 refine zzd (sq9 (zza 108 (zI 0) (zza 109 (.v (.slice none 0 0)) (zza 110 (zI 0) (zza 111 (zB false) (zzb (zyr xj (zyb (zzo (sq9 (zzg 124 51 _ fun _ _ ax aK => Post.mono (k_known37 aK) ?_)))))))))))
 rintro _ u68 aw rfl
 refine zza 125 (zB true) (zza 126 (.v (x.v)) ?_ (hw := w1 1 true 125))
 refine zza 127 (zI q) ?_ (hw := w1 1 true 125)
 refine zzg 128 64 _ (fun _ _ ay aW => Post.mono (k_dvalid (x := x) (n := q) aW (hx.ext (aa.trans (ad.ext.trans (ab.trans (ae.ext.trans (ac.trans (ah.ext.trans (af.trans (ai.ext.trans (ag.trans (aj.ext.trans (ak.trans (ao.ext.trans (am.trans (au.ext.trans (av.trans (az.ext.trans (ax.trans (aw.ext.trans ay))))))))))))))))))) xq) ?_) (hw := w1 1 true 125)
 rintro _ u72 aB rfl
 refine zza 129 (.v (x.v)) ?_ (hw := w1 1 true 125)
 refine zza 130 (zI q) ?_ (hw := w1 1 true 125)
 refine zzg 131 65 _ (fun _ _ aA aP => Post.mono (k_r37valid (x := x) (n := q) aP (hx.ext (aa.trans (ad.ext.trans (ab.trans (ae.ext.trans (ac.trans (ah.ext.trans (af.trans (ai.ext.trans (ag.trans (aj.ext.trans (ak.trans (ao.ext.trans (am.trans (au.ext.trans (av.trans (az.ext.trans (ax.trans (aw.ext.trans (ay.trans (aB.ext.trans aA))))))))))))))))))))) xq) ?_) (hw := w1 1 true 125)
 rintro _ u76 aC rfl
 refine zza 132 (zB ((decide (Nt.shV q S)) == (decide (Nt.shV q S)))) ?_ (hw := w1 1 true 125)
 refine zza 133 (zB ((decide (Nt.shV q S)) == (decide (Nt.shV q S)))) (zqB 134 (show ((decide (Nt.shV q S)) == (decide (Nt.shV q S))) = true from zk) (zza 135 (.v (an.v)) ?_ (hw := w1 10 true 134)))
 refine zza 136 (.v (al.v)) ?_ (hw := w1 10 true 134)
 refine zzg 137 52 _ (fun _ _ aD aQ => Post.mono (k_sameI (x := an) (y := al) (l := (Nt.fwdL S l)) aQ (aG.ext (ab.trans (ae.ext.trans (ac.trans (ah.ext.trans (af.trans (ai.ext.trans (ag.trans (aj.ext.trans (ak.trans (ao.ext.trans (am.trans (au.ext.trans (av.trans (az.ext.trans (ax.trans (aw.ext.trans (ay.trans (aB.ext.trans (aA.trans (aC.ext.trans aD))))))))))))))))))))) (by have h9 : (Nt.fwdL S l) = (Nt.fwdL S l) := rfl; rw [h9]; exact (aH.ext (ac.trans (ah.ext.trans (af.trans (ai.ext.trans (ag.trans (aj.ext.trans (ak.trans (ao.ext.trans (am.trans (au.ext.trans (av.trans (az.ext.trans (ax.trans (aw.ext.trans (ay.trans (aB.ext.trans (aA.trans (aC.ext.trans aD)))))))))))))))))))) (Nt.fwd_mem (S := S) (l := l)) (by have h9 := Nt.fwdL_le (S := S) (l := l); omega)) ?_) (hw := w1 10 true 134)
 rintro _ u81 aI rfl
 refine zza 138 (zB true) (zza 139 (zB true) (zza 140 (.v (ap.v)) ?_ (hw := w1 15 true 139)))
 refine zza 141 (.v (aq.v)) ?_ (hw := w1 15 true 139)
 refine zzg 142 52 _ (fun _ _ aJ aY => Post.mono (k_sameI (x := ap) (y := aq) (l := (Nt.bwdL S l)) aY (aF.ext (af.trans (ai.ext.trans (ag.trans (aj.ext.trans (ak.trans (ao.ext.trans (am.trans (au.ext.trans (av.trans (az.ext.trans (ax.trans (aw.ext.trans (ay.trans (aB.ext.trans (aA.trans (aC.ext.trans (aD.trans (aI.ext.trans aJ))))))))))))))))))) (by have h9 : (Nt.bwdL S l) = (Nt.bwdL S l) := rfl; rw [h9]; exact (aE.ext (ag.trans (aj.ext.trans (ak.trans (ao.ext.trans (am.trans (au.ext.trans (av.trans (az.ext.trans (ax.trans (aw.ext.trans (ay.trans (aB.ext.trans (aA.trans (aC.ext.trans (aD.trans (aI.ext.trans aJ)))))))))))))))))) (Nt.bwd_mem (S := S) (l := l)) (by have h9 := Nt.bwdL_le (S := S) (l := l); omega)) ?_) (hw := w1 15 true 139)
 rintro _ u85 g86 rfl
 refine zza 143 (zB true) (zza 144 (zB true) (zzh 145 (.v (.agg #[.bool false, .slice none 0 0, .slice none 0 0])) ty26 zze ?_ (hw := w1 20 true 144)))
 refine zzh 146 (.v (.agg #[.bool false, .slice none 0 0, .slice none 0 0])) ty26 zze ?_ (hw := w1 20 true 144)
 refine zzg 147 28 _ (fun _ _ _ aR => Post.mono (k_rqCompare aR (rat_nil _) (rat_nil _) xq xq) ?_) (hw := w1 20 true 144)
 rintro _ u89 g90 rfl
 refine zza 148 (zB ((Nt.cmpQ (0 : Rat) (0 : Rat)) == 0)) ?_ (hw := w1 20 true 144)
 refine zza 149 (zB ((Nt.cmpQ (0 : Rat) (0 : Rat)) == 0)) (zza 6 (zB ((Nt.cmpQ (0 : Rat) (0 : Rat)) == 0)) (zzc 150 [(6, zB ((Nt.cmpQ (0 : Rat) (0 : Rat)) == 0))] [] (zzn (ret0 [.bool ((Nt.cmpQ (0 : Rat) (0 : Rat)) == 0)] ⟨zzp, trivial⟩ fun u92 e93 => ?_))))
 show Value.bool _ = Value.bool true
 rw [show ((Nt.cmpQ (0 : Rat) (0 : Rat)) == 0) = true from (by rw [Nt.cmpQ_eq]; exact decide_eq_true rfl)]
theorem w_does {u w : World} {x y : Sl} {S : List (List Int)} {l : List Int} {z : Int} (d : Dat u w) (hx : IrV 4 u x S) (hS : ∀ p ∈ S, ∀ z ∈ p, -9223372036854775808 ≤ z ∧ z ≤ 9223372036854775807) (hy : SlR .i64 u y.a y.n y.c l) (hb : ∀ z ∈ l, -9223372036854775808 ≤ z ∧ z ≤ 9223372036854775807) (hz0 : -9223372036854775808 ≤ z) (hz1 : z ≤ 9223372036854775807) : Calls Tryz.prog 12 #[x.v, y.v, .int .i64 z] w (Post u w fun v _ => v = .bool true) := by
 by_cases h : Nt.shV (z.tmod 20) S
 ·exact w_doesV d hx hy hb hz0 hz1 h
 exact w_doesB d hx hy hb hz0 hz1 h
end Go.Proofs.YtbolmkfphieogaaGreat
