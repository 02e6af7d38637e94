/- Parts of the proof: contracts of functions, each walked once, and plain laws. -/
import Derived.Test.YtbolmkfphieogaaGreatDkvF
import Derived.RangeFuncFrom
import Derived.RangeFuncLeaves
import Derived.RangeFuncCalls
import Derived.WalkKit
import Derived.OwnWalkIn
import Derived.TacticsInMore
import Derived.LoopNIn
import Derived.LoopIn
import Derived.RangeFuncNested
namespace Go.Proofs.YtbolmkfphieogaaGreat
open Go.RowKit
set_option linter.unusedVariables false
theorem k_sameI {u w : World} {x y : Sl} {l : List Int} (d : Dat u w) (hx : SlR .i64 u x.a x.n x.c l) (hy : SlR .i64 u y.a y.n y.c l) (hb : ∀ z ∈ l, -9223372036854775808 ≤ z ∧ z ≤ 9223372036854775807) (h8 : l.length ≤ 1000000) : Calls Tryz.prog 52 #[x.v, y.v] w (Post u w fun v u' => v = .bool true) := by
 have hlx : l.length = x.n := hx.1
 have hly : l.length = y.n := hy.1
 refine zzl (args := [.slice x.a x.n x.c, .slice y.a y.n y.c]) Tryz.func52 rfl Tryz.ntmps52 (rs := [.tmp 4]) Tryz.results52 (le_b rfl) (le_b rfl) d ?_
 refine sq9 (zza 4 (zB false) (zzb (zzd (sq9 (zza 6 (.v x.v) (zza 7 (zI x.n) (zza 8 (.v y.v) (zza 9 (zI y.n) (zza 10 (zB ((x.n : Int) != (y.n : Int))) (zzb (zzt (b := (x.n : Int) != (y.n : Int)) xj (fun hb => ?_) (fun hb => ?_))))))))))))
 ·exact absurd hb (by rw [show ((x.n : Int) != (y.n : Int)) = false from (by rw [show y.n = x.n by omega]; simp)]; decide)
 ·clear hb
  refine zzr (zzo ?_)
  refine zzd (sq9 (zza 5 (zI 0) (zzb (zzs (zym (I := fun m11 S' u' => ∃ (i : Nat), (m11 = x.n - i) ∧ (i ≤ x.n) ∧ (S' = St.of 26 [(0, .v (.slice x.a x.n x.c)), (1, .v (.slice y.a y.n y.c)), (5, zI i)] []) ∧ (Ext u u')) (fun m S u1 u2 e h => by obtain ⟨i, hm, p0, hS, hE⟩ := h; exact ⟨i, hm, p0, hS, hE.trans e⟩) _ yz ⟨0, rfl, Nat.zero_le _, rfl, (Ext.refl _)⟩ ?_)))))
  rintro m11 _ u11 ⟨i, hm11, hi, rfl, e11⟩
  refine zzd (sq9 (zza 11 (zI i) (zza 12 (.v x.v) (zza 13 (zI x.n) (zza 14 (zB (decide ((i : Int) < (x.n : Int)))) (zzb (zzt (b := decide ((i : Int) < (x.n : Int))) xj (fun hb12 => ?_) (fun hb12 => ?_))))))))
  ·replace hb12 : (decide ((i : Int) < (x.n : Int))) = true := hb12
   have qhb12 := of_decide_eq_true hb12
   refine zzr (zzo ?_)
   refine zzd (zzs (zzd (zzy [0, 0, 3, 7, 0, 0, 48, 112, 255] [(0, []), (1, []), (2, []), (3, []), (4, []), (5, []), (6, []), (7, []), (8, [])] xj xj (zza 17 (.v x.v) (zza 18 (zI i) ?_)))))
   have hl13 := ((hx.ext e11)).1
   obtain ⟨b13, o13, hA13, hc13⟩ := ints_at (hx.ext e11) (i := i) xq
   have hz13 := ints_bd hb xq i
   refine zzz 19 (o13 + i * 1) (n := x.n) (off := o13) (sz := 1) (i := (i : Int)) xq hA13 xq xq sl30 (zyk 20 (.int .i64 (l.getD i 0)) hc13 ty3 (zza 21 (.v y.v) (zza 22 (zI i) ?_)))
   have hl14 := ((hy.ext e11)).1
   obtain ⟨b14, o14, hA14, hc14⟩ := ints_at (hy.ext e11) (i := i) xq
   have hz14 := ints_bd hb xq i
   refine zzz 23 (o14 + i * 1) (n := y.n) (off := o14) (sz := 1) (i := (i : Int)) xq hA14 xq xq sl30 (zyk 24 (.int .i64 (l.getD i 0)) hc14 ty3 (zza 25 (zB ((l.getD i 0) != (l.getD i 0))) (zzb (zzt (b := (l.getD i 0) != (l.getD i 0)) xj (fun hb => ?_) (fun hb => ?_)))))
   ·exact absurd hb (by rw [show ((l.getD i 0) != (l.getD i 0)) = false from (by simp)]; decide)
   ·clear hb
    refine zzr (zzo ?_)
    refine zzf (zza 15 (zI i) (zyp 16 (x := zI (IntKind.i64.wrap ((i : Int) + 1))) (zI (i + 1 : Nat)) (eqI xz) (zza 5 (zI (i + 1 : Nat)) (zzw ?_))))
    refine ⟨_, ?_, _, by exact zzu _ _ _, i + 1, rfl, by omega, rfl, e11⟩
    omega
  ·replace hb12 : (decide ((i : Int) < (x.n : Int))) = false := hb12
   have qhb12 := of_decide_eq_false hb12
   refine zyb (zzo (sq9 (zza 4 (zB true) (zzb (zzn (ret0 [.bool true] ⟨zzp, trivial⟩ fun u15 e16 => ?_))))))
   rfl
set_option maxHeartbeats 1000000 in
theorem k_known37 {u w : World} (d : Dat u w) : Calls Tryz.prog 51 #[] w (Post u w fun v _ => v = .bool true) := by
 refine zzl (args := []) Tryz.func51 rfl Tryz.ntmps51 (rs := [.tmp 0]) Tryz.results51 (le_b rfl) (le_b rfl) d ?_
 refine sq9 (zza 0 (zB false) (zzb (sq9 (zza 6 (.v (.agg #[.int .i64 0, .int .i64 1, .int .i64 1, .int .i64 1])) (zxw 7 ⟨90, [.int .i64 0, .int .i64 1, .int .i64 1, .int .i64 1]⟩ 1 (fun b11 u12 e13 h14 => ?_))))))
 have hp15 : IrV 4 u12 (⟨some ⟨b11, 0, none⟩, 1, 1⟩ : Sl) [[0, 1, 1, 1]] := ir_data h14 (rows_cons rfl rows_nil) rfl rfl rfl (Nat.le_refl _) yv
 refine zxw 8 ⟨3, [.int .i64 0, .int .i64 3]⟩ 2 (fun b16 u17 e18 h19 => ?_)
 have hp20 : SlR .i64 u17 ((⟨some ⟨b16, 0, none⟩, 2, 2⟩ : Sl)).a ((⟨some ⟨b16, 0, none⟩, 2, 2⟩ : Sl)).n ((⟨some ⟨b16, 0, none⟩, 2, 2⟩ : Sl)).c [0, 3] := ints_data h19 rfl rfl (Nat.le_refl _) (by show 2 ≤ maxLen; unfold maxLen; omega)
 refine zzg 9 49 [.slice (some ⟨b11, 0, none⟩) 1 1, .slice (some ⟨b16, 0, none⟩) 2 2] ?_
 intro w21 u21 e21 d21
 have k26 := k_dforward (x := (⟨some ⟨b11, 0, none⟩, 1, 1⟩ : Sl)) (y := (⟨some ⟨b16, 0, none⟩, 2, 2⟩ : Sl)) d21 (hp15.ext (e18.trans e21)) (by first | omega | decide) (hp20.ext e21) xw (by first | omega | decide)
 with_reducible refine zPm k26 ?_
 rintro _ u24 g25 ⟨z22, rfl, hz23⟩
 refine zza 5 (.v (.tuple #[z22.v, .int .i64 (Nt.chkE ([[0, 1, 1, 1]]) ([0, 3]))])) (zza 10 (.v z22.v) (zza 11 (zI (Nt.chkE ([[0, 1, 1, 1]]) ([0, 3]))) (zza 1 (.v z22.v) (zza 2 (zI (Nt.chkE ([[0, 1, 1, 1]]) ([0, 3]))) (zzb (sq9 (zzg 13 69 [.int .i64 0, .int .i64 1, .int .i64 1, .int .i64 4, .int .i64 4] ?_)))))))
 intro w27 u27 e27 d27
 have k32 := k_rotate (i := 0) (j := 1) (p := 1) (q := 4) (k := 4) d27 xq xq xw xq xq xq xq xq Nt.rotOK_14
 with_reducible refine zPm k32 ?_
 rintro _ u30 g31 ⟨x28, rfl, hx29⟩
 have hlx28 : x28.n = 4 := hx29.len
 refine zza 12 (.v (.tuple #[x28.v, .int .i64 0])) (zza 14 (.v x28.v) (zza 15 (zI 0) (zza 3 (.v x28.v) (zza 4 (zI 0) (zzb (sq9 (zza 16 (zI (Nt.chkE ([[0, 1, 1, 1]]) ([0, 3]))) (zza 17 (zB ((Nt.chkE ([[0, 1, 1, 1]]) ([0, 3])) == 0)) (zyp 18 (x := zB ((Nt.chkE ([[0, 1, 1, 1]]) ([0, 3])) == 0)) (zB true) (by rw [show ((Nt.chkE ([[0, 1, 1, 1]]) ([0, 3])) == 0) = true from xw]) (zza 19 (zI 0) ?_ (hw := w1 2 true 18)))))))))))
 refine zza 20 (zB true) ?_ (hw := w1 2 true 18)
 refine zza 21 (zB true) (zza 22 (zB true) (zza 23 (.v z22.v) ?_ (hw := w1 6 true 22)))
 refine zxw 24 ⟨3, [.int .i64 2, .int .i64 3]⟩ 2 (fun b34 u35 e36 h37 => ?_) (hw := w1 6 true 22)
 have hp38 : SlR .i64 u35 ((⟨some ⟨b34, 0, none⟩, 2, 2⟩ : Sl)).a ((⟨some ⟨b34, 0, none⟩, 2, 2⟩ : Sl)).n ((⟨some ⟨b34, 0, none⟩, 2, 2⟩ : Sl)).c [2, 3] := ints_data h37 rfl rfl (Nat.le_refl _) (by show 2 ≤ maxLen; unfold maxLen; omega)
 refine zzg 25 52 [z22.v, .slice (some ⟨b34, 0, none⟩) 2 2] ?_ (hw := w1 6 true 22)
 intro w39 u39 e39 d39
 have k42 := k_sameI (x := z22) (y := (⟨some ⟨b34, 0, none⟩, 2, 2⟩ : Sl)) (l := (Nt.fwdL ([[0, 1, 1, 1]]) ([0, 3]))) d39 (hz23.ext (e27.trans (g31.ext.trans (e36.trans e39)))) (by have h9 : (Nt.fwdL ([[0, 1, 1, 1]]) ([0, 3])) = [2, 3] := rfl; rw [h9]; exact (hp38.ext e39)) Nt.fwd_mem xw
 with_reducible refine zPm k42 ?_
 rintro _ u40 g41 rfl
 refine zza 26 (zB true) (zza 27 (zB true) (zza 28 (.v x28.v) ?_ (hw := w1 11 true 27)))
 refine zza 29 (zI x28.n) ?_ (hw := w1 11 true 27)
 refine zza 30 (zB ((x28.n : Int) == 4)) ?_ (hw := w1 11 true 27)
 refine zza 31 (zB ((x28.n : Int) == 4)) (zyp 32 (x := zB ((x28.n : Int) == 4)) (zB true) (by rw [show ((x28.n : Int) == 4) = true from yy]) (zza 33 (.v x28.v) ?_ (hw := w1 16 true 32)))
 have hl44 := ((hx29.ext (e36.trans (e39.trans g41.ext)))).len
 obtain ⟨b44, o44, hA44, hc44⟩ := ir_cell4 (hx29.ext (e36.trans (e39.trans g41.ext))) (i := 0) (by (show _ < 4; decide))
 refine zzz 34 (o44 + 0 * 4) (n := x28.n) (off := o44) (sz := 4) (i := 0) xq hA44 xq xq sl64 ?_ (hw := w1 16 true 32)
 refine zza 35 (.v (.pointer (some ⟨b44, o44 + 0 * 4 + 2, none⟩))) ?_ (hw := w1 16 true 32)
 refine zyk 36 (.int .i64 (gi (Nt.roL 0 1 1 4 4) 0 2)) (hc44 2 xw) ty3 ?_ (hw := w1 16 true 32)
 refine zza 37 (zB ((gi (Nt.roL 0 1 1 4 4) 0 2) == 7)) ?_ (hw := w1 16 true 32)
 refine zza 38 (zB ((gi (Nt.roL 0 1 1 4 4) 0 2) == 7)) (zyp 39 (x := zB ((gi (Nt.roL 0 1 1 4 4) 0 2) == 7)) (zB true) (by rw [show ((gi (Nt.roL 0 1 1 4 4) 0 2) == 7) = true from (show (Nt.roT 1 4 4 == 7) = true by rw [Nt.roT_14]; rfl)]) (zza 40 (.v x28.v) ?_ (hw := w1 23 true 39)))
 have hl46 := ((hx29.ext (e36.trans (e39.trans g41.ext)))).len
 obtain ⟨b46, o46, hA46, hc46⟩ := ir_cell4 (hx29.ext (e36.trans (e39.trans g41.ext))) (i := 1) (by (show _ < 4; decide))
 refine zzz 41 (o46 + 1 * 4) (n := x28.n) (off := o46) (sz := 4) (i := 1) xq hA46 xq xq sl64 ?_ (hw := w1 23 true 39)
 refine zza 42 (.v (.pointer (some ⟨b46, o46 + 1 * 4 + 2, none⟩))) ?_ (hw := w1 23 true 39)
 refine zyk 43 (.int .i64 (gi (Nt.roL 0 1 1 4 4) 1 2)) (hc46 2 xw) ty3 ?_ (hw := w1 23 true 39)
 refine zza 44 (zB ((gi (Nt.roL 0 1 1 4 4) 1 2) == (-11))) ?_ (hw := w1 23 true 39)
 refine zza 45 (zB ((gi (Nt.roL 0 1 1 4 4) 1 2) == (-11))) (zyp 46 (x := zB ((gi (Nt.roL 0 1 1 4 4) 1 2) == (-11))) (zB true) (by rw [show ((gi (Nt.roL 0 1 1 4 4) 1 2) == (-11)) = true from (show (-Nt.roS 1 4 4 == -11) = true by rw [Nt.roS_14]; rfl)]) (zza 47 (.v x28.v) ?_ (hw := w1 30 true 46)))
 have hl48 := ((hx29.ext (e36.trans (e39.trans g41.ext)))).len
 obtain ⟨b48, o48, hA48, hc48⟩ := ir_cell4 (hx29.ext (e36.trans (e39.trans g41.ext))) (i := 3) (by (show _ < 4; decide))
 refine zzz 48 (o48 + 3 * 4) (n := x28.n) (off := o48) (sz := 4) (i := 3) xq hA48 xq xq sl64 ?_ (hw := w1 30 true 46)
 refine zza 49 (.v (.pointer (some ⟨b48, o48 + 3 * 4 + 3, none⟩))) ?_ (hw := w1 30 true 46)
 refine zyk 50 (.int .i64 (gi (Nt.roL 0 1 1 4 4) 3 3)) (hc48 3 xw) ty3 ?_ (hw := w1 30 true 46)
 refine zza 51 (zB ((gi (Nt.roL 0 1 1 4 4) 3 3) == (-2))) ?_ (hw := w1 30 true 46)
 refine zza 52 (zB ((gi (Nt.roL 0 1 1 4 4) 3 3) == (-2))) (zza 0 (zB ((gi (Nt.roL 0 1 1 4 4) 3 3) == (-2))) (zzc 53 [(0, zB ((gi (Nt.roL 0 1 1 4 4) 3 3) == (-2)))] [] (zzn (ret0 [.bool ((gi (Nt.roL 0 1 1 4 4) 3 3) == (-2))] ⟨zzp, trivial⟩ fun u49 e50 => ?_))))
 show Value.bool _ = Value.bool true
 rw [show ((gi (Nt.roL 0 1 1 4 4) 3 3) == (-2)) = true from rfl]
set_option maxHeartbeats 4000000 in
theorem k_shears {u w : World} {x1 x2 x3 x4 : Sl} {l1 l2 l3 l4 : List Int} {n : Nat} {b : Int} (d : Dat u w) (hx1 : SlR .i64 u x1.a x1.n x1.c l1) (hb1 : ∀ z ∈ l1, -9223372036854775808 ≤ z ∧ z ≤ 9223372036854775807) (hx2 : SlR .i64 u x2.a x2.n x2.c l2) (hb2 : ∀ z ∈ l2, -9223372036854775808 ≤ z ∧ z ≤ 9223372036854775807) (hx3 : SlR .i64 u x3.a x3.n x3.c l3) (hb3 : ∀ z ∈ l3, -9223372036854775808 ≤ z ∧ z ≤ 9223372036854775807) (hx4 : SlR .i64 u x4.a x4.n x4.c l4) (hb4 : ∀ z ∈ l4, -9223372036854775808 ≤ z ∧ z ≤ 9223372036854775807) (hn1 : 2 ≤ n) (hn2 : n ≤ 64) (hb0 : 0 ≤ b) (hb9 : b ≤ 2097152) : Calls Tryz.prog 46 #[.agg #[x1.v, x2.v, x3.v, x4.v], .int .i64 (n : Int), .int .i64 b] w (Post u w fun v u' => ∃ (y : Sl) (L : List (List Int)), v = y.v ∧ IrV 4 u' y L ∧ L.length ≤ 12 ∧ ∀ p ∈ L, Nt.shC (n : Int) b p) := by
 have hl1 : l1.length = x1.n := hx1.1
 have hl2 : l2.length = x2.n := hx2.1
 have hl3 : l3.length = x3.n := hx3.1
 have hl4 : l4.length = x4.n := hx4.1
 refine zzl (args := [.agg #[.slice x1.a x1.n x1.c, .slice x2.a x2.n x2.c, .slice x3.a x3.n x3.c, .slice x4.a x4.n x4.c], .int .i64 n, .int .i64 b]) Tryz.func46 rfl Tryz.ntmps46 (rs := [.tmp 6]) Tryz.results46 (le_b rfl) (le_b rfl) d ?_
 refine sq9 (zzj 3 ⟨63, [x1.v, x2.v, x3.v, x4.v]⟩ (zza 6 (.v (.slice none 0 0)) (zzb (sq9 (zza 7 (.v (.slice none 0 0)) (zzb (zzd (sq9 (zza 8 (zI 0) (zzb (zzs ?_)))))))))))
 refine zym (I := fun m11 S' u' => (m11 = (min l1.length 12) ∧ S' = St.of 72 [(1, zI n), (2, zI b), (3, .adr 3 0), (7, .v (.slice none 0 0)), (8, zI 0)] [(3, ⟨63, [.slice x1.a x1.n x1.c, .slice x2.a x2.n x2.c, .slice x3.a x3.n x3.c, .slice x4.a x4.n x4.c]⟩)] ∧ Ext u u') ∨ (∃ (i : Nat) (L : List (List Int)) (cs : List Value) (cp : Nat), m11 = (min l1.length 12) - i ∧ i ≤ (min l1.length 12) ∧ 0 < i ∧ L.length = i ∧ cs.length = cp * 4 ∧ i ≤ cp ∧ cp ≤ maxLen ∧ cs.take (i * 4) = kcs L ∧ S' = St.of 72 [(1, zI n), (2, zI b), (3, .adr 3 0), (7, .slc 70 0 i cp), (8, zI i)] [(3, ⟨63, [.slice x1.a x1.n x1.c, .slice x2.a x2.n x2.c, .slice x3.a x3.n x3.c, .slice x4.a x4.n x4.c]⟩), (70, ⟨90, cs⟩)] ∧ Ext u u' ∧ (∀ p ∈ L, Nt.shC (n : Int) b p))) (fun m S u1 u2 e h => by rcases h with ⟨a, b, c⟩ | ⟨a1, a2, a3, a4, b1, b2, b3, b4, b5, b6, b7, b8, b9, b10, b11⟩; exact .inl ⟨a, b, c.trans e⟩; exact .inr ⟨a1, a2, a3, a4, b1, b2, b3, b4, b5, b6, b7, b8, b9, b10.trans e, b11⟩) _ yz (.inl ⟨rfl, rfl, Ext.refl _⟩) ?_
 rintro m11 _ u11 (⟨hm11, rfl, e11⟩ | ⟨i, L, cs, cp, hm11, hi, hp, hL, hc, hle, hmx, ht, rfl, e11, hP⟩)
 ·change SW _ _ _ _ (St.of 72 [(1, .v (.int .i64 (n : Int))), (2, .v (.int .i64 b)), (3, .adr 3 0), (7, .v (.slice none 0 0)), (8, .v (.int .i64 0))] [(3, ⟨63, [.slice x1.a x1.n x1.c, .slice x2.a x2.n x2.c, .slice x3.a x3.n x3.c, .slice x4.a x4.n x4.c]⟩)]) _ _
  refine zzd (sq9 (zza 11 (zI 0) (zza 12 (.adr 3 0) (zzh 13 (.v x1.v) ty30 zzk (zza 14 (zI x1.n) (zza 15 (zB (decide ((0 : Int) < (x1.n : Int)))) ?_))))))
  rcases Bool.eq_false_or_eq_true (decide ((0 : Int) < (x1.n : Int))) with hs12 | hs12
  ·refine zyp 16 (x := zB (decide ((0 : Int) < (x1.n : Int)))) (zB true) (by rw [hs12]) ?_
   have qhs12 := of_decide_eq_true hs12
   refine zza 17 (zI 0) ?_ (hw := w1 5 true 16)
   refine zza 18 (zB true) ?_ (hw := w1 5 true 16)
   refine zza 19 (zB true) (zzb (zyq xj (zzr (zzo ?_))))
   refine zzd (zzs (sq9 (zza 22 (.adr 3 0) (zzh 23 (.v x1.v) ty30 zzk (zza 24 (zI 0) ?_)))))
   have hl13 := ((hx1.ext e11)).1
   obtain ⟨b13, o13, hA13, hc13⟩ := ints_at (hx1.ext e11) (i := 0) xq
   have hz13 := ints_bd hb1 xq 0
   refine zzz 25 (o13 + 0 * 1) (n := x1.n) (off := o13) (sz := 1) (i := 0) xq hA13 xq xq sl30 (zyk 26 (.int .i64 (l1.getD 0 0)) hc13 ty3 (zza 27 (zI n) (zzg 28 45 [.int .i64 (l1.getD 0 0), .int .i64 n] ?_)))
   intro w14 u14 e14 d14
   have k19 := (show Calls _ _ #[.int .i64 (l1.getD 0 0), .int .i64 (n : Int)] _ _ from k_withinN (n := (l1.getD 0 0)) (m := (n : Int)) d14 xq xq xq xq)
   with_reducible refine zPm k19 ?_
   rintro _ u17 g18 ⟨z15, rfl, h16⟩
   refine zza 9 (zI z15) (zzb (zzd (zzy [0, 0, 2, 0, 8, 0, 56, 0, 128, 504, 1022, 0, 4094, 0, 8192, 0, 58360, 123896, 254968, 0, 0, 1048576, 0, 7595000, 15983608, 33285112, 66839544, 133948408, 268435455, 0, 1073741823] [(0, []), (1, []), (2, []), (3, []), (4, []), (5, []), (7, []), (8, []), (11, []), (13, []), (14, []), (15, []), (19, []), (20, []), (21, []), (22, []), (29, []), (6, []), (9, []), (10, []), (12, []), (16, []), (17, []), (18, []), (23, []), (24, []), (25, [53]), (26, []), (27, []), (28, []), (30, [])] xj xj (zza 29 (zI z15) (zza 30 (zI z15) (zyp 31 (x := zI (IntKind.i64.wrap ((z15 : Int) + 1))) (zI (z15 + 1 : Nat)) (eqI xz) (zza 32 (.adr 3 1) (zzh 33 (.v x2.v) ty30 zzk (zza 34 (zI 0) (zza 36 (zI n) (zyp 37 (x := zI (IntKind.i64.wrap ((n : Int) - 1))) (zI (n - 1 : Nat)) (eqI xz) ?_)))))))))))
   refine zza 40 (zI n) (zza 42 (.adr 3 3) (zzh 43 (.v x4.v) ty30 zzk (zza 44 (zI 0) (zza 48 (zI b) (zza 49 (.adr 3 2) (zzh 50 (.v x3.v) ty30 zzk (zza 51 (zI 0) (zzj 10 ⟨90, [.int .i64 0, .int .i64 0, .int .i64 0, .int .i64 0]⟩ (zzg 35 48 [x2.v, .int .i64 0] ?_)))))))))
   intro w20 u20 e20 d20
   have k23 := (show Calls _ _ #[_, .int .i64 0] _ _ from k_wat (x := x2) (i := 0) d20 (hx2.ext (e11.trans (e14.trans (g18.ext.trans e20)))) hb2 xq)
   with_reducible refine zPm k23 ?_
   rintro _ u21 g22 rfl
   have hz24 := ints_bd hb2 xq 0
   refine zzg 38 45 [.int .i64 (l2.getD 0 0), .int .i64 (n - 1 : Nat)] ?_
   intro w25 u25 e25 d25
   have k30 := (show Calls _ _ #[.int .i64 (l2.getD 0 0), .int .i64 ((n - 1 : Nat) : Int)] _ _ from k_withinN (n := (l2.getD 0 0)) (m := ((n - 1 : Nat) : Int)) d25 xq xq xq xq)
   with_reducible refine zPm k30 ?_
   rintro _ u28 g29 ⟨z26, rfl, h27⟩
   refine zyp 39 (x := zI (IntKind.i64.wrap (((z15 + 1 : Nat) : Int) + (z26 : Int)))) (zI (((z15 + 1) + z26 : Nat) : Int)) (eqI xz) ?_
   have hog31 := Nt.from_ok (n := n) (t := z15) (f := z26) xq xq
   obtain ⟨g31, hgg31⟩ : ∃ g, (z15 + 1 + z26) % n = g := ⟨_, rfl⟩
   rw [hgg31] at hog31
   refine sy_rem 41 (n := (((z15 + 1) + z26 : Nat) : Int)) (m := (n : Int)) ((g31 : Nat) : Int) xq (by rw [Int.tmod_eq_emod_of_nonneg xq, ← hgg31, Int.natCast_emod]) ?_
   refine zzg 45 48 [x4.v, .int .i64 0] ?_
   intro w32 u32 e32 d32
   have k35 := (show Calls _ _ #[_, .int .i64 0] _ _ from k_wat (x := x4) (i := 0) d32 (hx4.ext (e11.trans (e14.trans (g18.ext.trans (e20.trans (g22.ext.trans (e25.trans (g29.ext.trans e32)))))))) hb4 xq)
   with_reducible refine zPm k35 ?_
   rintro _ u33 g34 rfl
   have hz36 := ints_bd hb4 xq 0
   refine zzg 46 45 [.int .i64 (l4.getD 0 0), .int .i64 10] ?_
   intro w37 u37 e37 d37
   have k42 := (show Calls _ _ #[.int .i64 (l4.getD 0 0), .int .i64 10] _ _ from k_withinN (n := (l4.getD 0 0)) (m := 10) d37 xq xq xq xq)
   with_reducible refine zPm k42 ?_
   rintro _ u40 g41 ⟨z38, rfl, h39⟩
   refine zyp 47 (x := zI (IntKind.i64.wrap ((z38 : Int) - 2))) (zI ((z38 : Int) - 2)) yq (zzg 52 48 [x3.v, .int .i64 0] ?_)
   intro w43 u43 e43 d43
   have k46 := (show Calls _ _ #[_, .int .i64 0] _ _ from k_wat (x := x3) (i := 0) d43 (hx3.ext (e11.trans (e14.trans (g18.ext.trans (e20.trans (g22.ext.trans (e25.trans (g29.ext.trans (e32.trans (g34.ext.trans (e37.trans (g41.ext.trans e43)))))))))))) hb3 xq)
   with_reducible refine zPm k46 ?_
   rintro _ u44 g45 rfl
   have hz47 := ints_bd hb3 xq 0
   refine sy_lit 53 ⟨3, [.int .i64 (l3.getD 0 0)]⟩ 1 ?_
   refine zyn 54 55 [.v (.int .i64 b), .slc 53 0 1 1, zI 1] [53] (.inr rfl) (pub_mk xk) (k := ?_)
   intro B48 w48 u48 e48 d48 v48
   have h50 : u48.heap[B48 53]? = some (.cells #[.int .i64 (l3.getD 0 0)] 3 (0, 0)) := v48 53 (by simp) _ rfl
   obtain ⟨b49, hBb49⟩ : ∃ b, B48 53 = b := ⟨_, rfl⟩
   rw [hBb49] at h50
   have hp51 : SlR .i64 u48 ((⟨some ⟨b49, 0, none⟩, 1, 1⟩ : Sl)).a ((⟨some ⟨b49, 0, none⟩, 1, 1⟩ : Sl)).n ((⟨some ⟨b49, 0, none⟩, 1, 1⟩ : Sl)).c [(l3.getD 0 0)] := ints_data h50 rfl rfl (Nat.le_refl _) (by show 1 ≤ maxLen; unfold maxLen; omega)
   show Calls _ _ #[.int .i64 b, .slice (some ⟨B48 53, 0, none⟩) 1 1, .int .i64 1] _ _
   rw [hBb49]
   have k55 := (show Calls _ _ #[.int .i64 b, .slice (⟨some ⟨b49, 0, none⟩, 1, 1⟩ : Sl).a (⟨some ⟨b49, 0, none⟩, 1, 1⟩ : Sl).n (⟨some ⟨b49, 0, none⟩, 1, 1⟩ : Sl).c, .int .i64 1] _ _ from k_belowN (x := (⟨some ⟨b49, 0, none⟩, 1, 1⟩ : Sl)) (b := b) (n := 1) d48 hp51 (bd_one xq) xq xq xq)
   with_reducible refine zPm k55 ?_
   rintro _ u53 g54 ⟨y52, m52, rfl, hln52, hs52, hal52⟩
   have hly52 : m52.length = y52.n := hs52.1
   have hl56 := (hs52).1
   obtain ⟨b56, o56, hA56, hc56⟩ := ints_at hs52 (i := 0) xq
   have hz56 := ints_bd hal52 xq 0
   refine zzz 55 (o56 + 0 * 1) (n := y52.n) (off := o56) (sz := 1) (i := 0) xq hA56 xq xq sl30 (zyk 56 (.int .i64 (m52.getD 0 0)) hc56 ty3 (zza 57 (.v (.agg #[.int .i64 z15, .int .i64 g31, .int .i64 (m52.getD 0 0), .int .i64 ((z38 : Int) - 2)])) (zzi ⟨90, [.int .i64 z15, .int .i64 g31, .int .i64 (m52.getD 0 0), .int .i64 ((z38 : Int) - 2)]⟩ ty90 ?_)))
   refine zzc 72 [(1, zI n), (2, zI b), (3, .adr 3 0), (7, .v (.slice none 0 0)), (8, zI 0), (9, zI z15), (10, .adr 10 0)] [(3, ⟨63, [x1.v, x2.v, x3.v, x4.v]⟩), (10, ⟨90, [.int .i64 z15, .int .i64 g31, .int .i64 (m52.getD 0 0), .int .i64 ((z38 : Int) - 2)]⟩)] (zzd (zzd ?_))
   have hcf := ints_bd hal52 xq 0
   obtain ⟨cz, hcz⟩ : ∃ z, m52.getD 0 0 = z := ⟨_, rfl⟩
   rw [hcz] at hcf ⊢
   refine zzf (zza 58 (.adr 10 3) (zzh 59 (zI ((z38 : Int) - 2)) ty3 zzk (zza 60 (zB (decide (((z38 : Int) - 2) < 0))) (zzb (zzt (b := decide (((z38 : Int) - 2) < 0)) xj (fun hb57 => ?_) (fun hb57 => ?_))))))
   ·replace hb57 : (decide (((z38 : Int) - 2) < 0)) = true := hb57
    have qhb57 := of_decide_eq_true hb57
    refine zzf (zza 61 (.adr 10 2) (zzi ⟨90, [.int .i64 z15, .int .i64 g31, .int .i64 0, .int .i64 ((z38 : Int) - 2)]⟩ ty3 ?_))
    refine zzb (zzd (sq9 (zza 62 (.adr 10 3) (zzh 63 (zI ((z38 : Int) - 2)) ty3 zzk (zza 64 (zB (((z38 : Int) - 2) == (-2))) (zzb (zzt (b := ((z38 : Int) - 2) == (-2)) xj (fun hb58 => ?_) (fun hb58 => ?_))))))))
    ·replace hb58 : (((z38 : Int) - 2) == (-2)) = true := hb58
     have qhb58 : ((z38 : Int) - 2) = (-2) := by simpa using hb58
     refine zzf (zza 65 (zI z15) (zza 66 (.adr 10 1) (zzi ⟨90, [.int .i64 z15, .int .i64 z15, .int .i64 0, .int .i64 ((z38 : Int) - 2)]⟩ ty3 ?_)))
     refine zzb (zzf (zza 67 (.v (.slice none 0 0)) (zzh 68 (.v (.agg #[.int .i64 z15, .int .i64 z15, .int .i64 0, .int .i64 ((z38 : Int) - 2)])) ty90 zze (zxw 69 ⟨90, [.int .i64 z15, .int .i64 z15, .int .i64 0, .int .i64 ((z38 : Int) - 2)]⟩ 1 (fun b59 u60 e61 h62 => ?_)))))
     refine sy_app0 70 (T := 64) (E := 90) (z := .agg #[.int .i64 0, .int .i64 0, .int .i64 0, .int .i64 0]) (size := 4) (bytes := 32) (b := b59) (off := 0) (m := 1) [.int .i64 z15, .int .i64 z15, .int .i64 0, .int .i64 ((z38 : Int) - 2)] xj xj xj xw rfl (lit_news ((Ext.refl _).cells h62)) (ics_one (p := [(z15 : Int), (z15 : Int), 0, (z38 : Int) - 2])) xw xw xw ?_
     intro c63 cs63 ha63 hb63 hc63 hd63
     have hd63r : cs63.take (1 * 4) = kcs ([[(z15 : Int), (z15 : Int), 0, (z38 : Int) - 2]]) := hd63
     refine zza 7 (.slc 70 0 1 c63) (zzw ?_)
     refine zzo (zzf (zza 20 (zI 0) (zza 21 (zI 1) (zza 8 (zI 1) (zzw ?_)))))
     refine ⟨_, ?_, _, by exact zzu _ _ _, .inr ⟨1, [[(z15 : Int), (z15 : Int), 0, (z38 : Int) - 2]], cs63, c63, rfl, by omega, by omega, by simp, hc63, by omega, hb63, hd63r, rfl, (e11.trans (e14.trans (g18.ext.trans (e20.trans (g22.ext.trans (e25.trans (g29.ext.trans (e32.trans (g34.ext.trans (e37.trans (g41.ext.trans (e43.trans (g45.ext.trans (e48.trans (g54.ext.trans e61))))))))))))))), (Nt.shC_snoc (L := []) Nt.shC_nil (Nt.shC_mk xq xq xq xq xq xq xq))⟩⟩
     omega
    ·replace hb58 : (((z38 : Int) - 2) == (-2)) = false := hb58
     have qhb58 : ¬ ((z38 : Int) - 2) = (-2) := by simpa using hb58
     refine zzr (zzo ?_)
     refine zzf (zza 67 (.v (.slice none 0 0)) (zzh 68 (.v (.agg #[.int .i64 z15, .int .i64 g31, .int .i64 0, .int .i64 ((z38 : Int) - 2)])) ty90 zze (zxw 69 ⟨90, [.int .i64 z15, .int .i64 g31, .int .i64 0, .int .i64 ((z38 : Int) - 2)]⟩ 1 (fun b64 u65 e66 h67 => ?_))))
     refine sy_app0 70 (T := 64) (E := 90) (z := .agg #[.int .i64 0, .int .i64 0, .int .i64 0, .int .i64 0]) (size := 4) (bytes := 32) (b := b64) (off := 0) (m := 1) [.int .i64 z15, .int .i64 g31, .int .i64 0, .int .i64 ((z38 : Int) - 2)] xj xj xj xw rfl (lit_news ((Ext.refl _).cells h67)) (ics_one (p := [(z15 : Int), (g31 : Int), 0, (z38 : Int) - 2])) xw xw xw ?_
     intro c68 cs68 ha68 hb68 hc68 hd68
     have hd68r : cs68.take (1 * 4) = kcs ([[(z15 : Int), (g31 : Int), 0, (z38 : Int) - 2]]) := hd68
     refine zza 7 (.slc 70 0 1 c68) (zzw ?_)
     refine zzo (zzf (zza 20 (zI 0) (zza 21 (zI 1) (zza 8 (zI 1) (zzw ?_)))))
     refine ⟨_, ?_, _, by exact zzu _ _ _, .inr ⟨1, [[(z15 : Int), (g31 : Int), 0, (z38 : Int) - 2]], cs68, c68, rfl, by omega, by omega, by simp, hc68, by omega, hb68, hd68r, rfl, (e11.trans (e14.trans (g18.ext.trans (e20.trans (g22.ext.trans (e25.trans (g29.ext.trans (e32.trans (g34.ext.trans (e37.trans (g41.ext.trans (e43.trans (g45.ext.trans (e48.trans (g54.ext.trans e66))))))))))))))), (Nt.shC_snoc (L := []) Nt.shC_nil (Nt.shC_mk xq xq xq xq xq xq xq))⟩⟩
     omega
   ·replace hb57 : (decide (((z38 : Int) - 2) < 0)) = false := hb57
    have qhb57 := of_decide_eq_false hb57
    refine zzr (zzo ?_)
    refine zzd (sq9 (zza 62 (.adr 10 3) (zzh 63 (zI ((z38 : Int) - 2)) ty3 zzk (zza 64 (zB (((z38 : Int) - 2) == (-2))) (zzb (zzt (b := ((z38 : Int) - 2) == (-2)) xj (fun hb69 => ?_) (fun hb69 => ?_)))))))
    ·replace hb69 : (((z38 : Int) - 2) == (-2)) = true := hb69
     have qhb69 : ((z38 : Int) - 2) = (-2) := by simpa using hb69
     refine zzf (zza 65 (zI z15) (zza 66 (.adr 10 1) (zzi ⟨90, [.int .i64 z15, .int .i64 z15, .int .i64 cz, .int .i64 ((z38 : Int) - 2)]⟩ ty3 ?_)))
     refine zzb (zzf (zza 67 (.v (.slice none 0 0)) (zzh 68 (.v (.agg #[.int .i64 z15, .int .i64 z15, .int .i64 cz, .int .i64 ((z38 : Int) - 2)])) ty90 zze (zxw 69 ⟨90, [.int .i64 z15, .int .i64 z15, .int .i64 cz, .int .i64 ((z38 : Int) - 2)]⟩ 1 (fun b70 u71 e72 h73 => ?_)))))
     refine sy_app0 70 (T := 64) (E := 90) (z := .agg #[.int .i64 0, .int .i64 0, .int .i64 0, .int .i64 0]) (size := 4) (bytes := 32) (b := b70) (off := 0) (m := 1) [.int .i64 z15, .int .i64 z15, .int .i64 cz, .int .i64 ((z38 : Int) - 2)] xj xj xj xw rfl (lit_news ((Ext.refl _).cells h73)) (ics_one (p := [(z15 : Int), (z15 : Int), cz, (z38 : Int) - 2])) xw xw xw ?_
     intro c74 cs74 ha74 hb74 hc74 hd74
     have hd74r : cs74.take (1 * 4) = kcs ([[(z15 : Int), (z15 : Int), cz, (z38 : Int) - 2]]) := hd74
     refine zza 7 (.slc 70 0 1 c74) (zzw ?_)
     refine zzo (zzf (zza 20 (zI 0) (zza 21 (zI 1) (zza 8 (zI 1) (zzw ?_)))))
     refine ⟨_, ?_, _, by exact zzu _ _ _, .inr ⟨1, [[(z15 : Int), (z15 : Int), cz, (z38 : Int) - 2]], cs74, c74, rfl, by omega, by omega, by simp, hc74, by omega, hb74, hd74r, rfl, (e11.trans (e14.trans (g18.ext.trans (e20.trans (g22.ext.trans (e25.trans (g29.ext.trans (e32.trans (g34.ext.trans (e37.trans (g41.ext.trans (e43.trans (g45.ext.trans (e48.trans (g54.ext.trans e72))))))))))))))), (Nt.shC_snoc (L := []) Nt.shC_nil (Nt.shC_mk xq xq xq xq xq xq xq))⟩⟩
     omega
    ·replace hb69 : (((z38 : Int) - 2) == (-2)) = false := hb69
     have qhb69 : ¬ ((z38 : Int) - 2) = (-2) := by simpa using hb69
     refine zzr (zzo ?_)
     refine zzf (zza 67 (.v (.slice none 0 0)) (zzh 68 (.v (.agg #[.int .i64 z15, .int .i64 g31, .int .i64 cz, .int .i64 ((z38 : Int) - 2)])) ty90 zze (zxw 69 ⟨90, [.int .i64 z15, .int .i64 g31, .int .i64 cz, .int .i64 ((z38 : Int) - 2)]⟩ 1 (fun b75 u76 e77 h78 => ?_))))
     refine sy_app0 70 (T := 64) (E := 90) (z := .agg #[.int .i64 0, .int .i64 0, .int .i64 0, .int .i64 0]) (size := 4) (bytes := 32) (b := b75) (off := 0) (m := 1) [.int .i64 z15, .int .i64 g31, .int .i64 cz, .int .i64 ((z38 : Int) - 2)] xj xj xj xw rfl (lit_news ((Ext.refl _).cells h78)) (ics_one (p := [(z15 : Int), (g31 : Int), cz, (z38 : Int) - 2])) xw xw xw ?_
     intro c79 cs79 ha79 hb79 hc79 hd79
     have hd79r : cs79.take (1 * 4) = kcs ([[(z15 : Int), (g31 : Int), cz, (z38 : Int) - 2]]) := hd79
     refine zza 7 (.slc 70 0 1 c79) (zzw ?_)
     refine zzo (zzf (zza 20 (zI 0) (zza 21 (zI 1) (zza 8 (zI 1) (zzw ?_)))))
     refine ⟨_, ?_, _, by exact zzu _ _ _, .inr ⟨1, [[(z15 : Int), (g31 : Int), cz, (z38 : Int) - 2]], cs79, c79, rfl, by omega, by omega, by simp, hc79, by omega, hb79, hd79r, rfl, (e11.trans (e14.trans (g18.ext.trans (e20.trans (g22.ext.trans (e25.trans (g29.ext.trans (e32.trans (g34.ext.trans (e37.trans (g41.ext.trans (e43.trans (g45.ext.trans (e48.trans (g54.ext.trans e77))))))))))))))), (Nt.shC_snoc (L := []) Nt.shC_nil (Nt.shC_mk xq xq xq xq xq xq xq))⟩⟩
     omega
  ·refine zyp 16 (x := zB (decide ((0 : Int) < (x1.n : Int)))) (zB false) (by rw [hs12]) ?_
   have qhs12 := of_decide_eq_false hs12
   refine zzm 17 (uw 5 true false 16) (zzm 18 (uw 5 true false 16) (zza 19 (zB false) (zzb (zyr xj (zyb (zzo (zzd ?_)))))))
   have hp80 : IrV 4 u11 sl0 [] := ⟨rows_nil, rfl, Nat.le_refl _, Nat.zero_le _, fun h => absurd h (Nat.lt_irrefl 0)⟩
   refine zzf (zza 71 (.v (.slice none 0 0)) (zza 6 (.v (.slice none 0 0)) (zzb (zzn (ret0 [.slice none 0 0] ⟨zzp, trivial⟩ fun u81 e82 => ?_)))))
   exact ⟨⟨none, 0, 0⟩, [], rfl, (hp80.ext e82), by first | (show 0 ≤ 12; decide) | omega, Nt.shC_nil⟩
 ·change SW _ _ _ _ (St.of 72 [(1, .v (.int .i64 (n : Int))), (2, .v (.int .i64 b)), (3, .adr 3 0), (7, .slc 70 0 i cp), (8, .v (.int .i64 (i : Int)))] [(3, ⟨63, [.slice x1.a x1.n x1.c, .slice x2.a x2.n x2.c, .slice x3.a x3.n x3.c, .slice x4.a x4.n x4.c]⟩), (70, ⟨90, cs⟩)]) _ _
  refine zzd (sq9 (zza 11 (zI i) (zza 12 (.adr 3 0) (zzh 13 (.v x1.v) ty30 zzk (zza 14 (zI x1.n) (zza 15 (zB (decide ((i : Int) < (x1.n : Int)))) ?_))))))
  rcases Bool.eq_false_or_eq_true (decide ((i : Int) < (x1.n : Int))) with hs83 | hs83
  ·refine zyp 16 (x := zB (decide ((i : Int) < (x1.n : Int)))) (zB true) (by rw [hs83]) ?_
   have qhs83 := of_decide_eq_true hs83
   refine zza 17 (zI i) ?_ (hw := w1 5 true 16)
   refine zza 18 (zB (decide ((i : Int) < 12))) ?_ (hw := w1 5 true 16)
   refine zza 19 (zB (decide ((i : Int) < 12))) (zzb (zzt (b := decide ((i : Int) < 12)) xj (fun hb84 => ?_) (fun hb84 => ?_)))
   ·replace hb84 : (decide ((i : Int) < 12)) = true := hb84
    have qhb84 := of_decide_eq_true hb84
    refine zzr (zzo ?_)
    refine zzd (zzs (sq9 (zza 22 (.adr 3 0) (zzh 23 (.v x1.v) ty30 zzk (zza 24 (zI i) ?_)))))
    have hl85 := ((hx1.ext e11)).1
    obtain ⟨b85, o85, hA85, hc85⟩ := ints_at (hx1.ext e11) (i := i) xq
    have hz85 := ints_bd hb1 xq i
    refine zzz 25 (o85 + i * 1) (n := x1.n) (off := o85) (sz := 1) (i := (i : Int)) xq hA85 xq xq sl30 (zyk 26 (.int .i64 (l1.getD i 0)) hc85 ty3 (zza 27 (zI n) (zzg 28 45 [.int .i64 (l1.getD i 0), .int .i64 n] ?_)))
    intro w86 u86 e86 d86
    have k91 := (show Calls _ _ #[.int .i64 (l1.getD i 0), .int .i64 (n : Int)] _ _ from k_withinN (n := (l1.getD i 0)) (m := (n : Int)) d86 xq xq xq xq)
    with_reducible refine zPm k91 ?_
    rintro _ u89 g90 ⟨z87, rfl, h88⟩
    refine zza 9 (zI z87) (zzb (zzd (zzy [0, 0, 2, 0, 8, 0, 56, 0, 128, 504, 1022, 0, 4094, 0, 8192, 0, 58360, 123896, 254968, 0, 0, 1048576, 0, 7595000, 15983608, 33285112, 66839544, 133948408, 268435455, 0, 1073741823] [(0, []), (1, []), (2, []), (3, []), (4, []), (5, []), (7, []), (8, []), (11, []), (13, []), (14, []), (15, []), (19, []), (20, []), (21, []), (22, []), (29, []), (6, []), (9, []), (10, []), (12, []), (16, []), (17, []), (18, []), (23, []), (24, []), (25, [53]), (26, []), (27, []), (28, []), (30, [])] xj xj (zza 29 (zI z87) (zza 30 (zI z87) (zyp 31 (x := zI (IntKind.i64.wrap ((z87 : Int) + 1))) (zI (z87 + 1 : Nat)) (eqI xz) (zza 32 (.adr 3 1) (zzh 33 (.v x2.v) ty30 zzk (zza 34 (zI i) (zza 36 (zI n) (zyp 37 (x := zI (IntKind.i64.wrap ((n : Int) - 1))) (zI (n - 1 : Nat)) (eqI xz) ?_)))))))))))
    refine zza 40 (zI n) (zza 42 (.adr 3 3) (zzh 43 (.v x4.v) ty30 zzk (zza 44 (zI i) (zza 48 (zI b) (zza 49 (.adr 3 2) (zzh 50 (.v x3.v) ty30 zzk (zza 51 (zI i) (zzj 10 ⟨90, [.int .i64 0, .int .i64 0, .int .i64 0, .int .i64 0]⟩ (zzg 35 48 [x2.v, .int .i64 i] ?_)))))))))
    intro w92 u92 e92 d92
    have k95 := (show Calls _ _ #[_, .int .i64 (i : Int)] _ _ from k_wat (x := x2) (i := i) d92 (hx2.ext (e11.trans (e86.trans (g90.ext.trans e92)))) hb2 xq)
    with_reducible refine zPm k95 ?_
    rintro _ u93 g94 rfl
    have hz96 := ints_bd hb2 xq i
    refine zzg 38 45 [.int .i64 (l2.getD i 0), .int .i64 (n - 1 : Nat)] ?_
    intro w97 u97 e97 d97
    have k102 := (show Calls _ _ #[.int .i64 (l2.getD i 0), .int .i64 ((n - 1 : Nat) : Int)] _ _ from k_withinN (n := (l2.getD i 0)) (m := ((n - 1 : Nat) : Int)) d97 xq xq xq xq)
    with_reducible refine zPm k102 ?_
    rintro _ u100 g101 ⟨z98, rfl, h99⟩
    refine zyp 39 (x := zI (IntKind.i64.wrap (((z87 + 1 : Nat) : Int) + (z98 : Int)))) (zI (((z87 + 1) + z98 : Nat) : Int)) (eqI xz) ?_
    have hog103 := Nt.from_ok (n := n) (t := z87) (f := z98) xq xq
    obtain ⟨g103, hgg103⟩ : ∃ g, (z87 + 1 + z98) % n = g := ⟨_, rfl⟩
    rw [hgg103] at hog103
    refine sy_rem 41 (n := (((z87 + 1) + z98 : Nat) : Int)) (m := (n : Int)) ((g103 : Nat) : Int) xq (by rw [Int.tmod_eq_emod_of_nonneg xq, ← hgg103, Int.natCast_emod]) ?_
    refine zzg 45 48 [x4.v, .int .i64 i] ?_
    intro w104 u104 e104 d104
    have k107 := (show Calls _ _ #[_, .int .i64 (i : Int)] _ _ from k_wat (x := x4) (i := i) d104 (hx4.ext (e11.trans (e86.trans (g90.ext.trans (e92.trans (g94.ext.trans (e97.trans (g101.ext.trans e104)))))))) hb4 xq)
    with_reducible refine zPm k107 ?_
    rintro _ u105 g106 rfl
    have hz108 := ints_bd hb4 xq i
    refine zzg 46 45 [.int .i64 (l4.getD i 0), .int .i64 10] ?_
    intro w109 u109 e109 d109
    have k114 := (show Calls _ _ #[.int .i64 (l4.getD i 0), .int .i64 10] _ _ from k_withinN (n := (l4.getD i 0)) (m := 10) d109 xq xq xq xq)
    with_reducible refine zPm k114 ?_
    rintro _ u112 g113 ⟨z110, rfl, h111⟩
    refine zyp 47 (x := zI (IntKind.i64.wrap ((z110 : Int) - 2))) (zI ((z110 : Int) - 2)) yq (zzg 52 48 [x3.v, .int .i64 i] ?_)
    intro w115 u115 e115 d115
    have k118 := (show Calls _ _ #[_, .int .i64 (i : Int)] _ _ from k_wat (x := x3) (i := i) d115 (hx3.ext (e11.trans (e86.trans (g90.ext.trans (e92.trans (g94.ext.trans (e97.trans (g101.ext.trans (e104.trans (g106.ext.trans (e109.trans (g113.ext.trans e115)))))))))))) hb3 xq)
    with_reducible refine zPm k118 ?_
    rintro _ u116 g117 rfl
    have hz119 := ints_bd hb3 xq i
    refine sy_lit 53 ⟨3, [.int .i64 (l3.getD i 0)]⟩ 1 ?_
    refine zyn 54 55 [.v (.int .i64 b), .slc 53 0 1 1, zI 1] [53] (.inr rfl) (pub_mk xk) (k := ?_)
    intro B120 w120 u120 e120 d120 v120
    have h122 : u120.heap[B120 53]? = some (.cells #[.int .i64 (l3.getD i 0)] 3 (0, 0)) := v120 53 (by simp) _ rfl
    obtain ⟨b121, hBb121⟩ : ∃ b, B120 53 = b := ⟨_, rfl⟩
    rw [hBb121] at h122
    have hp123 : SlR .i64 u120 ((⟨some ⟨b121, 0, none⟩, 1, 1⟩ : Sl)).a ((⟨some ⟨b121, 0, none⟩, 1, 1⟩ : Sl)).n ((⟨some ⟨b121, 0, none⟩, 1, 1⟩ : Sl)).c [(l3.getD i 0)] := ints_data h122 rfl rfl (Nat.le_refl _) (by show 1 ≤ maxLen; unfold maxLen; omega)
    show Calls _ _ #[.int .i64 b, .slice (some ⟨B120 53, 0, none⟩) 1 1, .int .i64 1] _ _
    rw [hBb121]
    have k127 := (show Calls _ _ #[.int .i64 b, .slice (⟨some ⟨b121, 0, none⟩, 1, 1⟩ : Sl).a (⟨some ⟨b121, 0, none⟩, 1, 1⟩ : Sl).n (⟨some ⟨b121, 0, none⟩, 1, 1⟩ : Sl).c, .int .i64 1] _ _ from k_belowN (x := (⟨some ⟨b121, 0, none⟩, 1, 1⟩ : Sl)) (b := b) (n := 1) d120 hp123 (bd_one xq) xq xq xq)
    with_reducible refine zPm k127 ?_
    rintro _ u125 g126 ⟨y124, m124, rfl, hln124, hs124, hal124⟩
    have hly124 : m124.length = y124.n := hs124.1
    have hl128 := (hs124).1
    obtain ⟨b128, o128, hA128, hc128⟩ := ints_at hs124 (i := 0) xq
    have hz128 := ints_bd hal124 xq 0
    refine zzz 55 (o128 + 0 * 1) (n := y124.n) (off := o128) (sz := 1) (i := 0) xq hA128 xq xq sl30 (zyk 56 (.int .i64 (m124.getD 0 0)) hc128 ty3 (zza 57 (.v (.agg #[.int .i64 z87, .int .i64 g103, .int .i64 (m124.getD 0 0), .int .i64 ((z110 : Int) - 2)])) (zzi ⟨90, [.int .i64 z87, .int .i64 g103, .int .i64 (m124.getD 0 0), .int .i64 ((z110 : Int) - 2)]⟩ ty90 ?_)))
    refine zzc 72 [(1, zI n), (2, zI b), (3, .adr 3 0), (7, .slc 70 0 i cp), (8, zI i), (9, zI z87), (10, .adr 10 0)] [(3, ⟨63, [x1.v, x2.v, x3.v, x4.v]⟩), (10, ⟨90, [.int .i64 z87, .int .i64 g103, .int .i64 (m124.getD 0 0), .int .i64 ((z110 : Int) - 2)]⟩), (70, ⟨90, cs⟩)] (zzd (zzd ?_))
    have hcf := ints_bd hal124 xq 0
    obtain ⟨cz, hcz⟩ : ∃ z, m124.getD 0 0 = z := ⟨_, rfl⟩
    rw [hcz] at hcf ⊢
    refine zzf (zza 58 (.adr 10 3) (zzh 59 (zI ((z110 : Int) - 2)) ty3 zzk (zza 60 (zB (decide (((z110 : Int) - 2) < 0))) (zzb (zzt (b := decide (((z110 : Int) - 2) < 0)) xj (fun hb129 => ?_) (fun hb129 => ?_))))))
    ·replace hb129 : (decide (((z110 : Int) - 2) < 0)) = true := hb129
     have qhb129 := of_decide_eq_true hb129
     refine zzf (zza 61 (.adr 10 2) (zzi ⟨90, [.int .i64 z87, .int .i64 g103, .int .i64 0, .int .i64 ((z110 : Int) - 2)]⟩ ty3 ?_))
     refine zzb (zzd (sq9 (zza 62 (.adr 10 3) (zzh 63 (zI ((z110 : Int) - 2)) ty3 zzk (zza 64 (zB (((z110 : Int) - 2) == (-2))) (zzb (zzt (b := ((z110 : Int) - 2) == (-2)) xj (fun hb130 => ?_) (fun hb130 => ?_))))))))
     ·replace hb130 : (((z110 : Int) - 2) == (-2)) = true := hb130
      have qhb130 : ((z110 : Int) - 2) = (-2) := by simpa using hb130
      refine zzf (zza 65 (zI z87) (zza 66 (.adr 10 1) (zzi ⟨90, [.int .i64 z87, .int .i64 z87, .int .i64 0, .int .i64 ((z110 : Int) - 2)]⟩ ty3 ?_)))
      refine zzb (zzf (zza 67 (.slc 70 0 i cp) (zzh 68 (.v (.agg #[.int .i64 z87, .int .i64 z87, .int .i64 0, .int .i64 ((z110 : Int) - 2)])) ty90 zze (zxw 69 ⟨90, [.int .i64 z87, .int .i64 z87, .int .i64 0, .int .i64 ((z110 : Int) - 2)]⟩ 1 (fun b131 u132 e133 h134 => ?_)))))
      refine sy_app1 70 (T := 64) (E := 90) (z := .agg #[.int .i64 0, .int .i64 0, .int .i64 0, .int .i64 0]) (size := 4) (bytes := 32) (b := b131) (off := 0) (m := 1) (n := i) (cap := cp) (t := 70) (cs0 := cs) [7, 67, 70] [.int .i64 z87, .int .i64 z87, .int .i64 0, .int .i64 ((z110 : Int) - 2)] xj xj xj xw rfl (lit_news ((Ext.refl _).cells h134)) (ics_one (p := [(z87 : Int), (z87 : Int), 0, (z110 : Int) - 2])) xw yv xq xq xq xq xk ?_
      intro c135 cs135 ha135 hb135 hc135 hd135
      have hd135r : cs135.take ((i + 1) * 4) = kcs (L ++ [[(z87 : Int), (z87 : Int), 0, (z110 : Int) - 2]]) := by rw [hd135, ht, kcs_app]; rfl
      refine zza 7 (.slc 70 0 (i + 1) c135) (zzw ?_)
      refine zzo (zzf (zza 20 (zI i) (zyp 21 (x := zI (IntKind.i64.wrap ((i : Int) + 1))) (zI (i + 1 : Nat)) (eqI xz) (zza 8 (zI (i + 1 : Nat)) (zzw ?_)))))
      refine ⟨_, ?_, _, by exact zzu _ _ _, .inr ⟨i + 1, L ++ [[(z87 : Int), (z87 : Int), 0, (z110 : Int) - 2]], cs135, c135, rfl, by omega, by omega, by simp; omega, hc135, by omega, hb135, hd135r, rfl, (e11.trans (e86.trans (g90.ext.trans (e92.trans (g94.ext.trans (e97.trans (g101.ext.trans (e104.trans (g106.ext.trans (e109.trans (g113.ext.trans (e115.trans (g117.ext.trans (e120.trans (g126.ext.trans e133))))))))))))))), (Nt.shC_snoc (L := L) hP (Nt.shC_mk xq xq xq xq xq xq xq))⟩⟩
      omega
     ·replace hb130 : (((z110 : Int) - 2) == (-2)) = false := hb130
      have qhb130 : ¬ ((z110 : Int) - 2) = (-2) := by simpa using hb130
      refine zzr (zzo ?_)
      refine zzf (zza 67 (.slc 70 0 i cp) (zzh 68 (.v (.agg #[.int .i64 z87, .int .i64 g103, .int .i64 0, .int .i64 ((z110 : Int) - 2)])) ty90 zze (zxw 69 ⟨90, [.int .i64 z87, .int .i64 g103, .int .i64 0, .int .i64 ((z110 : Int) - 2)]⟩ 1 (fun b136 u137 e138 h139 => ?_))))
      refine sy_app1 70 (T := 64) (E := 90) (z := .agg #[.int .i64 0, .int .i64 0, .int .i64 0, .int .i64 0]) (size := 4) (bytes := 32) (b := b136) (off := 0) (m := 1) (n := i) (cap := cp) (t := 70) (cs0 := cs) [7, 67, 70] [.int .i64 z87, .int .i64 g103, .int .i64 0, .int .i64 ((z110 : Int) - 2)] xj xj xj xw rfl (lit_news ((Ext.refl _).cells h139)) (ics_one (p := [(z87 : Int), (g103 : Int), 0, (z110 : Int) - 2])) xw yv xq xq xq xq xk ?_
      intro c140 cs140 ha140 hb140 hc140 hd140
      have hd140r : cs140.take ((i + 1) * 4) = kcs (L ++ [[(z87 : Int), (g103 : Int), 0, (z110 : Int) - 2]]) := by rw [hd140, ht, kcs_app]; rfl
      refine zza 7 (.slc 70 0 (i + 1) c140) (zzw ?_)
      refine zzo (zzf (zza 20 (zI i) (zyp 21 (x := zI (IntKind.i64.wrap ((i : Int) + 1))) (zI (i + 1 : Nat)) (eqI xz) (zza 8 (zI (i + 1 : Nat)) (zzw ?_)))))
      refine ⟨_, ?_, _, by exact zzu _ _ _, .inr ⟨i + 1, L ++ [[(z87 : Int), (g103 : Int), 0, (z110 : Int) - 2]], cs140, c140, rfl, by omega, by omega, by simp; omega, hc140, by omega, hb140, hd140r, rfl, (e11.trans (e86.trans (g90.ext.trans (e92.trans (g94.ext.trans (e97.trans (g101.ext.trans (e104.trans (g106.ext.trans (e109.trans (g113.ext.trans (e115.trans (g117.ext.trans (e120.trans (g126.ext.trans e138))))))))))))))), (Nt.shC_snoc (L := L) hP (Nt.shC_mk xq xq xq xq xq xq xq))⟩⟩
      omega
    ·replace hb129 : (decide (((z110 : Int) - 2) < 0)) = false := hb129
     have qhb129 := of_decide_eq_false hb129
     refine zzr (zzo ?_)
     refine zzd (sq9 (zza 62 (.adr 10 3) (zzh 63 (zI ((z110 : Int) - 2)) ty3 zzk (zza 64 (zB (((z110 : Int) - 2) == (-2))) (zzb (zzt (b := ((z110 : Int) - 2) == (-2)) xj (fun hb141 => ?_) (fun hb141 => ?_)))))))
     ·replace hb141 : (((z110 : Int) - 2) == (-2)) = true := hb141
      have qhb141 : ((z110 : Int) - 2) = (-2) := by simpa using hb141
      refine zzf (zza 65 (zI z87) (zza 66 (.adr 10 1) (zzi ⟨90, [.int .i64 z87, .int .i64 z87, .int .i64 cz, .int .i64 ((z110 : Int) - 2)]⟩ ty3 ?_)))
      refine zzb (zzf (zza 67 (.slc 70 0 i cp) (zzh 68 (.v (.agg #[.int .i64 z87, .int .i64 z87, .int .i64 cz, .int .i64 ((z110 : Int) - 2)])) ty90 zze (zxw 69 ⟨90, [.int .i64 z87, .int .i64 z87, .int .i64 cz, .int .i64 ((z110 : Int) - 2)]⟩ 1 (fun b142 u143 e144 h145 => ?_)))))
      refine sy_app1 70 (T := 64) (E := 90) (z := .agg #[.int .i64 0, .int .i64 0, .int .i64 0, .int .i64 0]) (size := 4) (bytes := 32) (b := b142) (off := 0) (m := 1) (n := i) (cap := cp) (t := 70) (cs0 := cs) [7, 67, 70] [.int .i64 z87, .int .i64 z87, .int .i64 cz, .int .i64 ((z110 : Int) - 2)] xj xj xj xw rfl (lit_news ((Ext.refl _).cells h145)) (ics_one (p := [(z87 : Int), (z87 : Int), cz, (z110 : Int) - 2])) xw yv xq xq xq xq xk ?_
      intro c146 cs146 ha146 hb146 hc146 hd146
      have hd146r : cs146.take ((i + 1) * 4) = kcs (L ++ [[(z87 : Int), (z87 : Int), cz, (z110 : Int) - 2]]) := by rw [hd146, ht, kcs_app]; rfl
      refine zza 7 (.slc 70 0 (i + 1) c146) (zzw ?_)
      refine zzo (zzf (zza 20 (zI i) (zyp 21 (x := zI (IntKind.i64.wrap ((i : Int) + 1))) (zI (i + 1 : Nat)) (eqI xz) (zza 8 (zI (i + 1 : Nat)) (zzw ?_)))))
      refine ⟨_, ?_, _, by exact zzu _ _ _, .inr ⟨i + 1, L ++ [[(z87 : Int), (z87 : Int), cz, (z110 : Int) - 2]], cs146, c146, rfl, by omega, by omega, by simp; omega, hc146, by omega, hb146, hd146r, rfl, (e11.trans (e86.trans (g90.ext.trans (e92.trans (g94.ext.trans (e97.trans (g101.ext.trans (e104.trans (g106.ext.trans (e109.trans (g113.ext.trans (e115.trans (g117.ext.trans (e120.trans (g126.ext.trans e144))))))))))))))), (Nt.shC_snoc (L := L) hP (Nt.shC_mk xq xq xq xq xq xq xq))⟩⟩
      omega
     ·replace hb141 : (((z110 : Int) - 2) == (-2)) = false := hb141
      have qhb141 : ¬ ((z110 : Int) - 2) = (-2) := by simpa using hb141
      refine zzr (zzo ?_)
      refine zzf (zza 67 (.slc 70 0 i cp) (zzh 68 (.v (.agg #[.int .i64 z87, .int .i64 g103, .int .i64 cz, .int .i64 ((z110 : Int) - 2)])) ty90 zze (zxw 69 ⟨90, [.int .i64 z87, .int .i64 g103, .int .i64 cz, .int .i64 ((z110 : Int) - 2)]⟩ 1 (fun b147 u148 e149 h150 => ?_))))
      refine sy_app1 70 (T := 64) (E := 90) (z := .agg #[.int .i64 0, .int .i64 0, .int .i64 0, .int .i64 0]) (size := 4) (bytes := 32) (b := b147) (off := 0) (m := 1) (n := i) (cap := cp) (t := 70) (cs0 := cs) [7, 67, 70] [.int .i64 z87, .int .i64 g103, .int .i64 cz, .int .i64 ((z110 : Int) - 2)] xj xj xj xw rfl (lit_news ((Ext.refl _).cells h150)) (ics_one (p := [(z87 : Int), (g103 : Int), cz, (z110 : Int) - 2])) xw yv xq xq xq xq xk ?_
      intro c151 cs151 ha151 hb151 hc151 hd151
      have hd151r : cs151.take ((i + 1) * 4) = kcs (L ++ [[(z87 : Int), (g103 : Int), cz, (z110 : Int) - 2]]) := by rw [hd151, ht, kcs_app]; rfl
      refine zza 7 (.slc 70 0 (i + 1) c151) (zzw ?_)
      refine zzo (zzf (zza 20 (zI i) (zyp 21 (x := zI (IntKind.i64.wrap ((i : Int) + 1))) (zI (i + 1 : Nat)) (eqI xz) (zza 8 (zI (i + 1 : Nat)) (zzw ?_)))))
      refine ⟨_, ?_, _, by exact zzu _ _ _, .inr ⟨i + 1, L ++ [[(z87 : Int), (g103 : Int), cz, (z110 : Int) - 2]], cs151, c151, rfl, by omega, by omega, by simp; omega, hc151, by omega, hb151, hd151r, rfl, (e11.trans (e86.trans (g90.ext.trans (e92.trans (g94.ext.trans (e97.trans (g101.ext.trans (e104.trans (g106.ext.trans (e109.trans (g113.ext.trans (e115.trans (g117.ext.trans (e120.trans (g126.ext.trans e149))))))))))))))), (Nt.shC_snoc (L := L) hP (Nt.shC_mk xq xq xq xq xq xq xq))⟩⟩
      omega
   ·replace hb84 : (decide ((i : Int) < 12)) = false := hb84
    have qhb84 := of_decide_eq_false hb84
    refine zyb (zzo (zzd (zyo (r := 7) (t := 70) [7, 70] xk xj (by rfl) (by rfl) xj (fun b152 u153 e154 hb155 hh156 => ?_))))
    have hp157 : IrV 4 u153 ⟨some ⟨b152, 0, none⟩, i, cp⟩ L := ir_data hh156 (fun p hp => (hP p hp).1) ht xq hc hle hmx
    refine zzf (zza 71 (.v (.slice (some ⟨b152, 0, none⟩) i cp)) (zza 6 (.v (.slice (some ⟨b152, 0, none⟩) i cp)) (zzb (zzn (ret0 [.slice (some ⟨b152, 0, none⟩) i cp] ⟨zzp, trivial⟩ fun u158 e159 => ?_)))))
    exact ⟨(⟨some ⟨b152, 0, none⟩, i, cp⟩ : Sl), L, rfl, (hp157.ext e159), by first | (show 0 ≤ 12; decide) | omega, hP⟩
  ·refine zyp 16 (x := zB (decide ((i : Int) < (x1.n : Int)))) (zB false) (by rw [hs83]) ?_
   have qhs83 := of_decide_eq_false hs83
   refine zzm 17 (uw 5 true false 16) (zzm 18 (uw 5 true false 16) (zza 19 (zB false) (zzb (zyr xj (zyb (zzo (zzd (zyo (r := 7) (t := 70) [7, 70] xk xj (by rfl) (by rfl) xj (fun b160 u161 e162 hb163 hh164 => ?_)))))))))
   have hp165 : IrV 4 u161 ⟨some ⟨b160, 0, none⟩, i, cp⟩ L := ir_data hh164 (fun p hp => (hP p hp).1) ht xq hc hle hmx
   refine zzf (zza 71 (.v (.slice (some ⟨b160, 0, none⟩) i cp)) (zza 6 (.v (.slice (some ⟨b160, 0, none⟩) i cp)) (zzb (zzn (ret0 [.slice (some ⟨b160, 0, none⟩) i cp] ⟨zzp, trivial⟩ fun u166 e167 => ?_)))))
   exact ⟨(⟨some ⟨b160, 0, none⟩, i, cp⟩ : Sl), L, rfl, (hp165.ext e167), by first | (show 0 ≤ 12; decide) | omega, hP⟩
theorem k_factor {u w : World} {t f cf sh : Int} (d : Dat u w) (h0 : 0 ≤ sh) (h1 : sh ≤ 20) (hc0 : -2097152 ≤ cf) (hc1 : cf ≤ 2097152) : Calls Tryz.prog 125 #[.agg #[.int .i64 t, .int .i64 f, .int .i64 cf, .int .i64 sh]] w (Post u w fun v u' => ∃ r : RL, v = r.v ∧ RatN u' r (Nt.wq cf sh) 2) := by
 have hp1 := Nt.zxo sh
 have hp2 := Nt.p2i_24 (n := sh) xq
 refine zzl (args := [.agg #[.int .i64 t, .int .i64 f, .int .i64 cf, .int .i64 sh]]) Tryz.func125 rfl Tryz.ntmps125 (rs := [.cell 2 26]) Tryz.results125 (le_b rfl) (le_b rfl) d ?_
 refine sq9 (zzj 1 ⟨90, [.int .i64 t, .int .i64 f, .int .i64 cf, .int .i64 sh]⟩ (zzj 2 ⟨26, [.bool false, .slice none 0 0, .slice none 0 0]⟩ (zzb (zzd (zzy [0, 1, 0, 4, 12, 31, 63] [(0, []), (1, []), (2, []), (3, []), (4, []), (5, []), (6, [])] xj xj (zza 3 (.adr 1 2) (zzh 4 (zI cf) ty3 zzk (zza 5 (.adr 1 3) (zzh 6 (zI sh) ty3 zzk (sy_shl 7 (k := .i64) (s := sh) (Nt.p2i sh) xq yw (shl_one xq xq) ?_))))))))))
 refine zzg 8 127 [.int .i64 cf, .int .i64 (Nt.p2i sh)] ?_
 intro w11 u11 e11 d11
 have k16 := k_ratFrac d11 (a := cf) (b := Nt.p2i sh) xq xq xq xq
 with_reducible refine zPm k16 ?_
 rintro _ u14 g15 ⟨r12, rfl, h13⟩
 refine zzi ⟨26, r12.cs⟩ ty26 ?_
 refine zzb (zzn (ret0 [r12.v] ⟨zzq ty26 zze, trivial⟩ fun u17 e18 => ?_))
 exact ⟨r12, rfl, (h13.ext e18)⟩
set_option maxHeartbeats 4000000 in
theorem k_combine {u w v0 : World} {x : Sl} {Rs : List Sl} {Ls : List (List RL)} {M : List (List Rat)} {t f n : Nat} {cf sh : Int} (d : Dat u w) (hv : Ext v0 u) (hm : MatQ 1 54 26 v0.heap.size u x Rs Ls) (hN : MatN u Ls M 100) (hq : Nt.Sq n M) (hn9 : n ≤ 64) (hs : Nt.shOK (n : Int) [(t : Int), (f : Int), cf, sh]) (hR : ∀ i j, Nt.rs (Nt.ent (Nt.cmb [(t : Int), (f : Int), cf, sh] M) i j) ≤ 100) : Calls Tryz.prog 119 #[x.v, .agg #[.int .i64 (t : Int), .int .i64 (f : Int), .int .i64 cf, .int .i64 sh]] w (PostF (mqB x Rs) u w fun v u' => v = .tuple #[] ∧ ∃ (Rs' : List Sl) (Ls' : List (List RL)), MatQ 1 54 26 v0.heap.size u' x Rs' Ls' ∧ MatN u' Ls' (Nt.cmb [(t : Int), (f : Int), cf, sh] M) 100) := by
 obtain ⟨h1, h2, h3, h4, h5, h6, h7, h8⟩ := Nt.shOK_mk hs
 have hMl := hq.1
 have hLl : Ls.length = n := hN.1.trans hMl
 have hRsl := hm.len
 have hxn : x.n = n := hm.rows.trans hLl
 obtain ⟨yt, hyt⟩ : ∃ y, Rs.getD t sl0 = y := ⟨_, rfl⟩
 have hrowt := hm.row t xq
 rw [hyt] at hrowt
 have hnt : yt.n = n := by rw [MutQ.rown hrowt, MatN.rowlen hN (by rw [hMl]; omega)]; exact hq.2 t xq
 obtain ⟨yf, hyf⟩ : ∃ y, Rs.getD f sl0 = y := ⟨_, rfl⟩
 have hrowf := hm.row f xq
 rw [hyf] at hrowf
 have hnf : yf.n = n := by rw [MutQ.rown hrowf, MatN.rowlen hN (by rw [hMl]; omega)]; exact hq.2 f xq
 refine calls_symF (F := mqB x Rs) (args := [.slice x.a x.n x.c, .agg #[.int .i64 (t : Int), .int .i64 (f : Int), .int .i64 cf, .int .i64 sh]]) Tryz.func119 rfl Tryz.ntmps119 (rs := []) Tryz.results119 (le_b rfl) (le_b rfl) d ?_
 refine sq9 (zzj 3 ⟨90, [.int .i64 t, .int .i64 f, .int .i64 cf, .int .i64 sh]⟩ (zzb (sq9 (zza 9 (.adr 3 3) (zzh 10 (zI sh) ty3 zzk (zzb (zzs (sq9 (zza 45 (zB (sh == (-1))) (zza 44 (zB (sh == (-1))) (zzb ?_)))))))))))
 refine zzt (b := sh == (-1)) xj (fun hb11 => ?_) (fun hb11 => ?_)
 ·replace hb11 : (sh == (-1)) = true := hb11
  have qhb11 : sh = (-1) := by simpa using hb11
  refine sw_anyX xj 20 rfl ?_
  refine takeX 3 49 19 (.v (.slice x.a x.n x.c)) #[false, false, false, true, false, false, false, false, false, false, false, false, false, false, false, false, false, false, false, false] ?_
  refine takeXa 4 50 18 3 0 1 #[false, false, false, true, true, false, false, false, false, false, false, false, false, false, false, false, false, false, false, false] ?_
  refine restX [0, 0, 2, 0, 0, 16, 0, 0, 128, 448, 960, 0, 0, 4096, 14336, 30720, 65479, 131015, 262143, 524287] [(0, []), (1, []), (2, []), (6, []), (7, []), (8, []), (9, []), (10, []), (11, []), (12, []), (13, []), (14, []), (15, []), (16, [])] [(5, [])] (17, []) [(18, []), (19, [])] xj ?_
  refine zza 46 (.v x.v) (zza 47 (.adr 3 0) (zzh 48 (zI t) ty3 zzk (zza 52 (.v x.v) (zza 53 (.adr 3 1) (zzh 54 (zI f) ty3 zzk ?_)))))
  obtain ⟨b12, hA12, hc12⟩ := MatQ.cell (i := f) hm xq
  refine zzz 55 (0 + f * 1) (n := x.n) (off := 0) (sz := 1) (i := (f : Int)) xq hA12 xq xq sl71 ?_
  rw [hyf] at hc12
  refine zyk 56 yf.v hc12 ty54 (zza 57 (.v x.v) (zza 58 (.adr 3 0) (zzh 59 (zI t) ty3 zzk ?_)))
  obtain ⟨b13, hA13, hc13⟩ := MatQ.cell (i := t) hm xq
  refine zzz 60 (0 + t * 1) (n := x.n) (off := 0) (sz := 1) (i := (t : Int)) xq hA13 xq xq sl71 ?_
  rw [hyt] at hc13
  refine zyk 61 yt.v hc13 ty54 ?_
  obtain ⟨b14, hA14, hc14⟩ := MatQ.cell (i := t) hm xq
  refine zzz 62 (0 + t * 1) (n := x.n) (off := 0) (sz := 1) (i := (t : Int)) xq hA14 xq xq sl71 (zzw ?_)
  refine exitsK_both ?_ ?_
  ·skip
   have hq15 := hm
   refine sy_storeQ (v := .slice yf.a yf.n yf.c) (off := 0 + t * 1) (n := 1) x (MatQ.out hq15) (fun a ha => .inr (mqB_x ha)) hA14 ty54 (by rw [List.length_map, MatQ.len hq15]; omega) (nu_sls [yf]) (fun u15 hm15 eX15 => ?_)
   have hn15 : MutQ 1 54 v0.heap.size u15 x ((Rs.set t yf).map Sl.v) := by rw [← setL_map (y := yf) (i := t) (by rw [MatQ.len hq15]; omega)]; exact hm15
   have eX15r := ExtX.root eX15 (MutQ.mutL (MatQ.out hq15)) hv
   refine zzh 51 (zI f) ty3 zzk ?_
   obtain ⟨b16, hA16, _⟩ := MatQ.cell (i := f) hq15 xq
   refine zzz 63 (0 + f * 1) (n := x.n) (off := 0) (sz := 1) (i := (f : Int)) xq hA16 xq xq sl71 (sy_storeQ (v := .slice yt.a yt.n yt.c) (off := 0 + f * 1) (n := 1) x hn15 (fun a ha => .inr (mqB_x ha)) hA16 ty54 (by rw [List.length_map, List.length_set, MatQ.len hq15]; omega) (nu_sls [yt]) (fun u17 hm17 eX17 => ?_))
   have hn17 : MutQ 1 54 v0.heap.size u17 x (((Rs.set t yf).set f yt).map Sl.v) := by rw [← setL_map (y := yt) (i := f) (by rw [List.length_set, MatQ.len hq15]; omega)]; exact hm17
   have eX17r := ExtX.root eX17 (MutQ.mutL hn15) eX15r
   have hW17 := MatQ.swap (p := t) (t := f) xw hq15 xq xq (by rw [hyt, hyf]; exact hn17) (ExtX.trans eX15 eX17)
   have hV17 := MatN.keep (MatN.swap (t := t) (f := f) hN (by rw [hq.1]; omega) (by rw [hq.1]; omega)) (MatQ.out hq15) (ExtX.trans eX15 eX17)
   refine zzw ?_
   refine ⟨[], [], trivial, (fun t h => by cases h), fun B u1 e1 _ => ⟨rfl, ?_⟩⟩
   refine ⟨_, _, (hW17).ext e1, ?_⟩
   rw [Nt.cmb_x qhb11]
   exact (hV17).ext e1
  ·skip
   refine zzh 51 (zI f) ty3 zzk (zzw ?_)
   refine exitsK_last ?_
   have hq18 := hm
   refine sy_storeQ (v := .slice yf.a yf.n yf.c) (off := 0 + t * 1) (n := 1) x (MatQ.out hq18) (fun a ha => .inr (mqB_x ha)) hA14 ty54 (by rw [List.length_map, MatQ.len hq18]; omega) (nu_sls [yf]) (fun u18 hm18 eX18 => ?_)
   have hn18 : MutQ 1 54 v0.heap.size u18 x ((Rs.set t yf).map Sl.v) := by rw [← setL_map (y := yf) (i := t) (by rw [MatQ.len hq18]; omega)]; exact hm18
   have eX18r := ExtX.root eX18 (MutQ.mutL (MatQ.out hq18)) hv
   obtain ⟨b19, hA19, _⟩ := MatQ.cell (i := f) hq18 xq
   refine zzz 63 (0 + f * 1) (n := x.n) (off := 0) (sz := 1) (i := (f : Int)) xq hA19 xq xq sl71 (sy_storeQ (v := .slice yt.a yt.n yt.c) (off := 0 + f * 1) (n := 1) x hn18 (fun a ha => .inr (mqB_x ha)) hA19 ty54 (by rw [List.length_map, List.length_set, MatQ.len hq18]; omega) (nu_sls [yt]) (fun u20 hm20 eX20 => ?_))
   have hn20 : MutQ 1 54 v0.heap.size u20 x (((Rs.set t yf).set f yt).map Sl.v) := by rw [← setL_map (y := yt) (i := f) (by rw [List.length_set, MatQ.len hq18]; omega)]; exact hm20
   have eX20r := ExtX.root eX20 (MutQ.mutL hn18) eX18r
   have hW20 := MatQ.swap (p := t) (t := f) xw hq18 xq xq (by rw [hyt, hyf]; exact hn20) (ExtX.trans eX18 eX20)
   have hV20 := MatN.keep (MatN.swap (t := t) (f := f) hN (by rw [hq.1]; omega) (by rw [hq.1]; omega)) (MatQ.out hq18) (ExtX.trans eX18 eX20)
   refine zzw ?_
   refine ⟨[], [], trivial, (fun t h => by cases h), fun B u1 e1 _ => ⟨rfl, ?_⟩⟩
   refine ⟨_, _, (hW20).ext e1, ?_⟩
   rw [Nt.cmb_x qhb11]
   exact (hV20).ext e1
 ·replace hb11 : (sh == (-1)) = false := hb11
  have qhb11 : ¬ sh = (-1) := by simpa using hb11
  refine sq9 (zza 65 (zB (sh == (-2))) (zza 64 (zB (sh == (-2))) (zzb (zzt (b := sh == (-2)) xj (fun hb21 => ?_) (fun hb21 => ?_)))))
  ·replace hb21 : (sh == (-2)) = true := hb21
   have qhb21 : sh = (-2) := by simpa using hb21
   obtain ⟨R, hR0⟩ : ∃ R, Nt.negR (M.getD t []) = R := ⟨_, rfl⟩
   have hMt : t < M.length := by rw [hq.1]; omega
   have hrow := hq.2 t xq
   have hRl : R.length = n := by rw [← hR0, Nt.negR_len]; exact hrow
   have hRl2 : R.length = (M.getD t []).length := by omega
   have hcm : Nt.cmb [(t : Int), (f : Int), cf, sh] M = M.set t R := by rw [Nt.cmb_n qhb21, hR0]
   have hRa : ∀ j, j < n → -((M.getD t []).getD j 0) = R.getD j 0 := fun j hj => by rw [← hR0, Nt.negR_at xq]
   have hRs : ∀ j, Nt.rs (R.getD j 0) ≤ 100 := fun j => by have h9 := hR t j; rw [hcm, Nt.ent_set, if_pos ⟨rfl, hMt⟩] at h9; exact h9
   refine sq9 (zza 66 (.v x.v) (zza 67 (.adr 3 0) (zzh 68 (zI t) ty3 zzk ?_)))
   obtain ⟨b22, hA22, hc22⟩ := MatQ.cell (i := t) hm xq
   refine zzz 69 (0 + t * 1) (n := x.n) (off := 0) (sz := 1) (i := (t : Int)) xq hA22 xq xq sl71 ?_
   rw [hyt] at hc22
   refine zyk 70 yt.v hc22 ty54 (zza 71 (zI yt.n) (zza 72 (zI 0) (zzb (zzs (zym (I := fun m23 S' u' => ∃ (j : Nat) (Q : List (List RL)), (m23 = n - j) ∧ (j ≤ n) ∧ (Q.length = n) ∧ (S' = St.of 87 [(0, .v (.slice x.a x.n x.c)), (3, .adr 3 0), (70, .v (.slice yt.a yt.n yt.c)), (71, zI yt.n), (72, zI j)] [(3, ⟨90, [.int .i64 t, .int .i64 f, .int .i64 cf, .int .i64 sh]⟩)]) ∧ (Ext v0 u') ∧ (MatQ 1 54 26 v0.heap.size u' x Rs Q) ∧ (MatN u' Q (Nt.mixR M t R j) 100)) (fun m S u1 u2 e h => by obtain ⟨j, Q, hm, p0, p1, hS, hE, f0, f1⟩ := h; exact ⟨j, Q, hm, p0, p1, hS, hE.trans e, f0.ext e, f1.ext e⟩) _ yz ⟨0, Ls, rfl, by omega, hLl, rfl, hv, hm, (by rw [Nt.mixR_0]; exact hN)⟩ ?_)))))
   rintro m23 _ u23 ⟨j, Q, hm23, hj, hQl, rfl, e23, f0, f1⟩
   have hrt : MutQ (1 * 3) 26 v0.heap.size u23 yt (rcs (Q.getD t [])) := by have h9 := MatQ.row f0 t xq; rw [hyt] at h9; exact h9
   have hLt : (Q.getD t []).length = n := by rw [← MutQ.rown hrt]; exact hnt
   refine sq9 (zza 73 (zB (decide ((j : Int) < (yt.n : Int)))) (zzb (zzd (zzt (b := decide ((j : Int) < (yt.n : Int))) xj (fun hb24 => ?_) (fun hb24 => ?_)))))
   ·replace hb24 : (decide ((j : Int) < (yt.n : Int))) = true := hb24
    have qhb24 := of_decide_eq_true hb24
    refine zzr (zzo ?_)
    refine zzd (zzs (sq9 (zza 74 (zI j) ?_)))
    obtain ⟨b25, hA25, hc25⟩ := MutQ.el1 (j := j) hrt xq
    refine zzz 75 (0 + j * 3) (n := yt.n) (off := 0) (sz := 3) (i := (j : Int)) xq hA25 xq xq sl54 ?_
    obtain ⟨r26, hr27⟩ : ∃ r : RL, (Q.getD t []).getD j rl0 = r := ⟨_, rfl⟩
    rw [hr27] at hc25
    have hv28 := (by have h9 := MatN.at (i := t) (j := j) f1 (by rw [Nt.mixR_len]; omega) (by rw [Nt.mixR_row hMt hRl2 xq]; omega); rw [Nt.mixR_old hMt hRl2 xq] at h9; exact h9)
    rw [hr27] at hv28
    refine zyl 76 (r26.cs) hc25 ty26 (zzj 5 ⟨26, [.bool false, .slice none 0 0, .slice none 0 0]⟩ (zza 4 (zI j) (zzi ⟨26, r26.cs⟩ ty26 ?_)))
    refine zzb (sw_anyC [0, 0, 2, 7, 15, 0, 0, 64, 255, 511] [(0, []), (1, []), (2, []), (3, []), (4, []), (5, []), (6, []), (7, [])] [(8, []), (9, [])] xj xj xj ?_)
    refine zza 77 (.v x.v) (zza 78 (.adr 3 0) (zzh 79 (zI t) ty3 zzk ?_))
    obtain ⟨b29, hA29, hc29⟩ := MatQ.cell (i := t) f0 xq
    refine zzz 80 (0 + t * 1) (n := x.n) (off := 0) (sz := 1) (i := (t : Int)) xq hA29 xq xq sl71 ?_
    rw [hyt] at hc29
    refine zyk 81 yt.v hc29 ty54 (zza 82 (zI j) (zzh 83 (.v (r26.v)) ty26 zze (zzg 84 176 [r26.v] ?_)))
    intro w30 u30 e30 d30
    have k35 := k_ratNeg d30 (hv28.ext e30).raw xq
    with_reducible refine zPm k35 ?_
    rintro _ u33 g34 ⟨r31, rfl, h32⟩
    refine zzw ?_
    obtain ⟨b36, hA36, hc36⟩ := MutQ.el1 (j := j) (hrt.ext (e30.trans g34.ext)) xq
    refine zzz 85 (0 + j * 3) (n := yt.n) (off := 0) (sz := 3) (i := (j : Int)) xq hA36 xq xq sl54 ?_
    have hq37 := (hrt.ext (e30.trans g34.ext))
    refine sy_storeQ (v := r31.v) (off := 0 + j * 3) (n := 3) yt hq37 (fun a ha => .inr (mqB_row (i := t) xq (by rw [hyt]; exact ha))) hA36 ty26 (by rw [zyx]; have h9 : _ := xq; omega) (nu_rl r31) (fun u37 hm37 eX37 => ?_)
    have hn37 : MutQ (1 * 3) 26 v0.heap.size u37 yt (rcs ((Q.getD t []).set j r31)) := by rw [← zyw (off := 0 + j * 3) xq xq]; exact hm37
    have eX37r := ExtX.root eX37 (MutQ.mutL hq37) (e23.trans (e30.trans g34.ext))
    have hM38 := MatQ.storeRow xw (f0.ext (e30.trans g34.ext)) (i := t) xq (L := ((Q.getD t []).set j r31)) (by rw [hyt]; exact hn37) (by rw [hyt]; exact eX37)
    have hE38 : (-((M.getD t []).getD j 0)) = R.getD j 0 := hRa j xq
    have hN38 := MatN.el (i := t) (j := j) (MatN.keep (f1.ext (e30.trans g34.ext)) hq37 eX37) (by rw [Nt.mixR_len]; omega) (by rw [Nt.mixR_row hMt hRl2 xq]; omega) (RatN.fit (L := 100) (by rw [← hE38]; exact MutQ.keep hq37 eX37 h32) (hRs j))
    rw [Nt.mixR_s hMt hRl2 xq] at hN38
    obtain ⟨Q38, hQ38⟩ : ∃ Q9, Q.set t ((Q.getD t []).set j r31) = Q9 := ⟨_, rfl⟩
    have hQl38 : Q38.length = n := by rw [← hQ38, List.length_set]; exact hQl
    rw [hQ38] at hM38 hN38
    refine zzw ?_
    refine zzo (zzf (zyp 86 (x := zI (IntKind.i64.wrap ((j : Int) + 1))) (zI (j + 1 : Nat)) (eqI xz) (zza 72 (zI (j + 1 : Nat)) (zzw ?_))))
    refine ⟨_, ?_, _, by exact zzu _ _ _, j + 1, Q38, rfl, by omega, hQl38, rfl, eX37r, hM38, hN38⟩
    omega
   ·replace hb24 : (decide ((j : Int) < (yt.n : Int))) = false := hb24
    have qhb24 := of_decide_eq_false hb24
    refine zyb ?_
    refine ⟨[], [], trivial, (fun t h => by cases h), fun B u1 e1 _ => ⟨rfl, ?_⟩⟩
    refine ⟨_, _, (f0).ext e1, ?_⟩
    rw [hcm, ← Nt.mixR_n hRl2 (show j = R.length by omega)]
    exact (f1).ext e1
  ·replace hb21 : (sh == (-2)) = false := hb21
   have qhb21 : ¬ sh = (-2) := by simpa using hb21
   obtain ⟨R, hR0⟩ : ∃ R, Nt.rowA (M.getD t []) (M.getD f []) (Nt.wq cf sh) = R := ⟨_, rfl⟩
   have hMt : t < M.length := by rw [hq.1]; omega
   have hrow := hq.2 t xq
   have hRl : R.length = n := by rw [← hR0, Nt.rowA_len]; exact hrow
   have hRl2 : R.length = (M.getD t []).length := by omega
   have hcm : Nt.cmb [(t : Int), (f : Int), cf, sh] M = M.set t R := by rw [Nt.cmb_s qhb11 qhb21, hR0]
   have hRa : ∀ j, j < n → (M.getD t []).getD j 0 + Nt.wq cf sh * (M.getD f []).getD j 0 = R.getD j 0 := fun j hj => by rw [← hR0, Nt.rowA_at xq]
   have hne : t ≠ f := fun e => qhb21 (h7.1 (by rw [e]))
   have hRs : ∀ j, Nt.rs (R.getD j 0) ≤ 100 := fun j => by have h9 := hR t j; rw [hcm, Nt.ent_set, if_pos ⟨rfl, hMt⟩] at h9; exact h9
   refine sq9 (zzh 11 (.v (.agg #[.int .i64 t, .int .i64 f, .int .i64 cf, .int .i64 sh])) ty90 zze (zzg 12 125 [.agg #[.int .i64 t, .int .i64 f, .int .i64 cf, .int .i64 sh]] ?_))
   intro w39 u39 e39 d39
   have k44 := k_factor (t := (t : Int)) (f := (f : Int)) (cf := cf) (sh := sh) d39 xq xq xq xq
   with_reducible refine zPm k44 ?_
   rintro _ u42 g43 ⟨r40, rfl, h41⟩
   refine zzj 6 ⟨26, [.bool false, .slice none 0 0, .slice none 0 0]⟩ (zzi ⟨26, r40.cs⟩ ty26 ?_)
   refine zzb (sq9 (zza 13 (.v x.v) (zza 14 (.adr 3 0) (zzh 15 (zI t) ty3 zzk ?_))))
   obtain ⟨b45, hA45, hc45⟩ := MatQ.cell (i := t) (hm.ext (e39.trans g43.ext)) xq
   refine zzz 16 (0 + t * 1) (n := x.n) (off := 0) (sz := 1) (i := (t : Int)) xq hA45 xq xq sl71 ?_
   rw [hyt] at hc45
   refine zyk 17 yt.v hc45 ty54 (zza 18 (zI yt.n) (zza 19 (zI 0) (zzb (zzs (zym (I := fun m46 S' u' => ∃ (j : Nat) (Q : List (List RL)), (m46 = n - j) ∧ (j ≤ n) ∧ (Q.length = n) ∧ (S' = St.of 87 [(0, .v (.slice x.a x.n x.c)), (3, .adr 3 0), (6, .adr 6 0), (17, .v (.slice yt.a yt.n yt.c)), (18, zI yt.n), (19, zI j)] [(3, ⟨90, [.int .i64 t, .int .i64 f, .int .i64 cf, .int .i64 sh]⟩), (6, ⟨26, r40.cs⟩)]) ∧ (Ext v0 u') ∧ (MatQ 1 54 26 v0.heap.size u' x Rs Q) ∧ (MatN u' Q (Nt.mixR M t R j) 100) ∧ (RatN u' r40 (Nt.wq cf sh) 2)) (fun m S u1 u2 e h => by obtain ⟨j, Q, hm, p0, p1, hS, hE, f0, f1, f2⟩ := h; exact ⟨j, Q, hm, p0, p1, hS, hE.trans e, f0.ext e, f1.ext e, f2.ext e⟩) _ yz ⟨0, Ls, rfl, by omega, hLl, rfl, (hv.trans (e39.trans g43.ext)), (hm.ext (e39.trans g43.ext)), (by rw [Nt.mixR_0]; exact (hN.ext (e39.trans g43.ext))), h41⟩ ?_)))))
   rintro m46 _ u46 ⟨j, Q, hm46, hj, hQl, rfl, e46, f0, f1, f2⟩
   have hrt : MutQ (1 * 3) 26 v0.heap.size u46 yt (rcs (Q.getD t [])) := by have h9 := MatQ.row f0 t xq; rw [hyt] at h9; exact h9
   have hLt : (Q.getD t []).length = n := by rw [← MutQ.rown hrt]; exact hnt
   have hrf : MutQ (1 * 3) 26 v0.heap.size u46 yf (rcs (Q.getD f [])) := by have h9 := MatQ.row f0 f xq; rw [hyf] at h9; exact h9
   have hLf : (Q.getD f []).length = n := by rw [← MutQ.rown hrf]; exact hnf
   refine sq9 (zza 20 (zB (decide ((j : Int) < (yt.n : Int)))) (zzb (zzd (zzt (b := decide ((j : Int) < (yt.n : Int))) xj (fun hb47 => ?_) (fun hb47 => ?_)))))
   ·replace hb47 : (decide ((j : Int) < (yt.n : Int))) = true := hb47
    have qhb47 := of_decide_eq_true hb47
    refine zzr (zzo ?_)
    refine zzd (zzs (sq9 (zza 21 (zI j) ?_)))
    obtain ⟨b48, hA48, hc48⟩ := MutQ.el1 (j := j) hrt xq
    refine zzz 22 (0 + j * 3) (n := yt.n) (off := 0) (sz := 3) (i := (j : Int)) xq hA48 xq xq sl54 ?_
    obtain ⟨r49, hr50⟩ : ∃ r : RL, (Q.getD t []).getD j rl0 = r := ⟨_, rfl⟩
    rw [hr50] at hc48
    have hv51 := (by have h9 := MatN.at (i := t) (j := j) f1 (by rw [Nt.mixR_len]; omega) (by rw [Nt.mixR_row hMt hRl2 xq]; omega); rw [Nt.mixR_old hMt hRl2 xq] at h9; exact h9)
    rw [hr50] at hv51
    refine zyl 23 (r49.cs) hc48 ty26 (zzj 8 ⟨26, [.bool false, .slice none 0 0, .slice none 0 0]⟩ (zza 7 (zI j) (zzi ⟨26, r49.cs⟩ ty26 ?_)))
    refine zzb (sw_anyC [0, 0, 2, 7, 15, 0, 0, 0, 0, 0, 512, 1792, 3840, 0, 16128, 32512, 65408, 131008, 262143, 524287] [(0, []), (1, []), (2, []), (3, []), (4, []), (5, []), (6, []), (7, []), (8, []), (9, []), (10, []), (11, []), (12, []), (13, []), (14, []), (15, []), (16, []), (17, [])] [(18, []), (19, [])] xj xj xj ?_)
    refine zza 24 (.v x.v) (zza 25 (.adr 3 0) (zzh 26 (zI t) ty3 zzk ?_))
    obtain ⟨b52, hA52, hc52⟩ := MatQ.cell (i := t) f0 xq
    refine zzz 27 (0 + t * 1) (n := x.n) (off := 0) (sz := 1) (i := (t : Int)) xq hA52 xq xq sl71 ?_
    rw [hyt] at hc52
    refine zyk 28 yt.v hc52 ty54 (zza 29 (zI j) (zzh 30 (.v (r49.v)) ty26 zze (zzh 31 (.v (r40.v)) ty26 zze (zza 32 (.v x.v) (zza 33 (.adr 3 1) (zzh 34 (zI f) ty3 zzk ?_))))))
    obtain ⟨b53, hA53, hc53⟩ := MatQ.cell (i := f) f0 xq
    refine zzz 35 (0 + f * 1) (n := x.n) (off := 0) (sz := 1) (i := (f : Int)) xq hA53 xq xq sl71 ?_
    rw [hyf] at hc53
    refine zyk 36 yf.v hc53 ty54 (zza 37 (zI j) ?_)
    obtain ⟨b54, hA54, hc54⟩ := MutQ.el1 (j := j) hrf xq
    refine zzz 38 (0 + j * 3) (n := yf.n) (off := 0) (sz := 3) (i := (j : Int)) xq hA54 xq xq sl54 ?_
    obtain ⟨r55, hr56⟩ : ∃ r : RL, (Q.getD f []).getD j rl0 = r := ⟨_, rfl⟩
    rw [hr56] at hc54
    have hv57 := (by have h9 := MatN.at (i := f) (j := j) f1 (by rw [Nt.mixR_len]; omega) (by rw [Nt.mixR_other hne, hq.2 f xq]; omega); rw [Nt.mixR_other hne] at h9; exact h9)
    rw [hr56] at hv57
    refine zyl 39 (r55.cs) hc54 ty26 (zzg 40 123 [r40.v, r55.v] ?_)
    intro w58 u58 e58 d58
    have k63 := k_ratMul d58 (f2.ext e58).raw (hv57.ext e58).raw xq xq
    with_reducible refine zPm k63 ?_
    rintro _ u61 g62 ⟨r59, rfl, h60⟩
    refine zzg 41 126 [r49.v, r59.v] ?_
    intro w64 u64 e64 d64
    have k69 := k_ratAdd d64 (hv51.ext (e58.trans (g62.ext.trans e64))).raw (h60.ext e64).raw xq xq
    with_reducible refine zPm k69 ?_
    rintro _ u67 g68 ⟨r65, rfl, h66⟩
    refine zzw ?_
    obtain ⟨b70, hA70, hc70⟩ := MutQ.el1 (j := j) (hrt.ext (e58.trans (g62.ext.trans (e64.trans g68.ext)))) xq
    refine zzz 42 (0 + j * 3) (n := yt.n) (off := 0) (sz := 3) (i := (j : Int)) xq hA70 xq xq sl54 ?_
    have hq71 := (hrt.ext (e58.trans (g62.ext.trans (e64.trans g68.ext))))
    refine sy_storeQ (v := r65.v) (off := 0 + j * 3) (n := 3) yt hq71 (fun a ha => .inr (mqB_row (i := t) xq (by rw [hyt]; exact ha))) hA70 ty26 (by rw [zyx]; have h9 : _ := xq; omega) (nu_rl r65) (fun u71 hm71 eX71 => ?_)
    have hn71 : MutQ (1 * 3) 26 v0.heap.size u71 yt (rcs ((Q.getD t []).set j r65)) := by rw [← zyw (off := 0 + j * 3) xq xq]; exact hm71
    have eX71r := ExtX.root eX71 (MutQ.mutL hq71) (e46.trans (e58.trans (g62.ext.trans (e64.trans g68.ext))))
    have hM72 := MatQ.storeRow xw (f0.ext (e58.trans (g62.ext.trans (e64.trans g68.ext)))) (i := t) xq (L := ((Q.getD t []).set j r65)) (by rw [hyt]; exact hn71) (by rw [hyt]; exact eX71)
    have hE72 : (((M.getD t []).getD j 0) + ((Nt.wq cf sh) * ((M.getD f []).getD j 0))) = R.getD j 0 := hRa j xq
    have hN72 := MatN.el (i := t) (j := j) (MatN.keep (f1.ext (e58.trans (g62.ext.trans (e64.trans g68.ext)))) hq71 eX71) (by rw [Nt.mixR_len]; omega) (by rw [Nt.mixR_row hMt hRl2 xq]; omega) (RatN.fit (L := 100) (by rw [← hE72]; exact MutQ.keep hq71 eX71 h66) (hRs j))
    rw [Nt.mixR_s hMt hRl2 xq] at hN72
    obtain ⟨Q72, hQ72⟩ : ∃ Q9, Q.set t ((Q.getD t []).set j r65) = Q9 := ⟨_, rfl⟩
    have hQl72 : Q72.length = n := by rw [← hQ72, List.length_set]; exact hQl
    rw [hQ72] at hM72 hN72
    have hF72 := MutQ.keep hq71 eX71 (f2.ext (e58.trans (g62.ext.trans (e64.trans g68.ext))))
    refine zzw ?_
    refine zzo (zzf (zyp 43 (x := zI (IntKind.i64.wrap ((j : Int) + 1))) (zI (j + 1 : Nat)) (eqI xz) (zza 19 (zI (j + 1 : Nat)) (zzw ?_))))
    refine ⟨_, ?_, _, by exact zzu _ _ _, j + 1, Q72, rfl, by omega, hQl72, rfl, eX71r, hM72, hN72, hF72⟩
    omega
   ·replace hb47 : (decide ((j : Int) < (yt.n : Int))) = false := hb47
    have qhb47 := of_decide_eq_false hb47
    refine zyb ?_
    refine ⟨[], [], trivial, (fun t h => by cases h), fun B u1 e1 _ => ⟨rfl, ?_⟩⟩
    refine ⟨_, _, (f0).ext e1, ?_⟩
    rw [hcm, ← Nt.mixR_n hRl2 (show j = R.length by omega)]
    exact (f1).ext e1
theorem Nt.rep0_at {n j : Nat} : (List.replicate n (0 : Rat)).getD j 0 = 0 := by rw [List.getD_eq_getElem?_getD, List.getElem?_replicate]; split <;> rfl
theorem Nt.idRow_set {n i : Nat} (h : i < n) : (List.replicate n (0 : Rat)).set i 1 = Nt.idRow n i := by
 refine List.ext_getElem (by rw [List.length_set, List.length_replicate, Nt.idRow_len]) fun j h1 h2 => ?_
 have e1 := Nt.idRow_at (i := i) (show j < n by rw [← Nt.idRow_len (n := n) (i := i)]; exact h2)
 rw [List.getD_eq_getElem?_getD, List.getElem?_eq_getElem h2] at e1
 have e2 : (Nt.idRow n i)[j] = if i = j then 1 else 0 := e1
 rw [e2, List.getElem_set]
 split
 ·rfl
 ·exact List.getElem_replicate _
set_option maxHeartbeats 4000000 in
theorem k_dlinear {u w : World} {x : Sl} {S : List (List Int)} {n : Nat} (d : Dat u w) (hx : IrV 4 u x S) (hV : Nt.shV (n : Int) S) : Calls Tryz.prog 53 #[x.v, .int .i64 (n : Int)] w (Post u w fun v u' => ∃ (y : Sl) (Rs : List Sl) (Ls : List (List RL)), v = .tuple #[y.v, .int .i64 0] ∧ MatQ 1 54 26 u.heap.size u' y Rs Ls ∧ MatN u' Ls (Nt.linM n S) 100) := by
 have hlx : x.n = S.length := hx.len
 have hV1 := hV.1
 have hV2 := hV.2.1
 have hV3 := hV.2.2.1
 refine zzl (args := [.slice x.a x.n x.c, .int .i64 n]) Tryz.func53 rfl Tryz.ntmps53 (rs := [.tmp 4, .tmp 5]) Tryz.results53 (le_b rfl) (le_b rfl) d ?_
 refine sq9 (zza 4 (.v (.slice none 0 0)) (zza 5 (zI 0) (zzb (zzd (sq9 (zza 11 (.v x.v) (zza 12 (zI n) (zzg 13 64 [x.v, .int .i64 n] ?_))))))))
 intro w11 u11 e11 d11
 have k14 := k_dvalid (x := x) (n := (n : Int)) d11 (hx.ext e11) xq
 with_reducible refine zPm k14 ?_
 rintro _ u12 g13 rfl
 refine zza 14 (zB (!(decide (Nt.shV (n : Int) S)))) (zzb (zzt (b := !(decide (Nt.shV (n : Int) S))) xj (fun hb => ?_) (fun hb => ?_)))
 ·exact absurd hb (by rw [show (!(decide (Nt.shV (n : Int) S))) = false from (by rw [decide_eq_true hV]; rfl)]; decide)
 ·clear hb
  refine zzr (zzo ?_)
  refine sq9 (zza 15 (zI n) (sy_makeF 16 (T := 71) (E := 54) (z := .slice none 0 0) (size := 1) (bytes := 24) n ((List.replicate n sl0).map Sl.v) xj xj rfl rfl xq yv (made_sls _) (fun b15 u15 e15 h15 f15 g15 => ?_)))
  have hm16 : MutQ 1 54 u12.heap.size u15 (⟨some ⟨b15, 0, none⟩, n, n⟩ : Sl) ((List.replicate n sl0).map Sl.v) := MutQ.lit h15 (by rw [List.length_map, List.length_replicate, Nat.mul_one]) yv g15 (nu_sls _)
  refine zza 6 (.v (.slice (some ⟨b15, 0, none⟩) n n)) (zzb (zzd (sq9 (zza 17 (.v (.slice (some ⟨b15, 0, none⟩) n n)) (zza 18 (zI n) (zza 19 (zI 0) (zzb (zzs (zym (I := fun m17 S' u' => ∃ (i : Nat) (Rs : List Sl) (Ls : List (List RL)), (m17 = n - i) ∧ (i ≤ n) ∧ (Ls.length = n) ∧ (S' = St.of 62 [(0, .v (.slice x.a x.n x.c)), (1, zI n), (6, .v (.slice (some ⟨b15, 0, none⟩) n n)), (18, zI n), (19, zI i)] []) ∧ (Ext u12 u') ∧ (MatQ 1 54 26 u12.heap.size u' (⟨some ⟨b15, 0, none⟩, n, n⟩ : Sl) Rs Ls) ∧ (MatP u' Ls (Nt.idR n) i 100)) (fun m S u1 u2 e h => by obtain ⟨i, Rs, Ls, hm, p0, p1, hS, hE, f0, f1⟩ := h; exact ⟨i, Rs, Ls, hm, p0, p1, hS, hE.trans e, f0.ext e, f1.ext e⟩) _ yz ⟨0, (List.replicate n sl0), (List.replicate n []), rfl, by omega, by rw [List.length_replicate], rfl, e15, (MatQ.nil n hm16), (MatP.zero _ _ _ _)⟩ ?_)))))))))
  rintro m17 _ u17 ⟨i, Rs, Ls, hm17, hi, hLl, rfl, e17, mf0, mf1⟩
  refine sq9 (zza 20 (zB (decide ((i : Int) < (n : Int)))) (zzb (zzd (zzt (b := decide ((i : Int) < (n : Int))) xj (fun hb18 => ?_) (fun hb18 => ?_)))))
  ·replace hb18 : (decide ((i : Int) < (n : Int))) = true := hb18
   have qhb18 := of_decide_eq_true hb18
   refine zzr (zzo ?_)
   refine zzd (zzs (sq9 (zza 21 (zI i) (zza 7 (zI i) (zzb (sq9 (zza 22 (.v (.slice (some ⟨b15, 0, none⟩) n n)) (zza 23 (zI i) (zza 24 (zI n) (sy_makeF 25 (T := 54) (E := 26) (z := .agg #[.bool false, .slice none 0 0, .slice none 0 0]) (size := 3) (bytes := 56) n (rcs (List.replicate n rl0)) xj xj rfl rfl xq yv (made_rcs _) (fun b19 u19 e19 h19 f19 g19 => ?_)))))))))))
   have hm20 : MutQ (1 * 3) 26 u17.heap.size u19 (⟨some ⟨b19, 0, none⟩, n, n⟩ : Sl) (rcs (List.replicate n rl0)) := MutQ.lit h19 (by rw [zyx, List.length_replicate]) yv g19 (nu_rcs _)
   obtain ⟨b21, hA21, hc21⟩ := MatQ.cell (i := i) (mf0.ext e19) xq
   refine zzz 26 (0 + i * 1) (n := n) (off := 0) (sz := 1) (i := (i : Int)) xq hA21 xq xq sl71 ?_
   have hq22 := (mf0.ext e19)
   refine sy_storeQ (v := .slice (some ⟨b19, 0, none⟩) n n) (off := 0 + i * 1) (n := 1) (⟨some ⟨b15, 0, none⟩, n, n⟩ : Sl) (MatQ.out hq22) (fun a ha => by injection ha with ha; subst ha; exact .inl f15) hA21 ty54 (by rw [List.length_map, MatQ.len hq22]; have h9 : _ := xq; omega) (nu_sls [(⟨some ⟨b19, 0, none⟩, n, n⟩ : Sl)]) (fun u22 hm22 eX22 => ?_)
   have hn22 : MutQ 1 54 u12.heap.size u22 (⟨some ⟨b15, 0, none⟩, n, n⟩ : Sl) ((Rs.set i (⟨some ⟨b19, 0, none⟩, n, n⟩ : Sl)).map Sl.v) := by rw [← setL_map (y := (⟨some ⟨b19, 0, none⟩, n, n⟩ : Sl)) (i := i) (by rw [MatQ.len hq22]; omega)]; exact hm22
   have eX22r := ExtX.root eX22 (MutQ.mutL (MatQ.out hq22)) (e17.trans e19)
   have hM23 := MatQ.storeOut xw hq22 xq hn22 eX22 (MutQ.low hm20 (Ext.size e17)) (fun j hj _ => MatQ.fresh mf0 g19 j hj)
   obtain ⟨R23, hR23⟩ : ∃ R, Rs.set i (⟨some ⟨b19, 0, none⟩, n, n⟩ : Sl) = R := ⟨_, rfl⟩
   have hy23 : R23.getD i sl0 = (⟨some ⟨b19, 0, none⟩, n, n⟩ : Sl) := by rw [← hR23]; exact getD_set_same (by have h9 := MatQ.len hq22; omega)
   rw [hR23] at hM23
   have hP23 := MatP.keep (mf1.ext e19) (MatQ.out hq22) eX22
   replace hP23 := MatP.set (L := (List.replicate n rl0)) hP23 (Nat.le_refl i)
   obtain ⟨S23, hS23⟩ : ∃ S, Ls.set i ((List.replicate n rl0)) = S := ⟨_, rfl⟩
   have hSl23 : S23.length = n := by rw [← hS23, List.length_set]; exact hLl
   have hSi23 : S23.getD i [] = (List.replicate n rl0) := by rw [← hS23]; exact getD_set_same xq
   rw [hS23] at hM23 hP23
   refine zzb (zzd (sq9 (zza 27 (.v (.slice (some ⟨b15, 0, none⟩) n n)) (zza 28 (zI i) ?_))))
   obtain ⟨b24, hA24, hc24⟩ := MatQ.cell (i := i) hM23 xq
   refine zzz 29 (0 + i * 1) (n := n) (off := 0) (sz := 1) (i := (i : Int)) xq hA24 xq xq sl71 ?_
   rw [hy23] at hc24
   refine zyk 30 (.slice (some ⟨b19, 0, none⟩) n n) hc24 ty54 (zza 31 (zI n) (zza 32 (zI 0) (zzb (zzs (zym (I := fun m25 S' u' => ∃ (j : Nat) (Q : List (List RL)), (m25 = n - j) ∧ (j ≤ n) ∧ (Q.length = n) ∧ ((Q.getD i []).length = n) ∧ (S' = St.of 62 [(0, .v (.slice x.a x.n x.c)), (1, zI n), (6, .v (.slice (some ⟨b15, 0, none⟩) n n)), (7, zI i), (18, zI n), (19, zI i), (31, zI n), (32, zI j)] []) ∧ (Ext u12 u') ∧ (MatQ 1 54 26 u12.heap.size u' (⟨some ⟨b15, 0, none⟩, n, n⟩ : Sl) R23 Q) ∧ (MatP u' Q (Nt.idR n) i 100) ∧ (RatsP u' (Q.getD i []) (List.replicate n 0) j 100)) (fun m S u1 u2 e h => by obtain ⟨j, Q, hm, p0, p1, p2, hS, hE, f0, f1, f2⟩ := h; exact ⟨j, Q, hm, p0, p1, p2, hS, hE.trans e, f0.ext e, f1.ext e, f2.ext e⟩) _ yz ⟨0, S23, rfl, by omega, hSl23, by rw [hSi23, List.length_replicate], rfl, eX22r, hM23, hP23, (RatsP.zero _ _ _ _)⟩ ?_)))))
   rintro m25 _ u25 ⟨j, Q, hm25, hj, hQl, hQi, rfl, e25, f0, f1, f2⟩
   have hrw : MutQ (1 * 3) 26 u12.heap.size u25 (⟨some ⟨b19, 0, none⟩, n, n⟩ : Sl) (rcs (Q.getD i [])) := by have h9 := MatQ.row f0 i xq; rw [hy23] at h9; exact h9
   refine sq9 (zza 33 (zB (decide ((j : Int) < (n : Int)))) (zzb (zzd (zzt (b := decide ((j : Int) < (n : Int))) xj (fun hb26 => ?_) (fun hb26 => ?_)))))
   ·replace hb26 : (decide ((j : Int) < (n : Int))) = true := hb26
    have qhb26 := of_decide_eq_true hb26
    refine zzr (zzo ?_)
    refine zzd (zzs (sq9 (zza 34 (zI j) (zza 8 (zI j) (zzb (sw_anyC [0, 0, 3, 7, 0, 0, 63, 127] [(0, []), (1, []), (2, []), (3, []), (4, []), (5, [])] [(6, []), (7, [])] xj xj xj ?_))))))
    refine zza 35 (.v (.slice (some ⟨b15, 0, none⟩) n n)) (zza 36 (zI i) ?_)
    obtain ⟨b27, hA27, hc27⟩ := MatQ.cell (i := i) f0 xq
    refine zzz 37 (0 + i * 1) (n := n) (off := 0) (sz := 1) (i := (i : Int)) xq hA27 xq xq sl71 ?_
    rw [hy23] at hc27
    refine zyk 38 (.slice (some ⟨b19, 0, none⟩) n n) hc27 ty54 (zza 39 (zI j) (zzg 40 118 [.int .i64 0] ?_))
    intro w28 u28 e28 d28
    have k33 := k_ratOf d28 (z := 0) xq xq
    with_reducible refine zPm k33 ?_
    rintro _ u31 g32 ⟨r29, rfl, h30⟩
    refine zzw ?_
    obtain ⟨b34, hA34, hc34⟩ := MutQ.el1 (j := j) (hrw.ext (e28.trans g32.ext)) xq
    refine zzz 41 (0 + j * 3) (n := n) (off := 0) (sz := 3) (i := (j : Int)) xq hA34 xq xq sl54 ?_
    have hq35 := (hrw.ext (e28.trans g32.ext))
    refine sy_storeQ (v := r29.v) (off := 0 + j * 3) (n := 3) (⟨some ⟨b19, 0, none⟩, n, n⟩ : Sl) hq35 (fun a ha => by injection ha with ha; subst ha; exact .inl f19) hA34 ty26 (by rw [zyx]; have h9 : _ := xq; omega) (nu_rl r29) (fun u35 hm35 eX35 => ?_)
    have hn35 : MutQ (1 * 3) 26 u12.heap.size u35 (⟨some ⟨b19, 0, none⟩, n, n⟩ : Sl) (rcs ((Q.getD i []).set j r29)) := by rw [← zyw (off := 0 + j * 3) xq xq]; exact hm35
    have eX35r := ExtX.root eX35 (MutQ.mutL hq35) (e25.trans (e28.trans g32.ext))
    have hM36 := MatQ.storeRow xw (f0.ext (e28.trans g32.ext)) (i := i) xq (L := ((Q.getD i []).set j r29)) (by rw [hy23]; exact hn35) (by rw [hy23]; exact eX35)
    obtain ⟨Q36, hQ36⟩ : ∃ Q9, Q.set i ((Q.getD i []).set j r29) = Q9 := ⟨_, rfl⟩
    have hQl36 : Q36.length = n := by rw [← hQ36, List.length_set]; exact hQl
    have hQi36 : Q36.getD i [] = ((Q.getD i []).set j r29) := by rw [← hQ36]; exact getD_set_same xq
    have hP36 := MatP.set (L := ((Q.getD i []).set j r29)) (MatP.keep (f1.ext (e28.trans g32.ext)) hq35 eX35) (Nat.le_refl i)
    rw [hQ36] at hM36 hP36
    have hr36 := RatsP.one (RatsP.keep (f2.ext (e28.trans g32.ext)) hq35 eX35) xq (RatN.more (K := 2) (MutQ.keep hq35 eX35 h30) xq) (by rw [Nt.rep0_at]; rfl)
    rw [← hQi36] at hr36
    refine zzw ?_
    refine zzo (zzf (zyp 42 (x := zI (IntKind.i64.wrap ((j : Int) + 1))) (zI (j + 1 : Nat)) (eqI xz) (zza 32 (zI (j + 1 : Nat)) (zzw ?_))))
    refine ⟨_, ?_, _, by exact zzu _ _ _, j + 1, Q36, rfl, by omega, hQl36, by rw [hQi36, List.length_set]; exact hQi, rfl, eX35r, hM36, hP36, hr36⟩
    omega
   ·replace hb26 : (decide ((j : Int) < (n : Int))) = false := hb26
    have qhb26 := of_decide_eq_false hb26
    refine zyb (zzo (sw_anyC [0, 0, 3, 7, 0, 0, 63, 127] [(0, []), (1, []), (2, []), (3, []), (4, []), (5, [])] [(6, []), (7, [])] xj xj xj ?_))
    refine zza 43 (.v (.slice (some ⟨b15, 0, none⟩) n n)) (zza 44 (zI i) ?_)
    obtain ⟨b37, hA37, hc37⟩ := MatQ.cell (i := i) f0 xq
    refine zzz 45 (0 + i * 1) (n := n) (off := 0) (sz := 1) (i := (i : Int)) xq hA37 xq xq sl71 ?_
    rw [hy23] at hc37
    refine zyk 46 (.slice (some ⟨b19, 0, none⟩) n n) hc37 ty54 (zza 47 (zI i) (zzg 48 118 [.int .i64 1] ?_))
    intro w38 u38 e38 d38
    have k43 := k_ratOf d38 (z := 1) xq xq
    with_reducible refine zPm k43 ?_
    rintro _ u41 g42 ⟨r39, rfl, h40⟩
    refine zzw ?_
    obtain ⟨b44, hA44, hc44⟩ := MutQ.el1 (j := i) (hrw.ext (e38.trans g42.ext)) xq
    refine zzz 49 (0 + i * 3) (n := n) (off := 0) (sz := 3) (i := (i : Int)) xq hA44 xq xq sl54 ?_
    have hq45 := (hrw.ext (e38.trans g42.ext))
    refine sy_storeQ (v := r39.v) (off := 0 + i * 3) (n := 3) (⟨some ⟨b19, 0, none⟩, n, n⟩ : Sl) hq45 (fun a ha => by injection ha with ha; subst ha; exact .inl f19) hA44 ty26 (by rw [zyx]; have h9 : _ := xq; omega) (nu_rl r39) (fun u45 hm45 eX45 => ?_)
    have hn45 : MutQ (1 * 3) 26 u12.heap.size u45 (⟨some ⟨b19, 0, none⟩, n, n⟩ : Sl) (rcs ((Q.getD i []).set i r39)) := by rw [← zyw (off := 0 + i * 3) xq xq]; exact hm45
    have eX45r := ExtX.root eX45 (MutQ.mutL hq45) (e25.trans (e38.trans g42.ext))
    have hM46 := MatQ.storeRow xw (f0.ext (e38.trans g42.ext)) (i := i) xq (L := ((Q.getD i []).set i r39)) (by rw [hy23]; exact hn45) (by rw [hy23]; exact eX45)
    obtain ⟨Q46, hQ46⟩ : ∃ Q9, Q.set i ((Q.getD i []).set i r39) = Q9 := ⟨_, rfl⟩
    have hQl46 : Q46.length = n := by rw [← hQ46, List.length_set]; exact hQl
    have hQi46 : Q46.getD i [] = ((Q.getD i []).set i r39) := by rw [← hQ46]; exact getD_set_same xq
    have hP46 := MatP.set (L := ((Q.getD i []).set i r39)) (MatP.keep (f1.ext (e38.trans g42.ext)) hq45 eX45) (Nat.le_refl i)
    rw [hQ46] at hM46 hP46
    have hr46 := rats_set (j := i) (RatsP.full (RatsP.keep (f2.ext (e38.trans g42.ext)) hq45 eX45) xq (by rw [List.length_replicate]; omega)) (by rw [List.length_replicate]; omega) (RatN.more (K := 2) (MutQ.keep hq45 eX45 h40) xq)
    rw [← hQi46] at hr46
    refine zzw ?_
    refine zzo (zzf (zyp 50 (x := zI (IntKind.i64.wrap ((i : Int) + 1))) (zI (i + 1 : Nat)) (eqI xz) (zza 19 (zI (i + 1 : Nat)) (zzw ?_))))
    have hid := Nt.idRow_set (n := n) (i := i) xq
    have hrr := hr46
    rw [show (((1 : Int) : Rat)) = 1 from rfl, hid, ← Nt.idR_at (n := n) (i := i) xq] at hrr
    refine ⟨_, ?_, _, by exact zzu _ _ _, i + 1, R23, Q46, rfl, by omega, hQl46, rfl, eX45r, hM46, (MatP.next hP46 hrr)⟩
    omega
  ·replace hb18 : (decide ((i : Int) < (n : Int))) = false := hb18
   have qhb18 := of_decide_eq_false hb18
   refine zyb (zzo (zzd (sq9 (zza 51 (.v x.v) (zza 52 (zI x.n) (zza 53 (zI 0) (zzb (zzs (zym (I := fun m47 S' u' => ∃ (k : Nat) (Rz : List Sl) (Lz : List (List RL)), (m47 = S.length - k) ∧ (k ≤ S.length) ∧ (S' = St.of 62 [(6, .v (.slice (some ⟨b15, 0, none⟩) n n)), (51, .v (.slice x.a x.n x.c)), (52, zI x.n), (53, zI k)] []) ∧ (Ext u12 u') ∧ (MatQ 1 54 26 u12.heap.size u' (⟨some ⟨b15, 0, none⟩, n, n⟩ : Sl) Rz Lz) ∧ (MatN u' Lz (Nt.linM n (S.take k)) 100)) (fun m S u1 u2 e h => by obtain ⟨k, Rz, Lz, hm, p0, hS, hE, f0, f1⟩ := h; exact ⟨k, Rz, Lz, hm, p0, hS, hE.trans e, f0.ext e, f1.ext e⟩) _ yz ⟨0, Rs, Ls, rfl, by omega, rfl, e17, mf0, (by rw [List.take_zero, Nt.linM_nil]; exact MatP.full (m := n) (by have h9 := mf1; rw [show i = n by omega] at h9; exact h9) hLl Nt.idR_len)⟩ ?_)))))))))
   rintro m47 _ u47 ⟨k, Rz, Lz, hm47, hk, rfl, e47, lf0, lf1⟩
   refine sq9 (zza 54 (zB (decide ((k : Int) < (x.n : Int)))) (zzb (zzd (zzt (b := decide ((k : Int) < (x.n : Int))) xj (fun hb48 => ?_) (fun hb48 => ?_)))))
   ·replace hb48 : (decide ((k : Int) < (x.n : Int))) = true := hb48
    have qhb48 := of_decide_eq_true hb48
    refine zzr (zzo ?_)
    refine zzd (zzs (sq9 ?_))
    have hl49 := ((hx.ext (e11.trans (g13.ext.trans e47)))).len
    obtain ⟨b49, o49, hA49, hc49⟩ := ir_at4 (hx.ext (e11.trans (g13.ext.trans e47))) (i := k) xq
    refine zzz 55 (o49 + k * 4) (n := x.n) (off := o49) (sz := 4) (i := (k : Int)) xq hA49 xq xq sl64 (zyl 56 [.int .i64 (gi S k 0), .int .i64 (gi S k 1), .int .i64 (gi S k 2), .int .i64 (gi S k 3)] hc49 ty90 (zzj 10 ⟨90, [.int .i64 0, .int .i64 0, .int .i64 0, .int .i64 0]⟩ (zzi ⟨90, [.int .i64 (gi S k 0), .int .i64 (gi S k 1), .int .i64 (gi S k 2), .int .i64 (gi S k 3)]⟩ ty90 ?_)))
    refine zzb ?_
    have hsO := hV.2.2.2 k xq
    rw [row4 hx.rows xq] at hsO
    obtain ⟨tz, htz⟩ : ∃ t : Nat, gi S k 0 = (t : Int) := ⟨(gi S k 0).toNat, by have h9 : 0 ≤ gi S k 0 := hsO.1; omega⟩
    obtain ⟨fz, hfz⟩ : ∃ t : Nat, gi S k 1 = (t : Int) := ⟨(gi S k 1).toNat, by have h9 : 0 ≤ gi S k 1 := hsO.2.2.1; omega⟩
    rw [htz, hfz]
    rw [htz, hfz] at hsO
    refine zzf (zza 57 (.v (.slice (some ⟨b15, 0, none⟩) n n)) (zzh 58 (.v (.agg #[.int .i64 tz, .int .i64 fz, .int .i64 (gi S k 2), .int .i64 (gi S k 3)])) ty90 zze ?_))
    have hA50 := lf0
    have hB50 := lf1
    have hst : Nt.linM n (S.take (k + 1)) = Nt.cmb [(tz : Int), (fz : Int), gi S k 2, gi S k 3] (Nt.linM n (S.take k)) := by rw [Nt.linM_snoc k xq, row4 hx.rows xq, htz, hfz]
    refine zwk (mqB (⟨some ⟨b15, 0, none⟩, n, n⟩ : Sl) Rz) 59 119 [.slice (some ⟨b15, 0, none⟩) n n, .agg #[.int .i64 tz, .int .i64 fz, .int .i64 (gi S k 2), .int .i64 (gi S k 3)]] (MatQ.may hA50 (Ext.size (e11.trans g13.ext))) (fun w50 u50 e50 d50 => k_combine (v0 := u12) d50 (Ext.trans e47 e50) (hA50.ext e50) (hB50.ext e50) (Nt.linM_ok hV.2.2.2 hx.rows k xq).1 xq hsO (by rw [← hst]; exact Nt.linM_rs hV.2.2.2 hx.rows xq (k + 1) xq)) (fun v50 v250 hF50 hv50 => ?_)
    obtain ⟨rfl, P50, O50, hP50, hO50⟩ := hv50
    have eR50 := ExtF.rootQ hF50 hA50 e47
    refine zzw ?_
    refine zzo (zzf (zyp 60 (x := zI (IntKind.i64.wrap ((k : Int) + 1))) (zI (k + 1 : Nat)) (eqI xz) (zza 53 (zI (k + 1 : Nat)) (zzw ?_))))
    have hst : Nt.linM n (S.take (k + 1)) = Nt.cmb [(tz : Int), (fz : Int), gi S k 2, gi S k 3] (Nt.linM n (S.take k)) := by rw [Nt.linM_snoc k xq, row4 hx.rows xq, htz, hfz]
    refine ⟨_, ?_, _, by exact zzu _ _ _, k + 1, P50, O50, rfl, by omega, rfl, eR50, hP50, (by rw [hst]; exact hO50)⟩
    omega
   ·replace hb48 : (decide ((k : Int) < (x.n : Int))) = false := hb48
    have qhb48 := of_decide_eq_false hb48
    refine zyb (zzo (sq9 (zza 61 (.v (.slice (some ⟨b15, 0, none⟩) n n)) (zza 4 (.v (.slice (some ⟨b15, 0, none⟩) n n)) (zza 5 (zI 0) (zzb (zzn (ret0 [.slice (some ⟨b15, 0, none⟩) n n, .int .i64 0] ⟨zzp, zzp, trivial⟩ fun u51 e52 => ?_))))))))
    refine ⟨(⟨some ⟨b15, 0, none⟩, n, n⟩ : Sl), Rz, Lz, rfl, MatQ.low (lf0.ext e52) (Ext.size (e11.trans g13.ext)), by have h9 := (lf1.ext e52); rw [show k = S.length by omega, List.take_length] at h9; exact h9⟩
namespace Nt
def spG (cf sh : Int) (x : Rat) : Rat := absQ (wq cf sh) * x + (if cf.tmod (p2i sh) = 0 then 0 else 1 / 2)
def spF (s : List Int) (b : List Rat) : List Rat :=
 if s.getD 3 0 = -1 then swL b (s.getD 0 0).toNat (s.getD 1 0).toNat 0
 else if s.getD 3 0 = -2 then b
 else b.set (s.getD 0 0).toNat (b.getD (s.getD 0 0).toNat 0 + spG (s.getD 2 0) (s.getD 3 0) (b.getD (s.getD 1 0).toNat 0))
def spL (n : Nat) (S : List (List Int)) : List Rat := S.foldl (fun b s => spF s b) (List.replicate n 0)
section
variable {M : List (List Rat)} {b l : List Rat} {s : List Int} {S : List (List Int)} {n t f i j D A : Nat} {cf sh v : Int} {q x y : Rat}
theorem spF_x (h : sh = -1) : spF [(t : Int), (f : Int), cf, sh] b = swL b t f 0 := by subst h; rfl
theorem spF_n (h : sh = -2) : spF [(t : Int), (f : Int), cf, sh] b = b := by subst h; rfl
theorem spF_s (h1 : ¬ sh = -1) (h2 : ¬ sh = -2) : spF [(t : Int), (f : Int), cf, sh] b = b.set t (b.getD t 0 + spG cf sh (b.getD f 0)) := by
 unfold spF
 rw [if_neg (show ¬ [(t : Int), (f : Int), cf, sh].getD 3 0 = -1 from h1), if_neg (show ¬ [(t : Int), (f : Int), cf, sh].getD 3 0 = -2 from h2)]
 rfl
theorem spF_len : (spF s b).length = b.length := by
 unfold spF; split
 ·exact swL_len
 ·split
  ·rfl
  ·rw [List.length_set]
theorem spL_nil : spL n [] = List.replicate n 0 := rfl
theorem spL_snoc (i : Nat) (hi : i < S.length) : spL n (S.take (i + 1)) = spF (S.getD i []) (spL n (S.take i)) := by
 unfold spL
 rw [List.take_succ_eq_append_getElem hi, List.foldl_append, List.getD_eq_getElem?_getD, List.getElem?_eq_getElem hi]
 rfl
theorem spL_len : (spL n S).length = n := by
 unfold spL
 have key : ∀ (S : List (List Int)) (b : List Rat), (S.foldl (fun b s => spF s b) b).length = b.length := by
  intro S
  induction S with
  | nil => intro b; rfl
  | cons s S ih => intro b; rw [List.foldl_cons, ih, spF_len]
 rw [key, List.length_replicate]
theorem getD_setQ : (b.set t x).getD i 0 = if t = i ∧ t < b.length then x else b.getD i 0 := by
 by_cases h : t = i
 ·subst h
  by_cases h2 : t < b.length
  ·rw [if_pos ⟨rfl, h2⟩]; simp [List.getD_eq_getElem?_getD, h2]
  ·rw [if_neg (fun h => h2 h.2), List.set_eq_of_length_le xq]
 ·rw [if_neg (fun h9 => h h9.1)]; simp [List.getD_eq_getElem?_getD, h]
theorem shift_near (h0 : 0 ≤ sh) : absQ (((shiftW v sh 2 : Int) : Rat) - wq v sh) ≤ 1 / 2 ∧ (v % p2i sh = 0 → ((shiftW v sh 2 : Int) : Rat) = wq v sh) := by
 have hp := zxo sh
 have hpr : (0 : Rat) < ((p2i sh : Int) : Rat) := castI_pos hp
 by_cases h1 : sh = 0
 ·subst h1
  have e : shiftW v 0 2 = v := if_pos rfl
  have e2 : wq v 0 = (v : Rat) := by unfold wq; rw [show p2i 0 = 1 from rfl, Rat.div_def, show ((1 : Int) : Rat)⁻¹ = 1 from by decide +kernel, Rat.mul_one]
  rw [e, e2]
  refine ⟨?_, fun _ => rfl⟩
  rw [show (v : Rat) - (v : Rat) = 0 by grind]; decide +kernel
 ·have e : shiftW v sh 2 = v / p2i sh + v / p2i (sh - 1) % 2 := by unfold shiftW; rw [if_neg h1, if_pos rfl]
  have hd : p2i sh = 2 * p2i (sh - 1) := p2i_succ xq
  have hq := zxo (sh - 1)
  obtain ⟨z, hz⟩ : ∃ z, shiftW v sh 2 = z := ⟨_, rfl⟩
  rw [hz]
  obtain ⟨P, hP⟩ : ∃ P, p2i (sh - 1) = P := ⟨_, rfl⟩
  rw [hP] at hd hq e
  rw [hz] at e
  have hv := Int.mul_ediv_add_emod v P
  have hm0 := Int.emod_nonneg v (show P ≠ 0 by omega)
  have hm1 := Int.emod_lt_of_pos v hq
  obtain ⟨a, ha⟩ : ∃ a, v / P = a := ⟨_, rfl⟩
  obtain ⟨m, hm⟩ : ∃ m, v % P = m := ⟨_, rfl⟩
  have hdd : v / p2i sh = a / 2 := by rw [hd, Int.mul_comm 2 P, ← Int.ediv_ediv_of_nonneg xq, ha]
  rw [hdd, ha] at e
  rw [ha, hm] at hv
  rw [hm] at hm0 hm1
  -- 2 P z is between v - P and v + P
  obtain ⟨c, hc⟩ : ∃ c, a = 2 * c ∨ a = 2 * c + 1 := ⟨a / 2, by omega⟩
  have hz2 : (a = 2 * c ∧ z = c) ∨ (a = 2 * c + 1 ∧ z = c + 1) := by omega
  have hb : -P ≤ 2 * P * z - v ∧ 2 * P * z - v ≤ P := by
   rcases hz2 with ⟨h3, h4⟩ | ⟨h3, h4⟩ <;> subst h3 <;> subst h4 <;> constructor <;> grind
  have hex : v % p2i sh = 0 → 2 * P * z = v := fun h => by
   rw [hd] at h
   have h5 := Int.mul_ediv_add_emod v (2 * P)
   rw [h, Int.add_zero] at h5
   have h6 : v / (2 * P) = a / 2 := by rw [← hd]; exact hdd
   rw [h6] at h5
   have h7 : a / 2 = c := by omega
   rw [h7] at h5
   rcases hz2 with ⟨h3, h4⟩ | ⟨h3, h4⟩
   ·rw [h4]; exact h5
   ·exfalso
    rw [h3] at hv
    have : P * (2 * c + 1) = 2 * P * c + P := by grind
    omega
  have hPr : (0 : Rat) < ((P : Int) : Rat) := castI_pos hq
  have hw : wq v sh = (v : Rat) / (2 * (P : Rat)) := by unfold wq; rw [hd, Rat.intCast_mul]; rfl
  have hne : (2 * (P : Rat)) ≠ 0 := by grind
  have h2 : ((z : Rat) - wq v sh) * (2 * (P : Rat)) = ((2 * P * z - v : Int) : Rat) := by
   rw [hw, Rat.intCast_sub, Rat.intCast_mul, Rat.intCast_mul]
   rw [Rat.div_def]
   have := Rat.mul_inv_cancel _ hne
   generalize (2 * (P : Rat))⁻¹ = I at *
   show _ = (2 : Rat) * (P : Rat) * (z : Rat) - (v : Rat)
   grind
  have b1 : -((P : Int) : Rat) ≤ ((2 * P * z - v : Int) : Rat) := by rw [← Rat.intCast_neg]; exact Rat.intCast_le_intCast.2 hb.1
  have b2 : ((2 * P * z - v : Int) : Rat) ≤ ((P : Int) : Rat) := Rat.intCast_le_intCast.2 hb.2
  rw [← h2] at b1 b2
  constructor
  ·unfold absQ
   generalize (z : Rat) - wq v sh = X at *
   generalize (P : Rat) = Q at *
   have k1 : X ≤ 1 / 2 := by
    refine Rat.not_lt.1 fun h9 => ?_
    have := Rat.mul_lt_mul_of_pos_right h9 (show (0 : Rat) < 2 * Q by grind)
    grind
   have k2 : -(1 / 2) ≤ X := by
    refine Rat.not_lt.1 fun h9 => ?_
    have := Rat.mul_lt_mul_of_pos_right h9 (show (0 : Rat) < 2 * Q by grind)
    grind
   split <;> grind
  ·intro h
   have h3 := hex h
   rw [h3, Int.sub_self] at h2
   have h4 : ((z : Rat) - wq v sh) = 0 := by
    rcases Rat.mul_eq_zero.1 (h2.trans rfl) with h5 | h5
    ·exact h5
    ·exact absurd h5 hne
   grind
theorem absQ_le (h1 : x ≤ y) (h2 : -y ≤ x) : absQ x ≤ y := by unfold absQ; split <;> grind
theorem absQ_ge : x ≤ absQ x ∧ -absQ x ≤ x := by unfold absQ; split <;> grind
theorem absQ_add : absQ (x + y) ≤ absQ x + absQ y := by
 have h1 := absQ_ge (x := x); have h2 := absQ_ge (x := y)
 exact absQ_le (by grind) (by grind)
theorem absQ_mulQ : absQ (x * y) = absQ x * absQ y := by
 by_cases h1 : x = 0
 ·subst h1; rw [Rat.zero_mul, show absQ 0 = 0 from rfl, Rat.zero_mul]
 ·by_cases h2 : y = 0
  ·subst h2; rw [Rat.mul_zero, show absQ 0 = 0 from rfl, Rat.mul_zero]
  ·unfold absQ
   rcases Rat.le_total (a := 0) (b := x) with hx | hx <;> rcases Rat.le_total (a := 0) (b := y) with hy | hy
   ·have := Rat.mul_nonneg hx hy
    rw [if_neg (Rat.not_lt.2 this), if_neg (Rat.not_lt.2 hx), if_neg (Rat.not_lt.2 hy)]
   ·have h3 := Rat.mul_pos (show 0 < x by grind) (show 0 < -y by grind)
    rw [if_pos (by grind), if_neg (Rat.not_lt.2 hx), if_pos (by grind)]; grind
   ·have h3 := Rat.mul_pos (show 0 < -x by grind) (show 0 < y by grind)
    rw [if_pos (by grind), if_pos (by grind), if_neg (Rat.not_lt.2 hy)]; grind
   ·have h3 := Rat.mul_pos (show 0 < -x by grind) (show 0 < -y by grind)
    rw [if_neg (by grind), if_pos (by grind), if_pos (by grind)]; grind
theorem absQ_n0 : 0 ≤ absQ x := by unfold absQ; split <;> grind
def dotI (M : List (List Rat)) (i : Nat) (l : List Int) (n : Nat) : Rat := su (fun j => ent M i j * (l.getD j 0 : Rat)) n
theorem dot_swap {l : List Int} (ht : t < M.length) (hf : f < M.length) : dotI (swL M t f []) i l n = if i = t then dotI M f l n else if i = f then dotI M t l n else dotI M i l n := by
 unfold dotI
 rw [ent_swap ht hf]
 unfold swR
 split
 ·rfl
 ·split <;> rfl
theorem dot_neg {l : List Int} (hq : Sq n M) (ht : t < n) : dotI (M.set t (negR (M.getD t []))) i l n = if i = t then -dotI M t l n else dotI M i l n := by
 unfold dotI
 by_cases e : i = t
 ·subst e
  rw [if_pos rfl]
  have := su_mul (f := fun j => ent M i j * (l.getD j 0 : Rat)) (c := -1) (n := n)
  rw [show -su (fun j => ent M i j * (l.getD j 0 : Rat)) n = -1 * su (fun j => ent M i j * (l.getD j 0 : Rat)) n by grind, ← this]
  refine su_congr fun j hj => ?_
  rw [ent_set, if_pos ⟨rfl, by rw [hq.1]; exact ht⟩, negR_at (by rw [hq.2 i ht]; exact hj)]
  unfold ent; grind
 ·rw [if_neg e]
  refine su_congr fun j hj => ?_
  rw [ent_set, if_neg (fun h => e h.1.symm)]
theorem dot_row {l : List Int} (hq : Sq n M) (ht : t < n) : dotI (M.set t (rowA (M.getD t []) (M.getD f []) q)) i l n = if i = t then dotI M t l n + q * dotI M f l n else dotI M i l n := by
 unfold dotI
 by_cases e : i = t
 ·subst e
  rw [if_pos rfl, ← su_mul, ← su_add]
  refine su_congr fun j hj => ?_
  rw [ent_set, if_pos ⟨rfl, by rw [hq.1]; exact ht⟩, rowA_at (by rw [hq.2 i ht]; exact hj)]
  unfold ent; grind
 ·rw [if_neg e]
  refine su_congr fun j hj => ?_
  rw [ent_set, if_neg (fun h => e h.1.symm)]
theorem dot_id {l : List Int} (hi : i < n) : dotI (idR n) i l n = (l.getD i 0 : Rat) := by
 unfold dotI
 rw [su_at (k := i) hi (fun j hj hji => by unfold ent; rw [idR_at hi, idRow_at hj, if_neg (Ne.symm hji), Rat.zero_mul])]
 unfold ent
 rw [idR_at hi, idRow_at hi, if_pos rfl, Rat.one_mul]
def nB : Nat → Int
 | 0 => 50
 | k + 1 => 4 * nB k + 1
theorem nB_le : ∀ k, k ≤ 12 → nB k ≤ 1000000000 := by decide +kernel
theorem nB_pos : ∀ k, 0 ≤ nB k := by
 intro k
 induction k with
 | zero => decide
 | succ k ih => show 0 ≤ 4 * nB k + 1; omega
theorem near {l : List Int} (hS : S.length ≤ 12) (hc : ∀ p ∈ S, shC (n : Int) 3 p) (hl : l.length = n) (hb : ∀ i, i < n → -50 ≤ l.getD i 0 ∧ l.getD i 0 ≤ 50) : ∀ k, k ≤ S.length →
  (∀ i, i < n → -(nB k) ≤ (shFs (S.take k) l).getD i 0 ∧ (shFs (S.take k) l).getD i 0 ≤ nB k) ∧
  ∀ i, i < n → absQ (((shFs (S.take k) l).getD i 0 : Rat) - dotI (linM n (S.take k)) i l n) ≤ (spL n (S.take k)).getD i 0 := by
 have hO : ∀ i, i < S.length → shOK (n : Int) (S.getD i []) := fun i hi => by
  rw [List.getD_eq_getElem?_getD, List.getElem?_eq_getElem hi]; exact (hc S[i] (List.getElem_mem hi)).2.1
 have h4 : Rows 4 S := fun p hp => (hc p hp).1
 intro k
 induction k with
 | zero =>
  intro _
  refine ⟨fun i hi => hb i hi, fun i hi => ?_⟩
  rw [List.take_zero, linM_nil, dot_id hi, spL_nil]
  show absQ ((l.getD i 0 : Rat) - (l.getD i 0 : Rat)) ≤ _
  rw [show (l.getD i 0 : Rat) - (l.getD i 0 : Rat) = 0 by grind, List.getD_eq_getElem?_getD, List.getElem?_replicate, if_pos hi]
  decide +kernel
 | succ k ih =>
  intro hk
  obtain ⟨hB, hN⟩ := ih xq
  obtain ⟨t, f, cf, sh, e, k1, k2, k3, k4, k5, k6, k7, k8⟩ := shOK_four (hO k xq) (h4.get xq)
  have hck := hc _ (show S.getD k [] ∈ S by rw [List.getD_eq_getElem?_getD, List.getElem?_eq_getElem xq]; exact List.getElem_mem _)
  rw [e] at hck
  have c1 : -3 ≤ cf := hck.2.2.1
  have c2 : cf ≤ 3 := hck.2.2.2.1
  obtain ⟨hsq, _⟩ := linM_ok hO h4 k xq
  rw [shFs_snoc S k xq, linM_snoc k xq, spL_snoc k xq, e]
  obtain ⟨Y, hY⟩ : ∃ Y, shFs (S.take k) l = Y := ⟨_, rfl⟩
  obtain ⟨M, hM⟩ : ∃ M, linM n (S.take k) = M := ⟨_, rfl⟩
  obtain ⟨E, hE⟩ : ∃ E, spL n (S.take k) = E := ⟨_, rfl⟩
  have hYl : Y.length = n := by rw [← hY, shFs_len]; exact hl
  have hEl : E.length = n := by rw [← hE]; exact spL_len
  rw [hY] at hB hN ⊢
  rw [hM] at hN hsq ⊢
  rw [hE] at hN ⊢
  have hMl := hsq.1
  have hp0 := nB_pos k
  have hpl := nB_le (k + 1) xq
  have hs : nB (k + 1) = 4 * nB k + 1 := rfl
  by_cases g1 : sh = -1
  ·rw [shF_x g1, cmb_x g1, spF_x g1]
   have hx : (Y.set t (Y.getD f 0)).set f (Y.getD t 0) = swL Y t f 0 := rfl
   rw [hx]
   refine ⟨fun i hi => ?_, fun i hi => ?_⟩
   ·rw [swL_at xq xq]
    have := hB t k1; have := hB f k2; have := hB i hi
    split
    ·omega
    ·split <;> omega
   ·rw [swL_at xq xq, dot_swap xq xq, swL_at xq xq]
    split
    ·exact hN f k2
    ·split
     ·exact hN t k1
     ·exact hN i hi
  ·by_cases g2 : sh = -2
   ·rw [shF_n g2, cmb_n g2, spF_n g2]
    have hw : wrapW 32 (-(Y.getD t 0)) = -(Y.getD t 0) := wrap32_id (by have := hB t k1; omega)
    rw [hw]
    refine ⟨fun i hi => ?_, fun i hi => ?_⟩
    ·by_cases e2 : t = i
     ·subst e2; rw [getD_set_eq xq]; have := hB t k1; omega
     ·rw [getD_set_ne2 e2]; have := hB i hi; omega
    ·rw [dot_neg hsq k1]
     by_cases e2 : t = i
     ·subst e2
      rw [getD_set_eq xq, if_pos rfl]
      have := hN t k1
      rw [Rat.intCast_neg]
      generalize ((Y.getD t 0 : Int) : Rat) = a at *
      generalize dotI M t l n = d at *
      have h9 := absQ_ge (x := a - d)
      exact absQ_le (by grind) (by grind)
     ·rw [getD_set_ne2 e2, if_neg (Ne.symm e2)]; exact hN i hi
   ·rw [shF_s g1 g2, cmb_s g1 g2, spF_s g1 g2]
    have hsh : 0 ≤ sh := by omega
    have b1 := hB t k1; have b2 := hB f k2
    have hm : -(3 * nB k) ≤ cf * Y.getD f 0 ∧ cf * Y.getD f 0 ≤ 3 * nB k := sh_mul ⟨c1, c2⟩ b2 xw
    have hsb := shift_bd2 (cf * Y.getD f 0) sh
    have hw : wrapW 32 (Y.getD t 0 + 1 * shiftW (cf * Y.getD f 0) sh 2) = Y.getD t 0 + shiftW (cf * Y.getD f 0) sh 2 := by
     rw [Int.one_mul]; exact wrap32_id xq
    rw [hw]
    refine ⟨fun i hi => ?_, fun i hi => ?_⟩
    ·by_cases e2 : t = i
     ·subst e2; rw [getD_set_eq xq]; omega
     ·rw [getD_set_ne2 e2]; have := hB i hi; omega
    ·rw [dot_row hsq k1]
     by_cases e2 : t = i
     ·subst e2
      rw [getD_set_eq xq, if_pos rfl, getD_setQ, if_pos ⟨rfl, by omega⟩]
      obtain ⟨s1, s2⟩ := shift_near (v := cf * Y.getD f 0) (sh := sh) hsh
      have n1 := hN t k1; have n2 := hN f k2
      have hwm : wq (cf * Y.getD f 0) sh = wq cf sh * ((Y.getD f 0 : Int) : Rat) := by
       unfold wq; rw [Rat.intCast_mul, Rat.div_def, Rat.div_def]; grind
      have hlast : absQ (((shiftW (cf * Y.getD f 0) sh 2 : Int) : Rat) - wq (cf * Y.getD f 0) sh) ≤ if cf.tmod (p2i sh) = 0 then 0 else 1 / 2 := by
       split
       ·rename_i h9
        have h8 : cf * Y.getD f 0 % p2i sh = 0 := Int.emod_eq_zero_of_dvd (Int.dvd_mul_of_dvd_left (Int.dvd_of_tmod_eq_zero h9))
        rw [s2 h8, show wq (cf * Y.getD f 0) sh - wq (cf * Y.getD f 0) sh = 0 by grind]; decide +kernel
       ·exact s1
      rw [hwm] at hlast
      unfold spG
      rw [Rat.intCast_add]
      generalize (if cf.tmod (p2i sh) = 0 then (0 : Rat) else 1 / 2) = h at *
      generalize ((shiftW (cf * Y.getD f 0) sh 2 : Int) : Rat) = z at *
      generalize ((Y.getD t 0 : Int) : Rat) = yt at *
      generalize ((Y.getD f 0 : Int) : Rat) = yf at *
      generalize dotI M t l n = dt at *
      generalize dotI M f l n = df at *
      generalize E.getD t 0 = et at *
      generalize E.getD f 0 = ef at *
      generalize wq cf sh = w at *
      have t1 := absQ_add (x := yt - dt) (y := w * (yf - df) + (z - w * yf))
      have t2 := absQ_add (x := w * (yf - df)) (y := z - w * yf)
      rw [absQ_mulQ] at t2
      have t3 : absQ w * absQ (yf - df) ≤ absQ w * ef := Rat.mul_le_mul_of_nonneg_left n2 absQ_n0
      have e3 : yt + z - (dt + w * df) = (yt - dt) + (w * (yf - df) + (z - w * yf)) := by grind
      rw [e3]
      grind
     ·rw [getD_set_ne2 e2, if_neg (Ne.symm e2), getD_setQ, if_neg (fun h => e2 h.1)]; exact hN i hi
end
end Nt
@[irreducible]
def Nt.lftV (v : Value) : Nat := match v with | .int _ i => (i + 1).toNat | _ => 0
theorem Nt.vol_law {S : List (List Int)} {n : Nat} (hV : Nt.shV (n : Int) S) (h4 : Rows 4 S) : Nt.absQ (Nt.det n (Nt.ent (Nt.linM n S))) = 1 := by
 have h9 := Nt.det_linM hV.2.2.2 h4 S.length (Nat.le_refl _)
 rw [List.take_length] at h9
 rcases h9 with h | h <;> rw [h]
 ·rfl
 ·decide +kernel
theorem Nt.vol_inj {S : List (List Int)} {n : Nat} (hV : Nt.shV (n : Int) S) (h4 : Rows 4 S) : Nt.Inj n (Nt.linM n S) := by
 have h9 := Nt.inj_linM hV.2.2.2 h4 S.length (Nat.le_refl _)
 rwa [List.take_length] at h9
set_option maxHeartbeats 4000000 in
theorem w_volume {u w : World} {x1 x2 x3 x4 : Sl} {l1 l2 l3 l4 : List Int} {z : Int} (d : Dat u w) (hx1 : SlR .i64 u x1.a x1.n x1.c l1) (hb1 : ∀ z ∈ l1, -9223372036854775808 ≤ z ∧ z ≤ 9223372036854775807) (hx2 : SlR .i64 u x2.a x2.n x2.c l2) (hb2 : ∀ z ∈ l2, -9223372036854775808 ≤ z ∧ z ≤ 9223372036854775807) (hx3 : SlR .i64 u x3.a x3.n x3.c l3) (hb3 : ∀ z ∈ l3, -9223372036854775808 ≤ z ∧ z ≤ 9223372036854775807) (hx4 : SlR .i64 u x4.a x4.n x4.c l4) (hb4 : ∀ z ∈ l4, -9223372036854775808 ≤ z ∧ z ≤ 9223372036854775807) (hz0 : -9223372036854775808 ≤ z) (hz1 : z ≤ 9223372036854775807) : Calls Tryz.prog 10 #[.agg #[x1.v, x2.v, x3.v, x4.v], .int .i64 z] w (Post u w fun v _ => v = .bool true) := by
 refine zzl (args := [.agg #[.slice x1.a x1.n x1.c, .slice x2.a x2.n x2.c, .slice x3.a x3.n x3.c, .slice x4.a x4.n x4.c], .int .i64 z]) Tryz.func10 rfl Tryz.ntmps10 (rs := [.tmp 4]) Tryz.results10 (le_b rfl) (le_b rfl) d ?_
 refine sq9 (zzj 2 ⟨63, [x1.v, x2.v, x3.v, x4.v]⟩ (zza 4 (zB false) (zzb (sq9 (zza 10 (zI z) (zzg 11 45 [.int .i64 z, .int .i64 4] ?_))))))
 intro w11 u11 e11 d11
 have k16 := (show Calls _ _ #[.int .i64 z, .int .i64 4] _ _ from k_withinN (n := z) (m := 4) d11 xq xq xq xq)
 with_reducible refine zPm k16 ?_
 rintro _ u14 g15 ⟨z12, rfl, h13⟩
 refine zyp 12 (x := zI (IntKind.i64.wrap ((2 : Int) + (z12 : Int)))) (zI (2 + z12 : Nat)) (eqI xz) (zza 5 (zI (2 + z12 : Nat)) (zzb (sq9 (zzh 14 (.v (.agg #[x1.v, x2.v, x3.v, x4.v])) ty63 zze (zza 15 (zI (2 + z12 : Nat)) (zzg 16 46 [.agg #[x1.v, x2.v, x3.v, x4.v], .int .i64 (2 + z12 : Nat), .int .i64 300] ?_))))))
 intro w17 u17 e17 d17
 have k25 := (show Calls _ _ #[_, .int .i64 ((2 + z12 : Nat) : Int), _] _ _ from k_shears (n := 2 + z12) (b := 300) d17 (hx1.ext (e11.trans (g15.ext.trans e17))) hb1 (hx2.ext (e11.trans (g15.ext.trans e17))) hb2 (hx3.ext (e11.trans (g15.ext.trans e17))) hb3 (hx4.ext (e11.trans (g15.ext.trans e17))) hb4 xq xq xq xq)
 with_reducible refine zPm k25 ?_
 rintro _ u23 g24 ⟨y18, S19, rfl, hx20, hlS21, hcS22⟩
 have hlS_S19 := IrV.len hx20
 have hV_S19 : Nt.shV ((2 + z12 : Nat) : Int) S19 := Nt.shC_all xq hlS21 hcS22
 refine zza 17 (zI (2 + z12 : Nat)) (zzg 18 53 [y18.v, .int .i64 (2 + z12 : Nat)] ?_)
 intro w26 u26 e26 d26
 have k30 := (show Calls _ _ #[_, .int .i64 ((2 + z12 : Nat) : Int)] _ _ from k_dlinear (n := 2 + z12) d26 (hx20.ext e26) hV_S19)
 with_reducible refine zPm k30 ?_
 rintro _ u28 g29 ⟨y27, Rs27, Ls27, rfl, hM27, hN27⟩
 have hsq27 : Nt.Sq (2 + z12) (Nt.linM (2 + z12) S19) := by have h9 := (Nt.linM_ok hV_S19.2.2.2 hx20.rows _ (Nat.le_refl _)).1; rw [List.take_length] at h9; exact h9
 have hLl27 : Ls27.length = 2 + z12 := hN27.1.trans hsq27.1
 have hRl27 := hM27.len
 have hyn27 : y27.n = 2 + z12 := hM27.rows.trans hLl27
 have hkzb : Nt.kz (2 + z12) 100 ≤ 50000000 := Nat.le_trans (Nt.kz_mono (n := 5) xq) xw
 refine zza 13 (.v (.tuple #[y27.v, .int .i64 0])) (zza 19 (.v y27.v) (zza 20 (zI 0) (zza 6 (.v y27.v) (zza 7 (zI 0) (zzb (sq9 (zza 22 (.v y27.v) (zzg 23 54 [y27.v] ?_))))))))
 intro w31 u31 e31 d31
 have k36 := k_r9det (n := 2 + z12) d31 (hM27.ext e31) (hN27.ext e31) (hsq27.1) (fun i hi => (hsq27.2 i xq)) xq xq (Nt.vol_inj hV_S19 hx20.rows) xq hkzb
 with_reducible refine zPm k36 ?_
 rintro _ u34 g35 ⟨r32, rfl, h33⟩
 refine zza 21 (.v (.tuple #[r32.v, .int .i64 0])) (zza 24 (.v (r32.v)) (zza 25 (zI 0) (zzj 8 ⟨26, [.bool false, .slice none 0 0, .slice none 0 0]⟩ (zzi ⟨26, r32.cs⟩ ty26 ?_))))
 refine zza 9 (zI 0) (zzb (sq9 (zzg 26 51 [] ?_)))
 intro w37 u37 e37 d37
 have k40 := k_known37 d37
 with_reducible refine zPm k40 ?_
 rintro _ u38 g39 rfl
 refine zza 27 (zB true) (zza 28 (zI 0) ?_ (hw := w1 1 true 27))
 refine zza 29 (zB true) ?_ (hw := w1 1 true 27)
 refine zza 30 (zB true) (zza 31 (zB true) (zza 32 (zI 0) ?_ (hw := w1 5 true 31)))
 refine zza 33 (zB true) ?_ (hw := w1 5 true 31)
 refine zza 34 (zB true) (zza 35 (zB true) (zzh 36 (.v (r32.v)) ty26 zze ?_ (hw := w1 9 true 35)))
 refine zzg 37 23 [r32.v] ?_ (hw := w1 9 true 35)
 intro w41 u41 e41 d41
 have k46 := k_rqAbs d41 (h33.ext (e37.trans (g39.ext.trans e41))).raw xq
 with_reducible refine zPm k46 ?_
 rintro _ u44 g45 ⟨r42, rfl, h43⟩
 refine zzg 38 30 [.int .i64 1] ?_ (hw := w1 9 true 35)
 intro w47 u47 e47 d47
 have k52 := k_rqOf d47 (z := 1) xq xq
 with_reducible refine zPm k52 ?_
 rintro _ u50 g51 ⟨r48, rfl, h49⟩
 refine zzg 39 28 [r42.v, r48.v] ?_ (hw := w1 9 true 35)
 intro w53 u53 e53 d53
 have k56 := k_rqCompare d53 (h43.ext (e47.trans (g51.ext.trans e53))).raw (h49.ext e53).raw xq xq
 with_reducible refine zPm k56 ?_
 rintro _ u54 g55 rfl
 refine zza 40 (zB ((Nt.cmpQ (Nt.absQ (Nt.det (2 + z12) (Nt.ent (Nt.linM (2 + z12) S19)))) ((1 : Int) : Rat)) == 0)) ?_ (hw := w1 9 true 35)
 refine zza 41 (zB ((Nt.cmpQ (Nt.absQ (Nt.det (2 + z12) (Nt.ent (Nt.linM (2 + z12) S19)))) ((1 : Int) : Rat)) == 0)) (zza 4 (zB ((Nt.cmpQ (Nt.absQ (Nt.det (2 + z12) (Nt.ent (Nt.linM (2 + z12) S19)))) ((1 : Int) : Rat)) == 0)) (zzc 42 [(4, zB ((Nt.cmpQ (Nt.absQ (Nt.det (2 + z12) (Nt.ent (Nt.linM (2 + z12) S19)))) ((1 : Int) : Rat)) == 0))] [] (zzn (ret0 [.bool ((Nt.cmpQ (Nt.absQ (Nt.det (2 + z12) (Nt.ent (Nt.linM (2 + z12) S19)))) ((1 : Int) : Rat)) == 0)] ⟨zzp, trivial⟩ fun u57 e58 => ?_))))
 show Value.bool _ = Value.bool true
 rw [show ((Nt.cmpQ (Nt.absQ (Nt.det (2 + z12) (Nt.ent (Nt.linM (2 + z12) S19)))) ((1 : Int) : Rat)) == 0) = true from (by rw [Nt.cmpQ_eq]; exact decide_eq_true ((Nt.vol_law hV_S19 hx20.rows).trans rfl))]
end Go.Proofs.YtbolmkfphieogaaGreat
