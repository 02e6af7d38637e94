/- The reference's DivMod: the long way. Contracts of the reference of nat: Gcd. How values read in data worlds; the contracts of nat and of its reference in these words. Printed by wip/sym/mkvl.py. Plain laws of rationals and their sizes; how rationals read. From the reading of an argument to the words of the walks. Symbolic walks: lists of the call's own: make, append, elements; a list becomes data. Polynomials: lists of rationals, as data and in the call's own memory. Plain laws for the reference of integers and rationals. Plain laws of intervals of rationals; a copied list of digits. Plain polynomials: lists of rationals, the coefficient of the power 0 first. Plain laws: the common measure of rationals. Plain polynomials: products. Plain laws: whole numbers, one step of a division of polynomials. Plain polynomials: the ring. Plain polynomials: degrees, division, greatest common divisors, derivatives, values. Plain polynomials: primitive parts; how many bits Euclid's way needs. Lists of numbers over a common denominator: how many digits they take. Readings of lists as arguments. -/
import Derived.Test.YtnedhbidmfoegaaGreatGcB
import Derived.IntWalk
import Derived.KernelRfl
import Derived.Test.YtnedhbidmfoegaaGreatProg
import Derived.OpenShut
import Derived.ChangeSlices
import Derived.Deep.Slices
import Derived.Laws.MakeOwn
import Derived.Maps.AppendAt
namespace Go.Proofs.YtnedhbidmfoegaaGreat
open Go.RowKit
set_option linter.unusedVariables false
theorem rdiv_fin {wr w : World} {B gu Lu cu gv cv n gq N z : Nat} {a b v U Q : List Int} (hR : RW wr w B gu Lu cu gv cv n gq v U Q) (hD : Nt.DivL 0 N (Nt.val a * 2 ^ z) (Nt.val v) U Q) (hv : v.length = N + 2) (dv : Nt.Dig v) (ev : Nt.val v = Nt.val b * 2 ^ z) :
    ∀ (w9 w10 : World) (A9 : Option Addr) (n9 c9 : Nat) (A10 : Option Addr) (n10 c10 : Nat), OwnF wr w9 A9 n9 c9 (Nt.val Q).toNat → Below wr.heap.size wr w9 → OwnF w9 w10 A10 n10 c10 (Nt.val (U.take (N + 2)) / 2 ^ z).toNat → Below w9.heap.size w9 w10 →
      DivMF w w10 (.returned (.tuple #[.slice A9 n9 c9, .slice A10 n10 c10, .int .i64 0])) (Nt.val a) (Nt.val b) := by
  intro w9 w10 A9 n9 c9 A10 n10 c10 f9 hb9 f10 hb10
  have hlow := hD.low
  have hsum := hD.sum
  simp only [List.drop_zero, Nt.pw, Int.mul_one] at hlow hsum
  have hU0 := Nt.val_nonneg hD.dU
  have e1 : Nt.val (U.take (N + 2)) = Nt.val U := (Nt.val_low hD.dU (n := N + 2) (by have := Nt.val_lt dv; rw [hv] at this; omega)).2
  obtain ⟨q1, q2⟩ := Nt.div_end (a := Nt.val a) (b := Nt.val b) (Q := Nt.val Q) (U := Nt.val U) (Nt.p2_pos z) (by rw [hsum, ev]) hU0 (by omega)
  rw [e1, ← q2] at f10
  rw [← q1] at f9
  have hs1 := hR.bel.size
  have hs2 := hb9.size
  have hB : Below w.heap.size w w9 := hR.bel.trans (hb9.mono hs1)
  exact ⟨A9, n9, c9, A10, n10, c10, rfl, (f9.nat.mono hs1).below hb10, f10.nat.mono (by omega), hB.trans (hb10.mono hB.size)⟩
set_option maxRecDepth 1000000 in
set_option maxHeartbeats 8000000 in
theorem rDivMod_long (A B : Option Addr) (n c m d : Nat) (a b : List Int) (w : World) (ha : SlR .u32 w A n c a) (hb : SlR .u32 w B m d b) (da : Nt.Dig a) (db : Nt.Dig b) (hn : n ≤ 500000000) (hm : m ≤ 500000000) (hz : 4294967296 ≤ Nt.val b) (hge : Nt.val b ≤ Nt.val a) :
    Calls Tryz.prog 191 #[.slice A n c, .slice B m d] w fun e w' => DivMF w w' e (Nt.val a) (Nt.val b) := by
  have lx : Hid ((Nt.digits (Nt.val a).toNat).length ≤ n) := by rw [← Nt.strip_eq da, ← ha.1]; exact Nt.strip_length_le a
  have ly : Hid ((Nt.digits (Nt.val b).toNat).length ≤ m) := by rw [← Nt.strip_eq db, ← hb.1]; exact Nt.strip_length_le b
  have a0 := Nt.val_nonneg da
  obtain ⟨X, hX⟩ : ∃ X : Nat, X = (Nt.val a).toNat := ⟨_, rfl⟩
  obtain ⟨Y, hY⟩ : ∃ Y : Nat, Y = (Nt.val b).toNat := ⟨_, rfl⟩
  have HX : Hid (Nt.val a = X) := by show _ = _; omega
  have HY : Hid (Nt.val b = Y) := by show _ = _; omega
  have HXY : Hid (Y ≤ X) := by show _ ≤ _; omega
  have hcmp : 0 ≤ Nt.cmpS X Y := by unfold Nt.cmpS; rw [if_neg (by omega)]; split <;> omega
  have HXn := Lib.hid hX
  have HYn := Lib.hid hY
  have hY2 : Hid (1 < (Nt.digits Y).length) := Nt.digits_length_gt (v := Y) (n := 1) (by simp [Nt.pw]; omega)
  clear hX hY hz hge
  go_enter Tryz.func191, Tryz.ntmps191
  go_wp2_with fail
  refine (rTrim_any _ _ _ _ _ ha da (by omega)).mono ?_
  rintro e w1 ⟨A1, N1, c1, rfl, f1, hb1⟩
  go_wp2_with fail
  refine (rTrim_any _ _ _ _ _ (hb.below hb1) db (by omega)).mono ?_
  rintro e w2 ⟨A2, M2, c2, rfl, f2, hb2⟩
  rw [← HXn.out] at f1 lx
  rw [← HYn.out] at f2 ly
  have hN1 : N1 ≤ 500000000 := by have := f1.1; have := lx.out; omega
  have hM2 : M2 ≤ 500000000 := by have := f2.1; have := ly.out; omega
  have hMN : Hid (M2 ≤ N1) := by show _ ≤ _; rw [f1.1, f2.1]; exact Nt.digits_len_mono HXY.out
  obtain ⟨N, hNN⟩ : ∃ N, M2 = N + 2 := ⟨M2 - 2, by have := f2.1; have := hY2.out; omega⟩
  subst hNN
  have hx := Lib.hid (f1.nat.2.1.below hb2)
  have hy := Lib.hid f2.nat.2.1
  have e1 := Lib.hid f1.1
  have e2 := Lib.hid f2.1
  have hB2 : Hid (Below w.heap.size w w2) := hb1.trans (hb2.mono hb1.size)
  have h0 : ((N : Int) + 2 == 0) = false := by rw [beq_eq_false_iff_ne]; omega
  have h1 : ((N : Int) + 2 == 1) = false := by rw [beq_eq_false_iff_ne]; omega
  clear f1 f2 ha hb hb1 hb2 da db lx ly
  go_wp2_with fail
  refine (rCompare_any _ _ _ _ _ _ _ _ _ hx.out hy.out (Nt.digits_dig _) (Nt.digits_dig _) (by omega) (by omega)).mono ?_
  rintro e w3 ⟨rfl, hb3⟩
  rw [Nt.digits_val, Nt.digits_val]
  have hx3 := Lib.hid (hx.out.below hb3)
  have hy3 := Lib.hid (hy.out.below hb3)
  have hB3 : Hid (Below w.heap.size w w3) := hB2.out.trans (hb3.mono hB2.out.size)
  obtain ⟨y, hyy⟩ : ∃ y : Nat, (y : Int) = (Nt.digits Y)[N + 1]?.getD 0 := ⟨((Nt.digits Y)[N + 1]?.getD 0).toNat, by have := (Nt.digits_dig Y).at (N + 1); omega⟩
  have hyb := (Nt.digits_dig Y).at (N + 1)
  have hyn := Nt.norm_last (k := N + 1) (Nt.digits_norm Y) e2.out.symm
  rw [← hyy] at hyb hyn
  obtain ⟨z, hz1, hz2, hz3, hz4⟩ := Nt.lz2 (y := y) (by omega) (by omega)
  have Hz1 := Lib.hid hz1
  have hvn := Lib.hid (Nt.vnorm e2.out.symm hyy hz3 hz4)
  obtain ⟨gb, ob, rfl, hgb, hcb⟩ := hy3.out.pos (i := N + 1) (by omega)
  have hcm := hy3.out.2.1
  have hcm2 := hy3.out.2.2.1
  unfold maxLen at hcm2
  have hyl : Hid (SlR .u32 w3 (some ⟨gb, ob + (N + 1), none⟩) 1 (c2 - (N + 1)) [(y : Int)]) := by
    refine ⟨rfl, by omega, by unfold maxLen; omega, fun _ => ⟨gb, ob + (N + 1), rfl, hgb, fun i hi => ?_⟩⟩
    obtain rfl : i = 0 := by omega
    rw [Nat.add_zero, hcb, ← hyy]; rfl
  have hN1' : (N : Int) + 2 - 1 = (N : Int) + 1 := by omega
  obtain ⟨s, hs⟩ : ∃ s, s = Nt.cmpS X Y := ⟨_, rfl⟩
  rw [← hs] at hcmp ⊢
  clear hz1 hz3 hz4 hyy hb3 hx hy hB2 hcb hs
  go_wp2_with fail
  refine (rBitLen_any _ _ _ _ _ hyl.out (Nt.Dig.cons hyb Nt.Dig.nil) (by omega)).mono ?_
  rintro e w4 ⟨rfl, hb4⟩
  have hvy : (Nt.val [(y : Int)]).toNat = y := by simp [Nt.val]
  rw [hvy]
  have hz1 := Hz1.out
  have hbl0 : (0 : Int) ≤ Nt.bitl y := by omega
  have hbl1 : (Nt.bitl y : Int) ≤ 32 := by omega
  have hsd : decide (s < 0) = false := by simp; omega
  have hx4 := Lib.hid (hx3.out.below hb4)
  have hy4 := Lib.hid (hy3.out.below hb4)
  have hB4 : Hid (Below w.heap.size w w4) := hB3.out.trans (hb4.mono hB3.out.size)
  clear hvy hyl hb4 hx3 hy3 hB3
  go_wp2_with fail
  refine (rShift_pos _ _ _ z _ _ hx4.out (Nt.digits_dig _) (by omega) (by omega)).mono ?_
  rintro e w5 ⟨A5, L5, c5, rfl, f5, hb5⟩
  rw [Nt.digits_val] at f5
  have eX : ((X : Int) * 2 ^ z).toNat = X * 2 ^ z := by
    have : ((X * 2 ^ z : Nat) : Int) = (X : Int) * 2 ^ z := by rw [Int.natCast_mul, Int.natCast_pow]; rfl
    omega
  have eY : ((Y : Int) * 2 ^ z).toNat = Y * 2 ^ z := by
    have : ((Y * 2 ^ z : Nat) : Int) = (Y : Int) * 2 ^ z := by rw [Int.natCast_mul, Int.natCast_pow]; rfl
    omega
  rw [eX] at f5
  have F5 := Lib.hid f5
  have HW45 := Lib.hid hb5.size
  have hy5 := Lib.hid (hy4.out.below hb5)
  have hB5 : Hid (Below w.heap.size w w5) := hB4.out.trans (hb5.mono hB4.out.size)
  have EY := Lib.hid eY
  clear eX eY f5 hb5 hy4 hx4
  go_wp2_with fail
  refine (rShift_pos _ _ _ z _ _ hy5.out (Nt.digits_dig _) (by omega) (by omega)).mono ?_
  rintro e w6 ⟨A6, L6, c6, rfl, f6, hb6⟩
  rw [Nt.digits_val, EY.out] at f6
  have hL5 : Hid (N1 ≤ L5) := by
    show _ ≤ _
    rw [F5.out.1, e1.out]
    exact Nt.digits_len_mono (Nat.le_mul_of_pos_right _ (Nat.pow_pos (by omega)))
  have hL5' : Hid (L5 ≤ N1 + 1) := by
    show _ ≤ _
    rw [F5.out.1]
    apply Nt.digits_length_le
    have hv := Nt.val_lt (Nt.digits_dig X)
    rw [Nt.digits_val, ← e1.out] at hv
    have hp := Nt.p2_le hz2
    have h3 : (X : Int) * 2 ^ z ≤ (X : Int) * 2147483648 := Int.mul_le_mul_of_nonneg_left hp (by omega)
    rw [Int.natCast_mul, Int.natCast_pow, Nt.pw]
    have e : ((2 : Nat) : Int) = 2 := rfl
    rw [e]
    omega
  have hL6 : L6 = N + 2 := by rw [f6.1]; exact hvn.out.1
  subst hL6
  obtain ⟨gv, rfl, hgv1, hgv2⟩ := f6.2.pos (by omega)
  have hv6 := Lib.hid f6.nat.2.1
  have hu6 := Lib.hid (F5.out.2.below hb6)
  have hB6 : Hid (Below w.heap.size w w6) := hB5.out.trans (hb6.mono hB5.out.size)
  have hw45 : w.heap.size ≤ w4.heap.size := hB4.out.size
  have hw56 : w4.heap.size ≤ w6.heap.size := by
    have h5 := (F5.out.2.blk)
    have := hB5.out.size
    have := hb6.size
    have h45 : w4.heap.size ≤ w5.heap.size := HW45.out
    omega
  clear f6 hb6 hy5
  have hl1 := hL5.out
  have hl2 := hL5'.out
  have hmn := hMN.out
  go_wp2_with (at_builtin; refine wpList_appendG _ rfl (.tmp 67) (.tmp 68) _ rfl 105 .u32 4 Tryz.underlying22 u32_info w4.heap.size A5 L5 c5 (Nt.digits (X * 2 ^ z)) rfl ?own ⟨w6.heap.size, 0, none⟩ 1 1 [0] rfl ?slr ?h63 ?hby ?hbase ?_)
  case own => exact hu6.out.below ((Below.refl _ _).alloc (Nat.le_refl _) _)
  case slr => exact (KBlk.new w6 105 [0]).slr_all rfl (Nat.le_refl _) (by decide)
  case h63 => unfold maxLen; omega
  case hby => omega
  case hbase => simp; omega
  intro A7 c7 w7 ho7 hb7 hsm7 hat7 hsz7
  obtain ⟨gu, rfl, hgu1, hgu2⟩ := ho7.pos (by omega)
  have hU7 := Lib.hid ho7
  have hbk5 := hu6.out.blk
  have hguv : gu ≠ gv := by
    rcases hat7 _ rfl with ⟨p0, hp0, hp1⟩ | h
    · have h1 := F5.out.2.blk p0 hp0
      have h2 : gu = p0.block := hp1
      omega
    · have h2 : gu = w6.heap.size + 1 := h
      omega
  have hv7 : Hid (SlR .u32 w7 (some ⟨gv, 0, none⟩) (N + 2) c6 (Nt.digits (Y * 2 ^ z))) := by
    refine (hv6.out.alloc _).blk (hsm7 gv (by omega) ?_) (by simp; exact hsz7)
    intro p hp h
    have := F5.out.2.blk p hp
    omega
  have hB7 : Hid (Below w.heap.size w w7) := (hB6.out.alloc hB6.out.size _).trans (hb7.mono hw45)
  have hsz7' : gv < w7.heap.size := by omega
  have hgw : w.heap.size ≤ gu := by omega
  have hgvw : w.heap.size ≤ gv := by have := hB5.out.size; omega
  have hLN : ¬ (L5 : Int) + 1 < (N1 : Int) + 1 := by omega
  have hu7v : Hid (Nt.val (Nt.digits (X * 2 ^ z) ++ [0]) = Nt.val a * 2 ^ z) := by
    show _ = _
    rw [Nt.snoc_val, Nt.digits_val, HX.out, Int.natCast_mul, Int.natCast_pow]
    simp
  have hv7v : Hid (Nt.val (Nt.digits (Y * 2 ^ z)) = Nt.val b * 2 ^ z) := by
    show _ = _
    rw [Nt.digits_val, HY.out, Int.natCast_mul, Int.natCast_pow]
    rfl
  obtain ⟨M, hM⟩ : ∃ M, L5 + 1 = M + (N + 2) := ⟨L5 + 1 - (N + 2), by omega⟩
  have HM := Lib.hid hM
  have hMb : M + (N + 2) ≤ L5 + 1 ∧ L5 + 1 ≤ M + (N + 2) := by omega
  have hlow : Hid (Nt.val ((Nt.digits (X * 2 ^ z) ++ [0]).drop M) < Nt.val (Nt.digits (Y * 2 ^ z))) := Nt.ulow (Nt.digits_dig _) (by rw [← F5.out.1]; exact hM) (Nt.digits_dig _) hvn.out.1 hvn.out.2
  have hdU : Hid (Nt.Dig (Nt.digits (X * 2 ^ z) ++ [0])) := (Nt.digits_dig _).snoc (by omega)
  have hdv := Lib.hid (Nt.digits_dig (Y * 2 ^ z))
  clear ho7 hb7 hsm7 hsz7 hat7 hbk5 hu6 hv6 hB6 hM hz1 EY hL5 hL5' hMN e1 HXY hB4 hB5 HW45
  generalize Nt.digits (X * 2 ^ z) ++ [0] = U0 at *
  generalize Nt.digits (Y * 2 ^ z) = v at *
  go_wp2
  go_loopw [10] (fun s10 wr => s10 = .slice (some ⟨gu, 0, none⟩) (L5 + 1) c7 ∧ wr = w7) (fun _ _ => 0)
  case atStart => exact ⟨rfl, rfl⟩
  case round =>
    obtain ⟨rfl, rfl⟩ := hrel
    go_wp2_with (at_make; refine wpList_makeK _ rfl (.tmp 84) (.tmp 84) _ rfl 105 .u32 4 Tryz.underlying22 u32_info _ _ _ _ M rfl rfl ?L ?C ?b2 ?b3 ?_)
    case L => show _ = _; omega
    case C => show _ = _; omega
    case b2 => omega
    case b3 => unfold maxLen; omega
    intro w8 hk8 hb8 hz8
    have hR : Hid (RW w8 w w4.heap.size gu (L5 + 1) c7 gv c6 (N + 2) wr.heap.size v U0 (List.replicate M 0)) := ⟨hU7.out.below hb8, hv7.out.below hb8, hk8, hB7.out.trans (hb8.mono hB7.out.size)⟩
    have hD : Hid (Nt.DivL M N (Nt.val a * 2 ^ z) (Nt.val v) U0 (List.replicate M 0)) := Nt.DivL.start (a := []) hdU.out (Nt.Dig.repl _) (by simp) hu7v.out.symm hlow.out
    obtain ⟨gq, hgq⟩ : ∃ g, g = wr.heap.size := ⟨_, rfl⟩
    have nq1 : gq ≠ gu := by omega
    have nq2 : gv ≠ gq := by omega
    have nq3 : w.heap.size ≤ gq := by have := hB7.out.size; omega
    rw [← hgq] at hR ⊢
    clear hk8 hb8 hz8 hgq hU7 hv7 hB7 hu7v hlow hdU
    go_wp2
    obtain ⟨wo, rfl⟩ : ∃ wo : World, wo = wr := ⟨_, rfl⟩
    go_loopw [14] (fun iv wr => ∃ (i : Nat) (U Q : List Int), i ≤ M ∧ iv = .int .i64 ((i : Int) - 1) ∧ Hid (RW wr w w4.heap.size gu (L5 + 1) c7 gv c6 (N + 2) gq v U Q) ∧ Hid (Q.length = M) ∧ Hid (Nt.DivL i N (Nt.val a * 2 ^ z) (Nt.val v) U Q)) (fun iv _ => (intOf iv + 1).toNat)
    case atStart => exact ⟨M, _, _, by omega, by congr 1; omega, hR, by simp [Hid], hD⟩
    case round =>
      obtain ⟨i, U, Q, hi, rfl, hR, hQ, hD⟩ := hrel
      rcases i with _ | j
      · have hsq : SlR .u32 wr (some ⟨gq, 0, none⟩) M M Q := hR.out.kq.slr_all hQ.out (Nat.le_refl _) (by unfold maxLen; omega)
        have hcu := hR.out.ku.slr.2.1
        have hcu2 := hR.out.ku.slr.2.2.1
        have hsu : SlR .u32 wr (some ⟨gu, 0, none⟩) (N + 2) c7 (U.take (N + 2)) := hR.out.ku.slr.upto (by omega)
        have hsud : SlR .u32 wr.drew (some ⟨gu, 0, none⟩) (N + 2) c7 (U.take (N + 2)) := hsu
        have Hdu := Lib.hid (hD.out.dU.take (N + 2))
        have Hdq := Lib.hid hD.out.dQ
        have hN1 : (N : Int) + 2 ≤ c7 := by omega
        have hfin := Lib.hid (rdiv_fin (b := b) hR.out hD.out hvn.out.1 hdv.out hv7v.out)
        have hcm7 : c7 ≤ 9223372036854775807 := by unfold maxLen at hcu2; omega
        clear hR hQ hD
        go_wp2
        go_region_with (first
          | (go_at_call 156; refine (rTrim_any (some ⟨gq, 0, none⟩) M M Q _ ?_ Hdq.out (by omega)).mono ?_; exact hsq; rintro e w9 ⟨A9, n9, c9, rfl, f9, hb9⟩)
          | (go_at_call 203; refine (rShift_down _ _ _ z _ _ ?_ Hdu.out (by omega) hz2).mono ?_; (first | exact hsud.below hb9 | exact hsu); rintro e w10 ⟨A10, n10, c10, rfl, f10, hb10⟩))
        all_goals
          have HF := Lib.hid (hfin.out w9 w10 A9 n9 c9 A10 n10 c10 f9 ⟨hb9.os, hb9.tape, hb9.output, hb9.size, hb9.block⟩ f10 hb10)
          clear f9 hb9 f10 hb10
          go_wp2
          go_ret3
          exact HF.out
      · have hj1 : ((j + 1 : Nat) : Int) - 1 = (j : Int) := by omega
        rw [hj1]
        clear hj1
        have hj : j + (N + 2) + 1 ≤ L5 + 1 := by omega
        have lU := Lib.hid hR.out.ku.1
        have Hj : Hid (j + (N + 2) + 1 ≤ U.length) := by show _ ≤ _; rw [lU.out]; exact hj
        have HU := Lib.hid (hD.out.pre (by have := lU.out; omega) hvn.out.1 hdv.out)
        have dU := Lib.hid hD.out.dU
        have c1 := hR.out.ucell (i := j + (N + 2)) (by omega)
        have c2' := hR.out.ucell (i := j + (N + 1)) (by omega)
        have c3 := hR.out.ucell (i := j + N) (by omega)
        have d1 := hR.out.vcell (i := N + 1) (by omega)
        have d2 := hR.out.vcell (i := N) (by omega)
        have hv1 := hdv.out.at (N + 1)
        have hv2 := hdv.out.at N
        have hu0 := dU.out.at (j + (N + 2))
        have hu1 := dU.out.at (j + (N + 1))
        have hu2 := dU.out.at (j + N)
        have htop := hvn.out.2
        obtain ⟨v1, ev1⟩ : ∃ x, x = v[N + 1]?.getD 0 := ⟨_, rfl⟩
        obtain ⟨v2, ev2⟩ : ∃ x, x = v[N]?.getD 0 := ⟨_, rfl⟩
        obtain ⟨u0, eu0⟩ : ∃ x, x = U[j + (N + 2)]?.getD 0 := ⟨_, rfl⟩
        obtain ⟨u1, eu1⟩ : ∃ x, x = U[j + (N + 1)]?.getD 0 := ⟨_, rfl⟩
        obtain ⟨u2, eu2⟩ : ∃ x, x = U[j + N]?.getD 0 := ⟨_, rfl⟩
        rw [← ev1] at d1 hv1 htop
        rw [← ev2] at d2 hv2
        rw [← eu0] at c1 hu0
        rw [← eu1] at c2' hu1
        rw [← eu2] at c3 hu2
        have Ev1 := Lib.hid ev1
        have Ev2 := Lib.hid ev2
        have Eu0 := Lib.hid eu0
        have Eu1 := Lib.hid eu1
        have Eu2 := Lib.hid eu2
        have hv1b : (v1 == 0) = false := by rw [beq_eq_false_iff_ne]; omega
        have or0 := Nt.or_top hu0.1 hu0.2 hu1.1 hu1.2
        have hRd : Hid (∀ k, RW (wr.drewN k) w w4.heap.size gu (L5 + 1) c7 gv c6 (N + 2) gq v U Q) := fun k => hR.out.drewN k
        have hw1 : IntKind.i64.wrap ((j : Int) + ((N : Int) + 2)) = (j : Int) + ((N : Int) + 2) := IntWalk.i64_in _ (by omega)
        have hw2 : IntKind.i64.wrap ((j : Int) + ((N : Int) + 2) - 1) = (j : Int) + ((N : Int) + 1) := by rw [show (j : Int) + ((N : Int) + 2) - 1 = (j : Int) + ((N : Int) + 1) by omega]; exact IntWalk.i64_in _ (by omega)
        have hw3 : ((j : Int) + ((N : Int) + 2)).toNat = j + (N + 2) := by omega
        have hw4 : ((j : Int) + ((N : Int) + 1)).toNat = j + (N + 1) := by omega
        clear ev1 ev2 eu0 eu1 eu2
        go_wp2
        go_quiet (fail)
        try rw [or0]
        obtain ⟨top, htop1⟩ : ∃ top, top = u0 * 4294967296 + u1 := ⟨_, rfl⟩
        have Htop := Lib.hid htop1
        have t0 : 0 ≤ top := by omega
        have t1 : top < 18446744073709551616 := by omega
        rw [← htop1]
        clear htop1 or0 hw1 hw2 hw3 hw4 c1 c2' c3 d1 d2 hR
        have hR1 := Lib.hid (hRd.out nq)
        clear hRd
        generalize wr.drewN nq = wa at *
        have d1 : wa.cell? ⟨gv, N + 1, none⟩ = some (.int .u32 v1) := by rw [Ev1.out]; exact hR1.out.vcell (by omega)
        have hT : Hid (Nt.DivFacts j N U v top u2 v1 v2) := Nt.div_facts hdv.out dU.out hvn.out.1 Hj.out Ev1.out Ev2.out Eu0.out Eu1.out Eu2.out Htop.out htop HU.out
        obtain ⟨T, hTd⟩ : ∃ T, T = Nt.valTo (U.drop j) (N + 3) / Nt.val v := ⟨_, rfl⟩
        have HTd := Lib.hid hTd
        clear hTd
        have Hst : Hid (Nt.Guess T top v1 v2 u2 (top / v1) (top % v1)) := by
          have h := hT.out
          exact Nt.Guess.start t0 (by omega) (by rw [HTd.out]; exact h.t0) (by rw [HTd.out]; exact h.ta) (by omega) (by omega)
        have b0 : 0 ≤ top / v1 := Int.ediv_nonneg t0 (by omega)
        have b1 : top / v1 ≤ 8589934592 := Int.ediv_le_of_le_mul (by omega) (by omega)
        have b2 : 0 ≤ top % v1 := Int.emod_nonneg _ (by omega)
        have b3 : top % v1 < 4294967296 := by have := Int.emod_lt_of_pos top (b := v1) (by omega); omega
        go_upto_block 4 with (fail)
        go_cut [16] (fun s16 wx => ∃ q : Int, s16 = .int .u64 q ∧ 0 ≤ q ∧ q < 4294967296 ∧ Hid (Nt.Good T top v1 v2 u2 q) ∧ Hid (RW wx w w4.heap.size gu (L5 + 1) c7 gv c6 (N + 2) gq v U Q))
        case first =>
          go_wp2
          obtain ⟨wo2, rfl⟩ : ∃ wo2 : World, wo2 = wr := ⟨_, rfl⟩
          go_loopw [16, 17] (fun s16 s17 wr => ∃ g r : Int, s16 = .int .u64 g ∧ s17 = .int .u64 r ∧ 0 ≤ g ∧ g ≤ 8589934592 ∧ 0 ≤ r ∧ r < 4294967296 ∧ Hid (Nt.Guess T top v1 v2 u2 g r) ∧ Hid (RW wr w w4.heap.size gu (L5 + 1) c7 gv c6 (N + 2) gq v U Q)) (fun s16 _ _ => (intOf s16).toNat)
          case atStart => exact ⟨_, _, rfl, rfl, b0, b1, b2, b3, Hst, hR1⟩
          case round =>
            obtain ⟨g, r, rfl, rfl, g0, g1, r0, r1, hg, hRg⟩ := hrel
            clear b0 b1 b2 b3 Hst hR1 d1
            have k1 : wr.cell? ⟨gv, N + 1, none⟩ = some (.int .u32 v1) := by rw [Ev1.out]; exact hRg.out.vcell (by omega)
            have k2 : wr.cell? ⟨gv, N, none⟩ = some (.int .u32 v2) := by rw [Ev2.out]; exact hRg.out.vcell (by omega)
            have k3 : wr.cell? ⟨gu, j + N, none⟩ = some (.int .u32 u2) := by rw [Eu2.out]; exact hRg.out.ucell (by omega)
            have hw1 : IntKind.i64.wrap ((j : Int) + ((N : Int) + 2)) = (j : Int) + ((N : Int) + 2) := IntWalk.i64_in _ (by omega)
            have hw2 : IntKind.i64.wrap ((j : Int) + ((N : Int) + 2) - 2) = (j : Int) + (N : Int) := by rw [show (j : Int) + ((N : Int) + 2) - 2 = (j : Int) + (N : Int) by omega]; exact IntWalk.i64_in _ (by omega)
            have hw3 : ((j : Int) + (N : Int)).toNat = j + N := by omega
            by_cases hq : 4294967296 ≤ g
            · skip
              have hn' : Hid (Nt.Guess T top v1 v2 u2 (g - 1) (r + v1)) := hg.out.next (by rw [HTd.out]; exact hT.out.t0) (by rw [HTd.out]; exact hT.out.t1) (by rw [HTd.out]; exact hT.out.ta) (by omega) (by omega) (.inl hq)
              have gp : 1 ≤ g := by have := hn'.out.q0; omega
              have hRx : Hid (∀ k, RW (wr.drewN k) w w4.heap.size gu (L5 + 1) c7 gv c6 (N + 2) gq v U Q) := fun k => hRg.out.drewN k
              have ee1 : Hid (∀ k, (wr.drewN k).cell? ⟨gv, N + 1, none⟩ = some (.int .u32 v1)) := fun _ => k1
              clear hg hRg
              go_wp2
              go_quiet (fail)
              have hR3 := Lib.hid (hRx.out nq)
              have e3 := ee1.out nq
              generalize wr.drewN nq = wq at *
              clear hRx ee1 k1 k2 k3 hw1 hw2 hw3
              by_cases hr : 4294967296 ≤ r + v1
              · have hG : Hid (Nt.Good T top v1 v2 u2 (g - 1)) := hn'.out.broke hT.out.tb hr (by omega) (by omega) (by omega) (by omega)
                go_wp2
                go_meet
                exact ⟨g - 1, rfl, by omega, hG.out.q1, hG, hR3⟩
              · go_wp2
                go_roundw
                case rel => first | exact ⟨g - 1, r + v1, rfl, rfl, hn'.out.q0, by omega, by omega, by omega, hn', hR3⟩ | exact ⟨by omega, by omega⟩ | exact ⟨by omega, by omega, by omega⟩ | omega
                case measure => simp [intOf]; omega
            · by_cases ht : r * 4294967296 + u2 < g * v2
              · skip
                have hn' : Hid (Nt.Guess T top v1 v2 u2 (g - 1) (r + v1)) := hg.out.next (by rw [HTd.out]; exact hT.out.t0) (by rw [HTd.out]; exact hT.out.t1) (by rw [HTd.out]; exact hT.out.ta) (by omega) (by omega) (.inr ht)
                have gp : 1 ≤ g := by have := hn'.out.q0; omega
                have or1 := Nt.or_top r0 r1 hu2.1 hu2.2
                have hq1 : decide (4294967296 ≤ g) = false := by simpa using hq
                have mb := Nt.mul_bd32 (x := g) (y := v2) ⟨g0, by omega⟩ hv2
                have htd : decide (bits BinOp.or IntKind.u64 (r * 4294967296) u2 < g * v2) = true := by rw [or1]; simpa using ht
                have gp2 : g < 4294967296 := by omega
                clear or1
                have hRx : Hid (∀ k, RW (wr.drewN k) w w4.heap.size gu (L5 + 1) c7 gv c6 (N + 2) gq v U Q) := fun k => hRg.out.drewN k
                have ee1 : Hid (∀ k, (wr.drewN k).cell? ⟨gv, N + 1, none⟩ = some (.int .u32 v1)) := fun _ => k1
                clear hg hRg
                go_wp2
                go_quiet (fail)
                have hR3 := Lib.hid (hRx.out nq)
                have e3 := ee1.out nq
                generalize wr.drewN nq = wq at *
                clear hRx ee1 k1 k2 k3 hw1 hw2 hw3
                by_cases hr : 4294967296 ≤ r + v1
                · have hG : Hid (Nt.Good T top v1 v2 u2 (g - 1)) := hn'.out.broke hT.out.tb hr (by omega) (by omega) (by omega) (by omega)
                  go_wp2
                  go_meet
                  exact ⟨g - 1, rfl, by omega, hG.out.q1, hG, hR3⟩
                · go_wp2
                  go_roundw
                  case rel => first | exact ⟨g - 1, r + v1, rfl, rfl, hn'.out.q0, by omega, by omega, by omega, hn', hR3⟩ | exact ⟨by omega, by omega⟩ | exact ⟨by omega, by omega, by omega⟩ | omega
                  case measure => simp [intOf]; omega
              · have hG : Hid (Nt.Good T top v1 v2 u2 g) := hg.out.good (by omega) (by omega)
                have or1 := Nt.or_top r0 r1 hu2.1 hu2.2
                have gp2 : g < 4294967296 := by omega
                have hq1 : decide (4294967296 ≤ g) = false := by simpa using hq
                have mb := Nt.mul_bd32 (x := g) (y := v2) ⟨g0, by omega⟩ hv2
                have htd : decide (bits BinOp.or IntKind.u64 (r * 4294967296) u2 < g * v2) = false := by rw [or1]; simpa using ht
                have hRx : Hid (∀ k, RW (wr.drewN k) w w4.heap.size gu (L5 + 1) c7 gv c6 (N + 2) gq v U Q) := fun k => hRg.out.drewN k
                clear hg hRg or1
                go_wp2
                go_quiet (fail)
                have hR3 := Lib.hid (hRx.out nq)
                clear hRx hw1 hw2 hw3
                go_wp2
                go_meet
                exact ⟨g, rfl, g0, gp2, hG, hR3⟩
        case rest =>
          obtain ⟨q, rfl, q0, q1, hG, hR2⟩ := hcut
          clear b0 b1 b2 b3 Hst hR1 d1
          go_wp2
          obtain ⟨wo3, rfl⟩ : ∃ wo3 : World, wo3 = wr := ⟨_, rfl⟩
          go_loopw [18, 19, 20] (fun bv cv iv wr => ∃ (i : Nat) (cr bo : Int) (S : List Int), i ≤ N + 2 ∧ 0 ≤ cr ∧ cr ≤ 4294967295 ∧ 0 ≤ bo ∧ bo ≤ 1 ∧ bv = .int .u64 bo ∧ cv = .int .u64 cr ∧ iv = .int .i64 i ∧ Hid (RW wr w w4.heap.size gu (L5 + 1) c7 gv c6 (N + 2) gq v S Q) ∧ Hid (Nt.DigP j N i U v S q cr bo)) (fun _ _ iv _ => N + 2 - (intOf iv).toNat)
          case atStart => exact ⟨0, 0, 0, U, by omega, by omega, by omega, by omega, by omega, rfl, rfl, rfl, hR2, rfl, dU.out, by simp [Nt.valTo_zero], fun _ _ => rfl⟩
          case round =>
            obtain ⟨i, cr, bo, S, hi2, cr0, cr1, o0, o1, rfl, rfl, rfl, hRm, hP⟩ := hrel
            clear hR2
            by_cases hin : i < N + 2
            · have kv := hRm.out.vcell (i := i) hin
              have ku := hRm.out.ucell (i := i + j) (by omega)
              have kf := hRm.out.ku.frozen (i + j)
              have hd := hdv.out.at i
              have hx := hP.out.dig.at (i + j)
              have mb := Nt.mul_bd32 (x := q) (y := v[i]?.getD 0) ⟨q0, q1⟩ hd
              obtain ⟨d, hdd⟩ : ∃ d, d = v[i]?.getD 0 := ⟨_, rfl⟩
              obtain ⟨x, hxx⟩ : ∃ x, x = S[i + j]?.getD 0 := ⟨_, rfl⟩
              have hn0 := Lib.hid (hP.out.next (p := cr + q * d) (t := x - (cr + q * d) % 4294967296 - bo) Hj.out hin hdd (by rw [Nat.add_comm j i]; exact hxx) (by omega) rfl (by rw [hxx]; omega) (by rw [hxx]; omega))
              rw [← hdd] at kv hd mb
              rw [← hxx] at ku hx
              have mb0 := mb.1
              have mb1 := mb.2
              have and1 := Nt.and_low (p := cr + q * d) (by omega) (by omega)
              have hin' : (i : Int) < (N : Int) + 2 := by omega
              have hij : (i : Int) + (j : Int) < (L5 : Int) + 1 := by omega
              clear hdd hxx mb hP
              by_cases hlt : x < (cr + q * d) % 4294967296 + bo
              · skip
                have hl2 : x - (cr + q * d) % 4294967296 - bo < 0 := by omega
                have hn1 := hn0.out
                rw [if_pos hl2, show (x - (cr + q * d) % 4294967296 - bo) % 4294967296 = x + 4294967296 - ((cr + q * d) % 4294967296 + bo) by omega, Nat.add_comm j i] at hn1
                have Hn := Lib.hid hn1
                have z0 : 0 ≤ x + 4294967296 - ((cr + q * d) % 4294967296 + bo) := by omega
                have z1 : x + 4294967296 - ((cr + q * d) % 4294967296 + bo) < 4294967296 := by omega
                clear hl2 hn1 hn0
                go_wp2
                go_roundw
                case rel => exact ⟨i + 1, _, _, _, by omega, by omega, by omega, by omega, by omega, rfl, rfl, by go_num, hRm.out.setU (fun h => hguv h.symm) nq1 hgw (i + j) _, Hn⟩
                case measure => simp [intOf]; omega
              · skip
                have hl2 : ¬ x - (cr + q * d) % 4294967296 - bo < 0 := by omega
                have hn1 := hn0.out
                rw [if_neg hl2, show (x - (cr + q * d) % 4294967296 - bo) % 4294967296 = x - ((cr + q * d) % 4294967296 + bo) by omega, Nat.add_comm j i] at hn1
                have Hn := Lib.hid hn1
                have z0 : 0 ≤ x - ((cr + q * d) % 4294967296 + bo) := by omega
                have z1 : x - ((cr + q * d) % 4294967296 + bo) < 4294967296 := by omega
                clear hl2 hn1 hn0
                go_wp2
                go_roundw
                case rel => exact ⟨i + 1, _, _, _, by omega, by omega, by omega, by omega, by omega, rfl, rfl, by go_num, hRm.out.setU (fun h => hguv h.symm) nq1 hgw (i + j) _, Hn⟩
                case measure => simp [intOf]; omega
            · obtain rfl : i = N + 2 := by omega
              have hu := hRm.out.ucell (i := j + (N + 2)) (by omega)
              have hf := hRm.out.ku.frozen (j + (N + 2))
              rw [hP.out.same _ (.inr (Nat.le_refl _)), ← Eu0.out] at hu
              have hjn : (j : Int) + ((N : Int) + 2) < (L5 : Int) + 1 := by omega
              by_cases ht : u0 < cr + bo
              · have q2 := hP.out.neg (t := u0 - cr - bo) hvn.out.1 dU.out Eu0.out rfl (by omega) q0
                obtain ⟨tt, htt⟩ : ∃ tt, tt = u0 - cr - bo := ⟨_, rfl⟩
                have Htt := Lib.hid htt
                have tt0 : -4294967296 ≤ tt := by omega
                have tt1 : tt < 0 := by omega
                have z0 : 0 ≤ u0 + 4294967296 - (cr + bo) := by omega
                have z1 : u0 + 4294967296 - (cr + bo) < 4294967296 := by omega
                have etm : Hid (u0 + 4294967296 - (cr + bo) = tt % 4294967296) := by show _ = _; omega
                have hR5 : Hid (RW (wr.setCell ⟨gu, j + (N + 2), none⟩ (.int .u32 (u0 + 4294967296 - (cr + bo)))) w w4.heap.size gu (L5 + 1) c7 gv c6 (N + 2) gq v (S.set (j + (N + 2)) (tt % 4294967296)) Q) := by
                  rw [etm.out]
                  exact hRm.out.setU (fun h => hguv h.symm) nq1 hgw _ _
                have hlS : Hid ((S.set (j + (N + 2)) (tt % 4294967296)).length = L5 + 1) := by show _ = _; rw [List.length_set, hP.out.len]; exact lU.out
                have dS : Hid (Nt.Dig (S.set (j + (N + 2)) (tt % 4294967296))) := hP.out.dig.set _ (by omega)
                clear htt
                go_wp2
                obtain ⟨wo4, rfl⟩ : ∃ wo4 : World, wo4 = wr := ⟨_, rfl⟩
                go_loopw [25, 26] (fun cv iv wr => ∃ (i : Nat) (c : Int) (R : List Int), i ≤ N + 2 ∧ 0 ≤ c ∧ c ≤ 1 ∧ cv = .int .u64 c ∧ iv = .int .i64 i ∧ Hid (RW wr w w4.heap.size gu (L5 + 1) c7 gv c6 (N + 2) gq v R Q) ∧ Hid (Nt.DigQ j N i (S.set (j + (N + 2)) (tt % 4294967296)) v R c)) (fun _ iv _ => N + 2 - (intOf iv).toNat)
                case atStart => exact ⟨0, 0, _, by omega, by omega, by omega, rfl, rfl, hR5, rfl, dS.out, by simp [Nt.valTo_zero], fun _ _ => rfl⟩
                case round =>
                  obtain ⟨i, c, R, hi3, c0, c1, rfl, rfl, hRa, hA⟩ := hrel
                  clear hR5 hu hf
                  by_cases hin : i < N + 2
                  · have kv := hRa.out.vcell (i := i) hin
                    have ku := hRa.out.ucell (i := i + j) (by omega)
                    have hd := hdv.out.at i
                    have hx := hA.out.dig.at (i + j)
                    obtain ⟨d, hdd⟩ : ∃ d, d = v[i]?.getD 0 := ⟨_, rfl⟩
                    obtain ⟨x, hxx⟩ : ∃ x, x = R[i + j]?.getD 0 := ⟨_, rfl⟩
                    have hn1 := hA.out.next (x := x) (d := d) (t := c + (x + d)) (by have := hlS.out; omega) hin hdd (by rw [Nat.add_comm j i]; exact hxx) (by omega)
                    rw [Nat.add_comm j i] at hn1
                    have Hn := Lib.hid hn1
                    rw [← hdd] at kv hd
                    rw [← hxx] at ku hx
                    have hin' : (i : Int) < (N : Int) + 2 := by omega
                    have hij : (i : Int) + (j : Int) < (L5 : Int) + 1 := by omega
                    have hRx : Hid (∀ k, RW (wr.drewN k) w w4.heap.size gu (L5 + 1) c7 gv c6 (N + 2) gq v R Q) := fun k => hRa.out.drewN k
                    have hw1 : IntKind.i64.wrap ((i : Int) + (j : Int)) = (i : Int) + (j : Int) := IntWalk.i64_in _ (by omega)
                    have hw2 : ((i : Int) + (j : Int)).toNat = i + j := by omega
                    clear hdd hxx hn1 hA hRa
                    go_wp2
                    go_quiet (fail)
                    have hR6 := Lib.hid (hRx.out nq)
                    clear hRx hw1 hw2 kv ku
                    generalize wr.drewN nq = wq at *
                    have ku := hR6.out.ucell (i := i + j) (by omega)
                    have kf := hR6.out.ku.frozen (i + j)
                    go_wp2
                    go_roundw
                    case rel => exact ⟨i + 1, _, _, by omega, by omega, by omega, rfl, by go_num, hR6.out.setU (fun h => hguv h.symm) nq1 hgw (i + j) _, Hn⟩
                    case measure => simp [intOf]; omega
                  · obtain rfl : i = N + 2 := by omega
                    obtain ⟨z1, z2, z3, z4⟩ := Nt.DigQ.done hP.out hA.out Hj.out hvn.out.1 hdv.out dU.out Eu0.out Htt.out tt1 tt0 q0 q1 hT.out HTd.out hG.out (by omega) hv2.1
                    have hu := hRa.out.ucell (i := j + (N + 2)) (by omega)
                    have hf := hRa.out.ku.frozen (j + (N + 2))
                    rw [z1] at hu
                    have hDR := Lib.hid z4
                    obtain ⟨y2, hy2⟩ : ∃ y2, y2 = tt % 4294967296 := ⟨_, rfl⟩
                    rw [← hy2] at hu z3
                    have y20 : 0 ≤ y2 := by omega
                    have y21 : y2 < 4294967296 := by omega
                    have hRz : Hid (RW (wr.setCell ⟨gu, j + (N + 2), none⟩ (.int .u32 0)) w w4.heap.size gu (L5 + 1) c7 gv c6 (N + 2) gq v (R.set (j + (N + 2)) 0) Q) := hRa.out.setU (fun h => hguv h.symm) nq1 hgw _ _
                    clear z1 z4 hy2
                    have hcq := hRz.out.kq.cell (i := j) (by have := hQ.out; omega)
                    have hfq := hRz.out.kq.frozen j
                    have hjM : (j : Int) < M := by omega
                    go_wp2
                    go_roundw
                    case rel =>
                      obtain ⟨d1, d2, d3, d4, d5, d6, d7⟩ := hDR.out
                      exact ⟨j, _, _, by omega, rfl, hRz.out.setQ nq2 nq1 nq3 j _, by have := hQ.out; show _ = _; simpa using this, hD.out.next (by have := lU.out; omega) (by have := hQ.out; omega) hvn.out.1 hdv.out d1 d2 d3 d4 d5 d6 d7⟩
                    case measure => simp [intOf]
              · have hDR := Lib.hid (hP.out.done (t := u0 - (cr + bo)) Hj.out hvn.out.1 hdv.out dU.out Eu0.out (by omega) (by omega) (by omega) q0 q1 hT.out HTd.out hG.out (by omega) hv2.1)
                have z0 : 0 ≤ u0 - (cr + bo) := by omega
                have z1 : u0 - (cr + bo) < 4294967296 := by omega
                have hRz : Hid (RW (wr.setCell ⟨gu, j + (N + 2), none⟩ (.int .u32 (u0 - (cr + bo)))) w w4.heap.size gu (L5 + 1) c7 gv c6 (N + 2) gq v (S.set (j + (N + 2)) (u0 - (cr + bo))) Q) := hRm.out.setU (fun h => hguv h.symm) nq1 hgw _ _
                have hcq := hRz.out.kq.cell (i := j) (by have := hQ.out; omega)
                have hfq := hRz.out.kq.frozen j
                have hjM : (j : Int) < M := by omega
                go_wp2
                go_roundw
                case rel =>
                  obtain ⟨d1, d2, d3, d4, d5, d6, d7⟩ := hDR.out
                  exact ⟨j, _, _, by omega, rfl, hRz.out.setQ nq2 nq1 nq3 j _, by have := hQ.out; show _ = _; simpa using this, hD.out.next (by have := lU.out; omega) (by have := hQ.out; omega) hvn.out.1 hdv.out d1 d2 d3 d4 d5 d6 d7⟩
                case measure => simp [intOf]
theorem rDivMod_any (A B : Option Addr) (n c m d : Nat) (a b : List Int) (w : World) (ha : SlR .u32 w A n c a) (hb : SlR .u32 w B m d b) (da : Nt.Dig a) (db : Nt.Dig b) (hn : n ≤ 500000000) (hm : m ≤ 500000000) (hz : Nt.val b ≠ 0) :
    Calls Tryz.prog 191 #[.slice A n c, .slice B m d] w fun e w' => DivMF w w' e (Nt.val a) (Nt.val b) := by
  have b0 := Nt.val_nonneg db
  rcases Int.lt_or_le (Nt.val b) 4294967296 with h | h
  · exact rDivMod_one _ _ _ _ _ _ _ _ _ ha hb da db (by omega) (by omega) (by omega) h
  · rcases Int.lt_or_le (Nt.val a) (Nt.val b) with h' | h'
    · exact rDivMod_lt _ _ _ _ _ _ _ _ _ ha hb da db (by omega) (by omega) h h'
    · exact rDivMod_long _ _ _ _ _ _ _ _ _ ha hb da db hn hm h h'
end Go.Proofs.YtnedhbidmfoegaaGreat
namespace Go.Proofs.YtnedhbidmfoegaaGreat
open Go.RowKit
set_option linter.unusedVariables false
set_option maxHeartbeats 1000000 in
theorem rGcd_any (A B : Option Addr) (n c m d : Nat) (a b : List Int) (w : World) (ha : SlR .u32 w A n c a) (hb : SlR .u32 w B m d b) (da : Nt.Dig a) (db : Nt.Dig b) (hn : n ≤ 500000000) (hm : m ≤ 500000000) :
    Calls Tryz.prog 190 #[.slice A n c, .slice B m d] w fun e w' => ∃ A' n' c', e = .returned (.slice A' n' c') ∧ NatF w w' A' n' c' (Nat.gcd (Nt.val a).toNat (Nt.val b).toNat) ∧ Below w.heap.size w w' := by
  have l1 : Hid ((Nt.digits (Nt.val a).toNat).length ≤ n) := by rw [← Nt.strip_eq da, ← ha.1]; exact Nt.strip_length_le a
  have l2 : Hid ((Nt.digits (Nt.val b).toNat).length ≤ m) := by rw [← Nt.strip_eq db, ← hb.1]; exact Nt.strip_length_le b
  go_enter Tryz.func190, Tryz.ntmps190
  go_wp2_with fail
  refine (rTrim_any _ _ _ _ _ ha da (by omega)).mono ?_
  rintro e w1 ⟨A1, n1, c1, rfl, f1, b1⟩
  go_wp2_with fail
  refine (rTrim_any _ _ _ _ _ (hb.below b1) db (by omega)).mono ?_
  rintro e w2 ⟨A2, n2, c2, rfl, f2, b2⟩
  have g1 : NatF w w2 A1 n1 c1 (Nt.val a).toNat := f1.nat.below b2
  have g2 : NatF w w2 A2 n2 c2 (Nt.val b).toNat := f2.nat.mono b1.size
  have hB : Hid (Below w.heap.size w w2) := b1.trans (b2.mono b1.size)
  have hL1 : n1 ≤ 500000000 := by have := f1.1; have := l1.out; omega
  have hL2 : n2 ≤ 500000000 := by have := f2.1; have := l2.out; omega
  clear f1 f2 b1 b2 ha hb l1 l2 da db
  obtain ⟨X, hX⟩ : ∃ X, X = (Nt.val a).toNat := ⟨_, rfl⟩
  obtain ⟨Y, hY⟩ : ∃ Y, Y = (Nt.val b).toNat := ⟨_, rfl⟩
  obtain ⟨G, hG⟩ : ∃ G, G = Nat.gcd (Nt.val a).toNat (Nt.val b).toNat := ⟨_, rfl⟩
  have HG := Lib.hid hG
  have HG2 : Hid (Nat.gcd X Y = G) := by show _ = _; rw [hX, hY, hG]
  rw [← hX] at g1
  rw [← hY] at g2
  have G1 := Lib.hid g1
  have G2 := Lib.hid g2
  clear hX hY hG g1 g2
  go_wp2
  go_loopw [0, 1] (fun s5 s6 wx => ∃ A1 n1 c1 A2 n2 c2 X Y, s5 = .slice A1 n1 c1 ∧ s6 = .slice A2 n2 c2 ∧ Hid (NatF w wx A1 n1 c1 X) ∧ Hid (NatF w wx A2 n2 c2 Y) ∧ Hid (Below w.heap.size w wx) ∧ n1 ≤ 500000000 ∧ n2 ≤ 500000000 ∧ Hid (Nat.gcd X Y = G)) (fun _ s6 wx => sval wx s6)
  case atStart => exact ⟨A1, n1, c1, A2, n2, c2, X, Y, rfl, rfl, G1, G2, hB, hL1, hL2, HG2⟩
  case round =>
    clear G1 G2 hB HG2 hL1 hL2
    obtain ⟨A1, n1, c1, A2, n2, c2, X, Y, rfl, rfl, K1, K2, KB, hL1, hL2, HG2⟩ := hrel
    rcases Nat.eq_zero_or_pos n2 with h0 | h0
    · subst h0
      have hY : Hid (X = G) := by
        have e1 := K2.out.1
        have : Y = 0 := by
          rcases Nat.eq_zero_or_pos Y with h | h
          · exact h
          · have := Nt.digits_length_pos h; omega
        have e2 := HG2.out
        rw [this, Nat.gcd_zero_right] at e2
        exact e2
      go_wp2
      go_ret
      refine ⟨A1, n1, c1, rfl, ?_, KB.out⟩
      rw [← HG.out, ← hY.out]
      exact K1.out
    · have h0' : (0 : Int) < n2 := by omega
      have hYp : 0 < Y := by
        rcases Nat.eq_zero_or_pos Y with h | h
        · have e1 := K2.out.1; rw [h, Nt.digits_zero] at e1; simp at e1; omega
        · exact h
      go_wp2_with fail
      refine (rDivMod_any _ _ _ _ _ _ _ _ _ K1.out.2.1 K2.out.2.1 (Nt.digits_dig X) (Nt.digits_dig Y) hL1 hL2 (by rw [Nt.digits_val]; omega)).mono ?_
      rintro e w5 ⟨A3, n3, c3, A4, n4, c4, rfl, f1, f2, hbl⟩
      rw [Nt.digits_val, Nt.digits_val, ← Int.natCast_emod, Int.toNat_natCast] at f2
      have hr := Nat.mod_lt X hYp
      have hn4 : n4 ≤ 500000000 := by rw [f2.1]; have := Nt.digits_len_mono (Nat.le_of_lt hr); rw [← K2.out.1] at this; omega
      have hG' : Hid (Nat.gcd Y (X % Y) = G) := by show _ = _; rw [← HG2.out, Nat.gcd_comm X Y, Nat.gcd_rec Y X, Nat.gcd_comm]
      have E1 : Hid (NatF w w5 A2 n2 c2 Y) := K2.out.below hbl
      have E2 : Hid (NatF w w5 A4 n4 c4 (X % Y)) := f2.mono KB.out.size
      have E3 : Hid (Below w.heap.size w w5) := KB.out.trans (hbl.mono KB.out.size)
      have Hms : Hid (sval w5 (.slice A4 n4 c4) < sval wr (.slice A2 n2 c2)) := by
        show _ < _
        rw [sval_slr f2.2.1, sval_slr K2.out.2.1, Nt.digits_val, Nt.digits_val]
        omega
      clear f1 f2 hbl
      go_wp2
      go_roundw
      case rel => exact ⟨A2, n2, c2, A4, n4, c4, Y, X % Y, rfl, rfl, E1, E2, E3, hL2, hn4, hG'⟩
      case measure => exact Hms.out
end Go.Proofs.YtnedhbidmfoegaaGreat
namespace Go.Proofs.YtnedhbidmfoegaaGreat
open Go.RowKit
set_option linter.unusedVariables false
/-- How many digits N has. -/
def dl (N : Nat) : Nat := (Nt.digits N).length
namespace Nt
theorem dl_mono {x y : Nat} (h : y ≤ x) : dl y ≤ dl x := digits_len_mono h
theorem dl_lt {x : Nat} : (x : Int) < pw (dl x) := by have := val_lt (digits_dig x); rw [digits_val] at this; exact this
theorem dl_le {x n : Nat} (h : (x : Int) < pw n) : dl x ≤ n := digits_length_le h
theorem dl_mul (x y : Nat) : dl (x * y) ≤ dl x + dl y := by
  apply dl_le
  rw [pw_add, Int.natCast_mul]
  have h1 := dl_lt (x := x)
  have h2 := dl_lt (x := y)
  have a : (x : Int) * y ≤ x * pw (dl y) := Int.mul_le_mul_of_nonneg_left (by omega) (by omega)
  have b : (x : Int) * pw (dl y) < pw (dl x) * pw (dl y) := Int.mul_lt_mul_of_pos_right h1 (pw_pos _)
  omega
theorem dl_add (x y : Nat) : dl (x + y) ≤ max (dl x) (dl y) + 1 := by
  apply dl_le
  rw [pw, Int.natCast_add]
  have h1 := dl_lt (x := x)
  have h2 := dl_lt (x := y)
  have a := pw_mono (Nat.le_max_left (dl x) (dl y))
  have b := pw_mono (Nat.le_max_right (dl x) (dl y))
  have := pw_pos (max (dl x) (dl y))
  omega
theorem dl_one : dl 1 = 1 := by unfold dl; rw [digits, if_neg (by omega), digits, if_pos (by omega)]; rfl
theorem dl_zero : dl 0 = 0 := by unfold dl; rw [digits_zero]; rfl
theorem dl_pos {x : Nat} : 0 < dl x ↔ 0 < x := by
  constructor
  · intro h0
    rcases Nat.eq_zero_or_pos x with h' | h'
    · rw [h', dl_zero] at h0; omega
    · exact h'
  · exact digits_length_pos
/-- A sign and a natural number. -/
def sg (s : Bool) (N : Nat) : Int := if s then -(N : Int) else (N : Int)
theorem sg_abs (s : Bool) (N : Nat) : (sg s N).natAbs = N := by unfold sg; split <;> omega
theorem sg_false (N : Nat) : sg false N = N := rfl
theorem sg_true (N : Nat) : sg true N = -N := rfl
theorem sg_add1 {s t : Bool} (N M : Nat) (h : (s == t) = true) : sg s (N + M) = sg s N + sg t M := by cases s <;> cases t <;> simp_all [sg] <;> omega
theorem sg_add2 {s t : Bool} (N M : Nat) (h : (s == t) = false) (c : (cmpS (N : Int) (M : Int) == -1) = true) : sg t (M - N) = sg s N + sg t M := by
  unfold cmpS at c
  cases s <;> cases t <;> simp_all [sg] <;> omega
theorem sg_add3 {s t : Bool} (N M : Nat) (h : (s == t) = false) (c : (cmpS (N : Int) (M : Int) == -1) = false) : sg s (N - M) = sg s N + sg t M := by
  unfold cmpS at c
  cases s <;> cases t <;> simp_all [sg] <;> omega
theorem sg_mul (s t : Bool) (N M : Nat) : sg (!(s == t)) (N * M) = sg s N * sg t M := by
  cases s <;> cases t <;> simp [sg, Int.neg_mul, Int.mul_neg]
theorem sg_neg (s : Bool) (N : Nat) : sg (!s) N = -sg s N := by cases s <;> simp [sg]
theorem sg_cmp0 {s : Bool} (N : Nat) : cmpS (sg s N) 0 = if (cmpS (N : Int) 0 == 0) = true then 0 else if s = true then -1 else 1 := by
  unfold cmpS sg
  cases s <;> simp <;> (repeat' split) <;> first | rfl | omega | simp_all
theorem cmp_self_sub (x y : Int) : cmpS (x - y) 0 = cmpS x y := by
  unfold cmpS
  rcases Int.lt_trichotomy x y with h | h | h
  · rw [if_pos (by omega), if_pos h]
  · rw [if_neg (by omega), if_pos (by omega), if_neg (by omega), if_pos h]
  · rw [if_neg (by omega), if_neg (by omega), if_neg (by omega), if_neg (by omega)]
theorem cmp_range (x y : Int) : cmpS x y = -1 ∧ x < y ∨ cmpS x y = 0 ∧ x = y ∨ cmpS x y = 1 ∧ y < x := by
  unfold cmpS
  rcases Int.lt_trichotomy x y with h | h | h
  · simp [h]
  · simp [h]
  · rw [if_neg (by omega), if_neg (by omega)]; simp [h]
theorem cmp_lt {x y : Int} (h : x < y) : cmpS x y = -1 := by unfold cmpS; rw [if_pos h]
theorem cmp_gt {x y : Int} (h : y < x) : cmpS x y = 1 := by unfold cmpS; rw [if_neg (by omega), if_neg (by omega)]
theorem digits_inj {N M : Nat} : digits N = digits M ↔ N = M := by
  constructor
  · intro h
    have := congrArg val h
    rw [digits_val, digits_val] at this
    omega
  · intro h; rw [h]
end Nt
/-- A slice's value. -/
structure Sl where
  a : Option Addr
  n : Nat
  c : Nat
@[reducible] def Sl.v (x : Sl) : Value := .slice x.a x.n x.c
/-- An integer's value: sign, digits. -/
structure IL where
  s : Bool
  m : Sl
@[reducible] def IL.v (i : IL) : Value := .agg #[.bool i.s, .slice i.m.a i.m.n i.m.c]
/-- A rational's value: sign, digits of the numerator, of the denominator. -/
structure RL where
  s : Bool
  m : Sl
  d : Sl
def RL.cs (r : RL) : List Value := [.bool r.s, .slice r.m.a r.m.n r.m.c, .slice r.d.a r.d.n r.d.c]
def IL.cs (i : IL) : List Value := [.bool i.s, .slice i.m.a i.m.n i.m.c]
@[reducible] def RL.v (r : RL) : Value := .agg #[.bool r.s, .slice r.m.a r.m.n r.m.c, .slice r.d.a r.d.n r.d.c]
/-- A list of digits reads as N (it may have zeros at its end); at most K digits. -/
def NatV (u : World) (x : Sl) (N K : Nat) : Prop := ∃ l, SlR .u32 u x.a x.n x.c l ∧ Nt.Dig l ∧ x.n ≤ K ∧ Nt.val l = N
/-- The digits of N; at most K. -/
def NatN (u : World) (x : Sl) (N K : Nat) : Prop := x.n = dl N ∧ SlR .u32 u x.a x.n x.c (Nt.digits N) ∧ dl N ≤ K
/-- An integer as it stands (its sign may be set at 0, its list may have zeros at the end) reads as z. -/
def IntV (u : World) (i : IL) (z : Int) (K : Nat) : Prop := ∃ N, NatV u i.m N K ∧ z = Nt.sg i.s N
/-- The canonical integer z. -/
def IntN (u : World) (i : IL) (z : Int) (K : Nat) : Prop := i.s = decide (z < 0) ∧ NatN u i.m z.natAbs K
section
variable {u u' w w' : World} {x y : Sl} {i j : IL} {r : RL} {N M K L : Nat} {z z' : Int} {q : Rat}
theorem NatV.ext (h : NatV u x N K) (e : Ext u u') : NatV u' x N K := by obtain ⟨l, h1, h2⟩ := h; exact ⟨l, h1.ext e, h2⟩
theorem NatN.ext (h : NatN u x N K) (e : Ext u u') : NatN u' x N K := ⟨h.1, h.2.1.ext e, h.2.2⟩
theorem IntV.ext (h : IntV u i z K) (e : Ext u u') : IntV u' i z K := by obtain ⟨N, h1, h2⟩ := h; exact ⟨N, h1.ext e, h2⟩
theorem IntN.ext (h : IntN u i z K) (e : Ext u u') : IntN u' i z K := ⟨h.1, h.2.ext e⟩
theorem NatV.more (h : NatV u x N K) (k : K ≤ L) : NatV u x N L := by obtain ⟨l, h1, h2, h3, h4⟩ := h; exact ⟨l, h1, h2, by omega, h4⟩
theorem NatN.more (h : NatN u x N K) (k : K ≤ L) : NatN u x N L := ⟨h.1, h.2.1, Nat.le_trans h.2.2 k⟩
theorem IntV.more (h : IntV u i z K) (k : K ≤ L) : IntV u i z L := by obtain ⟨N, h1, h2⟩ := h; exact ⟨N, h1.more k, h2⟩
theorem IntN.more (h : IntN u i z K) (k : K ≤ L) : IntN u i z L := ⟨h.1, h.2.more k⟩
theorem NatN.raw (h : NatN u x N K) : NatV u x N K := ⟨_, h.2.1, Nt.digits_dig _, by have := h.2.2; rw [h.1]; exact this, Nt.digits_val _⟩
theorem IntN.raw (h : IntN u i z K) : IntV u i z K := by
  refine ⟨z.natAbs, h.2.raw, ?_⟩
  unfold Nt.sg
  rw [h.1]
  by_cases hz : z < 0
  · simp [hz]; omega
  · simp [hz]; omega
theorem NatV.size (h : NatV u x N K) : dl N ≤ K := by
  obtain ⟨l, h1, h2, h3, h4⟩ := h
  have e := Nt.strip_eq h2
  rw [h4, Int.toNat_natCast] at e
  have := Nt.strip_length_le l
  rw [e] at this
  have := h1.1
  unfold dl; omega
theorem IntV.abs (h : IntV u i z K) : NatV u i.m z.natAbs K := by
  obtain ⟨N, h1, h2⟩ := h
  have e : z.natAbs = N := by rw [h2, Nt.sg_abs]
  rw [e]; exact h1
theorem IntV.size (h : IntV u i z K) : dl z.natAbs ≤ K := h.abs.size
theorem NatN.pos (h : NatN u x N K) : 0 < x.n ↔ 0 < N := by rw [h.1]; exact Nt.dl_pos
theorem nat_nil (u : World) (K : Nat) : NatV u ⟨none, 0, 0⟩ 0 K := ⟨[], SlR.nil _ _ _ (Nat.zero_le _), Nt.Dig.nil, Nat.zero_le _, rfl⟩
theorem nat_nilN (u : World) (K : Nat) : NatN u ⟨none, 0, 0⟩ 0 K := ⟨by rw [Nt.dl_zero], by rw [Nt.digits_zero]; exact SlR.nil _ _ _ (Nat.zero_le _), by rw [Nt.dl_zero]; omega⟩
theorem int_zero (u : World) (K : Nat) : IntN u ⟨false, none, 0, 0⟩ 0 K := ⟨rfl, nat_nilN u K⟩
/-- What signed makes of a sign and digits. -/
theorem signed_int {s : Bool} (h : NatN u x N K) : IntN u ⟨s && decide ((0 : Int) < (x.n : Int)), x⟩ (Nt.sg s N) K := by
  have hn := h.pos
  refine ⟨?_, by rw [Nt.sg_abs]; exact h⟩
  unfold Nt.sg
  cases s <;> simp <;> omega
theorem IntV.same {s : Bool} (h : NatV u x N K) : IntV u ⟨s, x⟩ (Nt.sg s N) K := ⟨N, h, rfl⟩
theorem one_data {b : Nat} (h : u.heap[b]? = some (.cells #[.int .u32 1] 105 (0, 0))) : NatN u ⟨some ⟨b, 0, none⟩, 1, 1⟩ 1 1 := by
  have hk : KBlk .u32 u b 105 [1] := h
  have e : Nt.digits 1 = [1] := by
    have h1 : Nt.strip [1] = [1] := by simp [Nt.strip]
    have h2 := Nt.strip_eq (l := [1]) (Nt.Dig.cons (by omega) Nt.Dig.nil)
    rw [h1] at h2
    exact h2.symm
  exact ⟨by rw [Nt.dl_one], by rw [e]; exact hk.slr_all rfl (Nat.le_refl _) (show 1 ≤ maxLen by decide), by rw [Nt.dl_one]; exact Nat.le_refl _⟩
/-- Two digits, made. -/
theorem two_data {b : Nat} {p q : Int} (h : u.heap[b]? = some (.cells #[.int .u32 p, .int .u32 q] 105 (0, 0))) (hp : 0 ≤ p ∧ p < 4294967296) (hq : 0 ≤ q ∧ q < 4294967296) (hN : p + 4294967296 * q = N) : NatV u ⟨some ⟨b, 0, none⟩, 2, 2⟩ N 2 := by
  have hk : KBlk .u32 u b 105 [p, q] := h
  exact ⟨[p, q], hk.slr_all rfl (Nat.le_refl _) (show 2 ≤ maxLen by decide), Nt.Dig.cons hp (Nt.Dig.cons hq Nt.Dig.nil), Nat.le_refl _, by simp [Nt.val]; omega⟩
/-- A list of one digit: its address, its digit. -/
theorem nat_digit (h : NatV u x N K) (hn : x.n = 1) : ∃ b o, x.a = some ⟨b, o, none⟩ ∧ u.cell? ⟨b, o, none⟩ = some (.int .u32 N) := by
  obtain ⟨l, h1, h2, h3, h4⟩ := h
  obtain ⟨b, o, e, _, hc⟩ := h1.pos (i := 0) (by omega)
  refine ⟨b, o, e, ?_⟩
  simp only [Nat.add_zero] at hc
  rw [hc]
  have hl := h1.1
  have e2 := h4
  rw [← Nt.valTo_all l (n := 1) (by omega), Nt.valTo_succ, Nt.valTo_zero] at e2
  have : l[0]?.getD 0 = (N : Int) := by simpa [Nt.pw] using e2
  rw [this]
theorem nat_int (h : NatV u x N K) : IntV u ⟨false, x⟩ N K := ⟨N, h, rfl⟩
theorem nat_intN (h : NatN u x N K) : IntN u ⟨false, x⟩ N K := ⟨by simp, by simpa using h⟩
theorem int_mag (h : IntN u i z K) : NatN u i.m z.natAbs K := h.2
theorem over_nat {A : Option Addr} {n c : Nat} (h : NatF w w' A n c N) (hu : u.heap.size = w.heap.size) (hs : u.heap.size ≤ w'.heap.size) (hN : dl N ≤ K) : NatN (over u w') ⟨A, n, c⟩ N K := by
  obtain ⟨h1, h2, h3⟩ := h
  exact ⟨h1, h2.over (fun hp => by obtain ⟨a, e, k, _⟩ := h3 hp; exact ⟨a, e, by omega⟩) hs, hN⟩
/-- What a function of naturals answers: the digits of N, in memory made since. -/
def NatG (w w' : World) (e : Ending) (N : Nat) : Prop := ∃ A n c, e = .returned (.slice A n c) ∧ NatF w w' A n c N ∧ Below w.heap.size w w'
/-- A function that made memory, and answered the digits of N. -/
theorem post_nat {e : Ending} (d : Dat u w) (h : NatG w w' e N) (hN : dl N ≤ K) : Post u w (fun v u' => ∃ x : Sl, v = x.v ∧ NatN u' x N K) e w' := by
  obtain ⟨A, n, c, rfl, f, hb⟩ := h
  have hs : u.heap.size ≤ w'.heap.size := by rw [d.size]; exact hb.size
  exact ⟨_, over u w', rfl, over_dat d hb, hb, over_grow hs, ⟨A, n, c⟩, rfl, over_nat f d.size hs hN⟩
/-- A function that left old memory alone, and answered v. -/
theorem post_below {e : Ending} {v : Value} (d : Dat u w) (he : e = .returned v) (hb : Below w.heap.size w w') : Post u w (fun v' _ => v' = v) e w' :=
  ⟨v, over u w', he, over_dat d hb, hb, over_grow (by rw [d.size]; exact hb.size), rfl⟩
theorem below_drewN (w : World) (k : Nat) : Below w.heap.size w (w.drewN k) := ⟨rfl, rfl, rfl, Nat.le_refl _, fun _ _ => rfl⟩
theorem nat_fits {A : Option Addr} {n c : Nat} {e : Ending} {t : Int} (h : e = .returned (.slice A n c) ∧ NatF w w' A n c t.toNat ∧ Below w.heap.size w w') (ht : t = (N : Int)) : NatG w w' e N := by
  subst ht; rw [Int.toNat_natCast] at h; exact ⟨A, n, c, h⟩
/-- What a division answers. -/
def DivN (N M K L : Nat) (v : Value) (u : World) : Prop := ∃ x y : Sl, v = .tuple #[x.v, y.v, .int .i64 0] ∧ NatN u x (N / M) K ∧ NatN u y (N % M) L
theorem post_div {e : Ending} (d : Dat u w) (h : DivMF w w' e (N : Int) (M : Int)) (hK : dl N ≤ K) (hL : dl M ≤ L) (hM : 0 < M) : Post u w (DivN N M K L) e w' := by
  obtain ⟨A1, n1, c1, A2, n2, c2, rfl, f, g, hb⟩ := h
  rw [← Int.natCast_ediv, Int.toNat_natCast] at f
  rw [← Int.natCast_emod, Int.toNat_natCast] at g
  have hs : u.heap.size ≤ w'.heap.size := by rw [d.size]; exact hb.size
  exact ⟨_, over u w', rfl, over_dat d hb, hb, over_grow hs, ⟨A1, n1, c1⟩, ⟨A2, n2, c2⟩, rfl, over_nat f d.size hs (Nat.le_trans (Nt.dl_mono (Nat.div_le_self _ _)) hK), over_nat g d.size hs (Nat.le_trans (Nt.dl_mono (Nat.le_of_lt (Nat.mod_lt _ hM))) hL)⟩
theorem k_natAdd (d : Dat u w) (h1 : NatV u x N K) (h2 : NatV u y M L) (hK : K ≤ 500000000) (hL : L ≤ 500000000) : Calls Tryz.prog 185 #[x.v, y.v] w (Post u w fun v u' => ∃ x : Sl, v = x.v ∧ NatN u' x (N + M) (max K L + 1)) := by
  have hs1 := h1.size
  have hs2 := h2.size
  obtain ⟨a, a1, a2, a3, a4⟩ := h1
  obtain ⟨b, b1, b2, b3, b4⟩ := h2
  refine (Add_any _ _ _ _ _ _ _ _ _ (a1.ext d.ext) (b1.ext d.ext) a2 b2 (by omega) (by omega)).mono fun e w' ⟨A', n', c', h⟩ => ?_
  rw [a4, b4] at h
  exact post_nat d (nat_fits h (by omega)) (by have := Nt.dl_add N M; omega)
theorem k_natSub (d : Dat u w) (h1 : NatV u x N K) (h2 : NatV u y M L) (hK : K ≤ 500000000) (hL : L ≤ 500000000) : Calls Tryz.prog 186 #[x.v, y.v] w (Post u w fun v u' => ∃ x : Sl, v = x.v ∧ NatN u' x (N - M) (K)) := by
  have hs1 := h1.size
  have hs2 := h2.size
  obtain ⟨a, a1, a2, a3, a4⟩ := h1
  obtain ⟨b, b1, b2, b3, b4⟩ := h2
  refine (Sub_any _ _ _ _ _ _ _ _ _ (a1.ext d.ext) (b1.ext d.ext) a2 b2 (by omega) (by omega)).mono fun e w' ⟨A', n', c', h⟩ => ?_
  rw [a4, b4] at h
  exact post_nat d (by rw [show ((N : Int) - (M : Int)).toNat = N - M by omega] at h; exact ⟨A', n', c', h⟩) (by have := Nt.dl_mono (Nat.sub_le N M); omega)
theorem k_natMul (d : Dat u w) (h1 : NatV u x N K) (h2 : NatV u y M L) (hK : K ≤ 500000000) (hL : L ≤ 500000000) : Calls Tryz.prog 155 #[x.v, y.v] w (Post u w fun v u' => ∃ x : Sl, v = x.v ∧ NatN u' x (N * M) (K + L)) := by
  have hs1 := h1.size
  have hs2 := h2.size
  obtain ⟨a, a1, a2, a3, a4⟩ := h1
  obtain ⟨b, b1, b2, b3, b4⟩ := h2
  refine (Mul_any _ _ _ _ _ _ _ _ _ (a1.ext d.ext) (b1.ext d.ext) a2 b2 (by omega) (by omega)).mono fun e w' ⟨A', n', c', h⟩ => ?_
  rw [a4, b4] at h
  exact post_nat d (nat_fits h (Int.natCast_mul N M).symm) (by have := Nt.dl_mul N M; omega)
theorem k_natGcd (d : Dat u w) (h1 : NatV u x N K) (h2 : NatV u y M L) (hK : K ≤ 500000000) (hL : L ≤ 500000000) : Calls Tryz.prog 175 #[x.v, y.v] w (Post u w fun v u' => ∃ x : Sl, v = x.v ∧ NatN u' x (Nat.gcd N M) (max K L)) := by
  have hs1 := h1.size
  have hs2 := h2.size
  obtain ⟨a, a1, a2, a3, a4⟩ := h1
  obtain ⟨b, b1, b2, b3, b4⟩ := h2
  refine (Gcd_any _ _ _ _ _ _ _ _ _ (a1.ext d.ext) (b1.ext d.ext) a2 b2 (by omega) (by omega)).mono fun e w' ⟨A', n', c', h⟩ => ?_
  rw [a4, b4] at h
  exact post_nat d (by rw [Int.toNat_natCast, Int.toNat_natCast] at h; exact ⟨A', n', c', h⟩) (by
    rcases Nat.eq_zero_or_pos M with h0 | h0
    · rw [h0, Nat.gcd_zero_right]; omega
    · have := Nt.dl_mono (Nat.gcd_le_right N h0); omega)
theorem k_natTrim (d : Dat u w) (h1 : NatV u x N K) (hK : K ≤ 500000000) : Calls Tryz.prog 183 #[x.v] w (Post u w fun v u' => ∃ x : Sl, v = x.v ∧ NatN u' x N K) := by
  have hs1 := h1.size
  obtain ⟨a, a1, a2, a3, a4⟩ := h1
  refine (Trim_any _ _ _ _ _ (a1.ext d.ext) a2 (by omega)).mono fun e w' ⟨A', n', c', h⟩ => ?_
  rw [a4] at h
  exact post_nat d (nat_fits h rfl) hs1
theorem k_natDivMod (d : Dat u w) (h1 : NatV u x N K) (h2 : NatV u y M L) (hM : 0 < M) (hK : K ≤ 500000000) (hL : L ≤ 500000000) : Calls Tryz.prog 181 #[x.v, y.v] w (Post u w (DivN N M K L)) := by
  have hs1 := h1.size
  have hs2 := h2.size
  obtain ⟨a, a1, a2, a3, a4⟩ := h1
  obtain ⟨b, b1, b2, b3, b4⟩ := h2
  refine (DivMod_any _ _ _ _ _ _ _ _ _ (a1.ext d.ext) (b1.ext d.ext) a2 b2 (by omega) (by omega)).mono fun e w' h => ?_
  rw [a4, b4] at h
  exact post_div d h hs1 hs2 hM
theorem k_rnAdd (d : Dat u w) (h1 : NatV u x N K) (h2 : NatV u y M L) (hK : K ≤ 500000000) (hL : L ≤ 500000000) : Calls Tryz.prog 161 #[x.v, y.v] w (Post u w fun v u' => ∃ x : Sl, v = x.v ∧ NatN u' x (N + M) (max K L + 1)) := by
  have hs1 := h1.size
  have hs2 := h2.size
  obtain ⟨a, a1, a2, a3, a4⟩ := h1
  obtain ⟨b, b1, b2, b3, b4⟩ := h2
  refine (rAdd_any _ _ _ _ _ _ _ _ _ (a1.ext d.ext) (b1.ext d.ext) a2 b2 (by omega) (by omega)).mono fun e w' ⟨A', n', c', h⟩ => ?_
  rw [a4, b4] at h
  exact post_nat d (nat_fits h (by omega)) (by have := Nt.dl_add N M; omega)
theorem k_rnSub (d : Dat u w) (h1 : NatV u x N K) (h2 : NatV u y M L) (hK : K ≤ 500000000) (hL : L ≤ 500000000) : Calls Tryz.prog 163 #[x.v, y.v] w (Post u w fun v u' => ∃ x : Sl, v = x.v ∧ NatN u' x (N - M) (K)) := by
  have hs1 := h1.size
  have hs2 := h2.size
  obtain ⟨a, a1, a2, a3, a4⟩ := h1
  obtain ⟨b, b1, b2, b3, b4⟩ := h2
  refine (rSub_any _ _ _ _ _ _ _ _ _ (a1.ext d.ext) (b1.ext d.ext) a2 b2 (by omega) (by omega)).mono fun e w' ⟨A', n', c', h⟩ => ?_
  rw [a4, b4] at h
  exact post_nat d (by rw [show ((N : Int) - (M : Int)).toNat = N - M by omega] at h; exact ⟨A', n', c', h⟩) (by have := Nt.dl_mono (Nat.sub_le N M); omega)
theorem k_rnMul (d : Dat u w) (h1 : NatV u x N K) (h2 : NatV u y M L) (hK : K ≤ 500000000) (hL : L ≤ 500000000) : Calls Tryz.prog 164 #[x.v, y.v] w (Post u w fun v u' => ∃ x : Sl, v = x.v ∧ NatN u' x (N * M) (K + L)) := by
  have hs1 := h1.size
  have hs2 := h2.size
  obtain ⟨a, a1, a2, a3, a4⟩ := h1
  obtain ⟨b, b1, b2, b3, b4⟩ := h2
  refine (rMul_any _ _ _ _ _ _ _ _ _ (a1.ext d.ext) (b1.ext d.ext) a2 b2 (by omega) (by omega)).mono fun e w' ⟨A', n', c', h⟩ => ?_
  rw [a4, b4] at h
  exact post_nat d (nat_fits h (Int.natCast_mul N M).symm) (by have := Nt.dl_mul N M; omega)
theorem k_rnGcd (d : Dat u w) (h1 : NatV u x N K) (h2 : NatV u y M L) (hK : K ≤ 500000000) (hL : L ≤ 500000000) : Calls Tryz.prog 190 #[x.v, y.v] w (Post u w fun v u' => ∃ x : Sl, v = x.v ∧ NatN u' x (Nat.gcd N M) (max K L)) := by
  have hs1 := h1.size
  have hs2 := h2.size
  obtain ⟨a, a1, a2, a3, a4⟩ := h1
  obtain ⟨b, b1, b2, b3, b4⟩ := h2
  refine (rGcd_any _ _ _ _ _ _ _ _ _ (a1.ext d.ext) (b1.ext d.ext) a2 b2 (by omega) (by omega)).mono fun e w' ⟨A', n', c', h⟩ => ?_
  rw [a4, b4] at h
  exact post_nat d (by rw [Int.toNat_natCast, Int.toNat_natCast] at h; exact ⟨A', n', c', h⟩) (by
    rcases Nat.eq_zero_or_pos M with h0 | h0
    · rw [h0, Nat.gcd_zero_right]; omega
    · have := Nt.dl_mono (Nat.gcd_le_right N h0); omega)
theorem k_rnTrim (d : Dat u w) (h1 : NatV u x N K) (hK : K ≤ 500000000) : Calls Tryz.prog 156 #[x.v] w (Post u w fun v u' => ∃ x : Sl, v = x.v ∧ NatN u' x N K) := by
  have hs1 := h1.size
  obtain ⟨a, a1, a2, a3, a4⟩ := h1
  refine (rTrim_any _ _ _ _ _ (a1.ext d.ext) a2 (by omega)).mono fun e w' ⟨A', n', c', h⟩ => ?_
  rw [a4] at h
  exact post_nat d (nat_fits ⟨h.1, h.2.1.nat, h.2.2⟩ rfl) hs1
theorem k_rnDivMod (d : Dat u w) (h1 : NatV u x N K) (h2 : NatV u y M L) (hM : 0 < M) (hK : K ≤ 500000000) (hL : L ≤ 500000000) : Calls Tryz.prog 191 #[x.v, y.v] w (Post u w (DivN N M K L)) := by
  have hs1 := h1.size
  have hs2 := h2.size
  obtain ⟨a, a1, a2, a3, a4⟩ := h1
  obtain ⟨b, b1, b2, b3, b4⟩ := h2
  refine (rDivMod_any _ _ _ _ _ _ _ _ _ (a1.ext d.ext) (b1.ext d.ext) a2 b2 (by omega) (by omega) (by omega)).mono fun e w' h => ?_
  rw [a4, b4] at h
  exact post_div d h hs1 hs2 hM
theorem k_natCompare (d : Dat u w) (h1 : NatV u x N K) (h2 : NatV u y M L) : Calls Tryz.prog 154 #[x.v, y.v] w (Post u w fun v _ => v = .int .i64 (Nt.cmpS N M)) := by
  obtain ⟨a, a1, a2, a3, a4⟩ := h1
  obtain ⟨b, b1, b2, b3, b4⟩ := h2
  refine (Compare_any _ _ _ _ _ _ _ _ _ (a1.ext d.ext) (b1.ext d.ext) a2 b2).mono fun e w' ⟨h, k, hk⟩ => ?_
  rw [a4, b4] at h
  exact post_below d h (by rw [hk]; exact below_drewN w k)
theorem k_rnCompare (d : Dat u w) (h1 : NatV u x N K) (h2 : NatV u y M L) (hK : K ≤ 500000000) (hL : L ≤ 500000000) : Calls Tryz.prog 162 #[x.v, y.v] w (Post u w fun v _ => v = .int .i64 (Nt.cmpS N M)) := by
  obtain ⟨a, a1, a2, a3, a4⟩ := h1
  obtain ⟨b, b1, b2, b3, b4⟩ := h2
  refine (rCompare_any _ _ _ _ _ _ _ _ _ (a1.ext d.ext) (b1.ext d.ext) a2 b2 (by omega) (by omega)).mono fun e w' ⟨h, hb⟩ => ?_
  rw [a4, b4] at h
  exact post_below d h hb
theorem k_rnSame (d : Dat u w) (h1 : NatN u x N K) (h2 : NatN u y M L) : Calls Tryz.prog 138 #[x.v, y.v] w (Post u w fun v _ => v = .bool (decide (N = M))) := by
  refine (rSame_any _ _ _ _ _ _ _ _ _ (h1.2.1.ext d.ext) (h2.2.1.ext d.ext)).mono fun e w' ⟨h, k, hk⟩ => ?_
  have e2 : decide (Nt.digits N = Nt.digits M) = decide (N = M) := by rw [decide_eq_decide]; exact Nt.digits_inj
  rw [e2] at h
  exact post_below d h (by rw [hk]; exact below_drewN w k)
end
end Go.Proofs.YtnedhbidmfoegaaGreat
namespace Go.Proofs.YtnedhbidmfoegaaGreat
open Go.RowKit
set_option linter.unusedVariables false
namespace Nt
/-- The parts of a quotient in lowest terms. -/
theorem mk_den {z : Int} {D : Nat} (hD : 0 < D) : (mkRat z D).den = D / Nat.gcd z.natAbs D ∧ (mkRat z D).num = z / ((Nat.gcd z.natAbs D : Nat) : Int) := by
  rw [← Rat.normalize_eq_mkRat (by omega), Rat.normalize_eq]
  exact ⟨rfl, rfl⟩
theorem mk_num {z : Int} {D : Nat} (hD : 0 < D) : (mkRat z D).num.natAbs = z.natAbs / Nat.gcd z.natAbs D ∧ ((mkRat z D).num < 0 ↔ z < 0) := by
  have h := (mk_den (z := z) hD).2
  have hg : 0 < Nat.gcd z.natAbs D := Nat.gcd_pos_of_pos_right _ hD
  obtain ⟨k, hk⟩ := Nat.gcd_dvd_left z.natAbs D
  generalize Nat.gcd z.natAbs D = g at *
  rw [h]
  have hk2 : z.natAbs / g = k := by rw [hk]; exact Nat.mul_div_cancel_left _ hg
  rw [hk2]
  rcases Int.lt_or_le z 0 with hz | hz
  · have e : z = -((g : Int) * (k : Int)) := by rw [← Int.natCast_mul, ← hk]; omega
    have hk0 : 0 < k := by
      rcases Nat.eq_zero_or_pos k with h | h
      · rw [h] at hk; simp at hk; omega
      · exact h
    have e2 : z / (g : Int) = -(k : Int) := by
      rw [e, ← Int.mul_neg]
      exact Int.mul_ediv_cancel_left _ (by omega)
    rw [e2]
    exact ⟨by omega, by omega⟩
  · have e : z = (g : Int) * (k : Int) := by rw [← Int.natCast_mul, ← hk]; omega
    have e2 : z / (g : Int) = (k : Int) := by rw [e]; exact Int.mul_ediv_cancel_left _ (by omega)
    rw [e2]
    exact ⟨by omega, by omega⟩
theorem mk_gcd (N D : Nat) : Nat.gcd D (N % D) = Nat.gcd N D := by rw [Nat.gcd_comm N D, Nat.gcd_rec D N, Nat.gcd_comm]
/-- The size of a rational: how many digits its parts have at most. -/
def rs (q : Rat) : Nat := max (dl q.num.natAbs) (dl q.den)
theorem rs_mk {z : Int} {D K : Nat} (hz : dl z.natAbs ≤ K) (hd : dl D ≤ K) (hK : 1 ≤ K) : rs (mkRat z D) ≤ K := by
  rcases Nat.eq_zero_or_pos D with h | h
  · rw [h, Rat.mkRat_zero]
    unfold rs
    rw [show (0 : Rat).num.natAbs = 0 from rfl, show (0 : Rat).den = 1 from rfl, dl_zero, dl_one]
    omega
  · unfold rs
    have h1 : dl (mkRat z D).num.natAbs ≤ dl z.natAbs := by rw [(mk_num h).1]; exact dl_mono (Nat.div_le_self _ _)
    have h2 : dl (mkRat z D).den ≤ dl D := by rw [(mk_den h).1]; exact dl_mono (Nat.div_le_self _ _)
    omega
theorem den_pos (q : Rat) : 0 < q.den := Nat.pos_of_ne_zero q.den_nz
theorem rs_pos (q : Rat) : 1 ≤ rs q := by
  unfold rs
  have := dl_mono (den_pos q)
  rw [show Nat.succ 0 = 1 from rfl, dl_one] at this
  omega
def cmpQ (x y : Rat) : Int := if x < y then -1 else if x = y then 0 else 1
theorem cmp_nat0 {D : Nat} {b : Bool} (h : (cmpS (D : Int) 0 == 0) = b) : (b = true → D = 0) ∧ (b = false → 0 < D) := by
  unfold cmpS at h
  by_cases h0 : D = 0
  · subst h0; simp at h; subst h; simp
  · rw [if_neg (by omega), if_neg (by omega)] at h
    simp at h; subst h; simp; omega
theorem cmp_natE {D E : Nat} (h : (cmpS (D : Int) (E : Int) == 0) = true) : D = E := by
  unfold cmpS at h
  by_cases h1 : (D : Int) < E
  · simp only [h1, if_true] at h; simp at h
  · by_cases h2 : (D : Int) = E
    · omega
    · simp only [h1, h2, if_false] at h; simp at h
theorem cmp_eq0 {z : Int} (h : (cmpS z 0 == 0) = true) : z = 0 := by
  unfold cmpS at h
  by_cases h1 : z < 0
  · simp only [h1, if_true] at h; simp at h
  · by_cases h2 : z = 0
    · exact h2
    · simp only [h1, h2, if_false] at h; simp at h
theorem cmp_ne0 {z : Int} (h : (cmpS z 0 == 0) = false) : z ≠ 0 := by
  rintro rfl; simp [cmpS] at h
theorem mk_lt {a c : Int} {b d : Nat} (hb : 0 < b) (hd : 0 < d) : (mkRat a b < mkRat c d ↔ a * d < c * b) ∧ (mkRat a b = mkRat c d ↔ a * d = c * b) := by
  have e : mkRat a b = mkRat c d ↔ a * d = c * b := Rat.mkRat_eq_iff (by omega) (by omega)
  refine ⟨?_, e⟩
  have hb' : (0 : Rat) < (b : Rat) := Rat.natCast_pos.2 hb
  have hd' : (0 : Rat) < (d : Rat) := Rat.natCast_pos.2 hd
  rw [Rat.mkRat_eq_div, Rat.mkRat_eq_div, Rat.div_lt_iff hb']
  have e2 : (c : Rat) / (d : Rat) * (b : Rat) = (c * b : Rat) / d := by rw [Rat.div_def, Rat.div_def]; grind
  rw [e2, Rat.lt_div_iff hd']
  have e3 : (a : Rat) * ((d : Nat) : Rat) = ((a * d : Int) : Rat) := by rw [Rat.intCast_mul]; rfl
  have e4 : (c : Rat) * ((b : Nat) : Rat) = ((c * b : Int) : Rat) := by rw [Rat.intCast_mul]; rfl
  rw [e3, e4, Rat.intCast_lt_intCast]
theorem cmp_mk {a c : Int} {b d : Nat} (hb : 0 < b) (hd : 0 < d) : cmpS (a * d) (c * b) = cmpQ (mkRat a b) (mkRat c d) := by
  obtain ⟨h1, h2⟩ := mk_lt (a := a) (c := c) hb hd
  unfold cmpS cmpQ
  simp only [h1, h2]
theorem add_mk {a c : Int} {b d : Nat} (hb : 0 < b) (hd : 0 < d) : mkRat (a * d + c * b) (b * d) = mkRat a b + mkRat c d := (Rat.mkRat_add_mkRat a c (by omega) (by omega)).symm
theorem add_same {a c : Int} {b : Nat} (hb : 0 < b) : mkRat (a + c) b = mkRat a b + mkRat c b := by
  rw [← add_mk hb hb, ← Int.add_mul, ← Rat.mkRat_mul_right (a := b) (by omega)]
theorem mul_mk {a c : Int} {b d : Nat} : mkRat (a * c) (b * d) = mkRat a b * mkRat c d := (Rat.mkRat_mul_mkRat a c b d).symm
theorem mk_one (a : Int) : mkRat a 1 = (a : Rat) := by rw [Rat.mkRat_eq_div]; show (a : Rat) / ((1 : Nat) : Rat) = a; grind
theorem neg_mk {a : Int} {b : Nat} : mkRat (-a) b = -mkRat a b := (Rat.neg_mkRat a b).symm
def sgQ (x : Rat) : Int := cmpQ x 0
theorem sg_mk {a : Int} {b : Nat} (hb : 0 < b) : cmpS a 0 = sgQ (mkRat a b) := by
  have := cmp_mk (a := a) (c := 0) (b := b) (d := 1) hb (by omega)
  rw [Rat.zero_mkRat] at this
  unfold sgQ
  rw [← this]
  congr 1 <;> omega
def absQ (x : Rat) : Rat := if x < 0 then -x else x
theorem abs_mk {a : Int} {b : Nat} : mkRat (a.natAbs : Int) b = absQ (mkRat a b) := by
  rcases Nat.eq_zero_or_pos b with h | h
  · subst h; simp [absQ]
  · have h1 := (mk_lt (a := a) (c := 0) (b := b) (d := 1) h (by omega)).1
    rw [Rat.zero_mkRat] at h1
    unfold absQ
    by_cases ha : a < 0
    · rw [if_pos (h1.2 (by omega)), ← neg_mk]
      congr 1; omega
    · rw [if_neg (fun k => by have := h1.1 k; omega)]
      congr 1; omega
theorem rs_int {z : Int} {K : Nat} (h : dl z.natAbs ≤ K) (hK : 1 ≤ K) : rs (z : Rat) ≤ K := by
  rw [← mk_one]; exact rs_mk h (by rw [dl_one]; exact hK) hK
theorem rs_neg (q : Rat) : rs (-q) = rs q := by unfold rs; rw [Rat.neg_num, Rat.neg_den, Int.natAbs_neg]
theorem rs_abs (q : Rat) : rs (absQ q) = rs q := by
  unfold absQ; split
  · exact rs_neg q
  · rfl
/-- The numerator of a quotient of integers. -/
def quoI (x y : Int) : Int := if decide (x < 0) == decide (y < 0) then (x.natAbs : Int) else -(x.natAbs : Int)
theorem quoI_abs (x y : Int) : (quoI x y).natAbs = x.natAbs := by unfold quoI; split <;> omega
theorem div_mk2 {x y : Int} (hy : y ≠ 0) : mkRat (quoI x y) y.natAbs = (x : Rat) / (y : Rat) := by
  unfold quoI
  rw [← Rat.divInt_eq_div, ← Rat.divInt_ofNat]
  by_cases hx : x < 0 <;> by_cases hy' : y < 0
  · rw [if_pos (by simp [hx, hy']), ← Rat.neg_divInt_neg x y, show ((x.natAbs : Nat) : Int) = -x by omega, show ((y.natAbs : Nat) : Int) = -y by omega]
  · rw [if_neg (by simp [hx, hy']), show ((x.natAbs : Nat) : Int) = -x by omega, show ((y.natAbs : Nat) : Int) = y by omega, Int.neg_neg]
  · rw [if_neg (by simp [hx, hy']), ← Rat.neg_divInt_neg x y, show ((x.natAbs : Nat) : Int) = x by omega, show ((y.natAbs : Nat) : Int) = -y by omega]
  · rw [if_pos (by simp [hx, hy']), show ((x.natAbs : Nat) : Int) = x by omega, show ((y.natAbs : Nat) : Int) = y by omega]
theorem quo_mk {a c : Int} {b d : Nat} (hb : 0 < b) (hd : 0 < d) (hc : c ≠ 0) : ((a * d : Int) : Rat) / ((b * c : Int) : Rat) = mkRat a b / mkRat c d := by
  have hb' : (b : Rat) ≠ 0 := Ne.symm (Rat.ne_of_lt (Rat.natCast_pos.2 hb))
  have hd' : (d : Rat) ≠ 0 := Ne.symm (Rat.ne_of_lt (Rat.natCast_pos.2 hd))
  have hc' : (c : Rat) ≠ 0 := fun h => hc (by have : (c : Rat) = ((0 : Int) : Rat) := h; exact Rat.intCast_inj.1 this)
  rw [Rat.mkRat_eq_div, Rat.mkRat_eq_div, Rat.intCast_mul, Rat.intCast_mul]
  show (a : Rat) * (d : Rat) / ((b : Rat) * (c : Rat)) = _
  grind
end Nt
/-- A rational as it stands reads as q (0 if the denominator is 0); each part has at most K digits. -/
def RatV (u : World) (r : RL) (q : Rat) (K : Nat) : Prop := (∃ z D, IntV u ⟨r.s, r.m⟩ z K ∧ NatV u r.d D K ∧ q = mkRat z D) ∧ 1 ≤ K
/-- The canonical rational q; each part has at most K digits. -/
def RatN (u : World) (r : RL) (q : Rat) (K : Nat) : Prop := IntN u ⟨r.s, r.m⟩ q.num K ∧ NatN u r.d q.den K
section
variable {u u' w w' : World} {x y : Sl} {i j : IL} {r : RL} {N M K L : Nat} {z z' : Int} {q : Rat}
theorem RatV.ext (h : RatV u r q K) (e : Ext u u') : RatV u' r q K := by
  obtain ⟨⟨z, D, h1, h2, h3⟩, h4⟩ := h; exact ⟨⟨z, D, h1.ext e, h2.ext e, h3⟩, h4⟩
theorem RatN.ext (h : RatN u r q K) (e : Ext u u') : RatN u' r q K := ⟨h.1.ext e, h.2.ext e⟩
theorem RatV.more (h : RatV u r q K) (k : K ≤ L) : RatV u r q L := by
  obtain ⟨⟨z, D, h1, h2, h3⟩, h4⟩ := h; exact ⟨⟨z, D, h1.more k, h2.more k, h3⟩, by omega⟩
theorem RatN.more (h : RatN u r q K) (k : K ≤ L) : RatN u r q L := ⟨h.1.more k, h.2.more k⟩
theorem RatN.rs (h : RatN u r q K) : Nt.rs q ≤ K := by
  have h1 := h.1.2.2.2
  have h2 := h.2.2.2
  unfold Nt.rs; omega
theorem RatN.fit (h : RatN u r q K) (k : Nt.rs q ≤ L) : RatN u r q L := by
  unfold Nt.rs at k
  exact ⟨⟨h.1.1, h.1.2.1, h.1.2.2.1, by omega⟩, h.2.1, h.2.2.1, by omega⟩
theorem RatN.raw (h : RatN u r q K) : RatV u r q K := ⟨⟨q.num, q.den, h.1.raw, h.2.raw, (Rat.mkRat_self q).symm⟩, by have := Nt.rs_pos q; have := h.rs; omega⟩
theorem RatV.rs (h : RatV u r q K) : Nt.rs q ≤ K := by
  obtain ⟨⟨z, D, h1, h2, h3⟩, h4⟩ := h
  rw [h3]; exact Nt.rs_mk h1.size h2.size h4
/-- What 'read' answers. -/
def NumV (u : World) (r : RL) (wh : Bool) (q : Rat) (K : Nat) : Prop := ∃ z D, IntV u ⟨r.s, r.m⟩ z K ∧ NatV u r.d D K ∧ 0 < D ∧ q = mkRat z D ∧ (wh = true → D = 1) ∧ 1 ≤ K
theorem quot_int {L : Nat} (h : IntN u i z K) (h2 : IntN u j z' L) : IntV u ⟨!(i.s == j.s), i.m⟩ (Nt.quoI z z') K := by
  refine ⟨z.natAbs, h.2.raw, ?_⟩
  show Nt.quoI z z' = Nt.sg (!(i.s == j.s)) _
  rw [h.1, h2.1]
  unfold Nt.quoI Nt.sg
  cases (decide (z < 0) == decide (z' < 0)) <;> rfl
theorem flip_rat (h : RatV u r q K) : RatV u ⟨!r.s, r.m, r.d⟩ (-q) K := by
  obtain ⟨⟨z, D, ⟨N, h1, h2⟩, h3, h4⟩, h5⟩ := h
  refine ⟨⟨-z, D, ⟨N, h1, ?_⟩, h3, by rw [h4, Nt.neg_mk]⟩, h5⟩
  rw [h2]; exact (Nt.sg_neg _ _).symm
theorem abs_rat (h : RatV u r q K) : RatV u ⟨false, r.m, r.d⟩ (Nt.absQ q) K := by
  obtain ⟨⟨z, D, ⟨N, h1, h2⟩, h3, h4⟩, h5⟩ := h
  refine ⟨⟨z.natAbs, D, ⟨N, h1, ?_⟩, h3, by rw [h4, Nt.abs_mk]⟩, h5⟩
  rw [h2, Nt.sg_abs]; rfl
theorem whole_rat (h : IntN u i z K) (h1 : NatN u y 1 L) : RatN u ⟨i.s, i.m, y⟩ (z : Rat) (max K L) := by
  refine ⟨?_, ?_⟩
  · show IntN u i (z : Rat).num _; rw [Rat.num_intCast]; exact h.more (Nat.le_max_left _ _)
  · show NatN u y (z : Rat).den _; rw [Rat.den_intCast]; exact h1.more (Nat.le_max_right _ _)
theorem low1 {s : Bool} {D : Nat} (hD : 0 < D) (h : N % D = 0) : ((Nt.sg s (N / D) : Int) : Rat) = mkRat (Nt.sg s N) D := by
  obtain ⟨k, hk⟩ := Nat.dvd_of_mod_eq_zero h
  subst hk
  rw [Nat.mul_div_cancel_left _ hD, ← Nt.mk_one, Rat.mkRat_eq_iff (by omega) (by omega)]
  unfold Nt.sg
  cases s
  · simp [Int.mul_comm]
  · simp [Int.mul_comm, Int.mul_neg]
theorem low2 {s : Bool} {D : Nat} (hD : 0 < D) (hg : Nat.gcd D (N % D) = 1) (h1 : IntN u i (Nt.sg s N) K) (h2 : NatN u y D L) : RatN u ⟨i.s, i.m, y⟩ (mkRat (Nt.sg s N) D) (max K L) := by
  rw [Nt.mk_gcd] at hg
  have hg' : Nat.gcd (Nt.sg s N).natAbs D = 1 := by rw [Nt.sg_abs]; exact hg
  have e1 := (Nt.mk_den (z := Nt.sg s N) hD).1
  have e2 := (Nt.mk_den (z := Nt.sg s N) hD).2
  rw [hg', Nat.div_one] at e1
  rw [hg'] at e2
  simp at e2
  refine ⟨?_, ?_⟩
  · show IntN u i _ _; rw [e2]; exact h1.more (Nat.le_max_left _ _)
  · show NatN u y _ _; rw [e1]; exact h2.more (Nat.le_max_right _ _)
theorem low3 {s : Bool} {D : Nat} (hD : 0 < D) (hr : N % D ≠ 0) (h1 : NatN u x (N / Nat.gcd D (N % D)) K) (h2 : NatN u y (D / Nat.gcd D (N % D)) L) : RatN u ⟨s, x, y⟩ (mkRat (Nt.sg s N) D) (max K L) := by
  rw [Nt.mk_gcd] at h1 h2
  have e1 := (Nt.mk_den (z := Nt.sg s N) hD).1
  have e2 := Nt.mk_num (z := Nt.sg s N) hD
  rw [Nt.sg_abs] at e1 e2
  refine ⟨⟨?_, ?_⟩, ?_⟩
  · have hN : 0 < N := by
      rcases Nat.eq_zero_or_pos N with h | h
      · rw [h] at hr; simp at hr
      · exact h
    have e3 : decide ((mkRat (Nt.sg s N) D).num < 0) = decide (Nt.sg s N < 0) := decide_eq_decide.2 e2.2
    show s = decide _
    rw [e3]
    unfold Nt.sg
    cases s <;> simp <;> omega
  · show NatN u x _ _; rw [e2.1]; exact h1.more (Nat.le_max_left _ _)
  · show NatN u y _ _; rw [e1]; exact h2.more (Nat.le_max_right _ _)
end
end Go.Proofs.YtnedhbidmfoegaaGreat
namespace Go.Proofs.YtnedhbidmfoegaaGreat
open Go.RowKit Go.ChangeShapes Go.WideShapes
set_option linter.unusedVariables false
section
variable {H : Type} {enc : TypeId × Value → H} {P : Program} {w : World} {base : Nat} {spare : Nat → Bool} {held : Bool} {fuel : Nat} {cs : List Value} {x : DataW H × List MemPlace}
theorem ar_slr {k : IntKind} {t e : TypeId} (ht : P.underlying t = some (.slice e)) (he : P.underlying e = some (.int k)) (hc : P.cellsOf e = 1) (h : DataW.trod enc P w base spare held fuel t cs = some x) :
    ∃ (s : Sl) (l : List Int), cs = [s.v] ∧ SlR k w s.a s.n s.c l ∧ ∀ z ∈ l, (Lit.int k z).wf = true := by
  rcases open_ints ht he hc h with ⟨rfl, _⟩ | ⟨a, len, cap, zs, rfl, _, hl, hm, hz, _, hcell, hwz⟩
  · exact ⟨⟨none, 0, 0⟩, [], rfl, SlR.nil w none 0 (Nat.zero_le _), (fun z h => by cases h)⟩
  · have hle : len ≤ zs.length := by rw [hz]; split <;> omega
    refine ⟨⟨some a, len, cap⟩, zs.take len, rfl, ⟨by simp; omega, hl, hm, fun hp => ?_⟩, fun z hz' => hwz z (List.mem_of_mem_take hz')⟩
    have hp : 0 < len := hp
    obtain ⟨b, o, sp⟩ := a
    have h0 := hcell 0 (by omega)
    have hsp : sp = none := by simpa [Addr.add] using World.cell?_spot h0
    subst hsp
    refine ⟨b, o, rfl, ?_, fun i hi => ?_⟩
    · have := block_lt_of_cell h0
      simpa [Addr.add] using this
    · have hi : i < len := hi
      have := hcell i (by omega)
      rw [show (⟨b, o, none⟩ : Addr).add i = ⟨b, o + i, none⟩ by unfold Addr.add; split <;> simp_all] at this
      rw [this, List.getElem?_take_of_lt hi]
      simp
theorem wf_i64 {z : Int} (h : (Lit.int .i64 z).wf = true) : -9223372036854775808 ≤ z ∧ z ≤ 9223372036854775807 := by
  simp [Lit.wf, IntKind.min, IntKind.max, IntKind.bits, IntKind.signed] at h
  omega
section
variable {r0 : Reach} {b0 : Nat} {v : Value} {d : DataW H} {p : List MemPlace}
end
end
end Go.Proofs.YtnedhbidmfoegaaGreat
namespace Go.Proofs.YtnedhbidmfoegaaGreat
open Go.RowKit
set_option linter.unusedVariables false
def St.own (S : St) (d : Tmp) (V : Vr) (n c : Nat) : St := ⟨S.n, upd S.reg d (some (.slc d 0 n c)), upd S.var d (some V)⟩
/-- u with new hidden blocks, as many as w' has. -/
def hide (u w' : World) : World := { u with heap := u.heap ++ Array.replicate (w'.heap.size - u.heap.size) hidO }
section
variable {P : Program} {ops : Array Oper} {w0 : Base} {u0 : World} {S T : St} {B : Tmp → Nat} {a : Act} {w w' u u' : World} {o : Oper} {p : List Tmp} {seq : Bool} {rest : List (Oper × List Tmp)} {K : St → World → Prop}
theorem hide_size (h : u.heap.size ≤ w'.heap.size) : (hide u w').heap.size = w'.heap.size := by simp [hide]; omega
theorem hide_old {b : Nat} (h : b < u.heap.size) : (hide u w').heap[b]? = u.heap[b]? := by
  simp only [hide]; rw [Array.getElem?_append_left h]
theorem hide_new {b : Nat} (h : u.heap.size ≤ b) (h2 : b < w'.heap.size) : (hide u w').heap[b]? = some hidO := by
  simp only [hide]; rw [Array.getElem?_append_right h, Array.getElem?_replicate, if_pos (by omega)]
theorem hide_grow (h : u.heap.size ≤ w'.heap.size) : Grow u (hide u w') := ⟨by rw [hide_size h]; exact h, fun b hb => hide_old hb⟩
theorem unpub_spec_reg {pubs : List Tmp} {r : Tmp} {x : SV} (h : (S.unpub pubs).reg r = some x) : S.reg r = some x ∧ r ∉ pubs := by
  simp only [St.unpub] at h
  cases e : pubs.contains r with
  | true => rw [e] at h; cases h
  | false => rw [e] at h; exact ⟨h, fun hm => by rw [List.contains_iff_mem.2 hm] at e; cases e⟩
theorem unpub_spec_var {pubs : List Tmp} {r : Tmp} {x : Vr} (h : (S.unpub pubs).var r = some x) : S.var r = some x ∧ r ∉ pubs := by
  simp only [St.unpub] at h
  cases e : pubs.contains r with
  | true => rw [e] at h; cases h
  | false => rw [e] at h; exact ⟨h, fun hm => by rw [List.contains_iff_mem.2 hm] at e; cases e⟩
/-- Behind an append: the list lies in block g; the lists in pubs are given up. -/
theorem Rep.grown (h : Rep w0 u0 S B a w u) {pubs : List Tmp} (hno : NoAt S pubs) {row : Option Nat} (hrow : ∀ b, row = some b → ∃ t ∈ pubs, t < S.n ∧ ∃ V, S.var t = some V ∧ B t = b) (hg : w.grownBy w' row)
    {d : Tmp} {V : Vr} {g n c : Nat} (hd : d < S.n) (hdv : S.var d = none ∨ d ∈ pubs) (hgv : w'.heap[g]? = some (.cells V.cs.toArray V.ty (0, 0))) (hgo : row = some g ∨ g = w.heap.size) :
    Rep w0 u0 ((S.unpub pubs).own d V n c) (setB B d g) (a.put (some d) (.slice (some ⟨g, 0, none⟩) n c)) w' (hide u w') := by
  have hus : u.heap.size = w.heap.size := h.dat.size
  have hsz : u.heap.size ≤ w'.heap.size := by rw [hus]; exact hg.size
  have hrowu : ∀ b, row = some b → u.heap[b]? = some hidO ∧ u0.heap.size ≤ b ∧ b < w.heap.size := fun b hb => by
    obtain ⟨t, _, hlt, V', hV, rfl⟩ := hrow b hb
    exact ⟨(h.var t V' hV).2.1, (h.var t V' hV).2.2.1 hlt, h.lt hV⟩
  have hat : ∀ r x, S.reg r = some x → r ∉ pubs → x.at? ≠ some d := fun r x hx hr e => by
    obtain ⟨V', hV'⟩ := h.wf.reg r x d hx e
    rcases hdv with hdv | hdv
    · rw [hdv] at hV'; cases hV'
    · exact hr (hno r x d hx e hdv)
  refine ⟨⟨fun r x hx => ?_, by rw [Act.put_size]; exact h.regs.size⟩, ⟨fun r x t hx ht => ?_⟩, by rw [put_defers]; exact h.defers, fun t V' hV => ?_, fun t t' V1 V2 h1 h2 e => ?_, ⟨hide_size hsz, fun b o hb hh => ?_⟩, h.base, h.grow.trans (hide_grow hsz), ?_⟩
  · by_cases e : r = d
    · subst e
      simp only [St.own, upd_same] at hx
      injection hx with hx
      subst hx
      rw [Act.put_get_same _ _ (by rw [h.regs.size]; exact hd)]
      simp [SV.conc, setB]
    · simp only [St.own, upd_ne _ _ e] at hx
      obtain ⟨k1, k2⟩ := unpub_spec_reg hx
      rw [Act.put_get_ne _ _ (fun k => e (by injection k with k; exact k.symm)), conc_setB (hat r x k1 k2)]
      exact h.regs.reg r x k1
  · show ∃ V', upd (S.unpub pubs).var d (some V) t = some V'
    by_cases e : t = d
    · subst e; exact ⟨V, upd_same _ _ _⟩
    · rw [upd_ne _ _ e]
      by_cases e2 : r = d
      · subst e2
        simp only [St.own, upd_same] at hx
        injection hx with hx
        subst hx
        injection ht with ht; exact absurd ht.symm e
      · simp only [St.own, upd_ne _ _ e2] at hx
        obtain ⟨k1, k2⟩ := unpub_spec_reg hx
        obtain ⟨V', hV'⟩ := h.wf.reg r x t k1 ht
        have hnt : t ∉ pubs := fun hm => k2 (hno r x t k1 ht hm)
        exact ⟨V', by rw [unpub_var hnt]; exact hV'⟩
  · by_cases e : t = d
    · subst e
      simp only [St.own, upd_same] at hV
      injection hV with hV
      subst hV
      rw [show setB B t g t = g by simp [setB]]
      refine ⟨hgv, ?_, ?_⟩
      · rcases hgo with hgo | hgo
        · obtain ⟨k1, _, k3⟩ := hrowu g hgo
          rw [hide_old (by omega)]; exact k1
        · exact hide_new (by omega) (lt_of_get hgv)
      · refine .mk0 hd ?_
        rcases hgo with hgo | hgo
        · exact (hrowu g hgo).2.1
        · have := h.grow.size; omega
    · simp only [St.own, upd_ne _ _ e] at hV
      obtain ⟨k1, k2⟩ := unpub_spec_var hV
      obtain ⟨g1, g2, g3⟩ := h.var t V' k1
      rw [show setB B d g t = B t by simp [setB, e]]
      refine ⟨?_, by rw [hide_old (lt_of_get g2)]; exact g2, g3⟩
      rw [hg.block _ (h.lt k1) ?_]
      · exact g1
      · intro hb
        obtain ⟨s, hs, _, Vs, hVs, he⟩ := hrow _ hb.symm
        exact k2 (h.inj s t Vs V' hVs k1 he ▸ hs)
  · have key : ∀ t V1, (((S.unpub pubs).own d V n c)).var t = some V1 → t ≠ d → S.var t = some V1 ∧ t ∉ pubs := fun t V1 hV e => by
      simp only [St.own, upd_ne _ _ e] at hV; exact unpub_spec_var hV
    have hgt : ∀ t V1, S.var t = some V1 → t ∉ pubs → B t ≠ g := fun t V1 hV hn e => by
      rcases hgo with hgo | hgo
      · obtain ⟨s, hs, _, Vs, hVs, he⟩ := hrow g hgo
        exact hn (h.inj s t Vs V1 hVs hV (he.trans e.symm) ▸ hs)
      · have := h.lt hV; omega
    by_cases e1 : t = d
    · by_cases e2 : t' = d
      · rw [e1, e2]
      · obtain ⟨k1, k2⟩ := key t' V2 h2 e2
        simp [setB, e1, e2] at e
        exact absurd e.symm (hgt t' V2 k1 k2)
    · obtain ⟨k1, k2⟩ := key t V1 h1 e1
      by_cases e2 : t' = d
      · simp [setB, e1, e2] at e
        exact absurd e (hgt t V1 k1 k2)
      · obtain ⟨k3, k4⟩ := key t' V2 h2 e2
        simp [setB, e1, e2] at e
        exact h.inj t t' V1 V2 k1 k3 e
  · rcases Nat.lt_or_ge b u.heap.size with hlt | hge
    · rw [hide_old hlt] at hb
      rw [hg.block b (by omega) (fun hc => ?_)]
      · exact h.dat.vis b o hb hh
      · obtain ⟨k1, _⟩ := hrowu b hc.symm
        rw [k1] at hb; injection hb with hb; exact hh hb.symm
    · have hlt := lt_of_get hb
      rw [hide_size hsz] at hlt
      rw [hide_new hge hlt] at hb; injection hb with hb; exact absurd hb.symm hh
  · refine h.bel.trans ⟨hg.os, hg.tape, hg.output, hg.size, fun k hk => hg.block k ?_ (fun hc => ?_)⟩
    · have h1 := h.bel.size; omega
    · obtain ⟨_, k2, _⟩ := hrowu k hc.symm
      have := h.base; omega
/-- What an append answers, from a list of the call's own, or nil. -/
theorem run_app {T E : TypeId} {z : Value} {size bytes : Nat} (hT : P.underlying T = some (.slice E)) (hi : (P.info? E).map (fun i => (i.zero, i.size, i.bytes)) = some (some z, size, bytes)) (hzs : z.cells.size = size) (hsz : 0 < size)
    {v : Value} {n : Nat} {xs : List Value} (hown : w.ownsRow u0.heap.size E size v n xs) {ad : Addr} {m c : Nat} {news : List Value} (hl : news.length = m * size) (hnews : ∀ j x, news[j]? = some x → w.cell? (ad.add j) = some x) (h1 : ∀ x ∈ news, x.oneCell' = true)
    (hm : 0 < m) (h63 : n + m ≤ maxLen) (hbytes : (n + m) * bytes ≤ 140737488355328) (hb : u0.heap.size ≤ w.heap.size) (ty : TypeId) :
    ∃ g c1 cs w', (Builtin.append_ #[T, T] ty #[v, .slice (some ad) m c]).run P w = .ok (.slice (some ⟨g, 0, none⟩) (n + m) c1) w' ∧ w'.heap[g]? = some (.cells cs E (0, 0)) ∧ n + m ≤ c1 ∧ c1 ≤ maxLen ∧ cs.toList.length = c1 * size ∧ cs.toList.take ((n + m) * size) = xs ++ news ∧
      w.grownBy w' v.ownBlock ∧ (v.ownBlock = some g ∨ g = w.heap.size) := by
  obtain ⟨i, hi1, hz, hs, hby⟩ := info_parts hi
  obtain ⟨v', w', hrun, g1, g2, g3, g4⟩ := run_append_own_at (P := P) w u0.heap.size T ty E i z size bytes hT hi1 hz hs hby hzs hsz v n xs hown ad m c news hl hnews h1 h63 hbytes hb
  rcases g1.2 with ⟨he, hn⟩ | ⟨g, cap, cur, he, hg, hh, hc, hm', hcs, ht⟩
  · omega
  · subst he
    refine ⟨g, cap, cur, w', hrun, hh, hc, hm', by simpa using hcs, ht, g2, ?_⟩
    rcases g4 with g4 | g4
    · exact .inl g4.symm
    · injection g4 with g4; exact .inr g4
theorem ev_of {x : Operand} {y : SV} (hr : RegOK S B a) (h : evO S x = some y) : a.eval x = y.conc B := ev_eval hr h
/-- append to nil, in a region in the order of its text. -/
theorem sy_app0 (d : Tmp) {T E : TypeId} {s x : Operand} {z : Value} {size bytes : Nat} {b off m c : Nat} (news : List Value) (hT : P.underlying T = some (.slice E)) (hi : (P.info? E).map (fun i => (i.zero, i.size, i.bytes)) = some (some z, size, bytes)) (hzs : z.cells.size = size) (hsz : 0 < size)
    (hl : news.length = m * size) (hnews : ∀ j v, news[j]? = some v → u.cell? ⟨b, off + j, none⟩ = some v) (h1 : ∀ v ∈ news, v.oneCell' = true) (hm : 0 < m) (h63 : m ≤ maxLen) (hbytes : m * bytes ≤ 140737488355328)
    (k : ∀ c1 cs, m ≤ c1 → c1 ≤ maxLen → cs.length = c1 * size → cs.take (m * size) = news → sym P ops w0 u0 true rest (S.own d ⟨E, cs⟩ m c1) u K)
    (hw : Wants ops o S := by exact wants0 (by kernel_rfl)) (hd : o.dst = some d := by kernel_rfl) (hop : o.op = .call { callee := .builtin .append, args := #[s, x], argTypes := #[T, T] } := by rfl) (hf : (freeB S d && (S.var d).isNone) = true := by kernel_rfl)
    (hs : evO S s = some (.v (.slice none 0 0)) := by rfl) (hx : evO S x = some (.v (.slice (some ⟨b, off, none⟩) m c)) := by rfl) : sym P ops w0 u0 true ((o, p) :: rest) S u K := by
  simp only [Bool.and_eq_true, Option.isNone_iff_eq_none] at hf
  refine .inr (.inr (.inl ⟨.inl rfl, fun B a w u' he hrep => ⟨hw B a hrep.regs, ?_⟩⟩))
  obtain ⟨g, c1, cs, w', hrun, hgv, k1, k2, k3, k4, k5, k6⟩ := run_app (P := P) (u0 := u0) (w := w) (v := .slice none 0 0) (n := 0) (xs := []) (ad := ⟨b, off, none⟩) (c := c) hT hi hzs hsz ⟨by simp, .inl ⟨rfl, rfl⟩⟩ hl (fun j v hv => by rw [addr_add]; exact hrep.dat.ext.cell (he.cell (hnews j v hv))) h1 hm (by omega) (by simpa using hbytes) (by rw [← hrep.dat.size]; exact hrep.grow.size) o.type
  rw [Nat.zero_add] at hrun k1 k4
  unfold Oper.wp execOp
  simp only [hop, resolve, invoke, builtin, Sem.run_bind, Sem.run_pure, Result.andThen_ok, List.map_toArray, List.map_cons, List.map_nil, ev_of hrep.regs hs, ev_of hrep.regs hx, SV.conc, hrun]
  have hr2 := hrep.grown (pubs := []) (fun r x t _ _ h => by cases h) (row := none) (fun b h => by cases h) k5 (d := d) (V := ⟨E, cs.toList⟩) (g := g) (n := m) (c := c1) (free_of hd hf.1 d hd).1 (.inl hf.2) (by simpa using hgv) (k6.imp (fun h => by cases h) id)
  rw [unpub_nil] at hr2
  have hsz2 : u'.heap.size ≤ w'.heap.size := by rw [hrep.dat.size]; exact k5.size
  show ∃ S' B' u'' u2, Rep w0 u0 S' B' (a.put o.dst _) w' u'' ∧ _
  rw [hd]
  exact ⟨_, _, _, u, hr2, (hide_grow hsz2).ext, Ext.refl _, he.trans (hide_grow hsz2).ext, k c1 cs.toList k1 k2 k3 (by simpa using k4)⟩
/-- append to a list of the call's own; the slots and lists in pubs are given up. -/
theorem sy_app1 (d : Tmp) {T E : TypeId} {s x : Operand} {z : Value} {size bytes : Nat} {b off m c t n cap : Nat} {cs0 : List Value} (pubs : List Tmp) (news : List Value) (hT : P.underlying T = some (.slice E)) (hi : (P.info? E).map (fun i => (i.zero, i.size, i.bytes)) = some (some z, size, bytes)) (hzs : z.cells.size = size) (hsz : 0 < size)
    (hl : news.length = m * size) (hnews : ∀ j v, news[j]? = some v → u.cell? ⟨b, off + j, none⟩ = some v) (h1 : ∀ v ∈ news, v.oneCell' = true) (hm : 0 < m) (h63 : n + m ≤ maxLen) (hbytes : (n + m) * bytes ≤ 140737488355328)
    (hn : n ≤ cap) (hcap : cap ≤ maxLen) (hcl : cs0.length = cap * size) (hno : NoAt S pubs)
    (k : ∀ c1 cs, n + m ≤ c1 → c1 ≤ maxLen → cs.length = c1 * size → cs.take ((n + m) * size) = cs0.take (n * size) ++ news → sym P ops w0 u0 true rest ((S.unpub pubs).own d ⟨E, cs⟩ (n + m) c1) u K)
    (hw : Wants ops o S := by exact wants0 (by kernel_rfl)) (hd : o.dst = some d := by kernel_rfl) (hop : o.op = .call { callee := .builtin .append, args := #[s, x], argTypes := #[T, T] } := by rfl) (hf : (Nat.blt d S.n && ((S.var d).isNone || pubs.contains d) && pubs.contains t && Nat.blt t S.n) = true := by kernel_rfl)
    (hs : evO S s = some (.slc t 0 n cap) := by rfl) (hv : S.var t = some ⟨E, cs0⟩ := by rfl) (hx : evO S x = some (.v (.slice (some ⟨b, off, none⟩) m c)) := by rfl) : sym P ops w0 u0 true ((o, p) :: rest) S u K := by
  simp only [Bool.and_eq_true, Bool.or_eq_true, Option.isNone_iff_eq_none, List.contains_iff_mem] at hf
  refine .inr (.inr (.inl ⟨.inl rfl, fun B a w u' he hrep => ⟨hw B a hrep.regs, ?_⟩⟩))
  have htn : t < S.n := Nat.le_of_ble_eq_true hf.2
  obtain ⟨v1, v2, v3⟩ := hrep.var t _ hv
  have v3 := v3.1 htn
  obtain ⟨g, c1, cs, w', hrun, hgv, k1, k2, k3, k4, k5, k6⟩ := run_app (P := P) (u0 := u0) (w := w) (v := .slice (some ⟨B t, 0, none⟩) n cap) (n := n) (xs := cs0.take (n * size)) (ad := ⟨b, off, none⟩) (c := c) hT hi hzs hsz
    ⟨by rw [List.length_take, hcl]; exact Nat.min_eq_left (Nat.mul_le_mul_right _ hn), .inr ⟨B t, cap, cs0.toArray, rfl, v3, v1, hn, hcap, by simpa using hcl, by simp⟩⟩ hl (fun j v hv => by rw [addr_add]; exact hrep.dat.ext.cell (he.cell (hnews j v hv))) h1 hm h63 hbytes (by rw [← hrep.dat.size]; exact hrep.grow.size) o.type
  unfold Oper.wp execOp
  simp only [hop, resolve, invoke, builtin, Sem.run_bind, Sem.run_pure, Result.andThen_ok, List.map_toArray, List.map_cons, List.map_nil, ev_of hrep.regs hs, ev_of hrep.regs hx, SV.conc, hrun]
  have hr2 := hrep.grown hno (row := some (B t)) (fun b h => by injection h with h; exact ⟨t, hf.1.2, htn, _, hv, h⟩) k5 (d := d) (V := ⟨E, cs.toList⟩) (g := g) (n := n + m) (c := c1) (Nat.le_of_ble_eq_true hf.1.1.1) hf.1.1.2 (by simpa using hgv) k6
  have hsz2 : u'.heap.size ≤ w'.heap.size := by rw [hrep.dat.size]; exact k5.size
  show ∃ S' B' u'' u2, Rep w0 u0 S' B' (a.put o.dst _) w' u'' ∧ _
  rw [hd]
  exact ⟨_, _, _, u, hr2, (hide_grow hsz2).ext, Ext.refl _, he.trans (hide_grow hsz2).ext, k c1 cs.toList k1 k2 k3 k4⟩
/-- make. -/
theorem sy_make (d : Tmp) {T E : TypeId} {x y : Operand} {z : Value} {size bytes : Nat} {k1 k2 : IntKind} {i j : Int} (n : Nat) (cs : List Value) (hT : P.underlying T = some (.slice E)) (hi : (P.info? E).map (fun i => (i.zero, i.size, i.bytes)) = some (some z, size, bytes)) (hn : i = n) (hn2 : j = n) (hb : bytes * n ≤ 281474976710656) (h63 : n ≤ maxLen) (hcs : (madeCells z.cells (n * size)).toList = cs)
    (k : sym P ops w0 u0 seq rest (S.lit d ⟨E, cs⟩ n) u K) (hw : Wants ops o S := by exact wants0 (by kernel_rfl)) (hd : o.dst = some d := by kernel_rfl) (hop : o.op = .makeSlice T x y := by rfl) (hf : freeB S d = true := by kernel_rfl) (hv : S.var d = none := by kernel_rfl)
    (hx : evO S x = some (.v (.int k1 i)) := by rfl) (hy : evO S y = some (.v (.int k2 j)) := by rfl) : sym P ops w0 u0 seq ((o, p) :: rest) S u K := by
  obtain ⟨inf, hi1, hz, hs, hby⟩ := info_parts hi
  subst hcs hn hn2
  refine .inl ⟨by rw [hop]; exact (by decide : (0 : Nat) ≠ 2), (.lit ⟨E, (madeCells z.cells (n * size)).toList⟩ n), ⟨free_of hd hf, d, hd, hv, fun B a w hr => ⟨hw B a hr, ?_⟩⟩, ?_⟩
  · have h63' : (n : Int) ≤ 9223372036854775807 := by unfold maxLen at h63; omega
    have hb' : (inf.bytes : Int) * (n : Int) ≤ 281474976710656 := by
      have h : ((inf.bytes * n : Nat) : Int) ≤ 281474976710656 := by rw [hby]; omega
      rwa [Int.natCast_mul] at h
    have hrun := run_make (P := P) w T E inf z hT hi1 hz k1 k2 n n (by omega) (Int.le_refl _) hb' h63'
    have e1 : (execOp a.eval o).run P w = (do pure (Next.value (← Instr.makeSlice T (a.eval x) (a.eval y))) : Sem Next).run P w := by unfold execOp; rw [hop]
    rw [e1, ev_of hr hx, ev_of hr hy]
    rw [hs] at hrun
    exact run_val (by simpa [SV.conc] using hrun)
  · show sym P ops w0 u0 seq rest (S.app o.dst (.lit ⟨E, (madeCells z.cells (n * size)).toList⟩ n)) u K
    rw [hd]; exact k
/-- An element of a list of the call's own: its address. -/
theorem sy_idxO (d : Tmp) {T : TypeId} {r t : Tmp} {ix : Operand} {off n c sz off' : Nat} {kk : IntKind} {i : Int} (hT : SlIs P T sz) (h0 : 0 ≤ i) (h1 : i < n) (ho : off + i.toNat * sz = off') (k : sym P ops w0 u0 seq rest (S.set d (.adr t off')) u K) (hw : Wants ops o S := by exact wants0 (by kernel_rfl)) (hd : o.dst = some d := by kernel_rfl) (hop : o.op = .indexAddr T (.tmp r) ix := by rfl) (hf : freeB S d = true := by kernel_rfl)
    (hx : S.reg r = some (.slc t off n c) := by rfl) (hi : evO S ix = some (.v (.int kk i)) := by rfl) : sym P ops w0 u0 seq ((o, p) :: rest) S u K := by
  subst ho
  have hl : r ∈ o.looksAt ops := List.mem_append_left _ (List.mem_filterMap.2 ⟨.tmp r, by rw [hop]; simp [Op.operands], rfl⟩)
  refine .inl ⟨by rw [hop]; exact (by decide : (0 : Nat) ≠ 2), .set (.adr t (off + i.toNat * sz)), ⟨free_of hd hf, .inl ⟨(fun s hs => ⟨r, hl, _, hx, hs⟩), fun B a w u' hr he hdt => ⟨hw B a hr, ?_⟩⟩⟩, ?_⟩
  · have e1 : (execOp a.eval o).run P w = (do pure (Next.value (← Instr.indexAt T (a.eval (.tmp r)) (a.eval ix))) : Sem Next).run P w := by unfold execOp; rw [hop]
    rw [e1, hr.eval hx, ev_of hr hi]
    exact run_val (run_index hT h0 h1)
  · show sym P ops w0 u0 seq rest (S.put o.dst (some _)) u K
    rw [hd]; exact k
/-- A store of an element into a list of the call's own. -/
theorem sy_storeO {T : TypeId} {r s : Tmp} {z : Operand} {off : Nat} {V : Vr} (cs' : List Value) {v : Value} {agg : Bool} {n : Nat} (hT : TyIs P T agg n) (hle : off + n ≤ V.cs.length) (hV : setL V.cs off v.cells.toList = cs') (k : sym P ops w0 u0 seq rest (S.setVar s ⟨V.ty, cs'⟩) u K) (hw : Wants ops o S := by exact wants0 (by kernel_rfl)) (hd : o.dst = none := by kernel_rfl) (hop : o.op = .store T (.tmp r) z := by rfl) (hr : S.reg r = some (.adr s off) := by rfl) (hv : S.var s = some V := by rfl) (hz : evO S z = some (.v v) := by rfl)
    (hn : v.cells.size = n := by kernel_rfl) (hone : v.cells.toList.all Value.oneCell' = true := by kernel_rfl) (hnl : (p.all fun r' => match S.reg r' with | some (.adr t _) => !Nat.beq t s | _ => true) = true := by kernel_rfl) : sym P ops w0 u0 seq ((o, p) :: rest) S u K := by
  subst hV
  refine .inr (.inr (.inr ⟨s, _, ⟨T, r, z, off, V, v, agg, n, hop, hd, hr, hv, fun B a hreg => ?_, hT, hn, hone, hle, rfl, hw, fun r' hr' t off' ht => ?_⟩, k⟩))
  · cases z with
    | tmp t => exact hreg.eval hz
    | const x => injection hz with hz; injection hz
    | global g => injection hz with hz; injection hz
    | func f => injection hz with hz; injection hz
  · have := List.all_eq_true.1 hnl r' hr'
    simp only [ht, Bool.not_eq_true'] at this
    rintro rfl
    rw [Nat.beq_refl] at this; cases this
/-- A list of the call's own becomes data. -/
theorem Rep.pub (h : Rep w0 u0 S B a w u) {r t : Tmp} {off n c : Nat} {V : Vr} {pubs : List Tmp} (hno : NoAt S pubs) (ht : t ∈ pubs) (hall : ∀ s ∈ pubs, ∀ V', S.var s = some V' → s = t) (hr : S.reg r = some (.slc t off n c)) (hv : S.var t = some V) (htn : t < S.n) :
    Rep w0 u0 ((S.unpub pubs).set r (.v (.slice (some ⟨B t, off, none⟩) n c))) B a w (pubW u w [B t]) := by
  refine ⟨⟨fun s x hx => ?_, h.regs.size⟩, ⟨fun s x t' hx ht' => ?_⟩, h.defers, fun s V' hV => ?_, fun s s' V1 V2 h1 h2 e => ?_, pubW_dat h.dat, h.base, pubW_grow h.grow (fun b hb => ?_), h.bel⟩
  · by_cases e : s = r
    · subst e
      simp only [St.set, upd_same] at hx
      injection hx with hx
      subst hx
      exact h.regs.reg s (.slc t off n c) hr
    · simp only [St.set, upd_ne _ _ e] at hx
      exact h.regs.reg s x (unpub_spec_reg hx).1
  · by_cases e : s = r
    · subst e
      simp only [St.set, upd_same] at hx
      injection hx with hx
      subst hx; cases ht'
    · simp only [St.set, upd_ne _ _ e] at hx
      obtain ⟨k1, k2⟩ := unpub_spec_reg hx
      obtain ⟨V', hV'⟩ := h.wf.reg s x t' k1 ht'
      exact ⟨V', by show (S.unpub pubs).var t' = _; rw [unpub_var (fun hm => k2 (hno s x t' k1 ht' hm))]; exact hV'⟩
  · obtain ⟨k1, k2⟩ := unpub_spec_var hV
    obtain ⟨g1, g2, g3⟩ := h.var s V' k1
    refine ⟨g1, ?_, g3⟩
    rw [pubW_out]
    · exact g2
    · intro hm
      simp at hm
      exact k2 (h.inj s t V' V k1 hv hm ▸ ht)
  · exact h.inj s s' V1 V2 (unpub_spec_var h1).1 (unpub_spec_var h2).1 e
  · simp at hb; subst hb; exact (h.var t V hv).2.2.1 htn
theorem sw_pub {c0 : Code} {Q : MP} {r t : Tmp} {off n c : Nat} {V : Vr} (pubs : List Tmp) (hno : NoAt S pubs) (hall : (pubs.all fun s => Nat.beq s t || (S.var s).isNone) = true) (hr : S.reg r = some (.slc t off n c)) (hv : S.var t = some V) (ht : pubs.contains t = true)
    (k : ∀ b u1, Ext u u1 → u0.heap.size ≤ b → u1.heap[b]? = some (.cells V.cs.toArray V.ty (0, 0)) → SW P w0 u0 c0 ((S.unpub pubs).set r (.v (.slice (some ⟨b, off, none⟩) n c))) u1 Q) (hlt : Nat.blt t S.n = true := by kernel_rfl) : SW P w0 u0 c0 S u Q := by
  intro B a w u' e hrep
  have hm := List.contains_iff_mem.1 ht
  obtain ⟨g1, g2, g3⟩ := hrep.var t V hv
  have hx : Ext u' (pubW u' w [B t]) := pubW_ext hrep.dat
  have hrep2 := hrep.pub hno hm (fun s hs V' hV' => by
    have := List.all_eq_true.1 hall s hs
    simp only [Bool.or_eq_true, Option.isNone_iff_eq_none] at this
    rcases this with h | h
    · exact Nat.eq_of_beq_eq_true h
    · rw [hV'] at h; cases h) hr hv (Nat.le_of_ble_eq_true hlt)
  exact k (B t) (pubW u' w [B t]) (e.trans hx) (g3.1 (Nat.le_of_ble_eq_true hlt)) (by rw [pubW_in (by simp) (lt_of_get g2) hrep.dat.size]; exact g1) B a w _ (Ext.refl _) hrep2
/-- u with block b hidden. -/
def hideB (u : World) (b : Nat) : World := { u with heap := u.heap.setIfInBounds b hidO }
theorem hideB_size (u : World) (b : Nat) : (hideB u b).heap.size = u.heap.size := by simp [hideB]
theorem hideB_ne {b k : Nat} (h : k ≠ b) : (hideB u b).heap[k]? = u.heap[k]? := by simp only [hideB]; rw [Array.getElem?_setIfInBounds_ne (Ne.symm h)]
theorem hideB_eq {b : Nat} (h : b < u.heap.size) : (hideB u b).heap[b]? = some hidO := by simp [hideB, h]
/-- All but block b. -/
structure ExtB (b : Nat) (u u' : World) : Prop where
  size : u.heap.size ≤ u'.heap.size
  vis : ∀ (k : Nat) (o : Obj), k ≠ b → u.heap[k]? = some o → o ≠ hidO → u'.heap[k]? = some o
theorem ExtB.ext {b : Nat} {u2 : World} (h : ExtB b u u') (e : Ext u' u2) : ExtB b u u2 := ⟨Nat.le_trans h.size e.size, fun k o hk ho hh => e.vis k o (h.vis k o hk ho hh) hh⟩
/-- What lay there before block b was made stays. -/
theorem ExtB.old {b : Nat} {v : World} (h : ExtB b u u') (e : Ext v u) (hb : v.heap.size ≤ b) : Ext v u' :=
  ⟨Nat.le_trans e.size h.size, fun k o hk hh => h.vis k o (fun e => by have := lt_of_get hk; omega) (e.vis k o hk hh) hh⟩
/-- A list of data, made since the call began, becomes the call's own. -/
theorem sw_adopt {c0 : Code} {Q : MP} {r k : Tmp} {n c b : Nat} {cs : List Value} {ty : TypeId} (hr : S.reg r = some (.v (.slice (some ⟨b, 0, none⟩) n c))) (hb : u.heap[b]? = some (.cells cs.toArray ty (0, 0))) (hb0 : u0.heap.size ≤ b) (hk : S.var k = none)
    (kk : ∀ u1, ExtB b u u1 → SW P w0 u0 c0 ⟨S.n, upd S.reg r (some (.slc k 0 n c)), upd S.var k (some ⟨ty, cs⟩)⟩ u1 Q) (hkn : Nat.blt k S.n = true := by kernel_rfl) : SW P w0 u0 c0 S u Q := by
  intro B a w u' e hrep
  have hbu : u'.heap[b]? = some (.cells cs.toArray ty (0, 0)) := e.cells hb
  have hbw : w.heap[b]? = some (.cells cs.toArray ty (0, 0)) := hrep.dat.ext.cells hbu
  have hlt := lt_of_get hbu
  have hno : ∀ s x, S.reg s = some x → x.at? ≠ some k := fun s x hx hc => by
    obtain ⟨V, hV⟩ := hrep.wf.reg s x k hx hc; rw [hk] at hV; cases hV
  have hBt : ∀ t V, S.var t = some V → B t ≠ b := fun t V hV hc => by
    have := (hrep.var t V hV).2.1
    rw [hc, hbu] at this
    injection this with this
    unfold hidO at this; cases this
  have hex : ExtB b u (hideB u' b) := ⟨by rw [hideB_size]; exact e.size, fun k' o hk' ho hh => by rw [hideB_ne hk']; exact e.vis k' o ho hh⟩
  refine kk (hideB u' b) hex (setB B k b) a w _ (Ext.refl _) ⟨⟨fun s x hx => ?_, hrep.regs.size⟩, ⟨fun s x t hx ht => ?_⟩, hrep.defers, fun t V hV => ?_, fun t t' V1 V2 h1 h2 he => ?_, ⟨by rw [hideB_size]; exact hrep.dat.size, fun b' o hb' hh => ?_⟩, hrep.base, ⟨by rw [hideB_size]; exact hrep.grow.size, fun b' hb' => ?_⟩, hrep.bel⟩
  · by_cases e1 : s = r
    · subst e1
      simp only [upd_same] at hx
      injection hx with hx
      subst hx
      have := hrep.regs.reg s _ hr
      simpa [SV.conc, setB] using this
    · simp only [upd_ne _ _ e1] at hx
      rw [conc_setB (hno s x hx)]
      exact hrep.regs.reg s x hx
  · show ∃ V, upd S.var k (some ⟨ty, cs⟩) t = some V
    by_cases e2 : t = k
    · subst e2; exact ⟨_, upd_same _ _ _⟩
    · rw [upd_ne _ _ e2]
      by_cases e1 : s = r
      · subst e1
        simp only [upd_same] at hx
        injection hx with hx
        subst hx
        injection ht with ht; exact absurd ht.symm e2
      · simp only [upd_ne _ _ e1] at hx
        exact hrep.wf.reg s x t hx ht
  · by_cases e2 : t = k
    · subst e2
      simp only [upd_same] at hV
      injection hV with hV
      subst hV
      rw [show setB B t b t = b by simp [setB]]
      exact ⟨hbw, hideB_eq hlt, .mk0 (Nat.le_of_ble_eq_true hkn) hb0⟩
    · simp only [upd_ne _ _ e2] at hV
      obtain ⟨g1, g2, g3⟩ := hrep.var t V hV
      rw [show setB B k b t = B t by simp [setB, e2]]
      exact ⟨g1, by rw [hideB_ne (hBt t V hV)]; exact g2, g3⟩
  · by_cases e1 : t = k
    · by_cases e2 : t' = k
      · rw [e1, e2]
      · simp only [upd_ne _ _ e2] at h2
        simp [setB, e1, e2] at he
        exact absurd he.symm (hBt t' V2 h2)
    · simp only [upd_ne _ _ e1] at h1
      by_cases e2 : t' = k
      · simp [setB, e1, e2] at he
        exact absurd he (hBt t V1 h1)
      · simp only [upd_ne _ _ e2] at h2
        simp [setB, e1, e2] at he
        exact hrep.inj t t' V1 V2 h1 h2 he
  · by_cases e1 : b' = b
    · subst e1
      rw [hideB_eq hlt] at hb'; injection hb' with hb'; exact absurd hb'.symm hh
    · rw [hideB_ne e1] at hb'; exact hrep.dat.vis b' o hb' hh
  · rw [hideB_ne (by omega)]; exact hrep.grow.old b' hb'
/-- Behind a call that was lent the list in slot t. -/
theorem Rep.lentBack (h : Rep w0 u0 S B a w u) {t : Tmp} {V V' : Vr} (hv : S.var t = some V) (hd : Dat u' w') (hb : Bel ⟨w, some (0, B t)⟩ w') (hg : Grow u u') (hw : w'.heap[B t]? = some (.cells V'.cs.toArray V'.ty (0, 0))) {d : Option Tmp} (hfd : ∀ s, d = some s → s < S.n) (v : Value) :
    Rep w0 u0 ((S.setVar t V').put d (some (.v v))) B (a.put d v) w' u' := by
  obtain ⟨v1, v2, v3⟩ := h.var t V hv
  have hwf : (S.setVar t V').Wf := ⟨fun r x s hx hs => by
    obtain ⟨V1, hV1⟩ := h.wf.reg r x s hx hs
    by_cases e : s = t
    · subst e; exact ⟨V', upd_same _ _ _⟩
    · exact ⟨V1, by show upd S.var t (some V') s = _; rw [upd_ne _ _ e]; exact hV1⟩⟩
  have key : ∀ s V1, (S.setVar t V').var s = some V1 → ∃ V2, S.var s = some V2 := fun s V1 hV => by
    by_cases e : s = t
    · exact ⟨V, by rw [e]; exact hv⟩
    · simp only [St.setVar, upd_ne _ _ e] at hV; exact ⟨V1, hV⟩
  have hbs := h.bel
  refine ⟨regOK_put (S := S.setVar t V') ⟨h.regs.reg, h.regs.size⟩ hfd (fun z e => by injection e with e; rw [← e]; rfl), wf_put hwf (fun z t e ht => by injection e with e; rw [← e] at ht; cases ht), by rw [put_defers]; exact h.defers, ?_, ?_, hd, h.base, h.grow.trans hg, ?_⟩
  · rw [put_var, put_n]
    intro s V1 hV1
    by_cases e : s = t
    · subst e
      simp only [St.setVar, upd_same] at hV1
      injection hV1 with hV1
      subst hV1
      exact ⟨hw, by rw [hg.old _ (lt_of_get v2)]; exact v2, v3⟩
    · simp only [St.setVar, upd_ne _ _ e] at hV1
      obtain ⟨g1, g2, g3⟩ := h.var s V1 hV1
      refine ⟨?_, by rw [hg.old _ (lt_of_get g2)]; exact g2, g3⟩
      rw [hb.block _ (lt_of_get g1) (fun q hq => ?_)]
      · exact g1
      · injection hq with hq; injection hq with _ hq
        exact e (h.inj s t V1 V hV1 hv hq.symm)
  · rw [put_var]
    intro s s' V1 V2 h1 h2 e
    obtain ⟨X, hX⟩ := key s V1 h1
    obtain ⟨Y, hY⟩ := key s' V2 h2
    exact h.inj s s' X Y hX hY e
  · refine ⟨hb.os.trans hbs.os, hb.tape.trans hbs.tape, hb.output.trans hbs.output, Nat.le_trans hbs.size hb.size, fun k hk hl => ?_⟩
    rw [hb.block k (Nat.lt_of_lt_of_le hk hbs.size) (fun q hq => ?_)]
    · exact hbs.block k hk hl
    · injection hq with hq; injection hq with _ hq
      subst hq
      rcases Nat.lt_or_ge t S.n with hs3 | hs3
      · have h3 := v3.1 hs3
        rw [h.base] at h3
        omega
      · exact hl _ (v3.2 hs3)
/-- A call that is lent a list of the call's own, in a region in the order of its text. -/
theorem sy_lend (d : Tmp) (f : FuncId) {t len cap : Nat} {V : Vr} (args : List Value) {Φ : Vr → World → Prop} (hv : S.var t = some V)
    (kc : ∀ g w u1, Ext u u1 → Dat u1 w → w.heap[g]? = some (.cells V.cs.toArray V.ty (0, 0)) → u1.heap[g]? = some hidO → Calls P f (Value.slice (some ⟨g, 0, none⟩) len cap :: args).toArray w (PostL u1 w g Φ))
    (k : ∀ V' u1, Ext u u1 → Φ V' u1 → sym P ops w0 u0 true rest ((S.setVar t V').set d (.v (.tuple #[]))) u1 K)
    (hw : Wants ops o S := by exact wants0 (by kernel_rfl)) (hd : o.dst = some d := by kernel_rfl) (hf : (freeB S d && knownB S o) = true := by kernel_rfl) (hk : opK o.op ≠ 2 := by decide)
    (hrun : ∀ B w, (execOp (rho S B) o).run P w = .ok (.enter f (Value.slice (some ⟨B t, 0, none⟩) len cap :: args).toArray) w := by intro _ _; kernel_rfl) : sym P ops w0 u0 true ((o, p) :: rest) S u K := by
  simp only [Bool.and_eq_true] at hf
  refine .inr (.inr (.inl ⟨.inl rfl, fun B a w u' he hrep => ⟨hw B a hrep.regs, ?_⟩⟩))
  obtain ⟨v1, v2, v3⟩ := hrep.var t V hv
  unfold Oper.wp
  rw [exec_rho hrep.regs hf.2 hk, hrun B w]
  simp only [Oper.upon]
  refine Calls.mono (kc (B t) w u' he hrep.dat v1 v2) ?_
  rintro e w' ⟨u2, V', rfl, k1, k2, k3, k4, k5⟩
  have hr2 := hrep.lentBack hv k1 k2 k3 k4 (d := o.dst) (fun s hs => (free_of hd hf.1 s hs).1) (.tuple #[])
  refine ⟨_, B, u2, u2, hr2, k3.ext, he.trans k3.ext, Ext.refl _, ?_⟩
  have := k V' u2 (he.trans k3.ext) k5
  rw [hd]; exact this
theorem Rep.lentBackS (h : Rep w0 u0 S B a w u) {t : Tmp} {V V' : Vr} (hv : S.var t = some V) (hd : Dat u' w') (hb : Bel ⟨w, some (0, B t)⟩ w') (hg : Grow u u') (hw : w'.heap[B t]? = some (.cells V'.cs.toArray V'.ty (0, 0))) {d : Option Tmp} (hfd : ∀ s, d = some s → s < S.n) (m cap : Nat) :
    Rep w0 u0 ((S.setVar t V').put d (some (.slc t 0 m cap))) B (a.put d (.slice (some ⟨B t, 0, none⟩) m cap)) w' u' := by
  have h1 := h.lentBack hv hd hb hg hw (d := none) (fun s hs => by cases hs) undef
  have h2 : Rep w0 u0 (S.setVar t V') B a w' u' := h1
  exact h2.set (fun s hs => hfd s hs) (fun z e => by injection e with e; subst e; rfl) (fun z s e hs => by injection e with e; subst e; injection hs with hs; subst hs; exact ⟨V', upd_same _ _ _⟩)
/-- The same for a call that answers the front of the list. -/
theorem sy_lendS (d : Tmp) (f : FuncId) {t len cap : Nat} {V : Vr} (args : List Value) {Φ : Nat → Vr → World → Prop} (hv : S.var t = some V)
    (kc : ∀ g w u1, Ext u u1 → Dat u1 w → w.heap[g]? = some (.cells V.cs.toArray V.ty (0, 0)) → u1.heap[g]? = some hidO → Calls P f (Value.slice (some ⟨g, 0, none⟩) len cap :: args).toArray w (PostS u1 w g cap Φ))
    (k : ∀ m V' u1, Ext u u1 → Φ m V' u1 → sym P ops w0 u0 true rest ((S.setVar t V').set d (.slc t 0 m cap)) u1 K)
    (hw : Wants ops o S := by exact wants0 (by kernel_rfl)) (hd : o.dst = some d := by kernel_rfl) (hf : (freeB S d && knownB S o) = true := by kernel_rfl) (hk : opK o.op ≠ 2 := by decide)
    (hrun : ∀ B w, (execOp (rho S B) o).run P w = .ok (.enter f (Value.slice (some ⟨B t, 0, none⟩) len cap :: args).toArray) w := by intro _ _; kernel_rfl) : sym P ops w0 u0 true ((o, p) :: rest) S u K := by
  simp only [Bool.and_eq_true] at hf
  refine .inr (.inr (.inl ⟨.inl rfl, fun B a w u' he hrep => ⟨hw B a hrep.regs, ?_⟩⟩))
  obtain ⟨v1, v2, v3⟩ := hrep.var t V hv
  unfold Oper.wp
  rw [exec_rho hrep.regs hf.2 hk, hrun B w]
  simp only [Oper.upon]
  refine Calls.mono (kc (B t) w u' he hrep.dat v1 v2) ?_
  rintro e w' ⟨u2, V', m, rfl, k1, k2, k3, k4, k5⟩
  have hr2 := hrep.lentBackS hv k1 k2 k3 k4 (d := o.dst) (fun s hs => (free_of hd hf.1 s hs).1) m cap
  refine ⟨_, B, u2, u2, hr2, k3.ext, he.trans k3.ext, Ext.refl _, ?_⟩
  have := k m V' u2 (he.trans k3.ext) k5
  rw [hd]; exact this
/-- A slot that held an address is written anew, in a region in the order of its text. -/
theorem sy_over (d : Tmp) (x : SV) (k : sym P ops w0 u0 true rest (S.set d x) u K) (hw : Wants ops o S := by exact wants0 (by kernel_rfl)) (hd : o.dst = some d := by kernel_rfl) (hk : opK o.op ≠ 2 := by decide) (hf : (Nat.blt d S.n && knownB S o && fromB ops o S x) = true := by kernel_rfl)
    (hrun : ∀ B w, (execOp (rho S B) o).run P w = .ok (.value (x.conc B)) w := by intro _ _; kernel_rfl) : sym P ops w0 u0 true ((o, p) :: rest) S u K := by
  simp only [Bool.and_eq_true] at hf
  refine .inr (.inr (.inl ⟨.inl rfl, fun B a w u' he hrep => ⟨hw B a hrep.regs, ?_⟩⟩))
  unfold Oper.wp
  rw [exec_rho hrep.regs hf.1.2 hk, hrun B w]
  simp only [Oper.upon]
  have hr2 := hrep.set (d := o.dst) (x := some x) (v := x.conc B) (fun s hs => by rw [hd] at hs; injection hs with hs; subst hs; exact Nat.le_of_ble_eq_true hf.1.1) (fun z e => by injection e with e; rw [e]) (fun z t e ht => by injection e with e; subst e; exact (from_of hf.2).wf hrep.wf t ht)
  refine ⟨_, B, u', u, hr2, Ext.refl _, Ext.refl _, he, ?_⟩
  rw [hd]; exact k
end
end Go.Proofs.YtnedhbidmfoegaaGreat
namespace Go.Proofs.YtnedhbidmfoegaaGreat
open Go.RowKit
set_option linter.unusedVariables false
theorem eqI {k : IntKind} {x y : Int} (h : x = y) : SV.v (.int k x) = SV.v (.int k y) := by rw [h]
/-- The front p[:m] of a slice of data. -/
theorem sy_front {P : Program} {ops : Array Oper} {w0 : Base} {u0 : World} {S : St} {u : World} {o : Oper} {p : List Tmp} {seq : Bool} {rest : List (Oper × List Tmp)} {K : St → World → Prop} (d : Tmp) {T : TypeId} {x h : Operand} {A : Option Addr} {n c : Nat} {k : IntKind} {i : Int} (m : Nat) {sz : Nat} (hT : SlIs P T sz) (hi : i = m) (hm : m ≤ c)
    (kk : sym P ops w0 u0 seq rest (S.set d (.v (.slice A m c))) u K) (hw : Wants ops o S := by exact wants0 (by kernel_rfl)) (hd : o.dst = some d := by kernel_rfl) (hop : o.op = .slice T x none (some h) none := by rfl) (hf : freeB S d = true := by kernel_rfl)
    (hx : evO S x = some (.v (.slice A n c)) := by rfl) (hh : evO S h = some (.v (.int k i)) := by rfl) : sym P ops w0 u0 seq ((o, p) :: rest) S u K := by
  subst hi
  obtain ⟨E, agg, hu, hE⟩ := hT
  refine .inl ⟨by rw [hop]; exact (by decide : (0 : Nat) ≠ 2), .set (.v (.slice A m c)), ⟨free_of hd hf, .inl ⟨(fun t ht => by cases ht), fun B a w u' hr he hdt => ⟨hw B a hr, ?_⟩⟩⟩, ?_⟩
  · have e1 : (execOp a.eval o).run P w = (do pure (Next.value (← Instr.sliceAt T (a.eval x) none (some (a.eval h)) none)) : Sem Next).run P w := by unfold execOp; rw [hop]; rfl
    rw [e1, ev_eval hr hx, ev_eval hr hh]
    refine run_val ?_
    show (Instr.sliceAt T (.slice A n c) none (some (.int k m)) none).run P w = .ok (.slice A m c) w
    have hs := (hE w).2
    simp [Instr.sliceAt, Instr.slice, Instr.sliceBounds, Instr.sliceBound, asIntOf, run_underlying hu, go_sem, hs, hm]
  · show sym P ops w0 u0 seq rest (S.put o.dst (some _)) u K
    rw [hd]; exact kk
/-- The front of a list of the call's own. -/
theorem sy_frontO {P : Program} {ops : Array Oper} {w0 : Base} {u0 : World} {S : St} {u : World} {o : Oper} {p : List Tmp} {seq : Bool} {rest : List (Oper × List Tmp)} {K : St → World → Prop} (d : Tmp) {T : TypeId} {r t : Tmp} {h : Operand} {n c : Nat} {k : IntKind} {i : Int} (m : Nat) {sz : Nat} (hT : SlIs P T sz) (hi : i = m) (hm : m ≤ c)
    (kk : sym P ops w0 u0 seq rest (S.set d (.slc t 0 m c)) u K) (hw : Wants ops o S := by exact wants0 (by kernel_rfl)) (hd : o.dst = some d := by kernel_rfl) (hop : o.op = .slice T (.tmp r) none (some h) none := by rfl) (hf : freeB S d = true := by kernel_rfl)
    (hx : S.reg r = some (.slc t 0 n c) := by rfl) (hh : evO S h = some (.v (.int k i)) := by rfl) : sym P ops w0 u0 seq ((o, p) :: rest) S u K := by
  subst hi
  obtain ⟨E, agg, hu, hE⟩ := hT
  have hl : r ∈ o.looksAt ops := List.mem_append_left _ (List.mem_filterMap.2 ⟨.tmp r, by rw [hop]; simp [Op.operands], rfl⟩)
  refine .inl ⟨by rw [hop]; exact (by decide : (0 : Nat) ≠ 2), .set (.slc t 0 m c), ⟨free_of hd hf, .inl ⟨(fun s hs => ⟨r, hl, _, hx, hs⟩), fun B a w u' hr he hdt => ⟨hw B a hr, ?_⟩⟩⟩, ?_⟩
  · have e1 : (execOp a.eval o).run P w = (do pure (Next.value (← Instr.sliceAt T (a.eval (.tmp r)) none (some (a.eval h)) none)) : Sem Next).run P w := by unfold execOp; rw [hop]; rfl
    rw [e1, hr.eval hx, ev_eval hr hh]
    refine run_val ?_
    show (Instr.sliceAt T (.slice (some ⟨B t, 0, none⟩) n c) none (some (.int k m)) none).run P w = .ok (.slice (some ⟨B t, 0, none⟩) m c) w
    have hs := (hE w).2
    simp [Instr.sliceAt, Instr.slice, Instr.sliceBounds, Instr.sliceBound, asIntOf, run_underlying hu, go_sem, hs, hm]
  · show sym P ops w0 u0 seq rest (S.put o.dst (some _)) u K
    rw [hd]; exact kk
/-- The zero value of a rational. -/
def rl0 : RL := ⟨false, ⟨none, 0, 0⟩, ⟨none, 0, 0⟩⟩
/-- The cells of a list of rationals. -/
def rcs (L : List RL) : List Value := L.flatMap RL.cs
section
variable {u u' w w' : World} {L M : List RL} {r : RL} {l m : List Rat} {q : Rat} {K K' n i c b off : Nat} {x y : Sl}
theorem rcs_cons : rcs (r :: L) = r.cs ++ rcs L := rfl
theorem rcs_app : rcs (L ++ M) = rcs L ++ rcs M := by simp [rcs]
theorem rcs_len : (rcs L).length = L.length * 3 := by
  induction L with
  | nil => rfl
  | cons r L ih => rw [rcs_cons, List.length_append, ih, List.length_cons]; simp [RL.cs]; omega
theorem rcs_one : (rcs L).all Value.oneCell' = true := by
  induction L with
  | nil => rfl
  | cons r L ih => rw [rcs_cons, List.all_append, ih]; rfl
theorem rcs_drop (n : Nat) : (rcs L).drop (n * 3) = rcs (L.drop n) := by
  induction n generalizing L with
  | zero => simp
  | succ n ih =>
    cases L with
    | nil => simp [rcs]
    | cons r L => rw [rcs_cons, show (n + 1) * 3 = r.cs.length + n * 3 by simp [RL.cs]; omega, List.drop_append, Nat.add_sub_cancel_left, ih, List.drop_of_length_le (by omega)]; simp
theorem rcs_take (n : Nat) : (rcs L).take (n * 3) = rcs (L.take n) := by
  induction n generalizing L with
  | zero => simp [rcs]
  | succ n ih =>
    cases L with
    | nil => simp [rcs]
    | cons r L => rw [rcs_cons, show (n + 1) * 3 = r.cs.length + n * 3 by simp [RL.cs]; omega, List.take_append, Nat.add_sub_cancel_left, ih, List.take_of_length_le (by omega)]; simp [rcs_cons]
theorem rcs_get (h : i < L.length) : ((rcs L).drop (i * 3)).take 3 = (L.getD i rl0).cs := by
  rw [rcs_drop, List.drop_eq_getElem_cons h, rcs_cons]
  have : (L[i].cs).length = 3 := rfl
  rw [List.take_append_of_le_length (by omega), List.take_of_length_le (by omega)]
  simp [h]
theorem part_rcs (h : i < L.length) {off : Nat} (ho : off = i * 3) : PartIs (rcs L) off true 3 (.v (L.getD i rl0).v) := by
  subst ho
  refine ⟨by rw [rcs_len]; omega, ?_⟩
  rw [rcs_get h]; rfl
theorem setL_rcs (h : i < L.length) {off : Nat} (ho : off = i * 3) : setL (rcs L) off r.v.cells.toList = rcs (L.set i r) := by
  subst ho
  have e : r.v.cells.toList = r.cs := rfl
  rw [e]
  unfold setL
  rw [rcs_take, show i * 3 + r.cs.length = (i + 1) * 3 by simp [RL.cs]; omega, rcs_drop, List.set_eq_take_append_cons_drop, if_pos h, rcs_app, rcs_cons, List.append_assoc]
theorem made_rcs (n : Nat) : (madeCells (Value.agg #[.bool false, .slice none 0 0, .slice none 0 0]).cells (n * 3)).toList = rcs (List.replicate n rl0) := by
  apply List.ext_getElem?
  intro j
  have hl : (rcs (List.replicate n rl0)).length = n * 3 := by rw [rcs_len]; simp
  by_cases hj : j < n * 3
  · have e1 : (madeCells (Value.agg #[.bool false, .slice none 0 0, .slice none 0 0]).cells (n * 3)).toList[j]? = some ((Value.agg #[.bool false, .slice none 0 0, .slice none 0 0]).cells[j % 3]!) := by
      simp [madeCells, hj, Value.cells]
    rw [e1]
    have h3 : j / 3 < (List.replicate n rl0).length := by simp; omega
    have e2 := rcs_get h3
    have e3 : (rcs (List.replicate n rl0))[j]? = (((rcs (List.replicate n rl0)).drop (j / 3 * 3)).take 3)[j % 3]? := by
      rw [List.getElem?_take_of_lt (by omega), List.getElem?_drop]; congr 1; omega
    rw [e3, e2]
    have e4 : (List.replicate n rl0).getD (j / 3) rl0 = rl0 := by rw [List.getD_eq_getElem?_getD, List.getElem?_replicate]; split <;> rfl
    rw [e4]
    have : j % 3 = 0 ∨ j % 3 = 1 ∨ j % 3 = 2 := by omega
    rcases this with h | h | h <;> rw [h] <;> rfl
  · rw [List.getElem?_eq_none (by simp [madeCells]; omega), List.getElem?_eq_none (by omega)]
/-- Each of the list's rationals reads as it should; as they stand, or canonical. -/
def RatsV (u : World) (L : List RL) (l : List Rat) (K : Nat) : Prop := L.length = l.length ∧ ∀ i, i < l.length → RatV u (L.getD i rl0) (l.getD i 0) K
def RatsN (u : World) (L : List RL) (l : List Rat) (K : Nat) : Prop := L.length = l.length ∧ ∀ i, i < l.length → RatN u (L.getD i rl0) (l.getD i 0) K
theorem RatsV.ext (h : RatsV u L l K) (e : Ext u u') : RatsV u' L l K := ⟨h.1, fun i hi => (h.2 i hi).ext e⟩
theorem RatsN.ext (h : RatsN u L l K) (e : Ext u u') : RatsN u' L l K := ⟨h.1, fun i hi => (h.2 i hi).ext e⟩
theorem RatsN.raw (h : RatsN u L l K) : RatsV u L l K := ⟨h.1, fun i hi => (h.2 i hi).raw⟩
theorem RatsV.more (h : RatsV u L l K) (k : K ≤ K') : RatsV u L l K' := ⟨h.1, fun i hi => (h.2 i hi).more k⟩
theorem RatsN.more (h : RatsN u L l K) (k : K ≤ K') : RatsN u L l K' := ⟨h.1, fun i hi => (h.2 i hi).more k⟩
theorem RatsN.nil (u : World) (K : Nat) : RatsN u [] [] K := ⟨rfl, fun i hi => by cases hi⟩
theorem RatsN.snoc (h : RatsN u L l K) (hr : RatN u r q K) : RatsN u (L ++ [r]) (l ++ [q]) K := by
  refine ⟨by simp [h.1], fun i hi => ?_⟩
  simp at hi
  by_cases e : i < l.length
  · have := h.2 i e
    rw [List.getD_eq_getElem?_getD, List.getElem?_append_left (by rw [h.1]; exact e), List.getD_eq_getElem?_getD (l := l ++ [q]), List.getElem?_append_left e]
    rw [List.getD_eq_getElem?_getD, List.getD_eq_getElem?_getD] at this
    exact this
  · have : i = l.length := by omega
    subst this
    rw [List.getD_eq_getElem?_getD, List.getElem?_append_right (by rw [h.1]; exact Nat.le_refl _), List.getD_eq_getElem?_getD, List.getElem?_append_right (Nat.le_refl _)]
    simp [h.1]; exact hr
theorem RatsV.take (h : RatsV u L l K) (n : Nat) : RatsV u (L.take n) (l.take n) K := by
  refine ⟨by simp [h.1], fun i hi => ?_⟩
  rw [List.length_take] at hi
  have hi : i < n ∧ i < l.length := by omega
  have := h.2 i hi.2
  rw [List.getD_eq_getElem?_getD, List.getElem?_take_of_lt hi.1, List.getD_eq_getElem?_getD, List.getElem?_take_of_lt hi.1]
  rw [List.getD_eq_getElem?_getD, List.getD_eq_getElem?_getD] at this
  exact this
theorem RatsN.take (h : RatsN u L l K) (n : Nat) : RatsN u (L.take n) (l.take n) K := by
  refine ⟨by simp [h.1], fun i hi => ?_⟩
  rw [List.length_take] at hi
  have hi : i < n ∧ i < l.length := by omega
  have := h.2 i hi.2
  rw [List.getD_eq_getElem?_getD, List.getElem?_take_of_lt hi.1, List.getD_eq_getElem?_getD, List.getElem?_take_of_lt hi.1]
  rw [List.getD_eq_getElem?_getD, List.getD_eq_getElem?_getD] at this
  exact this
/-- One element is written anew. -/
theorem RatsN.set (h : RatsN u L l K) (hi : i < l.length) (hr : RatN u r q K) : RatsN u (L.set i r) (l.set i q) K := by
  refine ⟨by simp [h.1], fun j hj => ?_⟩
  simp at hj
  have hL := h.1
  by_cases e : j = i
  · subst e; simp [hL, hj]; exact hr
  · have := h.2 j hj
    rw [List.getD_eq_getElem?_getD, List.getElem?_set_ne (Ne.symm e), List.getD_eq_getElem?_getD, List.getElem?_set_ne (Ne.symm e)]
    rw [List.getD_eq_getElem?_getD, List.getD_eq_getElem?_getD] at this
    exact this
/-- The first i elements are done; one more. -/
theorem RatsN.step (h : RatsN u (L.take i) l K) (hi : i < L.length) (hr : RatN u r q K) : RatsN u ((L.set i r).take (i + 1)) (l ++ [q]) K := by
  have e : (L.set i r).take (i + 1) = L.take i ++ [r] := by
    rw [List.take_set, List.take_succ_eq_append_getElem hi, List.set_append_right _ _ (by simp; omega)]
    simp [Nat.min_eq_left (Nat.le_of_lt hi)]
  rw [e]; exact h.snoc hr
theorem take_snoc {t : List Rat} (h : i < t.length) : t.take i ++ [t.getD i 0] = t.take (i + 1) := by
  rw [List.take_succ_eq_append_getElem h]; simp [h]
/-- The first i elements are those of t; one more. -/
theorem RatsN.tstep {t : List Rat} (h : RatsN u (L.take i) (t.take i) K) (hi : i < L.length) (ht : i < t.length) (hr : RatN u r q K) (hq : q = t.getD i 0) : RatsN u ((L.set i r).take (i + 1)) (t.take (i + 1)) K := by
  rw [← take_snoc ht, ← hq]; exact h.step hi hr
theorem RatsN.tnil (u : World) (L : List RL) (t : List Rat) (K : Nat) : RatsN u (L.take 0) (t.take 0) K := RatsN.nil u K
theorem RatsN.tdone {t : List Rat} (h : RatsN u (L.take i) (t.take i) K) (hi : i = L.length) (ht : i = t.length) : RatsN u L t K := by
  rw [hi, List.take_length, ← hi, ht, List.take_length] at h; exact h
/-- Digits do not lie in a block of rationals. -/
theorem rcs_noint {j : Nat} {k : IntKind} {z : Int} : (rcs L)[j]? ≠ some (.int k z) := by
  intro h
  have hj : j < (rcs L).length := (List.getElem?_eq_some_iff.1 h).1
  rw [rcs_len] at hj
  have h3 : j / 3 < L.length := by omega
  have e3 : (rcs L)[j]? = (((rcs L).drop (j / 3 * 3)).take 3)[j % 3]? := by
    rw [List.getElem?_take_of_lt (by omega), List.getElem?_drop]; congr 1; omega
  rw [e3, rcs_get h3] at h
  have : j % 3 = 0 ∨ j % 3 = 1 ∨ j % 3 = 2 := by omega
  rcases this with e | e | e <;> rw [e] at h <;> simp [RL.cs] at h
theorem SlR.extB {A : Option Addr} {n c : Nat} {z : List Int} {k : IntKind} {t : TypeId} {M : List RL} (h : SlR k u A n c z) (hb : u.heap[b]? = some (.cells (rcs M).toArray t (0, 0))) (e : ExtB b u u') : SlR k u' A n c z := by
  obtain ⟨h1, h2, h3, h4⟩ := h
  refine ⟨h1, h2, h3, fun hp => ?_⟩
  obtain ⟨b', o, rfl, hlt, hc⟩ := h4 hp
  have hne : b' ≠ b := by
    rintro rfl
    have := hc 0 hp
    rw [cells_at' hb] at this
    have h9 : (rcs M)[o + 0]? = some (.int k (z[0]?.getD 0)) := by simpa using this
    exact rcs_noint h9
  refine ⟨b', o, rfl, Nat.lt_of_lt_of_le hlt e.size, fun i hi => ?_⟩
  have := hc i hi
  unfold World.cell? at this ⊢
  cases hb' : u.heap[b']? with
  | none => simp only [hb'] at this; cases this
  | some ob =>
    simp only [hb'] at this
    cases ob with
    | cells cs t' fr => rw [e.vis b' _ hne hb' (by unfold hidO; exact fun e => by cases e)]; exact this
    | _ => cases this
where
  cells_at' {u : World} {b : Nat} {cs : Array Value} {t : TypeId} (h : u.heap[b]? = some (.cells cs t (0, 0))) {j : Nat} : u.cell? ⟨b, j, none⟩ = cs[j]? := by simp [World.cell?, h]
theorem RatN.extB {t : TypeId} {M : List RL} (h : RatN u r q K) (hb : u.heap[b]? = some (.cells (rcs M).toArray t (0, 0))) (e : ExtB b u u') : RatN u' r q K :=
  ⟨⟨h.1.1, h.1.2.1, h.1.2.2.1.extB hb e, h.1.2.2.2⟩, h.2.1, h.2.2.1.extB hb e, h.2.2.2⟩
theorem RatsN.extB {t : TypeId} {M : List RL} (h : RatsN u L l K) (hb : u.heap[b]? = some (.cells (rcs M).toArray t (0, 0))) (e : ExtB b u u') : RatsN u' L l K := ⟨h.1, fun i hi => (h.2 i hi).extB hb e⟩
/-- The cells of a slice of rationals. -/
def SlC (u : World) (x : Sl) (cs : List Value) : Prop := cs.length = x.n * 3 ∧ x.n ≤ x.c ∧ x.c ≤ maxLen ∧ (0 < x.n → ∃ b o, x.a = some ⟨b, o, none⟩ ∧ ∀ j, j < cs.length → u.cell? ⟨b, o + j, none⟩ = cs[j]?)
theorem SlC.ext {cs : List Value} (h : SlC u x cs) (e : Ext u u') : SlC u' x cs := by
  obtain ⟨h1, h2, h3, h4⟩ := h
  refine ⟨h1, h2, h3, fun hp => ?_⟩
  obtain ⟨b, o, e1, hc⟩ := h4 hp
  refine ⟨b, o, e1, fun j hj => ?_⟩
  have := hc j hj
  rw [List.getElem?_eq_getElem hj] at this ⊢
  exact e.cell this
/-- A polynomial as it stands: the list of its coefficients; each has at most K digits in each part. -/
def PolV (u : World) (x : Sl) (l : List Rat) (K : Nat) : Prop := ∃ L, SlC u x (rcs L) ∧ RatsV u L l K
/-- With canonical coefficients. -/
def PolN (u : World) (x : Sl) (l : List Rat) (K : Nat) : Prop := ∃ L, SlC u x (rcs L) ∧ RatsN u L l K
theorem PolV.ext (h : PolV u x l K) (e : Ext u u') : PolV u' x l K := by obtain ⟨L, h1, h2⟩ := h; exact ⟨L, h1.ext e, h2.ext e⟩
theorem PolN.ext (h : PolN u x l K) (e : Ext u u') : PolN u' x l K := by obtain ⟨L, h1, h2⟩ := h; exact ⟨L, h1.ext e, h2.ext e⟩
theorem PolN.raw (h : PolN u x l K) : PolV u x l K := by obtain ⟨L, h1, h2⟩ := h; exact ⟨L, h1, h2.raw⟩
theorem PolV.more (h : PolV u x l K) (k : K ≤ K') : PolV u x l K' := by obtain ⟨L, h1, h2⟩ := h; exact ⟨L, h1, h2.more k⟩
theorem PolN.more (h : PolN u x l K) (k : K ≤ K') : PolN u x l K' := by obtain ⟨L, h1, h2⟩ := h; exact ⟨L, h1, h2.more k⟩
theorem PolV.len (h : PolV u x l K) : x.n = l.length := by
  obtain ⟨L, h1, h2⟩ := h
  have := h1.1; rw [rcs_len, h2.1] at this; omega
theorem PolN.len (h : PolN u x l K) : x.n = l.length := h.raw.len
theorem PolV.max (h : PolV u x l K) : l.length ≤ maxLen := by
  have := h.len
  obtain ⟨L, h1, h2⟩ := h
  have := h1.2.1; have := h1.2.2.1; omega
theorem PolV.cap (h : PolV u x l K) : x.n ≤ x.c := by obtain ⟨L, h1, h2⟩ := h; exact h1.2.1
theorem PolN.cap (h : PolN u x l K) : x.n ≤ x.c := h.raw.cap
theorem pol_nil (u : World) (K : Nat) : PolN u ⟨none, 0, 0⟩ [] K := ⟨[], ⟨rfl, Nat.le_refl _, Nat.zero_le _, fun h => absurd h (Nat.lt_irrefl 0)⟩, RatsN.nil u K⟩
/-- An element: its address, its cells, how it reads. -/
theorem pol_at (h : PolV u x l K) (hi : i < l.length) : ∃ (r : RL) (b o : Nat), x.a = some ⟨b, o, none⟩ ∧ (∀ j, j < r.cs.length → u.cell? ⟨b, o + i * 3 + j, none⟩ = r.cs[j]?) ∧ RatV u r (l.getD i 0) K := by
  have hn := h.len
  obtain ⟨L, ⟨h1, h2, h3, h4⟩, h5⟩ := h
  obtain ⟨b, o, e, hc⟩ := h4 (by omega)
  have hL : i < L.length := by rw [h5.1]; exact hi
  refine ⟨L.getD i rl0, b, o, e, fun j hj => ?_, h5.2 i hi⟩
  have hj : j < 3 := hj
  have := hc (i * 3 + j) (by rw [rcs_len]; omega)
  rw [← Nat.add_assoc] at this
  rw [this, ← rcs_get hL, List.getElem?_take_of_lt hj, List.getElem?_drop]
theorem pol_atN (h : PolN u x l K) (hi : i < l.length) : ∃ (r : RL) (b o : Nat), x.a = some ⟨b, o, none⟩ ∧ (∀ j, j < r.cs.length → u.cell? ⟨b, o + i * 3 + j, none⟩ = r.cs[j]?) ∧ RatN u r (l.getD i 0) K := by
  have hn := h.len
  obtain ⟨L, ⟨h1, h2, h3, h4⟩, h5⟩ := h
  obtain ⟨b, o, e, hc⟩ := h4 (by omega)
  have hL : i < L.length := by rw [h5.1]; exact hi
  refine ⟨L.getD i rl0, b, o, e, fun j hj => ?_, h5.2 i hi⟩
  have hj : j < 3 := hj
  have := hc (i * 3 + j) (by rw [rcs_len]; omega)
  rw [← Nat.add_assoc] at this
  rw [this, ← rcs_get hL, List.getElem?_take_of_lt hj, List.getElem?_drop]
theorem cells_at {cs : Array Value} {t : TypeId} (h : u.heap[b]? = some (.cells cs t (0, 0))) (j : Nat) : u.cell? ⟨b, j, none⟩ = cs[j]? := by simp [World.cell?, h]
/-- A list that has become data. -/
theorem pol_data {cs : List Value} {t : TypeId} (h : u.heap[b]? = some (.cells cs.toArray t (0, 0))) (hc : cs.take (n * 3) = rcs L) (hl : cs.length = c * 3) (hn : n ≤ c) (hm : c ≤ maxLen) (hL : RatsN u L l K) : PolN u ⟨some ⟨b, 0, none⟩, n, c⟩ l K := by
  have hlen : (rcs L).length = n * 3 := by rw [← hc, List.length_take, hl]; omega
  refine ⟨L, ⟨hlen, hn, hm, fun _ => ⟨b, 0, rfl, fun j hj => ?_⟩⟩, hL⟩
  rw [Nat.zero_add, cells_at h, ← hc, List.getElem?_take_of_lt (by omega)]
  simp
theorem pol_data1 {t : TypeId} (h : u.heap[b]? = some (.cells (rcs L).toArray t (0, 0))) (hm : L.length ≤ maxLen) (hL : RatsN u L l K) (hn : n = L.length) : PolN u ⟨some ⟨b, 0, none⟩, n, n⟩ l K := by
  subst hn
  exact pol_data (cs := rcs L) h (by rw [rcs_take, List.take_length]) rcs_len (Nat.le_refl _) hm hL
theorem lit_news {cs : List Value} {t : TypeId} (h : u.heap[b]? = some (.cells cs.toArray t (0, 0))) : ∀ (j : Nat) (v : Value), cs[j]? = some v → u.cell? ⟨b, 0 + j, none⟩ = some v := fun j v hv => by
  rw [Nat.zero_add, cells_at h]; simpa using hv
theorem rl_one (r : RL) : ∀ v ∈ r.cs, v.oneCell' = true := by
  intro v hv
  simp [RL.cs] at hv
  rcases hv with rfl | rfl | rfl <;> rfl
/-- A literal list of rationals. -/
theorem pol_lit {t : TypeId} (h : u.heap[b]? = some (.cells (rcs L).toArray t (0, 0))) (hL : RatsN u L l K) (hn : L.length = n) (hm : n ≤ maxLen) : PolN u ⟨some ⟨b, 0, none⟩, n, n⟩ l K := pol_data1 h (by omega) hL hn.symm
theorem rats1 {r1 : RL} {q1 : Rat} (h1 : RatN u r1 q1 K) : RatsN u [r1] [q1] K := RatsN.snoc (RatsN.nil u K) h1
theorem rats2 {r1 r2 : RL} {q1 q2 : Rat} (h1 : RatN u r1 q1 K) (h2 : RatN u r2 q2 K) : RatsN u [r1, r2] [q1, q2] K := RatsN.snoc (rats1 h1) h2
theorem rats3 {r1 r2 r3 : RL} {q1 q2 q3 : Rat} (h1 : RatN u r1 q1 K) (h2 : RatN u r2 q2 K) (h3 : RatN u r3 q3 K) : RatsN u [r1, r2, r3] [q1, q2, q3] K := RatsN.snoc (rats2 h1 h2) h3
theorem rats4 {r1 r2 r3 r4 : RL} {q1 q2 q3 q4 : Rat} (h1 : RatN u r1 q1 K) (h2 : RatN u r2 q2 K) (h3 : RatN u r3 q3 K) (h4 : RatN u r4 q4 K) : RatsN u [r1, r2, r3, r4] [q1, q2, q3, q4] K := RatsN.snoc (rats3 h1 h2 h3) h4
/-- Behind an append. -/
theorem app_first {t : List Rat} (hr : RatN u r q K) (ht : 0 < t.length) (hq : q = t.getD 0 0) : RatsN u [r] (t.take 1) K := by
  rw [← take_snoc ht, ← hq]; exact rats1 hr
theorem app_next {t : List Rat} (h : RatsN u L (t.take i) K) (hr : RatN u r q K) (ht : i < t.length) (hq : q = t.getD i 0) : RatsN u (L ++ [r]) (t.take (i + 1)) K := by
  rw [← take_snoc ht, ← hq]; exact h.snoc hr
/-- The front of a polynomial. -/
theorem pol_take (h : PolV u x l K) {n : Nat} (hn : n ≤ l.length) : PolV u ⟨x.a, n, x.c⟩ (l.take n) K := by
  have hx := h.len
  obtain ⟨L, ⟨h1, h2, h3, h4⟩, h5⟩ := h
  refine ⟨L.take n, ⟨by rw [rcs_len, List.length_take, h5.1]; show min n _ * 3 = n * 3; rw [Nat.min_eq_left hn], by show n ≤ x.c; omega, h3, fun hp => ?_⟩, h5.take n⟩
  have hp : 0 < n := hp
  obtain ⟨b, o, e, hc⟩ := h4 (by omega)
  refine ⟨b, o, e, fun j hj => ?_⟩
  rw [← rcs_take] at hj ⊢
  rw [List.length_take] at hj
  rw [hc j (by omega), List.getElem?_take_of_lt (by omega)]
theorem pol_takeN (h : PolN u x l K) {n : Nat} (hn : n ≤ l.length) : PolN u ⟨x.a, n, x.c⟩ (l.take n) K := by
  have hx := h.len
  obtain ⟨L, ⟨h1, h2, h3, h4⟩, h5⟩ := h
  refine ⟨L.take n, ⟨by rw [rcs_len, List.length_take, h5.1]; show min n _ * 3 = n * 3; rw [Nat.min_eq_left hn], by show n ≤ x.c; omega, h3, fun hp => ?_⟩, h5.take n⟩
  have hp : 0 < n := hp
  obtain ⟨b, o, e, hc⟩ := h4 (by omega)
  refine ⟨b, o, e, fun j hj => ?_⟩
  rw [← rcs_take] at hj ⊢
  rw [List.length_take] at hj
  rw [hc j (by omega), List.getElem?_take_of_lt (by omega)]
end
end Go.Proofs.YtnedhbidmfoegaaGreat
namespace Go.Proofs.YtnedhbidmfoegaaGreat
open Go.RowKit
set_option linter.unusedVariables false
namespace Nt
theorem sg_add4 {s t : Bool} (N M : Nat) (h : (s == t) = false) (c : decide ((0 : Int) ≤ cmpS (N : Int) (M : Int)) = true) : sg s (N - M) = sg s N + sg t M := by
  unfold cmpS at c
  cases s <;> cases t <;> simp_all [sg] <;> (split at c <;> omega)
theorem sg_add5 {s t : Bool} (N M : Nat) (h : (s == t) = false) (c : decide ((0 : Int) ≤ cmpS (N : Int) (M : Int)) = false) : sg t (M - N) = sg s N + sg t M := by
  have c' : (cmpS (N : Int) (M : Int) == -1) = true := by
    rcases cmp_range (N : Int) (M : Int) with ⟨e, h⟩ | ⟨e, h⟩ | ⟨e, h⟩ <;> rw [e] at c ⊢ <;> simp at c ⊢
  exact sg_add2 N M h c'
theorem ediv_uniq {z y q r : Int} (hy : y ≠ 0) (h : z = y * q + r) (h0 : 0 ≤ r) (h1 : r < (y.natAbs : Int)) : z / y = q ∧ z % y = r := by
  rcases Int.lt_or_le y 0 with hn | hn
  · exact (Int.ediv_emod_unique' hn).2 ⟨by omega, h0, by omega⟩
  · exact (Int.ediv_emod_unique (by omega)).2 ⟨by omega, h0, by omega⟩
/-- Division with a remainder that is not negative, of signs and natural numbers. -/
theorem ediv_pos {N M : Nat} (z y : Int) (hz : z.natAbs = N) (hy : y.natAbs = M) (hM : 0 < M) (hr : ¬ (z < 0 ∧ 0 < N % M)) : z / y = sg (!(decide (z < 0) == decide (y < 0))) (N / M) ∧ z % y = ((N % M : Nat) : Int) := by
  have key : z = y * sg (!(decide (z < 0) == decide (y < 0))) (N / M) + ((N % M : Nat) : Int) := by
    have h := Nat.div_add_mod N M
    have h' : ((M * (N / M) + N % M : Nat) : Int) = N := by rw [h]
    rw [Int.natCast_add, Int.natCast_mul] at h'
    rcases Int.lt_or_le z 0 with hz0 | hz0
    · have hm : N % M = 0 := by omega
      rw [hm] at h' ⊢
      rcases Int.lt_or_le y 0 with hy0 | hy0
      · have e1 : z = -(N : Int) := by omega
        have e2 : y = -(M : Int) := by omega
        simp only [hz0, hy0, decide_true, beq_self_eq_true, Bool.not_true, sg_false]
        rw [e1, e2, ← h', Int.neg_mul]; omega
      · have e1 : z = -(N : Int) := by omega
        have e2 : y = (M : Int) := by omega
        have hy1 : decide (y < 0) = false := by simp; omega
        simp only [hz0, hy1, decide_true]
        show z = y * sg true _ + _
        rw [sg_true, e1, e2, ← h', Int.mul_neg]; omega
    · have hz1 : decide (z < 0) = false := by simp; omega
      have e1 : z = (N : Int) := by omega
      rcases Int.lt_or_le y 0 with hy0 | hy0
      · have e2 : y = -(M : Int) := by omega
        simp only [hz1, hy0, decide_true]
        show z = y * sg true _ + _
        rw [sg_true, e1, e2, ← h', Int.neg_mul_neg]
      · have e2 : y = (M : Int) := by omega
        have hy1 : decide (y < 0) = false := by simp; omega
        simp only [hz1, hy1, beq_self_eq_true, Bool.not_true, sg_false]
        rw [e1, e2, ← h']
  have hm := Nat.mod_lt N hM
  exact ediv_uniq (by omega) key (by omega) (by omega)
theorem ediv_neg' {N M : Nat} (z y : Int) (hz : z.natAbs = N) (hy : y.natAbs = M) (hM : 0 < M) (hz0 : z < 0) (hr : 0 < N % M) : z / y = sg (!(decide (z < 0) == decide (y < 0))) (N / M + 1) ∧ z % y = ((M - N % M : Nat) : Int) := by
  have hm := Nat.mod_lt N hM
  have key : z = y * sg (!(decide (z < 0) == decide (y < 0))) (N / M + 1) + ((M - N % M : Nat) : Int) := by
    have h := Nat.div_add_mod N M
    have h' : ((M * (N / M) + N % M : Nat) : Int) = N := by rw [h]
    rw [Int.natCast_add, Int.natCast_mul] at h'
    have e1 : z = -(N : Int) := by omega
    have e3 : ((M - N % M : Nat) : Int) = (M : Int) - ((N % M : Nat) : Int) := by omega
    have e4 : ((N / M + 1 : Nat) : Int) = ((N / M : Nat) : Int) + 1 := by omega
    rcases Int.lt_or_le y 0 with hy0 | hy0
    · have e2 : y = -(M : Int) := by omega
      simp only [hz0, hy0, decide_true, beq_self_eq_true, Bool.not_true, sg_false]
      rw [e1, e2, e3, e4, ← h', Int.neg_mul, Int.mul_add]; omega
    · have e2 : y = (M : Int) := by omega
      have hy1 : decide (y < 0) = false := by simp; omega
      simp only [hz0, hy1, decide_true]
      show z = y * sg true _ + _
      rw [sg_true, e1, e2, e3, e4, ← h', Int.mul_neg, Int.mul_add]; omega
  exact ediv_uniq (by omega) key (by omega) (by omega)
theorem mk_div (a : Int) (b : Nat) : (a : Rat) / ((b : Int) : Rat) = mkRat a b := by rw [Rat.mkRat_eq_div]; rfl
/-- The lesser, the greater one. -/
def lo (x y : Rat) : Rat := if y < x then y else x
def hi (x y : Rat) : Rat := if x < y then y else x
theorem same_q {x y : Rat} : (decide (x.num = y.num) && decide (x.den = y.den)) = decide (x = y) := by
  rw [Bool.eq_iff_iff]
  simp
  constructor
  · rintro ⟨h1, h2⟩; exact Rat.ext h1 h2
  · rintro rfl; exact ⟨rfl, rfl⟩
end Nt
section
variable {u u' w w' : World} {x y : Sl} {i j : IL} {r r' : RL} {N M K L : Nat} {z z' : Int} {q q' : Rat}
theorem IntN.sg (h : IntN u i z K) : z = Nt.sg i.s z.natAbs := by
  rw [h.1]; unfold Nt.sg
  by_cases hz : z < 0
  · simp [hz]; omega
  · simp [hz]; omega
theorem sign_len (h : IntN u i z K) : Nt.cmpS z 0 = if ((i.m.n : Int) == 0) = true then 0 else if i.s = true then -1 else 1 := by
  have hp := h.2.pos
  rw [h.1]
  rcases Nt.cmp_range z 0 with ⟨e, h1⟩ | ⟨e, h1⟩ | ⟨e, h1⟩
  · rw [e, if_neg (by simp; omega), if_pos (by simpa using h1)]
  · rw [e, if_pos (by simp; omega)]
  · rw [e, if_neg (by simp; omega), if_neg (by simp; omega)]
theorem neg_int (h : IntN u i z K) : IntN u ⟨(!i.s) && decide ((0 : Int) < (i.m.n : Int)), i.m⟩ (-z) K := by
  have hp := h.2.pos
  refine ⟨?_, by rw [Int.natAbs_neg]; exact h.2⟩
  show ((!i.s) && _) = _
  rw [h.1, Bool.eq_iff_iff]
  simp
  omega
theorem same_int (h : IntN u i z K) (h' : IntN u' j z' L) : ((i.s == j.s) && decide (z.natAbs = z'.natAbs)) = decide (z = z') := by
  rw [h.1, h'.1, Bool.eq_iff_iff]
  simp
  omega
theorem RatN.num (h : RatN u r q K) : IntN u ⟨r.s, r.m⟩ q.num K := h.1
theorem RatN.den (h : RatN u r q K) : NatN u r.d q.den K := h.2
/-- The quotient in lowest terms. -/
theorem red_mk (hy : z' ≠ 0) : (z : Rat) / (z' : Rat) = mkRat (Nt.quoI z z') z'.natAbs := (Nt.div_mk2 hy).symm
theorem quoI_neg (z z' : Int) (h : z' < 0) : Nt.quoI z z' = -z := by
  unfold Nt.quoI
  by_cases hz : z < 0
  · simp [hz, h]; omega
  · simp [hz, h]; omega
theorem quoI_pos (z z' : Int) (h : 0 ≤ z') : Nt.quoI z z' = z := by
  have h' : ¬ z' < 0 := by omega
  unfold Nt.quoI
  by_cases hz : z < 0
  · simp [hz, h']; omega
  · simp [hz, h']; omega
theorem red_fin {G : Nat} (hy : z' ≠ 0) (hG : G = Nat.gcd z.natAbs z'.natAbs) (h1 : IntN u i (Nt.quoI z z' / (G : Int)) K) (h2 : NatN u y (z'.natAbs / G) L) : RatN u ⟨i.s, i.m, y⟩ ((z : Rat) / (z' : Rat)) (max K L) := by
  have hp : 0 < z'.natAbs := Int.natAbs_pos.2 hy
  rw [red_mk hy]
  have e := Nt.mk_den (z := Nt.quoI z z') hp
  rw [Nt.quoI_abs, ← hG] at e
  refine ⟨?_, ?_⟩
  · show IntN u i _ _; rw [e.2]; exact h1.more (Nat.le_max_left _ _)
  · show NatN u y _ _; rw [e.1]; exact h2.more (Nat.le_max_right _ _)
theorem gcd_div_abs {G : Nat} (hG : G = Nat.gcd z.natAbs z'.natAbs) (hp : 0 < G) : (z' / (G : Int)).natAbs = z'.natAbs / G := by
  have hd : (G : Int) ∣ z' := by rw [hG]; exact Int.ofNat_dvd_left.2 (Nat.gcd_dvd_right _ _)
  obtain ⟨k, hk⟩ := hd
  subst hk
  rw [Int.mul_ediv_cancel_left _ (by omega), Int.natAbs_mul, Int.natAbs_natCast, Nat.mul_div_cancel_left _ hp]
/-- The end of reduce, where the divided denominator is negative (the numerator has been turned round). -/
theorem red_neg {G : Nat} (hy : z' ≠ 0) (hG : G = Nat.gcd z.natAbs z'.natAbs) (h1 : IntN u i (-(z / (G : Int))) K) (h2 : IntN u' j (z' / (G : Int)) L) (hs : j.s = true) (h3 : NatN u y (z' / (G : Int)).natAbs L) : RatN u ⟨i.s, i.m, y⟩ ((z : Rat) / (z' : Rat)) (max K L) := by
  have hp : 0 < G := by rw [hG]; exact Nat.gcd_pos_of_pos_right _ (Int.natAbs_pos.2 hy)
  have hneg : z' < 0 := by
    rw [h2.1] at hs
    have h4 : z' / (G : Int) < 0 := by simpa using hs
    rcases Int.lt_or_le z' 0 with h | h
    · exact h
    · have := Int.ediv_nonneg h (show (0 : Int) ≤ (G : Int) by omega); omega
  have hd : (G : Int) ∣ z := by rw [hG]; exact Int.ofNat_dvd_left.2 (Nat.gcd_dvd_left _ _)
  refine red_fin hy hG ?_ (by rw [← gcd_div_abs hG hp]; exact h3)
  rw [quoI_neg z z' hneg]
  obtain ⟨k, hk⟩ := hd
  rw [hk, Int.mul_ediv_cancel_left _ (by omega)] at h1
  rw [hk, ← Int.mul_neg, Int.mul_ediv_cancel_left _ (by omega)]
  exact h1
theorem red_pos {G : Nat} (hy : z' ≠ 0) (hG : G = Nat.gcd z.natAbs z'.natAbs) (h1 : IntN u i (z / (G : Int)) K) (h2 : IntN u' j (z' / (G : Int)) L) (hs : j.s = false) (h3 : NatN u y (z' / (G : Int)).natAbs L) : RatN u ⟨i.s, i.m, y⟩ ((z : Rat) / (z' : Rat)) (max K L) := by
  have hp : 0 < G := by rw [hG]; exact Nat.gcd_pos_of_pos_right _ (Int.natAbs_pos.2 hy)
  have hd2 : (G : Int) ∣ z' := by rw [hG]; exact Int.ofNat_dvd_left.2 (Nat.gcd_dvd_right _ _)
  have hnn : 0 ≤ z' := by
    rw [h2.1] at hs
    have h4 : ¬ z' / (G : Int) < 0 := by simpa using hs
    obtain ⟨k, hk⟩ := hd2
    rw [hk, Int.mul_ediv_cancel_left _ (by omega)] at h4
    rw [hk]
    exact Int.mul_nonneg (by omega) (by omega)
  refine red_fin hy hG ?_ (by rw [← gcd_div_abs hG hp]; exact h3)
  rw [quoI_pos z z' hnn]
  exact h1
/-- What 'parts' answers. -/
def PartV (q : Rat) (K : Nat) (v : Value) (u : World) : Prop := ∃ (i j : IL) (z : Int) (D : Nat), v = .tuple #[i.v, j.v] ∧ IntV u i z K ∧ IntN u j (D : Int) K ∧ 0 < D ∧ q = mkRat z D ∧ 1 ≤ K
end
end Go.Proofs.YtnedhbidmfoegaaGreat
namespace Go.Proofs.YtnedhbidmfoegaaGreat
open Go.RowKit
set_option linter.unusedVariables false
@[reducible] def IV (a b : RL) : Value := .agg #[.bool a.s, .slice a.m.a a.m.n a.m.c, .slice a.d.a a.d.n a.d.c, .bool b.s, .slice b.m.a b.m.n b.m.c, .slice b.d.a b.d.n b.d.c]
namespace Nt
theorem cmpQ_eq (x y : Rat) : (cmpQ x y == (0 : Int)) = decide (x = y) := by
  unfold cmpQ
  rw [Bool.eq_iff_iff, decide_eq_true_iff]
  split
  · constructor
    · intro h; simp at h
    · intro h; grind
  · split <;> simp_all
theorem sgQ_eq (x : Rat) : (sgQ x == (0 : Int)) = decide (x = 0) := cmpQ_eq x 0
end Nt
section
variable {u u' w w' : World} {x y : Sl} {i j : IL} {r r' : RL} {N M K L : Nat} {z z' : Int} {q q' : Rat}
/-- Few digits. -/
theorem RatV.few (h : RatV u r q K) (h1 : r.m.n ≤ L) (h2 : r.d.n ≤ L) (hL : 1 ≤ L) : RatV u r q L := by
  obtain ⟨⟨z, D, ⟨N, ⟨l, a1, a2, a3, a4⟩, h4⟩, ⟨l', b1, b2, b3, b4⟩, h5⟩, h6⟩ := h
  exact ⟨⟨z, D, ⟨N, ⟨l, a1, a2, h1, a4⟩, h4⟩, ⟨l', b1, b2, h2, b4⟩, h5⟩, hL⟩
end
end Go.Proofs.YtnedhbidmfoegaaGreat
namespace Go.Proofs.YtnedhbidmfoegaaGreat
set_option linter.unusedVariables false
namespace Nt
/-- The list without the zeros at its end. -/
def trimQ : List Rat → List Rat
  | [] => []
  | a :: l => if trimQ l = [] ∧ a = 0 then [] else a :: trimQ l
/-- A coefficient; 0 behind the last one. -/
def co (l : List Rat) (i : Nat) : Rat := l.getD i 0
theorem co_nil (i : Nat) : co [] i = 0 := by simp [co]
theorem co_zero (a : Rat) (l : List Rat) : co (a :: l) 0 = a := rfl
theorem co_succ (a : Rat) (l : List Rat) (i : Nat) : co (a :: l) (i + 1) = co l i := by simp [co]
theorem co_ge {l : List Rat} {i : Nat} (h : l.length ≤ i) : co l i = 0 := by simp [co, List.getElem?_eq_none h]
theorem trim_co (l : List Rat) (i : Nat) : co (trimQ l) i = co l i := by
  induction l generalizing i with
  | nil => rfl
  | cons a l ih =>
    unfold trimQ
    split
    · rename_i h
      rw [co_nil]
      cases i with
      | zero => rw [co_zero, h.2]
      | succ i => rw [co_succ, ← ih, h.1, co_nil]
    · cases i with
      | zero => rfl
      | succ i => rw [co_succ, co_succ, ih]
/-- No zero at the end. -/
def Nrm (l : List Rat) : Prop := trimQ l = l
theorem trim_nil_iff {l : List Rat} : trimQ l = [] ↔ ∀ i, co l i = 0 := by
  induction l with
  | nil => simp [trimQ, co]
  | cons a l ih =>
    unfold trimQ
    split
    · rename_i h
      simp
      intro i
      cases i with
      | zero => exact h.2
      | succ i => rw [co_succ]; exact ih.1 h.1 i
    · rename_i h
      simp
      apply Classical.byContradiction
      intro hc
      apply h
      have hc : ∀ i, co (a :: l) i = 0 := fun i => Classical.byContradiction fun k => hc ⟨i, k⟩
      exact ⟨ih.2 fun i => by rw [← co_succ a]; exact hc (i + 1), hc 0⟩
/-- Lists with the same coefficients have the same normal form. -/
theorem trim_ext {l m : List Rat} (h : ∀ i, co l i = co m i) : trimQ l = trimQ m := by
  induction l generalizing m with
  | nil =>
    have : trimQ m = [] := trim_nil_iff.2 fun i => by rw [← h i, co_nil]
    rw [this]; rfl
  | cons a l ih =>
    cases m with
    | nil =>
      have : trimQ (a :: l) = [] := trim_nil_iff.2 fun i => by rw [h i, co_nil]
      rw [this]; rfl
    | cons b m =>
      have e0 : a = b := h 0
      have e1 : trimQ l = trimQ m := ih fun i => by rw [← co_succ a, ← co_succ b]; exact h (i + 1)
      unfold trimQ
      rw [e0, e1]
theorem trim_trim (l : List Rat) : trimQ (trimQ l) = trimQ l := trim_ext fun i => trim_co l i
theorem trim_nrm (l : List Rat) : Nrm (trimQ l) := trim_trim l
theorem trim_len (l : List Rat) : (trimQ l).length ≤ l.length := by
  induction l with
  | nil => exact Nat.le_refl _
  | cons a l ih => unfold trimQ; split <;> simp <;> omega
theorem trim_take (l : List Rat) : l.take (trimQ l).length = trimQ l := by
  induction l with
  | nil => rfl
  | cons a l ih =>
    unfold trimQ
    split
    · rfl
    · simp [ih]
/-- How the length of the normal form is found: the last coefficient that is not 0. -/
theorem trim_len_of {l : List Rat} {n : Nat} (hn : n ≤ l.length) (hz : ∀ i, n ≤ i → co l i = 0) (hl : 0 < n → co l (n - 1) ≠ 0) : (trimQ l).length = n := by
  induction l generalizing n with
  | nil => simp at hn; subst hn; rfl
  | cons a l ih =>
    cases n with
    | zero =>
      have : trimQ (a :: l) = [] := trim_nil_iff.2 fun i => hz i (Nat.zero_le _)
      rw [this]; rfl
    | succ n =>
      have hn' : n ≤ l.length := by simpa using hn
      have e : (trimQ l).length = n := ih hn' (fun i hi => by rw [← co_succ a]; exact hz (i + 1) (by omega)) (fun hp => by
        have := hl (by omega)
        rw [show n + 1 - 1 = (n - 1) + 1 by omega, co_succ] at this
        exact this)
      unfold trimQ
      rw [if_neg]
      · simp [e]
      · rintro ⟨h1, h2⟩
        rw [h1] at e
        have e : n = 0 := by simpa using e.symm
        subst e
        exact hl (by omega) h2
theorem nrm_last {l : List Rat} (h : Nrm l) (hl : l ≠ []) : co l (l.length - 1) ≠ 0 := by
  induction l with
  | nil => exact absurd rfl hl
  | cons a l ih =>
    unfold Nrm trimQ at h
    split at h
    · cases h
    · rename_i hc
      injection h with _ h
      cases l with
      | nil =>
        intro k
        apply hc
        exact ⟨rfl, k⟩
      | cons b l =>
        have := ih h (by simp)
        intro k
        apply this
        rw [show (a :: b :: l).length - 1 = ((b :: l).length - 1) + 1 by simp, co_succ] at k
        exact k
theorem nrm_of {l : List Rat} (h : l ≠ [] → co l (l.length - 1) ≠ 0) : Nrm l := by
  have e := trim_len_of (l := l) (Nat.le_refl _) (fun i hi => co_ge hi) (fun hp => h (by rintro rfl; simp at hp))
  have := trim_take l
  rw [e, List.take_length] at this
  exact this.symm
theorem co_map (f : Rat → Rat) (hf : f 0 = 0) (l : List Rat) (i : Nat) : co (l.map f) i = f (co l i) := by
  simp only [co, List.getD_eq_getElem?_getD, List.getElem?_map]
  cases l[i]? <;> simp [hf]
theorem co_range (n : Nat) (f : Nat → Rat) (i : Nat) : co ((List.range n).map f) i = if i < n then f i else 0 := by
  simp only [co, List.getD_eq_getElem?_getD, List.getElem?_map]
  by_cases h : i < n
  · simp [h]
  · simp [h]
/-- The sum, the difference, the derivative, coefficient by coefficient. -/
def addQ (l m : List Rat) : List Rat := (List.range (max l.length m.length)).map fun i => co l i + co m i
@[simp] theorem addQ_len (l m : List Rat) : (addQ l m).length = max l.length m.length := by simp [addQ]
theorem addQ_co (l m : List Rat) (i : Nat) : co (addQ l m) i = co l i + co m i := by
  unfold addQ
  rw [co_range]
  split
  · rfl
  · rw [co_ge (l := l) (by omega), co_ge (l := m) (by omega)]; exact (Rat.add_zero 0).symm
def negQ (l : List Rat) : List Rat := l.map fun x => -x
@[simp] theorem negQ_len (l : List Rat) : (negQ l).length = l.length := by simp [negQ]
theorem negQ_co (l : List Rat) (i : Nat) : co (negQ l) i = -co l i := co_map _ (by simp) l i
def derQ (l : List Rat) : List Rat := (List.range (l.length - 1)).map fun i => co l (i + 1) * (((i + 1 : Nat) : Int) : Rat)
@[simp] theorem derQ_len (l : List Rat) : (derQ l).length = l.length - 1 := by simp [derQ]
theorem derQ_co (l : List Rat) (i : Nat) : co (derQ l) i = co l (i + 1) * (((i + 1 : Nat) : Int) : Rat) := by
  unfold derQ
  rw [co_range]
  split
  · rfl
  · rw [co_ge (l := l) (by omega)]; exact (Rat.zero_mul _).symm
end Nt
section
open Go.RowKit
variable {u : World} {x : Sl} {l : List Rat} {K : Nat}
theorem cut_V (h : PolV u x l K) : PolV u ⟨x.a, (Nt.trimQ l).length, x.c⟩ (Nt.trimQ l) K := by
  have := pol_take h (Nt.trim_len l)
  rwa [Nt.trim_take] at this
theorem cut_N (h : PolN u x l K) : PolN u ⟨x.a, (Nt.trimQ l).length, x.c⟩ (Nt.trimQ l) K := by
  have := pol_takeN h (Nt.trim_len l)
  rwa [Nt.trim_take] at this
end
end Go.Proofs.YtnedhbidmfoegaaGreat
namespace Go.Proofs.YtnedhbidmfoegaaGreat
set_option linter.unusedVariables false
namespace Nt
/-- The greatest number of which x and y are whole multiples, as the program finds it. -/
def cmn (x y : Rat) : Rat := if x = 0 then absQ y else if y = 0 then x else absQ (x / (((x / y).num : Int) : Rat))
theorem absQ_ne {x : Rat} (h : x ≠ 0) : absQ x ≠ 0 := by unfold absQ; split <;> grind
theorem num_ne {x : Rat} (h : x ≠ 0) : ((x.num : Int) : Rat) ≠ 0 := by
  intro k
  apply h
  have : x.num = 0 := Rat.intCast_inj.1 (by rw [k]; rfl)
  exact Rat.num_eq_zero.1 this
theorem div_ne {x y : Rat} (hx : x ≠ 0) (hy : y ≠ 0) : x / y ≠ 0 := by
  intro k
  apply hx
  have : x = x / y * y := by grind
  rw [this, k]; grind
theorem cmn_ne {x y : Rat} (h : x ≠ 0 ∨ y ≠ 0) : cmn x y ≠ 0 := by
  unfold cmn
  by_cases hx : x = 0
  · rw [if_pos hx]; exact absQ_ne (by grind)
  · rw [if_neg hx]
    by_cases hy : y = 0
    · rw [if_pos hy]; exact hx
    · rw [if_neg hy]
      exact absQ_ne (div_ne hx (num_ne (div_ne hx hy)))
theorem dl_dvd {a b : Nat} (hb : 0 < b) (h : a ∣ b) : dl a ≤ dl b := dl_mono (Nat.le_of_dvd hb h)
theorem den_pos' (q : Rat) : 0 < q.den := Nat.pos_of_ne_zero q.den_nz
/-- x over the numerator of x / y: it has few digits. -/
theorem cmn_mk {x y : Rat} (hx : x ≠ 0) (hy : y ≠ 0) : ∃ g : Int, x / (((x / y).num : Int) : Rat) = mkRat g (x.den * y.den) ∧ g.natAbs ∣ x.den * y.num.natAbs ∧ g ≠ 0 := by
  have hxn : x.num ≠ 0 := fun k => hx (Rat.num_eq_zero.1 k)
  have hyn : y.num ≠ 0 := fun k => hy (Rat.num_eq_zero.1 k)
  have hxd : (x.den : Rat) ≠ 0 := Ne.symm (Rat.ne_of_lt (Rat.natCast_pos.2 (den_pos' x)))
  have hyd : (y.den : Rat) ≠ 0 := Ne.symm (Rat.ne_of_lt (Rat.natCast_pos.2 (den_pos' y)))
  have ex : x = (x.num : Rat) / (x.den : Rat) := by rw [← Rat.mkRat_eq_div]; exact (Rat.mkRat_self x).symm
  have ey : y = (y.num : Rat) / (y.den : Rat) := by rw [← Rat.mkRat_eq_div]; exact (Rat.mkRat_self y).symm
  have hxn' : (x.num : Rat) ≠ 0 := fun k => hxn (Rat.intCast_inj.1 (by rw [k]; rfl))
  have hyn' : (y.num : Rat) ≠ 0 := fun k => hyn (Rat.intCast_inj.1 (by rw [k]; rfl))
  obtain ⟨z, hz⟩ : ∃ z, z = x / y := ⟨_, rfl⟩
  rw [← hz]
  have hz0 : z ≠ 0 := by rw [hz]; exact div_ne hx hy
  have hzn : z.num ≠ 0 := fun k => hz0 (Rat.num_eq_zero.1 k)
  have hzn' : (z.num : Rat) ≠ 0 := fun k => hzn (Rat.intCast_inj.1 (by rw [k]; rfl))
  have hzd : (z.den : Rat) ≠ 0 := Ne.symm (Rat.ne_of_lt (Rat.natCast_pos.2 (den_pos' z)))
  have ez : z = (z.num : Rat) / (z.den : Rat) := by rw [← Rat.mkRat_eq_div]; exact (Rat.mkRat_self z).symm
  -- z.num * (x.den * y.num) = x.num * y.den * z.den
  have cross : (z.num : Rat) * ((x.den : Rat) * (y.num : Rat)) = (x.num : Rat) * (y.den : Rat) * (z.den : Rat) := by
    have h1 : (z.num : Rat) / (z.den : Rat) = ((x.num : Rat) / (x.den : Rat)) / ((y.num : Rat) / (y.den : Rat)) := by rw [← ez, hz, ← ex, ← ey]
    generalize (z.num : Rat) = a at *
    generalize (z.den : Rat) = b at *
    generalize (x.num : Rat) = c at *
    generalize (x.den : Rat) = e at *
    generalize (y.num : Rat) = f at *
    generalize (y.den : Rat) = k at *
    grind
  have crossZ : z.num * ((x.den : Int) * y.num) = x.num * (y.den : Int) * (z.den : Int) := by
    have h : (((z.num * ((x.den : Int) * y.num) : Int)) : Rat) = ((x.num * (y.den : Int) * (z.den : Int) : Int) : Rat) := by
      simp only [Rat.intCast_mul]
      exact cross
    exact Rat.intCast_inj.1 h
  -- z.num divides x.num * y.den, as it has nothing in common with z.den
  have hdv : z.den ∣ x.den * y.num.natAbs := by
    have h : z.num.natAbs * (x.den * y.num.natAbs) = x.num.natAbs * y.den * z.den := by
      have := congrArg Int.natAbs crossZ
      simpa [Int.natAbs_mul] using this
    have hc : Nat.Coprime z.den z.num.natAbs := by
      have := z.reduced
      exact Nat.Coprime.symm this
    exact hc.dvd_of_dvd_mul_left ⟨x.num.natAbs * y.den, by rw [h, Nat.mul_comm]⟩
  obtain ⟨g0, hg0⟩ := hdv
  have hg0' : (x.den : Int) * y.num = (z.den : Int) * (if y.num < 0 then -(g0 : Int) else (g0 : Int)) := by
    have h1 : ((x.den * y.num.natAbs : Nat) : Int) = ((z.den * g0 : Nat) : Int) := by rw [hg0]
    rw [Int.natCast_mul, Int.natCast_mul] at h1
    split
    · rename_i h
      rw [Int.mul_neg, ← h1, show ((y.num.natAbs : Nat) : Int) = -y.num by omega, Int.mul_neg, Int.neg_neg]
    · rename_i h
      rw [← h1, show ((y.num.natAbs : Nat) : Int) = y.num by omega]
  refine ⟨if y.num < 0 then -(g0 : Int) else (g0 : Int), ?_, ?_, ?_⟩
  · have hgR : (x.den : Rat) * (y.num : Rat) = (z.den : Rat) * (((if y.num < 0 then -(g0 : Int) else (g0 : Int)) : Int) : Rat) := by
      have h : ((((x.den : Int) * y.num : Int)) : Rat) = (((z.den : Int) * (if y.num < 0 then -(g0 : Int) else (g0 : Int)) : Int) : Rat) := by rw [hg0']
      simp only [Rat.intCast_mul] at h
      exact h
    rw [Rat.mkRat_eq_div]
    have hden : ((x.den * y.den : Nat) : Rat) = (x.den : Rat) * (y.den : Rat) := by
      have : (((x.den * y.den : Nat) : Int) : Rat) = (((x.den : Int) * (y.den : Int) : Int) : Rat) := by rw [Int.natCast_mul]
      rw [Rat.intCast_mul] at this
      exact this
    rw [hden]
    have hxx : x = (x.num : Rat) / (x.den : Rat) := ex
    generalize (((if y.num < 0 then -(g0 : Int) else (g0 : Int)) : Int) : Rat) = G at *
    generalize (z.num : Rat) = a at *
    generalize (z.den : Rat) = b at *
    generalize hcn : (x.num : Rat) = c at *
    generalize hce : (x.den : Rat) = e at *
    generalize (y.num : Rat) = f at *
    generalize (y.den : Rat) = k at *
    rw [hxx]
    grind
  · have : (if y.num < 0 then -(g0 : Int) else (g0 : Int)).natAbs = g0 := by split <;> omega
    rw [this, hg0]; exact ⟨z.den, Nat.mul_comm _ _⟩
  · have hpos : 0 < g0 := by
      rcases Nat.eq_zero_or_pos g0 with h | h
      · rw [h, Nat.mul_zero] at hg0
        have := Nat.mul_pos (den_pos' x) (Int.natAbs_pos.2 hyn)
        omega
      · exact h
    split <;> omega
theorem rs_cmn (x y : Rat) : rs (cmn x y) ≤ rs x + rs y := by
  unfold cmn
  by_cases hx : x = 0
  · rw [if_pos hx, rs_abs]; omega
  · rw [if_neg hx]
    by_cases hy : y = 0
    · rw [if_pos hy]; omega
    · rw [if_neg hy, rs_abs]
      obtain ⟨g, h1, h2, h3⟩ := cmn_mk hx hy
      rw [h1]
      have hyn : y.num ≠ 0 := fun k => hy (Rat.num_eq_zero.1 k)
      have b1 : dl x.den ≤ rs x := by unfold rs; omega
      have b2 : dl y.den ≤ rs y := by unfold rs; omega
      have b3 : dl y.num.natAbs ≤ rs y := by unfold rs; omega
      have := rs_pos x
      refine rs_mk ?_ ?_ (by omega)
      · have k1 := dl_dvd (Nat.mul_pos (den_pos' x) (Int.natAbs_pos.2 hyn)) h2
        have k2 := dl_mul x.den y.num.natAbs
        omega
      · have k2 := dl_mul x.den y.den
        omega
/-- The measure of a list. -/
def msr (l : List Rat) : Rat := l.foldl cmn 0
theorem msr_snoc (l : List Rat) (y : Rat) : msr (l ++ [y]) = cmn (msr l) y := by simp [msr]
theorem msr_take {l : List Rat} {i : Nat} (h : i < l.length) : msr (l.take (i + 1)) = cmn (msr (l.take i)) (l.getD i 0) := by
  rw [← Go.Proofs.YtnedhbidmfoegaaGreat.take_snoc h, msr_snoc]
theorem msr_ne {l : List Rat} (h : Nrm l) (hl : 0 < l.length) : msr l ≠ 0 := by
  have h2 := nrm_last h (by rintro rfl; simp at hl)
  have h3 := msr_take (l := l) (i := l.length - 1) (by omega)
  rw [show l.length - 1 + 1 = l.length by omega, List.take_length] at h3
  rw [h3]
  exact cmn_ne (.inr h2)
end Nt
end Go.Proofs.YtnedhbidmfoegaaGreat
namespace Go.Proofs.YtnedhbidmfoegaaGreat
set_option linter.unusedVariables false
namespace Nt
/-- The product. -/
def mulQ : List Rat → List Rat → List Rat
  | [], m => []
  | a :: l, m => addQ (m.map (a * ·)) (0 :: mulQ l m)
def sh (f : Nat → Rat) (k : Nat) : Rat := if k = 0 then 0 else f (k - 1)
theorem co_cons0 (l : List Rat) (k : Nat) : co (0 :: l) k = sh (co l) k := by
  cases k with
  | zero => rfl
  | succ k => rw [co_succ]; simp [sh]
theorem mulQ_cons (a : Rat) (l m : List Rat) (k : Nat) : co (mulQ (a :: l) m) k = a * co m k + sh (co (mulQ l m)) k := by
  show co (addQ (m.map (a * ·)) (0 :: mulQ l m)) k = _
  rw [addQ_co, co_map _ (by simp), co_cons0]
theorem mulQ_nil (m : List Rat) (k : Nat) : co (mulQ [] m) k = 0 := rfl
theorem mulQ_snoc (l : List Rat) (a : Rat) (m : List Rat) (k : Nat) : co (mulQ (l ++ [a]) m) k = co (mulQ l m) k + (if l.length ≤ k then a * co m (k - l.length) else 0) := by
  induction l generalizing k with
  | nil =>
    rw [List.nil_append, mulQ_cons, mulQ_nil]
    have e : sh (co (mulQ [] m)) k = 0 := by unfold sh; split <;> rfl
    rw [e, if_pos (show ([] : List Rat).length ≤ k from Nat.zero_le _)]
    show _ = 0 + a * co m (k - 0)
    rw [Nat.sub_zero]; grind
  | cons b l ih =>
    rw [List.cons_append, mulQ_cons, mulQ_cons]
    unfold sh
    cases k with
    | zero =>
      rw [if_pos rfl, if_pos rfl, if_neg (by simp)]; grind
    | succ k =>
      simp only [Nat.add_one_ne_zero, if_false, Nat.add_sub_cancel, List.length_cons]
      rw [ih]
      by_cases h : l.length ≤ k
      · rw [if_pos h, if_pos (by omega), show k + 1 - (l.length + 1) = k - l.length by omega]; grind
      · rw [if_neg h, if_neg (by omega)]; grind
/-- The inner loop: x times B is added from the place i on. -/
def inn (R : List Rat) (i : Nat) (x : Rat) (B : List Rat) : Nat → List Rat
  | 0 => R
  | j + 1 => (inn R i x B j).set (i + j) (co (inn R i x B j) (i + j) + x * co B j)
/-- The outer loop. -/
def outQ (A B : List Rat) (N : Nat) : Nat → List Rat
  | 0 => List.replicate N 0
  | i + 1 => inn (outQ A B N i) i (co A i) B B.length
@[simp] theorem inn_len (R : List Rat) (i : Nat) (x : Rat) (B : List Rat) (j : Nat) : (inn R i x B j).length = R.length := by
  induction j with
  | zero => rfl
  | succ j ih => simp [inn, ih]
@[simp] theorem outQ_len (A B : List Rat) (N i : Nat) : (outQ A B N i).length = N := by
  induction i with
  | zero => simp [outQ]
  | succ i ih => simp [outQ, ih]
theorem co_set {l : List Rat} {i : Nat} (h : i < l.length) (x : Rat) (k : Nat) : co (l.set i x) k = if k = i then x else co l k := by
  unfold co
  simp only [List.getD_eq_getElem?_getD, List.getElem?_set]
  by_cases e : i = k
  · subst e; simp [h]
  · rw [if_neg e, if_neg (Ne.symm e)]
theorem inn_co {R : List Rat} {i : Nat} (x : Rat) (B : List Rat) {j : Nat} (h : i + j ≤ R.length) (k : Nat) : co (inn R i x B j) k = co R k + (if i ≤ k ∧ k < i + j then x * co B (k - i) else 0) := by
  induction j with
  | zero => rw [if_neg (by omega)]; show co R k = _; grind
  | succ j ih =>
    have ih := ih (by omega)
    unfold inn
    rw [co_set (by simp; omega)]
    by_cases e : k = i + j
    · rw [if_pos e]
      subst e
      rw [ih, if_neg (by omega), if_pos (by omega), show i + j - i = j by omega]
      grind
    · rw [if_neg e, ih]
      by_cases c : i ≤ k ∧ k < i + j
      · rw [if_pos c, if_pos (by omega)]
      · rw [if_neg c, if_neg (by omega)]
theorem outQ_co {A B : List Rat} {N : Nat} (hN : A.length + B.length ≤ N + 1) (hB : 0 < B.length) {i : Nat} (hi : i ≤ A.length) (k : Nat) : co (outQ A B N i) k = co (mulQ (A.take i) B) k := by
  induction i generalizing k with
  | zero =>
    rw [List.take_zero, mulQ_nil]
    unfold outQ co
    rw [List.getD_eq_getElem?_getD, List.getElem?_replicate]
    split <;> rfl
  | succ i ih =>
    unfold outQ
    rw [inn_co _ _ (by rw [outQ_len]; omega), ih (by omega), ← Go.Proofs.YtnedhbidmfoegaaGreat.take_snoc (show i < A.length by omega), mulQ_snoc]
    rw [List.length_take, Nat.min_eq_left (by omega)]
    by_cases c : i ≤ k ∧ k < i + B.length
    · rw [if_pos c, if_pos c.1]; rfl
    · rw [if_neg c]
      by_cases c2 : i ≤ k
      · rw [if_pos c2, co_ge (l := B) (by omega)]; grind
      · rw [if_neg c2]
/-- The product depends on the coefficients alone. -/
theorem mulQ_zero {l : List Rat} (h : ∀ i, co l i = 0) (m : List Rat) (k : Nat) : co (mulQ l m) k = 0 := by
  induction l generalizing k with
  | nil => rfl
  | cons a l ih =>
    have ha : a = 0 := h 0
    have hl : ∀ i, co l i = 0 := fun i => by rw [← co_succ a]; exact h (i + 1)
    rw [mulQ_cons, ha]
    unfold sh
    split
    · grind
    · rw [ih hl]; grind
theorem mulQ_congr {l l' m m' : List Rat} (h : ∀ i, co l i = co l' i) (h2 : ∀ i, co m i = co m' i) (k : Nat) : co (mulQ l m) k = co (mulQ l' m') k := by
  induction l generalizing l' k with
  | nil =>
    rw [mulQ_nil, mulQ_zero (fun i => by rw [← h i, co_nil])]
  | cons a l ih =>
    cases l' with
    | nil => rw [mulQ_nil, mulQ_zero (fun i => by rw [h i, co_nil])]
    | cons b l' =>
      have hab : a = b := h 0
      have hl : ∀ i, co l i = co l' i := fun i => by rw [← co_succ a, ← co_succ b]; exact h (i + 1)
      rw [mulQ_cons, mulQ_cons, hab, h2]
      unfold sh
      split
      · rfl
      · rw [ih hl]
theorem mulQ_scale_l (c : Rat) (l m : List Rat) (k : Nat) : co (mulQ (l.map (c * ·)) m) k = c * co (mulQ l m) k := by
  induction l generalizing k with
  | nil => rw [List.map_nil, mulQ_nil]; grind
  | cons a l ih =>
    rw [List.map_cons, mulQ_cons, mulQ_cons]
    unfold sh
    split
    · grind
    · rw [ih]; grind
theorem mulQ_scale_r (c : Rat) (l m : List Rat) (k : Nat) : co (mulQ l (m.map (c * ·))) k = c * co (mulQ l m) k := by
  induction l generalizing k with
  | nil => rw [mulQ_nil, mulQ_nil]; grind
  | cons a l ih =>
    rw [mulQ_cons, mulQ_cons, co_map _ (by simp)]
    unfold sh
    split
    · grind
    · rw [ih]; grind
/-- What Mul makes out of the parts. -/
theorem mul_parts {l m : List Rat} {s t : Rat} (hs : s ≠ 0) (ht : t ≠ 0) (hl : 0 < l.length) (hm : 0 < m.length) : trimQ ((outQ (l.map (· / s)) (m.map (· / t)) (l.length + m.length - 1) l.length).map (· * (s * t))) = trimQ (mulQ l m) := by
  apply trim_ext
  intro k
  rw [co_map _ (by simp), outQ_co (by simp; omega) (by simpa using hm) (by simp)]
  rw [show (l.map (· / s)).take l.length = l.map (· / s) by rw [List.take_of_length_le (by simp)]]
  have e1 : l.map (· / s) = l.map ((1 / s) * ·) := by congr 1; funext x; grind
  have e2 : m.map (· / t) = m.map ((1 / t) * ·) := by congr 1; funext x; grind
  rw [e1, e2, mulQ_scale_l, mulQ_scale_r]
  grind
theorem mul_trim (l m : List Rat) : trimQ (mulQ (trimQ l) (trimQ m)) = trimQ (mulQ l m) := trim_ext fun k => mulQ_congr (trim_co l) (trim_co m) k
theorem mulQ_zero_r {m : List Rat} (h : ∀ i, co m i = 0) (l : List Rat) (k : Nat) : co (mulQ l m) k = 0 := by
  have := mulQ_scale_r 0 l m k
  rw [Rat.zero_mul] at this
  rw [← this]
  exact mulQ_congr (fun _ => rfl) (fun i => by rw [co_map _ (by simp), h]; simp) k
theorem mul_nil {l m : List Rat} (h : trimQ l = [] ∨ trimQ m = []) : trimQ (mulQ l m) = [] := by
  rw [trim_nil_iff]
  intro k
  rcases h with h | h
  · exact mulQ_zero (trim_nil_iff.1 h) m k
  · exact mulQ_zero_r (trim_nil_iff.1 h) l k
/-- Sizes that grow by W at each step. -/
def kk (W t : Nat) : Nat := t * W + 2
theorem kk_succ (W t : Nat) : kk W (t + 1) = kk W t + W := by unfold kk; rw [Nat.add_mul]; omega
theorem kk_mono {W W' t t' : Nat} (h : W ≤ W') (h2 : t ≤ t') : kk W t ≤ kk W' t' := by
  unfold kk
  have := Nat.mul_le_mul h2 h
  omega
/-- The size of a measure, of the parts, of a product. -/
def spK (n K : Nat) : Nat := n * K + 2
theorem spK_mono {n n' K K' : Nat} (h : n ≤ n') (h2 : K ≤ K') : spK n K ≤ spK n' K' := by
  unfold spK
  have := Nat.mul_le_mul h h2
  omega
def mlK (n m K M : Nat) : Nat := kk ((K + spK n K) + (M + spK m M) + 1) (n * m) + (spK n K + spK m M)
theorem mlK_mono {n n' m m' K K' M M' : Nat} (h1 : n ≤ n') (h2 : m ≤ m') (h3 : K ≤ K') (h4 : M ≤ M') : mlK n m K M ≤ mlK n' m' K' M' := by
  have a := spK_mono h1 h3
  have b := spK_mono h2 h4
  have c := kk_mono (W := (K + spK n K) + (M + spK m M) + 1) (W' := (K' + spK n' K') + (M' + spK m' M') + 1) (by omega) (Nat.mul_le_mul h1 h2)
  unfold mlK
  omega
end Nt
end Go.Proofs.YtnedhbidmfoegaaGreat
namespace Go.Proofs.YtnedhbidmfoegaaGreat
set_option linter.unusedVariables false
namespace Nt
/-- A whole number of at most C bits (and one). -/
def Wh (x : Rat) (C : Nat) : Prop := ∃ z : Int, x = (z : Rat) ∧ z.natAbs ≤ 2 ^ C
def WhL (l : List Rat) (C : Nat) : Prop := ∀ i, Wh (co l i) C
/-- The digits that hold so many bits. -/
def dg (C : Nat) : Nat := C / 32 + 1
theorem dg_mono {A C : Nat} (h : A ≤ C) : dg A ≤ dg C := by unfold dg; omega
theorem Wh.more {x : Rat} {A C : Nat} (h : Wh x A) (k : A ≤ C) : Wh x C := by
  obtain ⟨z, e, b⟩ := h
  exact ⟨z, e, Nat.le_trans b (Nat.pow_le_pow_right (by omega) k)⟩
theorem WhL.more {l : List Rat} {A C : Nat} (h : WhL l A) (k : A ≤ C) : WhL l C := fun i => (h i).more k
theorem Wh.zero (C : Nat) : Wh 0 C := ⟨0, rfl, Nat.zero_le _⟩
theorem Wh.one (C : Nat) : Wh 1 C := ⟨1, rfl, Nat.pos_of_ne_zero (by exact Nat.ne_of_gt (Nat.pow_pos (by omega)))⟩
theorem Wh.mul {x y : Rat} {A B : Nat} (h : Wh x A) (k : Wh y B) : Wh (x * y) (A + B) := by
  obtain ⟨z, rfl, b⟩ := h
  obtain ⟨v, rfl, c⟩ := k
  exact ⟨z * v, by rw [Rat.intCast_mul], by rw [Int.natAbs_mul, Nat.pow_add]; exact Nat.mul_le_mul b c⟩
theorem Wh.sub {x y : Rat} {A : Nat} (h : Wh x A) (k : Wh y A) : Wh (x - y) (A + 1) := by
  obtain ⟨z, rfl, b⟩ := h
  obtain ⟨v, rfl, c⟩ := k
  exact ⟨z - v, by rw [Rat.intCast_sub], by rw [Nat.pow_succ]; omega⟩
theorem Wh.add {x y : Rat} {A : Nat} (h : Wh x A) (k : Wh y A) : Wh (x + y) (A + 1) := by
  obtain ⟨z, rfl, b⟩ := h
  obtain ⟨v, rfl, c⟩ := k
  exact ⟨z + v, by rw [Rat.intCast_add], by rw [Nat.pow_succ]; omega⟩
theorem pwTwo (k : Nat) : pw k = ((2 ^ (32 * k) : Nat) : Int) := by
  induction k with
  | zero => rfl
  | succ k ih =>
    rw [show 32 * (k + 1) = 32 * k + 32 by omega, Nat.pow_add, Int.natCast_mul, ← ih]
    show 4294967296 * pw k = _
    rw [Int.mul_comm]; rfl
theorem Wh.rs {x : Rat} {C : Nat} (h : Wh x C) : rs x ≤ dg C := by
  obtain ⟨z, rfl, b⟩ := h
  refine rs_int ?_ (by unfold dg; omega)
  refine dl_le ?_
  rw [pwTwo]
  refine Int.ofNat_lt.2 (Nat.lt_of_le_of_lt b (Nat.pow_lt_pow_right (by omega) (by unfold dg; omega)))
/-- The parts of a quotient of whole numbers. -/
theorem Wh.quo {x y : Rat} {A B : Nat} (h : Wh x A) (k : Wh y B) (hy : y ≠ 0) : Wh ((x / y).num : Rat) A ∧ Wh (((x / y).den : Nat) : Int) B := by
  obtain ⟨z, rfl, b⟩ := h
  obtain ⟨v, rfl, c⟩ := k
  have hv : v ≠ 0 := by rintro rfl; exact hy rfl
  rw [← div_mk2 hv]
  have hp : 0 < v.natAbs := Int.natAbs_pos.2 hv
  refine ⟨⟨_, rfl, ?_⟩, ⟨_, rfl, ?_⟩⟩
  · rw [(mk_num hp).1, quoI_abs]
    exact Nat.le_trans (Nat.div_le_self _ _) b
  · rw [(mk_den hp).1, Int.natAbs_natCast]
    exact Nat.le_trans (Nat.div_le_self _ _) c
theorem co_take {l : List Rat} {n i : Nat} (h : i < n) : co (l.take n) i = l.getD i 0 := by
  unfold co
  rw [List.getD_eq_getElem?_getD, List.getElem?_take_of_lt h, ← List.getD_eq_getElem?_getD]
/-- The first n elements times q. -/
def mulN (n : Nat) (l : List Rat) (q : Rat) : List Rat := (List.range l.length).map fun i => if i < n then co l i * q else co l i
@[simp] theorem mulN_len (n : Nat) (l : List Rat) (q : Rat) : (mulN n l q).length = l.length := by simp [mulN]
theorem mulN_co (n : Nat) (l : List Rat) (q : Rat) (i : Nat) : co (mulN n l q) i = if i < n then co l i * q else co l i := by
  unfold mulN
  rw [co_range]
  by_cases h : i < l.length
  · rw [if_pos h]
  · rw [if_neg h, co_ge (by omega)]
    split
    · exact (Rat.zero_mul q).symm
    · rfl
theorem list_ext {l m : List Rat} (hl : l.length = m.length) (h : ∀ i, co l i = co m i) : l = m := by
  apply List.ext_getElem? 
  intro i
  have := h i
  unfold co at this
  rw [List.getD_eq_getElem?_getD, List.getD_eq_getElem?_getD] at this
  by_cases hi : i < l.length
  · rw [List.getElem?_eq_getElem hi, List.getElem?_eq_getElem (by omega)] at this ⊢
    simpa using this
  · rw [List.getElem?_eq_none (by omega), List.getElem?_eq_none (by omega)]
theorem mulN_zero (l : List Rat) (q : Rat) : mulN 0 l q = l := list_ext (by simp) fun i => by rw [mulN_co, if_neg (by omega)]
theorem mulN_succ {i : Nat} {l : List Rat} (h : i < l.length) (q : Rat) : mulN (i + 1) l q = (mulN i l q).set i ((mulN i l q).getD i 0 * q) := by
  refine list_ext (by simp) fun k => ?_
  have e0 : (mulN i l q).getD i 0 = co l i := by
    show co (mulN i l q) i = _
    rw [mulN_co, if_neg (Nat.lt_irrefl i)]
  rw [e0, co_set (by simpa using h), mulN_co, mulN_co]
  by_cases e : k = i
  · subst e; rw [if_pos (by omega), if_pos rfl]
  · rw [if_neg e]
    by_cases c : k < i
    · rw [if_pos c, if_pos (by omega)]
    · rw [if_neg c, if_neg (by omega)]
theorem mulN_all {n : Nat} {l : List Rat} (h : ∀ i, n ≤ i → co l i = 0) (q : Rat) : mulN n l q = l.map (· * q) := by
  refine list_ext (by simp) fun i => ?_
  rw [mulN_co, co_map _ (Rat.zero_mul q)]
  split
  · rfl
  · rw [h i (by omega), Rat.zero_mul]
theorem map_one (l : List Rat) : l.map (· * (1 : Rat)) = l := by
  have : (fun x : Rat => x * 1) = id := by funext x; exact Rat.mul_one x
  rw [this, List.map_id]
theorem WhL.map {l : List Rat} {q : Rat} {A B : Nat} (h : WhL l A) (k : Wh q B) : WhL (l.map (· * q)) (A + B) := fun i => by
  rw [co_map _ (Rat.zero_mul q)]; exact (h i).mul k
theorem WhL.mulN {l : List Rat} {q : Rat} {A B : Nat} (h : WhL l A) (k : Wh q B) (n : Nat) : WhL (mulN n l q) (A + B) := fun i => by
  rw [mulN_co]; split
  · exact (h i).mul k
  · exact (h i).more (by omega)
theorem WhL.set {l : List Rat} {x : Rat} {A : Nat} (h : WhL l A) (k : Wh x A) (i : Nat) : WhL (l.set i x) A := fun j => by
  by_cases hi : i < l.length
  · rw [co_set hi]; split
    · exact k
    · exact h j
  · rw [List.set_eq_of_length_le (by omega)]; exact h j
/-- c times q is taken away from the place a on; j elements are done. -/
def subN (a : Nat) (c : Rat) (q t : List Rat) : Nat → List Rat
  | 0 => t
  | j + 1 => (subN a c q t j).set (a + j) ((subN a c q t j).getD (a + j) 0 - c * q.getD j 0)
@[simp] theorem subN_len (a : Nat) (c : Rat) (q t : List Rat) (j : Nat) : (subN a c q t j).length = t.length := by
  induction j with
  | zero => rfl
  | succ j ih => simp [subN, ih]
theorem subN_co {a : Nat} {c : Rat} {q t : List Rat} {j : Nat} (h : a + j ≤ t.length) (k : Nat) : co (subN a c q t j) k = co t k - (if a ≤ k ∧ k < a + j then c * co q (k - a) else 0) := by
  induction j with
  | zero => rw [if_neg (by omega)]; show co t k = _; grind
  | succ j ih =>
    have ih := ih (by omega)
    unfold subN
    rw [co_set (by simp; omega)]
    by_cases e : k = a + j
    · rw [if_pos e]
      subst e
      show co (subN a c q t j) (a + j) - c * co q j = _
      rw [ih, if_neg (by omega), if_pos (by omega), show a + j - a = j by omega]
      grind
    · rw [if_neg e, ih]
      by_cases c : a ≤ k ∧ k < a + j
      · rw [if_pos c, if_pos (by omega)]
      · rw [if_neg c, if_neg (by omega)]
theorem WhL.subN {t q : List Rat} {c : Rat} {D : Nat} (ht : WhL t D) (hc : ∀ i, Wh (c * co q i) D) {a j : Nat} (h : a + j ≤ t.length) : WhL (subN a c q t j) (D + 1) := fun k => by
  rw [subN_co h]
  split
  · exact (ht k).sub (hc _)
  · exact (ht k).sub (Wh.zero D)
/-- A product in which one coefficient of the first factor is set anew. -/
theorem mulQ_set {s : List Rat} {a : Nat} (ha : a < s.length) (h0 : co s a = 0) (x : Rat) (q : List Rat) (k : Nat) : co (mulQ (s.set a x) q) k = co (mulQ s q) k + (if a ≤ k then x * co q (k - a) else 0) := by
  induction s generalizing a k with
  | nil => simp at ha
  | cons b s ih =>
    cases a with
    | zero =>
      have hb : b = 0 := h0
      rw [List.set_cons_zero, mulQ_cons, mulQ_cons, hb, if_pos (Nat.zero_le _), Nat.sub_zero]
      grind
    | succ a =>
      rw [List.set_cons_succ, mulQ_cons, mulQ_cons]
      unfold sh
      cases k with
      | zero => rw [if_pos rfl, if_pos rfl, if_neg (by omega)]; grind
      | succ k =>
        simp only [Nat.add_one_ne_zero, if_false, Nat.add_sub_cancel]
        rw [ih (by simpa using ha) (by rw [← co_succ b]; exact h0)]
        by_cases c : a ≤ k
        · rw [if_pos c, if_pos (by omega), show k + 1 - (a + 1) = k - a by omega]; grind
        · rw [if_neg c, if_neg (by omega)]; grind
/-- What holds in a division of p by q: f p = s q + t, t has n coefficients left. -/
structure DivI (p q : List Rat) (n : Nat) (s t : List Rat) (f : Rat) : Prop where
  sl : s.length = p.length - q.length + 1
  tl : t.length = p.length
  tz : ∀ i, n ≤ i → co t i = 0
  sz : ∀ i, i + q.length ≤ n → co s i = 0
  f0 : f ≠ 0
  eq : ∀ i, f * co p i = co (mulQ s q) i + co t i
theorem DivI.begin (p q : List Rat) : DivI p q p.length (List.replicate (p.length - q.length + 1) 0) p 1 := by
  have hz : ∀ i, co (List.replicate (p.length - q.length + 1) (0 : Rat)) i = 0 := fun i => by
    unfold co; rw [List.getD_eq_getElem?_getD, List.getElem?_replicate]; split <;> rfl
  refine ⟨by simp, rfl, fun i hi => co_ge hi, fun i _ => hz i, by decide, fun i => ?_⟩
  rw [mulQ_zero hz]; grind
/-- One step. -/
theorem DivI.step {p q s t : List Rat} {n : Nat} {f : Rat} (h : DivI p q n s t f) (hn : n ≤ p.length) (hqn : q.length ≤ n) (hq : 0 < q.length) (hl : co q (q.length - 1) ≠ 0) {x d : Rat} (hd : d ≠ 0) (hx : co t (n - 1) * d = x * co q (q.length - 1)) :
    DivI p q (n - 1) ((s.map (· * d)).set (n - q.length) x) (subN (n - q.length) x q (t.map (· * d)) q.length) (f * d) := by
  have hsl := h.sl
  have htl := h.tl
  have ht : ∀ k, co (subN (n - q.length) x q (t.map (· * d)) q.length) k = co t k * d - (if n - q.length ≤ k ∧ k < n - q.length + q.length then x * co q (k - (n - q.length)) else 0) := fun k => by
    rw [subN_co (by simp; omega), co_map _ (Rat.zero_mul d)]
  refine ⟨by simp [hsl], by simp [htl], fun i hi => ?_, fun i hi => ?_, fun k => ?_, fun i => ?_⟩
  · rw [ht]
    by_cases e : i = n - 1
    · subst e
      rw [if_pos (by omega), show n - 1 - (n - q.length) = q.length - 1 by omega, hx]; grind
    · rw [h.tz i (by omega), if_neg (by omega)]; grind
  · rw [co_set (by simp; omega), if_neg (by omega), co_map _ (Rat.zero_mul d), h.sz i (by omega)]; grind
  · rcases Rat.mul_eq_zero.1 k with k | k
    · exact h.f0 k
    · exact hd k
  · have hs0 : co (s.map (· * d)) (n - q.length) = 0 := by rw [co_map _ (Rat.zero_mul d), h.sz _ (by omega), Rat.zero_mul]
    rw [mulQ_set (by simp; omega) hs0, ht]
    have e1 : s.map (· * d) = s.map (d * ·) := by congr 1; funext x; exact Rat.mul_comm _ _
    rw [e1, mulQ_scale_l]
    have hh := h.eq i
    by_cases c : n - q.length ≤ i
    · rw [if_pos c]
      by_cases c2 : i < n - q.length + q.length
      · rw [if_pos ⟨c, c2⟩]; grind
      · rw [if_neg (by omega), co_ge (l := q) (by omega)]; grind
    · rw [if_neg c, if_neg (by omega)]; grind
theorem DivI.less {p q s t : List Rat} {n m : Nat} {f : Rat} (h : DivI p q n s t f) (hm : m ≤ n) (hz : ∀ i, m ≤ i → co t i = 0) : DivI p q m s t f := ⟨h.sl, h.tl, hz, fun i hi => h.sz i (by omega), h.f0, h.eq⟩
theorem cmp_same {x y : Rat} (h : (cmpQ x y != (0 : Int)) = false) : x = y := by
  have h2 : (cmpQ x y == (0 : Int)) = true := by
    cases e : (cmpQ x y == (0 : Int)) with
    | true => rfl
    | false => rw [bne, e] at h; cases h
  rw [cmpQ_eq] at h2
  exact of_decide_eq_true h2
theorem co_takez {t : List Rat} {n : Nat} (h : ∀ i, n ≤ i → co t i = 0) (i : Nat) : co (t.take n) i = co t i := by
  by_cases c : i < n
  · rw [co_take c]; rfl
  · rw [h i (by omega), co_ge (by rw [List.length_take]; omega)]
theorem WhL.take {t : List Rat} {C : Nat} (h : WhL t C) (n : Nat) : WhL (t.take n) C := fun i => by
  by_cases c : i < n
  · rw [co_take c]; exact h i
  · rw [co_ge (by rw [List.length_take]; omega)]; exact Wh.zero C
/-- The quotient of the last coefficients, in lowest terms. -/
theorem quo_step {x y : Rat} (hy : y ≠ 0) : x * ((((x / y).den : Nat) : Int) : Rat) = (((x / y).num : Int) : Rat) * y ∧ ((((x / y).den : Nat) : Int) : Rat) ≠ 0 := by
  have hd : ((((x / y).den : Nat) : Int) : Rat) ≠ 0 := Ne.symm (Rat.ne_of_lt (Rat.natCast_pos.2 (den_pos' (x / y))))
  have e : x / y = (((x / y).num : Int) : Rat) / ((((x / y).den : Nat) : Int) : Rat) := by
    have h := (Rat.mkRat_self (x / y)).symm
    rw [Rat.mkRat_eq_div] at h
    exact h
  refine ⟨?_, hd⟩
  generalize (((x / y).num : Int) : Rat) = N at *
  generalize ((((x / y).den : Nat) : Int) : Rat) = D at *
  have h1 : x = N / D * y := by rw [← e]; grind
  rw [h1]; grind
/-- What cut leaves. -/
theorem cut_lenQ {t : List Rat} {n m : Nat} (h : ∀ i, n ≤ i → co t i = 0) (hn : n ≤ m) : (trimQ (t.take m)).length ≤ n := by
  apply Classical.byContradiction
  intro k
  have h1 := nrm_last (trim_nrm (t.take m)) (by intro e; rw [e] at k; simp at k)
  rw [trim_co] at h1
  apply h1
  by_cases c : (trimQ (t.take m)).length - 1 < m
  · rw [co_take c]; exact h _ (by omega)
  · exact co_ge (by rw [List.length_take]; omega)
theorem cut_zeroQ {t : List Rat} {m : Nat} (h : ∀ i, m ≤ i → co t i = 0) : ∀ i, (trimQ (t.take m)).length ≤ i → co t i = 0 := by
  intro i hi
  rw [← co_takez h, ← trim_co]
  exact co_ge hi
/-- f p = s q + t, and t is shorter than q. -/
structure DivR (p q s t : List Rat) (f : Rat) : Prop where
  f0 : f ≠ 0
  eq : ∀ i, f * co p i = co (mulQ s q) i + co t i
  lt : t.length < q.length
  tl : t.length ≤ p.length
  sl : s.length ≤ p.length + 1
theorem DivI.done {p q s t : List Rat} {n : Nat} {f : Rat} (h : DivI p q n s t f) (hn : n < q.length) : DivR p q s (t.take n) f := ⟨h.f0, fun i => by rw [co_takez h.tz]; exact h.eq i, by rw [List.length_take]; omega, by rw [List.length_take, h.tl]; omega, by rw [h.sl]; omega⟩
theorem divR_self {p q : List Rat} (h : p.length < q.length) : DivR p q [] p 1 := ⟨by decide, fun i => by rw [mulQ_nil]; grind, h, Nat.le_refl _, Nat.zero_le _⟩
theorem whL_nil (C : Nat) : WhL [] C := fun i => by rw [co_nil]; exact Wh.zero C
theorem whL_rep (n C : Nat) : WhL (List.replicate n 0) C := fun i => by
  unfold co; rw [List.getD_eq_getElem?_getD, List.getElem?_replicate]; split <;> exact Wh.zero C
/-- The bits that the steps need. -/
theorem bits_le {a b k k9 C : Nat} (hC : a + k * (b + 1) ≤ C) (h : k9 ≤ k) : a + k9 * (b + 1) ≤ C := by
  have h2 := Nat.mul_le_mul_right (b + 1) h
  omega
end Nt
section
open Go.RowKit
variable {u u' : World} {L : List RL} {X : List Value} {r : RL} {i : Nat} {l : List Rat} {K C : Nat}
/-- Lists of the call's own with spare cells behind them. -/
theorem part_rcsX (h : i < L.length) {off : Nat} (ho : off = i * 3) : PartIs (rcs L ++ X) off true 3 (.v (L.getD i rl0).v) := by
  have h1 := part_rcs h ho
  have h2 := rcs_len (L := L)
  refine ⟨by rw [List.length_append]; have := h1.1; omega, ?_⟩
  rw [List.drop_append_of_le_length (by omega), List.take_append_of_le_length (by rw [List.length_drop]; omega)]
  exact h1.2
theorem setL_rcsX (h : i < L.length) {off : Nat} (ho : off = i * 3) : setL (rcs L ++ X) off r.v.cells.toList = rcs (L.set i r) ++ X := by
  have h1 := setL_rcs (r := r) h ho
  have h2 := rcs_len (L := L)
  rw [← h1]
  unfold setL
  have e : r.v.cells.toList.length = 3 := rfl
  rw [e, List.take_append_of_le_length (by omega), List.drop_append_of_le_length (by omega)]
  simp
theorem RatsN.fit (h : RatsN u L l K) (k : Nt.WhL l C) : RatsN u L l (Nt.dg C) := ⟨h.1, fun i hi => (h.2 i hi).fit (k i).rs⟩
theorem PolN.fitW {x : Sl} (h : PolN u x l K) (k : Nt.WhL l C) : PolN u x l (Nt.dg C) := by obtain ⟨L, h1, h2⟩ := h; exact ⟨L, h1, h2.fit k⟩
theorem pol_dataX {t : TypeId} {b n c : Nat} (h : u.heap[b]? = some (.cells (rcs L ++ X).toArray t (0, 0))) (hl : (rcs L ++ X).length = c * 3) (hm : c ≤ maxLen) (hL : RatsN u L l K) (hn : n ≤ l.length) : PolN u ⟨some ⟨b, 0, none⟩, n, c⟩ (l.take n) K := by
  have h2 := rcs_len (L := L)
  have h3 := hL.1
  have h4 : (rcs L ++ X).length = L.length * 3 + X.length := by rw [List.length_append, h2]
  refine pol_data h (L := L.take n) ?_ hl (by omega) hm (hL.take n)
  rw [List.take_append_of_le_length (by omega), rcs_take]
end
end Go.Proofs.YtnedhbidmfoegaaGreat
namespace Go.Proofs.YtnedhbidmfoegaaGreat
set_option linter.unusedVariables false
namespace Nt
/-- A polynomial: a list without zeros at its end. -/
structure Pol where
  l : List Rat
  h : Nrm l
namespace Pol
def mk' (l : List Rat) : Pol := ⟨trimQ l, trim_nrm l⟩
def c (p : Pol) (i : Nat) : Rat := co p.l i
theorem mk_c (l : List Rat) (i : Nat) : (mk' l).c i = co l i := trim_co l i
theorem ext {p q : Pol} (h : ∀ i, p.c i = q.c i) : p = q := by
  obtain ⟨l, hl⟩ := p
  obtain ⟨m, hm⟩ := q
  have e : trimQ l = trimQ m := trim_ext h
  unfold Nrm at hl hm
  rw [hl, hm] at e
  subst e; rfl
theorem mk_eq {l m : List Rat} : mk' l = mk' m ↔ trimQ l = trimQ m := ⟨fun h => congrArg Pol.l h, fun h => by unfold mk'; simp [h]⟩
theorem mk_l (p : Pol) : mk' p.l = p := ext fun i => mk_c _ i
def C (a : Rat) : Pol := mk' [a]
instance (n : Nat) : OfNat Pol n := ⟨C (n : Rat)⟩
instance : Add Pol := ⟨fun p q => mk' (addQ p.l q.l)⟩
instance : Mul Pol := ⟨fun p q => mk' (mulQ p.l q.l)⟩
instance : Neg Pol := ⟨fun p => mk' (negQ p.l)⟩
instance : Sub Pol := ⟨fun p q => p + -q⟩
def X : Pol := mk' [0, 1]
theorem c_add (p q : Pol) (i : Nat) : (p + q).c i = p.c i + q.c i := (mk_c _ i).trans (addQ_co _ _ i)
theorem c_neg (p : Pol) (i : Nat) : (-p).c i = -p.c i := (mk_c _ i).trans (negQ_co _ i)
theorem c_sub (p q : Pol) (i : Nat) : (p - q).c i = p.c i - q.c i := by
  show (p + -q).c i = _
  rw [c_add, c_neg]; grind
theorem c_C (a : Rat) (i : Nat) : (C a).c i = if i = 0 then a else 0 := by
  unfold C
  rw [mk_c]
  cases i with
  | zero => rfl
  | succ i => rw [co_succ, co_nil, if_neg (by omega)]
theorem c_zero (i : Nat) : (0 : Pol).c i = 0 := by
  have h : (0 : Pol).c i = if i = 0 then (0 : Rat) else 0 := c_C 0 i
  rw [h]; split <;> rfl
theorem zero_l : (0 : Pol).l = [] := trim_nil_iff.2 fun i => by
  have := c_zero i
  unfold c at this
  show co [((0 : Nat) : Rat)] i = 0
  rw [← trim_co]; exact this
theorem mk_mul (l m : List Rat) : mk' (mulQ l m) = mk' l * mk' m := ext fun i => by
  show _ = (mk' (mulQ (trimQ l) (trimQ m))).c i
  rw [mk_c, mk_c]
  exact mulQ_congr (fun i => (trim_co l i).symm) (fun i => (trim_co m i).symm) i
theorem c_mul (p q : Pol) (i : Nat) : (p * q).c i = co (mulQ p.l q.l) i := mk_c _ i
theorem mk_cons (a : Rat) (l : List Rat) (i : Nat) : (mk' (a :: l)).c i = if i = 0 then a else (mk' l).c (i - 1) := by
  rw [mk_c]
  cases i with
  | zero => rfl
  | succ i => rw [co_succ, if_neg (by omega), mk_c]; rfl
/-- The product, from the other side. -/
theorem mulQ_consR (l : List Rat) (b : Rat) (m : List Rat) (k : Nat) : co (mulQ l (b :: m)) k = b * co l k + sh (co (mulQ l m)) k := by
  induction l generalizing k with
  | nil =>
    rw [mulQ_nil, co_nil]
    have e : sh (co (mulQ [] m)) k = 0 := by unfold sh; split <;> rfl
    rw [e]; grind
  | cons a l ih =>
    rw [mulQ_cons]
    cases k with
    | zero => unfold sh; rw [if_pos rfl, if_pos rfl, co_zero, co_zero]; grind
    | succ k =>
      have e1 : sh (co (mulQ l (b :: m))) (k + 1) = b * co l k + sh (co (mulQ l m)) k := by
        unfold sh; rw [if_neg (by omega), Nat.add_sub_cancel]; exact ih k
      have e2 : sh (co (mulQ (a :: l) m)) (k + 1) = a * co m k + sh (co (mulQ l m)) k := by
        unfold sh; rw [if_neg (by omega), Nat.add_sub_cancel]; exact mulQ_cons a l m k
      rw [e1, e2, co_succ, co_succ]; grind
theorem mulQ_comm (l m : List Rat) (k : Nat) : co (mulQ l m) k = co (mulQ m l) k := by
  induction l generalizing k with
  | nil =>
    rw [mulQ_nil]
    exact (mulQ_zero_r (m := []) (fun i => co_nil i) m k).symm
  | cons a l ih =>
    rw [mulQ_cons, mulQ_consR]
    have e : sh (co (mulQ l m)) k = sh (co (mulQ m l)) k := by unfold sh; split; rfl; exact ih _
    rw [e]
theorem mulQ_add (l l' m : List Rat) (k : Nat) : co (mulQ (addQ l l') m) k = co (mulQ l m) k + co (mulQ l' m) k := by
  induction m generalizing k with
  | nil =>
    rw [mulQ_zero_r (fun i => co_nil i), mulQ_zero_r (fun i => co_nil i), mulQ_zero_r (fun i => co_nil i)]; exact (Rat.add_zero 0).symm
  | cons b m ih =>
    rw [mulQ_consR, mulQ_consR, mulQ_consR, addQ_co]
    cases k with
    | zero => unfold sh; rw [if_pos rfl, if_pos rfl, if_pos rfl]; grind
    | succ k =>
      have e : ∀ x : List Rat, sh (co x) (k + 1) = co x k := fun x => by unfold sh; rw [if_neg (by omega), Nat.add_sub_cancel]
      rw [e, e, e, ih k]; grind
theorem mulQ_assoc (l m n : List Rat) (k : Nat) : co (mulQ (mulQ l m) n) k = co (mulQ l (mulQ m n)) k := by
  induction l generalizing k with
  | nil => rfl
  | cons a l ih =>
    show co (mulQ (addQ (m.map (a * ·)) (0 :: mulQ l m)) n) k = _
    rw [mulQ_add, mulQ_scale_l, mulQ_cons, mulQ_cons]
    cases k with
    | zero => unfold sh; rw [if_pos rfl, if_pos rfl]; grind
    | succ k =>
      have e : ∀ x : List Rat, sh (co x) (k + 1) = co x k := fun x => by unfold sh; rw [if_neg (by omega), Nat.add_sub_cancel]
      rw [e, e, ih k]; grind
theorem mulQ_one (m : List Rat) (k : Nat) : co (mulQ [1] m) k = co m k := by
  rw [mulQ_cons]
  have e : sh (co (mulQ [] m)) k = 0 := by unfold sh; split <;> rfl
  rw [e]; grind
theorem mul_comm (p q : Pol) : p * q = q * p := ext fun i => by rw [c_mul, c_mul, mulQ_comm]
theorem mul_assoc (p q r : Pol) : p * q * r = p * (q * r) := ext fun i => by
  rw [c_mul, c_mul]
  show co (mulQ (trimQ (mulQ p.l q.l)) r.l) i = co (mulQ p.l (trimQ (mulQ q.l r.l))) i
  rw [mulQ_congr (l' := mulQ p.l q.l) (m' := r.l) (trim_co _) (fun _ => rfl), mulQ_congr (l' := p.l) (m' := mulQ q.l r.l) (fun _ => rfl) (trim_co _)]
  exact mulQ_assoc _ _ _ i
theorem one_mul (p : Pol) : 1 * p = p := ext fun i => by
  rw [c_mul]
  show co (mulQ (trimQ [((1 : Nat) : Rat)]) p.l) i = _
  rw [mulQ_congr (l' := [((1 : Nat) : Rat)]) (m' := p.l) (trim_co _) (fun _ => rfl)]
  exact mulQ_one _ i
theorem right_distrib (p q r : Pol) : (p + q) * r = p * r + q * r := ext fun i => by
  rw [c_mul, c_add, c_mul, c_mul]
  show co (mulQ (trimQ (addQ p.l q.l)) r.l) i = _
  rw [mulQ_congr (l' := addQ p.l q.l) (m' := r.l) (trim_co _) (fun _ => rfl)]
  exact mulQ_add _ _ _ i
theorem add_comm (p q : Pol) : p + q = q + p := ext fun i => by rw [c_add, c_add]; grind
theorem add_assoc (p q r : Pol) : p + q + r = p + (q + r) := ext fun i => by rw [c_add, c_add, c_add, c_add]; grind
theorem add_zero (p : Pol) : p + 0 = p := ext fun i => by rw [c_add, c_zero]; grind
theorem neg_add_cancel (p : Pol) : -p + p = 0 := ext fun i => by rw [c_add, c_neg, c_zero]; grind
theorem zero_mul (p : Pol) : 0 * p = 0 := ext fun i => by rw [c_mul, zero_l, mulQ_nil, c_zero]
theorem left_distrib (p q r : Pol) : p * (q + r) = p * q + p * r := by rw [mul_comm, right_distrib, mul_comm q, mul_comm r]
theorem mul_zero (p : Pol) : p * 0 = 0 := by rw [mul_comm, zero_mul]
theorem mul_one (p : Pol) : p * 1 = p := by rw [mul_comm, one_mul]
instance : NatCast Pol := ⟨fun n => C (n : Rat)⟩
instance : IntCast Pol := ⟨fun n => C (n : Rat)⟩
def npow (p : Pol) : Nat → Pol
  | 0 => 1
  | n + 1 => npow p n * p
instance : HPow Pol Nat Pol := ⟨npow⟩
instance : SMul Nat Pol := ⟨fun n p => C (n : Rat) * p⟩
instance : SMul Int Pol := ⟨fun n p => C (n : Rat) * p⟩
theorem C_add (a b : Rat) : C (a + b) = C a + C b := ext fun i => by
  rw [c_add, c_C, c_C, c_C]; split <;> grind
theorem C_neg (a : Rat) : C (-a) = -C a := ext fun i => by
  rw [c_neg, c_C, c_C]; split <;> grind
theorem C_mul (a b : Rat) : C (a * b) = C a * C b := by
  show mk' [a * b] = mk' [a] * mk' [b]
  rw [← mk_mul]
  refine ext fun i => ?_
  rw [mk_c, mk_c, mulQ_cons]
  have e : sh (co (mulQ [] [b])) i = 0 := by unfold sh; split <;> rfl
  rw [e]
  cases i with
  | zero => rw [co_zero, co_zero]; grind
  | succ i => rw [co_succ, co_succ, co_nil]; grind
instance : Lean.Grind.CommRing Pol where
  add_zero := add_zero
  add_comm := add_comm
  add_assoc := add_assoc
  mul_assoc := mul_assoc
  mul_one := mul_one
  one_mul := one_mul
  left_distrib := left_distrib
  right_distrib := right_distrib
  zero_mul := zero_mul
  mul_zero := mul_zero
  mul_comm := mul_comm
  pow_zero := fun p => rfl
  pow_succ := fun p n => rfl
  neg_add_cancel := neg_add_cancel
  sub_eq_add_neg := fun p q => rfl
  ofNat_succ := fun n => by
    show C ((n + 1 : Nat) : Rat) = C (n : Rat) + C 1
    rw [← C_add]; congr 1
    exact Rat.natCast_add n 1
  ofNat_eq_natCast := fun n => rfl
  intCast_ofNat := fun n => rfl
  intCast_neg := fun n => by
    show C ((-n : Int) : Rat) = -C (n : Rat)
    rw [← C_neg, Rat.intCast_neg]
  nsmul_eq_natCast_mul := fun n p => rfl
  zsmul_natCast_eq_nsmul := fun n p => rfl
  neg_zsmul := fun n p => by
    show C ((-n : Int) : Rat) * p = -(C (n : Rat) * p)
    rw [Rat.intCast_neg, C_neg]
    refine ext fun i => ?_
    rw [c_neg, c_mul, c_mul]
    show co (mulQ (trimQ (negQ (C (n : Rat)).l)) p.l) i = _
    rw [mulQ_congr (l' := negQ (C (n : Rat)).l) (m' := p.l) (trim_co _) (fun _ => rfl)]
    have e : negQ (C (n : Rat)).l = (C (n : Rat)).l.map ((-1) * ·) := by unfold negQ; congr 1; funext x; grind
    rw [e, mulQ_scale_l]; grind
example (p q : Pol) : (p + q) * (p - q) = p * p - q * q := by grind
example (p q : Pol) : (p + q) ^ 2 = p ^ 2 + 2 * p * q + q ^ 2 := by grind
end Pol
end Nt
end Go.Proofs.YtnedhbidmfoegaaGreat
namespace Go.Proofs.YtnedhbidmfoegaaGreat
set_option linter.unusedVariables false
namespace Nt
theorem mulQ_far {l m : List Rat} {k : Nat} (h : l.length + m.length ≤ k + 1) : co (mulQ l m) k = 0 := by
  induction l generalizing k with
  | nil => rfl
  | cons a l ih =>
    rw [mulQ_cons, co_ge (l := m) (by simp at h; omega)]
    unfold sh
    split
    · grind
    · rw [ih (by simp at h; omega)]; grind
theorem mulQ_top {l m : List Rat} (hl : 0 < l.length) (hm : 0 < m.length) : co (mulQ l m) (l.length + m.length - 2) = co l (l.length - 1) * co m (m.length - 1) := by
  induction l with
  | nil => simp at hl
  | cons a l ih =>
    rw [mulQ_cons]
    cases l with
    | nil =>
      have e : sh (co (mulQ [] m)) ([a].length + m.length - 2) = 0 := by unfold sh; split <;> rfl
      rw [e]
      show a * co m (1 + m.length - 2) + 0 = a * co m (m.length - 1)
      rw [show 1 + m.length - 2 = m.length - 1 by omega]; grind
    | cons b l =>
      have ih := ih (by simp)
      rw [co_ge (l := m) (by simp; omega)]
      unfold sh
      rw [if_neg (by simp; omega)]
      have e : (a :: b :: l).length + m.length - 2 - 1 = (b :: l).length + m.length - 2 := by simp; omega
      rw [e, ih, show (a :: b :: l).length - 1 = ((b :: l).length - 1) + 1 by simp, co_succ]; grind
namespace Pol
def len (p : Pol) : Nat := p.l.length
def lead (p : Pol) : Rat := p.c (p.len - 1)
theorem c_ge {p : Pol} {i : Nat} (h : p.len ≤ i) : p.c i = 0 := co_ge h
theorem len_le {p : Pol} {n : Nat} (h : ∀ i, n ≤ i → p.c i = 0) : p.len ≤ n := by
  apply Classical.byContradiction
  intro k
  have h1 : p.l.length > n := by unfold len at k; omega
  have h2 := nrm_last p.h (by intro e; rw [e] at h1; simp at h1)
  exact h2 (h _ (by omega))
theorem len_zero : (0 : Pol).len = 0 := by unfold len; rw [zero_l]; rfl
theorem zero_of_len {p : Pol} (h : p.len = 0) : p = 0 := ext fun i => by rw [c_zero, c_ge (by omega)]
theorem len_pos {p : Pol} (h : p ≠ 0) : 0 < p.len := by
  rcases Nat.eq_zero_or_pos p.len with k | k
  · exact absurd (zero_of_len k) h
  · exact k
theorem ne_of_len {p : Pol} (h : 0 < p.len) : p ≠ 0 := by rintro rfl; rw [len_zero] at h; omega
theorem lead_ne {p : Pol} (h : p ≠ 0) : p.lead ≠ 0 := nrm_last p.h (by intro e; have := len_pos h; unfold len at this; rw [e] at this; simp at this)
theorem c_ne_len {p : Pol} {i : Nat} (h : p.c i ≠ 0) : i < p.len := by
  apply Classical.byContradiction
  intro k
  exact h (c_ge (by omega))
theorem mul_far {p q : Pol} {k : Nat} (h : p.len + q.len ≤ k + 1) : (p * q).c k = 0 := by rw [c_mul]; exact mulQ_far h
theorem mul_top {p q : Pol} (hp : p ≠ 0) (hq : q ≠ 0) : (p * q).c (p.len + q.len - 2) = p.lead * q.lead := by rw [c_mul]; exact mulQ_top (len_pos hp) (len_pos hq)
theorem len_mul {p q : Pol} (hp : p ≠ 0) (hq : q ≠ 0) : (p * q).len + 1 = p.len + q.len := by
  have h1 := len_pos hp
  have h2 := len_pos hq
  have h3 : (p * q).len ≤ p.len + q.len - 1 := len_le fun i hi => mul_far (by omega)
  have h4 : (p * q).c (p.len + q.len - 2) ≠ 0 := by
    rw [mul_top hp hq]
    intro k
    rcases Rat.mul_eq_zero.1 k with k | k
    · exact lead_ne hp k
    · exact lead_ne hq k
  have := c_ne_len h4
  omega
theorem mul_ne {p q : Pol} (hp : p ≠ 0) (hq : q ≠ 0) : p * q ≠ 0 := by
  apply ne_of_len
  have := len_mul hp hq
  have := len_pos hp
  have := len_pos hq
  omega
theorem lead_mul {p q : Pol} (hp : p ≠ 0) (hq : q ≠ 0) : (p * q).lead = p.lead * q.lead := by
  unfold lead
  have h := len_mul hp hq
  have h1 := len_pos hp
  have h2 := len_pos hq
  rw [show (p * q).len - 1 = p.len + q.len - 2 by omega]
  exact mul_top hp hq
theorem eq_zero_of_mul {p q : Pol} (h : p * q = 0) : p = 0 ∨ q = 0 := by
  apply Classical.byContradiction
  intro k
  exact mul_ne (fun e => k (.inl e)) (fun e => k (.inr e)) h
theorem mul_cancel {p q r : Pol} (hr : r ≠ 0) (h : p * r = q * r) : p = q := by
  have h1 : (p - q) * r = 0 := by grind
  rcases eq_zero_of_mul h1 with k | k
  · grind
  · exact absurd k hr
theorem len_sub (p q : Pol) : (p - q).len ≤ max p.len q.len := len_le fun i hi => by rw [c_sub, c_ge (by omega), c_ge (by omega)]; grind
theorem C_ne {a : Rat} (h : a ≠ 0) : C a ≠ 0 := fun e => h (by have := c_C a 0; rw [e, c_zero] at this; simpa using this.symm)
theorem len_C {a : Rat} (h : a ≠ 0) : (C a).len = 1 := by
  have h1 : (C a).len ≤ 1 := len_le fun i hi => by rw [c_C, if_neg (by omega)]
  have := len_pos (C_ne h)
  omega
theorem lead_C {a : Rat} (h : a ≠ 0) : (C a).lead = a := by unfold lead; rw [len_C h, c_C, if_pos rfl]
theorem is_C {p : Pol} (h : p.len ≤ 1) : p = C (p.c 0) := ext fun i => by
  rw [c_C]
  split
  · rename_i e; rw [e]
  · exact c_ge (by omega)
theorem C_inv {a : Rat} (h : a ≠ 0) : C a * C (1 / a) = 1 := by
  rw [← C_mul, show a * (1 / a) = 1 by grind]; rfl
theorem C_mul_c (a : Rat) (p : Pol) (i : Nat) : (C a * p).c i = a * p.c i := by
  rw [c_mul]
  show co (mulQ (trimQ [a]) p.l) i = _
  rw [mulQ_congr (l' := [a]) (m' := p.l) (trim_co _) (fun _ => rfl), mulQ_cons]
  have e : sh (co (mulQ [] p.l)) i = 0 := by unfold sh; split <;> rfl
  rw [e]
  show a * p.c i + 0 = _
  grind
theorem len_Cmul {a : Rat} (h : a ≠ 0) (p : Pol) : (C a * p).len = p.len := by
  by_cases hp : p = 0
  · subst hp; rw [mul_zero]
  · have := len_mul (C_ne h) hp
    rw [len_C h] at this
    omega
/-- Division has one answer. -/
theorem div_unique {u v u' v' q : Pol} (h : u * q + v = u' * q + v') (hv : v.len < q.len) (hv' : v'.len < q.len) : u = u' ∧ v = v' := by
  have hq : q ≠ 0 := ne_of_len (by omega)
  have h1 : (u - u') * q = v' - v := by grind
  have h2 : u - u' = 0 := by
    apply Classical.byContradiction
    intro k
    have h3 := len_mul k hq
    rw [h1] at h3
    have h4 := len_sub v' v
    have h5 := len_pos k
    omega
  have h3 : u = u' := by grind
  subst h3
  exact ⟨rfl, by grind⟩
instance : Dvd Pol := ⟨fun q p => ∃ u, p = q * u⟩
/-- The monic greatest common divisor, or 0. -/
structure IsGcd (p q g : Pol) : Prop where
  m : g = 0 ∨ g.lead = 1
  l : g ∣ p
  r : g ∣ q
  s : ∃ u v, g = u * p + v * q
theorem one_ne : (1 : Pol) ≠ 0 := C_ne (a := 1) (by decide)
theorem monic_unit {a b : Pol} (h : a * b = 1) : a.len = 1 := by
  have ha : a ≠ 0 := by rintro rfl; rw [zero_mul] at h; exact one_ne h.symm
  have hb : b ≠ 0 := by rintro rfl; rw [mul_zero] at h; exact one_ne h.symm
  have h1 := len_mul ha hb
  rw [h] at h1
  have h2 : (1 : Pol).len = 1 := len_C (a := 1) (by decide)
  have := len_pos ha
  have := len_pos hb
  omega
theorem dvd_antisymm {g g' : Pol} (h1 : g = 0 ∨ g.lead = 1) (h2 : g' = 0 ∨ g'.lead = 1) (h : g ∣ g') (k : g' ∣ g) : g = g' := by
  obtain ⟨a, ha⟩ := h
  obtain ⟨b, hb⟩ := k
  by_cases hg : g = 0
  · subst hg; rw [zero_mul] at ha; exact ha.symm
  · have e : (a * b) * g = 1 * g := by rw [one_mul]; grind
    have e1 := mul_cancel hg e
    have ha0 : a ≠ 0 := by rintro rfl; rw [zero_mul] at e1; exact one_ne e1.symm
    have h3 := is_C (Nat.le_of_eq (monic_unit e1))
    have hg' : g' ≠ 0 := by rw [ha]; exact mul_ne hg ha0
    have h4 := lead_mul hg ha0
    rw [← ha] at h4
    have h5 : g.lead = 1 := h1.resolve_left hg
    have h6 : g'.lead = 1 := h2.resolve_left hg'
    rw [h5, h6] at h4
    have h7 : a.c 0 ≠ 0 := fun e => ha0 (by rw [h3, e]; rfl)
    have h8 : a.lead = a.c 0 := by unfold lead; rw [monic_unit e1]
    have h9 : a = 1 := by rw [h3, ← h8, show a.lead = 1 by grind]; rfl
    rw [ha, h9, mul_one]
theorem IsGcd.unique {p q g g' : Pol} (h : IsGcd p q g) (k : IsGcd p q g') : g = g' := by
  obtain ⟨a, ha⟩ := h.l
  obtain ⟨b, hb⟩ := h.r
  obtain ⟨a', ha'⟩ := k.l
  obtain ⟨b', hb'⟩ := k.r
  obtain ⟨u, v, e⟩ := h.s
  obtain ⟨u', v', e'⟩ := k.s
  exact dvd_antisymm h.m k.m ⟨u' * a + v' * b, by grind⟩ ⟨u * a' + v * b', by grind⟩
/-- Both pairs have the same combinations. -/
structure Same (p q a b : Pol) : Prop where
  ha : ∃ u v, a = u * p + v * q
  hb : ∃ u v, b = u * p + v * q
  hp : ∃ u v, p = u * a + v * b
  hq : ∃ u v, q = u * a + v * b
theorem Same.scale {p q : Pol} {s t : Rat} (hs : s ≠ 0) (ht : t ≠ 0) : Same p q (C s * p) (C t * q) := by
  have h1 := C_inv hs
  have h2 := C_inv ht
  exact ⟨⟨C s, 0, by grind⟩, ⟨0, C t, by grind⟩, ⟨C (1 / s), 0, by grind⟩, ⟨0, C (1 / t), by grind⟩⟩
/-- One step of Euclid's way. -/
theorem Same.step {p q a b r s : Pol} {f k : Rat} (h : Same p q a b) (hf : f ≠ 0) (hk : k ≠ 0) (e : C f * a = s * b + r) : Same p q b (C k * r) := by
  have h1 := C_inv hf
  have h2 := C_inv hk
  obtain ⟨⟨u1, v1, e1⟩, ⟨u2, v2, e2⟩, ⟨u3, v3, e3⟩, ⟨u4, v4, e4⟩⟩ := h
  refine ⟨⟨u2, v2, e2⟩, ⟨C k * (C f * u1 - s * u2), C k * (C f * v1 - s * v2), ?_⟩, ⟨u3 * C (1 / f) * s + v3, u3 * C (1 / f) * C (1 / k), ?_⟩, ⟨u4 * C (1 / f) * s + v4, u4 * C (1 / f) * C (1 / k), ?_⟩⟩
  · have : r = C f * a - s * b := by grind
    rw [this]; grind
  · have e5 : a = C (1 / f) * (s * b + r) := by rw [← e]; grind
    have e6 : r = C (1 / k) * (C k * r) := by grind
    grind
  · have e5 : a = C (1 / f) * (s * b + r) := by rw [← e]; grind
    have e6 : r = C (1 / k) * (C k * r) := by grind
    grind
def monic (p : Pol) : Pol := C (1 / p.lead) * p
theorem monic_lead {p : Pol} (h : p ≠ 0) : p.monic.lead = 1 := by
  have h1 := lead_ne h
  have h2 : (1 / p.lead) ≠ 0 := by intro k; have : (1 : Rat) = (1 / p.lead) * p.lead := by grind
                                   rw [k] at this; grind
  unfold monic
  rw [lead_mul (C_ne h2) h, lead_C h2]; grind
theorem Same.gcd {p q a : Pol} (h : Same p q a 0) : IsGcd p q a.monic := by
  obtain ⟨⟨u1, v1, e1⟩, _, ⟨u3, v3, e3⟩, ⟨u4, v4, e4⟩⟩ := h
  by_cases ha : a = 0
  · subst ha
    have e : (0 : Pol).monic = 0 := by unfold monic; rw [mul_zero]
    rw [e]
    exact ⟨.inl rfl, ⟨0, by grind⟩, ⟨0, by grind⟩, ⟨0, 0, by grind⟩⟩
  · have h1 := lead_ne ha
    have h2 := C_inv h1
    refine ⟨.inr (monic_lead ha), ⟨u3 * C a.lead, ?_⟩, ⟨u4 * C a.lead, ?_⟩, ⟨C (1 / a.lead) * u1, C (1 / a.lead) * v1, ?_⟩⟩
    · unfold monic; grind
    · unfold monic; grind
    · unfold monic
      have : C (1 / a.lead) * a = C (1 / a.lead) * (u1 * p + v1 * q) := by rw [← e1]
      rw [this]; grind
/-- Every polynomial is made so. -/
theorem mk_cons' (a : Rat) (l : List Rat) : mk' (a :: l) = C a + X * mk' l := ext fun i => by
  have hX : ∀ p : Pol, (X * p).c i = if i = 0 then 0 else p.c (i - 1) := fun p => by
    rw [c_mul]
    show co (mulQ (trimQ [0, 1]) p.l) i = _
    rw [mulQ_congr (l' := [0, 1]) (m' := p.l) (trim_co _) (fun _ => rfl), mulQ_cons]
    unfold sh
    split
    · grind
    · rw [mulQ_one]; show 0 * _ + p.c (i - 1) = _; grind
  rw [c_add, hX, mk_cons, c_C]
  split <;> grind
theorem ind {P : Pol → Prop} (h0 : P 0) (h1 : ∀ a p, P p → P (C a + X * p)) (p : Pol) : P p := by
  rw [← mk_l p]
  generalize p.l = l
  induction l with
  | nil => exact (zero_of_len (p := mk' []) rfl) ▸ h0
  | cons a l ih => rw [mk_cons']; exact h1 a _ ih
/-- The derivative. -/
def D (p : Pol) : Pol := mk' (derQ p.l)
theorem mk_D (l : List Rat) : mk' (derQ l) = D (mk' l) := ext fun i => by
  unfold D
  rw [mk_c, mk_c, derQ_co, derQ_co]
  show _ = co (trimQ l) (i + 1) * _
  rw [trim_co]
theorem c_D (p : Pol) (i : Nat) : p.D.c i = p.c (i + 1) * (((i + 1 : Nat) : Int) : Rat) := (mk_c _ i).trans (derQ_co _ i)
theorem D_zero : D 0 = 0 := ext fun i => by rw [c_D, c_zero, c_zero]; grind
/-- The value. -/
def evL : List Rat → Rat → Rat
  | [], x => 0
  | a :: l, x => a + x * evL l x
def ev (p : Pol) (x : Rat) : Rat := evL p.l x
end Pol
end Nt
end Go.Proofs.YtnedhbidmfoegaaGreat
namespace Go.Proofs.YtnedhbidmfoegaaGreat
set_option linter.unusedVariables false
namespace Nt
theorem absQ_mul (y : Rat) : ∃ z : Int, y = absQ y * (z : Rat) ∧ absQ y = y * (z : Rat) := by
  unfold absQ
  split
  · exact ⟨-1, by rw [show (((-1 : Int)) : Rat) = -1 from rfl]; grind, by rw [show (((-1 : Int)) : Rat) = -1 from rfl]; grind⟩
  · exact ⟨1, by rw [show (((1 : Int)) : Rat) = 1 from rfl]; grind, by rw [show (((1 : Int)) : Rat) = 1 from rfl]; grind⟩
/-- Both are whole multiples of the measure; what measures both measures it. -/
theorem cmn_spec (x y : Rat) : (∃ z : Int, x = cmn x y * (z : Rat)) ∧ (∃ z : Int, y = cmn x y * (z : Rat)) ∧ ∀ c : Rat, (∃ z : Int, x = c * (z : Rat)) → (∃ z : Int, y = c * (z : Rat)) → ∃ z : Int, cmn x y = c * (z : Rat) := by
  unfold cmn
  by_cases hx : x = 0
  · rw [if_pos hx]
    obtain ⟨z, h1, h2⟩ := absQ_mul y
    refine ⟨⟨0, by rw [hx]; exact (Rat.mul_zero _).symm⟩, ⟨z, h1⟩, fun c _ ⟨v, hv⟩ => ⟨v * z, ?_⟩⟩
    rw [Rat.intCast_mul, h2]
    have e : y * (z : Rat) = c * (v : Rat) * (z : Rat) := by rw [← hv]
    rw [e]; grind
  · rw [if_neg hx]
    by_cases hy : y = 0
    · rw [if_pos hy]
      exact ⟨⟨1, by rw [show (((1 : Int)) : Rat) = 1 from rfl]; grind⟩, ⟨0, by rw [hy]; exact (Rat.mul_zero _).symm⟩, fun c h _ => h⟩
    · rw [if_neg hy]
      obtain ⟨z0, h1, h2⟩ := absQ_mul (x / (((x / y).num : Int) : Rat))
      have hN := num_ne (div_ne hx hy)
      obtain ⟨hq, hD⟩ := quo_step (x := x) hy
      have hcop : Nat.gcd (x / y).num.natAbs (x / y).den = 1 := (x / y).reduced
      obtain ⟨s, t, hst⟩ := bez (x / y).num (x / y).den hcop
      generalize hn : (x / y).num = N at *
      generalize hd : ((x / y).den : Nat) = Dn at *
      have hst' : (s : Rat) * (N : Rat) + (t : Rat) * ((Dn : Int) : Rat) = 1 := by
        have h := congrArg (fun z : Int => (z : Rat)) hst
        simp only [Rat.intCast_add, Rat.intCast_mul] at h
        exact h
      generalize hw : x / (N : Rat) = w at *
      have ex : x = w * (N : Rat) := by rw [← hw]; grind
      have ey : y = w * ((Dn : Int) : Rat) := by
        have : w * (N : Rat) * ((Dn : Int) : Rat) = (N : Rat) * y := by rw [← ex]; exact hq
        grind
      refine ⟨⟨z0 * N, ?_⟩, ⟨z0 * (Dn : Int), ?_⟩, fun c ⟨a, ha⟩ ⟨b, hb⟩ => ⟨(s * a + t * b) * z0, ?_⟩⟩
      · rw [Rat.intCast_mul]; rw [ex, h1] ; grind
      · rw [Rat.intCast_mul]; rw [ey, h1]; grind
      · rw [h2, Rat.intCast_mul, Rat.intCast_add, Rat.intCast_mul, Rat.intCast_mul]
        have : w = c * ((s : Rat) * (a : Rat) + (t : Rat) * (b : Rat)) := by
          have e1 : w = w * ((s : Rat) * (N : Rat) + (t : Rat) * ((Dn : Int) : Rat)) := by rw [hst']; grind
          have e2 : w * ((s : Rat) * (N : Rat) + (t : Rat) * ((Dn : Int) : Rat)) = (s : Rat) * x + (t : Rat) * y := by rw [ex, ey]; grind
          rw [e1, e2, ha, hb]; grind
        rw [this]; grind
where
  bez (N : Int) (D : Nat) (h : Nat.gcd N.natAbs D = 1) : ∃ s t : Int, s * N + t * (D : Int) = 1 := by
    have := Int.gcd_eq_gcd_ab' N D h
    exact this
  Int.gcd_eq_gcd_ab' (N : Int) (D : Nat) (h : Nat.gcd N.natAbs D = 1) : ∃ s t : Int, s * N + t * (D : Int) = 1 := by
    have key : ∀ (n a b : Nat), a + b ≤ n → ∃ s t : Int, s * (a : Int) + t * (b : Int) = (Nat.gcd a b : Int) := by
      intro n
      induction n with
      | zero => intro a b hab; exact ⟨0, 0, by have h1 : a = 0 := by omega
                                               have h2 : b = 0 := by omega
                                               subst h1; subst h2; simp⟩
      | succ n ih =>
        intro a b hab
        rcases Nat.eq_zero_or_pos a with ha | ha
        · subst ha; exact ⟨0, 1, by simp⟩
        · rcases Nat.eq_zero_or_pos b with hb | hb
          · subst hb; exact ⟨1, 0, by simp⟩
          · rcases Nat.le_total a b with hle | hle
            · obtain ⟨s, t, e⟩ := ih a (b - a) (by omega)
              refine ⟨s - t, t, ?_⟩
              rw [Nat.gcd_sub_self_right hle] at e
              rw [← e, show ((b - a : Nat) : Int) = (b : Int) - (a : Int) by omega, Int.sub_mul, Int.mul_sub]; omega
            · obtain ⟨s, t, e⟩ := ih (a - b) b (by omega)
              refine ⟨s, t - s, ?_⟩
              rw [Nat.gcd_sub_self_left hle] at e
              rw [← e, show ((a - b : Nat) : Int) = (a : Int) - (b : Int) by omega, Int.sub_mul, Int.mul_sub]; omega
    obtain ⟨s, t, e⟩ := key _ N.natAbs D (Nat.le_refl _)
    rw [h] at e
    rcases Int.natAbs_eq N with hN | hN
    · exact ⟨s, t, by rw [← hN] at e; exact e⟩
    · refine ⟨-s, t, ?_⟩
      have : ((N.natAbs : Nat) : Int) = -N := by omega
      rw [this] at e
      rw [Int.neg_mul, ← Int.mul_neg]; exact e
theorem msr_spec (l : List Rat) : (∀ x ∈ l, ∃ z : Int, x = msr l * (z : Rat)) ∧ ∀ c : Rat, (∀ x ∈ l, ∃ z : Int, x = c * (z : Rat)) → ∃ z : Int, msr l = c * (z : Rat) := by
  have key : ∀ (l : List Rat) (a : Rat), ((∃ z : Int, a = l.foldl cmn a * (z : Rat)) ∧ ∀ x ∈ l, ∃ z : Int, x = l.foldl cmn a * (z : Rat)) ∧ ∀ c : Rat, (∃ z : Int, a = c * (z : Rat)) → (∀ x ∈ l, ∃ z : Int, x = c * (z : Rat)) → ∃ z : Int, l.foldl cmn a = c * (z : Rat) := by
    intro l
    induction l with
    | nil => intro a; exact ⟨⟨⟨1, by show a = a * _; rw [show (((1 : Int)) : Rat) = 1 from rfl]; grind⟩, fun x hx => by cases hx⟩, fun c h _ => h⟩
    | cons b l ih =>
      intro a
      obtain ⟨⟨⟨z, hz⟩, h2⟩, h3⟩ := ih (cmn a b)
      obtain ⟨⟨z1, e1⟩, ⟨z2, e2⟩, h4⟩ := cmn_spec a b
      refine ⟨⟨⟨z * z1, ?_⟩, fun x hx => ?_⟩, fun c ha hl => ?_⟩
      · show a = l.foldl cmn (cmn a b) * _
        rw [Rat.intCast_mul, ← Rat.mul_assoc, ← hz]; exact e1
      · rcases List.mem_cons.1 hx with rfl | hx
        · exact ⟨z * z2, by show x = l.foldl cmn (cmn a x) * _; rw [Rat.intCast_mul, ← Rat.mul_assoc, ← hz]; exact e2⟩
        · exact h2 x hx
      · exact h3 c (h4 c ha (hl b (List.mem_cons_self ..))) (fun x hx => hl x (List.mem_cons_of_mem _ hx))
  obtain ⟨⟨_, h1⟩, h2⟩ := key l 0
  exact ⟨h1, fun c hc => h2 c ⟨0, (Rat.mul_zero c).symm⟩ hc⟩
/-- The primitive part. -/
def prim (l : List Rat) : List Rat := (trimQ l).map (· / msr (trimQ l))
@[simp] theorem prim_len (l : List Rat) : (prim l).length = (trimQ l).length := by simp [prim]
theorem prim_co (l : List Rat) (i : Nat) : co (prim l) i = co l i / msr (trimQ l) := by
  unfold prim
  rw [co_map _ (by rw [Rat.div_def, Rat.zero_mul]), trim_co]
theorem co_mem {l : List Rat} {i : Nat} (h : i < l.length) : co l i ∈ l := by
  unfold co
  rw [List.getD_eq_getElem?_getD, List.getElem?_eq_getElem h]
  exact List.getElem_mem h
theorem msr_ne' {l : List Rat} (h : trimQ l ≠ []) : msr (trimQ l) ≠ 0 := msr_ne (trim_nrm l) (by cases e : trimQ l with | nil => exact absurd e h | cons a m => simp)
theorem prim_whole (l : List Rat) (i : Nat) : ∃ z : Int, co (prim l) i = (z : Rat) := by
  by_cases hi : i < (trimQ l).length
  · have hm := msr_ne' (l := l) (by intro e; rw [e] at hi; simp at hi)
    obtain ⟨z, hz⟩ := (msr_spec (trimQ l)).1 _ (co_mem hi)
    refine ⟨z, ?_⟩
    rw [prim_co, ← trim_co, hz]; grind
  · exact ⟨0, by rw [co_ge (by simp; omega)]; rfl⟩
theorem prim_nrm (l : List Rat) : Nrm (prim l) := by
  refine nrm_of fun h k => ?_
  have ht : trimQ l ≠ [] := fun e => h (by unfold prim; rw [e]; rfl)
  have hm := msr_ne' ht
  have hn := nrm_last (trim_nrm l) ht
  rw [prim_len, prim_co, ← trim_co] at k
  apply hn
  have : co (trimQ l) ((trimQ l).length - 1) = co (trimQ l) ((trimQ l).length - 1) / msr (trimQ l) * msr (trimQ l) := by grind
  rw [this, k]; grind
theorem prim_mk (l : List Rat) : Pol.mk' l = Pol.C (msr (trimQ l)) * Pol.mk' (prim l) := Pol.ext fun i => by
  rw [Pol.C_mul_c, Pol.mk_c, Pol.mk_c, prim_co]
  by_cases h : trimQ l = []
  · rw [trim_nil_iff.1 h i]; grind
  · have := msr_ne' h; grind
/-- The bits of a primitive part, from the digits. -/
theorem dl_bits {n K : Nat} (h : dl n ≤ K) : n ≤ 2 ^ (32 * K) := by
  have h1 := dl_lt (x := n)
  have h2 := pw_mono h
  rw [pwTwo K] at h2
  have h3 : (n : Int) < ((2 ^ (32 * K) : Nat) : Int) := by omega
  exact Nat.le_of_lt (Int.ofNat_lt.1 h3)
/-- ... from any whole multiple. -/
theorem prim_bits {l W : List Rat} {c : Rat} {A : Nat} (hc : c ≠ 0) (h : ∀ i, co l i = c * co W i) (hW : WhL W A) : WhL (prim l) A := fun i => by
  by_cases ht : trimQ l = []
  · have : co (prim l) i = 0 := by rw [prim_co, trim_nil_iff.1 ht i]; grind
    rw [this]; exact Wh.zero A
  · have hm := msr_ne' ht
    obtain ⟨g, hg⟩ := (msr_spec (trimQ l)).2 c (fun x hx => by
      obtain ⟨j, hj, e⟩ := List.getElem_of_mem hx
      have e2 : x = co l j := by rw [← trim_co]; unfold co; rw [List.getD_eq_getElem?_getD, List.getElem?_eq_getElem hj, ← e]; rfl
      obtain ⟨z, hz, _⟩ := hW j
      exact ⟨z, by rw [e2, h j, hz]⟩)
    obtain ⟨z, hz⟩ := prim_whole l i
    obtain ⟨v, hv, hb⟩ := hW i
    have hg0 : g ≠ 0 := by rintro rfl; apply hm; rw [hg]; exact Rat.mul_zero c
    have e : (v : Rat) = ((z * g : Int) : Rat) := by
      rw [Rat.intCast_mul, ← hz, prim_co, h i, hv, hg]
      have : (g : Rat) ≠ 0 := fun k => hg0 (Rat.intCast_inj.1 (by rw [k]; rfl))
      grind
    have e2 := Rat.intCast_inj.1 e
    refine ⟨z, hz, Nat.le_trans ?_ hb⟩
    rw [e2, Int.natAbs_mul]
    exact Nat.le_mul_of_pos_right _ (Int.natAbs_pos.2 hg0)
theorem mk_map (l : List Rat) (c : Rat) : Pol.mk' (l.map (· * c)) = Pol.C c * Pol.mk' l := Pol.ext fun i => by
  rw [Pol.C_mul_c, Pol.mk_c, Pol.mk_c, co_map _ (Rat.zero_mul c)]; grind
theorem prim_mk' (l : List Rat) : ∃ k : Rat, k ≠ 0 ∧ Pol.mk' (prim l) = Pol.C k * Pol.mk' l := by
  by_cases h : trimQ l = []
  · refine ⟨1, by decide, Pol.ext fun i => ?_⟩
    rw [Pol.C_mul_c, Pol.mk_c, Pol.mk_c, prim_co, trim_nil_iff.1 h i]; grind
  · have hm := msr_ne' h
    refine ⟨1 / msr (trimQ l), fun k => ?_, Pol.ext fun i => ?_⟩
    · have : (1 : Rat) = 1 / msr (trimQ l) * msr (trimQ l) := by grind
      rw [k] at this; grind
    · rw [Pol.C_mul_c, Pol.mk_c, Pol.mk_c, prim_co]; grind
theorem DivR.pol {p q s t : List Rat} {f : Rat} (h : DivR p q s t f) : Pol.C f * Pol.mk' p = Pol.mk' s * Pol.mk' q + Pol.mk' t := Pol.ext fun i => by
  rw [Pol.C_mul_c, Pol.mk_c, h.eq i, Pol.c_add, ← Pol.mk_mul, Pol.mk_c, Pol.mk_c]
theorem mk_len (l : List Rat) : (Pol.mk' l).len ≤ l.length := trim_len l
/-- What DivMod makes out of the parts. -/
theorem divmod_parts {l m s t : List Rat} {f : Rat} (hm : trimQ m ≠ []) (h : DivR (prim l) (prim m) s t f) :
    Pol.mk' l = Pol.mk' (s.map (· * (msr (trimQ l) / f / msr (trimQ m)))) * Pol.mk' m + Pol.mk' (t.map (· * (msr (trimQ l) / f))) ∧ (Pol.mk' (t.map (· * (msr (trimQ l) / f)))).len < (Pol.mk' m).len := by
  have h1 := h.pol
  have h2 := prim_mk l
  have h3 := prim_mk m
  have hM := msr_ne' hm
  have hf := h.f0
  constructor
  · rw [mk_map, mk_map]
    have e1 : Pol.C (msr (trimQ l) / f / msr (trimQ m)) * Pol.C (msr (trimQ m)) = Pol.C (msr (trimQ l) / f) := by rw [← Pol.C_mul]; congr 1; grind
    have e2 : Pol.C (msr (trimQ l) / f) * Pol.C f = Pol.C (msr (trimQ l)) := by rw [← Pol.C_mul]; congr 1; grind
    rw [h2]
    have e3 : Pol.C (msr (trimQ l) / f / msr (trimQ m)) * Pol.mk' s * Pol.mk' m = Pol.C (msr (trimQ l) / f) * (Pol.mk' s * Pol.mk' (prim m)) := by rw [h3, ← e1]; grind
    rw [e3, ← e2]
    have e4 : Pol.C (msr (trimQ l) / f) * Pol.C f * Pol.mk' (prim l) = Pol.C (msr (trimQ l) / f) * (Pol.C f * Pol.mk' (prim l)) := by grind
    rw [e4, h1]; grind
  · have h4 := mk_len (t.map (· * (msr (trimQ l) / f)))
    rw [List.length_map] at h4
    have h5 := h.lt
    rw [prim_len] at h5
    show _ < (trimQ m).length
    omega
/-- What Monic makes. -/
theorem monic_list (l : List Rat) : (Pol.mk' l).monic.l = trimQ ((trimQ l).map (· * (((1 : Int) : Rat) / (trimQ l).getD ((trimQ l).length - 1) 0))) := by
  have e : (Pol.mk' l).monic = Pol.mk' ((trimQ l).map (· * (((1 : Int) : Rat) / (trimQ l).getD ((trimQ l).length - 1) 0))) := by
    rw [mk_map]
    unfold Pol.monic
    have e1 : Pol.mk' (trimQ l) = Pol.mk' l := Pol.mk_eq.2 (trim_trim l)
    rw [e1]; rfl
  rw [e]; rfl
theorem prim_same (l m : List Rat) : Pol.Same (Pol.mk' l) (Pol.mk' m) (Pol.mk' (prim l)) (Pol.mk' (prim m)) := by
  obtain ⟨k, h1, h2⟩ := prim_mk' l
  obtain ⟨k', h3, h4⟩ := prim_mk' m
  rw [h2, h4]
  exact Pol.Same.scale h1 h3
theorem same_step {p q : Pol} {a b s t : List Rat} {f : Rat} (h : Pol.Same p q (Pol.mk' a) (Pol.mk' b)) (hd : DivR a b s t f) : Pol.Same p q (Pol.mk' b) (Pol.mk' (prim t)) := by
  obtain ⟨k, h1, h2⟩ := prim_mk' t
  rw [h2]
  exact h.step hd.f0 h1 hd.pol
theorem prim_of_wh {t : List Rat} {A : Nat} (h : WhL t A) : WhL (prim t) A := prim_bits (c := 1) (by decide) (fun i => (Rat.one_mul _).symm) h
theorem monic_scaled (l : List Rat) : ∃ k : Rat, k ≠ 0 ∧ ∀ i, co (Pol.mk' l).monic.l i = k * co l i := by
  by_cases h : Pol.mk' l = 0
  · refine ⟨1, by decide, fun i => ?_⟩
    have e : co l i = 0 := by rw [← Pol.mk_c, h, Pol.c_zero]
    have e2 : (Pol.mk' l).monic = 0 := by unfold Pol.monic; rw [h, Pol.mul_zero]
    show (Pol.mk' l).monic.c i = _
    rw [e2, Pol.c_zero, e]; grind
  · have h1 := Pol.lead_ne h
    refine ⟨1 / (Pol.mk' l).lead, fun k => ?_, fun i => ?_⟩
    · have : (1 : Rat) = 1 / (Pol.mk' l).lead * (Pol.mk' l).lead := by grind
      rw [k] at this; grind
    · show (Pol.mk' l).monic.c i = _
      unfold Pol.monic
      rw [Pol.C_mul_c, Pol.mk_c]
theorem mk_nil {l : List Rat} (h : l.length = 0) : Pol.mk' l = 0 := by
  apply Pol.zero_of_len
  have := mk_len l
  omega
theorem mk_trim (l : List Rat) : Pol.mk' (trimQ l) = Pol.mk' l := Pol.mk_eq.2 (trim_trim l)
/-- A divisor is no longer. -/
theorem len_dvd {g p : Pol} (h : g ∣ p) (hp : p ≠ 0) : g.len ≤ p.len := by
  obtain ⟨u, hu⟩ := h
  have hg : g ≠ 0 := by rintro rfl; rw [Pol.zero_mul] at hu; exact hp hu
  have hu0 : u ≠ 0 := by rintro rfl; rw [Pol.mul_zero] at hu; exact hp hu
  have h1 := Pol.len_mul hg hu0
  rw [← hu] at h1
  have := Pol.len_pos hu0
  omega
/-- The part without repeated factors: p over its greatest common divisor with its derivative, monic. -/
def IsSqf (p s : Pol) : Prop := (p = 0 ∧ s = 0) ∨ (p ≠ 0 ∧ ∃ g q, Pol.IsGcd p p.D g ∧ g ≠ 0 ∧ p = q * g ∧ s = q.monic)
theorem IsSqf.unique {p s t : Pol} (h : IsSqf p s) (k : IsSqf p t) : s = t := by
  rcases h with ⟨h1, h2⟩ | ⟨h1, g, q, h2, h3, h4, h5⟩
  · rcases k with ⟨k1, k2⟩ | ⟨k1, _⟩
    · rw [h2, k2]
    · exact absurd h1 k1
  · rcases k with ⟨k1, k2⟩ | ⟨k1, g', q', k2, k3, k4, k5⟩
    · exact absurd k1 h1
    · have e := h2.unique k2
      subst e
      have e2 := Pol.mul_cancel h3 (h4.symm.trans k4)
      rw [h5, k5, e2]
/-- The lengths of a quotient and of a remainder. -/
theorem div_lenL {l m : List Rat} {q r : Pol} (h : Pol.mk' l = q * Pol.mk' m + r) (hr : r.len < (Pol.mk' m).len) : q.l.length ≤ l.length ∧ r.l.length < m.length := by
  have hm := mk_len m
  have hl := mk_len l
  have hr2 : r.l.length < m.length := by change r.len < _; omega
  refine ⟨?_, hr2⟩
  by_cases hq : q = 0
  · rw [hq, Pol.zero_l]; exact Nat.zero_le _
  · have hg : Pol.mk' m ≠ 0 := Pol.ne_of_len (by omega)
    have h1 := Pol.len_mul hq hg
    have h2 := Pol.mul_top hq hg
    have h3 : (Pol.mk' l).c (q.len + (Pol.mk' m).len - 2) ≠ 0 := by
      have hp := Pol.len_pos hq
      rw [h, Pol.c_add, h2, Pol.c_ge (p := r) (by omega)]
      intro k
      have k2 : q.lead * (Pol.mk' m).lead = 0 := by grind
      rcases Rat.mul_eq_zero.1 k2 with k | k
      · exact Pol.lead_ne hq k
      · exact Pol.lead_ne hg k
    have h4 := Pol.c_ne_len h3
    change q.len ≤ _
    omega
/-- A divisor leaves nothing. -/
theorem div_exact {p q g r : Pol} (h : p = q * g + r) (hr : r.len < g.len) (hd : g ∣ p) : r = 0 ∧ p = q * g := by
  obtain ⟨u, hu⟩ := hd
  have h1 : q * g + r = u * g + 0 := by rw [← h, hu]; grind
  obtain ⟨h2, h3⟩ := Pol.div_unique h1 hr (by rw [Pol.len_zero]; omega)
  exact ⟨h3, by rw [h, h3, Pol.add_zero]⟩
/-- How many bits Euclid's way needs: this does not grow. -/
def pot (la lb : Nat) : Nat := la + lb + (if lb < la then 0 else if la = lb then 1 else 2)
theorem three_pow {k : Nat} (h : 2 ≤ k) : (k + 1) * (k + 1) ≤ 3 ^ k := by
  induction k with
  | zero => omega
  | succ k ih =>
    by_cases e : k = 1
    · subst e; decide
    · have := ih (by omega)
      rw [Nat.pow_succ]
      have h1 : (k + 1 + 1) * (k + 1 + 1) ≤ (k + 1) * (k + 1) * 3 := by
        have : (k + 1 + 1) * (k + 1 + 1) = (k + 1) * (k + 1) + 2 * (k + 1) + 1 := by grind
        have h2 : 2 * (k + 1) + 1 ≤ 2 * ((k + 1) * (k + 1)) := by
          have : (k + 1) * 2 ≤ (k + 1) * (k + 1) := Nat.mul_le_mul_left _ (by omega)
          omega
        omega
      omega
theorem pot_step {la lb lr A H : Nat} (h : (A + 1) * (A + 1) * 3 ^ pot la lb ≤ H * H) (hr : lr < lb) (hr2 : lr ≤ la) :
    (A + (la - lb + 1) * (A + 1) + 1) * (A + (la - lb + 1) * (A + 1) + 1) * 3 ^ pot lb lr ≤ H * H := by
  have e : A + (la - lb + 1) * (A + 1) + 1 = (la - lb + 1 + 1) * (A + 1) := by rw [Nat.succ_mul (la - lb + 1)]; omega
  have hp : pot lb lr = lb + lr := by unfold pot; rw [if_pos hr]; rfl
  rw [e, hp]
  refine Nat.le_trans ?_ h
  have key : (la - lb + 1 + 1) * (la - lb + 1 + 1) * 3 ^ (lb + lr) ≤ 3 ^ pot la lb := by
    by_cases c : lb < la
    · have h1 := three_pow (k := la - lb + 1) (by omega)
      have h2 : 3 ^ (la - lb + 1) * 3 ^ (lb + lr) ≤ 3 ^ pot la lb := by
        rw [← Nat.pow_add]
        refine Nat.pow_le_pow_right (by omega) ?_
        unfold pot; rw [if_pos c]; omega
      exact Nat.le_trans (Nat.mul_le_mul_right _ h1) h2
    · have e1 : la - lb = 0 := by omega
      rw [e1]
      have h2 : 3 ^ 2 * 3 ^ (lb + lr) ≤ 3 ^ pot la lb := by
        rw [← Nat.pow_add]
        refine Nat.pow_le_pow_right (by omega) ?_
        unfold pot; rw [if_neg c]; split <;> omega
      exact Nat.le_trans (Nat.mul_le_mul_right _ (by decide)) h2
  calc (la - lb + 1 + 1) * (A + 1) * ((la - lb + 1 + 1) * (A + 1)) * 3 ^ (lb + lr)
      = (A + 1) * (A + 1) * ((la - lb + 1 + 1) * (la - lb + 1 + 1) * 3 ^ (lb + lr)) := by grind
    _ ≤ (A + 1) * (A + 1) * 3 ^ pot la lb := Nat.mul_le_mul_left _ key
theorem pot_le {la lb A H : Nat} (h : (A + 1) * (A + 1) * 3 ^ pot la lb ≤ H * H) : A + 1 ≤ H := by
  apply Classical.byContradiction
  intro k
  have h1 : 1 ≤ 3 ^ pot la lb := Nat.pow_pos (by omega)
  have h2 : (A + 1) * (A + 1) * 1 ≤ (A + 1) * (A + 1) * 3 ^ pot la lb := Nat.mul_le_mul_left _ h1
  have h3 : (H + 1) * (H + 1) ≤ (A + 1) * (A + 1) := Nat.mul_le_mul (by omega) (by omega)
  have h4 : (H + 1) * (H + 1) = H * H + 2 * H + 1 := by grind
  omega
theorem pot_mono {la lb ma mb A H : Nat} (h : (A + 1) * (A + 1) * 3 ^ (ma + mb + 2) ≤ H * H) (h1 : la ≤ ma) (h2 : lb ≤ mb) : (A + 1) * (A + 1) * 3 ^ pot la lb ≤ H * H := by
  refine Nat.le_trans (Nat.mul_le_mul_left _ (Nat.pow_le_pow_right (by omega) ?_)) h
  unfold pot
  split
  · omega
  · split <;> omega
end Nt
end Go.Proofs.YtnedhbidmfoegaaGreat
namespace Go.Proofs.YtnedhbidmfoegaaGreat
open Go.RowKit Go.ChangeShapes Go.WideShapes
set_option linter.unusedVariables false
namespace Nt
/-- Over the denominator D: whole numbers of at most A bits. -/
def Sm (l : List Rat) (D A : Nat) : Prop := 0 < D ∧ ∀ i, Wh (co l i * ((D : Int) : Rat)) A
section
variable {l m : List Rat} {D E A B K : Nat} {q : Rat}
theorem dz (h : 0 < D) : ((D : Int) : Rat) ≠ 0 := fun e => by
  have := Rat.intCast_inj.1 (show ((D : Int) : Rat) = ((0 : Int) : Rat) from e); omega
theorem Sm.more (h : Sm l D A) (k : A ≤ B) : Sm l D B := ⟨h.1, fun i => (h.2 i).more k⟩
theorem Sm.co (h : Sm l D A) (e : ∀ i, co m i = co l i) : Sm m D A := ⟨h.1, fun i => by rw [e]; exact h.2 i⟩
theorem Sm.trim (h : Sm l D A) : Sm (trimQ l) D A := h.co (trim_co l)
theorem Sm.prim (h : Sm l D A) : WhL (prim l) A := by
  have h0 := dz h.1
  refine prim_bits (c := 1 / ((D : Int) : Rat)) (W := l.map (· * ((D : Int) : Rat))) (by grind) (fun i => ?_) (fun i => ?_)
  · rw [co_map (fun x => x * ((D : Int) : Rat)) (Rat.zero_mul _)]; grind
  · rw [co_map (fun x => x * ((D : Int) : Rat)) (Rat.zero_mul _)]; exact h.2 i
theorem dl_dg {n C : Nat} (h : n ≤ 2 ^ C) : dl n ≤ dg C := by
  refine dl_le ?_
  rw [pwTwo]
  exact Int.ofNat_lt.2 (Nat.lt_of_le_of_lt h (Nat.pow_lt_pow_right (by omega) (by unfold dg; omega)))
theorem wh_rs {x : Rat} (h0 : 0 < D) (h : Wh (x * ((D : Int) : Rat)) A) (hD : D ≤ 2 ^ A) : rs x ≤ dg A := by
  obtain ⟨z, hz, hb⟩ := h
  have h1 := dz h0
  have e : x = mkRat z D := by rw [← mk_div, ← hz]; grind
  rw [e]
  exact rs_mk (dl_dg hb) (dl_dg hD) (by unfold dg; omega)
theorem Sm.rs (h : Sm l D A) (hD : D ≤ 2 ^ A) (i : Nat) : rs (Nt.co l i) ≤ dg A := wh_rs h.1 (h.2 i) hD
theorem WhL.mulQ (h : WhL l A) (k : WhL m B) : WhL (mulQ l m) (A + B + l.length) := by
  induction l with
  | nil => exact fun i => by rw [mulQ_nil]; exact Wh.zero _
  | cons a l ih =>
    intro i
    rw [mulQ_cons]
    have h0 : Wh a A := by have := h 0; rwa [co_zero] at this
    have h1 : WhL l A := fun i => by have := h (i + 1); rwa [co_succ] at this
    have e : A + B + (a :: l).length = A + B + l.length + 1 := by simp; omega
    rw [e]
    refine ((h0.mul (k i)).more (by omega)).add ?_
    unfold sh
    split
    · exact Wh.zero _
    · exact ih h1 _
theorem Sm.mul (h : Sm l D A) (k : Sm m E B) : Sm (mulQ l m) (D * E) (A + B + l.length) := by
  refine ⟨Nat.mul_pos h.1 k.1, fun i => ?_⟩
  have h1 : WhL (l.map (((D : Int) : Rat) * ·)) A := fun i => by rw [co_map (fun x => ((D : Int) : Rat) * x) (Rat.mul_zero _), Rat.mul_comm]; exact h.2 i
  have h2 : WhL (m.map (((E : Int) : Rat) * ·)) B := fun i => by rw [co_map (fun x => ((E : Int) : Rat) * x) (Rat.mul_zero _), Rat.mul_comm]; exact k.2 i
  have h3 := h1.mulQ h2 i
  rw [mulQ_scale_l, mulQ_scale_r, List.length_map] at h3
  rw [show Nt.co (mulQ l m) i * (((D * E : Nat) : Int) : Rat) = ((D : Int) : Rat) * (((E : Int) : Rat) * Nt.co (mulQ l m) i) by rw [show (((D * E : Nat) : Int) : Rat) = ((D : Int) : Rat) * ((E : Int) : Rat) by rw [← Rat.intCast_mul]; simp]; grind]
  exact h3
theorem Sm.mulR (h : Sm l D A) (k : Sm m E B) : Sm (mulQ l m) (D * E) (A + B + m.length) := by
  have h9 := (k.mul h).co (m := mulQ l m) (fun i => Pol.mulQ_comm l m i)
  rw [Nat.mul_comm D E, Nat.add_comm A B]
  exact h9
theorem Sm.add (h : Sm l D A) (k : Sm m D A) : Sm (addQ l m) D (A + 1) := ⟨h.1, fun i => by
  rw [addQ_co, show (Nt.co l i + Nt.co m i) * ((D : Int) : Rat) = Nt.co l i * ((D : Int) : Rat) + Nt.co m i * ((D : Int) : Rat) by grind]
  exact (h.2 i).add (k.2 i)⟩
theorem natMul {x : Rat} (D E : Nat) : x * (((D * E : Nat) : Int) : Rat) = x * ((D : Int) : Rat) * ((E : Int) : Rat) := by
  rw [show (((D * E : Nat) : Int) : Rat) = ((D : Int) : Rat) * ((E : Int) : Rat) by rw [← Rat.intCast_mul]; simp]; grind
theorem Sm.map (h : Sm l D A) (hE : 0 < E) (k : Wh (q * ((E : Int) : Rat)) B) : Sm (l.map (· * q)) (D * E) (A + B) := ⟨Nat.mul_pos h.1 hE, fun i => by
  rw [co_map (fun x => x * q) (Rat.zero_mul q), natMul, show Nt.co l i * q * ((D : Int) : Rat) * ((E : Int) : Rat) = (Nt.co l i * ((D : Int) : Rat)) * (q * ((E : Int) : Rat)) by grind]
  exact (h.2 i).mul k⟩
theorem whNat {n b : Nat} (h : n ≤ 2 ^ b) : Wh (((n : Nat) : Int) : Rat) b := ⟨(n : Int), rfl, by simpa using h⟩
theorem whInt {z : Int} {b : Nat} (h : z.natAbs ≤ 2 ^ b) : Wh (z : Rat) b := ⟨z, rfl, h⟩
theorem Sm.der {b : Nat} (h : Sm l D A) (hb : l.length ≤ 2 ^ b) : Sm (derQ l) D (A + b) := ⟨h.1, fun i => by
  rw [derQ_co]
  by_cases hi : i + 1 < l.length
  · rw [show Nt.co l (i + 1) * (((i + 1 : Nat) : Int) : Rat) * ((D : Int) : Rat) = (Nt.co l (i + 1) * ((D : Int) : Rat)) * (((i + 1 : Nat) : Int) : Rat) by grind]
    exact (h.2 (i + 1)).mul (whNat (by omega))
  · rw [co_ge (by omega)]
    rw [show (0 : Rat) * (((i + 1 : Nat) : Int) : Rat) * ((D : Int) : Rat) = 0 by grind]
    exact Wh.zero _⟩
/-- The same over a multiple of the denominator. -/
theorem Sm.over {b : Nat} (h : Sm l D A) (hE : 0 < E) (hb : E ≤ 2 ^ b) : Sm l (D * E) (A + b) := ⟨Nat.mul_pos h.1 hE, fun i => by
  rw [natMul]; exact (h.2 i).mul (whNat hb)⟩
theorem Sm.ofInts {zs : List Int} (h : ∀ z ∈ zs, z.natAbs ≤ 2 ^ A) : Sm (List.map (fun z : Int => (z : Rat)) zs) 1 A := ⟨by omega, fun i => by
  rw [show ((((1 : Nat) : Int)) : Rat) = 1 from rfl, Rat.mul_one]
  unfold Nt.co
  rw [List.getD_eq_getElem?_getD, List.getElem?_map]
  cases e : zs[i]? with
  | none => exact Wh.zero _
  | some z => exact whInt (h z (List.mem_of_getElem? e))⟩
theorem Sm.nil (hD : 0 < D) : Sm [] D A := ⟨hD, fun i => by rw [co_nil, Rat.zero_mul]; exact Wh.zero _⟩
theorem Sm.ofAll (hD : 0 < D) (h : ∀ x ∈ l, Wh (x * ((D : Int) : Rat)) A) : Sm l D A := ⟨hD, fun i => by
  by_cases hi : i < l.length
  · exact h _ (co_mem hi)
  · rw [co_ge (by omega), Rat.zero_mul]; exact Wh.zero _⟩
/-- Any list: over the product of the denominators. -/
theorem Sm.any : ∀ {l : List Rat}, (∀ x ∈ l, Nt.rs x ≤ K) → ∃ D, D ≤ 2 ^ (32 * K * l.length) ∧ Sm l D (32 * K * (l.length + 1))
  | [], _ => ⟨1, Nat.one_le_two_pow, Sm.nil (by omega)⟩
  | a :: l, h => by
    obtain ⟨D, hD, hs⟩ := Sm.any (l := l) (fun x hx => h x (List.mem_cons_of_mem _ hx))
    have ha := h a (List.mem_cons_self ..)
    have hd : a.den ≤ 2 ^ (32 * K) := dl_bits (by unfold Nt.rs at ha; omega)
    have hn : a.num.natAbs ≤ 2 ^ (32 * K) := dl_bits (by unfold Nt.rs at ha; omega)
    refine ⟨a.den * D, ?_, Nat.mul_pos (den_pos a) hs.1, fun i => ?_⟩
    · rw [List.length_cons, Nat.mul_add, Nat.mul_one, Nat.pow_add, Nat.mul_comm]
      exact Nat.mul_le_mul hD hd
    · cases i with
      | zero =>
        rw [co_zero, natMul]
        have e : a * ((a.den : Int) : Rat) = (a.num : Rat) := by
          have h1 := dz (den_pos a)
          have h2 : mkRat a.num a.den = a := Rat.mkRat_self a
          rw [← mk_div] at h2
          grind
        rw [e]
        refine ((whInt hn).mul (whNat hD)).more ?_
        rw [List.length_cons, Nat.mul_add, Nat.mul_add]; omega
      | succ i =>
        rw [co_succ, Nat.mul_comm, natMul]
        refine ((hs.2 i).mul (whNat hd)).more ?_
        rw [List.length_cons, Nat.mul_add, Nat.mul_add, Nat.mul_add]; omega
end
theorem Pol.eqk {p q : Pol} (h : p.l = q.l) : p = q := by cases p; cases q; simp_all
end Nt
section
variable {u : World} {x : Sl} {l : List Rat} {D A K : Nat}
theorem RatsN.fitS {L : List RL} (h : RatsN u L l K) (s : Nt.Sm l D A) (hD : D ≤ 2 ^ A) : RatsN u L l (Nt.dg A) := ⟨h.1, fun i hi => (h.2 i hi).fit (s.rs hD i)⟩
theorem PolN.fitS (h : PolN u x l K) (s : Nt.Sm l D A) (hD : D ≤ 2 ^ A) : PolN u x l (Nt.dg A) := by obtain ⟨L, h1, h2⟩ := h; exact ⟨L, h1, h2.fitS s hD⟩
theorem PolV.all (h : PolV u x l K) : ∀ q ∈ l, Nt.rs q ≤ K := by
  obtain ⟨L, h1, h2⟩ := h
  intro q hq
  obtain ⟨j, hj, e⟩ := List.getElem_of_mem hq
  have h9 := (h2.2 j hj).rs
  rw [List.getD_eq_getElem?_getD, List.getElem?_eq_getElem hj, Option.getD_some, e] at h9
  exact h9
end
section
variable {H : Type} {enc : TypeId × Value → H} {w : World} {base : Nat} {spare : Nat → Bool} {held : Bool} {fuel : Nat} {r0 : Reach} {b0 : Nat} {v : Value} {d : DataW H} {p : List MemPlace}
set_option maxRecDepth 100000 in
theorem ar_intsv (hv : Value.okWide Tryz.prog w r0 b0 42 v) (h : DataW.Trod enc Tryz.prog w base spare held 42 v d p) : ∃ (s : Sl) (l : List Int), v = s.v ∧ SlR .i64 w s.a s.n s.c l ∧ ∀ z ∈ l, -9223372036854775808 ≤ z ∧ z ≤ 9223372036854775807 := by
  obtain ⟨a, n, c, rfl⟩ := okWide_slice Tryz.underlying42 hv
  obtain ⟨fuel, hf⟩ := h
  obtain ⟨s, l, h1, h2, h3⟩ := ar_slr (k := .i64) (e := 3) (by kernel_rfl) (by kernel_rfl) (by kernel_rfl) hf
  have h1 : [Value.slice a n c] = [s.v] := h1
  exact ⟨s, l, (List.cons.inj h1).1, h2, fun z hz => wf_i64 (h3 z hz)⟩
end
end Go.Proofs.YtnedhbidmfoegaaGreat
