/- The reference's DivMod: the long way. -/
import Derived.Test.YtnedhbidmfoegaaRfG
import Derived.IntWalk
namespace Go.Proofs.Ytnedhbidmfoegaa
open Go.RowKit
set_option linter.unusedVariables false
theorem rdiv_fin {wr w : World} {B gu Lu cu gv cv n gq N z : Nat} {a b v U Q : List Int} (hR : RW wr w B gu Lu cu gv cv n gq v U Q) (hD : Nt.DivL 0 N (Nt.val a * 2 ^ z) (Nt.val v) U Q) (hv : v.length = N + 2) (dv : Nt.Dig v) (ev : Nt.val v = Nt.val b * 2 ^ z) :
    ∀ (w9 w10 : World) (A9 : Option Addr) (n9 c9 : Nat) (A10 : Option Addr) (n10 c10 : Nat), OwnF wr w9 A9 n9 c9 (Nt.val Q).toNat → Below wr.heap.size wr w9 → OwnF w9 w10 A10 n10 c10 (Nt.val (U.take (N + 2)) / 2 ^ z).toNat → Below w9.heap.size w9 w10 →
      DivMF w w10 (.returned (.tuple #[.slice A9 n9 c9, .slice A10 n10 c10, .int .i64 0])) (Nt.val a) (Nt.val b) := by
  intro w9 w10 A9 n9 c9 A10 n10 c10 f9 hb9 f10 hb10
  have hlow := hD.low
  have hsum := hD.sum
  simp only [List.drop_zero, Nt.pw, Int.mul_one] at hlow hsum
  have hU0 := Nt.val_nonneg hD.dU
  have e1 : Nt.val (U.take (N + 2)) = Nt.val U := (Nt.val_low hD.dU (n := N + 2) (by have := Nt.val_lt dv; rw [hv] at this; omega)).2
  obtain ⟨q1, q2⟩ := Nt.div_end (a := Nt.val a) (b := Nt.val b) (Q := Nt.val Q) (U := Nt.val U) (Nt.p2_pos z) (by rw [hsum, ev]) hU0 (by omega)
  rw [e1, ← q2] at f10
  rw [← q1] at f9
  have hs1 := hR.bel.size
  have hs2 := hb9.size
  have hB : Below w.heap.size w w9 := hR.bel.trans (hb9.mono hs1)
  exact ⟨A9, n9, c9, A10, n10, c10, rfl, (f9.nat.mono hs1).below hb10, f10.nat.mono (by omega), hB.trans (hb10.mono hB.size)⟩
set_option maxRecDepth 1000000 in
set_option maxHeartbeats 8000000 in
theorem rDivMod_long (A B : Option Addr) (n c m d : Nat) (a b : List Int) (w : World) (ha : SlR .u32 w A n c a) (hb : SlR .u32 w B m d b) (da : Nt.Dig a) (db : Nt.Dig b) (hn : n ≤ 500000000) (hm : m ≤ 500000000) (hz : 4294967296 ≤ Nt.val b) (hge : Nt.val b ≤ Nt.val a) :
    Calls Try.prog 122 #[.slice A n c, .slice B m d] w fun e w' => DivMF w w' e (Nt.val a) (Nt.val b) := by
  have lx : Hid ((Nt.digits (Nt.val a).toNat).length ≤ n) := by rw [← Nt.strip_eq da, ← ha.1]; exact Nt.strip_length_le a
  have ly : Hid ((Nt.digits (Nt.val b).toNat).length ≤ m) := by rw [← Nt.strip_eq db, ← hb.1]; exact Nt.strip_length_le b
  have a0 := Nt.val_nonneg da
  obtain ⟨X, hX⟩ : ∃ X : Nat, X = (Nt.val a).toNat := ⟨_, rfl⟩
  obtain ⟨Y, hY⟩ : ∃ Y : Nat, Y = (Nt.val b).toNat := ⟨_, rfl⟩
  have HX : Hid (Nt.val a = X) := by show _ = _; omega
  have HY : Hid (Nt.val b = Y) := by show _ = _; omega
  have HXY : Hid (Y ≤ X) := by show _ ≤ _; omega
  have hcmp : 0 ≤ Nt.cmpS X Y := by unfold Nt.cmpS; rw [if_neg (by omega)]; split <;> omega
  have HXn := Lib.hid hX
  have HYn := Lib.hid hY
  have hY2 : Hid (1 < (Nt.digits Y).length) := Nt.digits_length_gt (v := Y) (n := 1) (by simp [Nt.pw]; omega)
  clear hX hY hz hge
  go_enter Try.func122, Try.ntmps122
  go_wp2_with fail
  refine (rTrim_any _ _ _ _ _ ha da (by omega)).mono ?_
  rintro e w1 ⟨A1, N1, c1, rfl, f1, hb1⟩
  go_wp2_with fail
  refine (rTrim_any _ _ _ _ _ (hb.below hb1) db (by omega)).mono ?_
  rintro e w2 ⟨A2, M2, c2, rfl, f2, hb2⟩
  rw [← HXn.out] at f1 lx
  rw [← HYn.out] at f2 ly
  have hN1 : N1 ≤ 500000000 := by have := f1.1; have := lx.out; omega
  have hM2 : M2 ≤ 500000000 := by have := f2.1; have := ly.out; omega
  have hMN : Hid (M2 ≤ N1) := by show _ ≤ _; rw [f1.1, f2.1]; exact Nt.digits_len_mono HXY.out
  obtain ⟨N, hNN⟩ : ∃ N, M2 = N + 2 := ⟨M2 - 2, by have := f2.1; have := hY2.out; omega⟩
  subst hNN
  have hx := Lib.hid (f1.nat.2.1.below hb2)
  have hy := Lib.hid f2.nat.2.1
  have e1 := Lib.hid f1.1
  have e2 := Lib.hid f2.1
  have hB2 : Hid (Below w.heap.size w w2) := hb1.trans (hb2.mono hb1.size)
  have h0 : ((N : Int) + 2 == 0) = false := by rw [beq_eq_false_iff_ne]; omega
  have h1 : ((N : Int) + 2 == 1) = false := by rw [beq_eq_false_iff_ne]; omega
  clear f1 f2 ha hb hb1 hb2 da db lx ly
  go_wp2_with fail
  refine (rCompare_any _ _ _ _ _ _ _ _ _ hx.out hy.out (Nt.digits_dig _) (Nt.digits_dig _) (by omega) (by omega)).mono ?_
  rintro e w3 ⟨rfl, hb3⟩
  rw [Nt.digits_val, Nt.digits_val]
  have hx3 := Lib.hid (hx.out.below hb3)
  have hy3 := Lib.hid (hy.out.below hb3)
  have hB3 : Hid (Below w.heap.size w w3) := hB2.out.trans (hb3.mono hB2.out.size)
  obtain ⟨y, hyy⟩ : ∃ y : Nat, (y : Int) = (Nt.digits Y)[N + 1]?.getD 0 := ⟨((Nt.digits Y)[N + 1]?.getD 0).toNat, by have := (Nt.digits_dig Y).at (N + 1); omega⟩
  have hyb := (Nt.digits_dig Y).at (N + 1)
  have hyn := Nt.norm_last (k := N + 1) (Nt.digits_norm Y) e2.out.symm
  rw [← hyy] at hyb hyn
  obtain ⟨z, hz1, hz2, hz3, hz4⟩ := Nt.lz2 (y := y) (by omega) (by omega)
  have Hz1 := Lib.hid hz1
  have hvn := Lib.hid (Nt.vnorm e2.out.symm hyy hz3 hz4)
  obtain ⟨gb, ob, rfl, hgb, hcb⟩ := hy3.out.pos (i := N + 1) (by omega)
  have hcm := hy3.out.2.1
  have hcm2 := hy3.out.2.2.1
  unfold maxLen at hcm2
  have hyl : Hid (SlR .u32 w3 (some ⟨gb, ob + (N + 1), none⟩) 1 (c2 - (N + 1)) [(y : Int)]) := by
    refine ⟨rfl, by omega, by unfold maxLen; omega, fun _ => ⟨gb, ob + (N + 1), rfl, hgb, fun i hi => ?_⟩⟩
    obtain rfl : i = 0 := by omega
    rw [Nat.add_zero, hcb, ← hyy]; rfl
  have hN1' : (N : Int) + 2 - 1 = (N : Int) + 1 := by omega
  obtain ⟨s, hs⟩ : ∃ s, s = Nt.cmpS X Y := ⟨_, rfl⟩
  rw [← hs] at hcmp ⊢
  clear hz1 hz3 hz4 hyy hb3 hx hy hB2 hcb hs
  go_wp2_with fail
  refine (rBitLen_any _ _ _ _ _ hyl.out (Nt.Dig.cons hyb Nt.Dig.nil) (by omega)).mono ?_
  rintro e w4 ⟨rfl, hb4⟩
  have hvy : (Nt.val [(y : Int)]).toNat = y := by simp [Nt.val]
  rw [hvy]
  have hz1 := Hz1.out
  have hbl0 : (0 : Int) ≤ Nt.bitl y := by omega
  have hbl1 : (Nt.bitl y : Int) ≤ 32 := by omega
  have hsd : decide (s < 0) = false := by simp; omega
  have hx4 := Lib.hid (hx3.out.below hb4)
  have hy4 := Lib.hid (hy3.out.below hb4)
  have hB4 : Hid (Below w.heap.size w w4) := hB3.out.trans (hb4.mono hB3.out.size)
  clear hvy hyl hb4 hx3 hy3 hB3
  go_wp2_with fail
  refine (rShift_pos _ _ _ z _ _ hx4.out (Nt.digits_dig _) (by omega) (by omega)).mono ?_
  rintro e w5 ⟨A5, L5, c5, rfl, f5, hb5⟩
  rw [Nt.digits_val] at f5
  have eX : ((X : Int) * 2 ^ z).toNat = X * 2 ^ z := by
    have : ((X * 2 ^ z : Nat) : Int) = (X : Int) * 2 ^ z := by rw [Int.natCast_mul, Int.natCast_pow]; rfl
    omega
  have eY : ((Y : Int) * 2 ^ z).toNat = Y * 2 ^ z := by
    have : ((Y * 2 ^ z : Nat) : Int) = (Y : Int) * 2 ^ z := by rw [Int.natCast_mul, Int.natCast_pow]; rfl
    omega
  rw [eX] at f5
  have F5 := Lib.hid f5
  have HW45 := Lib.hid hb5.size
  have hy5 := Lib.hid (hy4.out.below hb5)
  have hB5 : Hid (Below w.heap.size w w5) := hB4.out.trans (hb5.mono hB4.out.size)
  have EY := Lib.hid eY
  clear eX eY f5 hb5 hy4 hx4
  go_wp2_with fail
  refine (rShift_pos _ _ _ z _ _ hy5.out (Nt.digits_dig _) (by omega) (by omega)).mono ?_
  rintro e w6 ⟨A6, L6, c6, rfl, f6, hb6⟩
  rw [Nt.digits_val, EY.out] at f6
  have hL5 : Hid (N1 ≤ L5) := by
    show _ ≤ _
    rw [F5.out.1, e1.out]
    exact Nt.digits_len_mono (Nat.le_mul_of_pos_right _ (Nat.pow_pos (by omega)))
  have hL5' : Hid (L5 ≤ N1 + 1) := by
    show _ ≤ _
    rw [F5.out.1]
    apply Nt.digits_length_le
    have hv := Nt.val_lt (Nt.digits_dig X)
    rw [Nt.digits_val, ← e1.out] at hv
    have hp := Nt.p2_le hz2
    have h3 : (X : Int) * 2 ^ z ≤ (X : Int) * 2147483648 := Int.mul_le_mul_of_nonneg_left hp (by omega)
    rw [Int.natCast_mul, Int.natCast_pow, Nt.pw]
    have e : ((2 : Nat) : Int) = 2 := rfl
    rw [e]
    omega
  have hL6 : L6 = N + 2 := by rw [f6.1]; exact hvn.out.1
  subst hL6
  obtain ⟨gv, rfl, hgv1, hgv2⟩ := f6.2.pos (by omega)
  have hv6 := Lib.hid f6.nat.2.1
  have hu6 := Lib.hid (F5.out.2.below hb6)
  have hB6 : Hid (Below w.heap.size w w6) := hB5.out.trans (hb6.mono hB5.out.size)
  have hw45 : w.heap.size ≤ w4.heap.size := hB4.out.size
  have hw56 : w4.heap.size ≤ w6.heap.size := by
    have h5 := (F5.out.2.blk)
    have := hB5.out.size
    have := hb6.size
    have h45 : w4.heap.size ≤ w5.heap.size := HW45.out
    omega
  clear f6 hb6 hy5
  have hl1 := hL5.out
  have hl2 := hL5'.out
  have hmn := hMN.out
  go_wp2_with (at_builtin; refine wpList_appendG _ rfl (.tmp 67) (.tmp 68) _ rfl 82 .u32 4 Try.underlying22 u32_info w4.heap.size A5 L5 c5 (Nt.digits (X * 2 ^ z)) rfl ?own ⟨w6.heap.size, 0, none⟩ 1 1 [0] rfl ?slr ?h63 ?hby ?hbase ?_)
  case own => exact hu6.out.below ((Below.refl _ _).alloc (Nat.le_refl _) _)
  case slr => exact (KBlk.new w6 82 [0]).slr_all rfl (Nat.le_refl _) (by decide)
  case h63 => unfold maxLen; omega
  case hby => omega
  case hbase => simp; omega
  intro A7 c7 w7 ho7 hb7 hsm7 hat7 hsz7
  obtain ⟨gu, rfl, hgu1, hgu2⟩ := ho7.pos (by omega)
  have hU7 := Lib.hid ho7
  have hbk5 := hu6.out.blk
  have hguv : gu ≠ gv := by
    rcases hat7 _ rfl with ⟨p0, hp0, hp1⟩ | h
    · have h1 := F5.out.2.blk p0 hp0
      have h2 : gu = p0.block := hp1
      omega
    · have h2 : gu = w6.heap.size + 1 := h
      omega
  have hv7 : Hid (SlR .u32 w7 (some ⟨gv, 0, none⟩) (N + 2) c6 (Nt.digits (Y * 2 ^ z))) := by
    refine (hv6.out.alloc _).blk (hsm7 gv (by omega) ?_) (by simp; exact hsz7)
    intro p hp h
    have := F5.out.2.blk p hp
    omega
  have hB7 : Hid (Below w.heap.size w w7) := (hB6.out.alloc hB6.out.size _).trans (hb7.mono hw45)
  have hsz7' : gv < w7.heap.size := by omega
  have hgw : w.heap.size ≤ gu := by omega
  have hgvw : w.heap.size ≤ gv := by have := hB5.out.size; omega
  have hLN : ¬ (L5 : Int) + 1 < (N1 : Int) + 1 := by omega
  have hu7v : Hid (Nt.val (Nt.digits (X * 2 ^ z) ++ [0]) = Nt.val a * 2 ^ z) := by
    show _ = _
    rw [Nt.snoc_val, Nt.digits_val, HX.out, Int.natCast_mul, Int.natCast_pow]
    simp
  have hv7v : Hid (Nt.val (Nt.digits (Y * 2 ^ z)) = Nt.val b * 2 ^ z) := by
    show _ = _
    rw [Nt.digits_val, HY.out, Int.natCast_mul, Int.natCast_pow]
    rfl
  obtain ⟨M, hM⟩ : ∃ M, L5 + 1 = M + (N + 2) := ⟨L5 + 1 - (N + 2), by omega⟩
  have HM := Lib.hid hM
  have hMb : M + (N + 2) ≤ L5 + 1 ∧ L5 + 1 ≤ M + (N + 2) := by omega
  have hlow : Hid (Nt.val ((Nt.digits (X * 2 ^ z) ++ [0]).drop M) < Nt.val (Nt.digits (Y * 2 ^ z))) := Nt.ulow (Nt.digits_dig _) (by rw [← F5.out.1]; exact hM) (Nt.digits_dig _) hvn.out.1 hvn.out.2
  have hdU : Hid (Nt.Dig (Nt.digits (X * 2 ^ z) ++ [0])) := (Nt.digits_dig _).snoc (by omega)
  have hdv := Lib.hid (Nt.digits_dig (Y * 2 ^ z))
  clear ho7 hb7 hsm7 hsz7 hat7 hbk5 hu6 hv6 hB6 hM hz1 EY hL5 hL5' hMN e1 HXY hB4 hB5 HW45
  generalize Nt.digits (X * 2 ^ z) ++ [0] = U0 at *
  generalize Nt.digits (Y * 2 ^ z) = v at *
  go_wp2
  go_loopw [10] (fun s10 wr => s10 = .slice (some ⟨gu, 0, none⟩) (L5 + 1) c7 ∧ wr = w7) (fun _ _ => 0)
  case atStart => exact ⟨rfl, rfl⟩
  case round =>
    obtain ⟨rfl, rfl⟩ := hrel
    go_wp2_with (at_make; refine wpList_makeK _ rfl (.tmp 84) (.tmp 84) _ rfl 82 .u32 4 Try.underlying22 u32_info _ _ _ _ M rfl rfl ?L ?C ?b2 ?b3 ?_)
    case L => show _ = _; omega
    case C => show _ = _; omega
    case b2 => omega
    case b3 => unfold maxLen; omega
    intro w8 hk8 hb8 hz8
    have hR : Hid (RW w8 w w4.heap.size gu (L5 + 1) c7 gv c6 (N + 2) wr.heap.size v U0 (List.replicate M 0)) := ⟨hU7.out.below hb8, hv7.out.below hb8, hk8, hB7.out.trans (hb8.mono hB7.out.size)⟩
    have hD : Hid (Nt.DivL M N (Nt.val a * 2 ^ z) (Nt.val v) U0 (List.replicate M 0)) := Nt.DivL.start (a := []) hdU.out (Nt.Dig.repl _) (by simp) hu7v.out.symm hlow.out
    obtain ⟨gq, hgq⟩ : ∃ g, g = wr.heap.size := ⟨_, rfl⟩
    have nq1 : gq ≠ gu := by omega
    have nq2 : gv ≠ gq := by omega
    have nq3 : w.heap.size ≤ gq := by have := hB7.out.size; omega
    rw [← hgq] at hR ⊢
    clear hk8 hb8 hz8 hgq hU7 hv7 hB7 hu7v hlow hdU
    go_wp2
    obtain ⟨wo, rfl⟩ : ∃ wo : World, wo = wr := ⟨_, rfl⟩
    go_loopw [14] (fun iv wr => ∃ (i : Nat) (U Q : List Int), i ≤ M ∧ iv = .int .i64 ((i : Int) - 1) ∧ Hid (RW wr w w4.heap.size gu (L5 + 1) c7 gv c6 (N + 2) gq v U Q) ∧ Hid (Q.length = M) ∧ Hid (Nt.DivL i N (Nt.val a * 2 ^ z) (Nt.val v) U Q)) (fun iv _ => (intOf iv + 1).toNat)
    case atStart => exact ⟨M, _, _, by omega, by congr 1; omega, hR, by simp [Hid], hD⟩
    case round =>
      obtain ⟨i, U, Q, hi, rfl, hR, hQ, hD⟩ := hrel
      rcases i with _ | j
      · have hsq : SlR .u32 wr (some ⟨gq, 0, none⟩) M M Q := hR.out.kq.slr_all hQ.out (Nat.le_refl _) (by unfold maxLen; omega)
        have hcu := hR.out.ku.slr.2.1
        have hcu2 := hR.out.ku.slr.2.2.1
        have hsu : SlR .u32 wr (some ⟨gu, 0, none⟩) (N + 2) c7 (U.take (N + 2)) := hR.out.ku.slr.upto (by omega)
        have hsud : SlR .u32 wr.drew (some ⟨gu, 0, none⟩) (N + 2) c7 (U.take (N + 2)) := hsu
        have Hdu := Lib.hid (hD.out.dU.take (N + 2))
        have Hdq := Lib.hid hD.out.dQ
        have hN1 : (N : Int) + 2 ≤ c7 := by omega
        have hfin := Lib.hid (rdiv_fin (b := b) hR.out hD.out hvn.out.1 hdv.out hv7v.out)
        have hcm7 : c7 ≤ 9223372036854775807 := by unfold maxLen at hcu2; omega
        clear hR hQ hD
        go_wp2
        go_region_with (first
          | (go_at_call 97; refine (rTrim_any (some ⟨gq, 0, none⟩) M M Q _ ?_ Hdq.out (by omega)).mono ?_; exact hsq; rintro e w9 ⟨A9, n9, c9, rfl, f9, hb9⟩)
          | (go_at_call 131; refine (rShift_down _ _ _ z _ _ ?_ Hdu.out (by omega) hz2).mono ?_; (first | exact hsud.below hb9 | exact hsu); rintro e w10 ⟨A10, n10, c10, rfl, f10, hb10⟩))
        all_goals
          have HF := Lib.hid (hfin.out w9 w10 A9 n9 c9 A10 n10 c10 f9 ⟨hb9.os, hb9.tape, hb9.output, hb9.size, hb9.block⟩ f10 hb10)
          clear f9 hb9 f10 hb10
          go_wp2
          go_ret3
          exact HF.out
      · have hj1 : ((j + 1 : Nat) : Int) - 1 = (j : Int) := by omega
        rw [hj1]
        clear hj1
        have hj : j + (N + 2) + 1 ≤ L5 + 1 := by omega
        have lU := Lib.hid hR.out.ku.1
        have Hj : Hid (j + (N + 2) + 1 ≤ U.length) := by show _ ≤ _; rw [lU.out]; exact hj
        have HU := Lib.hid (hD.out.pre (by have := lU.out; omega) hvn.out.1 hdv.out)
        have dU := Lib.hid hD.out.dU
        have c1 := hR.out.ucell (i := j + (N + 2)) (by omega)
        have c2' := hR.out.ucell (i := j + (N + 1)) (by omega)
        have c3 := hR.out.ucell (i := j + N) (by omega)
        have d1 := hR.out.vcell (i := N + 1) (by omega)
        have d2 := hR.out.vcell (i := N) (by omega)
        have hv1 := hdv.out.at (N + 1)
        have hv2 := hdv.out.at N
        have hu0 := dU.out.at (j + (N + 2))
        have hu1 := dU.out.at (j + (N + 1))
        have hu2 := dU.out.at (j + N)
        have htop := hvn.out.2
        obtain ⟨v1, ev1⟩ : ∃ x, x = v[N + 1]?.getD 0 := ⟨_, rfl⟩
        obtain ⟨v2, ev2⟩ : ∃ x, x = v[N]?.getD 0 := ⟨_, rfl⟩
        obtain ⟨u0, eu0⟩ : ∃ x, x = U[j + (N + 2)]?.getD 0 := ⟨_, rfl⟩
        obtain ⟨u1, eu1⟩ : ∃ x, x = U[j + (N + 1)]?.getD 0 := ⟨_, rfl⟩
        obtain ⟨u2, eu2⟩ : ∃ x, x = U[j + N]?.getD 0 := ⟨_, rfl⟩
        rw [← ev1] at d1 hv1 htop
        rw [← ev2] at d2 hv2
        rw [← eu0] at c1 hu0
        rw [← eu1] at c2' hu1
        rw [← eu2] at c3 hu2
        have Ev1 := Lib.hid ev1
        have Ev2 := Lib.hid ev2
        have Eu0 := Lib.hid eu0
        have Eu1 := Lib.hid eu1
        have Eu2 := Lib.hid eu2
        have hv1b : (v1 == 0) = false := by rw [beq_eq_false_iff_ne]; omega
        have or0 := Nt.or_top hu0.1 hu0.2 hu1.1 hu1.2
        have hRd : Hid (∀ k, RW (wr.drewN k) w w4.heap.size gu (L5 + 1) c7 gv c6 (N + 2) gq v U Q) := fun k => hR.out.drewN k
        have hw1 : IntKind.i64.wrap ((j : Int) + ((N : Int) + 2)) = (j : Int) + ((N : Int) + 2) := IntWalk.i64_in _ (by omega)
        have hw2 : IntKind.i64.wrap ((j : Int) + ((N : Int) + 2) - 1) = (j : Int) + ((N : Int) + 1) := by rw [show (j : Int) + ((N : Int) + 2) - 1 = (j : Int) + ((N : Int) + 1) by omega]; exact IntWalk.i64_in _ (by omega)
        have hw3 : ((j : Int) + ((N : Int) + 2)).toNat = j + (N + 2) := by omega
        have hw4 : ((j : Int) + ((N : Int) + 1)).toNat = j + (N + 1) := by omega
        clear ev1 ev2 eu0 eu1 eu2
        go_wp2
        go_quiet (fail)
        try rw [or0]
        obtain ⟨top, htop1⟩ : ∃ top, top = u0 * 4294967296 + u1 := ⟨_, rfl⟩
        have Htop := Lib.hid htop1
        have t0 : 0 ≤ top := by omega
        have t1 : top < 18446744073709551616 := by omega
        rw [← htop1]
        clear htop1 or0 hw1 hw2 hw3 hw4 c1 c2' c3 d1 d2 hR
        have hR1 := Lib.hid (hRd.out nq)
        clear hRd
        generalize wr.drewN nq = wa at *
        have d1 : wa.cell? ⟨gv, N + 1, none⟩ = some (.int .u32 v1) := by rw [Ev1.out]; exact hR1.out.vcell (by omega)
        have hT : Hid (Nt.DivFacts j N U v top u2 v1 v2) := Nt.div_facts hdv.out dU.out hvn.out.1 Hj.out Ev1.out Ev2.out Eu0.out Eu1.out Eu2.out Htop.out htop HU.out
        obtain ⟨T, hTd⟩ : ∃ T, T = Nt.valTo (U.drop j) (N + 3) / Nt.val v := ⟨_, rfl⟩
        have HTd := Lib.hid hTd
        clear hTd
        have Hst : Hid (Nt.Guess T top v1 v2 u2 (top / v1) (top % v1)) := by
          have h := hT.out
          exact Nt.Guess.start t0 (by omega) (by rw [HTd.out]; exact h.t0) (by rw [HTd.out]; exact h.ta) (by omega) (by omega)
        have b0 : 0 ≤ top / v1 := Int.ediv_nonneg t0 (by omega)
        have b1 : top / v1 ≤ 8589934592 := Int.ediv_le_of_le_mul (by omega) (by omega)
        have b2 : 0 ≤ top % v1 := Int.emod_nonneg _ (by omega)
        have b3 : top % v1 < 4294967296 := by have := Int.emod_lt_of_pos top (b := v1) (by omega); omega
        go_upto_block 4 with (fail)
        go_cut [16] (fun s16 wx => ∃ q : Int, s16 = .int .u64 q ∧ 0 ≤ q ∧ q < 4294967296 ∧ Hid (Nt.Good T top v1 v2 u2 q) ∧ Hid (RW wx w w4.heap.size gu (L5 + 1) c7 gv c6 (N + 2) gq v U Q))
        case first =>
          go_wp2
          obtain ⟨wo2, rfl⟩ : ∃ wo2 : World, wo2 = wr := ⟨_, rfl⟩
          go_loopw [16, 17] (fun s16 s17 wr => ∃ g r : Int, s16 = .int .u64 g ∧ s17 = .int .u64 r ∧ 0 ≤ g ∧ g ≤ 8589934592 ∧ 0 ≤ r ∧ r < 4294967296 ∧ Hid (Nt.Guess T top v1 v2 u2 g r) ∧ Hid (RW wr w w4.heap.size gu (L5 + 1) c7 gv c6 (N + 2) gq v U Q)) (fun s16 _ _ => (intOf s16).toNat)
          case atStart => exact ⟨_, _, rfl, rfl, b0, b1, b2, b3, Hst, hR1⟩
          case round =>
            obtain ⟨g, r, rfl, rfl, g0, g1, r0, r1, hg, hRg⟩ := hrel
            clear b0 b1 b2 b3 Hst hR1 d1
            have k1 : wr.cell? ⟨gv, N + 1, none⟩ = some (.int .u32 v1) := by rw [Ev1.out]; exact hRg.out.vcell (by omega)
            have k2 : wr.cell? ⟨gv, N, none⟩ = some (.int .u32 v2) := by rw [Ev2.out]; exact hRg.out.vcell (by omega)
            have k3 : wr.cell? ⟨gu, j + N, none⟩ = some (.int .u32 u2) := by rw [Eu2.out]; exact hRg.out.ucell (by omega)
            have hw1 : IntKind.i64.wrap ((j : Int) + ((N : Int) + 2)) = (j : Int) + ((N : Int) + 2) := IntWalk.i64_in _ (by omega)
            have hw2 : IntKind.i64.wrap ((j : Int) + ((N : Int) + 2) - 2) = (j : Int) + (N : Int) := by rw [show (j : Int) + ((N : Int) + 2) - 2 = (j : Int) + (N : Int) by omega]; exact IntWalk.i64_in _ (by omega)
            have hw3 : ((j : Int) + (N : Int)).toNat = j + N := by omega
            by_cases hq : 4294967296 ≤ g
            · skip
              have hn' : Hid (Nt.Guess T top v1 v2 u2 (g - 1) (r + v1)) := hg.out.next (by rw [HTd.out]; exact hT.out.t0) (by rw [HTd.out]; exact hT.out.t1) (by rw [HTd.out]; exact hT.out.ta) (by omega) (by omega) (.inl hq)
              have gp : 1 ≤ g := by have := hn'.out.q0; omega
              have hRx : Hid (∀ k, RW (wr.drewN k) w w4.heap.size gu (L5 + 1) c7 gv c6 (N + 2) gq v U Q) := fun k => hRg.out.drewN k
              have ee1 : Hid (∀ k, (wr.drewN k).cell? ⟨gv, N + 1, none⟩ = some (.int .u32 v1)) := fun _ => k1
              clear hg hRg
              go_wp2
              go_quiet (fail)
              have hR3 := Lib.hid (hRx.out nq)
              have e3 := ee1.out nq
              generalize wr.drewN nq = wq at *
              clear hRx ee1 k1 k2 k3 hw1 hw2 hw3
              by_cases hr : 4294967296 ≤ r + v1
              · have hG : Hid (Nt.Good T top v1 v2 u2 (g - 1)) := hn'.out.broke hT.out.tb hr (by omega) (by omega) (by omega) (by omega)
                go_wp2
                go_meet
                exact ⟨g - 1, rfl, by omega, hG.out.q1, hG, hR3⟩
              · go_wp2
                go_roundw
                case rel => first | exact ⟨g - 1, r + v1, rfl, rfl, hn'.out.q0, by omega, by omega, by omega, hn', hR3⟩ | exact ⟨by omega, by omega⟩ | exact ⟨by omega, by omega, by omega⟩ | omega
                case measure => simp [intOf]; omega
            · by_cases ht : r * 4294967296 + u2 < g * v2
              · skip
                have hn' : Hid (Nt.Guess T top v1 v2 u2 (g - 1) (r + v1)) := hg.out.next (by rw [HTd.out]; exact hT.out.t0) (by rw [HTd.out]; exact hT.out.t1) (by rw [HTd.out]; exact hT.out.ta) (by omega) (by omega) (.inr ht)
                have gp : 1 ≤ g := by have := hn'.out.q0; omega
                have or1 := Nt.or_top r0 r1 hu2.1 hu2.2
                have hq1 : decide (4294967296 ≤ g) = false := by simpa using hq
                have mb := Nt.mul_bd32 (x := g) (y := v2) ⟨g0, by omega⟩ hv2
                have htd : decide (bits BinOp.or IntKind.u64 (r * 4294967296) u2 < g * v2) = true := by rw [or1]; simpa using ht
                have gp2 : g < 4294967296 := by omega
                clear or1
                have hRx : Hid (∀ k, RW (wr.drewN k) w w4.heap.size gu (L5 + 1) c7 gv c6 (N + 2) gq v U Q) := fun k => hRg.out.drewN k
                have ee1 : Hid (∀ k, (wr.drewN k).cell? ⟨gv, N + 1, none⟩ = some (.int .u32 v1)) := fun _ => k1
                clear hg hRg
                go_wp2
                go_quiet (fail)
                have hR3 := Lib.hid (hRx.out nq)
                have e3 := ee1.out nq
                generalize wr.drewN nq = wq at *
                clear hRx ee1 k1 k2 k3 hw1 hw2 hw3
                by_cases hr : 4294967296 ≤ r + v1
                · have hG : Hid (Nt.Good T top v1 v2 u2 (g - 1)) := hn'.out.broke hT.out.tb hr (by omega) (by omega) (by omega) (by omega)
                  go_wp2
                  go_meet
                  exact ⟨g - 1, rfl, by omega, hG.out.q1, hG, hR3⟩
                · go_wp2
                  go_roundw
                  case rel => first | exact ⟨g - 1, r + v1, rfl, rfl, hn'.out.q0, by omega, by omega, by omega, hn', hR3⟩ | exact ⟨by omega, by omega⟩ | exact ⟨by omega, by omega, by omega⟩ | omega
                  case measure => simp [intOf]; omega
              · have hG : Hid (Nt.Good T top v1 v2 u2 g) := hg.out.good (by omega) (by omega)
                have or1 := Nt.or_top r0 r1 hu2.1 hu2.2
                have gp2 : g < 4294967296 := by omega
                have hq1 : decide (4294967296 ≤ g) = false := by simpa using hq
                have mb := Nt.mul_bd32 (x := g) (y := v2) ⟨g0, by omega⟩ hv2
                have htd : decide (bits BinOp.or IntKind.u64 (r * 4294967296) u2 < g * v2) = false := by rw [or1]; simpa using ht
                have hRx : Hid (∀ k, RW (wr.drewN k) w w4.heap.size gu (L5 + 1) c7 gv c6 (N + 2) gq v U Q) := fun k => hRg.out.drewN k
                clear hg hRg or1
                go_wp2
                go_quiet (fail)
                have hR3 := Lib.hid (hRx.out nq)
                clear hRx hw1 hw2 hw3
                go_wp2
                go_meet
                exact ⟨g, rfl, g0, gp2, hG, hR3⟩
        case rest =>
          obtain ⟨q, rfl, q0, q1, hG, hR2⟩ := hcut
          clear b0 b1 b2 b3 Hst hR1 d1
          go_wp2
          obtain ⟨wo3, rfl⟩ : ∃ wo3 : World, wo3 = wr := ⟨_, rfl⟩
          go_loopw [18, 19, 20] (fun bv cv iv wr => ∃ (i : Nat) (cr bo : Int) (S : List Int), i ≤ N + 2 ∧ 0 ≤ cr ∧ cr ≤ 4294967295 ∧ 0 ≤ bo ∧ bo ≤ 1 ∧ bv = .int .u64 bo ∧ cv = .int .u64 cr ∧ iv = .int .i64 i ∧ Hid (RW wr w w4.heap.size gu (L5 + 1) c7 gv c6 (N + 2) gq v S Q) ∧ Hid (Nt.DigP j N i U v S q cr bo)) (fun _ _ iv _ => N + 2 - (intOf iv).toNat)
          case atStart => exact ⟨0, 0, 0, U, by omega, by omega, by omega, by omega, by omega, rfl, rfl, rfl, hR2, rfl, dU.out, by simp [Nt.valTo_zero], fun _ _ => rfl⟩
          case round =>
            obtain ⟨i, cr, bo, S, hi2, cr0, cr1, o0, o1, rfl, rfl, rfl, hRm, hP⟩ := hrel
            clear hR2
            by_cases hin : i < N + 2
            · have kv := hRm.out.vcell (i := i) hin
              have ku := hRm.out.ucell (i := i + j) (by omega)
              have kf := hRm.out.ku.frozen (i + j)
              have hd := hdv.out.at i
              have hx := hP.out.dig.at (i + j)
              have mb := Nt.mul_bd32 (x := q) (y := v[i]?.getD 0) ⟨q0, q1⟩ hd
              obtain ⟨d, hdd⟩ : ∃ d, d = v[i]?.getD 0 := ⟨_, rfl⟩
              obtain ⟨x, hxx⟩ : ∃ x, x = S[i + j]?.getD 0 := ⟨_, rfl⟩
              have hn0 := Lib.hid (hP.out.next (p := cr + q * d) (t := x - (cr + q * d) % 4294967296 - bo) Hj.out hin hdd (by rw [Nat.add_comm j i]; exact hxx) (by omega) rfl (by rw [hxx]; omega) (by rw [hxx]; omega))
              rw [← hdd] at kv hd mb
              rw [← hxx] at ku hx
              have mb0 := mb.1
              have mb1 := mb.2
              have and1 := Nt.and_low (p := cr + q * d) (by omega) (by omega)
              have hin' : (i : Int) < (N : Int) + 2 := by omega
              have hij : (i : Int) + (j : Int) < (L5 : Int) + 1 := by omega
              clear hdd hxx mb hP
              by_cases hlt : x < (cr + q * d) % 4294967296 + bo
              · skip
                have hl2 : x - (cr + q * d) % 4294967296 - bo < 0 := by omega
                have hn1 := hn0.out
                rw [if_pos hl2, show (x - (cr + q * d) % 4294967296 - bo) % 4294967296 = x + 4294967296 - ((cr + q * d) % 4294967296 + bo) by omega, Nat.add_comm j i] at hn1
                have Hn := Lib.hid hn1
                have z0 : 0 ≤ x + 4294967296 - ((cr + q * d) % 4294967296 + bo) := by omega
                have z1 : x + 4294967296 - ((cr + q * d) % 4294967296 + bo) < 4294967296 := by omega
                clear hl2 hn1 hn0
                go_wp2
                go_roundw
                case rel => exact ⟨i + 1, _, _, _, by omega, by omega, by omega, by omega, by omega, rfl, rfl, by go_num, hRm.out.setU (fun h => hguv h.symm) nq1 hgw (i + j) _, Hn⟩
                case measure => simp [intOf]; omega
              · skip
                have hl2 : ¬ x - (cr + q * d) % 4294967296 - bo < 0 := by omega
                have hn1 := hn0.out
                rw [if_neg hl2, show (x - (cr + q * d) % 4294967296 - bo) % 4294967296 = x - ((cr + q * d) % 4294967296 + bo) by omega, Nat.add_comm j i] at hn1
                have Hn := Lib.hid hn1
                have z0 : 0 ≤ x - ((cr + q * d) % 4294967296 + bo) := by omega
                have z1 : x - ((cr + q * d) % 4294967296 + bo) < 4294967296 := by omega
                clear hl2 hn1 hn0
                go_wp2
                go_roundw
                case rel => exact ⟨i + 1, _, _, _, by omega, by omega, by omega, by omega, by omega, rfl, rfl, by go_num, hRm.out.setU (fun h => hguv h.symm) nq1 hgw (i + j) _, Hn⟩
                case measure => simp [intOf]; omega
            · obtain rfl : i = N + 2 := by omega
              have hu := hRm.out.ucell (i := j + (N + 2)) (by omega)
              have hf := hRm.out.ku.frozen (j + (N + 2))
              rw [hP.out.same _ (.inr (Nat.le_refl _)), ← Eu0.out] at hu
              have hjn : (j : Int) + ((N : Int) + 2) < (L5 : Int) + 1 := by omega
              by_cases ht : u0 < cr + bo
              · have q2 := hP.out.neg (t := u0 - cr - bo) hvn.out.1 dU.out Eu0.out rfl (by omega) q0
                obtain ⟨tt, htt⟩ : ∃ tt, tt = u0 - cr - bo := ⟨_, rfl⟩
                have Htt := Lib.hid htt
                have tt0 : -4294967296 ≤ tt := by omega
                have tt1 : tt < 0 := by omega
                have z0 : 0 ≤ u0 + 4294967296 - (cr + bo) := by omega
                have z1 : u0 + 4294967296 - (cr + bo) < 4294967296 := by omega
                have etm : Hid (u0 + 4294967296 - (cr + bo) = tt % 4294967296) := by show _ = _; omega
                have hR5 : Hid (RW (wr.setCell ⟨gu, j + (N + 2), none⟩ (.int .u32 (u0 + 4294967296 - (cr + bo)))) w w4.heap.size gu (L5 + 1) c7 gv c6 (N + 2) gq v (S.set (j + (N + 2)) (tt % 4294967296)) Q) := by
                  rw [etm.out]
                  exact hRm.out.setU (fun h => hguv h.symm) nq1 hgw _ _
                have hlS : Hid ((S.set (j + (N + 2)) (tt % 4294967296)).length = L5 + 1) := by show _ = _; rw [List.length_set, hP.out.len]; exact lU.out
                have dS : Hid (Nt.Dig (S.set (j + (N + 2)) (tt % 4294967296))) := hP.out.dig.set _ (by omega)
                clear htt
                go_wp2
                obtain ⟨wo4, rfl⟩ : ∃ wo4 : World, wo4 = wr := ⟨_, rfl⟩
                go_loopw [25, 26] (fun cv iv wr => ∃ (i : Nat) (c : Int) (R : List Int), i ≤ N + 2 ∧ 0 ≤ c ∧ c ≤ 1 ∧ cv = .int .u64 c ∧ iv = .int .i64 i ∧ Hid (RW wr w w4.heap.size gu (L5 + 1) c7 gv c6 (N + 2) gq v R Q) ∧ Hid (Nt.DigQ j N i (S.set (j + (N + 2)) (tt % 4294967296)) v R c)) (fun _ iv _ => N + 2 - (intOf iv).toNat)
                case atStart => exact ⟨0, 0, _, by omega, by omega, by omega, rfl, rfl, hR5, rfl, dS.out, by simp [Nt.valTo_zero], fun _ _ => rfl⟩
                case round =>
                  obtain ⟨i, c, R, hi3, c0, c1, rfl, rfl, hRa, hA⟩ := hrel
                  clear hR5 hu hf
                  by_cases hin : i < N + 2
                  · have kv := hRa.out.vcell (i := i) hin
                    have ku := hRa.out.ucell (i := i + j) (by omega)
                    have hd := hdv.out.at i
                    have hx := hA.out.dig.at (i + j)
                    obtain ⟨d, hdd⟩ : ∃ d, d = v[i]?.getD 0 := ⟨_, rfl⟩
                    obtain ⟨x, hxx⟩ : ∃ x, x = R[i + j]?.getD 0 := ⟨_, rfl⟩
                    have hn1 := hA.out.next (x := x) (d := d) (t := c + (x + d)) (by have := hlS.out; omega) hin hdd (by rw [Nat.add_comm j i]; exact hxx) (by omega)
                    rw [Nat.add_comm j i] at hn1
                    have Hn := Lib.hid hn1
                    rw [← hdd] at kv hd
                    rw [← hxx] at ku hx
                    have hin' : (i : Int) < (N : Int) + 2 := by omega
                    have hij : (i : Int) + (j : Int) < (L5 : Int) + 1 := by omega
                    have hRx : Hid (∀ k, RW (wr.drewN k) w w4.heap.size gu (L5 + 1) c7 gv c6 (N + 2) gq v R Q) := fun k => hRa.out.drewN k
                    have hw1 : IntKind.i64.wrap ((i : Int) + (j : Int)) = (i : Int) + (j : Int) := IntWalk.i64_in _ (by omega)
                    have hw2 : ((i : Int) + (j : Int)).toNat = i + j := by omega
                    clear hdd hxx hn1 hA hRa
                    go_wp2
                    go_quiet (fail)
                    have hR6 := Lib.hid (hRx.out nq)
                    clear hRx hw1 hw2 kv ku
                    generalize wr.drewN nq = wq at *
                    have ku := hR6.out.ucell (i := i + j) (by omega)
                    have kf := hR6.out.ku.frozen (i + j)
                    go_wp2
                    go_roundw
                    case rel => exact ⟨i + 1, _, _, by omega, by omega, by omega, rfl, by go_num, hR6.out.setU (fun h => hguv h.symm) nq1 hgw (i + j) _, Hn⟩
                    case measure => simp [intOf]; omega
                  · obtain rfl : i = N + 2 := by omega
                    obtain ⟨z1, z2, z3, z4⟩ := Nt.DigQ.done hP.out hA.out Hj.out hvn.out.1 hdv.out dU.out Eu0.out Htt.out tt1 tt0 q0 q1 hT.out HTd.out hG.out (by omega) hv2.1
                    have hu := hRa.out.ucell (i := j + (N + 2)) (by omega)
                    have hf := hRa.out.ku.frozen (j + (N + 2))
                    rw [z1] at hu
                    have hDR := Lib.hid z4
                    obtain ⟨y2, hy2⟩ : ∃ y2, y2 = tt % 4294967296 := ⟨_, rfl⟩
                    rw [← hy2] at hu z3
                    have y20 : 0 ≤ y2 := by omega
                    have y21 : y2 < 4294967296 := by omega
                    have hRz : Hid (RW (wr.setCell ⟨gu, j + (N + 2), none⟩ (.int .u32 0)) w w4.heap.size gu (L5 + 1) c7 gv c6 (N + 2) gq v (R.set (j + (N + 2)) 0) Q) := hRa.out.setU (fun h => hguv h.symm) nq1 hgw _ _
                    clear z1 z4 hy2
                    have hcq := hRz.out.kq.cell (i := j) (by have := hQ.out; omega)
                    have hfq := hRz.out.kq.frozen j
                    have hjM : (j : Int) < M := by omega
                    go_wp2
                    go_roundw
                    case rel =>
                      obtain ⟨d1, d2, d3, d4, d5, d6, d7⟩ := hDR.out
                      exact ⟨j, _, _, by omega, rfl, hRz.out.setQ nq2 nq1 nq3 j _, by have := hQ.out; show _ = _; simpa using this, hD.out.next (by have := lU.out; omega) (by have := hQ.out; omega) hvn.out.1 hdv.out d1 d2 d3 d4 d5 d6 d7⟩
                    case measure => simp [intOf]
              · have hDR := Lib.hid (hP.out.done (t := u0 - (cr + bo)) Hj.out hvn.out.1 hdv.out dU.out Eu0.out (by omega) (by omega) (by omega) q0 q1 hT.out HTd.out hG.out (by omega) hv2.1)
                have z0 : 0 ≤ u0 - (cr + bo) := by omega
                have z1 : u0 - (cr + bo) < 4294967296 := by omega
                have hRz : Hid (RW (wr.setCell ⟨gu, j + (N + 2), none⟩ (.int .u32 (u0 - (cr + bo)))) w w4.heap.size gu (L5 + 1) c7 gv c6 (N + 2) gq v (S.set (j + (N + 2)) (u0 - (cr + bo))) Q) := hRm.out.setU (fun h => hguv h.symm) nq1 hgw _ _
                have hcq := hRz.out.kq.cell (i := j) (by have := hQ.out; omega)
                have hfq := hRz.out.kq.frozen j
                have hjM : (j : Int) < M := by omega
                go_wp2
                go_roundw
                case rel =>
                  obtain ⟨d1, d2, d3, d4, d5, d6, d7⟩ := hDR.out
                  exact ⟨j, _, _, by omega, rfl, hRz.out.setQ nq2 nq1 nq3 j _, by have := hQ.out; show _ = _; simpa using this, hD.out.next (by have := lU.out; omega) (by have := hQ.out; omega) hvn.out.1 hdv.out d1 d2 d3 d4 d5 d6 d7⟩
                case measure => simp [intOf]
theorem rDivMod_any (A B : Option Addr) (n c m d : Nat) (a b : List Int) (w : World) (ha : SlR .u32 w A n c a) (hb : SlR .u32 w B m d b) (da : Nt.Dig a) (db : Nt.Dig b) (hn : n ≤ 500000000) (hm : m ≤ 500000000) (hz : Nt.val b ≠ 0) :
    Calls Try.prog 122 #[.slice A n c, .slice B m d] w fun e w' => DivMF w w' e (Nt.val a) (Nt.val b) := by
  have b0 := Nt.val_nonneg db
  rcases Int.lt_or_le (Nt.val b) 4294967296 with h | h
  · exact rDivMod_one _ _ _ _ _ _ _ _ _ ha hb da db (by omega) (by omega) (by omega) h
  · rcases Int.lt_or_le (Nt.val a) (Nt.val b) with h' | h'
    · exact rDivMod_lt _ _ _ _ _ _ _ _ _ ha hb da db (by omega) (by omega) h h'
    · exact rDivMod_long _ _ _ _ _ _ _ _ _ ha hb da db hn hm h h'
end Go.Proofs.Ytnedhbidmfoegaa
