/- Contracts of the reference of nat: Shift to the right. -/
import Derived.Test.YtnedhbidmfoegaaRfD
namespace Go.Proofs.Ytnedhbidmfoegaa
open Go.RowKit
set_option linter.unusedVariables false
namespace Nt
theorem shr_dig {x y : Int} {s : Nat} (h : s < 32) (x0 : 0 ≤ x) (x1 : x < 4294967296) (y0 : 0 ≤ y) (y1 : y < 4294967296) :
    (x + y * 4294967296) / 2 ^ s % 4294967296 = x / 2 ^ s + y % 2 ^ s * 2 ^ (32 - s) ∧ 0 ≤ x / 2 ^ s + y % 2 ^ s * 2 ^ (32 - s) ∧ x / 2 ^ s + y % 2 ^ s * 2 ^ (32 - s) < 4294967296 := by
  have hs := p2_split h
  have p0 := p2_pos s
  have m0 := Int.emod_nonneg y (b := 2 ^ s) (by omega)
  have m1 := Int.emod_lt_of_pos y p0
  obtain ⟨c0, c1, d0, d1, d2, _⟩ := low_dig h x0 x1 m0 m1
  have e1 : (x + y * 4294967296) / 2 ^ s = x / 2 ^ s + y * 2 ^ (32 - s) := by
    rw [← hs, Int.mul_comm (2 ^ s), ← Int.mul_assoc, Int.add_mul_ediv_right _ _ (by omega)]
  have e2 := (low_hi h y0 y1).2.2
  refine ⟨?_, by omega, d2⟩
  rw [e1]
  generalize y * 2 ^ (32 - s) = z at *
  generalize y % 2 ^ s * 2 ^ (32 - s) = u at *
  omega
theorem shr_snoc {S x : List Int} {i s : Nat} {c0 : Int} (h : s < 32) (hl : S.length = i) (hv : 2 ^ s * val S = valTo x i - c0 + x[i]?.getD 0 % 2 ^ s * pw i) :
    2 ^ s * val (S ++ [x[i]?.getD 0 / 2 ^ s + x[i + 1]?.getD 0 % 2 ^ s * 2 ^ (32 - s)]) = valTo x (i + 1) - c0 + x[i + 1]?.getD 0 % 2 ^ s * pw (i + 1) := by
  rw [snoc_val, valTo_succ, hl, pw]
  have e := Int.mul_ediv_add_emod (x[i]?.getD 0) (2 ^ s)
  have hs := p2_split h
  generalize x[i]?.getD 0 / 2 ^ s = q at *
  generalize x[i]?.getD 0 % 2 ^ s = r at *
  generalize x[i + 1]?.getD 0 % 2 ^ s = r' at *
  generalize (2 : Int) ^ s = p at *
  generalize (2 : Int) ^ (32 - s) = z at *
  grind
end Nt
set_option maxHeartbeats 2000000 in
theorem rShift_neg (A : Option Addr) (n c s : Nat) (a : List Int) (w : World) (ha : SlR .u32 w A n c a) (da : Nt.Dig a) (hn : n ≤ 1000000000) (hs0 : 0 < s) (hs : s < 32) :
    Calls Try.prog 131 #[.slice A n c, .int .i64 (-(s : Int))] w fun e w' => ∃ A' n' c', e = .returned (.slice A' n' c') ∧ OwnF w w' A' n' c' (Nt.val a / 2 ^ s).toNat ∧ Below w.heap.size w w' := by
  have lx : Hid ((Nt.digits (Nt.val a).toNat).length ≤ n) := by rw [← Nt.strip_eq da, ← ha.1]; exact Nt.strip_length_le a
  have a0 := Nt.val_nonneg da
  have hsd : decide (65536 < -(s : Int)) = false := by rw [decide_eq_false_iff_not]; omega
  have hsd2 : decide (-(s : Int) < 0) = true := by simp; omega
  have hdv : (s : Int) / 32 = 0 := by omega
  have hmd : (s : Int) % 32 = s := by omega
  have hmd2 : s % 32 = s := by omega
  go_enter Try.func131, Try.ntmps131
  go_wp2_with fail
  refine (rTrim_any _ _ _ _ _ ha da (by omega)).mono ?_
  rintro e w1 ⟨A1, N, c1, rfl, f1, hb1⟩
  have hx := f1.nat.2.1
  have eN := Lib.hid f1.1
  have hN : N ≤ 1000000000 := by have := f1.1; have := lx.out; omega
  clear f1 ha da lx
  obtain ⟨X, hX⟩ : ∃ X, X = (Nt.val a).toNat := ⟨_, rfl⟩
  have HX : Hid (Nt.val a = Nt.val (Nt.digits X)) := by show _ = _; rw [Nt.digits_val, hX]; omega
  rw [← hX] at hx eN
  clear hX a0
  have dx := Lib.hid (Nt.digits_dig X)
  generalize Nt.digits X = x at *
  rcases Nat.eq_zero_or_pos N with h0 | h0
  · subst h0
    have hz : Hid ((Nt.val a / 2 ^ s).toNat = 0) := by
      have e1 : x = [] := List.eq_nil_of_length_eq_zero eN.out.symm
      show _ = _
      rw [HX.out, e1]; simp [Nt.val]
    go_wp2
    go_ret
    refine ⟨none, 0, 0, rfl, ?_, hb1⟩
    rw [hz.out]
    exact ⟨by rw [Nt.digits_zero]; rfl, by rw [Nt.digits_zero]; exact ⟨rfl, rfl, .inl ⟨rfl, rfl⟩⟩⟩
  have hN0 : ((N : Int) == 0) = false := by rw [beq_eq_false_iff_ne]; omega
  have hlt : decide (-(s : Int) < -32 * (N : Int)) = false := by simp; omega
  have hlt2 : decide (-(s : Int) < -(32 * (N : Int))) = false := by simp; omega
  have hxw := Lib.hid hx
  clear hx
  go_wp2
  go_loopw [5, 6] (fun sv iv wr => ∃ (i : Nat) (S : List Int) (A2 : Option Addr) (c2 : Nat), i ≤ N ∧ sv = .slice A2 i c2 ∧ iv = .int .i64 i ∧ OwnK .u32 wr w1.heap.size 82 A2 i c2 S ∧ Hid (Nt.Dig S) ∧ Hid (2 ^ s * Nt.val S = Nt.valTo x i - x[0]?.getD 0 % 2 ^ s + x[i]?.getD 0 % 2 ^ s * Nt.pw i) ∧ Below w1.heap.size w1 wr) (fun _ iv _ => N - (intOf iv).toNat)
  case atStart => exact ⟨0, [], none, 0, by omega, rfl, rfl, ⟨rfl, rfl, .inl ⟨rfl, rfl⟩⟩, Nt.Dig.nil, by show _ = _; simp [Nt.valTo_zero, Nt.val, Nt.pw]; omega, Below.refl _ _⟩
  case round =>
    obtain ⟨i, S, A2, c2, hi, rfl, rfl, hk, dS, hv, hbr⟩ := hrel
    have hSl := Lib.hid hk.1
    by_cases hin : i < N
    · obtain ⟨b1, o1, rfl, _, hc1⟩ := (hxw.out.below hbr).pos hin
      have q1 := dx.out.at i
      have q2 := dx.out.at (i + 1)
      have Hst := Lib.hid (Nt.shr_snoc hs hSl.out hv.out)
      have Hdg := Lib.hid (Nt.shr_dig hs q1.1 q1.2 q2.1 q2.2)
      have hin' : (i : Int) < N := by omega
      by_cases hin2 : i + 1 < N
      · obtain ⟨b2, o2, he2, _, hc2⟩ := (hxw.out.below hbr).pos hin2
        obtain ⟨rfl, rfl⟩ : b1 = b2 ∧ o1 = o2 := by cases he2; exact ⟨rfl, rfl⟩
        clear he2
        have hin2' : (i : Int) + 1 < N := by omega
        have or1 := Nt.or_swap q1.1 q1.2 q2.1 q2.2
        have Hd := Lib.hid (Hdg.out.1)
        have hnew : Hid (SlR .u32 (wr.alloc (.cells #[.int .u32 ((x[i]?.getD 0 + x[i + 1]?.getD 0 * 4294967296) / 2 ^ s % 4294967296)] 82)) (some ⟨wr.heap.size, 0, none⟩) 1 1 [(x[i]?.getD 0 + x[i + 1]?.getD 0 * 4294967296) / 2 ^ s % 4294967296]) := (KBlk.new wr 82 [(x[i]?.getD 0 + x[i + 1]?.getD 0 * 4294967296) / 2 ^ s % 4294967296]).slr_all rfl (Nat.le_refl _) (by decide)
        go_wp2_with (at_builtin; refine wpList_appendK _ rfl (.tmp 56) (.tmp 63) _ rfl 82 .u32 4 Try.underlying22 u32_info w1.heap.size A2 i c2 S rfl ?own (some ⟨wr.heap.size, 0, none⟩) 1 1 [(x[i]?.getD 0 + x[i + 1]?.getD 0 * 4294967296) / 2 ^ s % 4294967296] rfl ?slr ?h63 ?hby ?hbase ?_)
        case own => exact hk.below ((Below.refl _ _).alloc (Nat.le_refl _) _)
        case slr => exact hnew.out
        case h63 => unfold maxLen; omega
        case hby => omega
        case hbase => have := hbr.size; simp; omega
        intro A3 c3 w3 ho3 hb3
        rw [Hd.out] at ho3
        have Ho := Lib.hid ho3
        have HB : Hid (Below w1.heap.size w1 w3) := (hbr.alloc hbr.size _).trans hb3
        clear hnew ho3 hb3 hk hv
        go_wp2
        go_roundw
        case rel => exact ⟨i + 1, _, A3, c3, by omega, rfl, by go_num, Ho.out, dS.out.snoc Hdg.out.2, Hst.out, HB.out⟩
        case measure => simp [intOf]; omega
      · have hin2' : ¬ (i : Int) + 1 < N := by omega
        have e2 : x[i + 1]?.getD 0 = 0 := by rw [List.getElem?_eq_none (by have := eN.out; omega)]; rfl
        have p0 := Nt.p2_pos s
        have z0 : 0 ≤ x[i]?.getD 0 / 2 ^ s := Int.ediv_nonneg q1.1 (by omega)
        have z1 : x[i]?.getD 0 / 2 ^ s < 4294967296 := by have := Hdg.out; rw [e2] at this; simp at this; omega
        have He2 : Hid (x[i]?.getD 0 / 2 ^ s = x[i]?.getD 0 / 2 ^ s + x[i + 1]?.getD 0 % 2 ^ s * 2 ^ (32 - s)) := by show _ = _; rw [e2]; simp
        clear e2
        have Hd := Lib.hid (He2.out)
        have hnew : Hid (SlR .u32 (wr.alloc (.cells #[.int .u32 (x[i]?.getD 0 / 2 ^ s)] 82)) (some ⟨wr.heap.size, 0, none⟩) 1 1 [x[i]?.getD 0 / 2 ^ s]) := (KBlk.new wr 82 [x[i]?.getD 0 / 2 ^ s]).slr_all rfl (Nat.le_refl _) (by decide)
        go_wp2_with (at_builtin; refine wpList_appendK _ rfl (.tmp 56) (.tmp 63) _ rfl 82 .u32 4 Try.underlying22 u32_info w1.heap.size A2 i c2 S rfl ?own (some ⟨wr.heap.size, 0, none⟩) 1 1 [x[i]?.getD 0 / 2 ^ s] rfl ?slr ?h63 ?hby ?hbase ?_)
        case own => exact hk.below ((Below.refl _ _).alloc (Nat.le_refl _) _)
        case slr => exact hnew.out
        case h63 => unfold maxLen; omega
        case hby => omega
        case hbase => have := hbr.size; simp; omega
        intro A3 c3 w3 ho3 hb3
        rw [Hd.out] at ho3
        have Ho := Lib.hid ho3
        have HB : Hid (Below w1.heap.size w1 w3) := (hbr.alloc hbr.size _).trans hb3
        clear hnew ho3 hb3 hk hv
        go_wp2
        go_roundw
        case rel => exact ⟨i + 1, _, A3, c3, by omega, rfl, by go_num, Ho.out, dS.out.snoc Hdg.out.2, Hst.out, HB.out⟩
        case measure => simp [intOf]; omega
    · obtain rfl : i = N := by omega
      have hval : Nt.val S = Nt.val a / 2 ^ s := by
        have h1 := hv.out
        have p0 := Nt.p2_pos s
        have m0 := Int.emod_nonneg (x[0]?.getD 0) (b := 2 ^ s) (by omega)
        have m1 := Int.emod_lt_of_pos (x[0]?.getD 0) p0
        have e2 : x[i]?.getD 0 = 0 := by rw [List.getElem?_eq_none (by have := eN.out; omega)]; rfl
        rw [Nt.valTo_all x (by have := eN.out; omega), e2] at h1
        simp only [Int.zero_emod, Int.zero_mul, Int.add_zero] at h1
        rw [HX.out]
        have := (Nt.div_of p0 (a := Nt.val x) (q := Nt.val S) (r := x[0]?.getD 0 % 2 ^ s) (by rw [Int.mul_comm]; omega) m0 m1).1
        exact this.symm
      have Hval := Lib.hid hval
      have Hs := Lib.hid hk.slr
      clear hval hk hv
      go_wp2_with fail
      refine (rTrim_any _ _ _ _ _ Hs.out dS.out (by omega)).mono ?_
      rintro e w4 ⟨A4, n4, c4, rfl, f4, hb4⟩
      rw [Hval.out] at f4
      have HF := Lib.hid f4
      clear f4
      go_wp2
      go_ret
      have hB3 : Below w.heap.size w wr := hb1.trans (hbr.mono hb1.size)
      exact ⟨A4, n4, c4, rfl, ⟨HF.out.1, HF.out.2.mono hB3.size⟩, hB3.trans (hb4.mono hB3.size)⟩
end Go.Proofs.Ytnedhbidmfoegaa
