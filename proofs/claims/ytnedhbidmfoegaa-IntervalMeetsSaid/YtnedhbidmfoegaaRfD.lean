/- Contracts of the reference of nat: BitLen, Shift. -/
import Derived.Test.YtnedhbidmfoegaaRfC
import Derived.Test.YtnedhbidmfoegaaNatO
namespace Go.Proofs.Ytnedhbidmfoegaa
open Go.RowKit
set_option linter.unusedVariables false
namespace Nt
/-- The least n for which v is less than 2^n. -/
def bitl (v : Nat) : Nat := if v = 0 then 0 else v.log2 + 1
theorem bitl_half {v : Nat} (h : 0 < v) : bitl v = bitl (v / 2) + 1 := by
  unfold bitl
  rw [if_neg (by omega)]
  rw [Nat.log2_def]
  by_cases h2 : 2 ≤ v
  · rw [if_pos h2, if_neg (by omega)]
  · rw [if_neg h2, if_pos (by omega)]
theorem bitl_lt (v : Nat) : v < 2 ^ bitl v := by
  unfold bitl
  split
  · rename_i h; rw [h]; exact Nat.pow_pos (by omega)
  · exact Nat.lt_log2_self
theorem bitl_le {v : Nat} (h : 0 < v) : 2 ^ (bitl v - 1) ≤ v := by
  unfold bitl
  rw [if_neg (by omega)]
  exact Nat.log2_self_le (by omega)
theorem bitl_unique {v k : Nat} (hk : 0 < k) (h1 : 2 ^ (k - 1) ≤ v) (h2 : v < 2 ^ k) : bitl v = k := by
  have hv : 0 < v := by have := Nat.pow_pos (n := k - 1) (show 0 < 2 by omega); omega
  have a1 := bitl_lt v
  have a2 := bitl_le hv
  have a3 : bitl v ≠ 0 := by unfold bitl; rw [if_neg (by omega)]; omega
  have b1 : 2 ^ (k - 1) < 2 ^ bitl v := by omega
  have b2 : 2 ^ (bitl v - 1) < 2 ^ k := by omega
  have c1 := (Nat.pow_lt_pow_iff_right (show 1 < 2 by omega)).1 b1
  have c2 := (Nat.pow_lt_pow_iff_right (show 1 < 2 by omega)).1 b2
  omega
theorem pw_two (k : Nat) : pw k = ((2 ^ (32 * k) : Nat) : Int) := by
  induction k with
  | zero => simp [pw]
  | succ k ih => rw [pw, ih, show 32 * (k + 1) = 32 + 32 * k by omega, Nat.pow_add, Int.natCast_mul]; rfl
theorem bitl_digits {v k t : Nat} (hl : (digits v).length = k + 1) (ht : (digits v)[k]?.getD 0 = (t : Int)) (h0 : 0 < t) : bitl v = 32 * k + bitl t := by
  have e : (v : Int) = valTo (digits v) k + pw k * t := by
    have h := digits_val v
    rw [← valTo_all (digits v) (n := k + 1) (by omega), valTo_succ, ht] at h
    exact h.symm
  have a0 := valTo_nonneg (digits_dig v) k
  have a1 := valTo_lt (digits_dig v) k
  rw [pw_two] at *
  generalize valTo (digits v) k = r at *
  have e2 : v = r.toNat + 2 ^ (32 * k) * t := by
    have : ((r.toNat + 2 ^ (32 * k) * t : Nat) : Int) = r + ((2 ^ (32 * k) : Nat) : Int) * t := by rw [Int.natCast_add, Int.natCast_mul]; omega
    omega
  have b1 := bitl_lt t
  have b2 := bitl_le h0
  have a3 : bitl t ≠ 0 := by unfold bitl; rw [if_neg (by omega)]; omega
  apply bitl_unique (by omega)
  · rw [e2, show 32 * k + bitl t - 1 = 32 * k + (bitl t - 1) by omega, Nat.pow_add]
    have := Nat.mul_le_mul_left (2 ^ (32 * k)) b2
    omega
  · rw [e2, Nat.pow_add]
    have : 2 ^ (32 * k) * (t + 1) ≤ 2 ^ (32 * k) * 2 ^ bitl t := Nat.mul_le_mul_left _ b1
    rw [Nat.mul_add] at this
    omega
theorem p2_pw (s : Nat) : (2 : Int) ^ s = 2 ^ (s % 32) * pw (s / 32) := by
  rw [pw_two]
  have : (2 : Nat) ^ s = 2 ^ (s % 32) * 2 ^ (32 * (s / 32)) := by rw [← Nat.pow_add]; congr 1; omega
  have h2 := congrArg (fun z : Nat => (z : Int)) this
  simpa using h2
theorem shl_snoc {S x : List Int} {i q : Nat} {cy z t : Int} (hl : S.length = q + i) (h : val S + cy * pw (q + i) = valTo x i * z * pw q) (ht : t = x[i]?.getD 0 * z + cy) :
    val (S ++ [t % 4294967296]) + (t / 4294967296) * pw (q + (i + 1)) = valTo x (i + 1) * z * pw q := by
  rw [snoc_val, valTo_succ, hl, ← Nat.add_assoc, pw]
  have e := Int.mul_ediv_add_emod t 4294967296
  generalize t % 4294967296 = r at *
  generalize t / 4294967296 = u at *
  rw [pw_add] at *
  grind
end Nt
set_option maxHeartbeats 1000000 in
theorem rBitLen_any (A : Option Addr) (n c : Nat) (a : List Int) (w : World) (ha : SlR .u32 w A n c a) (da : Nt.Dig a) (hn : n ≤ 1000000000) :
    Calls Try.prog 130 #[.slice A n c] w fun e w' => e = .returned (.int .i64 (Nt.bitl (Nt.val a).toNat)) ∧ Below w.heap.size w w' := by
  have lx : Hid ((Nt.digits (Nt.val a).toNat).length ≤ n) := by rw [← Nt.strip_eq da, ← ha.1]; exact Nt.strip_length_le a
  go_enter Try.func130, Try.ntmps130
  go_wp2_with fail
  refine (rTrim_any _ _ _ _ _ ha da (by omega)).mono ?_
  rintro e w1 ⟨A1, N, c1, rfl, f1, hb1⟩
  have hx := f1.nat.2.1
  have eN := Lib.hid f1.1
  have hN : N ≤ 1000000000 := by have := f1.1; have := lx.out; omega
  clear f1 ha da lx
  obtain ⟨X, hX⟩ : ∃ X, X = (Nt.val a).toNat := ⟨_, rfl⟩
  have HX := Lib.hid hX
  rw [← hX] at hx eN
  clear hX
  rcases N with _ | k
  · have h0 : Hid (Nt.bitl (Nt.val a).toNat = 0) := by
      have e1 := eN.out
      show _ = _
      rw [← HX.out]
      have : X = 0 := by
        rcases Nat.eq_zero_or_pos X with h | h
        · exact h
        · have := Nt.digits_length_pos h; omega
      rw [this]; rfl
    go_wp2
    go_ret
    exact ⟨by rw [h0.out]; rfl, hb1⟩
  · obtain ⟨b, o, rfl, _, hc⟩ := hx.pos (i := k) (by omega)
    have hcm := hx.2.1
    have ht := (Nt.digits_dig X).at k
    have hne := Nt.norm_last (k := k) (Nt.digits_norm X) eN.out.symm
    obtain ⟨t, ht2⟩ : ∃ t : Nat, (Nt.digits X)[k]?.getD 0 = (t : Int) := ⟨((Nt.digits X)[k]?.getD 0).toNat, by omega⟩
    have hfin := Nt.bitl_digits eN.out.symm ht2 (by omega)
    rw [ht2] at hc hne ht
    have Hfin : Hid (Nt.bitl (Nt.val a).toNat = 32 * k + Nt.bitl t) := by show _ = _; rw [← HX.out]; exact hfin
    have hkb : ((k : Int) + 1 == 0) = false := by rw [beq_eq_false_iff_ne]; omega
    clear hfin ht2 hx
    go_wp2
    have hb32 : Nt.bitl t ≤ 32 := by
      have h1 := Nt.bitl_le (v := t) (by omega)
      have h3 : 2 ^ (Nt.bitl t - 1) < 2 ^ 32 := by omega
      have := (Nat.pow_lt_pow_iff_right (show 1 < 2 by omega)).1 h3
      omega
    go_loop [3, 4] (fun nv xv => ∃ (x j : Nat), x < 4294967296 ∧ j ≤ 100000000000 ∧ nv = .int .i64 j ∧ xv = .int .u32 x ∧ Hid (j + Nt.bitl x = 32 * k + Nt.bitl t)) (fun _ xv => (intOf xv).toNat)
    case atStart => exact ⟨t, 32 * k, by omega, by omega, by go_num, rfl, rfl⟩
    case round =>
      obtain ⟨x, j, hx, hj, rfl, rfl, hs⟩ := hrel
      rcases Nat.eq_zero_or_pos x with h | h
      · subst h
        have hv : Hid (Nt.bitl (Nt.val a).toNat = j) := by show _ = _; rw [Hfin.out, ← hs.out]; rfl
        go_wp2
        go_ret
        exact ⟨by rw [hv.out]; rfl, hb1⟩
      · have hs' : Hid (j + 1 + Nt.bitl (x / 2) = 32 * k + Nt.bitl t) := by have := hs.out; rw [Nt.bitl_half h] at this; show _ = _; omega
        have hj2 : j + 1 ≤ 100000000000 := by have := hs'.out; omega
        go_wp2
        go_round
        case rel => exact ⟨x / 2, j + 1, by omega, hj2, by go_num, by go_num, hs'⟩
        case measure => simp [intOf]; omega
set_option maxHeartbeats 2000000 in
theorem rShift_pos (A : Option Addr) (n c s : Nat) (a : List Int) (w : World) (ha : SlR .u32 w A n c a) (da : Nt.Dig a) (hn : n ≤ 1000000000) (hs : s ≤ 65536) :
    Calls Try.prog 131 #[.slice A n c, .int .i64 s] w fun e w' => ∃ A' n' c', e = .returned (.slice A' n' c') ∧ OwnF w w' A' n' c' (Nt.val a * 2 ^ s).toNat ∧ Below w.heap.size w w' := by
  have lx : Hid ((Nt.digits (Nt.val a).toNat).length ≤ n) := by rw [← Nt.strip_eq da, ← ha.1]; exact Nt.strip_length_le a
  have a0 := Nt.val_nonneg da
  have hsd : decide (65536 < (s : Int)) = false := by simp; omega
  have hsd2 : decide ((s : Int) < 0) = false := by simp
  go_enter Try.func131, Try.ntmps131
  go_wp2_with fail
  refine (rTrim_any _ _ _ _ _ ha da (by omega)).mono ?_
  rintro e w1 ⟨A1, N, c1, rfl, f1, hb1⟩
  have hx := f1.nat.2.1
  have eN := Lib.hid f1.1
  have hN : N ≤ 1000000000 := by have := f1.1; have := lx.out; omega
  clear f1 ha da lx
  obtain ⟨X, hX⟩ : ∃ X, X = (Nt.val a).toNat := ⟨_, rfl⟩
  have HX : Hid (Nt.val a = Nt.val (Nt.digits X)) := by show _ = _; rw [Nt.digits_val, hX]; omega
  rw [← hX] at hx eN
  clear hX a0
  have dx := Lib.hid (Nt.digits_dig X)
  generalize Nt.digits X = x at *
  rcases Nat.eq_zero_or_pos N with h0 | h0
  · subst h0
    have hz : Hid ((Nt.val a * 2 ^ s).toNat = 0) := by
      have e1 : x = [] := List.eq_nil_of_length_eq_zero eN.out.symm
      show _ = _
      rw [HX.out, e1]; simp [Nt.val]
    go_wp2
    go_ret
    refine ⟨none, 0, 0, rfl, ?_, hb1⟩
    rw [hz.out]
    exact ⟨by rw [Nt.digits_zero]; rfl, by rw [Nt.digits_zero]; exact ⟨rfl, rfl, .inl ⟨rfl, rfl⟩⟩⟩
  have hN0 : ((N : Int) == 0) = false := by rw [beq_eq_false_iff_ne]; omega
  obtain ⟨q, hq1, hq2⟩ : ∃ q, 32 * q ≤ s ∧ s < 32 * q + 32 := ⟨s / 32, by omega, by omega⟩
  go_wp2_with (at_make; refine wpList_makeK _ rfl (.tmp 68) (.tmp 68) _ rfl 82 .u32 4 Try.underlying22 u32_info _ _ _ _ q rfl rfl ?L ?C ?b2 ?b3 ?_)
  case L => show _ = _; omega
  case C => show _ = _; omega
  case b2 => omega
  case b3 => unfold maxLen; omega
  intro w2 hk2 hb2 hz2
  have hB2 : Below w.heap.size w w2 := hb1.trans (hb2.mono hb1.size)
  have hx2 := hx.below hb2
  have hk : OwnK .u32 w2 w1.heap.size 82 (some ⟨w1.heap.size, 0, none⟩) q q (List.replicate q 0) := hk2.own (Nat.le_refl _) (by simp) (by unfold maxLen; omega)
  have hr32 : s % 32 < 32 := by omega
  have hqs : Hid (q = s / 32) := by show _ = _; omega
  have hw1 := hb1.size
  have hxw := Lib.hid hx
  have HB2 := Lib.hid hb2
  clear hk2 hz2 hb2 hx
  go_wp2
  go_loopw [8, 9, 10] (fun sv cv iv wr => ∃ (i : Nat) (cy : Int) (S : List Int) (A2 : Option Addr) (c2 : Nat), i ≤ N ∧ 0 ≤ cy ∧ Hid (cy < 2 ^ (s % 32)) ∧ sv = .slice A2 (q + i) c2 ∧ cv = .int .u64 cy ∧ iv = .int .i64 i ∧ OwnK .u32 wr w1.heap.size 82 A2 (q + i) c2 S ∧ Hid (Nt.Dig S) ∧ Hid (Nt.val S + cy * Nt.pw (q + i) = Nt.valTo x i * 2 ^ (s % 32) * Nt.pw q) ∧ Hid (SlR .u32 wr A1 N c1 x) ∧ Below w1.heap.size w1 wr) (fun _ _ iv _ => N - (intOf iv).toNat)
  case atStart => exact ⟨0, 0, _, _, _, by omega, by omega, Nt.p2_pos _, rfl, rfl, rfl, hk, Nt.Dig.repl _, by show _ = _; rw [Nt.valTo_zero, Nt.val_repl]; simp, hx2, HB2.out⟩
  case round =>
    clear hk hx2
    obtain ⟨i, cy, S, A2, c2, hi, cy0, cy1, rfl, rfl, rfl, hk, dS, hv, hx, hbr⟩ := hrel
    have hSl := Lib.hid hk.1
    by_cases hin : i < N
    · obtain ⟨b1, o1, rfl, _, hc1⟩ := hx.out.pos hin
      have q1 := dx.out.at i
      obtain ⟨xi, hxi⟩ : ∃ xi, xi = x[i]?.getD 0 := ⟨_, rfl⟩
      rw [← hxi] at hc1 q1
      have Hst := Lib.hid (Nt.shl_snoc (t := xi * 2 ^ (s % 32) + cy) hSl.out hv.out (by rw [hxi]))
      have hin' : (i : Int) < N := by omega
      have hx1 : Hid (SlR .u32 w1 (some ⟨b1, o1, none⟩) N c1 x) := hxw.out
      clear hxi
      have hl := Nt.hi_lift hr32 q1.1 q1.2
      have hl1 := hl.1
      have hl2 := hl.2.1
      have hp := Nt.p2_le hr32
      have cy2 : cy < 2147483648 := by have := cy1.out; omega
      have or1 : bits .or .u64 cy (xi * 2 ^ (s % 32)) = xi * 2 ^ (s % 32) + cy := by
        have hc : bits .or .u64 cy (xi * 2 ^ (s % 32)) = bits .or .u64 (xi * 2 ^ (s % 32)) cy := by simp only [bits, BitVec.or_comm]
        rw [hc]
        exact Nt.or_add (by omega) hl1 (Int.mul_emod_left _ _) (by omega) cy0 cy1.out
      have hcy' : Hid ((xi * 2 ^ (s % 32) + cy) / 4294967296 < 2 ^ (s % 32)) := by
        have k1 : xi * 2 ^ (s % 32) ≤ 4294967295 * 2 ^ (s % 32) := Int.mul_le_mul_of_nonneg_right (by omega) (by have := Nt.p2_pos (s % 32); omega)
        have k2 := cy1.out
        show _ < _
        omega
      have hnew : Hid (SlR .u32 (wr.alloc (.cells #[.int .u32 ((xi * 2 ^ (s % 32) + cy) % 4294967296)] 82)) (some ⟨wr.heap.size, 0, none⟩) 1 1 [(xi * 2 ^ (s % 32) + cy) % 4294967296]) := (KBlk.new wr 82 [(xi * 2 ^ (s % 32) + cy) % 4294967296]).slr_all rfl (Nat.le_refl _) (by decide)
      clear hl
      go_wp2_with (at_builtin; refine wpList_appendK _ rfl (.tmp 87) (.tmp 90) _ rfl 82 .u32 4 Try.underlying22 u32_info w1.heap.size A2 (q + i) c2 S rfl ?own (some ⟨wr.heap.size, 0, none⟩) 1 1 [(xi * 2 ^ (s % 32) + cy) % 4294967296] rfl ?slr ?h63 ?hby ?hbase ?_)
      case own => exact hk.below ((Below.refl _ _).alloc (Nat.le_refl _) _)
      case slr => exact hnew.out
      case h63 => unfold maxLen; omega
      case hby => omega
      case hbase => have := hbr.size; simp; omega
      intro A3 c3 w3 ho3 hb3
      have Ho : Hid (OwnK .u32 w3 w1.heap.size 82 A3 (q + (i + 1)) c3 (S ++ [(xi * 2 ^ (s % 32) + cy) % 4294967296])) := ho3
      have Hx3 : Hid (SlR .u32 w3 (some ⟨b1, o1, none⟩) N c1 x) := by
        have hxa := hx1.out
        exact hxa.below ((hbr.alloc hbr.size _).trans hb3)
      have HB : Hid (Below w1.heap.size w1 w3) := (hbr.alloc hbr.size _).trans hb3
      clear hnew ho3 hb3 hk hv hx
      go_wp2
      go_roundw
      case rel => exact ⟨i + 1, _, _, A3, c3, by omega, by omega, hcy', by rw [Nat.add_assoc], rfl, by go_num, Ho.out, dS.out.snoc (by omega), Hst.out, Hx3, HB.out⟩
      case measure => simp [intOf]; omega
    · obtain rfl : i = N := by omega
      have hp := Nt.p2_le hr32
      have cy2 : cy < 2147483648 := by have := cy1.out; omega
      have hval : Nt.val (S ++ [cy]) = Nt.val a * 2 ^ s := by
        have h1 := hv.out
        rw [Nt.valTo_all x (by have := eN.out; omega)] at h1
        rw [Nt.snoc_val, hSl.out, Int.mul_comm (Nt.pw (q + i)), h1, HX.out, Nt.p2_pw s, hqs.out, Int.mul_assoc]
      have Hval := Lib.hid hval
      have dS2 := Lib.hid (dS.out.snoc (x := cy) (by omega))
      have hnew : Hid (SlR .u32 (wr.alloc (.cells #[.int .u32 cy] 82)) (some ⟨wr.heap.size, 0, none⟩) 1 1 [cy]) := (KBlk.new wr 82 [cy]).slr_all rfl (Nat.le_refl _) (by decide)
      clear hval
      go_wp2_with (at_builtin; refine wpList_appendK _ rfl (.tmp 94) (.tmp 97) _ rfl 82 .u32 4 Try.underlying22 u32_info w1.heap.size A2 (q + i) c2 S rfl ?own2 (some ⟨wr.heap.size, 0, none⟩) 1 1 [cy] rfl ?slr2 ?h632 ?hby2 ?hbase2 ?_)
      case own2 => exact hk.below ((Below.refl _ _).alloc (Nat.le_refl _) _)
      case slr2 => exact hnew.out
      case h632 => unfold maxLen; omega
      case hby2 => omega
      case hbase2 => have := hbr.size; simp; omega
      intro A3 c3 w3 ho3 hb3
      have HB : Hid (Below w1.heap.size w1 w3) := (hbr.alloc hbr.size _).trans hb3
      have Hs := Lib.hid ho3.slr
      clear hnew ho3 hb3 hk hv
      go_wp2_with fail
      refine (rTrim_any _ _ _ _ _ Hs.out dS2.out (by omega)).mono ?_
      rintro e w4 ⟨A4, n4, c4, rfl, f4, hb4⟩
      rw [Hval.out] at f4
      have HF := Lib.hid f4
      clear f4
      go_wp2
      go_ret
      have hB3 : Below w.heap.size w w3 := hb1.trans (HB.out.mono hb1.size)
      exact ⟨A4, n4, c4, rfl, ⟨HF.out.1, HF.out.2.mono hB3.size⟩, hB3.trans (hb4.mono hB3.size)⟩
end Go.Proofs.Ytnedhbidmfoegaa
