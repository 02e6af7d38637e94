/- Contracts of nat: shorten. -/
import Derived.Test.YtnedhbidmfoegaaGreatNatO
namespace Go.Proofs.YtnedhbidmfoegaaGreat
open Go.RowKit
set_option linter.unusedVariables false
theorem NatF.mono {w0 w1 w : World} {A : Option Addr} {n c v : Nat} (h : NatF w1 w A n c v) (hw : w0.heap.size ≤ w1.heap.size) : NatF w0 w A n c v :=
  ⟨h.1, h.2.1, fun hp => by obtain ⟨a, e, k, t⟩ := h.2.2 hp; exact ⟨a, e, by omega, t⟩⟩
namespace Nt
theorem top_le {x y : List Int} {k : Nat} (dx : Dig x) (dy : Dig y) (hx : x.length ≤ k + 1) (hy : y.length ≤ k + 1) (h : val y ≤ val x) : y[k]?.getD 0 ≤ x[k]?.getD 0 := by
  have ex : val x = valTo x k + pw k * x[k]?.getD 0 := by rw [← valTo_all x hx, valTo_succ]
  have ey : val y = valTo y k + pw k * y[k]?.getD 0 := by rw [← valTo_all y hy, valTo_succ]
  have a1 := valTo_lt dx k
  have a2 := valTo_nonneg dy k
  have hp := pw_pos k
  have : pw k * y[k]?.getD 0 < pw k * (x[k]?.getD 0 + 1) := by rw [Int.mul_add]; omega
  have := Int.lt_of_mul_lt_mul_left this (by omega)
  omega
theorem digits_len_mono {x y : Nat} (h : y ≤ x) : (digits y).length ≤ (digits x).length := by
  rcases Nat.lt_or_ge (digits x).length (digits y).length with h' | h'
  · have := len_lt (digits_dig x) (digits_dig y) (digits_norm y) h'
    rw [digits_val, digits_val] at this
    omega
  · exact h'
theorem gcd_nat {a b x y : Int} (h : Int.gcd a b = Int.gcd x y) (a0 : 0 ≤ a) (b0 : 0 ≤ b) (x0 : 0 ≤ x) (y0 : 0 ≤ y) : Nat.gcd a.toNat b.toNat = Nat.gcd x.toNat y.toNat := by
  unfold Int.gcd at h
  rw [show a.natAbs = a.toNat by omega, show b.natAbs = b.toNat by omega, show x.natAbs = x.toNat by omega, show y.natAbs = y.toNat by omega] at h
  exact h
/-- The shift that the highest digit asks for. -/
theorem lz_int {y : Int} (h0 : 0 < y) (h1 : y < 4294967296) : ∃ z : Nat, 32 - (Lib.bitLen y.toNat : Int) = z ∧ z < 32 ∧ (y + 1) * 2 ^ z ≤ 4294967296 := by
  obtain ⟨z, hz1, hz2, hz3, hz4⟩ := lz_spec (x := y.toNat) (by omega) (by omega)
  refine ⟨z, hz1, hz2, ?_⟩
  have e : ((y.toNat * 2 ^ z : Nat) : Int) = y * 2 ^ z := by rw [Int.natCast_mul, Int.natCast_pow]; congr 1; omega
  have hs := Nt.p2_split hz2
  have p0 := Nt.p2_pos z
  have h4 : y * 2 ^ z < 2 ^ (32 - z) * 2 ^ z := by rw [Int.mul_comm (2 ^ (32 - z)), hs]; omega
  have h5 := Int.lt_of_mul_lt_mul_right h4 (by omega)
  have h6 : (y + 1) * 2 ^ z ≤ 2 ^ (32 - z) * 2 ^ z := Int.mul_le_mul_of_nonneg_right (by omega) (by omega)
  rw [Int.mul_comm (2 ^ (32 - z)), hs] at h6
  exact h6
end Nt
/-- What shorten answers: two later members of the sequence of remainders. -/
def ShF (w0 w w' : World) (e : Ending) (X Y : Nat) : Prop := ∃ A1 n1 c1 A2 n2 c2 X' Y', e = .returned (.tuple #[.slice A1 n1 c1, .slice A2 n2 c2]) ∧ NatF w0 w' A1 n1 c1 X' ∧ NatF w0 w' A2 n2 c2 Y' ∧ Y' ≤ X' ∧ Y' < Y ∧ X' ≤ X ∧ Nat.gcd X' Y' = Nat.gcd X Y ∧ Below w.heap.size w w'
set_option maxHeartbeats 1000000 in
theorem shorten_any (w0 w : World) (A B : Option Addr) (n c m d X Y : Nat) (ha : NatF w0 w A n c X) (hb : NatF w0 w B m d Y) (hw : w0.heap.size ≤ w.heap.size) (hn : n ≤ 1000000000) (hm : 2 < m) (hle : Y ≤ X) :
    Calls Tryz.prog 192 #[.slice A n c, .slice B m d] w fun e w' => ShF w0 w w' e X Y := by
  have hmn : m ≤ n := by rw [ha.1, hb.1]; exact Nt.digits_len_mono hle
  obtain ⟨k, hk⟩ : ∃ k, n = k + 3 := ⟨n - 3, by omega⟩
  subst hk
  have dx := Nt.digits_dig X
  have dy := Nt.digits_dig Y
  have ex := Nt.digits_val X
  have ey := Nt.digits_val Y
  have hy0 : 0 < Y := by
    rcases Nat.eq_zero_or_pos Y with h | h
    · have := hb.1; rw [h, Nt.digits_zero] at this; simp at this; omega
    · exact h
  have tx := Nt.norm_last (k := k + 2) (Nt.digits_norm X) ha.1.symm
  have bx := dx.at (k + 2)
  obtain ⟨z, hz1, hz2, hz3⟩ := Nt.lz_int (y := (Nt.digits X)[k + 2]?.getD 0) (by omega) (by omega)
  have hty := Nt.top_le (k := k + 2) dx dy (by rw [← ha.1]; exact Nat.le_refl _) (by rw [← hb.1]; exact hmn) (by rw [ex, ey]; omega)
  have hz4 : ((Nt.digits Y)[k + 2]?.getD 0 + 1) * 2 ^ z ≤ 4294967296 := by
    have : ((Nt.digits Y)[k + 2]?.getD 0 + 1) * 2 ^ z ≤ ((Nt.digits X)[k + 2]?.getD 0 + 1) * 2 ^ z := Int.mul_le_mul_of_nonneg_right (by omega) (by have := Nt.p2_pos z; omega)
    omega
  obtain ⟨b1, o1, he1, _, hc1⟩ := ha.2.1.pos (i := k + 2) (by omega)
  subst he1
  obtain ⟨t, ht⟩ : ∃ t, t = (Nt.digits X)[k + 2]?.getD 0 := ⟨_, rfl⟩
  have Ha := Lib.hid ha
  have Hb := Lib.hid hb
  have Hz1 : Hid (32 - (Lib.bitLen t.toNat : Int) = z) := by rw [ht]; exact hz1
  have Hz3 := Lib.hid hz3
  have Hz4 := Lib.hid hz4
  have Ex := Lib.hid ex
  have Ey := Lib.hid ey
  rw [← ht] at hc1 bx tx
  clear ha hb ex ey hz1 hz3 hz4 ht hty
  go_enter Tryz.func192, Tryz.ntmps192
  go_wp2_with fail
  refine (LeadingZeros32_any t _ bx.1 bx.2).mono ?_
  rintro e w1 ⟨rfl, rfl⟩
  rw [Hz1.out]
  have hlz : (0 : Int) ≤ (z : Int) ∧ (z : Int) < 32 := by omega
  go_wp2_with fail
  refine (leading_any _ _ _ k z _ _ Ha.out.2.1 dx (Nat.le_refl _) (by omega) hz2 Hz3.out).mono ?_
  rintro e w2 ⟨⟨p, rfl, hp⟩, hb2⟩
  have Hp := Lib.hid hp
  clear hp
  go_wp2_with fail
  refine (leading_any _ _ _ k z _ _ (Hb.out.2.1.below hb2) dy hmn (by omega) hz2 Hz4.out).mono ?_
  rintro e w3 ⟨⟨q, rfl, hq⟩, hb3⟩
  have Hq := Lib.hid hq
  have HB3 : Hid (Below w1.heap.size w1 w3) := hb2.trans (hb3.mono hb2.size)
  clear hq hb2 hb3
  obtain ⟨p0, p1, ex, hex, ex0, ex1⟩ := Hp.out
  obtain ⟨q0, q1, ey, hey, ey0, ey1⟩ := Hq.out
  rw [Ex.out] at hex
  rw [Ey.out] at hey
  have HC := cofactors_any X Y p q (4 * Nt.pw (k + 1)) (2 ^ z) ex ey w3 (by have := Nt.pw_pos (k + 1); omega) (Nt.p2_pos z) hex ex0 ex1 hey ey0 ey1 (by omega) (by omega) p0 q0 (by omega) (by omega)
  clear hex hey ex0 ex1 ey0 ey1
  go_wp2_with fail
  refine HC.mono ?_
  rintro e w4 ⟨⟨a, b, c', d', rfl, hL⟩, rfl⟩
  have HL := Lib.hid hL
  clear hL HC
  by_cases hb0 : b = 0
  · subst hb0
    go_wp2_with fail
    refine (divide_any _ _ _ _ _ _ _ _ _ (Ha.out.2.1.below HB3.out) (Hb.out.2.1.below HB3.out) dx dy (Nt.digits_norm X) (Nt.digits_norm Y) (by omega) (by omega)).mono ?_
    rintro e w5 ⟨A1, n1, c1, A2, n2, c2, rfl, f1, f2, hbl⟩
    have F2 := Lib.hid f2
    have Hbl := Lib.hid hbl
    clear f1 f2 hbl
    go_wp2
    go_ret2
    have f2 := F2.out
    rw [Ex.out, Ey.out, ← Int.natCast_emod, Int.toNat_natCast] at f2
    have hs := HB3.out.size
    have hr := Nat.mod_lt X hy0
    refine ⟨B, m, d, A2, n2, c2, Y, X % Y, rfl, (Hb.out.below HB3.out).below Hbl.out, f2.mono (by omega), by omega, hr, hle, ?_, HB3.out.trans (Hbl.out.mono hs)⟩
    rw [Nat.gcd_comm X Y, Nat.gcd_rec Y X, Nat.gcd_comm]
  · have hbb : (b == 0) = false := by rw [beq_eq_false_iff_ne]; exact hb0
    obtain ⟨P, Q, l⟩ := HL.out
    have s1 : (0 ≤ a ∧ b ≤ 0) ∨ (a ≤ 0 ∧ 0 ≤ b) := by rcases l.sign with s | s <;> omega
    have s2 : (0 ≤ c' ∧ d' ≤ 0) ∨ (c' ≤ 0 ∧ 0 ≤ d') := by rcases l.sign with s | s <;> omega
    have hy1 := l.y0
    have hyx := l.yx
    have hxx := l.xx
    have hlt : c' * X + d' * Y < Y := by rcases l.less with h | h; exact absurd h.2.1 hb0; exact h
    have hg := l.gcd
    have H := Lib.hid hy1
    have H2 := Lib.hid hyx
    have H3 := Lib.hid hxx
    have H4 := Lib.hid hlt
    have H5 := Lib.hid hg
    have la := l.ba
    have lb := l.bb
    have lc := l.bc
    have ld := l.bd
    clear l hy1 hyx hxx hlt hg hb0 HL Hp Hq
    go_wp2_with fail
    refine (combine_any _ _ _ _ _ _ _ _ a b _ (Ha.out.2.1.below HB3.out) (Hb.out.2.1.below HB3.out) dx dy (by omega) hmn la.1 la.2 lb.1 lb.2 s1 (by rw [Ex.out, Ey.out]; have := H.out; have := H2.out; omega) (by rw [Ex.out, Ey.out]; exact H3.out)).mono ?_
    rintro e w5 ⟨A1, n1, c1, rfl, f1, hbl1⟩
    rw [Ex.out, Ey.out] at f1
    have F1 := Lib.hid f1
    have HB5 : Hid (Below w1.heap.size w1 w5) := HB3.out.trans (hbl1.mono HB3.out.size)
    clear f1
    go_wp2_with fail
    refine (combine_any _ _ _ _ _ _ _ _ c' d' _ (Ha.out.2.1.below HB5.out) (Hb.out.2.1.below HB5.out) dx dy (by omega) hmn lc.1 lc.2 ld.1 ld.2 s2 (by rw [Ex.out, Ey.out]; exact H.out) (by rw [Ex.out, Ey.out]; have := H2.out; have := H3.out; omega)).mono ?_
    rintro e w6 ⟨A2, n2, c2, rfl, f2, hbl2⟩
    rw [Ex.out, Ey.out] at f2
    have F2 := Lib.hid f2
    have HB6 := Lib.hid hbl2
    clear f2 hbl1 hbl2
    go_wp2
    go_ret2
    have h1 := H.out
    have h2 := H2.out
    have h3 := H3.out
    have h4 := H4.out
    have hs := HB3.out.size
    have hs5 := HB5.out.size
    refine ⟨A1, n1, c1, A2, n2, c2, (a * X + b * Y).toNat, (c' * X + d' * Y).toNat, rfl, (F1.out.mono (by omega)).below HB6.out, F2.out.mono (by omega), by omega, by omega, by omega, ?_, HB5.out.trans (HB6.out.mono hs5)⟩
    have := Nt.gcd_nat H5.out (by omega) (by omega) (by omega) (by omega)
    simpa using this
end Go.Proofs.YtnedhbidmfoegaaGreat
