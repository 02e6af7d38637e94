/- Parts of the proof: contracts of functions, each walked once, and plain laws. -/
import Derived.Test.YtbolmkfphieogaaGreatDrvA
import Derived.Deep.DeepCutAuto
import Derived.Deep.CutBlock
import Derived.WalkLawsBesides
import Derived.IntWalk
import Derived.KernelRfl
import Derived.Test.YtbolmkfphieogaaGreatProg
import Derived.OpenShut
import Derived.ChangeSlices
import Derived.Deep.Slices
import Derived.Laws.MakeOwn
import Derived.Maps.AppendAt
import Derived.ArgAppend
namespace Go.Proofs.YtbolmkfphieogaaGreat.Nt
set_option linter.unusedVariables false

structure Leh (x y p0 q0 p q a b c d : Int) : Prop where
 ep : p = a * p0 + b * q0
 eq : q = c * p0 + d * q0
 sign : (0 ≤ a ∧ b ≤ 0 ∧ c ≤ 0 ∧ 0 ≤ d) ∨ (a ≤ 0 ∧ 0 ≤ b ∧ 0 ≤ c ∧ d ≤ 0)
 pa : 0 ≤ p + a
 pb : 0 ≤ p + b
 qc : 0 ≤ q + c
 qd : 0 ≤ q + d
 ba : -2147483647 ≤ a ∧ a ≤ 2147483647
 bb : -2147483647 ≤ b ∧ b ≤ 2147483647
 bc : -2147483647 ≤ c ∧ c ≤ 2147483647
 bd : -2147483647 ≤ d ∧ d ≤ 2147483647
 y0 : 0 ≤ c * x + d * y
 yx : c * x + d * y ≤ a * x + b * y
 xx : a * x + b * y ≤ x
 less : (a = 1 ∧ b = 0 ∧ c = 0 ∧ d = 1) ∨ c * x + d * y < y
 xy : (a = 1 ∧ b = 0 ∧ c = 0 ∧ d = 1) ∨ a * x + b * y ≤ y
 gcd : Int.gcd (a * x + b * y) (c * x + d * y) = Int.gcd x y
 pm : p ≤ 4611686018427387904
 qm : q ≤ 4611686018427387904

theorem Leh.start {x y p0 q0 : Int} (hy : 0 ≤ y) (hxy : y ≤ x) (hp : 0 ≤ p0) (hq : 0 ≤ q0) (hp' : p0 ≤ 4611686018427387904) (hq' : q0 ≤ 4611686018427387904) : Leh x y p0 q0 p0 q0 1 0 0 1 := by
 refine ⟨by omega, by omega, by omega, by omega, by omega, by omega, by omega, by omega, by omega, by omega, by omega, by omega, by omega, by omega, .inl ⟨rfl, rfl, rfl, rfl⟩, .inl ⟨rfl, rfl, rfl, rfl⟩, by simp, hp', hq'⟩
theorem Leh.p0 {x y p0 q0 p q a b c d : Int} (h : Leh x y p0 q0 p q a b c d) : 0 ≤ p := by
 have := h.pa; have := h.pb; rcases h.sign with s | s <;> omega
theorem Leh.q0 {x y p0 q0 p q a b c d : Int} (h : Leh x y p0 q0 p q a b c d) : 0 ≤ q := by
 have := h.qc; have := h.qd; rcases h.sign with s | s <;> omega

theorem fl {n m f : Int} (hm : 0 < m) (hf : f = n / m) : 0 ≤ n - f * m ∧ n - f * m < m := by
 have e := Int.mul_ediv_add_emod n m
 have h0 := Int.emod_nonneg n (b := m) xq
 have h1 := Int.emod_lt_of_pos n hm
 rw [hf, Int.mul_comm]; omega

theorem corner_ge {r e g K ex ey : Int} (hK : 0 ≤ K) (hx0 : 0 ≤ ex) (hx1 : ex ≤ K) (hy0 : 0 ≤ ey) (hy1 : ey ≤ K) (h : (0 ≤ e ∧ g ≤ 0 ∧ 0 ≤ r + g) ∨ (e ≤ 0 ∧ 0 ≤ g ∧ 0 ≤ r + e)) : 0 ≤ r * K + e * ex + g * ey := by
 rcases h with ⟨h1, h2, h3⟩ | ⟨h1, h2, h3⟩
 ·have a1 : 0 ≤ e * ex := Int.mul_nonneg h1 hx0
  have a2 : g * K ≤ g * ey := Int.mul_le_mul_of_nonpos_left h2 hy1
  have a3 : 0 ≤ (r + g) * K := Int.mul_nonneg h3 hK
  rw [Int.add_mul] at a3
  omega
 ·have a1 : 0 ≤ g * ey := Int.mul_nonneg h2 hy0
  have a2 : e * K ≤ e * ex := Int.mul_le_mul_of_nonpos_left h1 hx1
  have a3 : 0 ≤ (r + e) * K := Int.mul_nonneg h3 hK
  rw [Int.add_mul] at a3
  omega

theorem Leh.step {x y p0 q0 p q a b c d f K Z ex ey : Int} (h : Leh x y p0 q0 p q a b c d) (hK : 0 < K) (hZ : 0 < Z)
  (hx : x * Z = p0 * K + ex) (hx0 : 0 ≤ ex) (hx1 : ex < K) (hy : y * Z = q0 * K + ey) (hy0 : 0 ≤ ey) (hy1 : ey < K)
  (h1 : q + c ≠ 0) (h2 : q + d ≠ 0) (f1 : f = (p + a) / (q + c)) (f2 : f = (p + b) / (q + d))
  (be : -2147483647 ≤ a - f * c ∧ a - f * c ≤ 2147483647) (bg : -2147483647 ≤ b - f * d ∧ b - f * d ≤ 2147483647) :
  Leh x y p0 q0 q (p - f * q) c d (a - f * c) (b - f * d) ∧ (p - f * q) + (a - f * c) < q + c := by
 have u1 := fl (by have := h.qc; omega) f1
 have u2 := fl (by have := h.qd; omega) f2
 have f0 : 0 ≤ f := by rw [f1]; exact Int.ediv_nonneg h.pa h.qc
 have q0' := h.q0
 have hqm := h.qm
 have hpm := h.pm
 have e1 : (p - f * q) + (a - f * c) = (p + a) - f * (q + c) := by grind
 have e2 : (p - f * q) + (b - f * d) = (p + b) - f * (q + d) := by grind
 have s : (0 ≤ c ∧ d ≤ 0 ∧ a - f * c ≤ 0 ∧ 0 ≤ b - f * d) ∨ (c ≤ 0 ∧ 0 ≤ d ∧ 0 ≤ a - f * c ∧ b - f * d ≤ 0) := by
  rcases h.sign with ⟨s1, s2, s3, s4⟩ | ⟨s1, s2, s3, s4⟩
  ·have := Int.mul_nonpos_of_nonneg_of_nonpos f0 s3
   have := Int.mul_nonneg f0 s4
   omega
  ·have := Int.mul_nonpos_of_nonneg_of_nonpos f0 s4
   have := Int.mul_nonneg f0 s3
   omega
 -- the remainder is not negative
 have r0 : 0 ≤ (a - f * c) * x + (b - f * d) * y := by
  have k := corner_ge (r := p - f * q) (e := a - f * c) (g := b - f * d) (K := K) (ex := ex) (ey := ey) xq hx0 xq hy0 xq xq
  have e : (p - f * q) * K + (a - f * c) * ex + (b - f * d) * ey = ((a - f * c) * x + (b - f * d) * y) * Z := by
   have ex' : ex = x * Z - p0 * K := by omega
   have ey' : ey = y * Z - q0 * K := by omega
   rw [ex', ey', h.ep, h.eq]; grind
  rw [e] at k
  exact Int.nonneg_of_mul_nonneg_left k hZ
 -- and less than the divisor
 have r1 : (a - f * c) * x + (b - f * d) * y < c * x + d * y := by
  have k := corner_ge (r := -(p - f * q - q) - 1) (e := -(a - f * c - c)) (g := -(b - f * d - d)) (K := K) (ex := ex) (ey := ey) xq hx0 xq hy0 xq
   (by rcases s with s | s
       ·exact .inl ⟨by omega, by omega, by omega⟩
       ·exact .inr ⟨by omega, by omega, by omega⟩)
  have e : (-(p - f * q - q) - 1) * K + -(a - f * c - c) * ex + -(b - f * d - d) * ey = (c * x + d * y - ((a - f * c) * x + (b - f * d) * y)) * Z - K := by
   have ex' : ex = x * Z - p0 * K := by omega
   have ey' : ey = y * Z - q0 * K := by omega
   rw [ex', ey', h.ep, h.eq]; grind
  rw [e] at k
  have k' : 0 < (c * x + d * y - ((a - f * c) * x + (b - f * d) * y)) * Z := by omega
  rcases Int.lt_or_le 0 (c * x + d * y - ((a - f * c) * x + (b - f * d) * y)) with h' | h'
  ·omega
  ·have := Int.mul_nonpos_of_nonpos_of_nonneg h' (Int.le_of_lt hZ)
   omega
 refine ⟨⟨h.eq, by rw [h.ep, h.eq]; grind, s, h.qc, h.qd, by omega, by omega, h.bc, h.bd, be, bg, r0, by omega, ?_, ?_, ?_, ?_, hqm, ?_⟩, by omega⟩
 ·have := h.yx; have := h.xx; omega
 ·right
  rcases h.xy with ⟨_, _, rfl, rfl⟩ | hxy
  ·omega
  ·have := h.yx; omega
 ·right
  rcases h.less with ⟨_, _, rfl, rfl⟩ | hl
  ·omega
  ·omega
 ·rw [← h.gcd]
  have e : (a - f * c) * x + (b - f * d) * y = (a * x + b * y) - f * (c * x + d * y) := by grind
  rw [e, Int.gcd_comm, Int.sub_eq_add_neg, ← Int.neg_mul, Int.gcd_add_mul_right_left]
 ·have : 0 ≤ f * q := Int.mul_nonneg f0 q0'
  omega

theorem comb_step {S x y : List Int} {i : Nat} {f g cy t : Int} (hi : i < S.length) (h : valTo S i + cy * pw i = f * valTo x i + g * valTo y i) (ht : t = f * x[i]?.getD 0 + cy + g * y[i]?.getD 0) :
  valTo (S.set i (t % 4294967296)) (i + 1) + (t / 4294967296) * pw (i + 1) = f * valTo x (i + 1) + g * valTo y (i + 1) := by
 rw [zxi S _ hi, zyf, zyf, pw]
 have e := Int.mul_ediv_add_emod t 4294967296
 generalize t % 4294967296 = r at *
 generalize t / 4294967296 = q at *
 grind
theorem mul_range {f d : Int} (h0 : -2147483647 ≤ f) (h1 : f ≤ 2147483647) (d0 : 0 ≤ d) (d1 : d < 4294967296) : -9223372030412324865 ≤ f * d ∧ f * d ≤ 9223372030412324865 ∧ (0 ≤ f → 0 ≤ f * d) ∧ (f ≤ 0 → f * d ≤ 0) := by
 have a1 : f * d ≤ 2147483647 * d := Int.mul_le_mul_of_nonneg_right h1 d0
 have a2 : -2147483647 * d ≤ f * d := Int.mul_le_mul_of_nonneg_right h0 d0
 exact ⟨by omega, by omega, fun h => Int.mul_nonneg h d0, fun h => Int.mul_nonpos_of_nonpos_of_nonneg h d0⟩
theorem mul_range2 {f c : Int} (h0 : 0 ≤ f) (h1 : f ≤ 2147483647) (d0 : -2147483647 ≤ c) (d1 : c ≤ 2147483647) : -4611686014132420609 ≤ f * c ∧ f * c ≤ 4611686014132420609 := by
 have a1 : f * c ≤ f * 2147483647 := Int.mul_le_mul_of_nonneg_left d1 h0
 have a2 : f * (-2147483647) ≤ f * c := Int.mul_le_mul_of_nonneg_left d0 h0
 omega
end Go.Proofs.YtbolmkfphieogaaGreat.Nt
namespace Go.Proofs.YtbolmkfphieogaaGreat
open Go.RowKit
set_option linter.unusedVariables false
set_option maxHeartbeats 2000000 in
theorem combine_any (A B : Option Addr) (n c m d : Nat) (x y : List Int) (f g : Int) (w : World) (ha : SlR .u32 w A n c x) (hb : SlR .u32 w B m d y) (da : Nt.Dig x) (db : Nt.Dig y) (hn : n ≤ 1000000000) (hm : m ≤ n)
  (f0 : -2147483647 ≤ f) (f1 : f ≤ 2147483647) (g0 : -2147483647 ≤ g) (g1 : g ≤ 2147483647) (hfg : (0 ≤ f ∧ g ≤ 0) ∨ (f ≤ 0 ∧ 0 ≤ g)) (h0 : 0 ≤ f * Nt.val x + g * Nt.val y) (h1 : f * Nt.val x + g * Nt.val y ≤ Nt.val x) :
  Calls Tryz.prog 259 #[.slice A n c, .slice B m d, .int .i64 f, .int .i64 g] w fun e w' => ∃ A' n' c', e = .returned (.slice A' n' c') ∧ NatF w w' A' n' c' (f * Nt.val x + g * Nt.val y).toNat ∧ Below w.heap.size w w' := by
 have hlx := Lib.hid ha.1
 have hly := Lib.hid hb.1
 have Hda := Lib.hid da
 have Hdb := Lib.hid db
 have Hfg := Lib.hid hfg
 have H0 := Lib.hid h0
 have H1 := Lib.hid h1
 clear hfg h0 h1 da db
 go_enter Tryz.func259, Tryz.ntmps259
 go_wp2_with (at_make; refine zxd _ rfl (.tmp 15) (.tmp 15) _ rfl 104 .u32 4 Tryz.underlying22 zxg _ _ _ _ n rfl rfl ?L ?C ?b2 ?b3 ?_)
 case L => rfl
 case C => rfl
 case b2 => omega
 case b3 => unfold maxLen; omega
 intro w2 hk2 hb2' hz2
 have hb2 : Below w.heap.size w w2 := hb2'
 obtain ⟨gr, hg⟩ : ∃ g, g = w.heap.size := ⟨_, rfl⟩
 have hgw : w.heap.size ≤ gr := by omega
 rw [← hg] at hk2 ⊢
 clear hz2 hg hb2'
 go_wp2
 go_loopw [10, 19] (fun cv iv wr => ∃ (i : Nat) (cy : Int) (S : List Int), i ≤ n ∧ -2147483648 ≤ cy ∧ cy ≤ 2147483648 ∧ cv = .int .i64 cy ∧ iv = .int .i64 i ∧ KBlk .u32 wr gr 104 S ∧ Hid (S.length = n) ∧ Hid (Nt.Dig S) ∧ Hid (Nt.valTo S i + cy * Nt.pw i = f * Nt.valTo x i + g * Nt.valTo y i) ∧ Below w.heap.size w wr) (fun _ iv _ => n - (intOf iv).toNat)
 case atStart => exact ⟨0, 0, _, by omega, by omega, by omega, rfl, rfl, hk2, by simp [Hid], Nt.Dig.repl _, by simp [Hid, Nt.zxc], hb2⟩
 case round =>
  obtain ⟨i, cy, S, hi, c0, c1, rfl, rfl, hk, hS, dS, hv, hbr⟩ := hrel
  clear hk2 hb2
  by_cases hiX : i < n
  ·obtain ⟨b1, o1, rfl, _, hc1⟩ := (ha.below hbr).pos hiX
   have q1 := Hda.out.at i
   have hc3 := hk.cell (i := i) (by have := hS.out; omega)
   have hf3 := hk.frozen i
   obtain ⟨xi, hxi⟩ : ∃ xi, xi = x[i]?.getD 0 := ⟨_, rfl⟩
   rw [← hxi] at hc1 q1
   have Hxi := Lib.hid hxi
   have r1 := Nt.mul_range f0 f1 q1.1 q1.2
   clear hxi
   by_cases hiY : i < m
   ·obtain ⟨b2, o2, rfl, _, hc2⟩ := (hb.below hbr).pos hiY
    have q2 := Hdb.out.at i
    obtain ⟨yi, hyi⟩ : ∃ yi, yi = y[i]?.getD 0 := ⟨_, rfl⟩
    rw [← hyi] at hc2 q2
    have Hyi := Lib.hid hyi
    have r2 := Nt.mul_range g0 g1 q2.1 q2.2
    have hiY' : (i : Int) < m := by omega
    have Hst := Lib.hid (Nt.comb_step (t := f * xi + cy + g * yi) (by have := hS.out; omega) hv.out (by rw [Hxi.out, Hyi.out]))
    have t0 : -9223372034707292161 ≤ f * xi + cy + g * yi := by rcases Hfg.out with ⟨k1, k2⟩ | ⟨k1, k2⟩ <;> (have := r1.2.2.1; have := r1.2.2.2; have := r2.2.2.1; have := r2.2.2.2; omega)
    have t1 : f * xi + cy + g * yi ≤ 9223372034707292161 := by rcases Hfg.out with ⟨k1, k2⟩ | ⟨k1, k2⟩ <;> (have := r1.2.2.1; have := r1.2.2.2; have := r2.2.2.1; have := r2.2.2.2; omega)
    have s0 := r1.1
    have s1 := r1.2.1
    have s2 := r2.1
    have s3 := r2.2.1
    clear hyi r1 r2 hv
    go_wp2
    go_roundw
    case rel => exact ⟨i + 1, _, _, by omega, by omega, by omega, rfl, by go_num, hk.set i _, by have := hS.out; show _ = _; simpa using this, dS.out.set i xq, Hst.out, hbr.setCell (p := ⟨gr, i, none⟩) hgw _⟩
    case measure => simp [intOf]; omega
   ·have hiY' : ¬ (i : Int) < m := by omega
    have e0 : y[i]?.getD 0 = 0 := by rw [List.getElem?_eq_none (by have := hly.out; omega)]; rfl
    have Hst := Lib.hid (Nt.comb_step (t := f * xi + cy) (by have := hS.out; omega) hv.out (by rw [Hxi.out, e0]; simp))
    have s0 := r1.1
    have s1 := r1.2.1
    clear r1 hv e0
    go_wp2
    go_roundw
    case rel => exact ⟨i + 1, _, _, by omega, by omega, by omega, rfl, by go_num, hk.set i _, by have := hS.out; show _ = _; simpa using this, dS.out.set i xq, Hst.out, hbr.setCell (p := ⟨gr, i, none⟩) hgw _⟩
    case measure => simp [intOf]; omega
  ·obtain rfl : i = n := by omega
   have hval : Nt.val S = f * Nt.val x + g * Nt.val y := by
    have h1 := hv.out
    rw [Nt.zyg S (by have := hS.out; omega), Nt.zyg x (by have := hlx.out; omega), Nt.zyg y (by have := hly.out; omega)] at h1
    have h5 := Nt.val_lt dS.out
    have h6 := Nt.zxa dS.out
    have h7 := Nt.val_lt Hda.out
    have h8 := H0.out
    have h9 := H1.out
    rw [hS.out] at h5
    rw [hlx.out] at h7
    have hp := Nt.pw_pos i
    have : cy = 0 := by
     rcases Int.lt_trichotomy cy 0 with h | h | h
     ·have : cy * Nt.pw i ≤ (-1) * Nt.pw i := Int.mul_le_mul_of_nonneg_right xq xq
      omega
     ·exact h
     ·have : 1 * Nt.pw i ≤ cy * Nt.pw i := Int.mul_le_mul_of_nonneg_right xq xq
      omega
    rw [this] at h1
    omega
   have hsl := hk.slr_all (n := i) (c := i) hS.out xq yq
   have hfr := zxy (w0 := w) hk hS.out yq dS.out hgw
   rw [hval] at hfr
   have HF := Lib.hid hfr
   clear hval hfr
   go_wp2_with fail
   refine (zwg _ _ _ _ _ hsl).mono ?_
   rintro e w1 ⟨rfl, rfl⟩
   go_wp2
   go_ret
   exact ⟨_, _, _, rfl, HF.out, hbr⟩
def mx4 (x y z u : Int) : Int := let m1 := if y > x then y else x; let m2 := if z > m1 then z else m1; if u > m2 then u else m2
theorem mx4_lt (x y z u l : Int) : l < mx4 x y z u ↔ (l < x ∨ l < y ∨ l < z ∨ l < u) := by
 unfold mx4
 simp only []
 split <;> split <;> split <;> omega
theorem run_max4 {P : Program} (w : World) (ts : Array TypeId) (t : TypeId) (x y z u : Int) : (Builtin.max_ ts t #[.int .i64 x, .int .i64 y, .int .i64 z, .int .i64 u]).run P w = .ok (.int .i64 (mx4 x y z u)) w := by
 simp [Builtin.max_, Builtin.max2, mx4, List.foldlM]
def CofF (x y p0 q0 : Int) (e : Ending) : Prop := ∃ a b c d, e = .returned (.tuple #[.int .i64 a, .int .i64 b, .int .i64 c, .int .i64 d]) ∧ ∃ p q, Nt.Leh x y p0 q0 p q a b c d
set_option maxHeartbeats 2000000 in
theorem cofactors_any (x y p0 q0 K Z ex ey : Int) (w : World) (hK : 0 < K) (hZ : 0 < Z) (hx : x * Z = p0 * K + ex) (hx0 : 0 ≤ ex) (hx1 : ex < K) (hy : y * Z = q0 * K + ey) (hy0 : 0 ≤ ey) (hy1 : ey < K) (y0 : 0 ≤ y) (hxy : y ≤ x) (hp : 0 ≤ p0) (hq : 0 ≤ q0) (hp' : p0 ≤ 4611686018427387904) (hq' : q0 ≤ 4611686018427387904) :
  Calls Tryz.prog 257 #[.int .i64 p0, .int .i64 q0] w fun e w' => CofF x y p0 q0 e ∧ w = w' := by
 have Hx := Lib.hid hx
 have Hy := Lib.hid hy
 have H0 := Lib.hid (Nt.Leh.start y0 hxy hp hq hp' hq')
 have hmax := fun (w : World) (ts : Array TypeId) (t : TypeId) (x y z u : Int) => run_max4 (P := Tryz.prog) w ts t x y z u
 clear hx hy
 go_enter Tryz.func257, Tryz.ntmps257
 go_upto_block 0 with (fail)
 go_cut [4, 5, 6, 7] (fun s4 s5 s6 s7 wx => ∃ a b c d : Int, s4 = .int .i64 a ∧ s5 = .int .i64 b ∧ s6 = .int .i64 c ∧ s7 = .int .i64 d ∧ Hid (∃ p q, Nt.Leh x y p0 q0 p q a b c d) ∧ wx = w)
 case first =>
  go_wp2
  go_loop [0, 1, 4, 5, 6, 7] (fun s0 s1 s4 s5 s6 s7 => ∃ p q a b c d : Int, s0 = .int .i64 p ∧ s1 = .int .i64 q ∧ s4 = .int .i64 a ∧ s5 = .int .i64 b ∧ s6 = .int .i64 c ∧ s7 = .int .i64 d ∧ Hid (Nt.Leh x y p0 q0 p q a b c d)) (fun _ s1 _ _ s6 _ => (intOf s1 + intOf s6).toNat)
  case atStart => exact ⟨p0, q0, 1, 0, 0, 1, rfl, rfl, rfl, rfl, rfl, rfl, H0⟩
  case round =>
   obtain ⟨p, q, a, b, c, d, rfl, rfl, rfl, rfl, rfl, rfl, hL⟩ := hrel
   clear H0
   have k1 := hL.out.p0
   have k2 := hL.out.q0
   have k3 := hL.out.pm
   have k4 := hL.out.qm
   have k5 := hL.out.ba
   have k6 := hL.out.bb
   have k7 := hL.out.bc
   have k8 := hL.out.bd
   have m1 := hL.out.pa
   have m2 := hL.out.pb
   have m3 := hL.out.qc
   have m4 := hL.out.qd
   by_cases z1 : q + c = 0
   ·have z1' : (q + c != 0) = false := by rw [z1]; rfl
    clear z1
    go_wp2
    go_meet
    exact ⟨a, b, c, d, rfl, rfl, rfl, rfl, ⟨p, q, hL.out⟩, rfl⟩
   have z1' : (q + c != 0) = true := by rw [bne_iff_ne]; exact z1
   have z1'' : (q + c == 0) = false := by rw [beq_eq_false_iff_ne]; exact z1
   by_cases z2 : q + d = 0
   ·have z2' : (q + d != 0) = false := by rw [z2]; rfl
    clear z1 z2
    go_wp2
    go_meet
    exact ⟨a, b, c, d, rfl, rfl, rfl, rfl, ⟨p, q, hL.out⟩, rfl⟩
   have z2' : (q + d != 0) = true := by rw [bne_iff_ne]; exact z2
   have z2'' : (q + d == 0) = false := by rw [beq_eq_false_iff_ne]; exact z2
   have z3 : 1 ≤ q + c := by omega
   have z4 : 1 ≤ q + d := by omega
   have Hz1 := Lib.hid z1
   have Hz2 := Lib.hid z2
   obtain ⟨f, hf⟩ : ∃ f, (p + a) / (q + c) = f := ⟨_, rfl⟩
   have f0 : 0 ≤ f := by rw [← hf]; exact Int.ediv_nonneg m1 m3
   have Hf := Lib.hid hf
   by_cases e2 : (p + b) / (q + d) = f
   ·by_cases e3 : 2147483647 < f
    ·clear z1 z2
     go_wp2
     go_meet
     exact ⟨a, b, c, d, rfl, rfl, rfl, rfl, ⟨p, q, hL.out⟩, rfl⟩
    ·have He2 := Lib.hid e2
     have b1 := Nt.mul_range2 f0 xq k7.1 k7.2
     have b2 := Nt.mul_range2 f0 xq k8.1 k8.2
     have b3 := Nt.fl (n := p + a) (m := q + c) (f := f) xq hf.symm
     have b4 : f * (q + c) = f * q + f * c := Int.mul_add _ _ _
     have b5 : 0 ≤ f * q := Int.mul_nonneg f0 k2
     have b6 : f * q ≤ p + a - f * c := by omega
     have b1a := b1.1
     have b1b := b1.2
     have b2a := b2.1
     have b2b := b2.2
     by_cases hm : 2147483647 < mx4 (a - f * c) (-(a - f * c)) (b - f * d) (-(b - f * d))
     ·clear z1 z2 b4 b3
      go_wp2
      go_meet
      exact ⟨a, b, c, d, rfl, rfl, rfl, rfl, ⟨p, q, hL.out⟩, rfl⟩
     ·have hm' := hm
      rw [mx4_lt] at hm'
      have be : -2147483647 ≤ a - f * c ∧ a - f * c ≤ 2147483647 := by omega
      have bg : -2147483647 ≤ b - f * d ∧ b - f * d ≤ 2147483647 := by omega
      have hN := hL.out.step hK hZ Hx.out hx0 hx1 Hy.out hy0 hy1 Hz1.out Hz2.out Hf.out.symm He2.out.symm be bg
      have HN := Lib.hid hN.1
      have HM := Lib.hid hN.2
      clear z1 z2 b4 b3 hm' hN
      go_wp2
      go_round
      case rel => exact ⟨q, p - f * q, c, d, _, _, rfl, rfl, rfl, rfl, rfl, rfl, HN⟩
      case measure => simp [intOf]; have := HM.out; omega
   ·have e2' : (f != (p + b) / (q + d)) = true := by rw [bne_iff_ne]; exact fun h => e2 h.symm
    clear z1 z2
    go_wp2
    go_meet
    exact ⟨a, b, c, d, rfl, rfl, rfl, rfl, ⟨p, q, hL.out⟩, rfl⟩
 case rest =>
  obtain ⟨a, b, c, d, rfl, rfl, rfl, rfl, h, rfl⟩ := hcut
  go_wp2
  exact bodyPost_ret (v := .tuple #[.int .i64 a, .int .i64 b, .int .i64 c, .int .i64 d]) (by simp [results, Tryz.results257, go_sem]) rfl ⟨⟨a, b, c, d, rfl, h.out⟩, rfl⟩
namespace Nt
theorem or_add {x y : Int} {s : Nat} (h : s < 64) (h0 : 0 ≤ x) (hm : x % 2 ^ s = 0) (h1 : x < 18446744073709551616) (k0 : 0 ≤ y) (k1 : y < 2 ^ s) : bits .or .u64 x y = x + y := by
 have hp : (2 : Int) ^ s ≤ 9223372036854775808 := by
  have h1 : (2 : Nat) ^ s ≤ 2 ^ 63 := Nat.pow_le_pow_right xq xq
  have h2 : ((2 ^ s : Nat) : Int) ≤ ((2 ^ 63 : Nat) : Int) := Int.ofNat_le.2 h1
  simpa using h2
 exact bits_join .u64 64 xz (fun n h0 h1 => by rw [IntKind.wrap_u64]; omega) s _ _ h0 hm xq k0 k1 xq
def LeadF (a : List Int) (k s : Nat) (p : Int) : Prop := 0 ≤ p ∧ p < 4611686018427387904 ∧ ∃ ex, val a * 2 ^ s = p * (4 * pw (k + 1)) + ex ∧ 0 ≤ ex ∧ ex < 4 * pw (k + 1)
theorem lead_top {d1 d2 d3 : Int} {s : Nat} (hs : s < 32) (p1 : 0 ≤ d1) (p2 : 0 ≤ d2 ∧ d2 < 4294967296) (p3 : 0 ≤ d3 ∧ d3 < 4294967296) (ht : (d1 + 1) * 2 ^ s ≤ 4294967296) :
  0 ≤ (d1 * 4294967296 + d2) * 2 ^ s ∧ (d1 * 4294967296 + d2) * 2 ^ s + 2 ^ s ≤ 18446744073709551616 ∧ 0 ≤ d3 * 2 ^ s ∧ d3 * 2 ^ s < 9223372036854775808 ∧ 0 ≤ d3 * 2 ^ s / 4294967296 ∧ d3 * 2 ^ s / 4294967296 < 2 ^ s ∧ bits .or .u64 ((d1 * 4294967296 + d2) * 2 ^ s) (d3 * 2 ^ s / 4294967296) = (d1 * 4294967296 + d2) * 2 ^ s + d3 * 2 ^ s / 4294967296 := by
 have hp := p2_pos s
 have h3 := hi_lift hs p3.1 p3.2
 have a0 : 0 ≤ (d1 * 4294967296 + d2) * 2 ^ s := Int.mul_nonneg xq xq
 have a1 : (d1 * 4294967296 + d2 + 1) * 2 ^ s ≤ ((d1 + 1) * 4294967296) * 2 ^ s := Int.mul_le_mul_of_nonneg_right xq xq
 have a2 : ((d1 + 1) * 4294967296) * 2 ^ s = ((d1 + 1) * 2 ^ s) * 4294967296 := by rw [Int.mul_assoc, Int.mul_comm 4294967296, ← Int.mul_assoc]
 have a3 : (d1 * 4294967296 + d2 + 1) * 2 ^ s = (d1 * 4294967296 + d2) * 2 ^ s + 2 ^ s := by rw [Int.add_mul _ 1, Int.one_mul]
 exact ⟨a0, by omega, h3.1, h3.2.1, h3.2.2.1, h3.2.2.2, or_add xq a0 (Int.mul_emod_left _ _) xq h3.2.2.1 h3.2.2.2⟩
theorem lead_val {a : List Int} {k s : Nat} {d1 d2 d3 t : Int} (hs : s < 32) (da : Dig a) (hl : a.length ≤ k + 3) (e1 : d1 = a[k + 2]?.getD 0) (e2 : d2 = a[k + 1]?.getD 0) (e3 : d3 = a[k]?.getD 0) (ht : (d1 + 1) * 2 ^ s ≤ 4294967296) (hT : t = (d1 * 4294967296 + d2) * 2 ^ s + d3 * 2 ^ s / 4294967296) : LeadF a k s (t / 4) := by
 have p1 := da.at (k + 2)
 have p2 := da.at (k + 1)
 have p3 := da.at k
 rw [← e1] at p1
 rw [← e2] at p2
 rw [← e3] at p3
 obtain ⟨q0, q1, q2, q3, q4, q5, _⟩ := lead_top (d3 := d3) hs p1.1 p2 p3 ht
 have hp := p2_pos s
 have hk := pw_pos k
 have hv : val a = valTo a k + pw k * (d3 + 4294967296 * d2 + 4294967296 * 4294967296 * d1) := by
  rw [← zyg a hl, zyf, zyf, zyf, ← e1, ← e2, ← e3]
  simp only [pw]
  grind
 have hm := mod_p2 (x := d3) hs
 have hd := dig_lift (x := d3) (lo := 2 ^ s - 1) hs xq xq
 have v0 := zyw da k
 have v1 := zxo da k
 refine ⟨by omega, by omega, val a * 2 ^ s - t / 4 * (4 * pw (k + 1)), by omega, ?_⟩
 have e4 : val a * 2 ^ s = t * pw (k + 1) + (valTo a k * 2 ^ s + pw k * (d3 * 2 ^ s % 4294967296)) := by
  have e := Int.mul_ediv_add_emod (d3 * 2 ^ s) 4294967296
  rw [hT, hv]
  simp only [pw]
  generalize d3 * 2 ^ s / 4294967296 = q at *
  generalize d3 * 2 ^ s % 4294967296 = r at *
  grind
 have e5 : t * pw (k + 1) = t / 4 * (4 * pw (k + 1)) + (t % 4) * pw (k + 1) := by
  have e := Int.mul_ediv_add_emod t 4
  generalize t / 4 = q at *
  generalize t % 4 = r at *
  rw [← e]; grind
 have r0 : 0 ≤ valTo a k * 2 ^ s := Int.mul_nonneg v0 xq
 have r1 : valTo a k * 2 ^ s ≤ (pw k - 1) * 2 ^ s := Int.mul_le_mul_of_nonneg_right xq xq
 rw [Int.sub_mul, Int.one_mul] at r1
 have r2 : 0 ≤ pw k * (d3 * 2 ^ s % 4294967296) := Int.mul_nonneg xq xq
 have r3 : pw k * (d3 * 2 ^ s % 4294967296) ≤ pw k * (4294967296 - 2 ^ s) := Int.mul_le_mul_of_nonneg_left xq xq
 rw [Int.mul_sub] at r3
 have r4 : pw (k + 1) = pw k * 4294967296 := by rw [pw, Int.mul_comm]
 have r5 : 0 ≤ (t % 4) * pw (k + 1) := Int.mul_nonneg xq (by have := pw_pos (k + 1); omega)
 have r6 : (t % 4) * pw (k + 1) ≤ 3 * pw (k + 1) := Int.mul_le_mul_of_nonneg_right xq (by have := pw_pos (k + 1); omega)
 constructor <;> omega
end Nt
theorem at_any (i : Nat) (p : Addr) (A : Option Addr) (n c : Nat) (a : List Int) (w : World) (hp : w.cell? p = some (.slice A n c)) (ha : SlR .u32 w A n c a) (da : Nt.Dig a) (hi : i ≤ 2000000000) :
  Calls Tryz.prog 260 #[.int .i64 i, .pointer (some p)] w fun e w' => e = .returned (.int .u64 (a[i]?.getD 0)) ∧ w = w' := by
 have hl := ha.1
 have hm := ha.2.2.1
 have hc := ha.2.1
 unfold maxLen at hm
 have hx := da.at i
 by_cases h : i < n
 ·obtain ⟨b, o, rfl, hb, hcell⟩ := ha.pos h
  clear hl
  go_enter Tryz.func260, Tryz.ntmps260
  go_wp2
  go_ret
  exact ⟨rfl, rfl⟩
 ·have e : a[i]?.getD 0 = 0 := by rw [List.getElem?_eq_none xq]; rfl
  have E := Lib.hid e
  clear e hl
  go_enter Tryz.func260, Tryz.ntmps260
  go_wp2
  go_ret
  exact ⟨by rw [E.out]; rfl, rfl⟩
set_option maxHeartbeats 1000000 in
theorem leading_any (A : Option Addr) (n c k s : Nat) (a : List Int) (w : World) (ha : SlR .u32 w A n c a) (da : Nt.Dig a) (hn : n ≤ k + 3) (hk : k ≤ 1000000000) (hs : s < 32) (ht : (a[k + 2]?.getD 0 + 1) * 2 ^ s ≤ 4294967296) :
  Calls Tryz.prog 258 #[.slice A n c, .int .i64 (k + 3), .int .u64 s] w fun e w' => (∃ p, e = .returned (.int .i64 p) ∧ Nt.LeadF a k s p) ∧ Below w.heap.size w w' := by
 have p1 := da.at (k + 2)
 have p2 := da.at (k + 1)
 have p3 := da.at k
 obtain ⟨d1, e1⟩ : ∃ d, d = a[k + 2]?.getD 0 := ⟨_, rfl⟩
 obtain ⟨d2, e2⟩ : ∃ d, d = a[k + 1]?.getD 0 := ⟨_, rfl⟩
 obtain ⟨d3, e3⟩ : ∃ d, d = a[k]?.getD 0 := ⟨_, rfl⟩
 have E1 := Lib.hid e1
 have E2 := Lib.hid e2
 have E3 := Lib.hid e3
 rw [← e1] at p1 ht
 rw [← e2] at p2
 rw [← e3] at p3
 have hv := Nt.lead_val (t := (d1 * 4294967296 + d2) * 2 ^ s + d3 * 2 ^ s / 4294967296) hs da (by rw [ha.1]; exact hn) e1 e2 e3 ht rfl
 have HV := Lib.hid hv
 obtain ⟨q0, q1, q2, q3, q4, q5, q6⟩ := Nt.lead_top (d3 := d3) hs p1.1 p2 p3 ht
 have hp := Nt.p2_pos s
 have or1 := Nt.or_top p1.1 p1.2 p2.1 p2.2
 have hp2 := Nt.p2_le hs
 have hbox : (w.alloc (.cells #[.slice A n c] 22)).cell? ⟨w.heap.size, 0, none⟩ = some (.slice A n c) := by simp [World.cell?_alloc_new]
 have Hbox := Lib.hid hbox
 clear e1 e2 e3 hv ht hbox
 go_enter Tryz.func258, Tryz.ntmps258
 go_wp2_with fail
 rw [show ((k : Int) + 3 - 1) = ((k + 2 : Nat) : Int) by omega]
 refine (at_any (k + 2) _ A n c a _ Hbox.out (ha.alloc _) da xq).mono ?_
 rintro e w1 ⟨rfl, rfl⟩
 rw [← E1.out]
 go_wp2_with fail
 rw [show ((k : Int) + 3 - 2) = ((k + 1 : Nat) : Int) by omega]
 refine (at_any (k + 1) _ A n c a _ Hbox.out (ha.alloc _) da xq).mono ?_
 rintro e w1 ⟨rfl, rfl⟩
 rw [← E2.out]
 go_wp2_with fail
 refine (at_any k _ A n c a _ Hbox.out (ha.alloc _) da xq).mono ?_
 rintro e w1 ⟨rfl, rfl⟩
 rw [← E3.out]
 go_wp2
 go_ret
 exact ⟨⟨_, rfl, HV.out⟩, (Below.refl _ _).alloc (Nat.le_refl _) _⟩
theorem NatF.mono {w0 w1 w : World} {A : Option Addr} {n c v : Nat} (h : NatF w1 w A n c v) (hw : w0.heap.size ≤ w1.heap.size) : NatF w0 w A n c v :=
 ⟨h.1, h.2.1, fun hp => by obtain ⟨a, e, k, t⟩ := h.2.2 hp; exact ⟨a, e, by omega, t⟩⟩
namespace Nt
theorem top_le {x y : List Int} {k : Nat} (dx : Dig x) (dy : Dig y) (hx : x.length ≤ k + 1) (hy : y.length ≤ k + 1) (h : val y ≤ val x) : y[k]?.getD 0 ≤ x[k]?.getD 0 := by
 have ex : val x = valTo x k + pw k * x[k]?.getD 0 := by rw [← zyg x hx, zyf]
 have ey : val y = valTo y k + pw k * y[k]?.getD 0 := by rw [← zyg y hy, zyf]
 have a1 := zxo dx k
 have a2 := zyw dy k
 have hp := pw_pos k
 have : pw k * y[k]?.getD 0 < pw k * (x[k]?.getD 0 + 1) := by rw [Int.mul_add]; omega
 have := Int.lt_of_mul_lt_mul_left this xq
 omega
theorem zxh {x y : Nat} (h : y ≤ x) : (digits y).length ≤ (digits x).length := by
 rcases Nat.lt_or_ge (digits x).length (digits y).length with h' | h'
 ·have := len_lt (zyj x) (zyj y) (zxj y) h'
  rw [zyi, zyi] at this
  omega
 ·exact h'
theorem gcd_nat {a b x y : Int} (h : Int.gcd a b = Int.gcd x y) (a0 : 0 ≤ a) (b0 : 0 ≤ b) (x0 : 0 ≤ x) (y0 : 0 ≤ y) : Nat.gcd a.toNat b.toNat = Nat.gcd x.toNat y.toNat := by
 unfold Int.gcd at h
 rw [show a.natAbs = a.toNat by omega, show b.natAbs = b.toNat by omega, show x.natAbs = x.toNat by omega, show y.natAbs = y.toNat by omega] at h
 exact h
theorem lz_int {y : Int} (h0 : 0 < y) (h1 : y < 4294967296) : ∃ z : Nat, 32 - (Lib.bitLen y.toNat : Int) = z ∧ z < 32 ∧ (y + 1) * 2 ^ z ≤ 4294967296 := by
 obtain ⟨z, hz1, hz2, hz3, hz4⟩ := lz_spec (x := y.toNat) xq xq
 refine ⟨z, hz1, hz2, ?_⟩
 have e : ((y.toNat * 2 ^ z : Nat) : Int) = y * 2 ^ z := by rw [Int.natCast_mul, Int.natCast_pow]; congr 1; omega
 have hs := Nt.p2_split hz2
 have p0 := Nt.p2_pos z
 have h4 : y * 2 ^ z < 2 ^ (32 - z) * 2 ^ z := by rw [Int.mul_comm (2 ^ (32 - z)), hs]; omega
 have h5 := Int.lt_of_mul_lt_mul_right h4 xq
 have h6 : (y + 1) * 2 ^ z ≤ 2 ^ (32 - z) * 2 ^ z := Int.mul_le_mul_of_nonneg_right xq xq
 rw [Int.mul_comm (2 ^ (32 - z)), hs] at h6
 exact h6
end Nt
def ShF (w0 w w' : World) (e : Ending) (X Y : Nat) : Prop := ∃ A1 n1 c1 A2 n2 c2 X' Y', e = .returned (.tuple #[.slice A1 n1 c1, .slice A2 n2 c2]) ∧ NatF w0 w' A1 n1 c1 X' ∧ NatF w0 w' A2 n2 c2 Y' ∧ Y' ≤ X' ∧ Y' < Y ∧ X' ≤ X ∧ Nat.gcd X' Y' = Nat.gcd X Y ∧ Below w.heap.size w w'
set_option maxHeartbeats 1000000 in
theorem shorten_any (w0 w : World) (A B : Option Addr) (n c m d X Y : Nat) (ha : NatF w0 w A n c X) (hb : NatF w0 w B m d Y) (hw : w0.heap.size ≤ w.heap.size) (hn : n ≤ 1000000000) (hm : 2 < m) (hle : Y ≤ X) :
  Calls Tryz.prog 249 #[.slice A n c, .slice B m d] w fun e w' => ShF w0 w w' e X Y := by
 have hmn : m ≤ n := by rw [ha.1, hb.1]; exact Nt.zxh hle
 obtain ⟨k, hk⟩ : ∃ k, n = k + 3 := ⟨n - 3, by omega⟩
 subst hk
 have dx := Nt.zyj X
 have dy := Nt.zyj Y
 have ex := Nt.zyi X
 have ey := Nt.zyi Y
 have hy0 : 0 < Y := by
  rcases Nat.eq_zero_or_pos Y with h | h
  ·have := hb.1; rw [h, Nt.zyy] at this; simp at this; omega
  ·exact h
 have tx := Nt.norm_last (k := k + 2) (Nt.zxj X) ha.1.symm
 have bx := dx.at (k + 2)
 obtain ⟨z, hz1, hz2, hz3⟩ := Nt.lz_int (y := (Nt.digits X)[k + 2]?.getD 0) xq xq
 have hty := Nt.top_le (k := k + 2) dx dy (by rw [← ha.1]; exact Nat.le_refl _) (by rw [← hb.1]; exact hmn) (by rw [ex, ey]; omega)
 have hz4 : ((Nt.digits Y)[k + 2]?.getD 0 + 1) * 2 ^ z ≤ 4294967296 := by
  have : ((Nt.digits Y)[k + 2]?.getD 0 + 1) * 2 ^ z ≤ ((Nt.digits X)[k + 2]?.getD 0 + 1) * 2 ^ z := Int.mul_le_mul_of_nonneg_right xq (by have := Nt.p2_pos z; omega)
  omega
 obtain ⟨b1, o1, he1, _, hc1⟩ := ha.2.1.pos (i := k + 2) xq
 subst he1
 obtain ⟨t, ht⟩ : ∃ t, t = (Nt.digits X)[k + 2]?.getD 0 := ⟨_, rfl⟩
 have Ha := Lib.hid ha
 have Hb := Lib.hid hb
 have Hz1 : Hid (32 - (Lib.bitLen t.toNat : Int) = z) := by rw [ht]; exact hz1
 have Hz3 := Lib.hid hz3
 have Hz4 := Lib.hid hz4
 have Ex := Lib.hid ex
 have Ey := Lib.hid ey
 rw [← ht] at hc1 bx tx
 clear ha hb ex ey hz1 hz3 hz4 ht hty
 go_enter Tryz.func249, Tryz.ntmps249
 go_wp2_with fail
 refine (LeadingZeros32_any t _ bx.1 bx.2).mono ?_
 rintro e w1 ⟨rfl, rfl⟩
 rw [Hz1.out]
 have hlz : (0 : Int) ≤ (z : Int) ∧ (z : Int) < 32 := by omega
 go_wp2_with fail
 refine (leading_any _ _ _ k z _ _ Ha.out.2.1 dx (Nat.le_refl _) xq hz2 Hz3.out).mono ?_
 rintro e w2 ⟨⟨p, rfl, hp⟩, hb2⟩
 have Hp := Lib.hid hp
 clear hp
 go_wp2_with fail
 refine (leading_any _ _ _ k z _ _ (Hb.out.2.1.below hb2) dy hmn xq hz2 Hz4.out).mono ?_
 rintro e w3 ⟨⟨q, rfl, hq⟩, hb3⟩
 have Hq := Lib.hid hq
 have HB3 : Hid (Below w1.heap.size w1 w3) := hb2.trans (hb3.mono hb2.size)
 clear hq hb2 hb3
 obtain ⟨p0, p1, ex, hex, ex0, ex1⟩ := Hp.out
 obtain ⟨q0, q1, ey, hey, ey0, ey1⟩ := Hq.out
 rw [Ex.out] at hex
 rw [Ey.out] at hey
 have HC := cofactors_any X Y p q (4 * Nt.pw (k + 1)) (2 ^ z) ex ey w3 (by have := Nt.pw_pos (k + 1); omega) (Nt.p2_pos z) hex ex0 ex1 hey ey0 ey1 xq xq p0 q0 xq xq
 clear hex hey ex0 ex1 ey0 ey1
 go_wp2_with fail
 refine HC.mono ?_
 rintro e w4 ⟨⟨a, b, c', d', rfl, hL⟩, rfl⟩
 have HL := Lib.hid hL
 clear hL HC
 by_cases hb0 : b = 0
 ·subst hb0
  go_wp2_with fail
  refine (divide_any _ _ _ _ _ _ _ _ _ (Ha.out.2.1.below HB3.out) (Hb.out.2.1.below HB3.out) dx dy (Nt.zxj X) (Nt.zxj Y) xq xq).mono ?_
  rintro e w5 ⟨A1, n1, c1, A2, n2, c2, rfl, f1, f2, hbl⟩
  have F2 := Lib.hid f2
  have Hbl := Lib.hid hbl
  clear f1 f2 hbl
  go_wp2
  go_ret2
  have f2 := F2.out
  rw [Ex.out, Ey.out, ← Int.natCast_emod, Int.toNat_natCast] at f2
  have hs := HB3.out.size
  have hr := Nat.mod_lt X hy0
  refine ⟨B, m, d, A2, n2, c2, Y, X % Y, rfl, (Hb.out.below HB3.out).below Hbl.out, f2.mono xq, by omega, hr, hle, ?_, HB3.out.trans (Hbl.out.mono hs)⟩
  rw [Nat.gcd_comm X Y, Nat.gcd_rec Y X, Nat.gcd_comm]
 ·have hbb : (b == 0) = false := by rw [beq_eq_false_iff_ne]; exact hb0
  obtain ⟨P, Q, l⟩ := HL.out
  have s1 : (0 ≤ a ∧ b ≤ 0) ∨ (a ≤ 0 ∧ 0 ≤ b) := by rcases l.sign with s | s <;> omega
  have s2 : (0 ≤ c' ∧ d' ≤ 0) ∨ (c' ≤ 0 ∧ 0 ≤ d') := by rcases l.sign with s | s <;> omega
  have hy1 := l.y0
  have hyx := l.yx
  have hxx := l.xx
  have hlt : c' * X + d' * Y < Y := by rcases l.less with h | h; exact absurd h.2.1 hb0; exact h
  have hg := l.gcd
  have H := Lib.hid hy1
  have H2 := Lib.hid hyx
  have H3 := Lib.hid hxx
  have H4 := Lib.hid hlt
  have H5 := Lib.hid hg
  have la := l.ba
  have lb := l.bb
  have lc := l.bc
  have ld := l.bd
  clear l hy1 hyx hxx hlt hg hb0 HL Hp Hq
  go_wp2_with fail
  refine (combine_any _ _ _ _ _ _ _ _ a b _ (Ha.out.2.1.below HB3.out) (Hb.out.2.1.below HB3.out) dx dy xq hmn la.1 la.2 lb.1 lb.2 s1 (by rw [Ex.out, Ey.out]; have := H.out; have := H2.out; omega) (by rw [Ex.out, Ey.out]; exact H3.out)).mono ?_
  rintro e w5 ⟨A1, n1, c1, rfl, f1, hbl1⟩
  rw [Ex.out, Ey.out] at f1
  have F1 := Lib.hid f1
  have HB5 : Hid (Below w1.heap.size w1 w5) := HB3.out.trans (hbl1.mono HB3.out.size)
  clear f1
  go_wp2_with fail
  refine (combine_any _ _ _ _ _ _ _ _ c' d' _ (Ha.out.2.1.below HB5.out) (Hb.out.2.1.below HB5.out) dx dy xq hmn lc.1 lc.2 ld.1 ld.2 s2 (by rw [Ex.out, Ey.out]; exact H.out) (by rw [Ex.out, Ey.out]; have := H2.out; have := H3.out; omega)).mono ?_
  rintro e w6 ⟨A2, n2, c2, rfl, f2, hbl2⟩
  rw [Ex.out, Ey.out] at f2
  have F2 := Lib.hid f2
  have HB6 := Lib.hid hbl2
  clear f2 hbl1 hbl2
  go_wp2
  go_ret2
  have h1 := H.out
  have h2 := H2.out
  have h3 := H3.out
  have h4 := H4.out
  have hs := HB3.out.size
  have hs5 := HB5.out.size
  refine ⟨A1, n1, c1, A2, n2, c2, (a * X + b * Y).toNat, (c' * X + d' * Y).toNat, rfl, (F1.out.mono xq).below HB6.out, F2.out.mono xq, by omega, by omega, by omega, ?_, HB5.out.trans (HB6.out.mono hs5)⟩
  have := Nt.gcd_nat H5.out xq xq xq xq
  simpa using this
def sval (w : World) : Value → Nat
 | .slice (some a) n _ => (Nt.val ((List.range n).map fun i => match w.cell? ⟨a.block, a.off + i, none⟩ with | some (.int _ x) => x | _ => 0)).toNat
 | _ => 0
theorem sval_slr {w : World} {A : Option Addr} {n c : Nat} {l : List Int} (h : SlR .u32 w A n c l) : sval w (.slice A n c) = (Nt.val l).toNat := by
 rcases Nat.eq_zero_or_pos n with h0 | h0
 ·subst h0
  have : l = [] := List.eq_nil_of_length_eq_zero h.1
  subst this
  rcases A with _ | a <;> simp [sval, Nt.val]
 ·obtain ⟨b, o, rfl, hb, hc⟩ := h.2.2.2 h0
  show (Nt.val ((List.range n).map fun i => match w.cell? ⟨b, o + i, none⟩ with | some (.int _ x) => x | _ => 0)).toNat = _
  congr 2
  apply List.ext_getElem
  ·simp [h.1]
  ·intro i h1 h2
   simp at h1
   simp only [List.getElem_map, List.getElem_range]
   rw [hc i h1]
   simp [h2]
namespace Nt
theorem two_digits {p : Nat} (h : p < 18446744073709551616) : strip [((p % 4294967296 : Nat) : Int), ((p / 4294967296 : Nat) : Int)] = digits p := by
 have hd : Dig [((p % 4294967296 : Nat) : Int), ((p / 4294967296 : Nat) : Int)] := Dig.cons xq (Dig.cons xq Dig.nil)
 rw [zxp hd]
 congr 1
 simp [val]; omega
theorem digits_two {v : Nat} (h : (digits v).length ≤ 2) : v < 18446744073709551616 := by
 have h1 := val_lt (zyj v)
 have h2 := pw_mono h
 rw [zyi] at h1
 simp [pw] at h2
 omega
end Nt
set_option maxHeartbeats 2000000 in
theorem Gcd_any (A B : Option Addr) (n c m d : Nat) (a b : List Int) (w : World) (ha : SlR .u32 w A n c a) (hb : SlR .u32 w B m d b) (da : Nt.Dig a) (db : Nt.Dig b) (hn : n ≤ 1000000000) (hm : m ≤ 1000000000) :
  Calls Tryz.prog 212 #[.slice A n c, .slice B m d] w fun e w' => ∃ A' n' c', e = .returned (.slice A' n' c') ∧ NatF w w' A' n' c' (Nat.gcd (Nt.val a).toNat (Nt.val b).toNat) ∧ Below w.heap.size w w' := by
 have l1 : Hid ((Nt.digits (Nt.val a).toNat).length ≤ n) := by rw [← Nt.zxp da, ← ha.1]; exact Nt.zyh a
 have l2 : Hid ((Nt.digits (Nt.val b).toNat).length ≤ m) := by rw [← Nt.zxp db, ← hb.1]; exact Nt.zyh b
 go_enter Tryz.func212, Tryz.ntmps212
 go_wp2_with fail
 refine (Trim_any _ _ _ _ _ ha da hn).mono ?_
 rintro e w1 ⟨A1, n1, c1, rfl, f1, b1⟩
 go_wp2_with fail
 refine (Trim_any _ _ _ _ _ (hb.below b1) db hm).mono ?_
 rintro e w2 ⟨A2, n2, c2, rfl, f2, b2⟩
 have g1 : NatF w w2 A1 n1 c1 (Nt.val a).toNat := f1.below b2
 have g2 : NatF w w2 A2 n2 c2 (Nt.val b).toNat := f2.mono b1.size
 have hB : Below w.heap.size w w2 := b1.trans (b2.mono b1.size)
 have hL1 : n1 ≤ 1000000000 := by have := f1.1; have := l1.out; omega
 have hL2 : n2 ≤ 1000000000 := by have := f2.1; have := l2.out; omega
 clear f1 f2 b1 b2 ha hb l1 l2 da db
 obtain ⟨X, hX⟩ : ∃ X, X = (Nt.val a).toNat := ⟨_, rfl⟩
 obtain ⟨Y, hY⟩ : ∃ Y, Y = (Nt.val b).toNat := ⟨_, rfl⟩
 obtain ⟨G, hG⟩ : ∃ G, G = Nat.gcd (Nt.val a).toNat (Nt.val b).toNat := ⟨_, rfl⟩
 have HG := Lib.hid hG
 have HG2 : Hid (Nat.gcd X Y = G) := by show _ = _; rw [hX, hY, hG]
 rw [← hX] at g1
 rw [← hY] at g2
 have G1 := Lib.hid g1
 have G2 := Lib.hid g2
 have HB := Lib.hid hB
 clear hX hY hG g1 g2 hB
 go_wp2_with fail
 refine (Compare_any _ _ _ _ _ _ _ _ _ G1.out.2.1 G2.out.2.1 (Nt.zyj X) (Nt.zyj Y)).mono ?_
 rintro e w3 ⟨rfl, q, rfl⟩
 rw [Nt.zyi, Nt.zyi]
 have K1 : Hid (NatF w (w2.drewN q) A1 n1 c1 X) := G1.out
 have K2 : Hid (NatF w (w2.drewN q) A2 n2 c2 Y) := G2.out
 have KB : Hid (Below w.heap.size w (w2.drewN q)) := ⟨HB.out.os, HB.out.tape, HB.out.output, HB.out.size, HB.out.block⟩
 generalize w2.drewN q = w3 at *
 clear G1 G2 HB
 go_upto_if 18 with (fail)
 go_cut [5, 6] (fun s5 s6 wx => ∃ A1 n1 c1 A2 n2 c2 X Y, s5 = .slice A1 n1 c1 ∧ s6 = .slice A2 n2 c2 ∧ Hid (NatF w wx A1 n1 c1 X) ∧ Hid (NatF w wx A2 n2 c2 Y) ∧ Hid (Below w.heap.size w wx) ∧ n1 ≤ 1000000000 ∧ n2 ≤ 1000000000 ∧ Hid (Y ≤ X) ∧ Hid (Nat.gcd X Y = G))
 case first =>
  by_cases hlt : X < Y
  ·have hc : Nt.cmpS X Y = -1 := by unfold Nt.cmpS; rw [if_pos xq]
   have Hle : Hid (X ≤ Y) := by show _ ≤ _; omega
   clear hlt
   go_wp2_with fail
   go_meet
   exact ⟨A2, n2, c2, A1, n1, c1, Y, X, rfl, rfl, K2, K1, KB, hL2, hL1, Hle, by show _ = _; rw [Nat.gcd_comm]; exact HG2.out⟩
  ·have hc : 0 ≤ Nt.cmpS X Y := by unfold Nt.cmpS; rw [if_neg xq]; split <;> omega
   have Hle : Hid (Y ≤ X) := by show _ ≤ _; omega
   clear hlt
   go_wp2_with fail
   go_meet
   exact ⟨A1, n1, c1, A2, n2, c2, X, Y, rfl, rfl, K1, K2, KB, hL1, hL2, Hle, HG2⟩
 case rest =>
  clear K1 K2 KB HG2 hL1 hL2
  obtain ⟨A1, n1, c1, A2, n2, c2, X, Y, rfl, rfl, K1, K2, KB, hL1, hL2, Hle, HG2⟩ := hcut
  go_wp2
  go_loopw [5, 6] (fun s5 s6 wx => ∃ A1 n1 c1 A2 n2 c2 X Y, s5 = .slice A1 n1 c1 ∧ s6 = .slice A2 n2 c2 ∧ Hid (NatF w wx A1 n1 c1 X) ∧ Hid (NatF w wx A2 n2 c2 Y) ∧ Hid (Below w.heap.size w wx) ∧ n1 ≤ 1000000000 ∧ n2 ≤ 1000000000 ∧ Hid (Y ≤ X) ∧ Hid (Nat.gcd X Y = G)) (fun _ s6 wx => sval wx s6)
  case atStart => exact ⟨A1, n1, c1, A2, n2, c2, X, Y, rfl, rfl, K1, K2, KB, hL1, hL2, Hle, HG2⟩
  case round =>
   clear K1 K2 KB Hle HG2 hL1 hL2
   obtain ⟨A1, n1, c1, A2, n2, c2, X, Y, rfl, rfl, K1, K2, KB, hL1, hL2, Hle, HG2⟩ := hrel
   by_cases h2 : 2 < n2
   ·have h2' : (2 : Int) < n2 := by omega
    go_wp2_with fail
    refine (shorten_any w _ _ _ _ _ _ _ X Y K1.out K2.out KB.out.size hL1 h2 Hle.out).mono ?_
    rintro e w5 ⟨A3, n3, c3, A4, n4, c4, X', Y', rfl, k1, k2, k3, k4, k5, k6, k7⟩
    have E1 := Lib.hid k1
    have E2 := Lib.hid k2
    have E3 := Lib.hid k3
    have E4 := Lib.hid k4
    have E6 := Lib.hid k6
    have E7 := Lib.hid k7
    have j1 : n3 ≤ 1000000000 := by have e1 := k1.1; have e2 := K1.out.1; have := Nt.zxh k5; omega
    have j2 : n4 ≤ 1000000000 := by have e1 := k2.1; have e2 := K2.out.1; have := Nt.zxh (Nat.le_of_lt k4); omega
    have Hms : Hid (sval w5 (.slice A4 n4 c4) < sval wr (.slice A2 n2 c2)) := by
     show _ < _
     rw [sval_slr k2.2.1, sval_slr K2.out.2.1, Nt.zyi, Nt.zyi]
     omega
    clear k1 k2 k3 k4 k5 k6 k7
    go_wp2
    go_roundw
    case rel => exact ⟨A3, n3, c3, A4, n4, c4, X', Y', rfl, rfl, E1, E2, KB.out.trans (E7.out.mono KB.out.size), j1, j2, E3, by show _ = _; rw [E6.out]; exact HG2.out⟩
    case measure => exact Hms.out
   ·have h2' : ¬ (2 : Int) < n2 := by omega
    rcases Nat.eq_zero_or_pos n2 with h0 | h0
    ·subst h0
     have hY : Hid (X = G) := by
      have e1 := K2.out.1
      have : Y = 0 := by
       rcases Nat.eq_zero_or_pos Y with h | h
       ·exact h
       ·have := Nt.zwk h; omega
      have e2 := HG2.out
      rw [this, Nat.gcd_zero_right] at e2
      exact e2
     go_wp2
     go_ret
     refine ⟨A1, n1, c1, rfl, ?_, KB.out⟩
     rw [← HG.out, ← hY.out]
     exact K1.out
    ·have h0' : ((n2 : Int) == 0) = false := by rw [beq_eq_false_iff_ne]; omega
     go_wp2_with fail
     refine (divide_any _ _ _ _ _ _ _ _ _ K1.out.2.1 K2.out.2.1 (Nt.zyj X) (Nt.zyj Y) (Nt.zxj X) (Nt.zxj Y) hL1 h0).mono ?_
     rintro e w5 ⟨A3, n3, c3, A4, n4, c4, rfl, f1, f2, hbl⟩
     have hYp : 0 < Y := by
      rcases Nat.eq_zero_or_pos Y with h | h
      ·have e1 := K2.out.1; rw [h, Nt.zyy] at e1; simp at e1; omega
      ·exact h
     rw [Nt.zyi, Nt.zyi, ← Int.natCast_emod, Int.toNat_natCast] at f2
     have hr := Nat.mod_lt X hYp
     have hY2 : Y < 18446744073709551616 := Nt.digits_two (by rw [← K2.out.1]; omega)
     have F2 := Lib.hid f2
     have hn4 : n4 ≤ 2 := by rw [f2.1]; have := Nt.zxh (Nat.le_of_lt hr); rw [← K2.out.1] at this; omega
     have hG' : Hid (Nat.gcd Y (X % Y) = G) := by show _ = _; rw [← HG2.out, Nat.gcd_comm X Y, Nat.gcd_rec Y X, Nat.gcd_comm]
     have HB5 : Hid (Below w.heap.size w w5) := KB.out.trans (hbl.mono KB.out.size)
     have HK2 := Lib.hid (K2.out.2.1.below hbl)
     clear f1 f2 hbl
     go_wp2_with fail
     refine (small_any _ _ _ _ _ HK2.out (Nt.zyj Y) xq).mono ?_
     rintro e w6 ⟨rfl, rfl⟩
     go_wp2_with fail
     refine (small_any _ _ _ _ _ F2.out.2.1 (Nt.zyj _) hn4).mono ?_
     rintro e w6 ⟨rfl, rfl⟩
     rw [Nt.zyi, Nt.zyi]
     obtain ⟨R, hR⟩ : ∃ R, R = X % Y := ⟨_, rfl⟩
     rw [← hR] at hG' hr ⊢
     clear hR F2 HK2 K1 K2 Hle HG2 h2 h2' h0 h0'
     go_wp2
     obtain ⟨wo, rfl⟩ : ∃ wo : World, wo = wr := ⟨_, rfl⟩
     go_loopw [9, 10] (fun s9 s10 wr => ∃ P Q : Nat, P < 18446744073709551616 ∧ Q < 18446744073709551616 ∧ s9 = .int .u64 P ∧ s10 = .int .u64 Q ∧ Hid (Nat.gcd P Q = G) ∧ Hid (Below w.heap.size w wr)) (fun _ s10 _ => (intOf s10).toNat)
     case atStart => exact ⟨Y, R, hY2, by omega, rfl, rfl, hG', HB5⟩
     case round =>
      clear hG' HB5
      obtain ⟨P, Q, hP, hQ, rfl, rfl, hG', HB5⟩ := hrel
      rcases Nat.eq_zero_or_pos Q with hq | hq
      ·subst hq
       have hPG : Hid (P = G) := by have := hG'.out; rw [Nat.gcd_zero_right] at this; exact this
       have hs : SlR .u32 (wr.alloc (.cells #[.int .u32 ((P : Int) % 4294967296), .int .u32 ((P : Int) / 4294967296)] 104)) (some ⟨wr.heap.size, 0, none⟩) 2 2 [(P : Int) % 4294967296, (P : Int) / 4294967296] := (KBlk.new wr 104 [(P : Int) % 4294967296, (P : Int) / 4294967296]).slr_all rfl (Nat.le_refl _) xz
       have Hs := Lib.hid hs
       have e2 : Nt.strip [(P : Int) % 4294967296, (P : Int) / 4294967296] = Nt.digits P := by
        have := Nt.two_digits (p := P) hP
        simpa using this
       have hf := zxy (w0 := w) (m := 2) (KBlk.new wr 104 [(P : Int) % 4294967296, (P : Int) / 4294967296]) rfl xz (Nt.Dig.cons xq (Nt.Dig.cons xq Nt.Dig.nil)) (by have := HB5.out.size; omega)
       have e3 : (Nt.val [(P : Int) % 4294967296, (P : Int) / 4294967296]).toNat = P := by simp [Nt.val]; omega
       rw [e3] at hf
       have HF := Lib.hid hf
       clear hs e2 hf e3
       go_wp2_with fail
       refine (zwg _ _ _ _ _ Hs.out).mono ?_
       rintro e w7 ⟨rfl, rfl⟩
       go_wp2
       go_ret
       refine ⟨_, _, _, rfl, ?_, HB5.out.alloc HB5.out.size _⟩
       rw [← HG.out, ← hPG.out]
       exact HF.out
      ·have hqb : ((Q : Int) == 0) = false := by rw [beq_eq_false_iff_ne]; omega
       have hqn : ((Q : Int) != 0) = true := by rw [bne_iff_ne]; omega
       have hB2 : Hid (∀ k, Below w.heap.size w (wr.drewN k)) := fun k => ⟨HB5.out.os, HB5.out.tape, HB5.out.output, HB5.out.size, HB5.out.block⟩
       have hg2 : Hid (Nat.gcd Q (P % Q) = G) := by show _ = _; rw [← hG'.out, Nat.gcd_comm P Q, Nat.gcd_rec Q P, Nat.gcd_comm]
       have hr := Nat.mod_lt P hq
       clear hG' HB5
       go_wp2
       go_quiet (fail)
       have HB7 := Lib.hid (hB2.out nq)
       go_wp2
       go_roundw
       case rel => exact ⟨Q, P % Q, hQ, by omega, rfl, by go_num, hg2, HB7⟩
       case measure => simp [intOf]; omega
namespace Nt
end Nt
theorem OwnK.blk {k : IntKind} {w : World} {B : Nat} {t : TypeId} {A : Option Addr} {n c : Nat} {l : List Int} (h : OwnK k w B t A n c l) : ∀ a, A = some a → B ≤ a.block ∧ a.block < w.heap.size := by
 intro a ha
 rcases h.2.2 with ⟨he, _⟩ | ⟨g, cap, cur, he, hg, hh, _⟩
 ·injection he with e1; rw [e1] at ha; cases ha
 ·injection he with e1
  rw [e1] at ha
  injection ha with ha
  subst ha
  refine ⟨hg, ?_⟩
  rcases Nat.lt_or_ge g w.heap.size with hlt | hge
  ·exact hlt
  ·rw [Array.getElem?_eq_none hge] at hh; cases hh
namespace Nt
theorem Dig.snoc {l : List Int} (h : Dig l) {x : Int} (hx : 0 ≤ x ∧ x < 4294967296) : Dig (l ++ [x]) := h.append (Dig.cons hx Dig.nil)
end Nt
theorem Below.drewN' {B : Nat} {w w' : World} (h : Below B w w') (k : Nat) : Below B w (w'.drewN k) := ⟨h.os, h.tape, h.output, h.size, h.block⟩
namespace Nt
def bitl (v : Nat) : Nat := if v = 0 then 0 else v.log2 + 1
theorem bitl_lt (v : Nat) : v < 2 ^ bitl v := by
 unfold bitl
 split
 ·rename_i h; rw [h]; exact Nat.pow_pos xq
 ·exact Nat.lt_log2_self
theorem bitl_le {v : Nat} (h : 0 < v) : 2 ^ (bitl v - 1) ≤ v := by
 unfold bitl
 rw [if_neg xq]
 exact Nat.log2_self_le xq
theorem bitl_unique {v k : Nat} (hk : 0 < k) (h1 : 2 ^ (k - 1) ≤ v) (h2 : v < 2 ^ k) : bitl v = k := by
 have hv : 0 < v := by have := Nat.pow_pos (n := k - 1) (show 0 < 2 by omega); omega
 have a1 := bitl_lt v
 have a2 := bitl_le hv
 have a3 : bitl v ≠ 0 := by unfold bitl; rw [if_neg xq]; omega
 have b1 : 2 ^ (k - 1) < 2 ^ bitl v := by omega
 have b2 : 2 ^ (bitl v - 1) < 2 ^ k := by omega
 have c1 := (Nat.pow_lt_pow_iff_right (show 1 < 2 by omega)).1 b1
 have c2 := (Nat.pow_lt_pow_iff_right (show 1 < 2 by omega)).1 b2
 omega
theorem pw_two (k : Nat) : pw k = ((2 ^ (32 * k) : Nat) : Int) := by
 induction k with
 | zero => simp [pw]
 | succ k ih => rw [pw, ih, show 32 * (k + 1) = 32 + 32 * k by omega, Nat.pow_add, Int.natCast_mul]; rfl
theorem bitl_digits {v k t : Nat} (hl : (digits v).length = k + 1) (ht : (digits v)[k]?.getD 0 = (t : Int)) (h0 : 0 < t) : bitl v = 32 * k + bitl t := by
 have e : (v : Int) = valTo (digits v) k + pw k * t := by
  have h := zyi v
  rw [← zyg (digits v) (n := k + 1) xq, zyf, ht] at h
  exact h.symm
 have a0 := zyw (zyj v) k
 have a1 := zxo (zyj v) k
 rw [pw_two] at *
 generalize valTo (digits v) k = r at *
 have e2 : v = r.toNat + 2 ^ (32 * k) * t := by
  have : ((r.toNat + 2 ^ (32 * k) * t : Nat) : Int) = r + ((2 ^ (32 * k) : Nat) : Int) * t := by rw [Int.natCast_add, Int.natCast_mul]; omega
  omega
 have b1 := bitl_lt t
 have b2 := bitl_le h0
 have a3 : bitl t ≠ 0 := by unfold bitl; rw [if_neg xq]; omega
 apply bitl_unique xq
 ·rw [e2, show 32 * k + bitl t - 1 = 32 * k + (bitl t - 1) by omega, Nat.pow_add]
  have := Nat.mul_le_mul_left (2 ^ (32 * k)) b2
  omega
 ·rw [e2, Nat.pow_add]
  have : 2 ^ (32 * k) * (t + 1) ≤ 2 ^ (32 * k) * 2 ^ bitl t := Nat.mul_le_mul_left _ b1
  rw [Nat.mul_add] at this
  omega
theorem p2_pw (s : Nat) : (2 : Int) ^ s = 2 ^ (s % 32) * pw (s / 32) := by
 rw [pw_two]
 have : (2 : Nat) ^ s = 2 ^ (s % 32) * 2 ^ (32 * (s / 32)) := by rw [← Nat.pow_add]; congr 1; omega
 have h2 := congrArg (fun z : Nat => (z : Int)) this
 simpa using h2
end Nt
namespace Nt
end Nt
namespace Nt
structure DigP (j n i : Nat) (L v S : List Int) (q cr bo : Int) : Prop where
 len : S.length = L.length
 dig : Dig S
 sum : valTo (S.drop j) i + q * valTo v i = valTo (L.drop j) i + (cr + bo) * pw i
 same : ∀ k, k < j ∨ j + i ≤ k → S[k]? = L[k]?
theorem DigP.next {j n i : Nat} {L v S : List Int} {q cr bo d x p t : Int} (h : DigP j n i L v S q cr bo) (hj : j + (n + 2) + 1 ≤ L.length) (hi : i < n + 2) (hd : d = v[i]?.getD 0) (hx : x = S[j + i]?.getD 0) (hp : p = q * d + cr) (ht : t = x - p % 4294967296 - bo) (t0 : -4294967296 ≤ t) (t1 : t < 4294967296) :
  DigP j n (i + 1) L v (S.set (j + i) (t % 4294967296)) q (p / 4294967296) (if t < 0 then 1 else 0) := by
 refine ⟨by rw [List.length_set]; exact h.len, h.dig.set _ xq, ?_, ?_⟩
 ·rw [drop_set]
  refine ms_step (M := S.drop j) (u := L.drop j) (v := v) (p := p) (t := t) (by have := h.len; simp; omega) h.sum ?_ (by rw [← hd]; exact hp) (by rw [zxf, ← hx]; exact ht) t0 t1
  rw [zxf, zxf, h.same (j + i) (.inr (Nat.le_refl _))]
 ·intro k hk
  rw [List.getElem?_set_ne xq]
  exact h.same k xq
structure DigQ (j n i : Nat) (M v R : List Int) (c : Int) : Prop where
 len : R.length = M.length
 dig : Dig R
 sum : valTo (R.drop j) i + c * pw i = valTo (M.drop j) i + valTo v i
 same : ∀ k, k < j ∨ j + i ≤ k → R[k]? = M[k]?
theorem DigQ.next {j n i : Nat} {M v R : List Int} {c d x t : Int} (h : DigQ j n i M v R c) (hj : j + (n + 2) + 1 ≤ M.length) (hi : i < n + 2) (hd : d = v[i]?.getD 0) (hx : x = R[j + i]?.getD 0) (ht : t = x + d + c) :
  DigQ j n (i + 1) M v (R.set (j + i) (t % 4294967296)) (t / 4294967296) := by
 refine ⟨by rw [List.length_set]; exact h.len, h.dig.set _ xq, ?_, ?_⟩
 ·rw [drop_set]
  refine ab_step (M := M.drop j) (R := R.drop j) (v := v) (t := t) (by have := h.len; simp; omega) h.sum ?_ (by rw [zxf, ← hx, ← hd]; exact ht)
  rw [zxf, zxf, h.same (j + i) (.inr (Nat.le_refl _))]
 ·intro k hk
  rw [List.getElem?_set_ne xq]
  exact h.same k xq
def DigR (j N : Nat) (L v L' : List Int) (q : Int) : Prop := L'.length = L.length ∧ Dig L' ∧ (∀ k, k < j ∨ j + N + 1 ≤ k → L'[k]? = L[k]?) ∧ 0 ≤ q ∧ q < 4294967296 ∧ valTo (L.drop j) (N + 1) = q * val v + valTo (L'.drop j) (N + 1) ∧ valTo (L'.drop j) (N + 1) < val v
theorem DigP.done {j n : Nat} {L v S : List Int} {q cr bo u0 t T top v1 v2 u2 : Int} (h : DigP j n (n + 2) L v S q cr bo) (hj : j + (n + 2) + 1 ≤ L.length) (hv : v.length = n + 2) (dv : Dig v) (dL : Dig L) (hu : u0 = L[j + (n + 2)]?.getD 0) (ht : t = u0 - cr - bo) (t0 : 0 ≤ t) (t1 : t < 4294967296) (q0 : 0 ≤ q) (q1 : q < 4294967296) (hF : DivFacts j n L v top u2 v1 v2) (hT : T = valTo (L.drop j) (n + 3) / val v) (hG : Good T top v1 v2 u2 q) (h1 : 1 ≤ v1) (h2 : 0 ≤ v2) :
  DigR j (n + 2) L v (S.set (j + (n + 2)) t) q := by
 have hs := h.sum
 rw [zyg v xq] at hs
 have e : valTo ((S.set (j + (n + 2)) t).drop j) (n + 2 + 1) = valTo (L.drop j) (n + 2 + 1) - q * val v := by
  rw [drop_set, zxi _ _ (by have := h.len; simp; omega)]
  refine ms_end0 (Ul := valTo (L.drop j) (n + 2)) (uN := u0) hs ?_ ht
  rw [zyf, zxf, ← hu]
 have hend := hG.end (pw_pos n) hF.eV (zyw dv n) (zxo dv n) hF.eU (zyw (dL.drop j) n) h1 h2 (by rw [hT]; exact hF.tU) hF.vp
 refine ⟨by rw [List.length_set]; exact h.len, h.dig.set _ ⟨t0, t1⟩, ?_, q0, q1, ?_, ?_⟩
 ·intro k hk
  rw [List.getElem?_set_ne xq]
  exact h.same k xq
 ·rw [e]; omega
 ·rw [e]; exact hend.2
theorem DigQ.done {j n : Nat} {L v S R : List Int} {q cr bo u0 t c T top v1 v2 u2 : Int} (h0 : DigP j n (n + 2) L v S q cr bo) (h : DigQ j n (n + 2) (S.set (j + (n + 2)) (t % 4294967296)) v R c) (hj : j + (n + 2) + 1 ≤ L.length) (hv : v.length = n + 2) (dv : Dig v) (dL : Dig L) (hu : u0 = L[j + (n + 2)]?.getD 0) (ht : t = u0 - cr - bo) (t0 : t < 0) (t1 : -4294967296 ≤ t) (q0 : 0 ≤ q) (q1 : q < 4294967296) (hF : DivFacts j n L v top u2 v1 v2) (hT : T = valTo (L.drop j) (n + 3) / val v) (hG : Good T top v1 v2 u2 q) (h1 : 1 ≤ v1) (h2 : 0 ≤ v2) :
  R[j + (n + 2)]?.getD 0 = t % 4294967296 ∧ 1 ≤ q ∧ (t % 4294967296 + c) % 4294967296 = 0 ∧ DigR j (n + 2) L v (R.set (j + (n + 2)) 0) (q - 1) := by
 have hs := h0.sum
 have ha := h.sum
 rw [zyg v xq] at hs ha
 have e : valTo (S.drop j) (n + 2) + pw (n + 2) * t = valTo (L.drop j) (n + 2 + 1) - q * val v := by
  refine ms_end0 (Ul := valTo (L.drop j) (n + 2)) (uN := u0) hs ?_ ht
  rw [zyf, zxf, ← hu]
 have hend := hG.end (pw_pos n) hF.eV (zyw dv n) (zxo dv n) hF.eU (zyw (dL.drop j) n) h1 h2 (by rw [hT]; exact hF.tU) hF.vp
 have hU0 := zyw (dL.drop j) (n + 2 + 1)
 rw [show n + 3 = n + 2 + 1 by omega] at hend
 have hX := zxo (h0.dig.drop j) (n + 2)
 have hP := pw_pos (n + 2)
 have hVP := val_lt dv
 rw [hv] at hVP
 have hneg : valTo (L.drop j) (n + 2 + 1) - q * val v < 0 := by
  have : pw (n + 2) * t ≤ pw (n + 2) * (-1) := Int.mul_le_mul_of_nonneg_left xq xq
  omega
 have hq1 : 1 ≤ q := by
  rcases (show q = 0 ∨ 1 ≤ q by omega) with hq | hq
  ·rw [hq] at hneg; omega
  ·exact hq
 have hsl : valTo ((S.set (j + (n + 2)) (t % 4294967296)).drop j) (n + 2) = valTo (S.drop j) (n + 2) := by rw [drop_set, valTo_set_lt _ _ (Nat.le_refl _)]
 rw [hsl] at ha
 have hlen : (S.set (j + (n + 2)) (t % 4294967296)).length = L.length := by rw [List.length_set]; exact h0.len
 obtain ⟨k1, k2⟩ := ab_end hP ha e.symm (zyw (h.dig.drop j) (n + 2)) (zxo (h.dig.drop j) (n + 2)) (by have := hend.1; omega) xq
 refine ⟨?_, hq1, by omega, by rw [List.length_set, h.len, hlen], h.dig.set _ xq, ?_, by omega, by omega, ?_, ?_⟩
 ·rw [h.same _ (.inr (Nat.le_refl _))]
  simp [show j + (n + 2) < S.length by have := h0.len; omega]
 ·intro k hk
  rw [List.getElem?_set_ne xq, h.same k xq, List.getElem?_set_ne xq]
  exact h0.same k xq
 ·rw [drop_set, zxi _ _ (by rw [List.length_drop, h.len, hlen]; omega), k2, Int.sub_mul]; omega
 ·rw [drop_set, zxi _ _ (by rw [List.length_drop, h.len, hlen]; omega), k2]; omega
theorem DigP.neg {j n : Nat} {L v S : List Int} {q cr bo u0 t : Int} (h0 : DigP j n (n + 2) L v S q cr bo) (hv : v.length = n + 2) (dL : Dig L) (hu : u0 = L[j + (n + 2)]?.getD 0) (ht : t = u0 - cr - bo) (t0 : t < 0) (q0 : 0 ≤ q) : 1 ≤ q := by
 have hs := h0.sum
 rw [zyg v xq] at hs
 have e : valTo (S.drop j) (n + 2) + pw (n + 2) * t = valTo (L.drop j) (n + 2 + 1) - q * val v := by
  refine ms_end0 (Ul := valTo (L.drop j) (n + 2)) (uN := u0) hs ?_ ht
  rw [zyf, zxf, ← hu]
 have hU0 := zyw (dL.drop j) (n + 2 + 1)
 have hX := zxo (h0.dig.drop j) (n + 2)
 have hP := pw_pos (n + 2)
 have : pw (n + 2) * t ≤ pw (n + 2) * (-1) := Int.mul_le_mul_of_nonneg_left xq xq
 rcases (show q = 0 ∨ 1 ≤ q by omega) with hq | hq
 ·rw [hq] at e; omega
 ·exact hq
end Nt
theorem SlR.blk {k : IntKind} {w w' : World} {g o n c : Nat} {l : List Int} (h : SlR k w (some ⟨g, o, none⟩) n c l) (hb : w'.heap[g]? = w.heap[g]?) (hs : w.heap.size ≤ w'.heap.size) : SlR k w' (some ⟨g, o, none⟩) n c l := by
 obtain ⟨h1, h2, h3, h4⟩ := h
 refine ⟨h1, h2, h3, fun hp => ?_⟩
 obtain ⟨b, q, e, hlt, hc⟩ := h4 hp
 cases e
 refine ⟨g, o, rfl, by omega, fun i hi => ?_⟩
 rw [← hc i hi]
 unfold World.cell?
 simp only []
 rw [hb]
structure RW (wr w : World) (B gu Lu cu gv cv n gq : Nat) (v U Q : List Int) : Prop where
 ku : OwnK .u32 wr B 104 (some ⟨gu, 0, none⟩) Lu cu U
 kv : SlR .u32 wr (some ⟨gv, 0, none⟩) n cv v
 kq : KBlk .u32 wr gq 104 Q
 bel : Below w.heap.size w wr
section
variable {wr w : World} {B gu Lu cu gv cv n gq : Nat} {v U Q : List Int}
theorem RW.drewN (h : RW wr w B gu Lu cu gv cv n gq v U Q) (k : Nat) : RW (wr.drewN k) w B gu Lu cu gv cv n gq v U Q := ⟨h.ku, h.kv, h.kq, Below.drewN' h.bel k⟩
end
def dl (N : Nat) : Nat := (Nt.digits N).length
namespace Nt
theorem dl_mono {x y : Nat} (h : y ≤ x) : dl y ≤ dl x := zxh h
theorem dl_lt {x : Nat} : (x : Int) < pw (dl x) := by have := val_lt (zyj x); rw [zyi] at this; exact this
theorem dl_le {x n : Nat} (h : (x : Int) < pw n) : dl x ≤ n := digits_length_le h
theorem dl_mul (x y : Nat) : dl (x * y) ≤ dl x + dl y := by
 apply dl_le
 rw [pw_add, Int.natCast_mul]
 have h1 := dl_lt (x := x)
 have h2 := dl_lt (x := y)
 have a : (x : Int) * y ≤ x * pw (dl y) := Int.mul_le_mul_of_nonneg_left xq xq
 have b : (x : Int) * pw (dl y) < pw (dl x) * pw (dl y) := Int.mul_lt_mul_of_pos_right h1 (pw_pos _)
 omega
theorem dl_add (x y : Nat) : dl (x + y) ≤ max (dl x) (dl y) + 1 := by
 apply dl_le
 rw [pw, Int.natCast_add]
 have h1 := dl_lt (x := x)
 have h2 := dl_lt (x := y)
 have a := pw_mono (Nat.le_max_left (dl x) (dl y))
 have b := pw_mono (Nat.le_max_right (dl x) (dl y))
 have := pw_pos (max (dl x) (dl y))
 omega
theorem dl_one : dl 1 = 1 := by unfold dl; rw [digits, if_neg xq, digits, if_pos xq]; rfl
theorem dl_zero : dl 0 = 0 := by unfold dl; rw [zyy]; rfl
theorem dl_pos {x : Nat} : 0 < dl x ↔ 0 < x := by
 constructor
 ·intro h0
  rcases Nat.eq_zero_or_pos x with h' | h'
  ·rw [h', dl_zero] at h0; omega
  ·exact h'
 ·exact zwk
def sg (s : Bool) (N : Nat) : Int := if s then -(N : Int) else (N : Int)
theorem sg_abs (s : Bool) (N : Nat) : (sg s N).natAbs = N := by unfold sg; split <;> omega
theorem sg_add1 {s t : Bool} (N M : Nat) (h : (s == t) = true) : sg s (N + M) = sg s N + sg t M := by cases s <;> cases t <;> simp_all [sg] <;> omega
theorem sg_add2 {s t : Bool} (N M : Nat) (h : (s == t) = false) (c : (cmpS (N : Int) (M : Int) == -1) = true) : sg t (M - N) = sg s N + sg t M := by
 unfold cmpS at c
 cases s <;> cases t <;> simp_all [sg] <;> omega
theorem sg_add3 {s t : Bool} (N M : Nat) (h : (s == t) = false) (c : (cmpS (N : Int) (M : Int) == -1) = false) : sg s (N - M) = sg s N + sg t M := by
 unfold cmpS at c
 cases s <;> cases t <;> simp_all [sg] <;> omega
theorem sg_mul (s t : Bool) (N M : Nat) : sg (!(s == t)) (N * M) = sg s N * sg t M := by
 cases s <;> cases t <;> simp [sg, Int.neg_mul, Int.mul_neg]
theorem sg_neg (s : Bool) (N : Nat) : sg (!s) N = -sg s N := by cases s <;> simp [sg]
theorem sg_cmp0 {s : Bool} (N : Nat) : cmpS (sg s N) 0 = if (cmpS (N : Int) 0 == 0) = true then 0 else if s = true then -1 else 1 := by
 unfold cmpS sg
 cases s <;> simp <;> (repeat' split) <;> first | rfl | omega | simp_all
theorem cmp_range (x y : Int) : cmpS x y = -1 ∧ x < y ∨ cmpS x y = 0 ∧ x = y ∨ cmpS x y = 1 ∧ y < x := by
 unfold cmpS
 rcases Int.lt_trichotomy x y with h | h | h
 ·simp [h]
 ·simp [h]
 ·rw [if_neg xq, if_neg xq]; simp [h]
theorem cmp_lt {x y : Int} (h : x < y) : cmpS x y = -1 := by unfold cmpS; rw [if_pos h]
theorem cmp_gt {x y : Int} (h : y < x) : cmpS x y = 1 := by unfold cmpS; rw [if_neg xq, if_neg xq]
end Nt
structure Sl where
 a : Option Addr
 n : Nat
 c : Nat
@[reducible] def Sl.v (x : Sl) : Value := .slice x.a x.n x.c
structure IL where
 s : Bool
 m : Sl
@[reducible] def IL.v (i : IL) : Value := .agg #[.bool i.s, .slice i.m.a i.m.n i.m.c]
structure RL where
 s : Bool
 m : Sl
 d : Sl
def RL.cs (r : RL) : List Value := [.bool r.s, .slice r.m.a r.m.n r.m.c, .slice r.d.a r.d.n r.d.c]
def IL.cs (i : IL) : List Value := [.bool i.s, .slice i.m.a i.m.n i.m.c]
@[reducible] def RL.v (r : RL) : Value := .agg #[.bool r.s, .slice r.m.a r.m.n r.m.c, .slice r.d.a r.d.n r.d.c]
def NatV (u : World) (x : Sl) (N K : Nat) : Prop := ∃ l, SlR .u32 u x.a x.n x.c l ∧ Nt.Dig l ∧ x.n ≤ K ∧ Nt.val l = N
def NatN (u : World) (x : Sl) (N K : Nat) : Prop := x.n = dl N ∧ SlR .u32 u x.a x.n x.c (Nt.digits N) ∧ dl N ≤ K
def IntV (u : World) (i : IL) (z : Int) (K : Nat) : Prop := ∃ N, NatV u i.m N K ∧ z = Nt.sg i.s N
def IntN (u : World) (i : IL) (z : Int) (K : Nat) : Prop := i.s = decide (z < 0) ∧ NatN u i.m z.natAbs K
section
variable {u u' w w' : World} {x y : Sl} {i j : IL} {r : RL} {N M K L : Nat} {z z' : Int} {q : Rat}
theorem NatV.ext (h : NatV u x N K) (e : Ext u u') : NatV u' x N K := by obtain ⟨l, h1, h2⟩ := h; exact ⟨l, h1.ext e, h2⟩
theorem NatN.ext (h : NatN u x N K) (e : Ext u u') : NatN u' x N K := ⟨h.1, h.2.1.ext e, h.2.2⟩
theorem IntV.ext (h : IntV u i z K) (e : Ext u u') : IntV u' i z K := by obtain ⟨N, h1, h2⟩ := h; exact ⟨N, h1.ext e, h2⟩
theorem IntN.ext (h : IntN u i z K) (e : Ext u u') : IntN u' i z K := ⟨h.1, h.2.ext e⟩
theorem NatV.more (h : NatV u x N K) (k : K ≤ L) : NatV u x N L := by obtain ⟨l, h1, h2, h3, h4⟩ := h; exact ⟨l, h1, h2, by omega, h4⟩
theorem NatN.more (h : NatN u x N K) (k : K ≤ L) : NatN u x N L := ⟨h.1, h.2.1, Nat.le_trans h.2.2 k⟩
theorem IntN.more (h : IntN u i z K) (k : K ≤ L) : IntN u i z L := ⟨h.1, h.2.more k⟩
theorem NatN.raw (h : NatN u x N K) : NatV u x N K := ⟨_, h.2.1, Nt.zyj _, by have := h.2.2; rw [h.1]; exact this, Nt.zyi _⟩
theorem IntN.raw (h : IntN u i z K) : IntV u i z K := by
 refine ⟨z.natAbs, h.2.raw, ?_⟩
 unfold Nt.sg
 rw [h.1]
 by_cases hz : z < 0
 ·simp [hz]; omega
 ·simp [hz]; omega
theorem NatV.size (h : NatV u x N K) : dl N ≤ K := by
 obtain ⟨l, h1, h2, h3, h4⟩ := h
 have e := Nt.zxp h2
 rw [h4, Int.toNat_natCast] at e
 have := Nt.zyh l
 rw [e] at this
 have := h1.1
 unfold dl; omega
theorem IntV.abs (h : IntV u i z K) : NatV u i.m z.natAbs K := by
 obtain ⟨N, h1, h2⟩ := h
 have e : z.natAbs = N := by rw [h2, Nt.sg_abs]
 rw [e]; exact h1
theorem IntV.size (h : IntV u i z K) : dl z.natAbs ≤ K := h.abs.size
theorem NatN.pos (h : NatN u x N K) : 0 < x.n ↔ 0 < N := by rw [h.1]; exact Nt.dl_pos
theorem nat_nil (u : World) (K : Nat) : NatV u ⟨none, 0, 0⟩ 0 K := ⟨[], SlR.nil _ _ _ (Nat.zero_le _), Nt.Dig.nil, Nat.zero_le _, rfl⟩
theorem signed_int {s : Bool} (h : NatN u x N K) : IntN u ⟨s && decide ((0 : Int) < (x.n : Int)), x⟩ (Nt.sg s N) K := by
 have hn := h.pos
 refine ⟨?_, by rw [Nt.sg_abs]; exact h⟩
 unfold Nt.sg
 cases s <;> simp <;> omega
theorem IntV.same {s : Bool} (h : NatV u x N K) : IntV u ⟨s, x⟩ (Nt.sg s N) K := ⟨N, h, rfl⟩
theorem one_data {b : Nat} (h : u.heap[b]? = some (.cells #[.int .u32 1] 104 (0, 0))) : NatN u ⟨some ⟨b, 0, none⟩, 1, 1⟩ 1 1 := by
 have hk : KBlk .u32 u b 104 [1] := h
 have e : Nt.digits 1 = [1] := by
  have h1 : Nt.strip [1] = [1] := by simp [Nt.strip]
  have h2 := Nt.zxp (l := [1]) (Nt.Dig.cons xq Nt.Dig.nil)
  rw [h1] at h2
  exact h2.symm
 exact ⟨by rw [Nt.dl_one], by rw [e]; exact hk.slr_all rfl (Nat.le_refl _) (show 1 ≤ maxLen by decide), by rw [Nt.dl_one]; exact Nat.le_refl _⟩
theorem two_data {b : Nat} {p q : Int} (h : u.heap[b]? = some (.cells #[.int .u32 p, .int .u32 q] 104 (0, 0))) (hp : 0 ≤ p ∧ p < 4294967296) (hq : 0 ≤ q ∧ q < 4294967296) (hN : p + 4294967296 * q = N) : NatV u ⟨some ⟨b, 0, none⟩, 2, 2⟩ N 2 := by
 have hk : KBlk .u32 u b 104 [p, q] := h
 exact ⟨[p, q], hk.slr_all rfl (Nat.le_refl _) (show 2 ≤ maxLen by decide), Nt.Dig.cons hp (Nt.Dig.cons hq Nt.Dig.nil), Nat.le_refl _, by simp [Nt.val]; omega⟩
theorem nat_digit (h : NatV u x N K) (hn : x.n = 1) : ∃ b o, x.a = some ⟨b, o, none⟩ ∧ u.cell? ⟨b, o, none⟩ = some (.int .u32 N) := by
 obtain ⟨l, h1, h2, h3, h4⟩ := h
 obtain ⟨b, o, e, _, hc⟩ := h1.pos (i := 0) xq
 refine ⟨b, o, e, ?_⟩
 simp only [Nat.add_zero] at hc
 rw [hc]
 have hl := h1.1
 have e2 := h4
 rw [← Nt.zyg l (n := 1) xq, Nt.zyf, Nt.zxc] at e2
 have : l[0]?.getD 0 = (N : Int) := by simpa [Nt.pw] using e2
 rw [this]
theorem nat_int (h : NatV u x N K) : IntV u ⟨false, x⟩ N K := ⟨N, h, rfl⟩
theorem nat_intN (h : NatN u x N K) : IntN u ⟨false, x⟩ N K := ⟨by simp, by simpa using h⟩
theorem int_mag (h : IntN u i z K) : NatN u i.m z.natAbs K := h.2
theorem over_nat {A : Option Addr} {n c : Nat} (h : NatF w w' A n c N) (hu : u.heap.size = w.heap.size) (hs : u.heap.size ≤ w'.heap.size) (hN : dl N ≤ K) : NatN (over u w') ⟨A, n, c⟩ N K := by
 obtain ⟨h1, h2, h3⟩ := h
 exact ⟨h1, h2.over (fun hp => by obtain ⟨a, e, k, _⟩ := h3 hp; exact ⟨a, e, by omega⟩) hs, hN⟩
def NatG (w w' : World) (e : Ending) (N : Nat) : Prop := ∃ A n c, e = .returned (.slice A n c) ∧ NatF w w' A n c N ∧ Below w.heap.size w w'
theorem post_nat {e : Ending} (d : Dat u w) (h : NatG w w' e N) (hN : dl N ≤ K) : Post u w (fun v u' => ∃ x : Sl, v = x.v ∧ NatN u' x N K) e w' := by
 obtain ⟨A, n, c, rfl, f, hb⟩ := h
 have hs : u.heap.size ≤ w'.heap.size := by rw [d.size]; exact hb.size
 exact ⟨_, over u w', rfl, over_dat d hb, hb, over_grow hs, ⟨A, n, c⟩, rfl, over_nat f d.size hs hN⟩
theorem post_below {e : Ending} {v : Value} (d : Dat u w) (he : e = .returned v) (hb : Below w.heap.size w w') : Post u w (fun v' _ => v' = v) e w' :=
 ⟨v, over u w', he, over_dat d hb, hb, over_grow (by rw [d.size]; exact hb.size), rfl⟩
theorem below_drewN (w : World) (k : Nat) : Below w.heap.size w (w.drewN k) := ⟨rfl, rfl, rfl, Nat.le_refl _, fun _ _ => rfl⟩
theorem nat_fits {A : Option Addr} {n c : Nat} {e : Ending} {t : Int} (h : e = .returned (.slice A n c) ∧ NatF w w' A n c t.toNat ∧ Below w.heap.size w w') (ht : t = (N : Int)) : NatG w w' e N := by
 subst ht; rw [Int.toNat_natCast] at h; exact ⟨A, n, c, h⟩
def DivN (N M K L : Nat) (v : Value) (u : World) : Prop := ∃ x y : Sl, v = .tuple #[x.v, y.v, .int .i64 0] ∧ NatN u x (N / M) K ∧ NatN u y (N % M) L
theorem post_div {e : Ending} (d : Dat u w) (h : DivMF w w' e (N : Int) (M : Int)) (hK : dl N ≤ K) (hL : dl M ≤ L) (hM : 0 < M) : Post u w (DivN N M K L) e w' := by
 obtain ⟨A1, n1, c1, A2, n2, c2, rfl, f, g, hb⟩ := h
 rw [← Int.natCast_ediv, Int.toNat_natCast] at f
 rw [← Int.natCast_emod, Int.toNat_natCast] at g
 have hs : u.heap.size ≤ w'.heap.size := by rw [d.size]; exact hb.size
 exact ⟨_, over u w', rfl, over_dat d hb, hb, over_grow hs, ⟨A1, n1, c1⟩, ⟨A2, n2, c2⟩, rfl, over_nat f d.size hs (Nat.le_trans (Nt.dl_mono (Nat.div_le_self _ _)) hK), over_nat g d.size hs (Nat.le_trans (Nt.dl_mono (Nat.le_of_lt (Nat.mod_lt _ hM))) hL)⟩
theorem k_natAdd (d : Dat u w) (h1 : NatV u x N K) (h2 : NatV u y M L) (hK : K ≤ 500000000) (hL : L ≤ 500000000) : Calls Tryz.prog 155 #[x.v, y.v] w (Post u w fun v u' => ∃ x : Sl, v = x.v ∧ NatN u' x (N + M) (max K L + 1)) := by
 have hs1 := h1.size
 have hs2 := h2.size
 obtain ⟨a, a1, a2, a3, a4⟩ := h1
 obtain ⟨b, b1, b2, b3, b4⟩ := h2
 refine (Add_any _ _ _ _ _ _ _ _ _ (a1.ext d.ext) (b1.ext d.ext) a2 b2 xq xq).mono fun e w' ⟨A', n', c', h⟩ => ?_
 rw [a4, b4] at h
 exact post_nat d (nat_fits h xq) (by have := Nt.dl_add N M; omega)
theorem k_natSub (d : Dat u w) (h1 : NatV u x N K) (h2 : NatV u y M L) (hK : K ≤ 500000000) (hL : L ≤ 500000000) : Calls Tryz.prog 223 #[x.v, y.v] w (Post u w fun v u' => ∃ x : Sl, v = x.v ∧ NatN u' x (N - M) (K)) := by
 have hs1 := h1.size
 have hs2 := h2.size
 obtain ⟨a, a1, a2, a3, a4⟩ := h1
 obtain ⟨b, b1, b2, b3, b4⟩ := h2
 refine (Sub_any _ _ _ _ _ _ _ _ _ (a1.ext d.ext) (b1.ext d.ext) a2 b2 xq xq).mono fun e w' ⟨A', n', c', h⟩ => ?_
 rw [a4, b4] at h
 exact post_nat d (by rw [show ((N : Int) - (M : Int)).toNat = N - M by omega] at h; exact ⟨A', n', c', h⟩) (by have := Nt.dl_mono (Nat.sub_le N M); omega)
theorem k_natMul (d : Dat u w) (h1 : NatV u x N K) (h2 : NatV u y M L) (hK : K ≤ 500000000) (hL : L ≤ 500000000) : Calls Tryz.prog 156 #[x.v, y.v] w (Post u w fun v u' => ∃ x : Sl, v = x.v ∧ NatN u' x (N * M) (K + L)) := by
 have hs1 := h1.size
 have hs2 := h2.size
 obtain ⟨a, a1, a2, a3, a4⟩ := h1
 obtain ⟨b, b1, b2, b3, b4⟩ := h2
 refine (Mul_any _ _ _ _ _ _ _ _ _ (a1.ext d.ext) (b1.ext d.ext) a2 b2 xq xq).mono fun e w' ⟨A', n', c', h⟩ => ?_
 rw [a4, b4] at h
 exact post_nat d (nat_fits h (Int.natCast_mul N M).symm) (by have := Nt.dl_mul N M; omega)
theorem k_natGcd (d : Dat u w) (h1 : NatV u x N K) (h2 : NatV u y M L) (hK : K ≤ 500000000) (hL : L ≤ 500000000) : Calls Tryz.prog 212 #[x.v, y.v] w (Post u w fun v u' => ∃ x : Sl, v = x.v ∧ NatN u' x (Nat.gcd N M) (max K L)) := by
 have hs1 := h1.size
 have hs2 := h2.size
 obtain ⟨a, a1, a2, a3, a4⟩ := h1
 obtain ⟨b, b1, b2, b3, b4⟩ := h2
 refine (Gcd_any _ _ _ _ _ _ _ _ _ (a1.ext d.ext) (b1.ext d.ext) a2 b2 xq xq).mono fun e w' ⟨A', n', c', h⟩ => ?_
 rw [a4, b4] at h
 exact post_nat d (by rw [Int.toNat_natCast, Int.toNat_natCast] at h; exact ⟨A', n', c', h⟩) (by
  rcases Nat.eq_zero_or_pos M with h0 | h0
  ·rw [h0, Nat.gcd_zero_right]; omega
  ·have := Nt.dl_mono (Nat.gcd_le_right N h0); omega)
theorem k_natTrim (d : Dat u w) (h1 : NatV u x N K) (hK : K ≤ 500000000) : Calls Tryz.prog 214 #[x.v] w (Post u w fun v u' => ∃ x : Sl, v = x.v ∧ NatN u' x N K) := by
 have hs1 := h1.size
 obtain ⟨a, a1, a2, a3, a4⟩ := h1
 refine (Trim_any _ _ _ _ _ (a1.ext d.ext) a2 xq).mono fun e w' ⟨A', n', c', h⟩ => ?_
 rw [a4] at h
 exact post_nat d (nat_fits h rfl) hs1
theorem k_natDivMod (d : Dat u w) (h1 : NatV u x N K) (h2 : NatV u y M L) (hM : 0 < M) (hK : K ≤ 500000000) (hL : L ≤ 500000000) : Calls Tryz.prog 80 #[x.v, y.v] w (Post u w (DivN N M K L)) := by
 have hs1 := h1.size
 have hs2 := h2.size
 obtain ⟨a, a1, a2, a3, a4⟩ := h1
 obtain ⟨b, b1, b2, b3, b4⟩ := h2
 refine (DivMod_any _ _ _ _ _ _ _ _ _ (a1.ext d.ext) (b1.ext d.ext) a2 b2 xq xq).mono fun e w' h => ?_
 rw [a4, b4] at h
 exact post_div d h hs1 hs2 hM
theorem k_natCompare (d : Dat u w) (h1 : NatV u x N K) (h2 : NatV u y M L) : Calls Tryz.prog 83 #[x.v, y.v] w (Post u w fun v _ => v = .int .i64 (Nt.cmpS N M)) := by
 obtain ⟨a, a1, a2, a3, a4⟩ := h1
 obtain ⟨b, b1, b2, b3, b4⟩ := h2
 refine (Compare_any _ _ _ _ _ _ _ _ _ (a1.ext d.ext) (b1.ext d.ext) a2 b2).mono fun e w' ⟨h, k, hk⟩ => ?_
 rw [a4, b4] at h
 exact post_below d h (by rw [hk]; exact below_drewN w k)
end
namespace Nt
theorem mk_den {z : Int} {D : Nat} (hD : 0 < D) : (mkRat z D).den = D / Nat.gcd z.natAbs D ∧ (mkRat z D).num = z / ((Nat.gcd z.natAbs D : Nat) : Int) := by
 rw [← Rat.normalize_eq_mkRat xq, Rat.normalize_eq]
 exact ⟨rfl, rfl⟩
theorem mk_num {z : Int} {D : Nat} (hD : 0 < D) : (mkRat z D).num.natAbs = z.natAbs / Nat.gcd z.natAbs D ∧ ((mkRat z D).num < 0 ↔ z < 0) := by
 have h := (mk_den (z := z) hD).2
 have hg : 0 < Nat.gcd z.natAbs D := Nat.gcd_pos_of_pos_right _ hD
 obtain ⟨k, hk⟩ := Nat.gcd_dvd_left z.natAbs D
 generalize Nat.gcd z.natAbs D = g at *
 rw [h]
 have hk2 : z.natAbs / g = k := by rw [hk]; exact Nat.mul_div_cancel_left _ hg
 rw [hk2]
 rcases Int.lt_or_le z 0 with hz | hz
 ·have e : z = -((g : Int) * (k : Int)) := by rw [← Int.natCast_mul, ← hk]; omega
  have hk0 : 0 < k := by
   rcases Nat.eq_zero_or_pos k with h | h
   ·rw [h] at hk; simp at hk; omega
   ·exact h
  have e2 : z / (g : Int) = -(k : Int) := by
   rw [e, ← Int.mul_neg]
   exact Int.mul_ediv_cancel_left _ xq
  rw [e2]
  exact ⟨by omega, by omega⟩
 ·have e : z = (g : Int) * (k : Int) := by rw [← Int.natCast_mul, ← hk]; omega
  have e2 : z / (g : Int) = (k : Int) := by rw [e]; exact Int.mul_ediv_cancel_left _ xq
  rw [e2]
  exact ⟨by omega, by omega⟩
theorem mk_gcd (N D : Nat) : Nat.gcd D (N % D) = Nat.gcd N D := by rw [Nat.gcd_comm N D, Nat.gcd_rec D N, Nat.gcd_comm]
def rs (q : Rat) : Nat := max (dl q.num.natAbs) (dl q.den)
theorem rs_mk {z : Int} {D K : Nat} (hz : dl z.natAbs ≤ K) (hd : dl D ≤ K) (hK : 1 ≤ K) : rs (mkRat z D) ≤ K := by
 rcases Nat.eq_zero_or_pos D with h | h
 ·rw [h, Rat.mkRat_zero]
  unfold rs
  rw [show (0 : Rat).num.natAbs = 0 from rfl, show (0 : Rat).den = 1 from rfl, dl_zero, dl_one]
  omega
 ·unfold rs
  have h1 : dl (mkRat z D).num.natAbs ≤ dl z.natAbs := by rw [(mk_num h).1]; exact dl_mono (Nat.div_le_self _ _)
  have h2 : dl (mkRat z D).den ≤ dl D := by rw [(mk_den h).1]; exact dl_mono (Nat.div_le_self _ _)
  omega
theorem den_pos (q : Rat) : 0 < q.den := Nat.pos_of_ne_zero q.den_nz
theorem rs_pos (q : Rat) : 1 ≤ rs q := by
 unfold rs
 have := dl_mono (den_pos q)
 rw [show Nat.succ 0 = 1 from rfl, dl_one] at this
 omega
def cmpQ (x y : Rat) : Int := if x < y then -1 else if x = y then 0 else 1
theorem cmp_nat0 {D : Nat} {b : Bool} (h : (cmpS (D : Int) 0 == 0) = b) : (b = true → D = 0) ∧ (b = false → 0 < D) := by
 unfold cmpS at h
 by_cases h0 : D = 0
 ·subst h0; simp at h; subst h; simp
 ·rw [if_neg xq, if_neg xq] at h
  simp at h; subst h; simp; omega
theorem cmp_natE {D E : Nat} (h : (cmpS (D : Int) (E : Int) == 0) = true) : D = E := by
 unfold cmpS at h
 by_cases h1 : (D : Int) < E
 ·simp only [h1, if_true] at h; simp at h
 ·by_cases h2 : (D : Int) = E
  ·omega
  ·simp only [h1, h2, if_false] at h; simp at h
theorem cmp_eq0 {z : Int} (h : (cmpS z 0 == 0) = true) : z = 0 := by
 unfold cmpS at h
 by_cases h1 : z < 0
 ·simp only [h1, if_true] at h; simp at h
 ·by_cases h2 : z = 0
  ·exact h2
  ·simp only [h1, h2, if_false] at h; simp at h
theorem cmp_ne0 {z : Int} (h : (cmpS z 0 == 0) = false) : z ≠ 0 := by
 rintro rfl; simp [cmpS] at h
theorem mk_lt {a c : Int} {b d : Nat} (hb : 0 < b) (hd : 0 < d) : (mkRat a b < mkRat c d ↔ a * d < c * b) ∧ (mkRat a b = mkRat c d ↔ a * d = c * b) := by
 have e : mkRat a b = mkRat c d ↔ a * d = c * b := Rat.mkRat_eq_iff xq xq
 refine ⟨?_, e⟩
 have hb' : (0 : Rat) < (b : Rat) := Rat.natCast_pos.2 hb
 have hd' : (0 : Rat) < (d : Rat) := Rat.natCast_pos.2 hd
 rw [Rat.mkRat_eq_div, Rat.mkRat_eq_div, Rat.div_lt_iff hb']
 have e2 : (c : Rat) / (d : Rat) * (b : Rat) = (c * b : Rat) / d := by rw [Rat.div_def, Rat.div_def]; grind
 rw [e2, Rat.lt_div_iff hd']
 have e3 : (a : Rat) * ((d : Nat) : Rat) = ((a * d : Int) : Rat) := by rw [Rat.intCast_mul]; rfl
 have e4 : (c : Rat) * ((b : Nat) : Rat) = ((c * b : Int) : Rat) := by rw [Rat.intCast_mul]; rfl
 rw [e3, e4, Rat.intCast_lt_intCast]
theorem cmp_mk {a c : Int} {b d : Nat} (hb : 0 < b) (hd : 0 < d) : cmpS (a * d) (c * b) = cmpQ (mkRat a b) (mkRat c d) := by
 obtain ⟨h1, h2⟩ := mk_lt (a := a) (c := c) hb hd
 unfold cmpS cmpQ
 simp only [h1, h2]
theorem add_mk {a c : Int} {b d : Nat} (hb : 0 < b) (hd : 0 < d) : mkRat (a * d + c * b) (b * d) = mkRat a b + mkRat c d := (Rat.mkRat_add_mkRat a c xq xq).symm
theorem add_same {a c : Int} {b : Nat} (hb : 0 < b) : mkRat (a + c) b = mkRat a b + mkRat c b := by
 rw [← add_mk hb hb, ← Int.add_mul, ← Rat.mkRat_mul_right (a := b) xq]
theorem mul_mk {a c : Int} {b d : Nat} : mkRat (a * c) (b * d) = mkRat a b * mkRat c d := (Rat.mkRat_mul_mkRat a c b d).symm
theorem mk_one (a : Int) : mkRat a 1 = (a : Rat) := by rw [Rat.mkRat_eq_div]; show (a : Rat) / ((1 : Nat) : Rat) = a; grind
theorem neg_mk {a : Int} {b : Nat} : mkRat (-a) b = -mkRat a b := (Rat.neg_mkRat a b).symm
def sgQ (x : Rat) : Int := cmpQ x 0
theorem sg_mk {a : Int} {b : Nat} (hb : 0 < b) : cmpS a 0 = sgQ (mkRat a b) := by
 have := cmp_mk (a := a) (c := 0) (b := b) (d := 1) hb xq
 rw [Rat.zero_mkRat] at this
 unfold sgQ
 rw [← this]
 congr 1 <;> omega
def absQ (x : Rat) : Rat := if x < 0 then -x else x
def quoI (x y : Int) : Int := if decide (x < 0) == decide (y < 0) then (x.natAbs : Int) else -(x.natAbs : Int)
theorem quoI_abs (x y : Int) : (quoI x y).natAbs = x.natAbs := by unfold quoI; split <;> omega
theorem div_mk2 {x y : Int} (hy : y ≠ 0) : mkRat (quoI x y) y.natAbs = (x : Rat) / (y : Rat) := by
 unfold quoI
 rw [← Rat.divInt_eq_div, ← Rat.divInt_ofNat]
 by_cases hx : x < 0 <;> by_cases hy' : y < 0
 ·rw [if_pos (by simp [hx, hy']), ← Rat.neg_divInt_neg x y, show ((x.natAbs : Nat) : Int) = -x by omega, show ((y.natAbs : Nat) : Int) = -y by omega]
 ·rw [if_neg (by simp [hx, hy']), show ((x.natAbs : Nat) : Int) = -x by omega, show ((y.natAbs : Nat) : Int) = y by omega, Int.neg_neg]
 ·rw [if_neg (by simp [hx, hy']), ← Rat.neg_divInt_neg x y, show ((x.natAbs : Nat) : Int) = x by omega, show ((y.natAbs : Nat) : Int) = -y by omega]
 ·rw [if_pos (by simp [hx, hy']), show ((x.natAbs : Nat) : Int) = x by omega, show ((y.natAbs : Nat) : Int) = y by omega]
theorem quo_mk {a c : Int} {b d : Nat} (hb : 0 < b) (hd : 0 < d) (hc : c ≠ 0) : ((a * d : Int) : Rat) / ((b * c : Int) : Rat) = mkRat a b / mkRat c d := by
 have hb' : (b : Rat) ≠ 0 := Ne.symm (Rat.ne_of_lt (Rat.natCast_pos.2 hb))
 have hd' : (d : Rat) ≠ 0 := Ne.symm (Rat.ne_of_lt (Rat.natCast_pos.2 hd))
 have hc' : (c : Rat) ≠ 0 := fun h => hc (by have : (c : Rat) = ((0 : Int) : Rat) := h; exact Rat.intCast_inj.1 this)
 rw [Rat.mkRat_eq_div, Rat.mkRat_eq_div, Rat.intCast_mul, Rat.intCast_mul]
 show (a : Rat) * (d : Rat) / ((b : Rat) * (c : Rat)) = _
 grind
end Nt
def RatV (u : World) (r : RL) (q : Rat) (K : Nat) : Prop := (∃ z D, IntV u ⟨r.s, r.m⟩ z K ∧ NatV u r.d D K ∧ q = mkRat z D) ∧ 1 ≤ K
def RatN (u : World) (r : RL) (q : Rat) (K : Nat) : Prop := IntN u ⟨r.s, r.m⟩ q.num K ∧ NatN u r.d q.den K
section
variable {u u' w w' : World} {x y : Sl} {i j : IL} {r : RL} {N M K L : Nat} {z z' : Int} {q : Rat}
theorem RatV.ext (h : RatV u r q K) (e : Ext u u') : RatV u' r q K := by
 obtain ⟨⟨z, D, h1, h2, h3⟩, h4⟩ := h; exact ⟨⟨z, D, h1.ext e, h2.ext e, h3⟩, h4⟩
theorem RatN.ext (h : RatN u r q K) (e : Ext u u') : RatN u' r q K := ⟨h.1.ext e, h.2.ext e⟩
theorem RatN.more (h : RatN u r q K) (k : K ≤ L) : RatN u r q L := ⟨h.1.more k, h.2.more k⟩
theorem RatN.rs (h : RatN u r q K) : Nt.rs q ≤ K := by
 have h1 := h.1.2.2.2
 have h2 := h.2.2.2
 unfold Nt.rs; omega
theorem RatN.fit (h : RatN u r q K) (k : Nt.rs q ≤ L) : RatN u r q L := by
 unfold Nt.rs at k
 exact ⟨⟨h.1.1, h.1.2.1, h.1.2.2.1, by omega⟩, h.2.1, h.2.2.1, by omega⟩
theorem RatN.raw (h : RatN u r q K) : RatV u r q K := ⟨⟨q.num, q.den, h.1.raw, h.2.raw, (Rat.mkRat_self q).symm⟩, by have := Nt.rs_pos q; have := h.rs; omega⟩
theorem RatV.rs (h : RatV u r q K) : Nt.rs q ≤ K := by
 obtain ⟨⟨z, D, h1, h2, h3⟩, h4⟩ := h
 rw [h3]; exact Nt.rs_mk h1.size h2.size h4
def NumV (u : World) (r : RL) (wh : Bool) (q : Rat) (K : Nat) : Prop := ∃ z D, IntV u ⟨r.s, r.m⟩ z K ∧ NatV u r.d D K ∧ 0 < D ∧ q = mkRat z D ∧ (wh = true → D = 1) ∧ 1 ≤ K
theorem quot_int {L : Nat} (h : IntN u i z K) (h2 : IntN u j z' L) : IntV u ⟨!(i.s == j.s), i.m⟩ (Nt.quoI z z') K := by
 refine ⟨z.natAbs, h.2.raw, ?_⟩
 show Nt.quoI z z' = Nt.sg (!(i.s == j.s)) _
 rw [h.1, h2.1]
 unfold Nt.quoI Nt.sg
 cases (decide (z < 0) == decide (z' < 0)) <;> rfl
theorem flip_rat (h : RatV u r q K) : RatV u ⟨!r.s, r.m, r.d⟩ (-q) K := by
 obtain ⟨⟨z, D, ⟨N, h1, h2⟩, h3, h4⟩, h5⟩ := h
 refine ⟨⟨-z, D, ⟨N, h1, ?_⟩, h3, by rw [h4, Nt.neg_mk]⟩, h5⟩
 rw [h2]; exact (Nt.sg_neg _ _).symm
theorem whole_rat (h : IntN u i z K) (h1 : NatN u y 1 L) : RatN u ⟨i.s, i.m, y⟩ (z : Rat) (max K L) := by
 refine ⟨?_, ?_⟩
 ·show IntN u i (z : Rat).num _; rw [Rat.num_intCast]; exact h.more (Nat.le_max_left _ _)
 ·show NatN u y (z : Rat).den _; rw [Rat.den_intCast]; exact h1.more (Nat.le_max_right _ _)
theorem low1 {s : Bool} {D : Nat} (hD : 0 < D) (h : N % D = 0) : ((Nt.sg s (N / D) : Int) : Rat) = mkRat (Nt.sg s N) D := by
 obtain ⟨k, hk⟩ := Nat.dvd_of_mod_eq_zero h
 subst hk
 rw [Nat.mul_div_cancel_left _ hD, ← Nt.mk_one, Rat.mkRat_eq_iff xq xq]
 unfold Nt.sg
 cases s
 ·simp [Int.mul_comm]
 ·simp [Int.mul_comm, Int.mul_neg]
theorem low2 {s : Bool} {D : Nat} (hD : 0 < D) (hg : Nat.gcd D (N % D) = 1) (h1 : IntN u i (Nt.sg s N) K) (h2 : NatN u y D L) : RatN u ⟨i.s, i.m, y⟩ (mkRat (Nt.sg s N) D) (max K L) := by
 rw [Nt.mk_gcd] at hg
 have hg' : Nat.gcd (Nt.sg s N).natAbs D = 1 := by rw [Nt.sg_abs]; exact hg
 have e1 := (Nt.mk_den (z := Nt.sg s N) hD).1
 have e2 := (Nt.mk_den (z := Nt.sg s N) hD).2
 rw [hg', Nat.div_one] at e1
 rw [hg'] at e2
 simp at e2
 refine ⟨?_, ?_⟩
 ·show IntN u i _ _; rw [e2]; exact h1.more (Nat.le_max_left _ _)
 ·show NatN u y _ _; rw [e1]; exact h2.more (Nat.le_max_right _ _)
theorem low3 {s : Bool} {D : Nat} (hD : 0 < D) (hr : N % D ≠ 0) (h1 : NatN u x (N / Nat.gcd D (N % D)) K) (h2 : NatN u y (D / Nat.gcd D (N % D)) L) : RatN u ⟨s, x, y⟩ (mkRat (Nt.sg s N) D) (max K L) := by
 rw [Nt.mk_gcd] at h1 h2
 have e1 := (Nt.mk_den (z := Nt.sg s N) hD).1
 have e2 := Nt.mk_num (z := Nt.sg s N) hD
 rw [Nt.sg_abs] at e1 e2
 refine ⟨⟨?_, ?_⟩, ?_⟩
 ·have hN : 0 < N := by
   rcases Nat.eq_zero_or_pos N with h | h
   ·rw [h] at hr; simp at hr
   ·exact h
  have e3 : decide ((mkRat (Nt.sg s N) D).num < 0) = decide (Nt.sg s N < 0) := decide_eq_decide.2 e2.2
  show s = decide _
  rw [e3]
  unfold Nt.sg
  cases s <;> simp <;> omega
 ·show NatN u x _ _; rw [e2.1]; exact h1.more (Nat.le_max_left _ _)
 ·show NatN u y _ _; rw [e1]; exact h2.more (Nat.le_max_right _ _)
end
end Go.Proofs.YtbolmkfphieogaaGreat
namespace Go.Proofs.YtbolmkfphieogaaGreat
open Go.RowKit Go.ChangeShapes Go.WideShapes
set_option linter.unusedVariables false
section
variable {H : Type} {enc : TypeId × Value → H} {P : Program} {w : World} {base : Nat} {spare : Nat → Bool} {held : Bool} {fuel : Nat} {cs : List Value} {x : DataW H × List MemPlace}
theorem ar_slr {k : IntKind} {t e : TypeId} (ht : P.underlying t = some (.slice e)) (he : P.underlying e = some (.int k)) (hc : P.cellsOf e = 1) (h : DataW.trod enc P w base spare held fuel t cs = some x) :
  ∃ (s : Sl) (l : List Int), cs = [s.v] ∧ SlR k w s.a s.n s.c l ∧ ∀ z ∈ l, (Lit.int k z).wf = true := by
 rcases open_ints ht he hc h with ⟨rfl, _⟩ | ⟨a, len, cap, zs, rfl, _, hl, hm, hz, _, hcell, hwz⟩
 ·exact ⟨⟨none, 0, 0⟩, [], rfl, SlR.nil w none 0 (Nat.zero_le _), (fun z h => by cases h)⟩
 ·have hle : len ≤ zs.length := by rw [hz]; split <;> omega
  refine ⟨⟨some a, len, cap⟩, zs.take len, rfl, ⟨by simp; omega, hl, hm, fun hp => ?_⟩, fun z hz' => hwz z (List.mem_of_mem_take hz')⟩
  have hp : 0 < len := hp
  obtain ⟨b, o, sp⟩ := a
  have h0 := hcell 0 xq
  have hsp : sp = none := by simpa [Addr.add] using World.cell?_spot h0
  subst hsp
  refine ⟨b, o, rfl, ?_, fun i hi => ?_⟩
  ·have := block_lt_of_cell h0
   simpa [Addr.add] using this
  ·have hi : i < len := hi
   have := hcell i xq
   rw [show (⟨b, o, none⟩ : Addr).add i = ⟨b, o + i, none⟩ by unfold Addr.add; split <;> simp_all] at this
   rw [this, List.getElem?_take_of_lt hi]
   simp
theorem wf_i64 {z : Int} (h : (Lit.int .i64 z).wf = true) : -9223372036854775808 ≤ z ∧ z ≤ 9223372036854775807 := by
 simp [Lit.wf, IntKind.min, IntKind.max, IntKind.bits, IntKind.signed] at h
 omega
section
variable {r0 : Reach} {b0 : Nat} {v : Value} {d : DataW H} {p : List MemPlace}
end
end
end Go.Proofs.YtbolmkfphieogaaGreat
namespace Go.Proofs.YtbolmkfphieogaaGreat
open Go.RowKit
set_option linter.unusedVariables false
def St.own (S : St) (d : Tmp) (V : Vr) (n c : Nat) : St := ⟨S.n, upd S.reg d (some (.slc d 0 n c)), upd S.var d (some V)⟩
def hide (u w' : World) : World := { u with heap := u.heap ++ Array.replicate (w'.heap.size - u.heap.size) hidO }
section
variable {P : Program} {ops : Array Oper} {w0 : Base} {u0 : World} {S T : St} {B : Tmp → Nat} {a : Act} {w w' u u' : World} {o : Oper} {p : List Tmp} {seq : Bool} {rest : List (Oper × List Tmp)} {K : St → World → Prop}
theorem zwl (h : u.heap.size ≤ w'.heap.size) : (hide u w').heap.size = w'.heap.size := by simp [hide]; omega
theorem hide_old {b : Nat} (h : b < u.heap.size) : (hide u w').heap[b]? = u.heap[b]? := by
 simp only [hide]; rw [Array.getElem?_append_left h]
theorem hide_new {b : Nat} (h : u.heap.size ≤ b) (h2 : b < w'.heap.size) : (hide u w').heap[b]? = some hidO := by
 simp only [hide]; rw [Array.getElem?_append_right h, Array.getElem?_replicate, if_pos xq]
theorem hide_grow (h : u.heap.size ≤ w'.heap.size) : Grow u (hide u w') := ⟨by rw [zwl h]; exact h, fun b hb => hide_old hb⟩
theorem zwb {pubs : List Tmp} {r : Tmp} {x : SV} (h : (S.unpub pubs).reg r = some x) : S.reg r = some x ∧ r ∉ pubs := by
 simp only [St.unpub] at h
 cases e : pubs.contains r with
 | true => rw [e] at h; cases h
 | false => rw [e] at h; exact ⟨h, fun hm => by rw [List.contains_iff_mem.2 hm] at e; cases e⟩
theorem zxk {pubs : List Tmp} {r : Tmp} {x : Vr} (h : (S.unpub pubs).var r = some x) : S.var r = some x ∧ r ∉ pubs := by
 simp only [St.unpub] at h
 cases e : pubs.contains r with
 | true => rw [e] at h; cases h
 | false => rw [e] at h; exact ⟨h, fun hm => by rw [List.contains_iff_mem.2 hm] at e; cases e⟩
theorem Rep.grown (h : Rep w0 u0 S B a w u) {pubs : List Tmp} (hno : NoAt S pubs) {row : Option Nat} (hrow : ∀ b, row = some b → ∃ t ∈ pubs, t < S.n ∧ ∃ V, S.var t = some V ∧ B t = b) (hg : w.grownBy w' row)
  {d : Tmp} {V : Vr} {g n c : Nat} (hd : d < S.n) (hdv : S.var d = none ∨ d ∈ pubs) (hgv : w'.heap[g]? = some (.cells V.cs.toArray V.ty (0, 0))) (hgo : row = some g ∨ g = w.heap.size) :
  Rep w0 u0 ((S.unpub pubs).own d V n c) (setB B d g) (a.put (some d) (.slice (some ⟨g, 0, none⟩) n c)) w' (hide u w') := by
 have hus : u.heap.size = w.heap.size := h.dat.size
 have hsz : u.heap.size ≤ w'.heap.size := by rw [hus]; exact hg.size
 have hrowu : ∀ b, row = some b → u.heap[b]? = some hidO ∧ u0.heap.size ≤ b ∧ b < w.heap.size := fun b hb => by
  obtain ⟨t, _, hlt, V', hV, rfl⟩ := hrow b hb
  exact ⟨(h.var t V' hV).2.1, (h.var t V' hV).2.2.1 hlt, h.lt hV⟩
 have hat : ∀ r x, S.reg r = some x → r ∉ pubs → x.at? ≠ some d := fun r x hx hr e => by
  obtain ⟨V', hV'⟩ := h.wf.reg r x d hx e
  rcases hdv with hdv | hdv
  ·rw [hdv] at hV'; cases hV'
  ·exact hr (hno r x d hx e hdv)
 refine ⟨⟨fun r x hx => ?_, by rw [Act.put_size]; exact h.regs.size⟩, ⟨fun r x t hx ht => ?_⟩, by rw [put_defers]; exact h.defers, fun t V' hV => ?_, fun t t' V1 V2 h1 h2 e => ?_, ⟨zwl hsz, fun b o hb hh => ?_⟩, h.base, h.grow.trans (hide_grow hsz), ?_⟩
 ·by_cases e : r = d
  ·subst e
   simp only [St.own, zyz] at hx
   injection hx with hx
   subst hx
   rw [Act.put_get_same _ _ (by rw [h.regs.size]; exact hd)]
   simp [SV.conc, setB]
  ·simp only [St.own, upd_ne _ _ e] at hx
   obtain ⟨k1, k2⟩ := zwb hx
   rw [Act.put_get_ne _ _ (fun k => e (by injection k with k; exact k.symm)), conc_setB (hat r x k1 k2)]
   exact h.regs.reg r x k1
 ·show ∃ V', upd (S.unpub pubs).var d (some V) t = some V'
  by_cases e : t = d
  ·subst e; exact ⟨V, zyz _ _ _⟩
  ·rw [upd_ne _ _ e]
   by_cases e2 : r = d
   ·subst e2
    simp only [St.own, zyz] at hx
    injection hx with hx
    subst hx
    injection ht with ht; exact absurd ht.symm e
   ·simp only [St.own, upd_ne _ _ e2] at hx
    obtain ⟨k1, k2⟩ := zwb hx
    obtain ⟨V', hV'⟩ := h.wf.reg r x t k1 ht
    have hnt : t ∉ pubs := fun hm => k2 (hno r x t k1 ht hm)
    exact ⟨V', by rw [unpub_var hnt]; exact hV'⟩
 ·by_cases e : t = d
  ·subst e
   simp only [St.own, zyz] at hV
   injection hV with hV
   subst hV
   rw [show setB B t g t = g by simp [setB]]
   refine ⟨hgv, ?_, ?_⟩
   ·rcases hgo with hgo | hgo
    ·obtain ⟨k1, _, k3⟩ := hrowu g hgo
     rw [hide_old xq]; exact k1
    ·exact hide_new xq (zyx hgv)
   ·refine .mk0 hd ?_
    rcases hgo with hgo | hgo
    ·exact (hrowu g hgo).2.1
    ·have := h.grow.size; omega
  ·simp only [St.own, upd_ne _ _ e] at hV
   obtain ⟨k1, k2⟩ := zxk hV
   obtain ⟨g1, g2, g3⟩ := h.var t V' k1
   rw [show setB B d g t = B t by simp [setB, e]]
   refine ⟨?_, by rw [hide_old (zyx g2)]; exact g2, g3⟩
   rw [hg.block _ (h.lt k1) ?_]
   ·exact g1
   ·intro hb
    obtain ⟨s, hs, _, Vs, hVs, he⟩ := hrow _ hb.symm
    exact k2 (h.inj s t Vs V' hVs k1 he ▸ hs)
 ·have key : ∀ t V1, (((S.unpub pubs).own d V n c)).var t = some V1 → t ≠ d → S.var t = some V1 ∧ t ∉ pubs := fun t V1 hV e => by
   simp only [St.own, upd_ne _ _ e] at hV; exact zxk hV
  have hgt : ∀ t V1, S.var t = some V1 → t ∉ pubs → B t ≠ g := fun t V1 hV hn e => by
   rcases hgo with hgo | hgo
   ·obtain ⟨s, hs, _, Vs, hVs, he⟩ := hrow g hgo
    exact hn (h.inj s t Vs V1 hVs hV (he.trans e.symm) ▸ hs)
   ·have := h.lt hV; omega
  by_cases e1 : t = d
  ·by_cases e2 : t' = d
   ·rw [e1, e2]
   ·obtain ⟨k1, k2⟩ := key t' V2 h2 e2
    simp [setB, e1, e2] at e
    exact absurd e.symm (hgt t' V2 k1 k2)
  ·obtain ⟨k1, k2⟩ := key t V1 h1 e1
   by_cases e2 : t' = d
   ·simp [setB, e1, e2] at e
    exact absurd e (hgt t V1 k1 k2)
   ·obtain ⟨k3, k4⟩ := key t' V2 h2 e2
    simp [setB, e1, e2] at e
    exact h.inj t t' V1 V2 k1 k3 e
 ·rcases Nat.lt_or_ge b u.heap.size with hlt | hge
  ·rw [hide_old hlt] at hb
   rw [hg.block b xq (fun hc => ?_)]
   ·exact h.dat.vis b o hb hh
   ·obtain ⟨k1, _⟩ := hrowu b hc.symm
    rw [k1] at hb; injection hb with hb; exact hh hb.symm
  ·have hlt := zyx hb
   rw [zwl hsz] at hlt
   rw [hide_new hge hlt] at hb; injection hb with hb; exact absurd hb.symm hh
 ·refine h.bel.trans ⟨hg.os, hg.tape, hg.output, hg.size, fun k hk => hg.block k ?_ (fun hc => ?_)⟩
  ·have h1 := h.bel.size; omega
  ·obtain ⟨_, k2, _⟩ := hrowu k hc.symm
   have := h.base; omega
theorem run_app {T E : TypeId} {z : Value} {size bytes : Nat} (hT : P.underlying T = some (.slice E)) (hi : (P.info? E).map (fun i => (i.zero, i.size, i.bytes)) = some (some z, size, bytes)) (hzs : z.cells.size = size) (hsz : 0 < size)
  {v : Value} {n : Nat} {xs : List Value} (hown : w.ownsRow u0.heap.size E size v n xs) {ad : Addr} {m c : Nat} {news : List Value} (hl : news.length = m * size) (hnews : ∀ j x, news[j]? = some x → w.cell? (ad.add j) = some x) (h1 : ∀ x ∈ news, x.oneCell' = true)
  (hm : 0 < m) (h63 : n + m ≤ maxLen) (hbytes : (n + m) * bytes ≤ 140737488355328) (hb : u0.heap.size ≤ w.heap.size) (ty : TypeId) :
  ∃ g c1 cs w', (Builtin.append_ #[T, T] ty #[v, .slice (some ad) m c]).run P w = .ok (.slice (some ⟨g, 0, none⟩) (n + m) c1) w' ∧ w'.heap[g]? = some (.cells cs E (0, 0)) ∧ n + m ≤ c1 ∧ c1 ≤ maxLen ∧ cs.toList.length = c1 * size ∧ cs.toList.take ((n + m) * size) = xs ++ news ∧
   w.grownBy w' v.ownBlock ∧ (v.ownBlock = some g ∨ g = w.heap.size) := by
 obtain ⟨i, hi1, hz, hs, hby⟩ := info_parts hi
 obtain ⟨v', w', hrun, g1, g2, g3, g4⟩ := run_append_own_at (P := P) w u0.heap.size T ty E i z size bytes hT hi1 hz hs hby hzs hsz v n xs hown ad m c news hl hnews h1 h63 hbytes hb
 rcases g1.2 with ⟨he, hn⟩ | ⟨g, cap, cur, he, hg, hh, hc, hm', hcs, ht⟩
 ·omega
 ·subst he
  refine ⟨g, cap, cur, w', hrun, hh, hc, hm', by simpa using hcs, ht, g2, ?_⟩
  rcases g4 with g4 | g4
  ·exact .inl g4.symm
  ·injection g4 with g4; exact .inr g4
theorem ev_of {x : Operand} {y : SV} (hr : RegOK S B a) (h : evO S x = some y) : a.eval x = y.conc B := ev_eval hr h
theorem sy_app0 (d : Tmp) {T E : TypeId} {s x : Operand} {z : Value} {size bytes : Nat} {b off m c : Nat} (news : List Value) (hT : P.underlying T = some (.slice E)) (hi : (P.info? E).map (fun i => (i.zero, i.size, i.bytes)) = some (some z, size, bytes)) (hzs : z.cells.size = size) (hsz : 0 < size)
  (hl : news.length = m * size) (hnews : ∀ j v, news[j]? = some v → u.cell? ⟨b, off + j, none⟩ = some v) (h1 : ∀ v ∈ news, v.oneCell' = true) (hm : 0 < m) (h63 : m ≤ maxLen) (hbytes : m * bytes ≤ 140737488355328)
  (k : ∀ c1 cs, m ≤ c1 → c1 ≤ maxLen → cs.length = c1 * size → cs.take (m * size) = news → sym P ops w0 u0 true rest (S.own d ⟨E, cs⟩ m c1) u K)
  (hw : Wants ops o S := by exact zwc xv) (hd : o.dst = some d := by kernel_rfl) (hop : o.op = .call { callee := .builtin .append, args := #[s, x], argTypes := #[T, T] } := by rfl) (hf : (freeB S d && (S.var d).isNone) = true := by kernel_rfl)
  (hs : evO S s = some (.v (.slice none 0 0)) := by rfl) (hx : evO S x = some (.v (.slice (some ⟨b, off, none⟩) m c)) := by rfl) : sym P ops w0 u0 true ((o, p) :: rest) S u K := by
 simp only [Bool.and_eq_true, Option.isNone_iff_eq_none] at hf
 refine .inr (.inr (.inl ⟨.inl rfl, fun B a w u' he hrep => ⟨hw B a hrep.regs, ?_⟩⟩))
 obtain ⟨g, c1, cs, w', hrun, hgv, k1, k2, k3, k4, k5, k6⟩ := run_app (P := P) (u0 := u0) (w := w) (v := .slice none 0 0) (n := 0) (xs := []) (ad := ⟨b, off, none⟩) (c := c) hT hi hzs hsz ⟨by simp, .inl ⟨rfl, rfl⟩⟩ hl (fun j v hv => by rw [addr_add]; exact hrep.dat.ext.cell (he.cell (hnews j v hv))) h1 hm xq (by simpa using hbytes) (by rw [← hrep.dat.size]; exact hrep.grow.size) o.type
 rw [Nat.zero_add] at hrun k1 k4
 unfold Oper.wp execOp
 simp only [hop, resolve, invoke, builtin, Sem.run_bind, Sem.run_pure, Result.andThen_ok, List.map_toArray, List.map_cons, List.map_nil, ev_of hrep.regs hs, ev_of hrep.regs hx, SV.conc, hrun]
 have hr2 := hrep.grown (pubs := []) (fun r x t _ _ h => by cases h) (row := none) (fun b h => by cases h) k5 (d := d) (V := ⟨E, cs.toList⟩) (g := g) (n := m) (c := c1) (zxu hd hf.1 d hd).1 (.inl hf.2) (by simpa using hgv) (k6.imp (fun h => by cases h) id)
 rw [unpub_nil] at hr2
 have hsz2 : u'.heap.size ≤ w'.heap.size := by rw [hrep.dat.size]; exact k5.size
 show ∃ S' B' u'' u2, Rep w0 u0 S' B' (a.put o.dst _) w' u'' ∧ _
 rw [hd]
 exact ⟨_, _, _, u, hr2, fun _ => (hide_grow hsz2).ext, fun _ => Ext.refl _, he.trans (hide_grow hsz2).ext, k c1 cs.toList k1 k2 k3 (by simpa using k4)⟩
theorem sy_app1 (d : Tmp) {T E : TypeId} {s x : Operand} {z : Value} {size bytes : Nat} {b off m c t n cap : Nat} {cs0 : List Value} (pubs : List Tmp) (news : List Value) (hT : P.underlying T = some (.slice E)) (hi : (P.info? E).map (fun i => (i.zero, i.size, i.bytes)) = some (some z, size, bytes)) (hzs : z.cells.size = size) (hsz : 0 < size)
  (hl : news.length = m * size) (hnews : ∀ j v, news[j]? = some v → u.cell? ⟨b, off + j, none⟩ = some v) (h1 : ∀ v ∈ news, v.oneCell' = true) (hm : 0 < m) (h63 : n + m ≤ maxLen) (hbytes : (n + m) * bytes ≤ 140737488355328)
  (hn : n ≤ cap) (hcap : cap ≤ maxLen) (hcl : cs0.length = cap * size) (hno : NoAt S pubs)
  (k : ∀ c1 cs, n + m ≤ c1 → c1 ≤ maxLen → cs.length = c1 * size → cs.take ((n + m) * size) = cs0.take (n * size) ++ news → sym P ops w0 u0 true rest ((S.unpub pubs).own d ⟨E, cs⟩ (n + m) c1) u K)
  (hw : Wants ops o S := by exact zwc xv) (hd : o.dst = some d := by kernel_rfl) (hop : o.op = .call { callee := .builtin .append, args := #[s, x], argTypes := #[T, T] } := by rfl) (hf : (Nat.blt d S.n && ((S.var d).isNone || pubs.contains d) && pubs.contains t && Nat.blt t S.n) = true := by kernel_rfl)
  (hs : evO S s = some (.slc t 0 n cap) := by rfl) (hv : S.var t = some ⟨E, cs0⟩ := by rfl) (hx : evO S x = some (.v (.slice (some ⟨b, off, none⟩) m c)) := by rfl) : sym P ops w0 u0 true ((o, p) :: rest) S u K := by
 simp only [Bool.and_eq_true, Bool.or_eq_true, Option.isNone_iff_eq_none, List.contains_iff_mem] at hf
 refine .inr (.inr (.inl ⟨.inl rfl, fun B a w u' he hrep => ⟨hw B a hrep.regs, ?_⟩⟩))
 have htn : t < S.n := Nat.le_of_ble_eq_true hf.2
 obtain ⟨v1, v2, v3⟩ := hrep.var t _ hv
 have v3 := v3.1 htn
 obtain ⟨g, c1, cs, w', hrun, hgv, k1, k2, k3, k4, k5, k6⟩ := run_app (P := P) (u0 := u0) (w := w) (v := .slice (some ⟨B t, 0, none⟩) n cap) (n := n) (xs := cs0.take (n * size)) (ad := ⟨b, off, none⟩) (c := c) hT hi hzs hsz
  ⟨by rw [List.length_take, hcl]; exact Nat.min_eq_left (Nat.mul_le_mul_right _ hn), .inr ⟨B t, cap, cs0.toArray, rfl, v3, v1, hn, hcap, by simpa using hcl, by simp⟩⟩ hl (fun j v hv => by rw [addr_add]; exact hrep.dat.ext.cell (he.cell (hnews j v hv))) h1 hm h63 hbytes (by rw [← hrep.dat.size]; exact hrep.grow.size) o.type
 unfold Oper.wp execOp
 simp only [hop, resolve, invoke, builtin, Sem.run_bind, Sem.run_pure, Result.andThen_ok, List.map_toArray, List.map_cons, List.map_nil, ev_of hrep.regs hs, ev_of hrep.regs hx, SV.conc, hrun]
 have hr2 := hrep.grown hno (row := some (B t)) (fun b h => by injection h with h; exact ⟨t, hf.1.2, htn, _, hv, h⟩) k5 (d := d) (V := ⟨E, cs.toList⟩) (g := g) (n := n + m) (c := c1) (Nat.le_of_ble_eq_true hf.1.1.1) hf.1.1.2 (by simpa using hgv) k6
 have hsz2 : u'.heap.size ≤ w'.heap.size := by rw [hrep.dat.size]; exact k5.size
 show ∃ S' B' u'' u2, Rep w0 u0 S' B' (a.put o.dst _) w' u'' ∧ _
 rw [hd]
 exact ⟨_, _, _, u, hr2, fun _ => (hide_grow hsz2).ext, fun _ => Ext.refl _, he.trans (hide_grow hsz2).ext, k c1 cs.toList k1 k2 k3 k4⟩
theorem makes {T E : TypeId} {x y : Operand} {z : Value} {size bytes : Nat} {k1 k2 : IntKind} (n : Nat) (hT : P.underlying T = some (.slice E)) (hi : (P.info? E).map (fun i => (i.zero, i.size, i.bytes)) = some (some z, size, bytes)) (hb : bytes * n ≤ 281474976710656) (h63 : n ≤ maxLen) (hop : o.op = .makeSlice T x y)
  (hx : evO S x = some (.v (.int k1 n))) (hy : evO S y = some (.v (.int k2 n))) (hr : RegOK S B a) : (execOp a.eval o).run P w = .ok (.value (.slice (some ⟨w.heap.size, 0, none⟩) n n)) (w.alloc (.cells (madeCells z.cells (n * size)) E)) := by
 obtain ⟨inf, hi1, hz, hs, hby⟩ := info_parts hi
 have h63' : (n : Int) ≤ 9223372036854775807 := by unfold maxLen at h63; omega
 have hb' : (inf.bytes : Int) * (n : Int) ≤ 281474976710656 := by
  have h : ((inf.bytes * n : Nat) : Int) ≤ 281474976710656 := by rw [hby]; omega
  rwa [Int.natCast_mul] at h
 have hrun := run_make (P := P) w T E inf z hT hi1 hz k1 k2 n n xq (Int.le_refl _) hb' h63'
 have e1 : (execOp a.eval o).run P w = (do pure (Next.value (← Instr.makeSlice T (a.eval x) (a.eval y))) : Sem Next).run P w := by unfold execOp; rw [hop]
 rw [e1, ev_of hr hx, ev_of hr hy]
 rw [hs] at hrun
 exact run_val (by simpa [SV.conc] using hrun)
theorem zyv (d : Tmp) {T : TypeId} {r t : Tmp} {ix : Operand} {off n c sz off' : Nat} {kk : IntKind} {i : Int} (hT : SlIs P T sz) (h0 : 0 ≤ i) (h1 : i < n) (ho : off + i.toNat * sz = off') (k : sym P ops w0 u0 seq rest (S.set d (.adr t off')) u K) (hw : Wants ops o S := by exact zwc xv) (hd : o.dst = some d := by kernel_rfl) (hop : o.op = .indexAddr T (.tmp r) ix := by rfl) (hf : freeB S d = true := by kernel_rfl)
  (hx : S.reg r = some (.slc t off n c) := by rfl) (hi : evO S ix = some (.v (.int kk i)) := by rfl) : sym P ops w0 u0 seq ((o, p) :: rest) S u K := by
 subst ho
 have hl : r ∈ o.looksAt ops := List.mem_append_left _ (List.mem_filterMap.2 ⟨.tmp r, by rw [hop]; simp [Op.operands], rfl⟩)
 refine .inl ⟨by rw [hop]; exact (by decide : (0 : Nat) ≠ 2), .set (.adr t (off + i.toNat * sz)), ⟨zxu hd hf, .inl ⟨(fun s hs => ⟨r, hl, _, hx, hs⟩), fun B a w u' hr he hdt => ⟨hw B a hr, ?_⟩⟩⟩, ?_⟩
 ·have e1 : (execOp a.eval o).run P w = (do pure (Next.value (← Instr.indexAt T (a.eval (.tmp r)) (a.eval ix))) : Sem Next).run P w := by unfold execOp; rw [hop]
  rw [e1, hr.eval hx, ev_of hr hi]
  exact run_val (run_index hT h0 h1)
 ·show sym P ops w0 u0 seq rest (S.put o.dst (some _)) u K
  rw [hd]; exact k
theorem zyu {T : TypeId} {r s : Tmp} {z : Operand} {off : Nat} {V : Vr} (cs' : List Value) {v : Value} {agg : Bool} {n : Nat} (hT : TyIs P T agg n) (hle : off + n ≤ V.cs.length) (hV : setL V.cs off v.cells.toList = cs') (k : sym P ops w0 u0 seq rest (S.setVar s ⟨V.ty, cs'⟩) u K) (hw : Wants ops o S := by exact zwc xv) (hd : o.dst = none := by kernel_rfl) (hop : o.op = .store T (.tmp r) z := by rfl) (hr : S.reg r = some (.adr s off) := by rfl) (hv : S.var s = some V := by rfl) (hz : evO S z = some (.v v) := by rfl)
  (hn : v.cells.size = n := by kernel_rfl) (hone : v.cells.toList.all Value.oneCell' = true := by kernel_rfl) (hnl : (p.all fun r' => match S.reg r' with | some (.adr t _) => !Nat.beq t s | _ => true) = true := by kernel_rfl) : sym P ops w0 u0 seq ((o, p) :: rest) S u K := by
 subst hV
 refine .inr (.inr (.inr (.inl ⟨s, _, ⟨T, r, z, off, V, v, agg, n, hop, hd, hr, hv, fun B a hreg => ?_, hT, hn, hone, hle, rfl, hw, fun r' hr' t off' ht => ?_⟩, k⟩)))
 ·cases z with
  | tmp t => exact hreg.eval hz
  | const x => injection hz with hz; injection hz
  | global g => injection hz with hz; injection hz
  | func f => injection hz with hz; injection hz
 ·have := List.all_eq_true.1 hnl r' hr'
  simp only [ht, Bool.not_eq_true'] at this
  rintro rfl
  rw [Nat.beq_refl] at this; cases this
theorem Rep.pub (h : Rep w0 u0 S B a w u) {r t : Tmp} {off n c : Nat} {V : Vr} {pubs : List Tmp} (hno : NoAt S pubs) (ht : t ∈ pubs) (hall : ∀ s ∈ pubs, ∀ V', S.var s = some V' → s = t) (hr : S.reg r = some (.slc t off n c)) (hv : S.var t = some V) (htn : t < S.n) :
  Rep w0 u0 ((S.unpub pubs).set r (.v (.slice (some ⟨B t, off, none⟩) n c))) B a w (pubW u w [B t]) := by
 refine ⟨⟨fun s x hx => ?_, h.regs.size⟩, ⟨fun s x t' hx ht' => ?_⟩, h.defers, fun s V' hV => ?_, fun s s' V1 V2 h1 h2 e => ?_, pubW_dat h.dat, h.base, pubW_grow h.grow (fun b hb => ?_), h.bel⟩
 ·by_cases e : s = r
  ·subst e
   simp only [St.set, zyz] at hx
   injection hx with hx
   subst hx
   exact h.regs.reg s (.slc t off n c) hr
  ·simp only [St.set, upd_ne _ _ e] at hx
   exact h.regs.reg s x (zwb hx).1
 ·by_cases e : s = r
  ·subst e
   simp only [St.set, zyz] at hx
   injection hx with hx
   subst hx; cases ht'
  ·simp only [St.set, upd_ne _ _ e] at hx
   obtain ⟨k1, k2⟩ := zwb hx
   obtain ⟨V', hV'⟩ := h.wf.reg s x t' k1 ht'
   exact ⟨V', by show (S.unpub pubs).var t' = _; rw [unpub_var (fun hm => k2 (hno s x t' k1 ht' hm))]; exact hV'⟩
 ·obtain ⟨k1, k2⟩ := zxk hV
  obtain ⟨g1, g2, g3⟩ := h.var s V' k1
  refine ⟨g1, ?_, g3⟩
  rw [pubW_out]
  ·exact g2
  ·intro hm
   simp at hm
   exact k2 (h.inj s t V' V k1 hv hm ▸ ht)
 ·exact h.inj s s' V1 V2 (zxk h1).1 (zxk h2).1 e
 ·simp at hb; subst hb; exact (h.var t V hv).2.2.1 htn
theorem zyo {c0 : Code} {Q : MP} {r t : Tmp} {off n c : Nat} {V : Vr} (pubs : List Tmp) (hno : NoAt S pubs) (hall : (pubs.all fun s => Nat.beq s t || (S.var s).isNone) = true) (hr : S.reg r = some (.slc t off n c)) (hv : S.var t = some V) (ht : pubs.contains t = true)
  (k : ∀ b u1, Ext u u1 → u0.heap.size ≤ b → u1.heap[b]? = some (.cells V.cs.toArray V.ty (0, 0)) → SW P w0 u0 c0 ((S.unpub pubs).set r (.v (.slice (some ⟨b, off, none⟩) n c))) u1 Q) (hlt : Nat.blt t S.n = true := by kernel_rfl) : SW P w0 u0 c0 S u Q := by
 intro B a w u' e hrep
 have hm := List.contains_iff_mem.1 ht
 obtain ⟨g1, g2, g3⟩ := hrep.var t V hv
 have hx : Ext u' (pubW u' w [B t]) := pubW_ext hrep.dat
 have hrep2 := hrep.pub hno hm (fun s hs V' hV' => by
  have := List.all_eq_true.1 hall s hs
  simp only [Bool.or_eq_true, Option.isNone_iff_eq_none] at this
  rcases this with h | h
  ·exact Nat.eq_of_beq_eq_true h
  ·rw [hV'] at h; cases h) hr hv (Nat.le_of_ble_eq_true hlt)
 exact k (B t) (pubW u' w [B t]) (e.trans hx) (g3.1 (Nat.le_of_ble_eq_true hlt)) (by rw [pubW_in (by simp) (zyx g2) hrep.dat.size]; exact g1) B a w _ (Ext.refl _) hrep2
def hideB (u : World) (b : Nat) : World := { u with heap := u.heap.setIfInBounds b hidO }
theorem hideB_size (u : World) (b : Nat) : (hideB u b).heap.size = u.heap.size := by simp [hideB]
theorem hideB_ne {b k : Nat} (h : k ≠ b) : (hideB u b).heap[k]? = u.heap[k]? := by simp only [hideB]; rw [Array.getElem?_setIfInBounds_ne (Ne.symm h)]
theorem hideB_eq {b : Nat} (h : b < u.heap.size) : (hideB u b).heap[b]? = some hidO := by simp [hideB, h]
structure ExtB (b : Nat) (u u' : World) : Prop where
 size : u.heap.size ≤ u'.heap.size
 vis : ∀ (k : Nat) (o : Obj), k ≠ b → u.heap[k]? = some o → o ≠ hidO → u'.heap[k]? = some o
theorem ExtB.old {b : Nat} {v : World} (h : ExtB b u u') (e : Ext v u) (hb : v.heap.size ≤ b) : Ext v u' :=
 ⟨Nat.le_trans e.size h.size, fun k o hk hh => h.vis k o (fun e => by have := zyx hk; omega) (e.vis k o hk hh) hh⟩
theorem sw_adopt {c0 : Code} {Q : MP} {r k : Tmp} {n c b : Nat} {cs : List Value} {ty : TypeId} (hr : S.reg r = some (.v (.slice (some ⟨b, 0, none⟩) n c))) (hb : u.heap[b]? = some (.cells cs.toArray ty (0, 0))) (hb0 : u0.heap.size ≤ b) (hk : S.var k = none)
  (kk : ∀ u1, ExtB b u u1 → SW P w0 u0 c0 ⟨S.n, upd S.reg r (some (.slc k 0 n c)), upd S.var k (some ⟨ty, cs⟩)⟩ u1 Q) (hkn : Nat.blt k S.n = true := by kernel_rfl) : SW P w0 u0 c0 S u Q := by
 intro B a w u' e hrep
 have hbu : u'.heap[b]? = some (.cells cs.toArray ty (0, 0)) := e.cells hb
 have hbw : w.heap[b]? = some (.cells cs.toArray ty (0, 0)) := hrep.dat.ext.cells hbu
 have hlt := zyx hbu
 have hno : ∀ s x, S.reg s = some x → x.at? ≠ some k := fun s x hx hc => by
  obtain ⟨V, hV⟩ := hrep.wf.reg s x k hx hc; rw [hk] at hV; cases hV
 have hBt : ∀ t V, S.var t = some V → B t ≠ b := fun t V hV hc => by
  have := (hrep.var t V hV).2.1
  rw [hc, hbu] at this
  injection this with this
  unfold hidO at this; cases this
 have hex : ExtB b u (hideB u' b) := ⟨by rw [hideB_size]; exact e.size, fun k' o hk' ho hh => by rw [hideB_ne hk']; exact e.vis k' o ho hh⟩
 refine kk (hideB u' b) hex (setB B k b) a w _ (Ext.refl _) ⟨⟨fun s x hx => ?_, hrep.regs.size⟩, ⟨fun s x t hx ht => ?_⟩, hrep.defers, fun t V hV => ?_, fun t t' V1 V2 h1 h2 he => ?_, ⟨by rw [hideB_size]; exact hrep.dat.size, fun b' o hb' hh => ?_⟩, hrep.base, ⟨by rw [hideB_size]; exact hrep.grow.size, fun b' hb' hf' => ?_⟩, hrep.bel⟩
 ·by_cases e1 : s = r
  ·subst e1
   simp only [zyz] at hx
   injection hx with hx
   subst hx
   have := hrep.regs.reg s _ hr
   simpa [SV.conc, setB] using this
  ·simp only [upd_ne _ _ e1] at hx
   rw [conc_setB (hno s x hx)]
   exact hrep.regs.reg s x hx
 ·show ∃ V, upd S.var k (some ⟨ty, cs⟩) t = some V
  by_cases e2 : t = k
  ·subst e2; exact ⟨_, zyz _ _ _⟩
  ·rw [upd_ne _ _ e2]
   by_cases e1 : s = r
   ·subst e1
    simp only [zyz] at hx
    injection hx with hx
    subst hx
    injection ht with ht; exact absurd ht.symm e2
   ·simp only [upd_ne _ _ e1] at hx
    exact hrep.wf.reg s x t hx ht
 ·by_cases e2 : t = k
  ·subst e2
   simp only [zyz] at hV
   injection hV with hV
   subst hV
   rw [show setB B t b t = b by simp [setB]]
   exact ⟨hbw, hideB_eq hlt, .mk0 (Nat.le_of_ble_eq_true hkn) hb0⟩
  ·simp only [upd_ne _ _ e2] at hV
   obtain ⟨g1, g2, g3⟩ := hrep.var t V hV
   rw [show setB B k b t = B t by simp [setB, e2]]
   exact ⟨g1, by rw [hideB_ne (hBt t V hV)]; exact g2, g3⟩
 ·by_cases e1 : t = k
  ·by_cases e2 : t' = k
   ·rw [e1, e2]
   ·simp only [upd_ne _ _ e2] at h2
    simp [setB, e1, e2] at he
    exact absurd he.symm (hBt t' V2 h2)
  ·simp only [upd_ne _ _ e1] at h1
   by_cases e2 : t' = k
   ·simp [setB, e1, e2] at he
    exact absurd he (hBt t V1 h1)
   ·simp only [upd_ne _ _ e2] at h2
    simp [setB, e1, e2] at he
    exact hrep.inj t t' V1 V2 h1 h2 he
 ·by_cases e1 : b' = b
  ·subst e1
   rw [hideB_eq hlt] at hb'; injection hb' with hb'; exact absurd hb'.symm hh
  ·rw [hideB_ne e1] at hb'; exact hrep.dat.vis b' o hb' hh
 ·rw [hideB_ne xq]; exact hrep.grow.old b' hb' hf'
theorem Rep.lentBack (h : Rep w0 u0 S B a w u) {t : Tmp} {V V' : Vr} (hv : S.var t = some V) (hd : Dat u' w') (hb : Bel ⟨w, some (0, B t), []⟩ w') (hg : Grow u u') (hw : w'.heap[B t]? = some (.cells V'.cs.toArray V'.ty (0, 0))) {d : Option Tmp} (hfd : ∀ s, d = some s → s < S.n) (v : Value) :
  Rep w0 u0 ((S.setVar t V').put d (some (.v v))) B (a.put d v) w' u' := by
 obtain ⟨v1, v2, v3⟩ := h.var t V hv
 have hwf : (S.setVar t V').Wf := ⟨fun r x s hx hs => by
  obtain ⟨V1, hV1⟩ := h.wf.reg r x s hx hs
  by_cases e : s = t
  ·subst e; exact ⟨V', zyz _ _ _⟩
  ·exact ⟨V1, by show upd S.var t (some V') s = _; rw [upd_ne _ _ e]; exact hV1⟩⟩
 have key : ∀ s V1, (S.setVar t V').var s = some V1 → ∃ V2, S.var s = some V2 := fun s V1 hV => by
  by_cases e : s = t
  ·exact ⟨V, by rw [e]; exact hv⟩
  ·simp only [St.setVar, upd_ne _ _ e] at hV; exact ⟨V1, hV⟩
 have hbs := h.bel
 refine ⟨regOK_put (S := S.setVar t V') ⟨h.regs.reg, h.regs.size⟩ hfd (fun z e => by injection e with e; rw [← e]; rfl), wf_put hwf (fun z t e ht => by injection e with e; rw [← e] at ht; cases ht), by rw [put_defers]; exact h.defers, ?_, ?_, hd, h.base, h.grow.trans hg, ?_⟩
 ·rw [put_var, put_n]
  intro s V1 hV1
  by_cases e : s = t
  ·subst e
   simp only [St.setVar, zyz] at hV1
   injection hV1 with hV1
   subst hV1
   exact ⟨hw, by rw [hg.old _ (zyx v2)]; exact v2, v3⟩
  ·simp only [St.setVar, upd_ne _ _ e] at hV1
   obtain ⟨g1, g2, g3⟩ := h.var s V1 hV1
   refine ⟨?_, by rw [hg.old _ (zyx g2)]; exact g2, g3⟩
   rw [hb.block _ (zyx g1) (fun q hq => ?_) (by simp)]
   ·exact g1
   ·injection hq with hq; injection hq with _ hq
    exact e (h.inj s t V1 V hV1 hv hq.symm)
 ·rw [put_var]
  intro s s' V1 V2 h1 h2 e
  obtain ⟨X, hX⟩ := key s V1 h1
  obtain ⟨Y, hY⟩ := key s' V2 h2
  exact h.inj s s' X Y hX hY e
 ·refine ⟨hb.os.trans hbs.os, hb.tape.trans hbs.tape, hb.output.trans hbs.output, Nat.le_trans hbs.size hb.size, fun k hk hl hf => ?_⟩
  rw [hb.block k (Nat.lt_of_lt_of_le hk hbs.size) (fun q hq => ?_) (by simp)]
  ·exact hbs.block k hk hl hf
  ·injection hq with hq; injection hq with _ hq
   subst hq
   rcases Nat.lt_or_ge t S.n with hs3 | hs3
   ·have h3 := v3.1 hs3
    rw [h.base] at h3
    omega
   ·exact hl _ (v3.2 hs3)
theorem sy_lend (d : Tmp) (f : FuncId) {t len cap : Nat} {V : Vr} (args : List Value) {Φ : Vr → World → Prop} (hv : S.var t = some V)
  (kc : ∀ g w u1, Ext u u1 → Dat u1 w → w.heap[g]? = some (.cells V.cs.toArray V.ty (0, 0)) → u1.heap[g]? = some hidO → Calls P f (Value.slice (some ⟨g, 0, none⟩) len cap :: args).toArray w (PostL u1 w g Φ))
  (k : ∀ V' u1, Ext u u1 → Φ V' u1 → sym P ops w0 u0 true rest ((S.setVar t V').set d (.v (.tuple #[]))) u1 K)
  (hw : Wants ops o S := by exact zwc xv) (hd : o.dst = some d := by kernel_rfl) (hf : (freeB S d && knownB S o) = true := by kernel_rfl) (hk : opK o.op ≠ 2 := by decide)
  (hrun : ∀ B w, (execOp (rho S B) o).run P w = .ok (.enter f (Value.slice (some ⟨B t, 0, none⟩) len cap :: args).toArray) w := by intro _ _; kernel_rfl) : sym P ops w0 u0 true ((o, p) :: rest) S u K := by
 simp only [Bool.and_eq_true] at hf
 refine .inr (.inr (.inl ⟨.inl rfl, fun B a w u' he hrep => ⟨hw B a hrep.regs, ?_⟩⟩))
 obtain ⟨v1, v2, v3⟩ := hrep.var t V hv
 unfold Oper.wp
 rw [exec_rho hrep.regs hf.2 hk, hrun B w]
 simp only [Oper.upon]
 refine Calls.mono (kc (B t) w u' he hrep.dat v1 v2) ?_
 rintro e w' ⟨u2, V', rfl, k1, k2, k3, k4, k5⟩
 have hr2 := hrep.lentBack hv k1 k2 k3 k4 (d := o.dst) (fun s hs => (zxu hd hf.1 s hs).1) (.tuple #[])
 refine ⟨_, B, u2, u2, hr2, fun _ => k3.ext, fun _ => he.trans k3.ext, Ext.refl _, ?_⟩
 have := k V' u2 (he.trans k3.ext) k5
 rw [hd]; exact this
end
theorem eqI {k : IntKind} {x y : Int} (h : x = y) : SV.v (.int k x) = SV.v (.int k y) := by rw [h]
def rl0 : RL := ⟨false, ⟨none, 0, 0⟩, ⟨none, 0, 0⟩⟩
section
variable {u u' w w' : World} {L M : List RL} {r : RL} {l m : List Rat} {q : Rat} {K K' n i c b off : Nat} {x y : Sl}
theorem take_snoc {t : List Rat} (h : i < t.length) : t.take i ++ [t.getD i 0] = t.take (i + 1) := by
 rw [List.take_succ_eq_append_getElem h]; simp [h]
theorem cells_at {cs : Array Value} {t : TypeId} (h : u.heap[b]? = some (.cells cs t (0, 0))) (j : Nat) : u.cell? ⟨b, j, none⟩ = cs[j]? := by simp [World.cell?, h]
theorem lit_news {cs : List Value} {t : TypeId} (h : u.heap[b]? = some (.cells cs.toArray t (0, 0))) : ∀ (j : Nat) (v : Value), cs[j]? = some v → u.cell? ⟨b, 0 + j, none⟩ = some v := fun j v hv => by
 rw [Nat.zero_add, cells_at h]; simpa using hv
end
namespace Nt
theorem ediv_uniq {z y q r : Int} (hy : y ≠ 0) (h : z = y * q + r) (h0 : 0 ≤ r) (h1 : r < (y.natAbs : Int)) : z / y = q ∧ z % y = r := by
 rcases Int.lt_or_le y 0 with hn | hn
 ·exact (Int.ediv_emod_unique' hn).2 ⟨by omega, h0, by omega⟩
 ·exact (Int.ediv_emod_unique xq).2 ⟨by omega, h0, by omega⟩
theorem mk_div (a : Int) (b : Nat) : (a : Rat) / ((b : Int) : Rat) = mkRat a b := by rw [Rat.mkRat_eq_div]; rfl
theorem cmpQ_lt (x y : Rat) : decide (cmpQ x y < 0) = decide (x < y) := by
 unfold cmpQ
 rw [decide_eq_decide]
 split
 ·simp [*]
 ·split <;> simp [*]
def lo (x y : Rat) : Rat := if y < x then y else x
def hi (x y : Rat) : Rat := if x < y then y else x
end Nt
section
variable {u u' w w' : World} {x y : Sl} {i j : IL} {r r' : RL} {N M K L : Nat} {z z' : Int} {q q' : Rat}
theorem IntN.sg (h : IntN u i z K) : z = Nt.sg i.s z.natAbs := by
 rw [h.1]; unfold Nt.sg
 by_cases hz : z < 0
 ·simp [hz]; omega
 ·simp [hz]; omega
theorem RatN.num (h : RatN u r q K) : IntN u ⟨r.s, r.m⟩ q.num K := h.1
theorem RatN.den (h : RatN u r q K) : NatN u r.d q.den K := h.2
end
@[reducible] def IV (a b : RL) : Value := .agg #[.bool a.s, .slice a.m.a a.m.n a.m.c, .slice a.d.a a.d.n a.d.c, .bool b.s, .slice b.m.a b.m.n b.m.c, .slice b.d.a b.d.n b.d.c]
namespace Nt
theorem cmpQ_gt (x y : Rat) : decide ((0 : Int) < cmpQ x y) = decide (y < x) := by
 unfold cmpQ
 rw [decide_eq_decide]
 split
 ·constructor
  ·intro h; simp at h
  ·intro h; grind
 ·split
  ·constructor
   ·intro h; simp at h
   ·intro h; grind
  ·constructor
   ·intro h; grind
   ·intro h; simp
theorem sgQ_gt (x : Rat) : decide ((0 : Int) < sgQ x) = decide (0 < x) := cmpQ_gt x 0
theorem sgQ_lt (x : Rat) : decide (sgQ x < (0 : Int)) = decide (x < 0) := cmpQ_lt x 0
theorem ends_gt {x y : Rat} (h : decide ((0 : Int) < cmpQ x y) = true) : lo x y = y ∧ hi x y = x := by
 rw [cmpQ_gt] at h
 have h := of_decide_eq_true h
 unfold lo hi
 exact ⟨if_pos h, if_neg (by grind)⟩
theorem ends_le {x y : Rat} (h : decide ((0 : Int) < cmpQ x y) = false) : lo x y = x ∧ hi x y = y := by
 rw [cmpQ_gt] at h
 have h := of_decide_eq_false h
 unfold lo hi
 refine ⟨if_neg h, ?_⟩
 split
 ·rfl
 ·grind
theorem lesser_lt {x y : Rat} (h : decide (cmpQ y x < (0 : Int)) = true) : lo x y = y := by
 rw [cmpQ_lt] at h
 exact if_pos (of_decide_eq_true h)
theorem lesser_ge {x y : Rat} (h : decide (cmpQ y x < (0 : Int)) = false) : lo x y = x := by
 rw [cmpQ_lt] at h
 exact if_neg (of_decide_eq_false h)
theorem greater_gt {x y : Rat} (h : decide ((0 : Int) < cmpQ y x) = true) : hi x y = y := by
 rw [cmpQ_gt] at h
 exact if_pos (of_decide_eq_true h)
theorem greater_le {x y : Rat} (h : decide ((0 : Int) < cmpQ y x) = false) : hi x y = x := by
 rw [cmpQ_gt] at h
 exact if_neg (of_decide_eq_false h)
theorem lo_of_le {x y : Rat} (h : x ≤ y) : lo x y = x ∧ hi x y = y := by unfold lo hi; grind
def sgI (a b : Rat) : Int := if 0 < lo a b then 1 else if hi a b < 0 then -1 else 0
def lo4 (a b c d : Rat) : Rat := lo (lo (lo a b) c) d
def hi4 (a b c d : Rat) : Rat := hi (hi (hi a b) c) d
end Nt
section
variable {u u' w w' : World} {x y : Sl} {i j : IL} {r r' : RL} {N M K L : Nat} {z z' : Int} {q q' : Rat}
theorem k_cloneN (d : Dat u w) (h : NatN u x N K) (hK : K ≤ 500000000) : Calls Tryz.prog 217 #[x.v] w (Post u w fun v u' => ∃ y : Sl, v = y.v ∧ NatN u' y N K) := by
 obtain ⟨h1, h2, h3⟩ := h
 refine (CloneU_any _ _ _ _ _ (h2.ext d.ext) xq).mono fun e w' ⟨A', c', he, f, g, hb⟩ => ?_
 have hs : u.heap.size ≤ w'.heap.size := by rw [d.size]; exact hb.size
 exact ⟨_, over u w', he, over_dat d hb, hb, over_grow hs, ⟨A', x.n, c'⟩, rfl, h1, f.over (fun hp => by obtain ⟨a, e, k, _⟩ := g hp; exact ⟨a, e, by rw [d.size]; exact k⟩) hs, h3⟩
theorem own_rat {m e : Sl} (h : RatN u r q K) (h1 : NatN u' m q.num.natAbs K) (h2 : NatN u' e q.den K) : RatN u' ⟨r.s, m, e⟩ q K := ⟨⟨h.1.1, h1⟩, h2⟩
end
end Go.Proofs.YtbolmkfphieogaaGreat
namespace Go.Proofs.YtbolmkfphieogaaGreat
set_option linter.unusedVariables false
namespace Nt
def trimQ : List Rat → List Rat
 | [] => []
 | a :: l => if trimQ l = [] ∧ a = 0 then [] else a :: trimQ l
def co (l : List Rat) (i : Nat) : Rat := l.getD i 0
theorem co_nil (i : Nat) : co [] i = 0 := by simp [co]
theorem co_zero (a : Rat) (l : List Rat) : co (a :: l) 0 = a := rfl
theorem zxr (a : Rat) (l : List Rat) (i : Nat) : co (a :: l) (i + 1) = co l i := by simp [co]
theorem co_ge {l : List Rat} {i : Nat} (h : l.length ≤ i) : co l i = 0 := by simp [co, List.getElem?_eq_none h]
theorem trim_co (l : List Rat) (i : Nat) : co (trimQ l) i = co l i := by
 induction l generalizing i with
 | nil => rfl
 | cons a l ih =>
  unfold trimQ
  split
  ·rename_i h
   rw [co_nil]
   cases i with
   | zero => rw [co_zero, h.2]
   | succ i => rw [zxr, ← ih, h.1, co_nil]
  ·cases i with
   | zero => rfl
   | succ i => rw [zxr, zxr, ih]
def Nrm (l : List Rat) : Prop := trimQ l = l
theorem zxv {l : List Rat} : trimQ l = [] ↔ ∀ i, co l i = 0 := by
 induction l with
 | nil => simp [trimQ, co]
 | cons a l ih =>
  unfold trimQ
  split
  ·rename_i h
   simp
   intro i
   cases i with
   | zero => exact h.2
   | succ i => rw [zxr]; exact ih.1 h.1 i
  ·rename_i h
   simp
   apply Classical.byContradiction
   intro hc
   apply h
   have hc : ∀ i, co (a :: l) i = 0 := fun i => Classical.byContradiction fun k => hc ⟨i, k⟩
   exact ⟨ih.2 fun i => by rw [← zxr a]; exact hc (i + 1), hc 0⟩
theorem trim_ext {l m : List Rat} (h : ∀ i, co l i = co m i) : trimQ l = trimQ m := by
 induction l generalizing m with
 | nil =>
  have : trimQ m = [] := zxv.2 fun i => by rw [← h i, co_nil]
  rw [this]; rfl
 | cons a l ih =>
  cases m with
  | nil =>
   have : trimQ (a :: l) = [] := zxv.2 fun i => by rw [h i, co_nil]
   rw [this]; rfl
  | cons b m =>
   have e0 : a = b := h 0
   have e1 : trimQ l = trimQ m := ih fun i => by rw [← zxr a, ← zxr b]; exact h (i + 1)
   unfold trimQ
   rw [e0, e1]
theorem trim_trim (l : List Rat) : trimQ (trimQ l) = trimQ l := trim_ext fun i => trim_co l i
theorem trim_nrm (l : List Rat) : Nrm (trimQ l) := trim_trim l
theorem co_map (f : Rat → Rat) (hf : f 0 = 0) (l : List Rat) (i : Nat) : co (l.map f) i = f (co l i) := by
 simp only [co, List.getD_eq_getElem?_getD, List.getElem?_map]
 cases l[i]? <;> simp [hf]
theorem co_range (n : Nat) (f : Nat → Rat) (i : Nat) : co ((List.range n).map f) i = if i < n then f i else 0 := by
 simp only [co, List.getD_eq_getElem?_getD, List.getElem?_map]
 by_cases h : i < n
 ·simp [h]
 ·simp [h]
def addQ (l m : List Rat) : List Rat := (List.range (max l.length m.length)).map fun i => co l i + co m i
@[simp] theorem addQ_len (l m : List Rat) : (addQ l m).length = max l.length m.length := by simp [addQ]
theorem addQ_co (l m : List Rat) (i : Nat) : co (addQ l m) i = co l i + co m i := by
 unfold addQ
 rw [co_range]
 split
 ·rfl
 ·rw [co_ge (l := l) xq, co_ge (l := m) xq]; exact (Rat.add_zero 0).symm
def negQ (l : List Rat) : List Rat := l.map fun x => -x
@[simp] theorem negQ_len (l : List Rat) : (negQ l).length = l.length := by simp [negQ]
theorem negQ_co (l : List Rat) (i : Nat) : co (negQ l) i = -co l i := co_map _ (by simp) l i
def derQ (l : List Rat) : List Rat := (List.range (l.length - 1)).map fun i => co l (i + 1) * (((i + 1 : Nat) : Int) : Rat)
@[simp] theorem derQ_len (l : List Rat) : (derQ l).length = l.length - 1 := by simp [derQ]
end Nt
section
open Go.RowKit
variable {u : World} {x : Sl} {l : List Rat} {K : Nat}
end
end Go.Proofs.YtbolmkfphieogaaGreat
namespace Go.Proofs.YtbolmkfphieogaaGreat
set_option linter.unusedVariables false
namespace Nt
def cmn (x y : Rat) : Rat := if x = 0 then absQ y else if y = 0 then x else absQ (x / (((x / y).num : Int) : Rat))
def msr (l : List Rat) : Rat := l.foldl cmn 0
end Nt
end Go.Proofs.YtbolmkfphieogaaGreat
namespace Go.Proofs.YtbolmkfphieogaaGreat
set_option linter.unusedVariables false
namespace Nt
def mulQ : List Rat → List Rat → List Rat
 | [], m => []
 | a :: l, m => addQ (m.map (a * ·)) (0 :: mulQ l m)
def sh (f : Nat → Rat) (k : Nat) : Rat := if k = 0 then 0 else f (k - 1)
theorem co_cons0 (l : List Rat) (k : Nat) : co (0 :: l) k = sh (co l) k := by
 cases k with
 | zero => rfl
 | succ k => rw [zxr]; simp [sh]
theorem zxb (a : Rat) (l m : List Rat) (k : Nat) : co (mulQ (a :: l) m) k = a * co m k + sh (co (mulQ l m)) k := by
 show co (addQ (m.map (a * ·)) (0 :: mulQ l m)) k = _
 rw [addQ_co, co_map _ (by simp), co_cons0]
theorem mulQ_nil (m : List Rat) (k : Nat) : co (mulQ [] m) k = 0 := rfl
def inn (R : List Rat) (i : Nat) (x : Rat) (B : List Rat) : Nat → List Rat
 | 0 => R
 | j + 1 => (inn R i x B j).set (i + j) (co (inn R i x B j) (i + j) + x * co B j)
def outQ (A B : List Rat) (N : Nat) : Nat → List Rat
 | 0 => List.replicate N 0
 | i + 1 => inn (outQ A B N i) i (co A i) B B.length
@[simp] theorem inn_len (R : List Rat) (i : Nat) (x : Rat) (B : List Rat) (j : Nat) : (inn R i x B j).length = R.length := by
 induction j with
 | zero => rfl
 | succ j ih => simp [inn, ih]
@[simp] theorem outQ_len (A B : List Rat) (N i : Nat) : (outQ A B N i).length = N := by
 induction i with
 | zero => simp [outQ]
 | succ i ih => simp [outQ, ih]
theorem mulQ_zero {l : List Rat} (h : ∀ i, co l i = 0) (m : List Rat) (k : Nat) : co (mulQ l m) k = 0 := by
 induction l generalizing k with
 | nil => rfl
 | cons a l ih =>
  have ha : a = 0 := h 0
  have hl : ∀ i, co l i = 0 := fun i => by rw [← zxr a]; exact h (i + 1)
  rw [zxb, ha]
  unfold sh
  split
  ·grind
  ·rw [ih hl]; grind
theorem zwe {l l' m m' : List Rat} (h : ∀ i, co l i = co l' i) (h2 : ∀ i, co m i = co m' i) (k : Nat) : co (mulQ l m) k = co (mulQ l' m') k := by
 induction l generalizing l' k with
 | nil =>
  rw [mulQ_nil, mulQ_zero (fun i => by rw [← h i, co_nil])]
 | cons a l ih =>
  cases l' with
  | nil => rw [mulQ_nil, mulQ_zero (fun i => by rw [h i, co_nil])]
  | cons b l' =>
   have hab : a = b := h 0
   have hl : ∀ i, co l i = co l' i := fun i => by rw [← zxr a, ← zxr b]; exact h (i + 1)
   rw [zxb, zxb, hab, h2]
   unfold sh
   split
   ·rfl
   ·rw [ih hl]
theorem mulQ_scale_l (c : Rat) (l m : List Rat) (k : Nat) : co (mulQ (l.map (c * ·)) m) k = c * co (mulQ l m) k := by
 induction l generalizing k with
 | nil => rw [List.map_nil, mulQ_nil]; grind
 | cons a l ih =>
  rw [List.map_cons, zxb, zxb]
  unfold sh
  split
  ·grind
  ·rw [ih]; grind
theorem mulQ_scale_r (c : Rat) (l m : List Rat) (k : Nat) : co (mulQ l (m.map (c * ·))) k = c * co (mulQ l m) k := by
 induction l generalizing k with
 | nil => rw [mulQ_nil, mulQ_nil]; grind
 | cons a l ih =>
  rw [zxb, zxb, co_map _ (by simp)]
  unfold sh
  split
  ·grind
  ·rw [ih]; grind
theorem mulQ_zero_r {m : List Rat} (h : ∀ i, co m i = 0) (l : List Rat) (k : Nat) : co (mulQ l m) k = 0 := by
 have := mulQ_scale_r 0 l m k
 rw [Rat.zero_mul] at this
 rw [← this]
 exact zwe (fun _ => rfl) (fun i => by rw [co_map _ (by simp), h]; simp) k
def kk (W t : Nat) : Nat := t * W + 2
end Nt
end Go.Proofs.YtbolmkfphieogaaGreat
namespace Go.Proofs.YtbolmkfphieogaaGreat
set_option linter.unusedVariables false
namespace Nt
def mulN (n : Nat) (l : List Rat) (q : Rat) : List Rat := (List.range l.length).map fun i => if i < n then co l i * q else co l i
@[simp] theorem mulN_len (n : Nat) (l : List Rat) (q : Rat) : (mulN n l q).length = l.length := by simp [mulN]
def subN (a : Nat) (c : Rat) (q t : List Rat) : Nat → List Rat
 | 0 => t
 | j + 1 => (subN a c q t j).set (a + j) ((subN a c q t j).getD (a + j) 0 - c * q.getD j 0)
@[simp] theorem subN_len (a : Nat) (c : Rat) (q t : List Rat) (j : Nat) : (subN a c q t j).length = t.length := by
 induction j with
 | zero => rfl
 | succ j ih => simp [subN, ih]
structure DivR (p q s t : List Rat) (f : Rat) : Prop where
 f0 : f ≠ 0
 eq : ∀ i, f * co p i = co (mulQ s q) i + co t i
 lt : t.length < q.length
 tl : t.length ≤ p.length
 sl : s.length ≤ p.length + 1
end Nt
section
open Go.RowKit
variable {u u' : World} {L : List RL} {X : List Value} {r : RL} {i : Nat} {l : List Rat} {K C : Nat}
end
end Go.Proofs.YtbolmkfphieogaaGreat
namespace Go.Proofs.YtbolmkfphieogaaGreat
set_option linter.unusedVariables false
namespace Nt
structure Pol where
 l : List Rat
 h : Nrm l
namespace Pol
def mk' (l : List Rat) : Pol := ⟨trimQ l, trim_nrm l⟩
def c (p : Pol) (i : Nat) : Rat := co p.l i
theorem mk_c (l : List Rat) (i : Nat) : (mk' l).c i = co l i := trim_co l i
theorem ext {p q : Pol} (h : ∀ i, p.c i = q.c i) : p = q := by
 obtain ⟨l, hl⟩ := p
 obtain ⟨m, hm⟩ := q
 have e : trimQ l = trimQ m := trim_ext h
 unfold Nrm at hl hm
 rw [hl, hm] at e
 subst e; rfl
theorem mk_l (p : Pol) : mk' p.l = p := ext fun i => mk_c _ i
def C (a : Rat) : Pol := mk' [a]
instance (n : Nat) : OfNat Pol n := ⟨C (n : Rat)⟩
instance : Add Pol := ⟨fun p q => mk' (addQ p.l q.l)⟩
instance : Mul Pol := ⟨fun p q => mk' (mulQ p.l q.l)⟩
instance : Neg Pol := ⟨fun p => mk' (negQ p.l)⟩
instance : Sub Pol := ⟨fun p q => p + -q⟩
def X : Pol := mk' [0, 1]
theorem c_add (p q : Pol) (i : Nat) : (p + q).c i = p.c i + q.c i := (mk_c _ i).trans (addQ_co _ _ i)
theorem c_neg (p : Pol) (i : Nat) : (-p).c i = -p.c i := (mk_c _ i).trans (negQ_co _ i)
theorem c_C (a : Rat) (i : Nat) : (C a).c i = if i = 0 then a else 0 := by
 unfold C
 rw [mk_c]
 cases i with
 | zero => rfl
 | succ i => rw [zxr, co_nil, if_neg xq]
theorem c_zero (i : Nat) : (0 : Pol).c i = 0 := by
 have h : (0 : Pol).c i = if i = 0 then (0 : Rat) else 0 := c_C 0 i
 rw [h]; split <;> rfl
theorem zero_l : (0 : Pol).l = [] := zxv.2 fun i => by
 have := c_zero i
 unfold c at this
 show co [((0 : Nat) : Rat)] i = 0
 rw [← trim_co]; exact this
theorem c_mul (p q : Pol) (i : Nat) : (p * q).c i = co (mulQ p.l q.l) i := mk_c _ i
theorem mk_cons (a : Rat) (l : List Rat) (i : Nat) : (mk' (a :: l)).c i = if i = 0 then a else (mk' l).c (i - 1) := by
 rw [mk_c]
 cases i with
 | zero => rfl
 | succ i => rw [zxr, if_neg xq, mk_c]; rfl
theorem mulQ_consR (l : List Rat) (b : Rat) (m : List Rat) (k : Nat) : co (mulQ l (b :: m)) k = b * co l k + sh (co (mulQ l m)) k := by
 induction l generalizing k with
 | nil =>
  rw [mulQ_nil, co_nil]
  have e : sh (co (mulQ [] m)) k = 0 := by unfold sh; split <;> rfl
  rw [e]; grind
 | cons a l ih =>
  rw [zxb]
  cases k with
  | zero => unfold sh; rw [if_pos rfl, if_pos rfl, co_zero, co_zero]; grind
  | succ k =>
   have e1 : sh (co (mulQ l (b :: m))) (k + 1) = b * co l k + sh (co (mulQ l m)) k := by
    unfold sh; rw [if_neg xq, Nat.add_sub_cancel]; exact ih k
   have e2 : sh (co (mulQ (a :: l) m)) (k + 1) = a * co m k + sh (co (mulQ l m)) k := by
    unfold sh; rw [if_neg xq, Nat.add_sub_cancel]; exact zxb a l m k
   rw [e1, e2, zxr, zxr]; grind
theorem mulQ_comm (l m : List Rat) (k : Nat) : co (mulQ l m) k = co (mulQ m l) k := by
 induction l generalizing k with
 | nil =>
  rw [mulQ_nil]
  exact (mulQ_zero_r (m := []) (fun i => co_nil i) m k).symm
 | cons a l ih =>
  rw [zxb, mulQ_consR]
  have e : sh (co (mulQ l m)) k = sh (co (mulQ m l)) k := by unfold sh; split; rfl; exact ih _
  rw [e]
theorem mulQ_add (l l' m : List Rat) (k : Nat) : co (mulQ (addQ l l') m) k = co (mulQ l m) k + co (mulQ l' m) k := by
 induction m generalizing k with
 | nil =>
  rw [mulQ_zero_r (fun i => co_nil i), mulQ_zero_r (fun i => co_nil i), mulQ_zero_r (fun i => co_nil i)]; exact (Rat.add_zero 0).symm
 | cons b m ih =>
  rw [mulQ_consR, mulQ_consR, mulQ_consR, addQ_co]
  cases k with
  | zero => unfold sh; rw [if_pos rfl, if_pos rfl, if_pos rfl]; grind
  | succ k =>
   have e : ∀ x : List Rat, sh (co x) (k + 1) = co x k := fun x => by unfold sh; rw [if_neg xq, Nat.add_sub_cancel]
   rw [e, e, e, ih k]; grind
theorem mulQ_assoc (l m n : List Rat) (k : Nat) : co (mulQ (mulQ l m) n) k = co (mulQ l (mulQ m n)) k := by
 induction l generalizing k with
 | nil => rfl
 | cons a l ih =>
  show co (mulQ (addQ (m.map (a * ·)) (0 :: mulQ l m)) n) k = _
  rw [mulQ_add, mulQ_scale_l, zxb, zxb]
  cases k with
  | zero => unfold sh; rw [if_pos rfl, if_pos rfl]; grind
  | succ k =>
   have e : ∀ x : List Rat, sh (co x) (k + 1) = co x k := fun x => by unfold sh; rw [if_neg xq, Nat.add_sub_cancel]
   rw [e, e, ih k]; grind
theorem mulQ_one (m : List Rat) (k : Nat) : co (mulQ [1] m) k = co m k := by
 rw [zxb]
 have e : sh (co (mulQ [] m)) k = 0 := by unfold sh; split <;> rfl
 rw [e]; grind
theorem mul_comm (p q : Pol) : p * q = q * p := ext fun i => by rw [c_mul, c_mul, mulQ_comm]
theorem mul_assoc (p q r : Pol) : p * q * r = p * (q * r) := ext fun i => by
 rw [c_mul, c_mul]
 show co (mulQ (trimQ (mulQ p.l q.l)) r.l) i = co (mulQ p.l (trimQ (mulQ q.l r.l))) i
 rw [zwe (l' := mulQ p.l q.l) (m' := r.l) (trim_co _) (fun _ => rfl), zwe (l' := p.l) (m' := mulQ q.l r.l) (fun _ => rfl) (trim_co _)]
 exact mulQ_assoc _ _ _ i
theorem one_mul (p : Pol) : 1 * p = p := ext fun i => by
 rw [c_mul]
 show co (mulQ (trimQ [((1 : Nat) : Rat)]) p.l) i = _
 rw [zwe (l' := [((1 : Nat) : Rat)]) (m' := p.l) (trim_co _) (fun _ => rfl)]
 exact mulQ_one _ i
theorem right_distrib (p q r : Pol) : (p + q) * r = p * r + q * r := ext fun i => by
 rw [c_mul, c_add, c_mul, c_mul]
 show co (mulQ (trimQ (addQ p.l q.l)) r.l) i = _
 rw [zwe (l' := addQ p.l q.l) (m' := r.l) (trim_co _) (fun _ => rfl)]
 exact mulQ_add _ _ _ i
theorem add_comm (p q : Pol) : p + q = q + p := ext fun i => by rw [c_add, c_add]; grind
theorem add_assoc (p q r : Pol) : p + q + r = p + (q + r) := ext fun i => by rw [c_add, c_add, c_add, c_add]; grind
theorem add_zero (p : Pol) : p + 0 = p := ext fun i => by rw [c_add, c_zero]; grind
theorem neg_add_cancel (p : Pol) : -p + p = 0 := ext fun i => by rw [c_add, c_neg, c_zero]; grind
theorem zero_mul (p : Pol) : 0 * p = 0 := ext fun i => by rw [c_mul, zero_l, mulQ_nil, c_zero]
theorem left_distrib (p q r : Pol) : p * (q + r) = p * q + p * r := by rw [mul_comm, right_distrib, mul_comm q, mul_comm r]
theorem mul_zero (p : Pol) : p * 0 = 0 := by rw [mul_comm, zero_mul]
theorem mul_one (p : Pol) : p * 1 = p := by rw [mul_comm, one_mul]
instance : NatCast Pol := ⟨fun n => C (n : Rat)⟩
instance : IntCast Pol := ⟨fun n => C (n : Rat)⟩
def npow (p : Pol) : Nat → Pol
 | 0 => 1
 | n + 1 => npow p n * p
instance : HPow Pol Nat Pol := ⟨npow⟩
instance : SMul Nat Pol := ⟨fun n p => C (n : Rat) * p⟩
instance : SMul Int Pol := ⟨fun n p => C (n : Rat) * p⟩
theorem C_add (a b : Rat) : C (a + b) = C a + C b := ext fun i => by
 rw [c_add, c_C, c_C, c_C]; split <;> grind
theorem C_neg (a : Rat) : C (-a) = -C a := ext fun i => by
 rw [c_neg, c_C, c_C]; split <;> grind
instance : Lean.Grind.CommRing Pol where
 add_zero := add_zero
 add_comm := add_comm
 add_assoc := add_assoc
 mul_assoc := mul_assoc
 mul_one := mul_one
 one_mul := one_mul
 left_distrib := left_distrib
 right_distrib := right_distrib
 zero_mul := zero_mul
 mul_zero := mul_zero
 mul_comm := mul_comm
 pow_zero := fun p => rfl
 pow_succ := fun p n => rfl
 neg_add_cancel := neg_add_cancel
 sub_eq_add_neg := fun p q => rfl
 ofNat_succ := fun n => by
  show C ((n + 1 : Nat) : Rat) = C (n : Rat) + C 1
  rw [← C_add]; congr 1
  exact Rat.natCast_add n 1
 ofNat_eq_natCast := fun n => rfl
 intCast_ofNat := fun n => rfl
 intCast_neg := fun n => by
  show C ((-n : Int) : Rat) = -C (n : Rat)
  rw [← C_neg, Rat.intCast_neg]
 nsmul_eq_natCast_mul := fun n p => rfl
 zsmul_natCast_eq_nsmul := fun n p => rfl
 neg_zsmul := fun n p => by
  show C ((-n : Int) : Rat) * p = -(C (n : Rat) * p)
  rw [Rat.intCast_neg, C_neg]
  refine ext fun i => ?_
  rw [c_neg, c_mul, c_mul]
  show co (mulQ (trimQ (negQ (C (n : Rat)).l)) p.l) i = _
  rw [zwe (l' := negQ (C (n : Rat)).l) (m' := p.l) (trim_co _) (fun _ => rfl)]
  have e : negQ (C (n : Rat)).l = (C (n : Rat)).l.map ((-1) * ·) := by unfold negQ; congr 1; funext x; grind
  rw [e, mulQ_scale_l]; grind
example (p q : Pol) : (p + q) * (p - q) = p * p - q * q := by grind
example (p q : Pol) : (p + q) ^ 2 = p ^ 2 + 2 * p * q + q ^ 2 := by grind
end Pol
end Nt
end Go.Proofs.YtbolmkfphieogaaGreat
namespace Go.Proofs.YtbolmkfphieogaaGreat
set_option linter.unusedVariables false
namespace Nt
namespace Pol
def len (p : Pol) : Nat := p.l.length
theorem c_ge {p : Pol} {i : Nat} (h : p.len ≤ i) : p.c i = 0 := co_ge h
theorem zero_of_len {p : Pol} (h : p.len = 0) : p = 0 := ext fun i => by rw [c_zero, c_ge xq]
instance : Dvd Pol := ⟨fun q p => ∃ u, p = q * u⟩
theorem mk_cons' (a : Rat) (l : List Rat) : mk' (a :: l) = C a + X * mk' l := ext fun i => by
 have hX : ∀ p : Pol, (X * p).c i = if i = 0 then 0 else p.c (i - 1) := fun p => by
  rw [c_mul]
  show co (mulQ (trimQ [0, 1]) p.l) i = _
  rw [zwe (l' := [0, 1]) (m' := p.l) (trim_co _) (fun _ => rfl), zxb]
  unfold sh
  split
  ·grind
  ·rw [mulQ_one]; show 0 * _ + p.c (i - 1) = _; grind
 rw [c_add, hX, mk_cons, c_C]
 split <;> grind
theorem ind {P : Pol → Prop} (h0 : P 0) (h1 : ∀ a p, P p → P (C a + X * p)) (p : Pol) : P p := by
 rw [← mk_l p]
 generalize p.l = l
 induction l with
 | nil => exact (zero_of_len (p := mk' []) rfl) ▸ h0
 | cons a l ih => rw [mk_cons']; exact h1 a _ ih
def D (p : Pol) : Pol := mk' (derQ p.l)
def evL : List Rat → Rat → Rat
 | [], x => 0
 | a :: l, x => a + x * evL l x
def ev (p : Pol) (x : Rat) : Rat := evL p.l x
end Pol
end Nt
end Go.Proofs.YtbolmkfphieogaaGreat
namespace Go.Proofs.YtbolmkfphieogaaGreat
set_option linter.unusedVariables false
namespace Nt
def prim (l : List Rat) : List Rat := (trimQ l).map (· / msr (trimQ l))
@[simp] theorem prim_len (l : List Rat) : (prim l).length = (trimQ l).length := by simp [prim]
end Nt
end Go.Proofs.YtbolmkfphieogaaGreat
namespace Go.Proofs.YtbolmkfphieogaaGreat
open Go.RowKit Go.ChangeShapes Go.WideShapes
set_option linter.unusedVariables false
namespace Nt
section
variable {l m : List Rat} {D E A B K : Nat} {q : Rat}
end
end Nt
section
variable {u : World} {x : Sl} {l : List Rat} {D A K : Nat}
end
section
variable {H : Type} {enc : TypeId × Value → H} {w : World} {base : Nat} {spare : Nat → Bool} {held : Bool} {fuel : Nat} {r0 : Reach} {b0 : Nat} {v : Value} {d : DataW H} {p : List MemPlace}
set_option maxRecDepth 100000 in
theorem ar_intsv (hv : Value.okWide Tryz.prog w r0 b0 30 v) (h : DataW.Trod enc Tryz.prog w base spare held 30 v d p) : ∃ (s : Sl) (l : List Int), v = s.v ∧ SlR .i64 w s.a s.n s.c l ∧ ∀ z ∈ l, -9223372036854775808 ≤ z ∧ z ≤ 9223372036854775807 := by
 obtain ⟨a, n, c, rfl⟩ := okWide_slice Tryz.underlying30 hv
 obtain ⟨fuel, hf⟩ := h
 obtain ⟨s, l, h1, h2, h3⟩ := ar_slr (k := .i64) (e := 3) xv xv xv hf
 have h1 : [Value.slice a n c] = [s.v] := h1
 exact ⟨s, l, (List.cons.inj h1).1, h2, fun z hz => wf_i64 (h3 z hz)⟩
end
end Go.Proofs.YtbolmkfphieogaaGreat
namespace Go.Proofs.YtbolmkfphieogaaGreat
open Go.RowKit Go.ChangeShapes Go.WideShapes
set_option linter.unusedVariables false
section
variable {H : Type} {enc : TypeId × Value → H} {w : World} {base : Nat} {spare : Nat → Bool} {held : Bool} {r0 : Reach} {b0 : Nat} {v : Value} {d : DataW H} {p : List MemPlace}
theorem four_of {α : Type} {l : List α} (h : l.length = 4) : ∃ a b c d, l = [a, b, c, d] := by
 match l, h with
 | [a, b, c, d], _ => exact ⟨a, b, c, d, rfl⟩
set_option maxRecDepth 100000 in
theorem ar_ints4 (hv : Value.okWide Tryz.prog w r0 b0 63 v) (h : DataW.Trod enc Tryz.prog w base spare held 63 v d p) : ∃ (s1 s2 s3 s4 : Sl) (l1 l2 l3 l4 : List Int), v = .agg #[s1.v, s2.v, s3.v, s4.v] ∧ SlR .i64 w s1.a s1.n s1.c l1 ∧ (∀ z ∈ l1, -9223372036854775808 ≤ z ∧ z ≤ 9223372036854775807) ∧ SlR .i64 w s2.a s2.n s2.c l2 ∧ (∀ z ∈ l2, -9223372036854775808 ≤ z ∧ z ≤ 9223372036854775807) ∧ SlR .i64 w s3.a s3.n s3.c l3 ∧ (∀ z ∈ l3, -9223372036854775808 ≤ z ∧ z ≤ 9223372036854775807) ∧ SlR .i64 w s4.a s4.n s4.c l4 ∧ (∀ z ∈ l4, -9223372036854775808 ≤ z ∧ z ≤ 9223372036854775807) := by
 obtain ⟨cs, rfl, hsz⟩ := okWide_struct Tryz.underlying63 hv
 obtain ⟨fuel, hf⟩ := h
 obtain ⟨xs, n, _, _, hlen, hxs, hf⟩ := DataW.trod_struct Tryz.underlying63 hf
 have hlen : cs.toList.length = 4 := hlen.trans xv
 obtain ⟨c0, c1, c2, c3, hcs⟩ := four_of hlen
 obtain ⟨y0, y1, y2, y3, rfl⟩ := four_of (hxs.trans rfl)
 have e : Tryz.prog.cellsOf 30 = 1 := by kernel_rfl
 change ∀ _, _ at hf
 have h0 : DataW.trod enc Tryz.prog w base spare held n 30 [c0] = some y0 := by have h9 := hf 0 _ rfl; rw [show ((Value.agg cs).cells).toList = [c0, c1, c2, c3] from hcs] at h9; simpa [e] using h9
 have h1 : DataW.trod enc Tryz.prog w base spare held n 30 [c1] = some y1 := by have h9 := hf 1 _ rfl; rw [show ((Value.agg cs).cells).toList = [c0, c1, c2, c3] from hcs] at h9; simpa [e] using h9
 have h2 : DataW.trod enc Tryz.prog w base spare held n 30 [c2] = some y2 := by have h9 := hf 2 _ rfl; rw [show ((Value.agg cs).cells).toList = [c0, c1, c2, c3] from hcs] at h9; simpa [e] using h9
 have h3 : DataW.trod enc Tryz.prog w base spare held n 30 [c3] = some y3 := by have h9 := hf 3 _ rfl; rw [show ((Value.agg cs).cells).toList = [c0, c1, c2, c3] from hcs] at h9; simpa [e] using h9
 obtain ⟨s1, l1, hs1, g1, f1⟩ := ar_slr (k := .i64) (e := 3) xv xv xv h0
 obtain ⟨s2, l2, hs2, g2, f2⟩ := ar_slr (k := .i64) (e := 3) xv xv xv h1
 obtain ⟨s3, l3, hs3, g3, f3⟩ := ar_slr (k := .i64) (e := 3) xv xv xv h2
 obtain ⟨s4, l4, hs4, g4, f4⟩ := ar_slr (k := .i64) (e := 3) xv xv xv h3
 have hs1 : c0 = s1.v := (List.cons.inj hs1).1
 have hs2 : c1 = s2.v := (List.cons.inj hs2).1
 have hs3 : c2 = s3.v := (List.cons.inj hs3).1
 have hs4 : c3 = s4.v := (List.cons.inj hs4).1
 subst hs1
 subst hs2
 subst hs3
 subst hs4
 refine ⟨s1, s2, s3, s4, l1, l2, l3, l4, ?_, g1, fun z hz => wf_i64 (f1 z hz), g2, fun z hz => wf_i64 (f2 z hz), g3, fun z hz => wf_i64 (f3 z hz), g4, fun z hz => wf_i64 (f4 z hz)⟩
 obtain ⟨cl⟩ := cs
 have hcs : cl = [s1.v, s2.v, s3.v, s4.v] := hcs
 rw [hcs]
end
end Go.Proofs.YtbolmkfphieogaaGreat
namespace Go.Proofs.YtbolmkfphieogaaGreat
open Go.RowKit
set_option linter.unusedVariables false
structure PL where
 o : Int
 g : Int
 h : Int
def PL.cs (p : PL) : List Value := [.int .i64 p.o, .int .i64 p.g, .int .i64 p.h]
@[reducible] def PL.v (p : PL) : Value := .agg #[.int .i64 p.o, .int .i64 p.g, .int .i64 p.h]
section
variable {u u' w w' : World} {L M : List PL} {p : PL} {n i c b off K : Nat} {x y : Sl}
theorem ints_data {cs : List Value} {t : TypeId} {l : List Int} (h : u.heap[b]? = some (.cells cs.toArray t (0, 0))) (hc : cs.take n = l.map (Value.int .i64)) (hl : cs.length = c) (hn : n ≤ c) (hm : c ≤ maxLen) : SlR .i64 u (some ⟨b, 0, none⟩) n c l := by
 have hlen : l.length = n := by have h9 := congrArg List.length hc; simp at h9; omega
 refine ⟨hlen, hn, hm, fun hp => ⟨b, 0, rfl, zyx h, fun i hi => ?_⟩⟩
 rw [Nat.zero_add, cells_at h]
 have h9 : (cs.take n)[i]? = (l.map (Value.int .i64))[i]? := by rw [hc]
 rw [List.getElem?_take_of_lt hi, List.getElem?_map, List.getElem?_eq_getElem (by omega : i < l.length)] at h9
 simp
 rw [h9, List.getElem?_eq_getElem (by omega : i < l.length)]
 rfl
end
section
variable {P : Program} {ops : Array Oper} {w0 : Base} {u0 : World} {S : St} {u u' w : World} {o : Oper} {p : List Tmp} {seq : Bool} {rest : List (Oper × List Tmp)} {K : St → World → Prop}
theorem sy_conv (d : Tmp) {src dst : TypeId} {x : Operand} {k0 k : IntKind} {n : Int} (v : Int) (hT : ∀ w, (convert src dst (.int k0 n)).run P w = .ok (.int k (k.wrap n)) w) (hv : k.wrap n = v) (kk : sym P ops w0 u0 seq rest (S.set d (.v (.int k v))) u K) (hw : Wants ops o S := by exact zwc xv) (hd : o.dst = some d := by kernel_rfl) (hop : o.op = .convert src dst x := by rfl) (hf : freeB S d = true := by kernel_rfl)
  (hx : evO S x = some (.v (.int k0 n)) := by rfl) : sym P ops w0 u0 seq ((o, p) :: rest) S u K := by
 subst hv
 refine .inl ⟨by rw [hop]; exact (by decide : (0 : Nat) ≠ 2), .set (.v (.int k (k.wrap n))), ⟨zxu hd hf, .inl ⟨(fun t ht => by cases ht), fun B a w u' hr he hdt => ⟨hw B a hr, ?_⟩⟩⟩, ?_⟩
 ·have e1 : (execOp a.eval o).run P w = (do pure (Next.value (← convert src dst (a.eval x))) : Sem Next).run P w := by unfold execOp; rw [hop]
  rw [e1, ev_eval hr hx]
  exact run_val (hT w)
 ·show sym P ops w0 u0 seq rest (S.put o.dst (some _)) u K
  rw [hd]; exact kk
end
section
variable {u u' : World} {A : Option Addr} {n c i : Nat} {l : List Int} {k : IntKind}
theorem ints_at (h : SlR k u A n c l) (hi : i < n) : ∃ b o, A = some ⟨b, o, none⟩ ∧ u.cell? ⟨b, o + i * 1, none⟩ = some (.int k (l.getD i 0)) := by
 obtain ⟨h1, h2, h3, h4⟩ := h
 obtain ⟨b, o, e, _, hc⟩ := h4 xq
 exact ⟨b, o, e, by rw [Nat.mul_one]; exact hc i hi⟩
theorem ints_bd {lo hi : Int} (h : ∀ z ∈ l, lo ≤ z ∧ z ≤ hi) (h0 : lo ≤ 0 ∧ 0 ≤ hi) (i : Nat) : lo ≤ l.getD i 0 ∧ l.getD i 0 ≤ hi := by
 rw [List.getD_eq_getElem?_getD]
 cases e : l[i]? with
 | none => exact h0
 | some z => exact h z (List.mem_of_getElem? e)
end
structure WL where
 b : Int
 f : Int
 r : Int
 o : Int
@[reducible] def WL.v (w : WL) : Value := .agg #[.int .i64 w.b, .int .i64 w.f, .int .i64 w.r, .int .i64 w.o]
def WL.cs (w : WL) : List Value := [.int .i64 w.b, .int .i64 w.f, .int .i64 w.r, .int .i64 w.o]
def WdOK (w : WL) : Prop := 4 ≤ w.b ∧ w.b ≤ 24 ∧ 0 ≤ w.f ∧ w.f < w.b ∧ 1 ≤ w.r ∧ w.r ≤ 3 ∧ 1 ≤ w.o ∧ w.o ≤ 2
namespace Nt
def p2i (n : Int) : Int := 2 ^ n.toNat
theorem zxl (n : Int) : 0 < p2i n := Int.pow_pos xz
theorem zwa {a b : Int} (h : a ≤ b) : p2i a ≤ p2i b := by
 unfold p2i
 have h1 : 2 ^ a.toNat ≤ 2 ^ b.toNat := Nat.pow_le_pow_right xz xq
 have h2 : ((2 ^ a.toNat : Nat) : Int) ≤ ((2 ^ b.toNat : Nat) : Int) := Int.ofNat_le.2 h1
 simpa using h2
theorem p2i_24 {n : Int} (h : n ≤ 24) : p2i n ≤ 16777216 := zwa (b := 24) h
end Nt
section
variable {P : Program} {w0 : Base} {u0 u w : World} {S : St} {ops : Array Oper} {o : Oper} {p : List Tmp} {seq : Bool} {rest : List (Oper × List Tmp)} {K : St → World → Prop}
theorem run_shl {T : TypeId} {k yk : IntKind} {n s : Int} {x y : Operand} (h0 : 0 ≤ s) (h1 : s ≤ k.bits) : (do eqGuard .shl T x y (.int k n) (.int yk s); binOp .shl T (.int k n) (.int yk s) : Sem Value).run P w = .ok (.int k (k.wrap (n * 2 ^ s.toNat))) w := by
 simp [eqGuard, binOp, shift_shl k yk n s h0 h1, go_sem]
theorem sy_shl (d : Tmp) {T T2 : TypeId} {x y : Operand} {k yk : IntKind} {n s : Int} (v : Int) (h0 : 0 ≤ s) (h1 : s ≤ k.bits) (hv : k.wrap (n * 2 ^ s.toNat) = v) (kk : sym P ops w0 u0 seq rest (S.set d (.v (.int k v))) u K) (hw : Wants ops o S := by exact zwc xv) (hd : o.dst = some d := by kernel_rfl) (hop : o.op = .binOp .shl T x y T2 := by rfl) (hf : freeB S d = true := by kernel_rfl)
  (hx : evO S x = some (.v (.int k n)) := by rfl) (hy : evO S y = some (.v (.int yk s)) := by rfl) : sym P ops w0 u0 seq ((o, p) :: rest) S u K := by
 subst hv
 refine .inl ⟨by rw [hop]; exact (by decide : (0 : Nat) ≠ 2), .set (.v (.int k (k.wrap (n * 2 ^ s.toNat)))), ⟨zxu hd hf, .inl ⟨(fun t ht => by cases ht), fun B a w u' hr he hdt => ⟨hw B a hr, ?_⟩⟩⟩, ?_⟩
 ·have e1 : (execOp a.eval o).run P w = (do pure (Next.value (← (do eqGuard .shl T x y (a.eval x) (a.eval y); binOp .shl T (a.eval x) (a.eval y)))) : Sem Next).run P w := by unfold execOp; rw [hop]
  rw [e1, ev_eval hr hx, ev_eval hr hy]
  exact run_val (run_shl h0 h1)
 ·show sym P ops w0 u0 seq rest (S.put o.dst (some _)) u K
  rw [hd]; exact kk
end
theorem shl_one {n : Int} (h0 : 0 ≤ n) (h1 : n ≤ 24) : IntKind.i64.wrap (1 * 2 ^ n.toNat) = Nt.p2i n := by
 have h2 := Nt.p2i_24 h1
 have h3 := Nt.zxl n
 rw [Int.one_mul]
 exact IntWalk.i64_in _ (by unfold Nt.p2i at *; omega)
theorem mod_pos9 (m : Int) (hm : 1 ≤ m) (n : Int) (h : decide (Int.tmod n m < 0) = false) : Int.tmod n m = n % m := by
 have h := of_decide_eq_false h
 rcases Int.lt_or_le n 0 with hn | hn
 ·have e := Int.tmod_add_mul_tdiv n m
  have h2 : -m < Int.tmod n m := Int.lt_tmod_of_pos n xq
  have h3 : Int.tmod n m ≤ 0 := by
   have h8 := Int.neg_tmod n m
   have h9 : Int.tmod (-n) m = (-n) % m := Int.tmod_eq_emod_of_nonneg xq
   have h10 := Int.emod_nonneg (-n) (show m ≠ 0 by omega)
   omega
  have h4 : Int.tmod n m = 0 := by omega
  rw [h4] at e ⊢
  have : m ∣ n := ⟨n.tdiv m, by omega⟩
  exact (Int.emod_eq_zero_of_dvd this).symm
 ·exact Int.tmod_eq_emod_of_nonneg hn
theorem mod_neg9 (m : Int) (hm : 1 ≤ m) (n : Int) (h : decide (Int.tmod n m < 0) = true) : Int.tmod n m + m = n % m := by
 have h := of_decide_eq_true h
 have e := Int.tmod_add_mul_tdiv n m
 have h2 : -m < Int.tmod n m := Int.lt_tmod_of_pos n xq
 have h5 : n = m * (n.tdiv m - 1) + (Int.tmod n m + m) := by rw [Int.mul_sub, Int.mul_one]; omega
 have := (Nt.ediv_uniq (z := n) (y := m) (q := n.tdiv m - 1) (r := Int.tmod n m + m) xq h5 xq xq).2
 exact this.symm
section
variable {P : Program} {ops : Array Oper} {w0 : Base} {u0 : World} {S : St} {u : World} {o : Oper} {p : List Tmp} {seq : Bool} {rest : List (Oper × List Tmp)} {K : St → World → Prop}
theorem run_shr {T : TypeId} {k yk : IntKind} {n s : Int} {x y : Operand} {w : World} (h0 : 0 ≤ s) (h1 : s ≤ k.bits) : (do eqGuard .shr T x y (.int k n) (.int yk s); binOp .shr T (.int k n) (.int yk s) : Sem Value).run P w = .ok (.int k (n / 2 ^ s.toNat)) w := by
 simp [eqGuard, binOp, shift_shr k yk n s h0 h1, go_sem]
theorem sy_shr (d : Tmp) {T T2 : TypeId} {x y : Operand} {k yk : IntKind} {n s : Int} (v : Int) (h0 : 0 ≤ s) (h1 : s ≤ k.bits) (hv : n / 2 ^ s.toNat = v) (kk : sym P ops w0 u0 seq rest (S.set d (.v (.int k v))) u K) (hw : Wants ops o S := by exact zwc xv) (hd : o.dst = some d := by kernel_rfl) (hop : o.op = .binOp .shr T x y T2 := by rfl) (hf : freeB S d = true := by kernel_rfl)
  (hx : evO S x = some (.v (.int k n)) := by rfl) (hy : evO S y = some (.v (.int yk s)) := by rfl) : sym P ops w0 u0 seq ((o, p) :: rest) S u K := by
 subst hv
 refine .inl ⟨by rw [hop]; exact (by decide : (0 : Nat) ≠ 2), .set (.v (.int k (n / 2 ^ s.toNat))), ⟨zxu hd hf, .inl ⟨(fun t ht => by cases ht), fun B a w u' hr he hdt => ⟨hw B a hr, ?_⟩⟩⟩, ?_⟩
 ·have e1 : (execOp a.eval o).run P w = (do pure (Next.value (← (do eqGuard .shr T x y (a.eval x) (a.eval y); binOp .shr T (a.eval x) (a.eval y)))) : Sem Next).run P w := by unfold execOp; rw [hop]
  rw [e1, ev_eval hr hx, ev_eval hr hy]
  exact run_val (run_shr h0 h1)
 ·show sym P ops w0 u0 seq rest (S.put o.dst (some _)) u K
  rw [hd]; exact kk
end
namespace Nt
theorem shl_one9 {n : Int} (h0 : 0 ≤ n) (h1 : n ≤ 62) : IntKind.i64.wrap (1 * 2 ^ n.toNat) = Nt.p2i n := by
 have h2 : Nt.p2i n ≤ 4611686018427387904 := Nt.zwa (b := 62) h1
 have h3 := Nt.zxl n
 rw [Int.one_mul]
 exact IntWalk.i64_in _ (by unfold Nt.p2i at *; omega)
theorem bits_mod (n : Int) (k : Nat) (hk : k ≤ 62) : bits .and .i64 n (2 ^ k - 1) = n % 2 ^ k := by
 have hp : 0 < 2 ^ k := Nat.two_pow_pos k
 have hle : 2 ^ k ≤ 2 ^ 62 := Nat.pow_le_pow_right xz hk
 have hm : (BitVec.ofInt 64 (2 ^ k - 1)).toNat = 2 ^ k - 1 := by
  have e : ((2 : Int) ^ k - 1) = ((2 ^ k - 1 : Nat) : Int) := by rw [Int.natCast_sub hp]; simp
  rw [e, BitVec.ofInt_natCast, BitVec.toNat_ofNat]
  exact Nat.mod_eq_of_lt xq
 have key : (BitVec.ofInt 64 n &&& BitVec.ofInt 64 (2 ^ k - 1)).toNat = (n % ((2 ^ 64 : Nat) : Int)).toNat % 2 ^ k := by
  rw [BitVec.toNat_and, BitVec.toNat_ofInt, hm, Nat.and_two_pow_sub_one_eq_mod]
 show IntKind.i64.wrap ((BitVec.ofInt 64 n &&& BitVec.ofInt 64 (2 ^ k - 1)).toNat : Nat) = n % 2 ^ k
 rw [key]
 have hd : ((2 ^ k : Nat) : Int) ∣ ((2 ^ 64 : Nat) : Int) := Int.natCast_dvd_natCast.2 (Nat.pow_dvd_pow 2 xq)
 have e1 : (((n % ((2 ^ 64 : Nat) : Int)).toNat % 2 ^ k : Nat) : Int) = n % 2 ^ k := by
  rw [Int.natCast_emod, Int.toNat_of_nonneg (Int.emod_nonneg _ xz), Int.emod_emod_of_dvd _ hd]; simp
 have hlt : (n % ((2 ^ 64 : Nat) : Int)).toNat % 2 ^ k < 2 ^ k := Nat.mod_lt _ hp
 rw [IntWalk.i64_in _ xq, e1]
theorem bits_p2 {n b : Int} (h0 : 0 ≤ b) (h1 : b ≤ 62) : bits .and .i64 n (p2i b - 1) = n % p2i b := bits_mod n b.toNat xq
theorem bits_1 (n : Int) : bits .and .i64 n 1 = n % 2 := bits_mod n 1 xz
def shiftW (v n r : Int) : Int := if n = 0 then v else if r = 2 then v / p2i n + v / p2i (n - 1) % 2 else if r = 3 ∧ v < 0 ∧ v % p2i n ≠ 0 then v / p2i n + 1 else v / p2i n
def wrapW (b v : Int) : Int := if p2i (b - 1) ≤ v % p2i b then v % p2i b - p2i b else v % p2i b
theorem div_bd {v p : Int} (hp : 0 < p) : -v.natAbs ≤ v / p ∧ v / p ≤ v.natAbs := by
 constructor
 ·rw [Int.le_ediv_iff_mul_le hp]
  have : (-(v.natAbs : Int)) * p ≤ (-(v.natAbs : Int)) * 1 := Int.mul_le_mul_of_nonpos_left xq xq
  omega
 ·by_cases h : 0 ≤ v
  ·have := Int.ediv_le_self p h; omega
  ·have := Int.ediv_neg_of_neg_of_pos (show v < 0 by omega) hp; omega
end Nt
section
variable {P : Program} {u0 u u' w w' : World} {S : St} {B : Tmp → Nat} {a : Act} {c : Code} {w0 : Base}
variable {ops : Array Oper} {o : Oper} {p : List Tmp} {rest : List (Oper × List Tmp)} {K : St → World → Prop}
end
section
variable {u u' : World} {L : List RL} {l : List Rat} {q : Rat} {r : RL} {K i b n c : Nat} {x : Sl}
end
section
variable {P : Program} {ops : Array Oper} {w0 : Base} {u0 : World} {S T : St} {B : Tmp → Nat} {a : Act} {w w' u u' : World} {o : Oper} {p : List Tmp} {seq : Bool} {rest : List (Oper × List Tmp)} {K : St → World → Prop}
theorem Rep.pubA (h : Rep w0 u0 S B a w u) {r t : Tmp} {V : Vr} {pubs : List Tmp} (hno : NoAt S pubs) (ht : t ∈ pubs) (hall : ∀ s ∈ pubs, ∀ V', S.var s = some V' → s = t) (hr : S.reg r = some (.adr t 0)) (hv : S.var t = some V) (htn : t < S.n) :
  Rep w0 u0 ((S.unpub pubs).set r (.v (.pointer (some ⟨B t, 0, none⟩)))) B a w (pubW u w [B t]) := by
 refine ⟨⟨fun s x hx => ?_, h.regs.size⟩, ⟨fun s x t' hx ht' => ?_⟩, h.defers, fun s V' hV => ?_, fun s s' V1 V2 h1 h2 e => ?_, pubW_dat h.dat, h.base, pubW_grow h.grow (fun b hb => ?_), h.bel⟩
 ·by_cases e : s = r
  ·subst e
   simp only [St.set, zyz] at hx
   injection hx with hx
   subst hx
   exact h.regs.reg s (.adr t 0) hr
  ·simp only [St.set, upd_ne _ _ e] at hx
   exact h.regs.reg s x (zwb hx).1
 ·by_cases e : s = r
  ·subst e
   simp only [St.set, zyz] at hx
   injection hx with hx
   subst hx; cases ht'
  ·simp only [St.set, upd_ne _ _ e] at hx
   obtain ⟨k1, k2⟩ := zwb hx
   obtain ⟨V', hV'⟩ := h.wf.reg s x t' k1 ht'
   exact ⟨V', by show (S.unpub pubs).var t' = _; rw [unpub_var (fun hm => k2 (hno s x t' k1 ht' hm))]; exact hV'⟩
 ·obtain ⟨k1, k2⟩ := zxk hV
  obtain ⟨g1, g2, g3⟩ := h.var s V' k1
  refine ⟨g1, ?_, g3⟩
  rw [pubW_out]
  ·exact g2
  ·intro hm
   simp at hm
   exact k2 (h.inj s t V' V k1 hv hm ▸ ht)
 ·exact h.inj s s' V1 V2 (zxk h1).1 (zxk h2).1 e
 ·simp at hb; subst hb; exact (h.var t V hv).2.2.1 htn
theorem sw_pubA {c0 : Code} {Q : MP} {r t : Tmp} {V : Vr} (pubs : List Tmp) (hno : NoAt S pubs) (hall : (pubs.all fun s => Nat.beq s t || (S.var s).isNone) = true) (hr : S.reg r = some (.adr t 0)) (hv : S.var t = some V) (ht : pubs.contains t = true)
  (k : ∀ b u1, Ext u u1 → u0.heap.size ≤ b → (∀ ob, u.heap[b]? = some ob → ob = hidO) → u1.heap[b]? = some (.cells V.cs.toArray V.ty (0, 0)) → SW P w0 u0 c0 ((S.unpub pubs).set r (.v (.pointer (some ⟨b, 0, none⟩)))) u1 Q) (hlt : Nat.blt t S.n = true := by kernel_rfl) : SW P w0 u0 c0 S u Q := by
 intro B a w u' e hrep
 have hm := List.contains_iff_mem.1 ht
 obtain ⟨g1, g2, g3⟩ := hrep.var t V hv
 have hx : Ext u' (pubW u' w [B t]) := pubW_ext hrep.dat
 have hrep2 := hrep.pubA hno hm (fun s hs V' hV' => by
  have := List.all_eq_true.1 hall s hs
  simp only [Bool.or_eq_true, Option.isNone_iff_eq_none] at this
  rcases this with h | h
  ·exact Nat.eq_of_beq_eq_true h
  ·rw [hV'] at h; cases h) hr hv (Nat.le_of_ble_eq_true hlt)
 refine k (B t) (pubW u' w [B t]) (e.trans hx) (g3.1 (Nat.le_of_ble_eq_true hlt)) (fun ob hob => ?_) (by rw [pubW_in (by simp) (zyx g2) hrep.dat.size]; exact g1) B a w _ (Ext.refl _) hrep2
 by_cases hh : ob = hidO
 ·exact hh
 ·have := e.vis _ ob hob hh
  rw [g2] at this; injection this with this; exact this.symm
theorem sy_fun (d : Tmp) {f : FuncId} {cs : List Operand} (vs : List Value) (k : sym P ops w0 u0 true rest (S.set d (.v (.func (.func f) #[] vs.toArray))) u K) (hw : Wants ops o S := by exact zwc xv) (hd : o.dst = some d := by kernel_rfl) (hop : o.op = .makeFunc (.func f) #[] cs.toArray := by rfl) (hf : freeB S d = true := by kernel_rfl)
  (hev : cs.map (evO S) = vs.map (fun v => some (.v v)) := by rfl) : sym P ops w0 u0 true ((o, p) :: rest) S u K := by
 refine .inr (.inr (.inl ⟨.inl rfl, fun B a w u' he hrep => ⟨hw B a hrep.regs, ?_⟩⟩))
 have hcs : cs.map a.eval = vs := by
  clear hop k
  induction cs generalizing vs with
  | nil => cases vs with
   | nil => rfl
   | cons v vs => cases hev
  | cons c cs ih => cases vs with
   | nil => cases hev
   | cons v vs =>
    simp only [List.map_cons, List.cons.injEq] at hev ⊢
    refine ⟨?_, ih vs hev.2⟩
    rw [ev_of hrep.regs hev.1]; rfl
 have hrun : (execOp a.eval o).run P w = .ok (.value (.func (.func f) #[] vs.toArray)) w := by
  unfold execOp
  simp only [hop]
  simp [Instr.makeFunc, Sem.run_pure, ← hcs]
 unfold Oper.wp
 rw [hrun]
 have hr2 := hrep.set (d := o.dst) (x := some (.v (.func (.func f) #[] vs.toArray))) (v := .func (.func f) #[] vs.toArray) (fun s hs => (zxu hd hf s hs).1) (fun z e => by injection e with e; rw [← e]; rfl) (fun z t e ht => by injection e with e; rw [← e] at ht; cases ht)
 show ∃ S' B' u'' u2, Rep w0 u0 S' B' (a.put o.dst _) w u'' ∧ _
 refine ⟨_, B, u', u, hr2, fun _ => Ext.refl _, fun _ => Ext.refl _, he, ?_⟩
 rw [hd]; exact k
def SL (P : Program) (w0 : Base) (u0 : World) (ops : Array Oper) (l : List Oper) (S : St) (u : World) (Q : MP) : Prop :=
 ∀ B a w u', Ext u u' → Rep w0 u0 S B a w u' → wpList P ops (fun e a' w' => ∃ S' B' u'', Rep w0 u0 S' B' a' w' u'' ∧ Q.f e S' u'') l a w
end
section
variable {u u' u1 : World} {L : List RL} {r : RL} {l : List Rat} {q : Rat} {K n b b6 : Nat} {cs : List Value} {t t6 : TypeId}
theorem var_cell1 {v : Value} (h : u.heap[b]? = some (.cells [v].toArray t (0, 0))) : u.cell? ⟨b, 0, none⟩ = some v := by rw [cells_at h]; rfl
end
section
variable {P : Program} {ops : Array Oper} {w0 : Base} {u0 : World} {S T : St} {B : Tmp → Nat} {a : Act} {w w' u u' u'' v : World} {o : Oper} {p : List Tmp} {seq : Bool} {rest : List (Oper × List Tmp)} {K : St → World → Prop} {F : List Nat} {b : Nat} {ob : Obj}
end
def sl0 : Sl := ⟨none, 0, 0⟩
structure TL where
 f : Int
 c : Int
def TL.cs (t : TL) : List Value := [.int .i64 t.f, .int .i64 t.c]
@[reducible] def TL.v (t : TL) : Value := .agg #[.int .i64 t.f, .int .i64 t.c]
def ics (l : List Int) : List Value := l.map (Value.int .i64)
section
variable {k lo lo' h b n c i : Nat} {ty t2 : TypeId} {u u' u'' v : World} {x y : Sl} {cs cs' : List Value}
theorem zwf (l : List Int) : (ics l).length = l.length := by unfold ics; simp
theorem ics_at {l : List Int} (h : i < l.length) : (ics l)[i]? = some (.int .i64 (l.getD i 0)) := by
 unfold ics
 rw [List.getElem?_map, List.getD_eq_getElem?_getD, List.getElem?_eq_getElem h]; rfl
theorem ics_set (l : List Int) (i : Nat) (z : Int) : (ics l).set i (.int .i64 z) = ics (l.set i z) := by unfold ics; rw [List.map_set]
end
section
variable {k lo lo' h h' b n c i : Nat} {ty t2 : TypeId} {u u' u'' v : World} {x y z : Sl} {cs cs' : List Value} {N : List (List TL)} {ts : List TL}
end
section
variable {P : Program} {ops : Array Oper} {w0 : Base} {u0 : World} {S T : St} {B : Tmp → Nat} {a : Act} {w w' u u' u'' v : World} {o : Oper} {p : List Tmp} {rest : List (Oper × List Tmp)} {K : St → World → Prop}
end
def Rows (k : Nat) (L : List (List Int)) : Prop := ∀ p ∈ L, p.length = k
def kcs (L : List (List Int)) : List Value := L.flatMap ics
def gi (L : List (List Int)) (i j : Nat) : Int := (L.getD i []).getD j 0
section
variable {u u' : World} {L M : List (List Int)} {p : List Int} {k n i j c b off : Nat} {x : Sl} {X : List Value} {a1 a2 a3 a4 a5 : Int}
theorem kcs_cons : kcs (p :: L) = ics p ++ kcs L := rfl
theorem kcs_app : kcs (L ++ M) = kcs L ++ kcs M := by simp [kcs]
theorem Rows.tail (h : Rows k (p :: L)) : Rows k L := fun q hq => h q (List.mem_cons_of_mem _ hq)
theorem Rows.head (h : Rows k (p :: L)) : p.length = k := h p (List.mem_cons_self ..)
theorem kcs_len (h : Rows k L) : (kcs L).length = L.length * k := by
 induction L with
 | nil => simp [kcs]
 | cons p L ih => rw [kcs_cons, List.length_append, ih h.tail, zwf, h.head, List.length_cons, Nat.succ_mul, Nat.add_comm]
theorem Rows.get (h : Rows k L) (hi : i < L.length) : (L.getD i []).length = k := by
 rw [List.getD_eq_getElem?_getD, List.getElem?_eq_getElem hi]
 exact h _ (List.getElem_mem hi)
theorem rows_cons (hp : p.length = k) (h : Rows k L) : Rows k (p :: L) := fun q hq => by
 rcases List.mem_cons.1 hq with rfl | hq
 ·exact hp
 ·exact h q hq
theorem kcs_drop (h : Rows k L) : (kcs L).drop (n * k) = kcs (L.drop n) := by
 induction n generalizing L with
 | zero => simp
 | succ n ih =>
  cases L with
  | nil => simp [kcs]
  | cons p L => rw [kcs_cons, show (n + 1) * k = (ics p).length + n * k by rw [zwf, h.head, Nat.succ_mul, Nat.add_comm], List.drop_append, Nat.add_sub_cancel_left, ih h.tail, List.drop_of_length_le xq]; simp
theorem kcs_get (h : Rows k L) (hi : i < L.length) : ((kcs L).drop (i * k)).take k = ics (L.getD i []) := by
 have hg := h.get hi
 rw [kcs_drop h, List.drop_eq_getElem_cons hi, kcs_cons]
 have e : L[i] = L.getD i [] := by rw [List.getD_eq_getElem?_getD, List.getElem?_eq_getElem hi]; rfl
 rw [e, List.take_append_of_le_length (by rw [zwf]; omega), List.take_of_length_le (by rw [zwf]; omega)]
theorem ics_one : ∀ v ∈ ics p, v.oneCell' = true := fun v hv => by
 unfold ics at hv
 obtain ⟨z, _, rfl⟩ := List.mem_map.1 hv; rfl
def IrV (k : Nat) (u : World) (x : Sl) (L : List (List Int)) : Prop :=
 Rows k L ∧ x.n = L.length ∧ x.n ≤ x.c ∧ x.c ≤ maxLen ∧ (0 < x.n → ∃ b o, x.a = some ⟨b, o, none⟩ ∧ b < u.heap.size ∧ ∀ j, j < L.length * k → u.cell? ⟨b, o + j, none⟩ = (kcs L)[j]?)
theorem IrV.ext (h : IrV k u x L) (e : Ext u u') : IrV k u' x L := by
 obtain ⟨h0, h1, h2, h3, h4⟩ := h
 refine ⟨h0, h1, h2, h3, fun hp => ?_⟩
 obtain ⟨b, o, g1, g2, g3⟩ := h4 hp
 refine ⟨b, o, g1, Nat.lt_of_lt_of_le g2 e.size, fun j hj => ?_⟩
 have hk := g3 j hj
 have hj' : j < (kcs L).length := by rw [kcs_len h0]; exact hj
 rw [List.getElem?_eq_getElem hj'] at hk ⊢
 exact e.cell hk
theorem IrV.rows (h : IrV k u x L) : Rows k L := h.1
theorem IrV.len (h : IrV k u x L) : x.n = L.length := h.2.1
theorem ir_at (h : IrV k u x L) (hi : i < L.length) : ∃ b o, x.a = some ⟨b, o, none⟩ ∧ b < u.heap.size ∧ ∀ j, j < (ics (L.getD i [])).length → u.cell? ⟨b, o + i * k + j, none⟩ = (ics (L.getD i []))[j]? := by
 obtain ⟨h0, h1, h2, h3, h4⟩ := h
 obtain ⟨b, o, g1, g2, g3⟩ := h4 xq
 refine ⟨b, o, g1, g2, fun j hj => ?_⟩
 rw [zwf, h0.get hi] at hj
 have : (i + 1) * k ≤ L.length * k := Nat.mul_le_mul_right _ hi
 rw [Nat.succ_mul] at this
 rw [Nat.add_assoc, g3 (i * k + j) xq, ← kcs_get h0 hi, List.getElem?_take_of_lt hj, List.getElem?_drop]
theorem ir_data {cs : List Value} {t : TypeId} (h : u.heap[b]? = some (.cells cs.toArray t (0, 0))) (hR : Rows k L) (hc : cs.take (n * k) = kcs L) (hn : n = L.length) (hl : cs.length = c * k) (hnc : n ≤ c) (hm : c ≤ maxLen) : IrV k u ⟨some ⟨b, 0, none⟩, n, c⟩ L := by
 refine ⟨hR, hn, hnc, hm, fun _ => ⟨b, 0, rfl, zyx h, fun j hj => ?_⟩⟩
 rw [Nat.zero_add, cells_at h, ← hc, List.getElem?_take_of_lt (by rw [hn]; exact hj)]; simp
end
section
variable {P : Program} {ops : Array Oper} {w0 : Base} {u0 : World} {S : St} {u : World} {o : Oper} {p : List Tmp} {seq : Bool} {rest : List (Oper × List Tmp)} {K : St → World → Prop}
end
namespace Nt
def shF (s : List Int) (sg : Int) (l : List Int) : List Int :=
 if s.getD 3 0 = -1 then (l.set (s.getD 0 0).toNat (l.getD (s.getD 1 0).toNat 0)).set (s.getD 1 0).toNat (l.getD (s.getD 0 0).toNat 0)
 else if s.getD 3 0 = -2 then l.set (s.getD 0 0).toNat (wrapW 32 (-(l.getD (s.getD 0 0).toNat 0)))
 else l.set (s.getD 0 0).toNat (wrapW 32 (l.getD (s.getD 0 0).toNat 0 + sg * shiftW (s.getD 2 0 * l.getD (s.getD 1 0).toNat 0) (s.getD 3 0) 2))
def shFs (S : List (List Int)) (l : List Int) : List Int := S.foldl (fun l s => shF s 1 l) l
def shBs (S : List (List Int)) (l : List Int) : List Int := S.foldr (fun s l => shF s (-1) l) l
def shOK (n : Int) (s : List Int) : Prop := 0 ≤ s.getD 0 0 ∧ s.getD 0 0 < n ∧ 0 ≤ s.getD 1 0 ∧ s.getD 1 0 < n ∧ -2 ≤ s.getD 3 0 ∧ s.getD 3 0 ≤ 20 ∧ (s.getD 0 0 = s.getD 1 0 ↔ s.getD 3 0 = -2) ∧ (s.getD 3 0 < 0 → s.getD 2 0 = 0) ∧ -2097152 ≤ s.getD 2 0 ∧ s.getD 2 0 ≤ 2097152
instance (n : Int) (s : List Int) : Decidable (shOK n s) := by unfold shOK; infer_instance
def W32 (l : List Int) : Prop := ∀ i, i < l.length → -2147483648 ≤ l.getD i 0 ∧ l.getD i 0 ≤ 2147483647
section
variable {l m : List Int} {s : List Int} {S : List (List Int)} {n : Int} {i j : Nat} {v c sg : Int}
theorem wrap32 (v : Int) : wrapW 32 v = (v + 2147483648) % 4294967296 - 2147483648 := by
 unfold wrapW
 have e1 : p2i (32 - 1) = 2147483648 := by decide
 have e2 : p2i 32 = 4294967296 := by decide
 rw [e1, e2]
 split <;> omega
theorem wrap32_bd (v : Int) : -2147483648 ≤ wrapW 32 v ∧ wrapW 32 v ≤ 2147483647 := by rw [wrap32]; omega
theorem wrap32_id (h : -2147483648 ≤ v ∧ v ≤ 2147483647) : wrapW 32 v = v := by rw [wrap32]; omega
theorem wrap32_undo (h : -2147483648 ≤ v ∧ v ≤ 2147483647) : wrapW 32 (wrapW 32 (v + c) - c) = v := by rw [wrap32, wrap32]; omega
theorem wrap32_neg (h : -2147483648 ≤ v ∧ v ≤ 2147483647) : wrapW 32 (-(wrapW 32 (-v))) = v := by rw [wrap32, wrap32]; omega
theorem getD_set_eq (h : i < l.length) : (l.set i v).getD i 0 = v := by simp [List.getD_eq_getElem?_getD, h]
theorem getD_set_ne2 (h : i ≠ j) : (l.set i v).getD j 0 = l.getD j 0 := by simp [List.getD_eq_getElem?_getD, h]
theorem set_self (l : List Int) (i : Nat) : l.set i (l.getD i 0) = l := by
 refine List.ext_getElem? fun k => ?_
 rw [List.getElem?_set]
 split
 ·rename_i e; subst e
  split
  ·rename_i h; simp [List.getD_eq_getElem?_getD, h]
  ·rename_i h; rw [List.getElem?_eq_none xq]
 ·rfl
theorem shF_len : (shF s sg l).length = l.length := by
 unfold shF
 split
 ·simp
 ·split <;> simp
theorem W32.set (h : W32 l) (hv : -2147483648 ≤ v ∧ v ≤ 2147483647) : W32 (l.set i v) := fun k hk => by
 rw [List.length_set] at hk
 by_cases e : i = k
 ·subst e; rw [getD_set_eq hk]; exact hv
 ·rw [getD_set_ne2 e]; exact h k hk
theorem W32.get (h : W32 l) (i : Nat) : -2147483648 ≤ l.getD i 0 ∧ l.getD i 0 ≤ 2147483647 := by
 rcases Nat.lt_or_ge i l.length with h1 | h1
 ·exact h i h1
 ·rw [List.getD_eq_getElem?_getD, List.getElem?_eq_none h1]; decide
theorem shF_w32 (h : W32 l) : W32 (shF s sg l) := by
 unfold shF
 split
 ·exact (h.set (h.get _)).set (h.get _)
 ·split
  ·exact h.set (wrap32_bd _)
  ·exact h.set (wrap32_bd _)
theorem swap_twice (hi : i < l.length) (hj : j < l.length) (hij : i ≠ j) : (((l.set i (l.getD j 0)).set j (l.getD i 0)).set i (((l.set i (l.getD j 0)).set j (l.getD i 0)).getD j 0)).set j (((l.set i (l.getD j 0)).set j (l.getD i 0)).getD i 0) = l := by
 have e1 : ((l.set i (l.getD j 0)).set j (l.getD i 0)).getD j 0 = l.getD i 0 := getD_set_eq (by simpa using hj)
 have e2 : ((l.set i (l.getD j 0)).set j (l.getD i 0)).getD i 0 = l.getD j 0 := by rw [getD_set_ne2 (Ne.symm hij)]; exact getD_set_eq hi
 rw [e1, e2, List.set_comm _ _ (Ne.symm hij), List.set_set, List.set_set, set_self, set_self]
theorem shF_back (h : shOK (l.length : Int) s) (hw : W32 l) (hsg : sg = 1 ∨ sg = -1) : shF s (-sg) (shF s sg l) = l := by
 obtain ⟨h1, h2, h3, h4, h5, h6, h7, h8, h9, h10⟩ := h
 have hi : (s.getD 0 0).toNat < l.length := by omega
 have hj : (s.getD 1 0).toNat < l.length := by omega
 unfold shF
 by_cases e1 : s.getD 3 0 = -1
 ·rw [if_pos e1, if_pos e1]
  have hne : ¬ s.getD 0 0 = s.getD 1 0 := fun e => by have := h7.1 e; omega
  exact swap_twice hi hj xq
 ·rw [if_neg e1, if_neg e1]
  by_cases e2 : s.getD 3 0 = -2
  ·rw [if_pos e2, if_pos e2, getD_set_eq hi, List.set_set, wrap32_neg (hw.get _), set_self]
  ·rw [if_neg e2, if_neg e2]
   have hne : ¬ s.getD 0 0 = s.getD 1 0 := fun e => e2 (h7.1 e)
   rw [getD_set_eq hi, getD_set_ne2 (show (s.getD 0 0).toNat ≠ (s.getD 1 0).toNat by omega), List.set_set]
   have e3 : ∀ x c : Int, x + -sg * c = x - sg * c := fun x c => by rw [Int.neg_mul]; omega
   rw [e3, wrap32_undo (hw.get _), set_self]
theorem shFs_len : (shFs S l).length = l.length := by
 unfold shFs
 induction S generalizing l with
 | nil => rfl
 | cons s S ih => rw [List.foldl_cons, ih, shF_len]
theorem shFs_w32 (h : W32 l) : W32 (shFs S l) := by
 unfold shFs
 induction S generalizing l with
 | nil => exact h
 | cons s S ih => rw [List.foldl_cons]; exact ih (shF_w32 h)
theorem shBs_len : (shBs S l).length = l.length := by
 unfold shBs
 induction S with
 | nil => rfl
 | cons s S ih => rw [List.foldr_cons, shF_len, ih]
theorem shBs_w32 (h : W32 l) : W32 (shBs S l) := by
 unfold shBs
 induction S with
 | nil => exact h
 | cons s S ih => rw [List.foldr_cons]; exact shF_w32 ih
theorem sh_fb (hS : ∀ s ∈ S, shOK (l.length : Int) s) (hw : W32 l) : shBs S (shFs S l) = l := by
 induction S generalizing l with
 | nil => rfl
 | cons s S ih =>
  show shF s (-1) (shBs S (shFs S (shF s 1 l))) = l
  rw [ih (fun t ht => by rw [shF_len]; exact hS t (List.mem_cons_of_mem _ ht)) (shF_w32 hw)]
  exact shF_back (hS s (List.mem_cons_self ..)) hw (.inl rfl)
theorem sh_bf (hS : ∀ s ∈ S, shOK (l.length : Int) s) (hw : W32 l) : shFs S (shBs S l) = l := by
 induction S generalizing l with
 | nil => rfl
 | cons s S ih =>
  show shFs S (shF s 1 (shF s (-1) (shBs S l))) = l
  have := shF_back (sg := -1) (s := s) (l := shBs S l) (by rw [shBs_len]; exact hS s (List.mem_cons_self ..)) (shBs_w32 hw) (.inr rfl)
  show shFs S (shF s (-(-1)) (shF s (-1) (shBs S l))) = l
  rw [this]
  exact ih (fun t ht => hS t (List.mem_cons_of_mem _ ht)) hw
end
end Nt
section
variable {L : List (List Int)} {p l : List Int} {X cs : List Value} {i n c b : Nat} {u u' : World} {x : Sl} {z : Int}
theorem row_eq4 (h : p.length = 4) : p = [p.getD 0 0, p.getD 1 0, p.getD 2 0, p.getD 3 0] := by
 match p, h with
 | [a, b, c, d], _ => rfl
theorem ics4 (h : Rows 4 L) (hi : i < L.length) : ics (L.getD i []) = [.int .i64 (gi L i 0), .int .i64 (gi L i 1), .int .i64 (gi L i 2), .int .i64 (gi L i 3)] := by rw [row_eq4 (h.get hi)]; rfl
theorem ir_at4 (h : IrV 4 u x L) (hi : i < L.length) : ∃ b o, x.a = some ⟨b, o, none⟩ ∧ ∀ j, j < [Value.int .i64 (gi L i 0), .int .i64 (gi L i 1), .int .i64 (gi L i 2), .int .i64 (gi L i 3)].length → u.cell? ⟨b, o + i * 4 + j, none⟩ = [Value.int .i64 (gi L i 0), .int .i64 (gi L i 1), .int .i64 (gi L i 2), .int .i64 (gi L i 3)][j]? := by
 obtain ⟨b, o, h1, h2, h3⟩ := ir_at h hi
 rw [ics4 h.rows hi] at h3
 exact ⟨b, o, h1, h3⟩
theorem row4 (h : Rows 4 L) (hi : i < L.length) : L.getD i [] = [gi L i 0, gi L i 1, gi L i 2, gi L i 3] := row_eq4 (h.get hi)
theorem ints_dataX {t : TypeId} {m : List Int} (h : u.heap[b]? = some (.cells (ics l ++ X).toArray t (0, 0))) (hl : l.length = n) (hX : (ics m ++ X).length = c) (hn : n ≤ c) (hc : c ≤ maxLen) (hm : m.length = l.length := by first | rfl | (simp [Nt.shFs_len, Nt.shBs_len]; done)) : SlR .i64 u (some ⟨b, 0, none⟩) n c l := by
 refine ints_data h ?_ ?_ hn hc
 ·rw [List.take_append_of_le_length (by rw [zwf]; omega), List.take_of_length_le (by rw [zwf]; omega)]; rfl
 ·rw [List.length_append, zwf, ← hm, ← zwf m, ← List.length_append]; exact hX
theorem part_intsX (hi : i < l.length) {off : Nat} (ho : off = i * 1) : PartIs (ics l ++ X) off false 1 (.v (.int .i64 (l.getD i 0))) := by
 subst ho
 refine ⟨_, ?_, rfl⟩
 rw [Nat.mul_one, List.getElem?_append_left (by rw [zwf]; exact hi)]
 exact ics_at hi
theorem setL_intsX (hi : i < l.length) {off : Nat} (ho : off = i * 1) : setL (ics l ++ X) off (Value.int .i64 z).cells.toList = ics (l.set i z) ++ X := by
 subst ho
 rw [Nat.mul_one]
 have := setL_cons (cs := ics l ++ X) (off := i) (v := .int .i64 z) (vs := []) (by rw [List.length_append, zwf]; omega)
 rw [setL_nil] at this
 rw [← ics_set, ← List.set_append_left (h := by rw [zwf]; exact hi)]
 exact this.symm
end
namespace Nt
section
variable {l : List Int} {s : List Int} {t f : Nat} {cf sh sg x n : Int}
theorem shF_x (h : sh = -1) : shF [(t : Int), (f : Int), cf, sh] sg l = (l.set t (l.getD f 0)).set f (l.getD t 0) := by
 subst h; rfl
theorem shF_n (h : sh = -2) : shF [(t : Int), (f : Int), cf, sh] sg l = l.set t (wrapW 32 (-(l.getD t 0))) := by
 subst h; rfl
theorem shF_s (h1 : ¬ sh = -1) (h2 : ¬ sh = -2) : shF [(t : Int), (f : Int), cf, sh] sg l = l.set t (wrapW 32 (l.getD t 0 + sg * shiftW (cf * l.getD f 0) sh 2)) := by
 unfold shF
 rw [if_neg (show ¬ [(t : Int), (f : Int), cf, sh].getD 3 0 = -1 from h1), if_neg (show ¬ [(t : Int), (f : Int), cf, sh].getD 3 0 = -2 from h2)]
 rfl
theorem sh_mul {a b A B : Int} (h1 : -A ≤ a ∧ a ≤ A) (h2 : -B ≤ b ∧ b ≤ B) (hA : 0 ≤ A) : -(A * B) ≤ a * b ∧ a * b ≤ A * B := by
 have k1 : 0 ≤ (A - a) * (B + b) := Int.mul_nonneg xq xq
 have k2 : 0 ≤ (A + a) * (B - b) := Int.mul_nonneg xq xq
 have k3 : 0 ≤ (A - a) * (B - b) := Int.mul_nonneg xq xq
 have k4 : 0 ≤ (A + a) * (B + b) := Int.mul_nonneg xq xq
 constructor <;> grind
theorem shift_bd2 (v n : Int) : -(v.natAbs : Int) - 1 ≤ shiftW v n 2 ∧ shiftW v n 2 ≤ v.natAbs + 1 := by
 unfold shiftW
 split
 ·omega
 ·rw [if_pos rfl]
  have h1 := Nt.div_bd (v := v) (zxl n)
  have h2 := Int.emod_nonneg (v / p2i (n - 1)) (show (2 : Int) ≠ 0 by decide)
  have h3 := Int.emod_lt_of_pos (v / p2i (n - 1)) (show (0 : Int) < 2 by decide)
  omega
theorem sg_bd {B : Int} (h : sg = 1 ∨ sg = -1) (hx : -B ≤ x ∧ x ≤ B) : -B ≤ sg * x ∧ sg * x ≤ B := by
 rcases h with rfl | rfl
 ·rw [Int.one_mul]; exact hx
 ·rw [Int.neg_mul, Int.one_mul]; omega
theorem shOK_mk (h : shOK n [(t : Int), (f : Int), cf, sh]) : (t : Int) < n ∧ (f : Int) < n ∧ -2 ≤ sh ∧ sh ≤ 20 ∧ -2097152 ≤ cf ∧ cf ≤ 2097152 ∧ ((t : Int) = f ↔ sh = -2) ∧ (sh < 0 → cf = 0) := by
 obtain ⟨h1, h2, h3, h4, h5, h6, h7, h8, h9, h10⟩ := h
 exact ⟨h2, h4, h5, h6, h9, h10, h7, h8⟩
def shV (n : Int) (S : List (List Int)) : Prop := 1 ≤ n ∧ n ≤ 64 ∧ S.length ≤ 64 ∧ ∀ i, i < S.length → shOK n (S.getD i [])
instance (n : Int) (S : List (List Int)) : Decidable (shV n S) := by unfold shV; infer_instance
instance (l : List Int) : Decidable (W32 l) := by unfold W32; infer_instance
def chkE (S : List (List Int)) (l : List Int) : Int := if shV (l.length : Int) S then (if W32 l then 0 else 17) else 2
def fwdL (S : List (List Int)) (l : List Int) : List Int := if chkE S l = 0 then shFs S l else []
def bwdL (S : List (List Int)) (l : List Int) : List Int := if chkE S l = 0 then shBs S l else []
theorem chk_bad {S : List (List Int)} (h : ¬ shV (l.length : Int) S) : chkE S l = 2 := if_neg h
theorem chk_not {S : List (List Int)} (h : shV (l.length : Int) S) (h2 : ¬ W32 l) : chkE S l = 17 := by unfold chkE; rw [if_pos h, if_neg h2]
theorem chk_ok {S : List (List Int)} (h : shV (l.length : Int) S) (h2 : W32 l) : chkE S l = 0 := by unfold chkE; rw [if_pos h, if_pos h2]
theorem chk_0 {S : List (List Int)} (h : chkE S l = 0) : shV (l.length : Int) S ∧ W32 l := by
 unfold chkE at h
 split at h
 ·rename_i h1
  split at h
  ·rename_i h2; exact ⟨h1, h2⟩
  ·exact absurd h xz
 ·exact absurd h xz
theorem ne_pair (a b c e : Int) : (!((a == b) == (c == e))) = decide (¬ (a = b ↔ c = e)) := by
 rw [show (a == b) = decide (a = b) from rfl, show (c == e) = decide (c = e) from rfl]
 by_cases h1 : a = b <;> by_cases h2 : c = e <;> simp [h1, h2]
theorem bnot_f {b : Bool} (h : (!b) = false) : b = true := by cases b; cases h; rfl
theorem wrap_ne (v : Int) : (v != wrapW 32 v) = !(decide (-2147483648 ≤ v ∧ v ≤ 2147483647)) := by
 by_cases h : -2147483648 ≤ v ∧ v ≤ 2147483647
 ·rw [wrap32_id h, decide_eq_true h]; simp
 ·rw [decide_eq_false h]
  have := wrap32_bd v
  simp only [Bool.not_false, bne_iff_ne]
  omega
theorem W32.mem (h : W32 l) : ∀ z ∈ l, -9223372036854775808 ≤ z ∧ z ≤ 9223372036854775807 := fun z hz => by
 obtain ⟨i, hi, rfl⟩ := List.mem_iff_getElem.1 hz
 have := h i hi
 rw [List.getD_eq_getElem?_getD, List.getElem?_eq_getElem hi] at this
 have e : (some l[i]).getD 0 = l[i] := rfl
 rw [e] at this
 omega
theorem fwd_mem {S : List (List Int)} : ∀ z ∈ fwdL S l, -9223372036854775808 ≤ z ∧ z ≤ 9223372036854775807 := by
 unfold fwdL
 split
 ·rename_i h; exact W32.mem (shFs_w32 (chk_0 h).2)
 ·intro z hz; cases hz
theorem bwd_mem {S : List (List Int)} : ∀ z ∈ bwdL S l, -9223372036854775808 ≤ z ∧ z ≤ 9223372036854775807 := by
 unfold bwdL
 split
 ·rename_i h; exact W32.mem (shBs_w32 (chk_0 h).2)
 ·intro z hz; cases hz
theorem shFs_snoc (S : List (List Int)) (i : Nat) (hi : i < S.length) (l : List Int) : shFs (S.take (i + 1)) l = shF (S.getD i []) 1 (shFs (S.take i) l) := by
 unfold shFs
 rw [List.take_add_one, List.foldl_append, List.getElem?_eq_getElem hi, List.getD_eq_getElem?_getD, List.getElem?_eq_getElem hi]
 rfl
end
end Nt
end Go.Proofs.YtbolmkfphieogaaGreat
namespace Go.Proofs.YtbolmkfphieogaaGreat
set_option linter.unusedVariables false
open Go.RowKit
theorem ty3 : TyIs Tryz.prog 3 false 1 := fun w => ⟨by kernel_rfl, by kernel_rfl⟩
theorem ty4 : TyIs Tryz.prog 4 false 1 := fun w => ⟨by kernel_rfl, by kernel_rfl⟩
theorem ty22 : TyIs Tryz.prog 22 false 1 := fun w => ⟨by kernel_rfl, by kernel_rfl⟩
theorem ty24 : TyIs Tryz.prog 24 true 2 := fun w => ⟨by kernel_rfl, by kernel_rfl⟩
theorem ty26 : TyIs Tryz.prog 26 true 3 := fun w => ⟨by kernel_rfl, by kernel_rfl⟩
theorem ty30 : TyIs Tryz.prog 30 false 1 := fun w => ⟨by kernel_rfl, by kernel_rfl⟩
theorem ty32 : TyIs Tryz.prog 32 true 6 := fun w => ⟨by kernel_rfl, by kernel_rfl⟩
theorem ty63 : TyIs Tryz.prog 63 true 4 := fun w => ⟨by kernel_rfl, by kernel_rfl⟩
theorem ty90 : TyIs Tryz.prog 90 true 4 := fun w => ⟨by kernel_rfl, by kernel_rfl⟩
theorem ty104 : TyIs Tryz.prog 104 false 1 := fun w => ⟨by kernel_rfl, by kernel_rfl⟩
theorem ty147 : TyIs Tryz.prog 147 true 3 := fun w => ⟨by kernel_rfl, by kernel_rfl⟩
theorem ty149 : TyIs Tryz.prog 149 true 4 := fun w => ⟨by kernel_rfl, by kernel_rfl⟩
theorem ty160 : TyIs Tryz.prog 160 true 4 := fun w => ⟨by kernel_rfl, by kernel_rfl⟩
theorem ty180 : TyIs Tryz.prog 180 true 12 := fun w => ⟨by kernel_rfl, by kernel_rfl⟩
theorem ty183 : TyIs Tryz.prog 183 true 4 := fun w => ⟨by kernel_rfl, by kernel_rfl⟩
theorem ty200 : TyIs Tryz.prog 200 true 3 := fun w => ⟨by kernel_rfl, by kernel_rfl⟩
theorem sl22 : SlIs Tryz.prog 22 1 := ⟨104, false, by kernel_rfl, ty104⟩
theorem sl30 : SlIs Tryz.prog 30 1 := ⟨3, false, by kernel_rfl, ty3⟩
theorem sl64 : SlIs Tryz.prog 64 4 := ⟨90, true, by kernel_rfl, ty90⟩
end Go.Proofs.YtbolmkfphieogaaGreat
namespace Go.Proofs.YtbolmkfphieogaaGreat
open Go.RowKit
set_option linter.unusedVariables false
theorem k_signed {u w : World} {s : Bool} {x : Sl} {N K : Nat} (d : Dat u w) (h : NatN u x N K) : Calls Tryz.prog 222 #[.bool s, x.v] w (Post u w fun v u' => ∃ i : IL, v = i.v ∧ IntN u' i (Nt.sg s N) K) := by
 refine zzl (args := [.bool s, .slice x.a x.n x.c]) Tryz.func222 rfl Tryz.ntmps222 (rs := [.cell 4 24]) Tryz.results222 (le_b rfl) (le_b rfl) d ?_
 refine sq9 (zzj 4 ⟨24, [.bool false, .slice none 0 0]⟩ (zzb (sq9 (zza 5 (zB s) ?_))))
 rcases Bool.eq_false_or_eq_true s with hs11 | hs11
 ·refine zyp 6 (x := zB s) (zB true) (by rw [hs11]) (zza 7 (.v x.v) ?_ (hw := w1 1 true 6))
  refine zza 8 (zI x.n) ?_ (hw := w1 1 true 6)
  refine zza 9 (zB (decide ((0 : Int) < (x.n : Int)))) ?_ (hw := w1 1 true 6)
  refine zza 10 (zB (decide ((0 : Int) < (x.n : Int)))) (zza 11 (.v x.v) (zza 12 (.v (.agg #[.bool (decide ((0 : Int) < (x.n : Int))), x.v])) (zzi ⟨24, [.bool (decide ((0 : Int) < (x.n : Int))), x.v]⟩ ty24 ?_)))
  refine zzb (zzn (ret0 [.agg #[.bool (decide ((0 : Int) < (x.n : Int))), .slice x.a x.n x.c]] ⟨zzq ty24 zze, trivial⟩ fun u12 e13 => ?_))
  rw [hs11]
  exact ⟨⟨_, x⟩, rfl, signed_int (s := true) (h.ext e13)⟩
 ·refine zyp 6 (x := zB s) (zB false) (by rw [hs11]) (zzm 7 (uw 1 true false 6) (zzm 8 (uw 1 true false 6) (zzm 9 (uw 1 true false 6) (zza 10 (zB false) (zza 11 (.v x.v) (zza 12 (.v (.agg #[.bool false, x.v])) (zzi ⟨24, [.bool false, x.v]⟩ ty24 ?_)))))))
  refine zzb (zzn (ret0 [.agg #[.bool false, .slice x.a x.n x.c]] ⟨zzq ty24 zze, trivial⟩ fun u14 e15 => ?_))
  rw [hs11]
  exact ⟨⟨_, x⟩, rfl, signed_int (s := false) (h.ext e15)⟩
theorem k_intTrim {u w : World} {i1 : IL} {zN : Int} {K : Nat} (d : Dat u w) (hi1 : IntV u i1 zN K) (hK : K ≤ 500000000) : Calls Tryz.prog 211 #[i1.v] w (Post u w fun v u' => ∃ i : IL, v = i.v ∧ IntN u' i zN K) := by
 obtain ⟨N, hN, hzN⟩ := hi1
 refine zzl (args := [i1.v]) Tryz.func211 rfl Tryz.ntmps211 (rs := [.cell 2 24]) Tryz.results211 (le_b rfl) (le_b rfl) d ?_
 refine sq9 (zzj 1 ⟨24, i1.cs⟩ (zzj 2 ⟨24, [.bool false, .slice none 0 0]⟩ (zzb (zzd (zzy [0, 1, 0, 4, 12, 31, 63] [(0, []), (1, []), (2, []), (3, []), (4, []), (5, []), (6, [])] xv xv (zza 3 (.adr 1 0) (zzh 4 (zB i1.s) ty4 zzk (zza 5 (.adr 1 1) (zzh 6 (.v i1.m.v) ty22 zzk (zzg 7 214 [i1.m.v] ?_))))))))))
 intro w11 u11 e11 d11
 have k16 := k_natTrim d11 (hN.ext e11) xq
 with_reducible refine zPm k16 ?_
 rintro _ u14 g15 ⟨x12, rfl, h13⟩
 refine zzg 8 222 [.bool i1.s, x12.v] ?_
 intro w17 u17 e17 d17
 have k22 := k_signed d17 (s := i1.s) (h13.ext e17)
 with_reducible refine zPm k22 ?_
 rintro _ u20 g21 ⟨i18, rfl, h19⟩
 refine zzi ⟨24, i18.cs⟩ ty24 ?_
 refine zzb (zzn (ret0 [i18.v] ⟨zzq ty24 zze, trivial⟩ fun u23 e24 => ?_))
 refine ⟨i18, rfl, IntN.more (K := K) ?_ xq⟩
 rw [hzN]
 exact (h19.ext e24)
theorem k_intMul {u w : World} {i1 : IL} {zN : Int} {K : Nat} {i2 : IL} {zM : Int} {L : Nat} (d : Dat u w) (hi1 : IntV u i1 zN K) (hi2 : IntV u i2 zM L) (hK : K ≤ 500000000) (hL : L ≤ 500000000) : Calls Tryz.prog 194 #[i1.v, i2.v] w (Post u w fun v u' => ∃ i : IL, v = i.v ∧ IntN u' i (zN * zM) (K + L)) := by
 obtain ⟨N, hN, hzN⟩ := hi1
 obtain ⟨M, hM, hzM⟩ := hi2
 refine zzl (args := [i1.v, i2.v]) Tryz.func194 rfl Tryz.ntmps194 (rs := [.cell 4 24]) Tryz.results194 (le_b rfl) (le_b rfl) d ?_
 refine sq9 (zzj 2 ⟨24, i1.cs⟩ (zzj 3 ⟨24, i2.cs⟩ (zzj 4 ⟨24, [.bool false, .slice none 0 0]⟩ (zzb (zzd (zzy [0, 1, 0, 4, 15, 0, 32, 0, 128, 480, 1023, 2047] [(0, []), (1, []), (2, []), (3, []), (4, []), (5, []), (6, []), (7, []), (8, []), (9, []), (10, []), (11, [])] xv xv (zza 5 (.adr 2 0) (zzh 6 (zB i1.s) ty4 zzk (zza 7 (.adr 3 0) (zzh 8 (zB i2.s) ty4 zzk (zza 9 (zB (!(i1.s == i2.s))) ?_)))))))))))
 refine zza 10 (.adr 2 1) (zzh 11 (.v i1.m.v) ty22 zzk (zza 12 (.adr 3 1) (zzh 13 (.v i2.m.v) ty22 zzk (zzg 14 156 [i1.m.v, i2.m.v] ?_))))
 intro w11 u11 e11 d11
 have k16 := k_natMul d11 (hN.ext e11) (hM.ext e11) xq xq
 with_reducible refine zPm k16 ?_
 rintro _ u14 g15 ⟨x12, rfl, h13⟩
 refine zzg 15 222 [.bool (!(i1.s == i2.s)), x12.v] ?_
 intro w17 u17 e17 d17
 have k22 := k_signed d17 (s := !(i1.s == i2.s)) (h13.ext e17)
 with_reducible refine zPm k22 ?_
 rintro _ u20 g21 ⟨i18, rfl, h19⟩
 refine zzi ⟨24, i18.cs⟩ ty24 ?_
 refine zzb (zzn (ret0 [i18.v] ⟨zzq ty24 zze, trivial⟩ fun u23 e24 => ?_))
 refine ⟨i18, rfl, IntN.more (K := (K + L)) ?_ xq⟩
 rw [hzN, hzM, ← Nt.sg_mul]
 exact (h19.ext e24)
theorem k_intAdd {u w : World} {i1 : IL} {zN : Int} {K : Nat} {i2 : IL} {zM : Int} {L : Nat} (d : Dat u w) (hi1 : IntV u i1 zN K) (hi2 : IntV u i2 zM L) (hK : K ≤ 500000000) (hL : L ≤ 500000000) : Calls Tryz.prog 159 #[i1.v, i2.v] w (Post u w fun v u' => ∃ i : IL, v = i.v ∧ IntN u' i (zN + zM) (max K L + 1)) := by
 obtain ⟨N, hN, hzN⟩ := hi1
 obtain ⟨M, hM, hzM⟩ := hi2
 refine zzl (args := [i1.v, i2.v]) Tryz.func159 rfl Tryz.ntmps159 (rs := [.cell 4 24]) Tryz.results159 (le_b rfl) (le_b rfl) d ?_
 refine sq9 (zzj 2 ⟨24, i1.cs⟩ (zzj 3 ⟨24, i2.cs⟩ (zzj 4 ⟨24, [.bool false, .slice none 0 0]⟩ (zzb (zzd (sq9 (zza 5 (.adr 2 0) (zzh 6 (zB i1.s) ty4 zzk (zza 7 (.adr 3 0) (zzh 8 (zB i2.s) ty4 zzk (zza 9 (zB (i1.s == i2.s)) ?_)))))))))))
 refine zzb (zzt (b := i1.s == i2.s) xv (fun hb11 => ?_) (fun hb11 => ?_))
 ·replace hb11 : (i1.s == i2.s) = true := hb11
  refine zzd (zzy [0, 1, 0, 4, 0, 16, 60, 127, 255] [(0, []), (1, []), (2, []), (3, []), (4, []), (5, []), (6, []), (7, []), (8, [])] xv xv (zza 10 (.adr 2 0) (zzh 11 (zB i1.s) ty4 zzk (zza 12 (.adr 2 1) (zzh 13 (.v i1.m.v) ty22 zzk (zza 14 (.adr 3 1) (zzh 15 (.v i2.m.v) ty22 zzk (zzg 16 155 [i1.m.v, i2.m.v] ?_))))))))
  intro w12 u12 e12 d12
  have k17 := k_natAdd d12 (hN.ext e12) (hM.ext e12) xq xq
  with_reducible refine zPm k17 ?_
  rintro _ u15 g16 ⟨x13, rfl, h14⟩
  refine zzg 17 222 [.bool i1.s, x13.v] ?_
  intro w18 u18 e18 d18
  have k23 := k_signed d18 (s := i1.s) (h14.ext e18)
  with_reducible refine zPm k23 ?_
  rintro _ u21 g22 ⟨i19, rfl, h20⟩
  refine zzi ⟨24, i19.cs⟩ ty24 ?_
  refine zzb (zzn (zzv (ret0 [i19.v] ⟨zzq ty24 zze, trivial⟩ fun u24 e25 => ?_)))
  refine ⟨i19, rfl, IntN.more (K := (max K L + 1)) ?_ xq⟩
  rw [hzN, hzM, ← Nt.sg_add1 N M hb11]
  exact (h20.ext e25)
 ·replace hb11 : (i1.s == i2.s) = false := hb11
  refine zzr (zzo ?_)
  refine zzd (sq9 (zza 18 (.adr 2 1) (zzh 19 (.v i1.m.v) ty22 zzk (zza 20 (.adr 3 1) (zzh 21 (.v i2.m.v) ty22 zzk (zzg 22 83 [i1.m.v, i2.m.v] ?_))))))
  intro w26 u26 e26 d26
  have k29 := k_natCompare d26 (hN.ext e26) (hM.ext e26)
  with_reducible refine zPm k29 ?_
  rintro _ u27 g28 rfl
  refine zza 23 (zB ((Nt.cmpS N M) == (-1))) (zzb (zzt (b := (Nt.cmpS N M) == (-1)) xv (fun hb30 => ?_) (fun hb30 => ?_)))
  ·replace hb30 : ((Nt.cmpS N M) == (-1)) = true := hb30
   refine zzd (zzy [0, 1, 0, 4, 0, 16, 60, 127, 255] [(0, []), (1, []), (2, []), (3, []), (4, []), (5, []), (6, []), (7, []), (8, [])] xv xv (zza 24 (.adr 3 0) (zzh 25 (zB i2.s) ty4 zzk (zza 26 (.adr 3 1) (zzh 27 (.v i2.m.v) ty22 zzk (zza 28 (.adr 2 1) (zzh 29 (.v i1.m.v) ty22 zzk (zzg 30 223 [i2.m.v, i1.m.v] ?_))))))))
   intro w31 u31 e31 d31
   have k36 := k_natSub d31 (hM.ext (e26.trans (g28.ext.trans e31))) (hN.ext (e26.trans (g28.ext.trans e31))) xq xq
   with_reducible refine zPm k36 ?_
   rintro _ u34 g35 ⟨x32, rfl, h33⟩
   refine zzg 31 222 [.bool i2.s, x32.v] ?_
   intro w37 u37 e37 d37
   have k42 := k_signed d37 (s := i2.s) (h33.ext e37)
   with_reducible refine zPm k42 ?_
   rintro _ u40 g41 ⟨i38, rfl, h39⟩
   refine zzi ⟨24, i38.cs⟩ ty24 ?_
   refine zzb (zzn (zzv (ret0 [i38.v] ⟨zzq ty24 zze, trivial⟩ fun u43 e44 => ?_)))
   refine ⟨i38, rfl, IntN.more (K := L) ?_ xq⟩
   rw [hzN, hzM, ← Nt.sg_add2 N M hb11 hb30]
   exact (h39.ext e44)
  ·replace hb30 : ((Nt.cmpS N M) == (-1)) = false := hb30
   refine zzr (zzo ?_)
   refine zzd (zzy [0, 1, 0, 4, 0, 16, 60, 127, 255] [(0, []), (1, []), (2, []), (3, []), (4, []), (5, []), (6, []), (7, []), (8, [])] xv xv (zza 32 (.adr 2 0) (zzh 33 (zB i1.s) ty4 zzk (zza 34 (.adr 2 1) (zzh 35 (.v i1.m.v) ty22 zzk (zza 36 (.adr 3 1) (zzh 37 (.v i2.m.v) ty22 zzk (zzg 38 223 [i1.m.v, i2.m.v] ?_))))))))
   intro w45 u45 e45 d45
   have k50 := k_natSub d45 (hN.ext (e26.trans (g28.ext.trans e45))) (hM.ext (e26.trans (g28.ext.trans e45))) xq xq
   with_reducible refine zPm k50 ?_
   rintro _ u48 g49 ⟨x46, rfl, h47⟩
   refine zzg 39 222 [.bool i1.s, x46.v] ?_
   intro w51 u51 e51 d51
   have k56 := k_signed d51 (s := i1.s) (h47.ext e51)
   with_reducible refine zPm k56 ?_
   rintro _ u54 g55 ⟨i52, rfl, h53⟩
   refine zzi ⟨24, i52.cs⟩ ty24 ?_
   refine zzb (zzn (ret0 [i52.v] ⟨zzq ty24 zze, trivial⟩ fun u57 e58 => ?_))
   refine ⟨i52, rfl, IntN.more (K := K) ?_ xq⟩
   rw [hzN, hzM, ← Nt.sg_add3 N M hb11 hb30]
   exact (h53.ext e58)
theorem k_intSign {u w : World} {i1 : IL} {zN : Int} {K : Nat} (d : Dat u w) (hi1 : IntV u i1 zN K)  : Calls Tryz.prog 146 #[i1.v] w (Post u w fun v u' => v = .int .i64 (Nt.cmpS zN 0)) := by
 obtain ⟨N, hN, hzN⟩ := hi1
 refine zzl (args := [i1.v]) Tryz.func146 rfl Tryz.ntmps146 (rs := [.tmp 2]) Tryz.results146 (le_b rfl) (le_b rfl) d ?_
 refine sq9 (zzj 1 ⟨24, i1.cs⟩ (zza 2 (zI 0) (zzb (zzd (zzs (sq9 (zza 4 (.adr 1 1) (zzh 5 (.v i1.m.v) ty22 zzk (zzg 6 83 [i1.m.v, .slice none 0 0] ?_)))))))))
 intro w11 u11 e11 d11
 have k14 := k_natCompare d11 (hN.ext e11) (nat_nil _ 1)
 with_reducible refine zPm k14 ?_
 rintro _ u12 g13 rfl
 refine zza 7 (zB ((Nt.cmpS N 0) == 0)) (zza 3 (zB ((Nt.cmpS N 0) == 0)) (zzb (zzt (b := (Nt.cmpS N 0) == 0) xv (fun hb15 => ?_) (fun hb15 => ?_))))
 ·replace hb15 : ((Nt.cmpS N 0) == 0) = true := hb15
  refine sq9 (zza 2 (zI 0) (zzb (zzn (zyt (zzv (ret0 [.int .i64 0] ⟨zzp, trivial⟩ fun u16 e17 => ?_))))))
  show _ = _
  rw [hzN, Nt.sg_cmp0, if_pos hb15]
  rfl
 ·replace hb15 : ((Nt.cmpS N 0) == 0) = false := hb15
  refine sq9 (zza 9 (.adr 1 0) (zzh 10 (zB i1.s) ty4 zzk (zza 8 (zB i1.s) (zzb (zzt (b := i1.s) xv (fun hb18 => ?_) (fun hb18 => ?_))))))
  ·replace hb18 : i1.s = true := hb18
   refine sq9 (zza 2 (zI (-1)) (zzb (zzn (zyt (zzv (ret0 [.int .i64 (-1)] ⟨zzp, trivial⟩ fun u19 e20 => ?_))))))
   show _ = _
   rw [hzN, Nt.sg_cmp0, if_neg (ne_true_of_eq_false hb15), if_pos hb18]
   rfl
  ·replace hb18 : i1.s = false := hb18
   refine zzr (zzo ?_)
   refine sq9 (zza 2 (zI 1) (zzb (zzn (ret0 [.int .i64 1] ⟨zzp, trivial⟩ fun u21 e22 => ?_))))
   show _ = _
   rw [hzN, Nt.sg_cmp0, if_neg (ne_true_of_eq_false hb15), if_neg (ne_true_of_eq_false hb18)]
   rfl
namespace Nt
theorem cmp_sg (s t : Bool) (N M : Nat) : cmpS (sg s N) (sg t M) = if decide (cmpS (sg s N) 0 < cmpS (sg t M) 0) = true then -1 else if decide (cmpS (sg t M) 0 < cmpS (sg s N) 0) = true then 1 else if (cmpS (sg s N) 0 == -1) = true then cmpS (M : Int) (N : Int) else cmpS (N : Int) (M : Int) := by
 rcases cmp_range (sg s N) 0 with ⟨e, h⟩ | ⟨e, h⟩ | ⟨e, h⟩ <;> rcases cmp_range (sg t M) 0 with ⟨e', h'⟩ | ⟨e', h'⟩ | ⟨e', h'⟩ <;> rw [e, e'] <;> simp
 ·unfold sg at *; cases s <;> cases t <;> simp at h h' ⊢ <;> unfold cmpS <;> (repeat' split) <;> first | rfl | omega
 ·exact cmp_lt xq
 ·exact cmp_lt xq
 ·exact cmp_gt xq
 ·rw [h, h']; unfold sg at *; cases s <;> cases t <;> simp at h h' <;> rw [h, h'] <;> rfl
 ·exact cmp_lt xq
 ·exact cmp_gt xq
 ·exact cmp_gt xq
 ·unfold sg at *; cases s <;> cases t <;> simp at h h' ⊢ <;> first | rfl | omega
end Nt
theorem k_intCompare {u w : World} {i1 : IL} {zN : Int} {K : Nat} {i2 : IL} {zM : Int} {L : Nat} (d : Dat u w) (hi1 : IntV u i1 zN K) (hi2 : IntV u i2 zM L)  : Calls Tryz.prog 181 #[i1.v, i2.v] w (Post u w fun v u' => v = .int .i64 (Nt.cmpS zN zM)) := by
 obtain ⟨N, hN, hzN⟩ := hi1
 obtain ⟨M, hM, hzM⟩ := hi2
 refine zzl (args := [i1.v, i2.v]) Tryz.func181 rfl Tryz.ntmps181 (rs := [.tmp 4]) Tryz.results181 (le_b rfl) (le_b rfl) d ?_
 refine sq9 (zzj 2 ⟨24, i1.cs⟩ (zzj 3 ⟨24, i2.cs⟩ (zza 4 (zI 0) (zzb (zzd (zzy [0, 1, 0, 7, 15, 31] [(0, []), (2, []), (1, []), (3, []), (4, []), (5, [])] xv xv (zzh 7 (.v (i1.v)) ty24 zze (zzh 9 (.v (i2.v)) ty24 zze (zzg 8 146 [i1.v] ?_)))))))))
 intro w11 u11 e11 d11
 have k14 := k_intSign d11 (IntV.same (s := i1.s) (hN.ext e11))
 with_reducible refine zPm k14 ?_
 rintro _ u12 g13 rfl
 refine zzg 10 146 [i2.v] ?_
 intro w15 u15 e15 d15
 have k18 := k_intSign d15 (IntV.same (s := i2.s) (hM.ext (e11.trans (g13.ext.trans e15))))
 with_reducible refine zPm k18 ?_
 rintro _ u16 g17 rfl
 refine zza 5 (zI (Nt.cmpS (Nt.sg i1.s N) 0)) (zza 6 (zI (Nt.cmpS (Nt.sg i2.s M) 0)) (zzb (zzd (zzs (sq9 (zza 12 (zI (Nt.cmpS (Nt.sg i1.s N) 0)) (zza 13 (zI (Nt.cmpS (Nt.sg i2.s M) 0)) (zza 14 (zB (decide ((Nt.cmpS (Nt.sg i1.s N) 0) < (Nt.cmpS (Nt.sg i2.s M) 0)))) (zza 11 (zB (decide ((Nt.cmpS (Nt.sg i1.s N) 0) < (Nt.cmpS (Nt.sg i2.s M) 0)))) (zzb (zzt (b := decide ((Nt.cmpS (Nt.sg i1.s N) 0) < (Nt.cmpS (Nt.sg i2.s M) 0))) xv (fun hb19 => ?_) (fun hb19 => ?_))))))))))))
 ·replace hb19 : (decide ((Nt.cmpS (Nt.sg i1.s N) 0) < (Nt.cmpS (Nt.sg i2.s M) 0))) = true := hb19
  have qhb19 := of_decide_eq_true hb19
  refine sq9 (zza 4 (zI (-1)) (zzb (zzn (zyt (zzv (ret0 [.int .i64 (-1)] ⟨zzp, trivial⟩ fun u20 e21 => ?_))))))
  show _ = _
  rw [hzN, hzM, Nt.cmp_sg, if_pos hb19]
  rfl
 ·replace hb19 : (decide ((Nt.cmpS (Nt.sg i1.s N) 0) < (Nt.cmpS (Nt.sg i2.s M) 0))) = false := hb19
  have qhb19 := of_decide_eq_false hb19
  refine sq9 (zza 16 (zI (Nt.cmpS (Nt.sg i1.s N) 0)) (zza 17 (zI (Nt.cmpS (Nt.sg i2.s M) 0)) (zza 18 (zB (decide ((Nt.cmpS (Nt.sg i2.s M) 0) < (Nt.cmpS (Nt.sg i1.s N) 0)))) (zza 15 (zB (decide ((Nt.cmpS (Nt.sg i2.s M) 0) < (Nt.cmpS (Nt.sg i1.s N) 0)))) (zzb (zzt (b := decide ((Nt.cmpS (Nt.sg i2.s M) 0) < (Nt.cmpS (Nt.sg i1.s N) 0))) xv (fun hb22 => ?_) (fun hb22 => ?_)))))))
  ·replace hb22 : (decide ((Nt.cmpS (Nt.sg i2.s M) 0) < (Nt.cmpS (Nt.sg i1.s N) 0))) = true := hb22
   have qhb22 := of_decide_eq_true hb22
   refine sq9 (zza 4 (zI 1) (zzb (zzn (zyt (zzv (ret0 [.int .i64 1] ⟨zzp, trivial⟩ fun u23 e24 => ?_))))))
   show _ = _
   rw [hzN, hzM, Nt.cmp_sg, if_neg (ne_true_of_eq_false hb19), if_pos hb22]
   rfl
  ·replace hb22 : (decide ((Nt.cmpS (Nt.sg i2.s M) 0) < (Nt.cmpS (Nt.sg i1.s N) 0))) = false := hb22
   have qhb22 := of_decide_eq_false hb22
   refine sq9 (zza 20 (zI (Nt.cmpS (Nt.sg i1.s N) 0)) (zza 21 (zB ((Nt.cmpS (Nt.sg i1.s N) 0) == (-1))) (zza 19 (zB ((Nt.cmpS (Nt.sg i1.s N) 0) == (-1))) (zzb (zzt (b := (Nt.cmpS (Nt.sg i1.s N) 0) == (-1)) xv (fun hb25 => ?_) (fun hb25 => ?_))))))
   ·replace hb25 : ((Nt.cmpS (Nt.sg i1.s N) 0) == (-1)) = true := hb25
    refine sq9 (zza 22 (.adr 3 1) (zzh 23 (.v i2.m.v) ty22 zzk (zza 24 (.adr 2 1) (zzh 25 (.v i1.m.v) ty22 zzk (zzg 26 83 [i2.m.v, i1.m.v] ?_)))))
    intro w26 u26 e26 d26
    have k29 := k_natCompare d26 (hM.ext (e11.trans (g13.ext.trans (e15.trans (g17.ext.trans e26))))) (hN.ext (e11.trans (g13.ext.trans (e15.trans (g17.ext.trans e26)))))
    with_reducible refine zPm k29 ?_
    rintro _ u27 g28 rfl
    refine zza 4 (zI (Nt.cmpS M N)) (zzb (zzn (zyt (zzv (ret0 [.int .i64 (Nt.cmpS M N)] ⟨zzp, trivial⟩ fun u30 e31 => ?_)))))
    show _ = _
    rw [hzN, hzM, Nt.cmp_sg, if_neg (ne_true_of_eq_false hb19), if_neg (ne_true_of_eq_false hb22), if_pos hb25]
    rfl
   ·replace hb25 : ((Nt.cmpS (Nt.sg i1.s N) 0) == (-1)) = false := hb25
    refine zzr (zzo ?_)
    refine sq9 (zza 27 (.adr 2 1) (zzh 28 (.v i1.m.v) ty22 zzk (zza 29 (.adr 3 1) (zzh 30 (.v i2.m.v) ty22 zzk (zzg 31 83 [i1.m.v, i2.m.v] ?_)))))
    intro w32 u32 e32 d32
    have k35 := k_natCompare d32 (hN.ext (e11.trans (g13.ext.trans (e15.trans (g17.ext.trans e32))))) (hM.ext (e11.trans (g13.ext.trans (e15.trans (g17.ext.trans e32)))))
    with_reducible refine zPm k35 ?_
    rintro _ u33 g34 rfl
    refine zza 4 (zI (Nt.cmpS N M)) (zzb (zzn (ret0 [.int .i64 (Nt.cmpS N M)] ⟨zzp, trivial⟩ fun u36 e37 => ?_)))
    show _ = _
    rw [hzN, hzM, Nt.cmp_sg, if_neg (ne_true_of_eq_false hb19), if_neg (ne_true_of_eq_false hb22), if_neg (ne_true_of_eq_false hb25)]
    rfl
theorem k_intOf {u w : World} {z : Int} (d : Dat u w) (h0 : -9223372036854775808 ≤ z) (h1 : z ≤ 9223372036854775807) : Calls Tryz.prog 160 #[.int .i64 z] w (Post u w fun v u' => ∃ i : IL, v = i.v ∧ IntN u' i z 2) := by
 by_cases hneg : z < 0
 ·refine zzl (args := [.int .i64 z]) Tryz.func160 rfl Tryz.ntmps160 (rs := [.cell 2 24]) Tryz.results160 (le_b rfl) (le_b rfl) d ?_
  refine sq9 (zzj 2 ⟨24, [.bool false, .slice none 0 0]⟩ (zzb (sq9 (zza 4 (zI z) (zyp 5 (x := .v (.int .u64 (IntKind.u64.wrap z))) (.v (.int .u64 (z + 18446744073709551616))) (by rw [show (IntKind.u64.wrap z) = (z + 18446744073709551616) from (by simp [IntKind.wrap, IntKind.bits, IntKind.signed]; omega)]) (zza 3 (.v (.int .u64 (z + 18446744073709551616))) (zzb (zzd (sq9 (zza 6 (zI z) (zyp 7 (x := zB (decide (z < 0))) (zB true) (by rw [show (decide (z < 0)) = true from (by simp; omega)]) ?_)))))))))))
  refine zzb (zyq xv (zzf (zza 8 (.v (.int .u64 (z + 18446744073709551616))) (zyp 9 (x := .v (.int .u64 (IntKind.u64.wrap (0 - (z + 18446744073709551616))))) (.v (.int .u64 (-z))) (by rw [show (IntKind.u64.wrap (0 - (z + 18446744073709551616))) = (-z) from (by simp [IntKind.wrap, IntKind.bits, IntKind.signed]; omega)]) (zza 3 (.v (.int .u64 (-z))) (zzb (sq9 (zza 10 (zI z) (zyp 11 (x := zB (decide (z < 0))) (zB true) (by rw [show (decide (z < 0)) = true from (by simp; omega)]) (zza 12 (.v (.int .u64 (-z))) (zyp 13 (x := .v (.int .u32 (IntKind.u32.wrap (-z)))) (.v (.int .u32 ((-z) % 4294967296))) (by rw [show (IntKind.u32.wrap (-z)) = ((-z) % 4294967296) from (IntKind.wrap_u32 _)]) ?_)))))))))))
  refine zza 14 (.v (.int .u64 (-z))) (zyp 15 (x := .v (.int .u64 (Int.fdiv (-z) (2 ^ 32)))) (.v (.int .u64 ((-z) / 4294967296))) (by rw [show (Int.fdiv (-z) (2 ^ 32)) = ((-z) / 4294967296) from (by rw [Int.fdiv_eq_ediv_of_nonneg _ xz]; rfl)]) (zyp 16 (x := .v (.int .u32 (IntKind.u32.wrap ((-z) / 4294967296)))) (.v (.int .u32 ((-z) / 4294967296))) (by rw [show (IntKind.u32.wrap ((-z) / 4294967296)) = ((-z) / 4294967296) from (IntWalk.u32_in _ xq)]) (zxt 17 ⟨104, [.int .u32 ((-z) % 4294967296), .int .u32 ((-z) / 4294967296)]⟩ 2 (fun b11 u12 e13 h14 => ?_))))
  refine zzg 18 214 [.slice (some ⟨b11, 0, none⟩) 2 2] ?_
  intro w15 u15 e15 d15
  have k20 := k_natTrim d15 ((two_data (N := z.natAbs) h14 xq xq xq).ext e15) xq
  with_reducible refine zPm k20 ?_
  rintro _ u18 g19 ⟨x16, rfl, h17⟩
  refine zzg 19 222 [.bool true, x16.v] ?_
  intro w21 u21 e21 d21
  have k26 := k_signed d21 (s := true) (h17.ext e21)
  with_reducible refine zPm k26 ?_
  rintro _ u24 g25 ⟨i22, rfl, h23⟩
  refine zzi ⟨24, i22.cs⟩ ty24 ?_
  refine zzb (zzn (ret0 [i22.v] ⟨zzq ty24 zze, trivial⟩ fun u27 e28 => ?_))
  refine ⟨i22, rfl, IntN.more (K := 2) ?_ xq⟩
  have e : z = Nt.sg true z.natAbs := by unfold Nt.sg; simp; omega
  rw [e]
  exact (h23.ext e28)
 ·refine zzl (args := [.int .i64 z]) Tryz.func160 rfl Tryz.ntmps160 (rs := [.cell 2 24]) Tryz.results160 (le_b rfl) (le_b rfl) d ?_
  refine sq9 (zzj 2 ⟨24, [.bool false, .slice none 0 0]⟩ (zzb (sq9 (zza 4 (zI z) (zyp 5 (x := .v (.int .u64 (IntKind.u64.wrap z))) (.v (.int .u64 (z))) (by rw [show (IntKind.u64.wrap z) = z from (by simp [IntKind.wrap, IntKind.bits, IntKind.signed]; omega)]) (zza 3 (.v (.int .u64 z)) (zzb (zzd (sq9 (zza 6 (zI z) (zyp 7 (x := zB (decide (z < 0))) (zB false) (by rw [show (decide (z < 0)) = false from (by simp; omega)]) ?_)))))))))))
  refine zzb (zyr xv (zzr (zzo ?_)))
  refine sq9 (zza 10 (zI z) (zyp 11 (x := zB (decide (z < 0))) (zB false) (by rw [show (decide (z < 0)) = false from (by simp; omega)]) (zza 12 (.v (.int .u64 z)) (zyp 13 (x := .v (.int .u32 (IntKind.u32.wrap (z)))) (.v (.int .u32 ((z) % 4294967296))) (by rw [show (IntKind.u32.wrap (z)) = ((z) % 4294967296) from (IntKind.wrap_u32 _)]) (zza 14 (.v (.int .u64 z)) (zyp 15 (x := .v (.int .u64 (Int.fdiv (z) (2 ^ 32)))) (.v (.int .u64 ((z) / 4294967296))) (by rw [show (Int.fdiv (z) (2 ^ 32)) = ((z) / 4294967296) from (by rw [Int.fdiv_eq_ediv_of_nonneg _ xz]; rfl)]) (zyp 16 (x := .v (.int .u32 (IntKind.u32.wrap ((z) / 4294967296)))) (.v (.int .u32 ((z) / 4294967296))) (by rw [show (IntKind.u32.wrap ((z) / 4294967296)) = ((z) / 4294967296) from (IntWalk.u32_in _ xq)]) (zxt 17 ⟨104, [.int .u32 ((z) % 4294967296), .int .u32 ((z) / 4294967296)]⟩ 2 (fun b11 u12 e13 h14 => ?_)))))))))
  refine zzg 18 214 [.slice (some ⟨b11, 0, none⟩) 2 2] ?_
  intro w15 u15 e15 d15
  have k20 := k_natTrim d15 ((two_data (N := z.natAbs) h14 xq xq xq).ext e15) xq
  with_reducible refine zPm k20 ?_
  rintro _ u18 g19 ⟨x16, rfl, h17⟩
  refine zzg 19 222 [.bool false, x16.v] ?_
  intro w21 u21 e21 d21
  have k26 := k_signed d21 (s := false) (h17.ext e21)
  with_reducible refine zPm k26 ?_
  rintro _ u24 g25 ⟨i22, rfl, h23⟩
  refine zzi ⟨24, i22.cs⟩ ty24 ?_
  refine zzb (zzn (ret0 [i22.v] ⟨zzq ty24 zze, trivial⟩ fun u27 e28 => ?_))
  refine ⟨i22, rfl, IntN.more (K := 2) ?_ xq⟩
  have e : z = Nt.sg false z.natAbs := by unfold Nt.sg; simp; omega
  rw [e]
  exact (h23.ext e28)
end Go.Proofs.YtbolmkfphieogaaGreat
