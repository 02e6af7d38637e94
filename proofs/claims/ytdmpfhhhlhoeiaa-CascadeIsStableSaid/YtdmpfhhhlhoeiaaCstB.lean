/- Parts of the proof: contracts of functions, each walked once, and plain laws. -/
import Derived.Test.YtdmpfhhhlhoeiaaCstA
import Derived.Deep.DeepCutAuto
import Derived.Deep.CutBlock
import Derived.WalkLawsBesides
import Derived.IntWalk
import Derived.KernelRfl
import Derived.Test.YtdmpfhhhlhoeiaaProg
import Derived.OpenShut
import Derived.ChangeSlices
import Derived.Deep.Slices
import Derived.Laws.MakeOwn
import Derived.Maps.AppendAt
import Derived.ArgAppend
namespace Go.Proofs.Ytdmpfhhhlhoeiaa.Nt
set_option linter.unusedVariables false

structure Leh (x y p0 q0 p q a b c d : Int) : Prop where
 ep : p = a * p0 + b * q0
 eq : q = c * p0 + d * q0
 sign : (0 ≤ a ∧ b ≤ 0 ∧ c ≤ 0 ∧ 0 ≤ d) ∨ (a ≤ 0 ∧ 0 ≤ b ∧ 0 ≤ c ∧ d ≤ 0)
 pa : 0 ≤ p + a
 pb : 0 ≤ p + b
 qc : 0 ≤ q + c
 qd : 0 ≤ q + d
 ba : -2147483647 ≤ a ∧ a ≤ 2147483647
 bb : -2147483647 ≤ b ∧ b ≤ 2147483647
 bc : -2147483647 ≤ c ∧ c ≤ 2147483647
 bd : -2147483647 ≤ d ∧ d ≤ 2147483647
 y0 : 0 ≤ c * x + d * y
 yx : c * x + d * y ≤ a * x + b * y
 xx : a * x + b * y ≤ x
 less : (a = 1 ∧ b = 0 ∧ c = 0 ∧ d = 1) ∨ c * x + d * y < y
 xy : (a = 1 ∧ b = 0 ∧ c = 0 ∧ d = 1) ∨ a * x + b * y ≤ y
 gcd : Int.gcd (a * x + b * y) (c * x + d * y) = Int.gcd x y
 pm : p ≤ 4611686018427387904
 qm : q ≤ 4611686018427387904

theorem Leh.start {x y p0 q0 : Int} (hy : 0 ≤ y) (hxy : y ≤ x) (hp : 0 ≤ p0) (hq : 0 ≤ q0) (hp' : p0 ≤ 4611686018427387904) (hq' : q0 ≤ 4611686018427387904) : Leh x y p0 q0 p0 q0 1 0 0 1 := by
 refine ⟨by omega, by omega, by omega, by omega, by omega, by omega, by omega, by omega, by omega, by omega, by omega, by omega, by omega, by omega, .inl ⟨rfl, rfl, rfl, rfl⟩, .inl ⟨rfl, rfl, rfl, rfl⟩, by simp, hp', hq'⟩
theorem Leh.p0 {x y p0 q0 p q a b c d : Int} (h : Leh x y p0 q0 p q a b c d) : 0 ≤ p := by
 have := h.pa; have := h.pb; rcases h.sign with s | s <;> omega
theorem Leh.q0 {x y p0 q0 p q a b c d : Int} (h : Leh x y p0 q0 p q a b c d) : 0 ≤ q := by
 have := h.qc; have := h.qd; rcases h.sign with s | s <;> omega

theorem fl {n m f : Int} (hm : 0 < m) (hf : f = n / m) : 0 ≤ n - f * m ∧ n - f * m < m := by
 have e := Int.mul_ediv_add_emod n m
 have h0 := Int.emod_nonneg n (b := m) xq
 have h1 := Int.emod_lt_of_pos n hm
 rw [hf, Int.mul_comm]; omega

theorem corner_ge {r e g K ex ey : Int} (hK : 0 ≤ K) (hx0 : 0 ≤ ex) (hx1 : ex ≤ K) (hy0 : 0 ≤ ey) (hy1 : ey ≤ K) (h : (0 ≤ e ∧ g ≤ 0 ∧ 0 ≤ r + g) ∨ (e ≤ 0 ∧ 0 ≤ g ∧ 0 ≤ r + e)) : 0 ≤ r * K + e * ex + g * ey := by
 rcases h with ⟨h1, h2, h3⟩ | ⟨h1, h2, h3⟩
 ·have a1 : 0 ≤ e * ex := Int.mul_nonneg h1 hx0
  have a2 : g * K ≤ g * ey := Int.mul_le_mul_of_nonpos_left h2 hy1
  have a3 : 0 ≤ (r + g) * K := Int.mul_nonneg h3 hK
  rw [Int.add_mul] at a3
  omega
 ·have a1 : 0 ≤ g * ey := Int.mul_nonneg h2 hy0
  have a2 : e * K ≤ e * ex := Int.mul_le_mul_of_nonpos_left h1 hx1
  have a3 : 0 ≤ (r + e) * K := Int.mul_nonneg h3 hK
  rw [Int.add_mul] at a3
  omega

theorem Leh.step {x y p0 q0 p q a b c d f K Z ex ey : Int} (h : Leh x y p0 q0 p q a b c d) (hK : 0 < K) (hZ : 0 < Z)
  (hx : x * Z = p0 * K + ex) (hx0 : 0 ≤ ex) (hx1 : ex < K) (hy : y * Z = q0 * K + ey) (hy0 : 0 ≤ ey) (hy1 : ey < K)
  (h1 : q + c ≠ 0) (h2 : q + d ≠ 0) (f1 : f = (p + a) / (q + c)) (f2 : f = (p + b) / (q + d))
  (be : -2147483647 ≤ a - f * c ∧ a - f * c ≤ 2147483647) (bg : -2147483647 ≤ b - f * d ∧ b - f * d ≤ 2147483647) :
  Leh x y p0 q0 q (p - f * q) c d (a - f * c) (b - f * d) ∧ (p - f * q) + (a - f * c) < q + c := by
 have u1 := fl (by have := h.qc; omega) f1
 have u2 := fl (by have := h.qd; omega) f2
 have f0 : 0 ≤ f := by rw [f1]; exact Int.ediv_nonneg h.pa h.qc
 have q0' := h.q0
 have hqm := h.qm
 have hpm := h.pm
 have e1 : (p - f * q) + (a - f * c) = (p + a) - f * (q + c) := by grind
 have e2 : (p - f * q) + (b - f * d) = (p + b) - f * (q + d) := by grind
 have s : (0 ≤ c ∧ d ≤ 0 ∧ a - f * c ≤ 0 ∧ 0 ≤ b - f * d) ∨ (c ≤ 0 ∧ 0 ≤ d ∧ 0 ≤ a - f * c ∧ b - f * d ≤ 0) := by
  rcases h.sign with ⟨s1, s2, s3, s4⟩ | ⟨s1, s2, s3, s4⟩
  ·have := Int.mul_nonpos_of_nonneg_of_nonpos f0 s3
   have := Int.mul_nonneg f0 s4
   omega
  ·have := Int.mul_nonpos_of_nonneg_of_nonpos f0 s4
   have := Int.mul_nonneg f0 s3
   omega
 -- the remainder is not negative
 have r0 : 0 ≤ (a - f * c) * x + (b - f * d) * y := by
  have k := corner_ge (r := p - f * q) (e := a - f * c) (g := b - f * d) (K := K) (ex := ex) (ey := ey) xq hx0 xq hy0 xq xq
  have e : (p - f * q) * K + (a - f * c) * ex + (b - f * d) * ey = ((a - f * c) * x + (b - f * d) * y) * Z := by
   have ex' : ex = x * Z - p0 * K := by omega
   have ey' : ey = y * Z - q0 * K := by omega
   rw [ex', ey', h.ep, h.eq]; grind
  rw [e] at k
  exact Int.nonneg_of_mul_nonneg_left k hZ
 -- and less than the divisor
 have r1 : (a - f * c) * x + (b - f * d) * y < c * x + d * y := by
  have k := corner_ge (r := -(p - f * q - q) - 1) (e := -(a - f * c - c)) (g := -(b - f * d - d)) (K := K) (ex := ex) (ey := ey) xq hx0 xq hy0 xq
   (by rcases s with s | s
       ·exact .inl ⟨by omega, by omega, by omega⟩
       ·exact .inr ⟨by omega, by omega, by omega⟩)
  have e : (-(p - f * q - q) - 1) * K + -(a - f * c - c) * ex + -(b - f * d - d) * ey = (c * x + d * y - ((a - f * c) * x + (b - f * d) * y)) * Z - K := by
   have ex' : ex = x * Z - p0 * K := by omega
   have ey' : ey = y * Z - q0 * K := by omega
   rw [ex', ey', h.ep, h.eq]; grind
  rw [e] at k
  have k' : 0 < (c * x + d * y - ((a - f * c) * x + (b - f * d) * y)) * Z := by omega
  rcases Int.lt_or_le 0 (c * x + d * y - ((a - f * c) * x + (b - f * d) * y)) with h' | h'
  ·omega
  ·have := Int.mul_nonpos_of_nonpos_of_nonneg h' (Int.le_of_lt hZ)
   omega
 refine ⟨⟨h.eq, by rw [h.ep, h.eq]; grind, s, h.qc, h.qd, by omega, by omega, h.bc, h.bd, be, bg, r0, by omega, ?_, ?_, ?_, ?_, hqm, ?_⟩, by omega⟩
 ·have := h.yx; have := h.xx; omega
 ·right
  rcases h.xy with ⟨_, _, rfl, rfl⟩ | hxy
  ·omega
  ·have := h.yx; omega
 ·right
  rcases h.less with ⟨_, _, rfl, rfl⟩ | hl
  ·omega
  ·omega
 ·rw [← h.gcd]
  have e : (a - f * c) * x + (b - f * d) * y = (a * x + b * y) - f * (c * x + d * y) := by grind
  rw [e, Int.gcd_comm, Int.sub_eq_add_neg, ← Int.neg_mul, Int.gcd_add_mul_right_left]
 ·have : 0 ≤ f * q := Int.mul_nonneg f0 q0'
  omega

theorem comb_step {S x y : List Int} {i : Nat} {f g cy t : Int} (hi : i < S.length) (h : valTo S i + cy * pw i = f * valTo x i + g * valTo y i) (ht : t = f * x[i]?.getD 0 + cy + g * y[i]?.getD 0) :
  valTo (S.set i (t % 4294967296)) (i + 1) + (t / 4294967296) * pw (i + 1) = f * valTo x (i + 1) + g * valTo y (i + 1) := by
 rw [zxl S _ hi, zyg, zyg, pw]
 have e := Int.mul_ediv_add_emod t 4294967296
 generalize t % 4294967296 = r at *
 generalize t / 4294967296 = q at *
 grind
theorem mul_range {f d : Int} (h0 : -2147483647 ≤ f) (h1 : f ≤ 2147483647) (d0 : 0 ≤ d) (d1 : d < 4294967296) : -9223372030412324865 ≤ f * d ∧ f * d ≤ 9223372030412324865 ∧ (0 ≤ f → 0 ≤ f * d) ∧ (f ≤ 0 → f * d ≤ 0) := by
 have a1 : f * d ≤ 2147483647 * d := Int.mul_le_mul_of_nonneg_right h1 d0
 have a2 : -2147483647 * d ≤ f * d := Int.mul_le_mul_of_nonneg_right h0 d0
 exact ⟨by omega, by omega, fun h => Int.mul_nonneg h d0, fun h => Int.mul_nonpos_of_nonpos_of_nonneg h d0⟩
theorem mul_range2 {f c : Int} (h0 : 0 ≤ f) (h1 : f ≤ 2147483647) (d0 : -2147483647 ≤ c) (d1 : c ≤ 2147483647) : -4611686014132420609 ≤ f * c ∧ f * c ≤ 4611686014132420609 := by
 have a1 : f * c ≤ f * 2147483647 := Int.mul_le_mul_of_nonneg_left d1 h0
 have a2 : f * (-2147483647) ≤ f * c := Int.mul_le_mul_of_nonneg_left d0 h0
 omega
end Go.Proofs.Ytdmpfhhhlhoeiaa.Nt
namespace Go.Proofs.Ytdmpfhhhlhoeiaa
open Go.RowKit
set_option linter.unusedVariables false
set_option maxHeartbeats 2000000 in
theorem combine_any (A B : Option Addr) (n c m d : Nat) (x y : List Int) (f g : Int) (w : World) (ha : SlR .u32 w A n c x) (hb : SlR .u32 w B m d y) (da : Nt.Dig x) (db : Nt.Dig y) (hn : n ≤ 1000000000) (hm : m ≤ n)
  (f0 : -2147483647 ≤ f) (f1 : f ≤ 2147483647) (g0 : -2147483647 ≤ g) (g1 : g ≤ 2147483647) (hfg : (0 ≤ f ∧ g ≤ 0) ∨ (f ≤ 0 ∧ 0 ≤ g)) (h0 : 0 ≤ f * Nt.val x + g * Nt.val y) (h1 : f * Nt.val x + g * Nt.val y ≤ Nt.val x) :
  Calls Try.prog 114 #[.slice A n c, .slice B m d, .int .i64 f, .int .i64 g] w fun e w' => ∃ A' n' c', e = .returned (.slice A' n' c') ∧ NatF w w' A' n' c' (f * Nt.val x + g * Nt.val y).toNat ∧ Below w.heap.size w w' := by
 have hlx := Lib.hid ha.1
 have hly := Lib.hid hb.1
 have Hda := Lib.hid da
 have Hdb := Lib.hid db
 have Hfg := Lib.hid hfg
 have H0 := Lib.hid h0
 have H1 := Lib.hid h1
 clear hfg h0 h1 da db
 go_enter Try.func114, Try.ntmps114
 go_wp2_with (at_make; refine zxg _ rfl (.tmp 15) (.tmp 15) _ rfl 119 .u32 4 Try.underlying78 zxj _ _ _ _ n rfl rfl ?L ?C ?b2 ?b3 ?_)
 case L => rfl
 case C => rfl
 case b2 => omega
 case b3 => unfold maxLen; omega
 intro w2 hk2 hb2' hz2
 have hb2 : Below w.heap.size w w2 := hb2'
 obtain ⟨gr, hg⟩ : ∃ g, g = w.heap.size := ⟨_, rfl⟩
 have hgw : w.heap.size ≤ gr := by omega
 rw [← hg] at hk2 ⊢
 clear hz2 hg hb2'
 go_wp2
 go_loopw [10, 19] (fun cv iv wr => ∃ (i : Nat) (cy : Int) (S : List Int), i ≤ n ∧ -2147483648 ≤ cy ∧ cy ≤ 2147483648 ∧ cv = .int .i64 cy ∧ iv = .int .i64 i ∧ KBlk .u32 wr gr 119 S ∧ Hid (S.length = n) ∧ Hid (Nt.Dig S) ∧ Hid (Nt.valTo S i + cy * Nt.pw i = f * Nt.valTo x i + g * Nt.valTo y i) ∧ Below w.heap.size w wr) (fun _ iv _ => n - (intOf iv).toNat)
 case atStart => exact ⟨0, 0, _, by omega, by omega, by omega, rfl, rfl, hk2, by simp [Hid], Nt.Dig.repl _, by simp [Hid, Nt.zxf], hb2⟩
 case round =>
  obtain ⟨i, cy, S, hi, c0, c1, rfl, rfl, hk, hS, dS, hv, hbr⟩ := hrel
  clear hk2 hb2
  by_cases hiX : i < n
  ·obtain ⟨b1, o1, rfl, _, hc1⟩ := (ha.below hbr).pos hiX
   have q1 := Hda.out.at i
   have hc3 := hk.cell (i := i) (by have := hS.out; omega)
   have hf3 := hk.frozen i
   obtain ⟨xi, hxi⟩ : ∃ xi, xi = x[i]?.getD 0 := ⟨_, rfl⟩
   rw [← hxi] at hc1 q1
   have Hxi := Lib.hid hxi
   have r1 := Nt.mul_range f0 f1 q1.1 q1.2
   clear hxi
   by_cases hiY : i < m
   ·obtain ⟨b2, o2, rfl, _, hc2⟩ := (hb.below hbr).pos hiY
    have q2 := Hdb.out.at i
    obtain ⟨yi, hyi⟩ : ∃ yi, yi = y[i]?.getD 0 := ⟨_, rfl⟩
    rw [← hyi] at hc2 q2
    have Hyi := Lib.hid hyi
    have r2 := Nt.mul_range g0 g1 q2.1 q2.2
    have hiY' : (i : Int) < m := by omega
    have Hst := Lib.hid (Nt.comb_step (t := f * xi + cy + g * yi) (by have := hS.out; omega) hv.out (by rw [Hxi.out, Hyi.out]))
    have t0 : -9223372034707292161 ≤ f * xi + cy + g * yi := by rcases Hfg.out with ⟨k1, k2⟩ | ⟨k1, k2⟩ <;> (have := r1.2.2.1; have := r1.2.2.2; have := r2.2.2.1; have := r2.2.2.2; omega)
    have t1 : f * xi + cy + g * yi ≤ 9223372034707292161 := by rcases Hfg.out with ⟨k1, k2⟩ | ⟨k1, k2⟩ <;> (have := r1.2.2.1; have := r1.2.2.2; have := r2.2.2.1; have := r2.2.2.2; omega)
    have s0 := r1.1
    have s1 := r1.2.1
    have s2 := r2.1
    have s3 := r2.2.1
    clear hyi r1 r2 hv
    go_wp2
    go_roundw
    case rel => exact ⟨i + 1, _, _, by omega, by omega, by omega, rfl, by go_num, hk.set i _, by have := hS.out; show _ = _; simpa using this, dS.out.set i xq, Hst.out, hbr.setCell (p := ⟨gr, i, none⟩) hgw _⟩
    case measure => simp [intOf]; omega
   ·have hiY' : ¬ (i : Int) < m := by omega
    have e0 : y[i]?.getD 0 = 0 := by rw [List.getElem?_eq_none (by have := hly.out; omega)]; rfl
    have Hst := Lib.hid (Nt.comb_step (t := f * xi + cy) (by have := hS.out; omega) hv.out (by rw [Hxi.out, e0]; simp))
    have s0 := r1.1
    have s1 := r1.2.1
    clear r1 hv e0
    go_wp2
    go_roundw
    case rel => exact ⟨i + 1, _, _, by omega, by omega, by omega, rfl, by go_num, hk.set i _, by have := hS.out; show _ = _; simpa using this, dS.out.set i xq, Hst.out, hbr.setCell (p := ⟨gr, i, none⟩) hgw _⟩
    case measure => simp [intOf]; omega
  ·obtain rfl : i = n := by omega
   have hval : Nt.val S = f * Nt.val x + g * Nt.val y := by
    have h1 := hv.out
    rw [Nt.zyh S (by have := hS.out; omega), Nt.zyh x (by have := hlx.out; omega), Nt.zyh y (by have := hly.out; omega)] at h1
    have h5 := Nt.val_lt dS.out
    have h6 := Nt.zxd dS.out
    have h7 := Nt.val_lt Hda.out
    have h8 := H0.out
    have h9 := H1.out
    rw [hS.out] at h5
    rw [hlx.out] at h7
    have hp := Nt.pw_pos i
    have : cy = 0 := by
     rcases Int.lt_trichotomy cy 0 with h | h | h
     ·have : cy * Nt.pw i ≤ (-1) * Nt.pw i := Int.mul_le_mul_of_nonneg_right xq xq
      omega
     ·exact h
     ·have : 1 * Nt.pw i ≤ cy * Nt.pw i := Int.mul_le_mul_of_nonneg_right xq xq
      omega
    rw [this] at h1
    omega
   have hsl := hk.slr_all (n := i) (c := i) hS.out xq yq
   have hfr := zwc (w0 := w) hk hS.out yq dS.out hgw
   rw [hval] at hfr
   have HF := Lib.hid hfr
   clear hval hfr
   go_wp2_with fail
   refine (zwk _ _ _ _ _ hsl).mono ?_
   rintro e w1 ⟨rfl, rfl⟩
   go_wp2
   go_ret
   exact ⟨_, _, _, rfl, HF.out, hbr⟩
def mx4 (x y z u : Int) : Int := let m1 := if y > x then y else x; let m2 := if z > m1 then z else m1; if u > m2 then u else m2
theorem mx4_lt (x y z u l : Int) : l < mx4 x y z u ↔ (l < x ∨ l < y ∨ l < z ∨ l < u) := by
 unfold mx4
 simp only []
 split <;> split <;> split <;> omega
theorem run_max4 {P : Program} (w : World) (ts : Array TypeId) (t : TypeId) (x y z u : Int) : (Builtin.max_ ts t #[.int .i64 x, .int .i64 y, .int .i64 z, .int .i64 u]).run P w = .ok (.int .i64 (mx4 x y z u)) w := by
 simp [Builtin.max_, Builtin.max2, mx4, List.foldlM]
def CofF (x y p0 q0 : Int) (e : Ending) : Prop := ∃ a b c d, e = .returned (.tuple #[.int .i64 a, .int .i64 b, .int .i64 c, .int .i64 d]) ∧ ∃ p q, Nt.Leh x y p0 q0 p q a b c d
set_option maxHeartbeats 2000000 in
theorem cofactors_any (x y p0 q0 K Z ex ey : Int) (w : World) (hK : 0 < K) (hZ : 0 < Z) (hx : x * Z = p0 * K + ex) (hx0 : 0 ≤ ex) (hx1 : ex < K) (hy : y * Z = q0 * K + ey) (hy0 : 0 ≤ ey) (hy1 : ey < K) (y0 : 0 ≤ y) (hxy : y ≤ x) (hp : 0 ≤ p0) (hq : 0 ≤ q0) (hp' : p0 ≤ 4611686018427387904) (hq' : q0 ≤ 4611686018427387904) :
  Calls Try.prog 112 #[.int .i64 p0, .int .i64 q0] w fun e w' => CofF x y p0 q0 e ∧ w = w' := by
 have Hx := Lib.hid hx
 have Hy := Lib.hid hy
 have H0 := Lib.hid (Nt.Leh.start y0 hxy hp hq hp' hq')
 have hmax := fun (w : World) (ts : Array TypeId) (t : TypeId) (x y z u : Int) => run_max4 (P := Try.prog) w ts t x y z u
 clear hx hy
 go_enter Try.func112, Try.ntmps112
 go_upto_block 0 with (fail)
 go_cut [4, 5, 6, 7] (fun s4 s5 s6 s7 wx => ∃ a b c d : Int, s4 = .int .i64 a ∧ s5 = .int .i64 b ∧ s6 = .int .i64 c ∧ s7 = .int .i64 d ∧ Hid (∃ p q, Nt.Leh x y p0 q0 p q a b c d) ∧ wx = w)
 case first =>
  go_wp2
  go_loop [0, 1, 4, 5, 6, 7] (fun s0 s1 s4 s5 s6 s7 => ∃ p q a b c d : Int, s0 = .int .i64 p ∧ s1 = .int .i64 q ∧ s4 = .int .i64 a ∧ s5 = .int .i64 b ∧ s6 = .int .i64 c ∧ s7 = .int .i64 d ∧ Hid (Nt.Leh x y p0 q0 p q a b c d)) (fun _ s1 _ _ s6 _ => (intOf s1 + intOf s6).toNat)
  case atStart => exact ⟨p0, q0, 1, 0, 0, 1, rfl, rfl, rfl, rfl, rfl, rfl, H0⟩
  case round =>
   obtain ⟨p, q, a, b, c, d, rfl, rfl, rfl, rfl, rfl, rfl, hL⟩ := hrel
   clear H0
   have k1 := hL.out.p0
   have k2 := hL.out.q0
   have k3 := hL.out.pm
   have k4 := hL.out.qm
   have k5 := hL.out.ba
   have k6 := hL.out.bb
   have k7 := hL.out.bc
   have k8 := hL.out.bd
   have m1 := hL.out.pa
   have m2 := hL.out.pb
   have m3 := hL.out.qc
   have m4 := hL.out.qd
   by_cases z1 : q + c = 0
   ·have z1' : (q + c != 0) = false := by rw [z1]; rfl
    clear z1
    go_wp2
    go_meet
    exact ⟨a, b, c, d, rfl, rfl, rfl, rfl, ⟨p, q, hL.out⟩, rfl⟩
   have z1' : (q + c != 0) = true := by rw [bne_iff_ne]; exact z1
   have z1'' : (q + c == 0) = false := by rw [beq_eq_false_iff_ne]; exact z1
   by_cases z2 : q + d = 0
   ·have z2' : (q + d != 0) = false := by rw [z2]; rfl
    clear z1 z2
    go_wp2
    go_meet
    exact ⟨a, b, c, d, rfl, rfl, rfl, rfl, ⟨p, q, hL.out⟩, rfl⟩
   have z2' : (q + d != 0) = true := by rw [bne_iff_ne]; exact z2
   have z2'' : (q + d == 0) = false := by rw [beq_eq_false_iff_ne]; exact z2
   have z3 : 1 ≤ q + c := by omega
   have z4 : 1 ≤ q + d := by omega
   have Hz1 := Lib.hid z1
   have Hz2 := Lib.hid z2
   obtain ⟨f, hf⟩ : ∃ f, (p + a) / (q + c) = f := ⟨_, rfl⟩
   have f0 : 0 ≤ f := by rw [← hf]; exact Int.ediv_nonneg m1 m3
   have Hf := Lib.hid hf
   by_cases e2 : (p + b) / (q + d) = f
   ·by_cases e3 : 2147483647 < f
    ·clear z1 z2
     go_wp2
     go_meet
     exact ⟨a, b, c, d, rfl, rfl, rfl, rfl, ⟨p, q, hL.out⟩, rfl⟩
    ·have He2 := Lib.hid e2
     have b1 := Nt.mul_range2 f0 xq k7.1 k7.2
     have b2 := Nt.mul_range2 f0 xq k8.1 k8.2
     have b3 := Nt.fl (n := p + a) (m := q + c) (f := f) xq hf.symm
     have b4 : f * (q + c) = f * q + f * c := Int.mul_add _ _ _
     have b5 : 0 ≤ f * q := Int.mul_nonneg f0 k2
     have b6 : f * q ≤ p + a - f * c := by omega
     have b1a := b1.1
     have b1b := b1.2
     have b2a := b2.1
     have b2b := b2.2
     by_cases hm : 2147483647 < mx4 (a - f * c) (-(a - f * c)) (b - f * d) (-(b - f * d))
     ·clear z1 z2 b4 b3
      go_wp2
      go_meet
      exact ⟨a, b, c, d, rfl, rfl, rfl, rfl, ⟨p, q, hL.out⟩, rfl⟩
     ·have hm' := hm
      rw [mx4_lt] at hm'
      have be : -2147483647 ≤ a - f * c ∧ a - f * c ≤ 2147483647 := by omega
      have bg : -2147483647 ≤ b - f * d ∧ b - f * d ≤ 2147483647 := by omega
      have hN := hL.out.step hK hZ Hx.out hx0 hx1 Hy.out hy0 hy1 Hz1.out Hz2.out Hf.out.symm He2.out.symm be bg
      have HN := Lib.hid hN.1
      have HM := Lib.hid hN.2
      clear z1 z2 b4 b3 hm' hN
      go_wp2
      go_round
      case rel => exact ⟨q, p - f * q, c, d, _, _, rfl, rfl, rfl, rfl, rfl, rfl, HN⟩
      case measure => simp [intOf]; have := HM.out; omega
   ·have e2' : (f != (p + b) / (q + d)) = true := by rw [bne_iff_ne]; exact fun h => e2 h.symm
    clear z1 z2
    go_wp2
    go_meet
    exact ⟨a, b, c, d, rfl, rfl, rfl, rfl, ⟨p, q, hL.out⟩, rfl⟩
 case rest =>
  obtain ⟨a, b, c, d, rfl, rfl, rfl, rfl, h, rfl⟩ := hcut
  go_wp2
  exact bodyPost_ret (v := .tuple #[.int .i64 a, .int .i64 b, .int .i64 c, .int .i64 d]) (by simp [results, Try.results112, go_sem]) rfl ⟨⟨a, b, c, d, rfl, h.out⟩, rfl⟩
namespace Nt
theorem or_add {x y : Int} {s : Nat} (h : s < 64) (h0 : 0 ≤ x) (hm : x % 2 ^ s = 0) (h1 : x < 18446744073709551616) (k0 : 0 ≤ y) (k1 : y < 2 ^ s) : bits .or .u64 x y = x + y := by
 have hp : (2 : Int) ^ s ≤ 9223372036854775808 := by
  have h1 : (2 : Nat) ^ s ≤ 2 ^ 63 := Nat.pow_le_pow_right xq xq
  have h2 : ((2 ^ s : Nat) : Int) ≤ ((2 ^ 63 : Nat) : Int) := Int.ofNat_le.2 h1
  simpa using h2
 exact bits_join .u64 64 xw (fun n h0 h1 => by rw [IntKind.wrap_u64]; omega) s _ _ h0 hm xq k0 k1 xq
def LeadF (a : List Int) (k s : Nat) (p : Int) : Prop := 0 ≤ p ∧ p < 4611686018427387904 ∧ ∃ ex, val a * 2 ^ s = p * (4 * pw (k + 1)) + ex ∧ 0 ≤ ex ∧ ex < 4 * pw (k + 1)
theorem lead_top {d1 d2 d3 : Int} {s : Nat} (hs : s < 32) (p1 : 0 ≤ d1) (p2 : 0 ≤ d2 ∧ d2 < 4294967296) (p3 : 0 ≤ d3 ∧ d3 < 4294967296) (ht : (d1 + 1) * 2 ^ s ≤ 4294967296) :
  0 ≤ (d1 * 4294967296 + d2) * 2 ^ s ∧ (d1 * 4294967296 + d2) * 2 ^ s + 2 ^ s ≤ 18446744073709551616 ∧ 0 ≤ d3 * 2 ^ s ∧ d3 * 2 ^ s < 9223372036854775808 ∧ 0 ≤ d3 * 2 ^ s / 4294967296 ∧ d3 * 2 ^ s / 4294967296 < 2 ^ s ∧ bits .or .u64 ((d1 * 4294967296 + d2) * 2 ^ s) (d3 * 2 ^ s / 4294967296) = (d1 * 4294967296 + d2) * 2 ^ s + d3 * 2 ^ s / 4294967296 := by
 have hp := p2_pos s
 have h3 := hi_lift hs p3.1 p3.2
 have a0 : 0 ≤ (d1 * 4294967296 + d2) * 2 ^ s := Int.mul_nonneg xq xq
 have a1 : (d1 * 4294967296 + d2 + 1) * 2 ^ s ≤ ((d1 + 1) * 4294967296) * 2 ^ s := Int.mul_le_mul_of_nonneg_right xq xq
 have a2 : ((d1 + 1) * 4294967296) * 2 ^ s = ((d1 + 1) * 2 ^ s) * 4294967296 := by rw [Int.mul_assoc, Int.mul_comm 4294967296, ← Int.mul_assoc]
 have a3 : (d1 * 4294967296 + d2 + 1) * 2 ^ s = (d1 * 4294967296 + d2) * 2 ^ s + 2 ^ s := by rw [Int.add_mul _ 1, Int.one_mul]
 exact ⟨a0, by omega, h3.1, h3.2.1, h3.2.2.1, h3.2.2.2, or_add xq a0 (Int.mul_emod_left _ _) xq h3.2.2.1 h3.2.2.2⟩
theorem lead_val {a : List Int} {k s : Nat} {d1 d2 d3 t : Int} (hs : s < 32) (da : Dig a) (hl : a.length ≤ k + 3) (e1 : d1 = a[k + 2]?.getD 0) (e2 : d2 = a[k + 1]?.getD 0) (e3 : d3 = a[k]?.getD 0) (ht : (d1 + 1) * 2 ^ s ≤ 4294967296) (hT : t = (d1 * 4294967296 + d2) * 2 ^ s + d3 * 2 ^ s / 4294967296) : LeadF a k s (t / 4) := by
 have p1 := da.at (k + 2)
 have p2 := da.at (k + 1)
 have p3 := da.at k
 rw [← e1] at p1
 rw [← e2] at p2
 rw [← e3] at p3
 obtain ⟨q0, q1, q2, q3, q4, q5, _⟩ := lead_top (d3 := d3) hs p1.1 p2 p3 ht
 have hp := p2_pos s
 have hk := pw_pos k
 have hv : val a = valTo a k + pw k * (d3 + 4294967296 * d2 + 4294967296 * 4294967296 * d1) := by
  rw [← zyh a hl, zyg, zyg, zyg, ← e1, ← e2, ← e3]
  simp only [pw]
  grind
 have hm := mod_p2 (x := d3) hs
 have hd := dig_lift (x := d3) (lo := 2 ^ s - 1) hs xq xq
 have v0 := zyz da k
 have v1 := zxr da k
 refine ⟨by omega, by omega, val a * 2 ^ s - t / 4 * (4 * pw (k + 1)), by omega, ?_⟩
 have e4 : val a * 2 ^ s = t * pw (k + 1) + (valTo a k * 2 ^ s + pw k * (d3 * 2 ^ s % 4294967296)) := by
  have e := Int.mul_ediv_add_emod (d3 * 2 ^ s) 4294967296
  rw [hT, hv]
  simp only [pw]
  generalize d3 * 2 ^ s / 4294967296 = q at *
  generalize d3 * 2 ^ s % 4294967296 = r at *
  grind
 have e5 : t * pw (k + 1) = t / 4 * (4 * pw (k + 1)) + (t % 4) * pw (k + 1) := by
  have e := Int.mul_ediv_add_emod t 4
  generalize t / 4 = q at *
  generalize t % 4 = r at *
  rw [← e]; grind
 have r0 : 0 ≤ valTo a k * 2 ^ s := Int.mul_nonneg v0 xq
 have r1 : valTo a k * 2 ^ s ≤ (pw k - 1) * 2 ^ s := Int.mul_le_mul_of_nonneg_right xq xq
 rw [Int.sub_mul, Int.one_mul] at r1
 have r2 : 0 ≤ pw k * (d3 * 2 ^ s % 4294967296) := Int.mul_nonneg xq xq
 have r3 : pw k * (d3 * 2 ^ s % 4294967296) ≤ pw k * (4294967296 - 2 ^ s) := Int.mul_le_mul_of_nonneg_left xq xq
 rw [Int.mul_sub] at r3
 have r4 : pw (k + 1) = pw k * 4294967296 := by rw [pw, Int.mul_comm]
 have r5 : 0 ≤ (t % 4) * pw (k + 1) := Int.mul_nonneg xq (by have := pw_pos (k + 1); omega)
 have r6 : (t % 4) * pw (k + 1) ≤ 3 * pw (k + 1) := Int.mul_le_mul_of_nonneg_right xq (by have := pw_pos (k + 1); omega)
 constructor <;> omega
end Nt
theorem at_any (i : Nat) (p : Addr) (A : Option Addr) (n c : Nat) (a : List Int) (w : World) (hp : w.cell? p = some (.slice A n c)) (ha : SlR .u32 w A n c a) (da : Nt.Dig a) (hi : i ≤ 2000000000) :
  Calls Try.prog 116 #[.int .i64 i, .pointer (some p)] w fun e w' => e = .returned (.int .u64 (a[i]?.getD 0)) ∧ w = w' := by
 have hl := ha.1
 have hm := ha.2.2.1
 have hc := ha.2.1
 unfold maxLen at hm
 have hx := da.at i
 by_cases h : i < n
 ·obtain ⟨b, o, rfl, hb, hcell⟩ := ha.pos h
  clear hl
  go_enter Try.func116, Try.ntmps116
  go_wp2
  go_ret
  exact ⟨rfl, rfl⟩
 ·have e : a[i]?.getD 0 = 0 := by rw [List.getElem?_eq_none xq]; rfl
  have E := Lib.hid e
  clear e hl
  go_enter Try.func116, Try.ntmps116
  go_wp2
  go_ret
  exact ⟨by rw [E.out]; rfl, rfl⟩
set_option maxHeartbeats 1000000 in
theorem leading_any (A : Option Addr) (n c k s : Nat) (a : List Int) (w : World) (ha : SlR .u32 w A n c a) (da : Nt.Dig a) (hn : n ≤ k + 3) (hk : k ≤ 1000000000) (hs : s < 32) (ht : (a[k + 2]?.getD 0 + 1) * 2 ^ s ≤ 4294967296) :
  Calls Try.prog 113 #[.slice A n c, .int .i64 (k + 3), .int .u64 s] w fun e w' => (∃ p, e = .returned (.int .i64 p) ∧ Nt.LeadF a k s p) ∧ Below w.heap.size w w' := by
 have p1 := da.at (k + 2)
 have p2 := da.at (k + 1)
 have p3 := da.at k
 obtain ⟨d1, e1⟩ : ∃ d, d = a[k + 2]?.getD 0 := ⟨_, rfl⟩
 obtain ⟨d2, e2⟩ : ∃ d, d = a[k + 1]?.getD 0 := ⟨_, rfl⟩
 obtain ⟨d3, e3⟩ : ∃ d, d = a[k]?.getD 0 := ⟨_, rfl⟩
 have E1 := Lib.hid e1
 have E2 := Lib.hid e2
 have E3 := Lib.hid e3
 rw [← e1] at p1 ht
 rw [← e2] at p2
 rw [← e3] at p3
 have hv := Nt.lead_val (t := (d1 * 4294967296 + d2) * 2 ^ s + d3 * 2 ^ s / 4294967296) hs da (by rw [ha.1]; exact hn) e1 e2 e3 ht rfl
 have HV := Lib.hid hv
 obtain ⟨q0, q1, q2, q3, q4, q5, q6⟩ := Nt.lead_top (d3 := d3) hs p1.1 p2 p3 ht
 have hp := Nt.p2_pos s
 have or1 := Nt.or_top p1.1 p1.2 p2.1 p2.2
 have hp2 := Nt.p2_le hs
 have hbox : (w.alloc (.cells #[.slice A n c] 78)).cell? ⟨w.heap.size, 0, none⟩ = some (.slice A n c) := by simp [World.cell?_alloc_new]
 have Hbox := Lib.hid hbox
 clear e1 e2 e3 hv ht hbox
 go_enter Try.func113, Try.ntmps113
 go_wp2_with fail
 rw [show ((k : Int) + 3 - 1) = ((k + 2 : Nat) : Int) by omega]
 refine (at_any (k + 2) _ A n c a _ Hbox.out (ha.alloc _) da xq).mono ?_
 rintro e w1 ⟨rfl, rfl⟩
 rw [← E1.out]
 go_wp2_with fail
 rw [show ((k : Int) + 3 - 2) = ((k + 1 : Nat) : Int) by omega]
 refine (at_any (k + 1) _ A n c a _ Hbox.out (ha.alloc _) da xq).mono ?_
 rintro e w1 ⟨rfl, rfl⟩
 rw [← E2.out]
 go_wp2_with fail
 refine (at_any k _ A n c a _ Hbox.out (ha.alloc _) da xq).mono ?_
 rintro e w1 ⟨rfl, rfl⟩
 rw [← E3.out]
 go_wp2
 go_ret
 exact ⟨⟨_, rfl, HV.out⟩, (Below.refl _ _).alloc (Nat.le_refl _) _⟩
theorem NatF.mono {w0 w1 w : World} {A : Option Addr} {n c v : Nat} (h : NatF w1 w A n c v) (hw : w0.heap.size ≤ w1.heap.size) : NatF w0 w A n c v :=
 ⟨h.1, h.2.1, fun hp => by obtain ⟨a, e, k, t⟩ := h.2.2 hp; exact ⟨a, e, by omega, t⟩⟩
namespace Nt
theorem top_le {x y : List Int} {k : Nat} (dx : Dig x) (dy : Dig y) (hx : x.length ≤ k + 1) (hy : y.length ≤ k + 1) (h : val y ≤ val x) : y[k]?.getD 0 ≤ x[k]?.getD 0 := by
 have ex : val x = valTo x k + pw k * x[k]?.getD 0 := by rw [← zyh x hx, zyg]
 have ey : val y = valTo y k + pw k * y[k]?.getD 0 := by rw [← zyh y hy, zyg]
 have a1 := zxr dx k
 have a2 := zyz dy k
 have hp := pw_pos k
 have : pw k * y[k]?.getD 0 < pw k * (x[k]?.getD 0 + 1) := by rw [Int.mul_add]; omega
 have := Int.lt_of_mul_lt_mul_left this xq
 omega
theorem zxk {x y : Nat} (h : y ≤ x) : (digits y).length ≤ (digits x).length := by
 rcases Nat.lt_or_ge (digits x).length (digits y).length with h' | h'
 ·have := len_lt (zyk x) (zyk y) (zxm y) h'
  rw [zyj, zyj] at this
  omega
 ·exact h'
theorem gcd_nat {a b x y : Int} (h : Int.gcd a b = Int.gcd x y) (a0 : 0 ≤ a) (b0 : 0 ≤ b) (x0 : 0 ≤ x) (y0 : 0 ≤ y) : Nat.gcd a.toNat b.toNat = Nat.gcd x.toNat y.toNat := by
 unfold Int.gcd at h
 rw [show a.natAbs = a.toNat by omega, show b.natAbs = b.toNat by omega, show x.natAbs = x.toNat by omega, show y.natAbs = y.toNat by omega] at h
 exact h
theorem lz_int {y : Int} (h0 : 0 < y) (h1 : y < 4294967296) : ∃ z : Nat, 32 - (Lib.bitLen y.toNat : Int) = z ∧ z < 32 ∧ (y + 1) * 2 ^ z ≤ 4294967296 := by
 obtain ⟨z, hz1, hz2, hz3, hz4⟩ := lz_spec (x := y.toNat) xq xq
 refine ⟨z, hz1, hz2, ?_⟩
 have e : ((y.toNat * 2 ^ z : Nat) : Int) = y * 2 ^ z := by rw [Int.natCast_mul, Int.natCast_pow]; congr 1; omega
 have hs := Nt.p2_split hz2
 have p0 := Nt.p2_pos z
 have h4 : y * 2 ^ z < 2 ^ (32 - z) * 2 ^ z := by rw [Int.mul_comm (2 ^ (32 - z)), hs]; omega
 have h5 := Int.lt_of_mul_lt_mul_right h4 xq
 have h6 : (y + 1) * 2 ^ z ≤ 2 ^ (32 - z) * 2 ^ z := Int.mul_le_mul_of_nonneg_right xq xq
 rw [Int.mul_comm (2 ^ (32 - z)), hs] at h6
 exact h6
end Nt
def ShF (w0 w w' : World) (e : Ending) (X Y : Nat) : Prop := ∃ A1 n1 c1 A2 n2 c2 X' Y', e = .returned (.tuple #[.slice A1 n1 c1, .slice A2 n2 c2]) ∧ NatF w0 w' A1 n1 c1 X' ∧ NatF w0 w' A2 n2 c2 Y' ∧ Y' ≤ X' ∧ Y' < Y ∧ X' ≤ X ∧ Nat.gcd X' Y' = Nat.gcd X Y ∧ Below w.heap.size w w'
set_option maxHeartbeats 1000000 in
theorem shorten_any (w0 w : World) (A B : Option Addr) (n c m d X Y : Nat) (ha : NatF w0 w A n c X) (hb : NatF w0 w B m d Y) (hw : w0.heap.size ≤ w.heap.size) (hn : n ≤ 1000000000) (hm : 2 < m) (hle : Y ≤ X) :
  Calls Try.prog 103 #[.slice A n c, .slice B m d] w fun e w' => ShF w0 w w' e X Y := by
 have hmn : m ≤ n := by rw [ha.1, hb.1]; exact Nt.zxk hle
 obtain ⟨k, hk⟩ : ∃ k, n = k + 3 := ⟨n - 3, by omega⟩
 subst hk
 have dx := Nt.zyk X
 have dy := Nt.zyk Y
 have ex := Nt.zyj X
 have ey := Nt.zyj Y
 have hy0 : 0 < Y := by
  rcases Nat.eq_zero_or_pos Y with h | h
  ·have := hb.1; rw [h, Nt.zxb] at this; simp at this; omega
  ·exact h
 have tx := Nt.norm_last (k := k + 2) (Nt.zxm X) ha.1.symm
 have bx := dx.at (k + 2)
 obtain ⟨z, hz1, hz2, hz3⟩ := Nt.lz_int (y := (Nt.digits X)[k + 2]?.getD 0) xq xq
 have hty := Nt.top_le (k := k + 2) dx dy (by rw [← ha.1]; exact Nat.le_refl _) (by rw [← hb.1]; exact hmn) (by rw [ex, ey]; omega)
 have hz4 : ((Nt.digits Y)[k + 2]?.getD 0 + 1) * 2 ^ z ≤ 4294967296 := by
  have : ((Nt.digits Y)[k + 2]?.getD 0 + 1) * 2 ^ z ≤ ((Nt.digits X)[k + 2]?.getD 0 + 1) * 2 ^ z := Int.mul_le_mul_of_nonneg_right xq (by have := Nt.p2_pos z; omega)
  omega
 obtain ⟨b1, o1, he1, _, hc1⟩ := ha.2.1.pos (i := k + 2) xq
 subst he1
 obtain ⟨t, ht⟩ : ∃ t, t = (Nt.digits X)[k + 2]?.getD 0 := ⟨_, rfl⟩
 have Ha := Lib.hid ha
 have Hb := Lib.hid hb
 have Hz1 : Hid (32 - (Lib.bitLen t.toNat : Int) = z) := by rw [ht]; exact hz1
 have Hz3 := Lib.hid hz3
 have Hz4 := Lib.hid hz4
 have Ex := Lib.hid ex
 have Ey := Lib.hid ey
 rw [← ht] at hc1 bx tx
 clear ha hb ex ey hz1 hz3 hz4 ht hty
 go_enter Try.func103, Try.ntmps103
 go_wp2_with fail
 refine (LeadingZeros32_any t _ bx.1 bx.2).mono ?_
 rintro e w1 ⟨rfl, rfl⟩
 rw [Hz1.out]
 have hlz : (0 : Int) ≤ (z : Int) ∧ (z : Int) < 32 := by omega
 go_wp2_with fail
 refine (leading_any _ _ _ k z _ _ Ha.out.2.1 dx (Nat.le_refl _) xq hz2 Hz3.out).mono ?_
 rintro e w2 ⟨⟨p, rfl, hp⟩, hb2⟩
 have Hp := Lib.hid hp
 clear hp
 go_wp2_with fail
 refine (leading_any _ _ _ k z _ _ (Hb.out.2.1.below hb2) dy hmn xq hz2 Hz4.out).mono ?_
 rintro e w3 ⟨⟨q, rfl, hq⟩, hb3⟩
 have Hq := Lib.hid hq
 have HB3 : Hid (Below w1.heap.size w1 w3) := hb2.trans (hb3.mono hb2.size)
 clear hq hb2 hb3
 obtain ⟨p0, p1, ex, hex, ex0, ex1⟩ := Hp.out
 obtain ⟨q0, q1, ey, hey, ey0, ey1⟩ := Hq.out
 rw [Ex.out] at hex
 rw [Ey.out] at hey
 have HC := cofactors_any X Y p q (4 * Nt.pw (k + 1)) (2 ^ z) ex ey w3 (by have := Nt.pw_pos (k + 1); omega) (Nt.p2_pos z) hex ex0 ex1 hey ey0 ey1 xq xq p0 q0 xq xq
 clear hex hey ex0 ex1 ey0 ey1
 go_wp2_with fail
 refine HC.mono ?_
 rintro e w4 ⟨⟨a, b, c', d', rfl, hL⟩, rfl⟩
 have HL := Lib.hid hL
 clear hL HC
 by_cases hb0 : b = 0
 ·subst hb0
  go_wp2_with fail
  refine (divide_any _ _ _ _ _ _ _ _ _ (Ha.out.2.1.below HB3.out) (Hb.out.2.1.below HB3.out) dx dy (Nt.zxm X) (Nt.zxm Y) xq xq).mono ?_
  rintro e w5 ⟨A1, n1, c1, A2, n2, c2, rfl, f1, f2, hbl⟩
  have F2 := Lib.hid f2
  have Hbl := Lib.hid hbl
  clear f1 f2 hbl
  go_wp2
  go_ret2
  have f2 := F2.out
  rw [Ex.out, Ey.out, ← Int.natCast_emod, Int.toNat_natCast] at f2
  have hs := HB3.out.size
  have hr := Nat.mod_lt X hy0
  refine ⟨B, m, d, A2, n2, c2, Y, X % Y, rfl, (Hb.out.below HB3.out).below Hbl.out, f2.mono xq, by omega, hr, hle, ?_, HB3.out.trans (Hbl.out.mono hs)⟩
  rw [Nat.gcd_comm X Y, Nat.gcd_rec Y X, Nat.gcd_comm]
 ·have hbb : (b == 0) = false := by rw [beq_eq_false_iff_ne]; exact hb0
  obtain ⟨P, Q, l⟩ := HL.out
  have s1 : (0 ≤ a ∧ b ≤ 0) ∨ (a ≤ 0 ∧ 0 ≤ b) := by rcases l.sign with s | s <;> omega
  have s2 : (0 ≤ c' ∧ d' ≤ 0) ∨ (c' ≤ 0 ∧ 0 ≤ d') := by rcases l.sign with s | s <;> omega
  have hy1 := l.y0
  have hyx := l.yx
  have hxx := l.xx
  have hlt : c' * X + d' * Y < Y := by rcases l.less with h | h; exact absurd h.2.1 hb0; exact h
  have hg := l.gcd
  have H := Lib.hid hy1
  have H2 := Lib.hid hyx
  have H3 := Lib.hid hxx
  have H4 := Lib.hid hlt
  have H5 := Lib.hid hg
  have la := l.ba
  have lb := l.bb
  have lc := l.bc
  have ld := l.bd
  clear l hy1 hyx hxx hlt hg hb0 HL Hp Hq
  go_wp2_with fail
  refine (combine_any _ _ _ _ _ _ _ _ a b _ (Ha.out.2.1.below HB3.out) (Hb.out.2.1.below HB3.out) dx dy xq hmn la.1 la.2 lb.1 lb.2 s1 (by rw [Ex.out, Ey.out]; have := H.out; have := H2.out; omega) (by rw [Ex.out, Ey.out]; exact H3.out)).mono ?_
  rintro e w5 ⟨A1, n1, c1, rfl, f1, hbl1⟩
  rw [Ex.out, Ey.out] at f1
  have F1 := Lib.hid f1
  have HB5 : Hid (Below w1.heap.size w1 w5) := HB3.out.trans (hbl1.mono HB3.out.size)
  clear f1
  go_wp2_with fail
  refine (combine_any _ _ _ _ _ _ _ _ c' d' _ (Ha.out.2.1.below HB5.out) (Hb.out.2.1.below HB5.out) dx dy xq hmn lc.1 lc.2 ld.1 ld.2 s2 (by rw [Ex.out, Ey.out]; exact H.out) (by rw [Ex.out, Ey.out]; have := H2.out; have := H3.out; omega)).mono ?_
  rintro e w6 ⟨A2, n2, c2, rfl, f2, hbl2⟩
  rw [Ex.out, Ey.out] at f2
  have F2 := Lib.hid f2
  have HB6 := Lib.hid hbl2
  clear f2 hbl1 hbl2
  go_wp2
  go_ret2
  have h1 := H.out
  have h2 := H2.out
  have h3 := H3.out
  have h4 := H4.out
  have hs := HB3.out.size
  have hs5 := HB5.out.size
  refine ⟨A1, n1, c1, A2, n2, c2, (a * X + b * Y).toNat, (c' * X + d' * Y).toNat, rfl, (F1.out.mono xq).below HB6.out, F2.out.mono xq, by omega, by omega, by omega, ?_, HB5.out.trans (HB6.out.mono hs5)⟩
  have := Nt.gcd_nat H5.out xq xq xq xq
  simpa using this
def sval (w : World) : Value → Nat
 | .slice (some a) n _ => (Nt.val ((List.range n).map fun i => match w.cell? ⟨a.block, a.off + i, none⟩ with | some (.int _ x) => x | _ => 0)).toNat
 | _ => 0
theorem sval_slr {w : World} {A : Option Addr} {n c : Nat} {l : List Int} (h : SlR .u32 w A n c l) : sval w (.slice A n c) = (Nt.val l).toNat := by
 rcases Nat.eq_zero_or_pos n with h0 | h0
 ·subst h0
  have : l = [] := List.eq_nil_of_length_eq_zero h.1
  subst this
  rcases A with _ | a <;> simp [sval, Nt.val]
 ·obtain ⟨b, o, rfl, hb, hc⟩ := h.2.2.2 h0
  show (Nt.val ((List.range n).map fun i => match w.cell? ⟨b, o + i, none⟩ with | some (.int _ x) => x | _ => 0)).toNat = _
  congr 2
  apply List.ext_getElem
  ·simp [h.1]
  ·intro i h1 h2
   simp at h1
   simp only [List.getElem_map, List.getElem_range]
   rw [hc i h1]
   simp [h2]
namespace Nt
theorem two_digits {p : Nat} (h : p < 18446744073709551616) : strip [((p % 4294967296 : Nat) : Int), ((p / 4294967296 : Nat) : Int)] = digits p := by
 have hd : Dig [((p % 4294967296 : Nat) : Int), ((p / 4294967296 : Nat) : Int)] := Dig.cons xq (Dig.cons xq Dig.nil)
 rw [zxs hd]
 congr 1
 simp [val]; omega
theorem digits_two {v : Nat} (h : (digits v).length ≤ 2) : v < 18446744073709551616 := by
 have h1 := val_lt (zyk v)
 have h2 := pw_mono h
 rw [zyj] at h1
 simp [pw] at h2
 omega
end Nt
set_option maxHeartbeats 2000000 in
theorem Gcd_any (A B : Option Addr) (n c m d : Nat) (a b : List Int) (w : World) (ha : SlR .u32 w A n c a) (hb : SlR .u32 w B m d b) (da : Nt.Dig a) (db : Nt.Dig b) (hn : n ≤ 1000000000) (hm : m ≤ 1000000000) :
  Calls Try.prog 93 #[.slice A n c, .slice B m d] w fun e w' => ∃ A' n' c', e = .returned (.slice A' n' c') ∧ NatF w w' A' n' c' (Nat.gcd (Nt.val a).toNat (Nt.val b).toNat) ∧ Below w.heap.size w w' := by
 have l1 : Hid ((Nt.digits (Nt.val a).toNat).length ≤ n) := by rw [← Nt.zxs da, ← ha.1]; exact Nt.zyi a
 have l2 : Hid ((Nt.digits (Nt.val b).toNat).length ≤ m) := by rw [← Nt.zxs db, ← hb.1]; exact Nt.zyi b
 go_enter Try.func93, Try.ntmps93
 go_wp2_with fail
 refine (Trim_any _ _ _ _ _ ha da hn).mono ?_
 rintro e w1 ⟨A1, n1, c1, rfl, f1, b1⟩
 go_wp2_with fail
 refine (Trim_any _ _ _ _ _ (hb.below b1) db hm).mono ?_
 rintro e w2 ⟨A2, n2, c2, rfl, f2, b2⟩
 have g1 : NatF w w2 A1 n1 c1 (Nt.val a).toNat := f1.below b2
 have g2 : NatF w w2 A2 n2 c2 (Nt.val b).toNat := f2.mono b1.size
 have hB : Below w.heap.size w w2 := b1.trans (b2.mono b1.size)
 have hL1 : n1 ≤ 1000000000 := by have := f1.1; have := l1.out; omega
 have hL2 : n2 ≤ 1000000000 := by have := f2.1; have := l2.out; omega
 clear f1 f2 b1 b2 ha hb l1 l2 da db
 obtain ⟨X, hX⟩ : ∃ X, X = (Nt.val a).toNat := ⟨_, rfl⟩
 obtain ⟨Y, hY⟩ : ∃ Y, Y = (Nt.val b).toNat := ⟨_, rfl⟩
 obtain ⟨G, hG⟩ : ∃ G, G = Nat.gcd (Nt.val a).toNat (Nt.val b).toNat := ⟨_, rfl⟩
 have HG := Lib.hid hG
 have HG2 : Hid (Nat.gcd X Y = G) := by show _ = _; rw [hX, hY, hG]
 rw [← hX] at g1
 rw [← hY] at g2
 have G1 := Lib.hid g1
 have G2 := Lib.hid g2
 have HB := Lib.hid hB
 clear hX hY hG g1 g2 hB
 go_wp2_with fail
 refine (Compare_any _ _ _ _ _ _ _ _ _ G1.out.2.1 G2.out.2.1 (Nt.zyk X) (Nt.zyk Y)).mono ?_
 rintro e w3 ⟨rfl, q, rfl⟩
 rw [Nt.zyj, Nt.zyj]
 have K1 : Hid (NatF w (w2.drewN q) A1 n1 c1 X) := G1.out
 have K2 : Hid (NatF w (w2.drewN q) A2 n2 c2 Y) := G2.out
 have KB : Hid (Below w.heap.size w (w2.drewN q)) := ⟨HB.out.os, HB.out.tape, HB.out.output, HB.out.size, HB.out.block⟩
 generalize w2.drewN q = w3 at *
 clear G1 G2 HB
 go_upto_if 18 with (fail)
 go_cut [5, 6] (fun s5 s6 wx => ∃ A1 n1 c1 A2 n2 c2 X Y, s5 = .slice A1 n1 c1 ∧ s6 = .slice A2 n2 c2 ∧ Hid (NatF w wx A1 n1 c1 X) ∧ Hid (NatF w wx A2 n2 c2 Y) ∧ Hid (Below w.heap.size w wx) ∧ n1 ≤ 1000000000 ∧ n2 ≤ 1000000000 ∧ Hid (Y ≤ X) ∧ Hid (Nat.gcd X Y = G))
 case first =>
  by_cases hlt : X < Y
  ·have hc : Nt.cmpS X Y = -1 := by unfold Nt.cmpS; rw [if_pos xq]
   have Hle : Hid (X ≤ Y) := by show _ ≤ _; omega
   clear hlt
   go_wp2_with fail
   go_meet
   exact ⟨A2, n2, c2, A1, n1, c1, Y, X, rfl, rfl, K2, K1, KB, hL2, hL1, Hle, by show _ = _; rw [Nat.gcd_comm]; exact HG2.out⟩
  ·have hc : 0 ≤ Nt.cmpS X Y := by unfold Nt.cmpS; rw [if_neg xq]; split <;> omega
   have Hle : Hid (Y ≤ X) := by show _ ≤ _; omega
   clear hlt
   go_wp2_with fail
   go_meet
   exact ⟨A1, n1, c1, A2, n2, c2, X, Y, rfl, rfl, K1, K2, KB, hL1, hL2, Hle, HG2⟩
 case rest =>
  clear K1 K2 KB HG2 hL1 hL2
  obtain ⟨A1, n1, c1, A2, n2, c2, X, Y, rfl, rfl, K1, K2, KB, hL1, hL2, Hle, HG2⟩ := hcut
  go_wp2
  go_loopw [5, 6] (fun s5 s6 wx => ∃ A1 n1 c1 A2 n2 c2 X Y, s5 = .slice A1 n1 c1 ∧ s6 = .slice A2 n2 c2 ∧ Hid (NatF w wx A1 n1 c1 X) ∧ Hid (NatF w wx A2 n2 c2 Y) ∧ Hid (Below w.heap.size w wx) ∧ n1 ≤ 1000000000 ∧ n2 ≤ 1000000000 ∧ Hid (Y ≤ X) ∧ Hid (Nat.gcd X Y = G)) (fun _ s6 wx => sval wx s6)
  case atStart => exact ⟨A1, n1, c1, A2, n2, c2, X, Y, rfl, rfl, K1, K2, KB, hL1, hL2, Hle, HG2⟩
  case round =>
   clear K1 K2 KB Hle HG2 hL1 hL2
   obtain ⟨A1, n1, c1, A2, n2, c2, X, Y, rfl, rfl, K1, K2, KB, hL1, hL2, Hle, HG2⟩ := hrel
   by_cases h2 : 2 < n2
   ·have h2' : (2 : Int) < n2 := by omega
    go_wp2_with fail
    refine (shorten_any w _ _ _ _ _ _ _ X Y K1.out K2.out KB.out.size hL1 h2 Hle.out).mono ?_
    rintro e w5 ⟨A3, n3, c3, A4, n4, c4, X', Y', rfl, k1, k2, k3, k4, k5, k6, k7⟩
    have E1 := Lib.hid k1
    have E2 := Lib.hid k2
    have E3 := Lib.hid k3
    have E4 := Lib.hid k4
    have E6 := Lib.hid k6
    have E7 := Lib.hid k7
    have j1 : n3 ≤ 1000000000 := by have e1 := k1.1; have e2 := K1.out.1; have := Nt.zxk k5; omega
    have j2 : n4 ≤ 1000000000 := by have e1 := k2.1; have e2 := K2.out.1; have := Nt.zxk (Nat.le_of_lt k4); omega
    have Hms : Hid (sval w5 (.slice A4 n4 c4) < sval wr (.slice A2 n2 c2)) := by
     show _ < _
     rw [sval_slr k2.2.1, sval_slr K2.out.2.1, Nt.zyj, Nt.zyj]
     omega
    clear k1 k2 k3 k4 k5 k6 k7
    go_wp2
    go_roundw
    case rel => exact ⟨A3, n3, c3, A4, n4, c4, X', Y', rfl, rfl, E1, E2, KB.out.trans (E7.out.mono KB.out.size), j1, j2, E3, by show _ = _; rw [E6.out]; exact HG2.out⟩
    case measure => exact Hms.out
   ·have h2' : ¬ (2 : Int) < n2 := by omega
    rcases Nat.eq_zero_or_pos n2 with h0 | h0
    ·subst h0
     have hY : Hid (X = G) := by
      have e1 := K2.out.1
      have : Y = 0 := by
       rcases Nat.eq_zero_or_pos Y with h | h
       ·exact h
       ·have := Nt.zwo h; omega
      have e2 := HG2.out
      rw [this, Nat.gcd_zero_right] at e2
      exact e2
     go_wp2
     go_ret
     refine ⟨A1, n1, c1, rfl, ?_, KB.out⟩
     rw [← HG.out, ← hY.out]
     exact K1.out
    ·have h0' : ((n2 : Int) == 0) = false := by rw [beq_eq_false_iff_ne]; omega
     go_wp2_with fail
     refine (divide_any _ _ _ _ _ _ _ _ _ K1.out.2.1 K2.out.2.1 (Nt.zyk X) (Nt.zyk Y) (Nt.zxm X) (Nt.zxm Y) hL1 h0).mono ?_
     rintro e w5 ⟨A3, n3, c3, A4, n4, c4, rfl, f1, f2, hbl⟩
     have hYp : 0 < Y := by
      rcases Nat.eq_zero_or_pos Y with h | h
      ·have e1 := K2.out.1; rw [h, Nt.zxb] at e1; simp at e1; omega
      ·exact h
     rw [Nt.zyj, Nt.zyj, ← Int.natCast_emod, Int.toNat_natCast] at f2
     have hr := Nat.mod_lt X hYp
     have hY2 : Y < 18446744073709551616 := Nt.digits_two (by rw [← K2.out.1]; omega)
     have F2 := Lib.hid f2
     have hn4 : n4 ≤ 2 := by rw [f2.1]; have := Nt.zxk (Nat.le_of_lt hr); rw [← K2.out.1] at this; omega
     have hG' : Hid (Nat.gcd Y (X % Y) = G) := by show _ = _; rw [← HG2.out, Nat.gcd_comm X Y, Nat.gcd_rec Y X, Nat.gcd_comm]
     have HB5 : Hid (Below w.heap.size w w5) := KB.out.trans (hbl.mono KB.out.size)
     have HK2 := Lib.hid (K2.out.2.1.below hbl)
     clear f1 f2 hbl
     go_wp2_with fail
     refine (small_any _ _ _ _ _ HK2.out (Nt.zyk Y) xq).mono ?_
     rintro e w6 ⟨rfl, rfl⟩
     go_wp2_with fail
     refine (small_any _ _ _ _ _ F2.out.2.1 (Nt.zyk _) hn4).mono ?_
     rintro e w6 ⟨rfl, rfl⟩
     rw [Nt.zyj, Nt.zyj]
     obtain ⟨R, hR⟩ : ∃ R, R = X % Y := ⟨_, rfl⟩
     rw [← hR] at hG' hr ⊢
     clear hR F2 HK2 K1 K2 Hle HG2 h2 h2' h0 h0'
     go_wp2
     obtain ⟨wo, rfl⟩ : ∃ wo : World, wo = wr := ⟨_, rfl⟩
     go_loopw [9, 10] (fun s9 s10 wr => ∃ P Q : Nat, P < 18446744073709551616 ∧ Q < 18446744073709551616 ∧ s9 = .int .u64 P ∧ s10 = .int .u64 Q ∧ Hid (Nat.gcd P Q = G) ∧ Hid (Below w.heap.size w wr)) (fun _ s10 _ => (intOf s10).toNat)
     case atStart => exact ⟨Y, R, hY2, by omega, rfl, rfl, hG', HB5⟩
     case round =>
      clear hG' HB5
      obtain ⟨P, Q, hP, hQ, rfl, rfl, hG', HB5⟩ := hrel
      rcases Nat.eq_zero_or_pos Q with hq | hq
      ·subst hq
       have hPG : Hid (P = G) := by have := hG'.out; rw [Nat.gcd_zero_right] at this; exact this
       have hs : SlR .u32 (wr.alloc (.cells #[.int .u32 ((P : Int) % 4294967296), .int .u32 ((P : Int) / 4294967296)] 119)) (some ⟨wr.heap.size, 0, none⟩) 2 2 [(P : Int) % 4294967296, (P : Int) / 4294967296] := (KBlk.new wr 119 [(P : Int) % 4294967296, (P : Int) / 4294967296]).slr_all rfl (Nat.le_refl _) xw
       have Hs := Lib.hid hs
       have e2 : Nt.strip [(P : Int) % 4294967296, (P : Int) / 4294967296] = Nt.digits P := by
        have := Nt.two_digits (p := P) hP
        simpa using this
       have hf := zwc (w0 := w) (m := 2) (KBlk.new wr 119 [(P : Int) % 4294967296, (P : Int) / 4294967296]) rfl xw (Nt.Dig.cons xq (Nt.Dig.cons xq Nt.Dig.nil)) (by have := HB5.out.size; omega)
       have e3 : (Nt.val [(P : Int) % 4294967296, (P : Int) / 4294967296]).toNat = P := by simp [Nt.val]; omega
       rw [e3] at hf
       have HF := Lib.hid hf
       clear hs e2 hf e3
       go_wp2_with fail
       refine (zwk _ _ _ _ _ Hs.out).mono ?_
       rintro e w7 ⟨rfl, rfl⟩
       go_wp2
       go_ret
       refine ⟨_, _, _, rfl, ?_, HB5.out.alloc HB5.out.size _⟩
       rw [← HG.out, ← hPG.out]
       exact HF.out
      ·have hqb : ((Q : Int) == 0) = false := by rw [beq_eq_false_iff_ne]; omega
       have hqn : ((Q : Int) != 0) = true := by rw [bne_iff_ne]; omega
       have hB2 : Hid (∀ k, Below w.heap.size w (wr.drewN k)) := fun k => ⟨HB5.out.os, HB5.out.tape, HB5.out.output, HB5.out.size, HB5.out.block⟩
       have hg2 : Hid (Nat.gcd Q (P % Q) = G) := by show _ = _; rw [← hG'.out, Nat.gcd_comm P Q, Nat.gcd_rec Q P, Nat.gcd_comm]
       have hr := Nat.mod_lt P hq
       clear hG' HB5
       go_wp2
       go_quiet (fail)
       have HB7 := Lib.hid (hB2.out nq)
       go_wp2
       go_roundw
       case rel => exact ⟨Q, P % Q, hQ, by omega, rfl, by go_num, hg2, HB7⟩
       case measure => simp [intOf]; omega
namespace Nt
end Nt
theorem OwnK.blk {k : IntKind} {w : World} {B : Nat} {t : TypeId} {A : Option Addr} {n c : Nat} {l : List Int} (h : OwnK k w B t A n c l) : ∀ a, A = some a → B ≤ a.block ∧ a.block < w.heap.size := by
 intro a ha
 rcases h.2.2 with ⟨he, _⟩ | ⟨g, cap, cur, he, hg, hh, _⟩
 ·injection he with e1; rw [e1] at ha; cases ha
 ·injection he with e1
  rw [e1] at ha
  injection ha with ha
  subst ha
  refine ⟨hg, ?_⟩
  rcases Nat.lt_or_ge g w.heap.size with hlt | hge
  ·exact hlt
  ·rw [Array.getElem?_eq_none hge] at hh; cases hh
namespace Nt
theorem Dig.snoc {l : List Int} (h : Dig l) {x : Int} (hx : 0 ≤ x ∧ x < 4294967296) : Dig (l ++ [x]) := h.append (Dig.cons hx Dig.nil)
end Nt
theorem Below.drewN' {B : Nat} {w w' : World} (h : Below B w w') (k : Nat) : Below B w (w'.drewN k) := ⟨h.os, h.tape, h.output, h.size, h.block⟩
namespace Nt
end Nt
namespace Nt
end Nt
namespace Nt
structure DigP (j n i : Nat) (L v S : List Int) (q cr bo : Int) : Prop where
 len : S.length = L.length
 dig : Dig S
 sum : valTo (S.drop j) i + q * valTo v i = valTo (L.drop j) i + (cr + bo) * pw i
 same : ∀ k, k < j ∨ j + i ≤ k → S[k]? = L[k]?
theorem DigP.next {j n i : Nat} {L v S : List Int} {q cr bo d x p t : Int} (h : DigP j n i L v S q cr bo) (hj : j + (n + 2) + 1 ≤ L.length) (hi : i < n + 2) (hd : d = v[i]?.getD 0) (hx : x = S[j + i]?.getD 0) (hp : p = q * d + cr) (ht : t = x - p % 4294967296 - bo) (t0 : -4294967296 ≤ t) (t1 : t < 4294967296) :
  DigP j n (i + 1) L v (S.set (j + i) (t % 4294967296)) q (p / 4294967296) (if t < 0 then 1 else 0) := by
 refine ⟨by rw [List.length_set]; exact h.len, h.dig.set _ xq, ?_, ?_⟩
 ·rw [drop_set]
  refine ms_step (M := S.drop j) (u := L.drop j) (v := v) (p := p) (t := t) (by have := h.len; simp; omega) h.sum ?_ (by rw [← hd]; exact hp) (by rw [zxi, ← hx]; exact ht) t0 t1
  rw [zxi, zxi, h.same (j + i) (.inr (Nat.le_refl _))]
 ·intro k hk
  rw [List.getElem?_set_ne xq]
  exact h.same k xq
structure DigQ (j n i : Nat) (M v R : List Int) (c : Int) : Prop where
 len : R.length = M.length
 dig : Dig R
 sum : valTo (R.drop j) i + c * pw i = valTo (M.drop j) i + valTo v i
 same : ∀ k, k < j ∨ j + i ≤ k → R[k]? = M[k]?
theorem DigQ.next {j n i : Nat} {M v R : List Int} {c d x t : Int} (h : DigQ j n i M v R c) (hj : j + (n + 2) + 1 ≤ M.length) (hi : i < n + 2) (hd : d = v[i]?.getD 0) (hx : x = R[j + i]?.getD 0) (ht : t = x + d + c) :
  DigQ j n (i + 1) M v (R.set (j + i) (t % 4294967296)) (t / 4294967296) := by
 refine ⟨by rw [List.length_set]; exact h.len, h.dig.set _ xq, ?_, ?_⟩
 ·rw [drop_set]
  refine ab_step (M := M.drop j) (R := R.drop j) (v := v) (t := t) (by have := h.len; simp; omega) h.sum ?_ (by rw [zxi, ← hx, ← hd]; exact ht)
  rw [zxi, zxi, h.same (j + i) (.inr (Nat.le_refl _))]
 ·intro k hk
  rw [List.getElem?_set_ne xq]
  exact h.same k xq
def DigR (j N : Nat) (L v L' : List Int) (q : Int) : Prop := L'.length = L.length ∧ Dig L' ∧ (∀ k, k < j ∨ j + N + 1 ≤ k → L'[k]? = L[k]?) ∧ 0 ≤ q ∧ q < 4294967296 ∧ valTo (L.drop j) (N + 1) = q * val v + valTo (L'.drop j) (N + 1) ∧ valTo (L'.drop j) (N + 1) < val v
theorem DigP.done {j n : Nat} {L v S : List Int} {q cr bo u0 t T top v1 v2 u2 : Int} (h : DigP j n (n + 2) L v S q cr bo) (hj : j + (n + 2) + 1 ≤ L.length) (hv : v.length = n + 2) (dv : Dig v) (dL : Dig L) (hu : u0 = L[j + (n + 2)]?.getD 0) (ht : t = u0 - cr - bo) (t0 : 0 ≤ t) (t1 : t < 4294967296) (q0 : 0 ≤ q) (q1 : q < 4294967296) (hF : DivFacts j n L v top u2 v1 v2) (hT : T = valTo (L.drop j) (n + 3) / val v) (hG : Good T top v1 v2 u2 q) (h1 : 1 ≤ v1) (h2 : 0 ≤ v2) :
  DigR j (n + 2) L v (S.set (j + (n + 2)) t) q := by
 have hs := h.sum
 rw [zyh v xq] at hs
 have e : valTo ((S.set (j + (n + 2)) t).drop j) (n + 2 + 1) = valTo (L.drop j) (n + 2 + 1) - q * val v := by
  rw [drop_set, zxl _ _ (by have := h.len; simp; omega)]
  refine ms_end0 (Ul := valTo (L.drop j) (n + 2)) (uN := u0) hs ?_ ht
  rw [zyg, zxi, ← hu]
 have hend := hG.end (pw_pos n) hF.eV (zyz dv n) (zxr dv n) hF.eU (zyz (dL.drop j) n) h1 h2 (by rw [hT]; exact hF.tU) hF.vp
 refine ⟨by rw [List.length_set]; exact h.len, h.dig.set _ ⟨t0, t1⟩, ?_, q0, q1, ?_, ?_⟩
 ·intro k hk
  rw [List.getElem?_set_ne xq]
  exact h.same k xq
 ·rw [e]; omega
 ·rw [e]; exact hend.2
theorem DigQ.done {j n : Nat} {L v S R : List Int} {q cr bo u0 t c T top v1 v2 u2 : Int} (h0 : DigP j n (n + 2) L v S q cr bo) (h : DigQ j n (n + 2) (S.set (j + (n + 2)) (t % 4294967296)) v R c) (hj : j + (n + 2) + 1 ≤ L.length) (hv : v.length = n + 2) (dv : Dig v) (dL : Dig L) (hu : u0 = L[j + (n + 2)]?.getD 0) (ht : t = u0 - cr - bo) (t0 : t < 0) (t1 : -4294967296 ≤ t) (q0 : 0 ≤ q) (q1 : q < 4294967296) (hF : DivFacts j n L v top u2 v1 v2) (hT : T = valTo (L.drop j) (n + 3) / val v) (hG : Good T top v1 v2 u2 q) (h1 : 1 ≤ v1) (h2 : 0 ≤ v2) :
  R[j + (n + 2)]?.getD 0 = t % 4294967296 ∧ 1 ≤ q ∧ (t % 4294967296 + c) % 4294967296 = 0 ∧ DigR j (n + 2) L v (R.set (j + (n + 2)) 0) (q - 1) := by
 have hs := h0.sum
 have ha := h.sum
 rw [zyh v xq] at hs ha
 have e : valTo (S.drop j) (n + 2) + pw (n + 2) * t = valTo (L.drop j) (n + 2 + 1) - q * val v := by
  refine ms_end0 (Ul := valTo (L.drop j) (n + 2)) (uN := u0) hs ?_ ht
  rw [zyg, zxi, ← hu]
 have hend := hG.end (pw_pos n) hF.eV (zyz dv n) (zxr dv n) hF.eU (zyz (dL.drop j) n) h1 h2 (by rw [hT]; exact hF.tU) hF.vp
 have hU0 := zyz (dL.drop j) (n + 2 + 1)
 rw [show n + 3 = n + 2 + 1 by omega] at hend
 have hX := zxr (h0.dig.drop j) (n + 2)
 have hP := pw_pos (n + 2)
 have hVP := val_lt dv
 rw [hv] at hVP
 have hneg : valTo (L.drop j) (n + 2 + 1) - q * val v < 0 := by
  have : pw (n + 2) * t ≤ pw (n + 2) * (-1) := Int.mul_le_mul_of_nonneg_left xq xq
  omega
 have hq1 : 1 ≤ q := by
  rcases (show q = 0 ∨ 1 ≤ q by omega) with hq | hq
  ·rw [hq] at hneg; omega
  ·exact hq
 have hsl : valTo ((S.set (j + (n + 2)) (t % 4294967296)).drop j) (n + 2) = valTo (S.drop j) (n + 2) := by rw [drop_set, valTo_set_lt _ _ (Nat.le_refl _)]
 rw [hsl] at ha
 have hlen : (S.set (j + (n + 2)) (t % 4294967296)).length = L.length := by rw [List.length_set]; exact h0.len
 obtain ⟨k1, k2⟩ := ab_end hP ha e.symm (zyz (h.dig.drop j) (n + 2)) (zxr (h.dig.drop j) (n + 2)) (by have := hend.1; omega) xq
 refine ⟨?_, hq1, by omega, by rw [List.length_set, h.len, hlen], h.dig.set _ xq, ?_, by omega, by omega, ?_, ?_⟩
 ·rw [h.same _ (.inr (Nat.le_refl _))]
  simp [show j + (n + 2) < S.length by have := h0.len; omega]
 ·intro k hk
  rw [List.getElem?_set_ne xq, h.same k xq, List.getElem?_set_ne xq]
  exact h0.same k xq
 ·rw [drop_set, zxl _ _ (by rw [List.length_drop, h.len, hlen]; omega), k2, Int.sub_mul]; omega
 ·rw [drop_set, zxl _ _ (by rw [List.length_drop, h.len, hlen]; omega), k2]; omega
theorem DigP.neg {j n : Nat} {L v S : List Int} {q cr bo u0 t : Int} (h0 : DigP j n (n + 2) L v S q cr bo) (hv : v.length = n + 2) (dL : Dig L) (hu : u0 = L[j + (n + 2)]?.getD 0) (ht : t = u0 - cr - bo) (t0 : t < 0) (q0 : 0 ≤ q) : 1 ≤ q := by
 have hs := h0.sum
 rw [zyh v xq] at hs
 have e : valTo (S.drop j) (n + 2) + pw (n + 2) * t = valTo (L.drop j) (n + 2 + 1) - q * val v := by
  refine ms_end0 (Ul := valTo (L.drop j) (n + 2)) (uN := u0) hs ?_ ht
  rw [zyg, zxi, ← hu]
 have hU0 := zyz (dL.drop j) (n + 2 + 1)
 have hX := zxr (h0.dig.drop j) (n + 2)
 have hP := pw_pos (n + 2)
 have : pw (n + 2) * t ≤ pw (n + 2) * (-1) := Int.mul_le_mul_of_nonneg_left xq xq
 rcases (show q = 0 ∨ 1 ≤ q by omega) with hq | hq
 ·rw [hq] at e; omega
 ·exact hq
end Nt
theorem SlR.blk {k : IntKind} {w w' : World} {g o n c : Nat} {l : List Int} (h : SlR k w (some ⟨g, o, none⟩) n c l) (hb : w'.heap[g]? = w.heap[g]?) (hs : w.heap.size ≤ w'.heap.size) : SlR k w' (some ⟨g, o, none⟩) n c l := by
 obtain ⟨h1, h2, h3, h4⟩ := h
 refine ⟨h1, h2, h3, fun hp => ?_⟩
 obtain ⟨b, q, e, hlt, hc⟩ := h4 hp
 cases e
 refine ⟨g, o, rfl, by omega, fun i hi => ?_⟩
 rw [← hc i hi]
 unfold World.cell?
 simp only []
 rw [hb]
structure RW (wr w : World) (B gu Lu cu gv cv n gq : Nat) (v U Q : List Int) : Prop where
 ku : OwnK .u32 wr B 119 (some ⟨gu, 0, none⟩) Lu cu U
 kv : SlR .u32 wr (some ⟨gv, 0, none⟩) n cv v
 kq : KBlk .u32 wr gq 119 Q
 bel : Below w.heap.size w wr
section
variable {wr w : World} {B gu Lu cu gv cv n gq : Nat} {v U Q : List Int}
theorem RW.drewN (h : RW wr w B gu Lu cu gv cv n gq v U Q) (k : Nat) : RW (wr.drewN k) w B gu Lu cu gv cv n gq v U Q := ⟨h.ku, h.kv, h.kq, Below.drewN' h.bel k⟩
end
def dl (N : Nat) : Nat := (Nt.digits N).length
namespace Nt
theorem dl_mono {x y : Nat} (h : y ≤ x) : dl y ≤ dl x := zxk h
theorem dl_lt {x : Nat} : (x : Int) < pw (dl x) := by have := val_lt (zyk x); rw [zyj] at this; exact this
theorem dl_le {x n : Nat} (h : (x : Int) < pw n) : dl x ≤ n := digits_length_le h
theorem dl_mul (x y : Nat) : dl (x * y) ≤ dl x + dl y := by
 apply dl_le
 rw [pw_add, Int.natCast_mul]
 have h1 := dl_lt (x := x)
 have h2 := dl_lt (x := y)
 have a : (x : Int) * y ≤ x * pw (dl y) := Int.mul_le_mul_of_nonneg_left xq xq
 have b : (x : Int) * pw (dl y) < pw (dl x) * pw (dl y) := Int.mul_lt_mul_of_pos_right h1 (pw_pos _)
 omega
theorem dl_add (x y : Nat) : dl (x + y) ≤ max (dl x) (dl y) + 1 := by
 apply dl_le
 rw [pw, Int.natCast_add]
 have h1 := dl_lt (x := x)
 have h2 := dl_lt (x := y)
 have a := pw_mono (Nat.le_max_left (dl x) (dl y))
 have b := pw_mono (Nat.le_max_right (dl x) (dl y))
 have := pw_pos (max (dl x) (dl y))
 omega
theorem dl_one : dl 1 = 1 := by unfold dl; rw [digits, if_neg xq, digits, if_pos xq]; rfl
theorem dl_zero : dl 0 = 0 := by unfold dl; rw [zxb]; rfl
theorem dl_pos {x : Nat} : 0 < dl x ↔ 0 < x := by
 constructor
 ·intro h0
  rcases Nat.eq_zero_or_pos x with h' | h'
  ·rw [h', dl_zero] at h0; omega
  ·exact h'
 ·exact zwo
def sg (s : Bool) (N : Nat) : Int := if s then -(N : Int) else (N : Int)
theorem sg_abs (s : Bool) (N : Nat) : (sg s N).natAbs = N := by unfold sg; split <;> omega
theorem sg_add1 {s t : Bool} (N M : Nat) (h : (s == t) = true) : sg s (N + M) = sg s N + sg t M := by cases s <;> cases t <;> simp_all [sg] <;> omega
theorem sg_add2 {s t : Bool} (N M : Nat) (h : (s == t) = false) (c : (cmpS (N : Int) (M : Int) == -1) = true) : sg t (M - N) = sg s N + sg t M := by
 unfold cmpS at c
 cases s <;> cases t <;> simp_all [sg] <;> omega
theorem sg_add3 {s t : Bool} (N M : Nat) (h : (s == t) = false) (c : (cmpS (N : Int) (M : Int) == -1) = false) : sg s (N - M) = sg s N + sg t M := by
 unfold cmpS at c
 cases s <;> cases t <;> simp_all [sg] <;> omega
theorem sg_mul (s t : Bool) (N M : Nat) : sg (!(s == t)) (N * M) = sg s N * sg t M := by
 cases s <;> cases t <;> simp [sg, Int.neg_mul, Int.mul_neg]
theorem sg_neg (s : Bool) (N : Nat) : sg (!s) N = -sg s N := by cases s <;> simp [sg]
theorem sg_cmp0 {s : Bool} (N : Nat) : cmpS (sg s N) 0 = if (cmpS (N : Int) 0 == 0) = true then 0 else if s = true then -1 else 1 := by
 unfold cmpS sg
 cases s <;> simp <;> (repeat' split) <;> first | rfl | omega | simp_all
theorem cmp_range (x y : Int) : cmpS x y = -1 ∧ x < y ∨ cmpS x y = 0 ∧ x = y ∨ cmpS x y = 1 ∧ y < x := by
 unfold cmpS
 rcases Int.lt_trichotomy x y with h | h | h
 ·simp [h]
 ·simp [h]
 ·rw [if_neg xq, if_neg xq]; simp [h]
theorem cmp_lt {x y : Int} (h : x < y) : cmpS x y = -1 := by unfold cmpS; rw [if_pos h]
theorem cmp_gt {x y : Int} (h : y < x) : cmpS x y = 1 := by unfold cmpS; rw [if_neg xq, if_neg xq]
end Nt
structure Sl where
 a : Option Addr
 n : Nat
 c : Nat
@[reducible] def Sl.v (x : Sl) : Value := .slice x.a x.n x.c
structure IL where
 s : Bool
 m : Sl
@[reducible] def IL.v (i : IL) : Value := .agg #[.bool i.s, .slice i.m.a i.m.n i.m.c]
structure RL where
 s : Bool
 m : Sl
 d : Sl
def RL.cs (r : RL) : List Value := [.bool r.s, .slice r.m.a r.m.n r.m.c, .slice r.d.a r.d.n r.d.c]
def IL.cs (i : IL) : List Value := [.bool i.s, .slice i.m.a i.m.n i.m.c]
@[reducible] def RL.v (r : RL) : Value := .agg #[.bool r.s, .slice r.m.a r.m.n r.m.c, .slice r.d.a r.d.n r.d.c]
def NatV (u : World) (x : Sl) (N K : Nat) : Prop := ∃ l, SlR .u32 u x.a x.n x.c l ∧ Nt.Dig l ∧ x.n ≤ K ∧ Nt.val l = N
def NatN (u : World) (x : Sl) (N K : Nat) : Prop := x.n = dl N ∧ SlR .u32 u x.a x.n x.c (Nt.digits N) ∧ dl N ≤ K
def IntV (u : World) (i : IL) (z : Int) (K : Nat) : Prop := ∃ N, NatV u i.m N K ∧ z = Nt.sg i.s N
def IntN (u : World) (i : IL) (z : Int) (K : Nat) : Prop := i.s = decide (z < 0) ∧ NatN u i.m z.natAbs K
section
variable {u u' w w' : World} {x y : Sl} {i j : IL} {r : RL} {N M K L : Nat} {z z' : Int} {q : Rat}
theorem NatV.ext (h : NatV u x N K) (e : Ext u u') : NatV u' x N K := by obtain ⟨l, h1, h2⟩ := h; exact ⟨l, h1.ext e, h2⟩
theorem NatN.ext (h : NatN u x N K) (e : Ext u u') : NatN u' x N K := ⟨h.1, h.2.1.ext e, h.2.2⟩
theorem IntV.ext (h : IntV u i z K) (e : Ext u u') : IntV u' i z K := by obtain ⟨N, h1, h2⟩ := h; exact ⟨N, h1.ext e, h2⟩
theorem IntN.ext (h : IntN u i z K) (e : Ext u u') : IntN u' i z K := ⟨h.1, h.2.ext e⟩
theorem NatV.more (h : NatV u x N K) (k : K ≤ L) : NatV u x N L := by obtain ⟨l, h1, h2, h3, h4⟩ := h; exact ⟨l, h1, h2, by omega, h4⟩
theorem NatN.more (h : NatN u x N K) (k : K ≤ L) : NatN u x N L := ⟨h.1, h.2.1, Nat.le_trans h.2.2 k⟩
theorem IntV.more (h : IntV u i z K) (k : K ≤ L) : IntV u i z L := by obtain ⟨N, h1, h2⟩ := h; exact ⟨N, h1.more k, h2⟩
theorem IntN.more (h : IntN u i z K) (k : K ≤ L) : IntN u i z L := ⟨h.1, h.2.more k⟩
theorem NatN.raw (h : NatN u x N K) : NatV u x N K := ⟨_, h.2.1, Nt.zyk _, by have := h.2.2; rw [h.1]; exact this, Nt.zyj _⟩
theorem IntN.raw (h : IntN u i z K) : IntV u i z K := by
 refine ⟨z.natAbs, h.2.raw, ?_⟩
 unfold Nt.sg
 rw [h.1]
 by_cases hz : z < 0
 ·simp [hz]; omega
 ·simp [hz]; omega
theorem NatV.size (h : NatV u x N K) : dl N ≤ K := by
 obtain ⟨l, h1, h2, h3, h4⟩ := h
 have e := Nt.zxs h2
 rw [h4, Int.toNat_natCast] at e
 have := Nt.zyi l
 rw [e] at this
 have := h1.1
 unfold dl; omega
theorem IntV.abs (h : IntV u i z K) : NatV u i.m z.natAbs K := by
 obtain ⟨N, h1, h2⟩ := h
 have e : z.natAbs = N := by rw [h2, Nt.sg_abs]
 rw [e]; exact h1
theorem IntV.size (h : IntV u i z K) : dl z.natAbs ≤ K := h.abs.size
theorem NatN.pos (h : NatN u x N K) : 0 < x.n ↔ 0 < N := by rw [h.1]; exact Nt.dl_pos
theorem nat_nil (u : World) (K : Nat) : NatV u ⟨none, 0, 0⟩ 0 K := ⟨[], SlR.nil _ _ _ (Nat.zero_le _), Nt.Dig.nil, Nat.zero_le _, rfl⟩
theorem signed_int {s : Bool} (h : NatN u x N K) : IntN u ⟨s && decide ((0 : Int) < (x.n : Int)), x⟩ (Nt.sg s N) K := by
 have hn := h.pos
 refine ⟨?_, by rw [Nt.sg_abs]; exact h⟩
 unfold Nt.sg
 cases s <;> simp <;> omega
theorem IntV.same {s : Bool} (h : NatV u x N K) : IntV u ⟨s, x⟩ (Nt.sg s N) K := ⟨N, h, rfl⟩
theorem one_data {b : Nat} (h : u.heap[b]? = some (.cells #[.int .u32 1] 119 (0, 0))) : NatN u ⟨some ⟨b, 0, none⟩, 1, 1⟩ 1 1 := by
 have hk : KBlk .u32 u b 119 [1] := h
 have e : Nt.digits 1 = [1] := by
  have h1 : Nt.strip [1] = [1] := by simp [Nt.strip]
  have h2 := Nt.zxs (l := [1]) (Nt.Dig.cons xq Nt.Dig.nil)
  rw [h1] at h2
  exact h2.symm
 exact ⟨by rw [Nt.dl_one], by rw [e]; exact hk.slr_all rfl (Nat.le_refl _) (show 1 ≤ maxLen by decide), by rw [Nt.dl_one]; exact Nat.le_refl _⟩
theorem two_data {b : Nat} {p q : Int} (h : u.heap[b]? = some (.cells #[.int .u32 p, .int .u32 q] 119 (0, 0))) (hp : 0 ≤ p ∧ p < 4294967296) (hq : 0 ≤ q ∧ q < 4294967296) (hN : p + 4294967296 * q = N) : NatV u ⟨some ⟨b, 0, none⟩, 2, 2⟩ N 2 := by
 have hk : KBlk .u32 u b 119 [p, q] := h
 exact ⟨[p, q], hk.slr_all rfl (Nat.le_refl _) (show 2 ≤ maxLen by decide), Nt.Dig.cons hp (Nt.Dig.cons hq Nt.Dig.nil), Nat.le_refl _, by simp [Nt.val]; omega⟩
theorem nat_digit (h : NatV u x N K) (hn : x.n = 1) : ∃ b o, x.a = some ⟨b, o, none⟩ ∧ u.cell? ⟨b, o, none⟩ = some (.int .u32 N) := by
 obtain ⟨l, h1, h2, h3, h4⟩ := h
 obtain ⟨b, o, e, _, hc⟩ := h1.pos (i := 0) xq
 refine ⟨b, o, e, ?_⟩
 simp only [Nat.add_zero] at hc
 rw [hc]
 have hl := h1.1
 have e2 := h4
 rw [← Nt.zyh l (n := 1) xq, Nt.zyg, Nt.zxf] at e2
 have : l[0]?.getD 0 = (N : Int) := by simpa [Nt.pw] using e2
 rw [this]
theorem nat_int (h : NatV u x N K) : IntV u ⟨false, x⟩ N K := ⟨N, h, rfl⟩
theorem int_mag (h : IntN u i z K) : NatN u i.m z.natAbs K := h.2
theorem over_nat {A : Option Addr} {n c : Nat} (h : NatF w w' A n c N) (hu : u.heap.size = w.heap.size) (hs : u.heap.size ≤ w'.heap.size) (hN : dl N ≤ K) : NatN (over u w') ⟨A, n, c⟩ N K := by
 obtain ⟨h1, h2, h3⟩ := h
 exact ⟨h1, h2.over (fun hp => by obtain ⟨a, e, k, _⟩ := h3 hp; exact ⟨a, e, by omega⟩) hs, hN⟩
def NatG (w w' : World) (e : Ending) (N : Nat) : Prop := ∃ A n c, e = .returned (.slice A n c) ∧ NatF w w' A n c N ∧ Below w.heap.size w w'
theorem post_nat {e : Ending} (d : Dat u w) (h : NatG w w' e N) (hN : dl N ≤ K) : Post u w (fun v u' => ∃ x : Sl, v = x.v ∧ NatN u' x N K) e w' := by
 obtain ⟨A, n, c, rfl, f, hb⟩ := h
 have hs : u.heap.size ≤ w'.heap.size := by rw [d.size]; exact hb.size
 exact ⟨_, over u w', rfl, over_dat d hb, hb, over_grow hs, ⟨A, n, c⟩, rfl, over_nat f d.size hs hN⟩
theorem post_below {e : Ending} {v : Value} (d : Dat u w) (he : e = .returned v) (hb : Below w.heap.size w w') : Post u w (fun v' _ => v' = v) e w' :=
 ⟨v, over u w', he, over_dat d hb, hb, over_grow (by rw [d.size]; exact hb.size), rfl⟩
theorem below_drewN (w : World) (k : Nat) : Below w.heap.size w (w.drewN k) := ⟨rfl, rfl, rfl, Nat.le_refl _, fun _ _ => rfl⟩
theorem nat_fits {A : Option Addr} {n c : Nat} {e : Ending} {t : Int} (h : e = .returned (.slice A n c) ∧ NatF w w' A n c t.toNat ∧ Below w.heap.size w w') (ht : t = (N : Int)) : NatG w w' e N := by
 subst ht; rw [Int.toNat_natCast] at h; exact ⟨A, n, c, h⟩
def DivN (N M K L : Nat) (v : Value) (u : World) : Prop := ∃ x y : Sl, v = .tuple #[x.v, y.v, .int .i64 0] ∧ NatN u x (N / M) K ∧ NatN u y (N % M) L
theorem post_div {e : Ending} (d : Dat u w) (h : DivMF w w' e (N : Int) (M : Int)) (hK : dl N ≤ K) (hL : dl M ≤ L) (hM : 0 < M) : Post u w (DivN N M K L) e w' := by
 obtain ⟨A1, n1, c1, A2, n2, c2, rfl, f, g, hb⟩ := h
 rw [← Int.natCast_ediv, Int.toNat_natCast] at f
 rw [← Int.natCast_emod, Int.toNat_natCast] at g
 have hs : u.heap.size ≤ w'.heap.size := by rw [d.size]; exact hb.size
 exact ⟨_, over u w', rfl, over_dat d hb, hb, over_grow hs, ⟨A1, n1, c1⟩, ⟨A2, n2, c2⟩, rfl, over_nat f d.size hs (Nat.le_trans (Nt.dl_mono (Nat.div_le_self _ _)) hK), over_nat g d.size hs (Nat.le_trans (Nt.dl_mono (Nat.le_of_lt (Nat.mod_lt _ hM))) hL)⟩
theorem k_natAdd (d : Dat u w) (h1 : NatV u x N K) (h2 : NatV u y M L) (hK : K ≤ 500000000) (hL : L ≤ 500000000) : Calls Try.prog 96 #[x.v, y.v] w (Post u w fun v u' => ∃ x : Sl, v = x.v ∧ NatN u' x (N + M) (max K L + 1)) := by
 have hs1 := h1.size
 have hs2 := h2.size
 obtain ⟨a, a1, a2, a3, a4⟩ := h1
 obtain ⟨b, b1, b2, b3, b4⟩ := h2
 refine (Add_any _ _ _ _ _ _ _ _ _ (a1.ext d.ext) (b1.ext d.ext) a2 b2 xq xq).mono fun e w' ⟨A', n', c', h⟩ => ?_
 rw [a4, b4] at h
 exact post_nat d (nat_fits h xq) (by have := Nt.dl_add N M; omega)
theorem k_natSub (d : Dat u w) (h1 : NatV u x N K) (h2 : NatV u y M L) (hK : K ≤ 500000000) (hL : L ≤ 500000000) : Calls Try.prog 97 #[x.v, y.v] w (Post u w fun v u' => ∃ x : Sl, v = x.v ∧ NatN u' x (N - M) (K)) := by
 have hs1 := h1.size
 have hs2 := h2.size
 obtain ⟨a, a1, a2, a3, a4⟩ := h1
 obtain ⟨b, b1, b2, b3, b4⟩ := h2
 refine (Sub_any _ _ _ _ _ _ _ _ _ (a1.ext d.ext) (b1.ext d.ext) a2 b2 xq xq).mono fun e w' ⟨A', n', c', h⟩ => ?_
 rw [a4, b4] at h
 exact post_nat d (by rw [show ((N : Int) - (M : Int)).toNat = N - M by omega] at h; exact ⟨A', n', c', h⟩) (by have := Nt.dl_mono (Nat.sub_le N M); omega)
theorem k_natMul (d : Dat u w) (h1 : NatV u x N K) (h2 : NatV u y M L) (hK : K ≤ 500000000) (hL : L ≤ 500000000) : Calls Try.prog 80 #[x.v, y.v] w (Post u w fun v u' => ∃ x : Sl, v = x.v ∧ NatN u' x (N * M) (K + L)) := by
 have hs1 := h1.size
 have hs2 := h2.size
 obtain ⟨a, a1, a2, a3, a4⟩ := h1
 obtain ⟨b, b1, b2, b3, b4⟩ := h2
 refine (Mul_any _ _ _ _ _ _ _ _ _ (a1.ext d.ext) (b1.ext d.ext) a2 b2 xq xq).mono fun e w' ⟨A', n', c', h⟩ => ?_
 rw [a4, b4] at h
 exact post_nat d (nat_fits h (Int.natCast_mul N M).symm) (by have := Nt.dl_mul N M; omega)
theorem k_natGcd (d : Dat u w) (h1 : NatV u x N K) (h2 : NatV u y M L) (hK : K ≤ 500000000) (hL : L ≤ 500000000) : Calls Try.prog 93 #[x.v, y.v] w (Post u w fun v u' => ∃ x : Sl, v = x.v ∧ NatN u' x (Nat.gcd N M) (max K L)) := by
 have hs1 := h1.size
 have hs2 := h2.size
 obtain ⟨a, a1, a2, a3, a4⟩ := h1
 obtain ⟨b, b1, b2, b3, b4⟩ := h2
 refine (Gcd_any _ _ _ _ _ _ _ _ _ (a1.ext d.ext) (b1.ext d.ext) a2 b2 xq xq).mono fun e w' ⟨A', n', c', h⟩ => ?_
 rw [a4, b4] at h
 exact post_nat d (by rw [Int.toNat_natCast, Int.toNat_natCast] at h; exact ⟨A', n', c', h⟩) (by
  rcases Nat.eq_zero_or_pos M with h0 | h0
  ·rw [h0, Nat.gcd_zero_right]; omega
  ·have := Nt.dl_mono (Nat.gcd_le_right N h0); omega)
theorem k_natTrim (d : Dat u w) (h1 : NatV u x N K) (hK : K ≤ 500000000) : Calls Try.prog 70 #[x.v] w (Post u w fun v u' => ∃ x : Sl, v = x.v ∧ NatN u' x N K) := by
 have hs1 := h1.size
 obtain ⟨a, a1, a2, a3, a4⟩ := h1
 refine (Trim_any _ _ _ _ _ (a1.ext d.ext) a2 xq).mono fun e w' ⟨A', n', c', h⟩ => ?_
 rw [a4] at h
 exact post_nat d (nat_fits h rfl) hs1
theorem k_natDivMod (d : Dat u w) (h1 : NatV u x N K) (h2 : NatV u y M L) (hM : 0 < M) (hK : K ≤ 500000000) (hL : L ≤ 500000000) : Calls Try.prog 91 #[x.v, y.v] w (Post u w (DivN N M K L)) := by
 have hs1 := h1.size
 have hs2 := h2.size
 obtain ⟨a, a1, a2, a3, a4⟩ := h1
 obtain ⟨b, b1, b2, b3, b4⟩ := h2
 refine (DivMod_any _ _ _ _ _ _ _ _ _ (a1.ext d.ext) (b1.ext d.ext) a2 b2 xq xq).mono fun e w' h => ?_
 rw [a4, b4] at h
 exact post_div d h hs1 hs2 hM
theorem k_natCompare (d : Dat u w) (h1 : NatV u x N K) (h2 : NatV u y M L) : Calls Try.prog 77 #[x.v, y.v] w (Post u w fun v _ => v = .int .i64 (Nt.cmpS N M)) := by
 obtain ⟨a, a1, a2, a3, a4⟩ := h1
 obtain ⟨b, b1, b2, b3, b4⟩ := h2
 refine (Compare_any _ _ _ _ _ _ _ _ _ (a1.ext d.ext) (b1.ext d.ext) a2 b2).mono fun e w' ⟨h, k, hk⟩ => ?_
 rw [a4, b4] at h
 exact post_below d h (by rw [hk]; exact below_drewN w k)
end
namespace Nt
theorem mk_den {z : Int} {D : Nat} (hD : 0 < D) : (mkRat z D).den = D / Nat.gcd z.natAbs D ∧ (mkRat z D).num = z / ((Nat.gcd z.natAbs D : Nat) : Int) := by
 rw [← Rat.normalize_eq_mkRat xq, Rat.normalize_eq]
 exact ⟨rfl, rfl⟩
theorem mk_num {z : Int} {D : Nat} (hD : 0 < D) : (mkRat z D).num.natAbs = z.natAbs / Nat.gcd z.natAbs D ∧ ((mkRat z D).num < 0 ↔ z < 0) := by
 have h := (mk_den (z := z) hD).2
 have hg : 0 < Nat.gcd z.natAbs D := Nat.gcd_pos_of_pos_right _ hD
 obtain ⟨k, hk⟩ := Nat.gcd_dvd_left z.natAbs D
 generalize Nat.gcd z.natAbs D = g at *
 rw [h]
 have hk2 : z.natAbs / g = k := by rw [hk]; exact Nat.mul_div_cancel_left _ hg
 rw [hk2]
 rcases Int.lt_or_le z 0 with hz | hz
 ·have e : z = -((g : Int) * (k : Int)) := by rw [← Int.natCast_mul, ← hk]; omega
  have hk0 : 0 < k := by
   rcases Nat.eq_zero_or_pos k with h | h
   ·rw [h] at hk; simp at hk; omega
   ·exact h
  have e2 : z / (g : Int) = -(k : Int) := by
   rw [e, ← Int.mul_neg]
   exact Int.mul_ediv_cancel_left _ xq
  rw [e2]
  exact ⟨by omega, by omega⟩
 ·have e : z = (g : Int) * (k : Int) := by rw [← Int.natCast_mul, ← hk]; omega
  have e2 : z / (g : Int) = (k : Int) := by rw [e]; exact Int.mul_ediv_cancel_left _ xq
  rw [e2]
  exact ⟨by omega, by omega⟩
theorem mk_gcd (N D : Nat) : Nat.gcd D (N % D) = Nat.gcd N D := by rw [Nat.gcd_comm N D, Nat.gcd_rec D N, Nat.gcd_comm]
def rs (q : Rat) : Nat := max (dl q.num.natAbs) (dl q.den)
theorem rs_mk {z : Int} {D K : Nat} (hz : dl z.natAbs ≤ K) (hd : dl D ≤ K) (hK : 1 ≤ K) : rs (mkRat z D) ≤ K := by
 rcases Nat.eq_zero_or_pos D with h | h
 ·rw [h, Rat.mkRat_zero]
  unfold rs
  rw [show (0 : Rat).num.natAbs = 0 from rfl, show (0 : Rat).den = 1 from rfl, dl_zero, dl_one]
  omega
 ·unfold rs
  have h1 : dl (mkRat z D).num.natAbs ≤ dl z.natAbs := by rw [(mk_num h).1]; exact dl_mono (Nat.div_le_self _ _)
  have h2 : dl (mkRat z D).den ≤ dl D := by rw [(mk_den h).1]; exact dl_mono (Nat.div_le_self _ _)
  omega
theorem den_pos (q : Rat) : 0 < q.den := Nat.pos_of_ne_zero q.den_nz
theorem rs_pos (q : Rat) : 1 ≤ rs q := by
 unfold rs
 have := dl_mono (den_pos q)
 rw [show Nat.succ 0 = 1 from rfl, dl_one] at this
 omega
def cmpQ (x y : Rat) : Int := if x < y then -1 else if x = y then 0 else 1
theorem cmp_nat0 {D : Nat} {b : Bool} (h : (cmpS (D : Int) 0 == 0) = b) : (b = true → D = 0) ∧ (b = false → 0 < D) := by
 unfold cmpS at h
 by_cases h0 : D = 0
 ·subst h0; simp at h; subst h; simp
 ·rw [if_neg xq, if_neg xq] at h
  simp at h; subst h; simp; omega
theorem cmp_natE {D E : Nat} (h : (cmpS (D : Int) (E : Int) == 0) = true) : D = E := by
 unfold cmpS at h
 by_cases h1 : (D : Int) < E
 ·simp only [h1, if_true] at h; simp at h
 ·by_cases h2 : (D : Int) = E
  ·omega
  ·simp only [h1, h2, if_false] at h; simp at h
theorem cmp_eq0 {z : Int} (h : (cmpS z 0 == 0) = true) : z = 0 := by
 unfold cmpS at h
 by_cases h1 : z < 0
 ·simp only [h1, if_true] at h; simp at h
 ·by_cases h2 : z = 0
  ·exact h2
  ·simp only [h1, h2, if_false] at h; simp at h
theorem cmp_ne0 {z : Int} (h : (cmpS z 0 == 0) = false) : z ≠ 0 := by
 rintro rfl; simp [cmpS] at h
theorem mk_lt {a c : Int} {b d : Nat} (hb : 0 < b) (hd : 0 < d) : (mkRat a b < mkRat c d ↔ a * d < c * b) ∧ (mkRat a b = mkRat c d ↔ a * d = c * b) := by
 have e : mkRat a b = mkRat c d ↔ a * d = c * b := Rat.mkRat_eq_iff xq xq
 refine ⟨?_, e⟩
 have hb' : (0 : Rat) < (b : Rat) := Rat.natCast_pos.2 hb
 have hd' : (0 : Rat) < (d : Rat) := Rat.natCast_pos.2 hd
 rw [Rat.mkRat_eq_div, Rat.mkRat_eq_div, Rat.div_lt_iff hb']
 have e2 : (c : Rat) / (d : Rat) * (b : Rat) = (c * b : Rat) / d := by rw [Rat.div_def, Rat.div_def]; grind
 rw [e2, Rat.lt_div_iff hd']
 have e3 : (a : Rat) * ((d : Nat) : Rat) = ((a * d : Int) : Rat) := by rw [Rat.intCast_mul]; rfl
 have e4 : (c : Rat) * ((b : Nat) : Rat) = ((c * b : Int) : Rat) := by rw [Rat.intCast_mul]; rfl
 rw [e3, e4, Rat.intCast_lt_intCast]
theorem cmp_mk {a c : Int} {b d : Nat} (hb : 0 < b) (hd : 0 < d) : cmpS (a * d) (c * b) = cmpQ (mkRat a b) (mkRat c d) := by
 obtain ⟨h1, h2⟩ := mk_lt (a := a) (c := c) hb hd
 unfold cmpS cmpQ
 simp only [h1, h2]
theorem add_mk {a c : Int} {b d : Nat} (hb : 0 < b) (hd : 0 < d) : mkRat (a * d + c * b) (b * d) = mkRat a b + mkRat c d := (Rat.mkRat_add_mkRat a c xq xq).symm
theorem add_same {a c : Int} {b : Nat} (hb : 0 < b) : mkRat (a + c) b = mkRat a b + mkRat c b := by
 rw [← add_mk hb hb, ← Int.add_mul, ← Rat.mkRat_mul_right (a := b) xq]
theorem mul_mk {a c : Int} {b d : Nat} : mkRat (a * c) (b * d) = mkRat a b * mkRat c d := (Rat.mkRat_mul_mkRat a c b d).symm
theorem mk_one (a : Int) : mkRat a 1 = (a : Rat) := by rw [Rat.mkRat_eq_div]; show (a : Rat) / ((1 : Nat) : Rat) = a; grind
theorem neg_mk {a : Int} {b : Nat} : mkRat (-a) b = -mkRat a b := (Rat.neg_mkRat a b).symm
def sgQ (x : Rat) : Int := cmpQ x 0
theorem sg_mk {a : Int} {b : Nat} (hb : 0 < b) : cmpS a 0 = sgQ (mkRat a b) := by
 have := cmp_mk (a := a) (c := 0) (b := b) (d := 1) hb xq
 rw [Rat.zero_mkRat] at this
 unfold sgQ
 rw [← this]
 congr 1 <;> omega
def absQ (x : Rat) : Rat := if x < 0 then -x else x
theorem abs_mk {a : Int} {b : Nat} : mkRat (a.natAbs : Int) b = absQ (mkRat a b) := by
 rcases Nat.eq_zero_or_pos b with h | h
 ·subst h; simp [absQ]
 ·have h1 := (mk_lt (a := a) (c := 0) (b := b) (d := 1) h xq).1
  rw [Rat.zero_mkRat] at h1
  unfold absQ
  by_cases ha : a < 0
  ·rw [if_pos (h1.2 xq), ← neg_mk]
   congr 1; omega
  ·rw [if_neg (fun k => by have := h1.1 k; omega)]
   congr 1; omega
theorem rs_int {z : Int} {K : Nat} (h : dl z.natAbs ≤ K) (hK : 1 ≤ K) : rs (z : Rat) ≤ K := by
 rw [← mk_one]; exact rs_mk h (by rw [dl_one]; exact hK) hK
theorem rs_neg (q : Rat) : rs (-q) = rs q := by unfold rs; rw [Rat.neg_num, Rat.neg_den, Int.natAbs_neg]
theorem rs_abs (q : Rat) : rs (absQ q) = rs q := by
 unfold absQ; split
 ·exact rs_neg q
 ·rfl
def quoI (x y : Int) : Int := if decide (x < 0) == decide (y < 0) then (x.natAbs : Int) else -(x.natAbs : Int)
theorem quoI_abs (x y : Int) : (quoI x y).natAbs = x.natAbs := by unfold quoI; split <;> omega
theorem div_mk2 {x y : Int} (hy : y ≠ 0) : mkRat (quoI x y) y.natAbs = (x : Rat) / (y : Rat) := by
 unfold quoI
 rw [← Rat.divInt_eq_div, ← Rat.divInt_ofNat]
 by_cases hx : x < 0 <;> by_cases hy' : y < 0
 ·rw [if_pos (by simp [hx, hy']), ← Rat.neg_divInt_neg x y, show ((x.natAbs : Nat) : Int) = -x by omega, show ((y.natAbs : Nat) : Int) = -y by omega]
 ·rw [if_neg (by simp [hx, hy']), show ((x.natAbs : Nat) : Int) = -x by omega, show ((y.natAbs : Nat) : Int) = y by omega, Int.neg_neg]
 ·rw [if_neg (by simp [hx, hy']), ← Rat.neg_divInt_neg x y, show ((x.natAbs : Nat) : Int) = x by omega, show ((y.natAbs : Nat) : Int) = -y by omega]
 ·rw [if_pos (by simp [hx, hy']), show ((x.natAbs : Nat) : Int) = x by omega, show ((y.natAbs : Nat) : Int) = y by omega]
theorem quo_mk {a c : Int} {b d : Nat} (hb : 0 < b) (hd : 0 < d) (hc : c ≠ 0) : ((a * d : Int) : Rat) / ((b * c : Int) : Rat) = mkRat a b / mkRat c d := by
 have hb' : (b : Rat) ≠ 0 := Ne.symm (Rat.ne_of_lt (Rat.natCast_pos.2 hb))
 have hd' : (d : Rat) ≠ 0 := Ne.symm (Rat.ne_of_lt (Rat.natCast_pos.2 hd))
 have hc' : (c : Rat) ≠ 0 := fun h => hc (by have : (c : Rat) = ((0 : Int) : Rat) := h; exact Rat.intCast_inj.1 this)
 rw [Rat.mkRat_eq_div, Rat.mkRat_eq_div, Rat.intCast_mul, Rat.intCast_mul]
 show (a : Rat) * (d : Rat) / ((b : Rat) * (c : Rat)) = _
 grind
end Nt
def RatV (u : World) (r : RL) (q : Rat) (K : Nat) : Prop := (∃ z D, IntV u ⟨r.s, r.m⟩ z K ∧ NatV u r.d D K ∧ q = mkRat z D) ∧ 1 ≤ K
def RatN (u : World) (r : RL) (q : Rat) (K : Nat) : Prop := IntN u ⟨r.s, r.m⟩ q.num K ∧ NatN u r.d q.den K
section
variable {u u' w w' : World} {x y : Sl} {i j : IL} {r : RL} {N M K L : Nat} {z z' : Int} {q : Rat}
theorem RatV.ext (h : RatV u r q K) (e : Ext u u') : RatV u' r q K := by
 obtain ⟨⟨z, D, h1, h2, h3⟩, h4⟩ := h; exact ⟨⟨z, D, h1.ext e, h2.ext e, h3⟩, h4⟩
theorem RatN.ext (h : RatN u r q K) (e : Ext u u') : RatN u' r q K := ⟨h.1.ext e, h.2.ext e⟩
theorem RatV.more (h : RatV u r q K) (k : K ≤ L) : RatV u r q L := by
 obtain ⟨⟨z, D, h1, h2, h3⟩, h4⟩ := h; exact ⟨⟨z, D, h1.more k, h2.more k, h3⟩, by omega⟩
theorem RatN.more (h : RatN u r q K) (k : K ≤ L) : RatN u r q L := ⟨h.1.more k, h.2.more k⟩
theorem RatN.rs (h : RatN u r q K) : Nt.rs q ≤ K := by
 have h1 := h.1.2.2.2
 have h2 := h.2.2.2
 unfold Nt.rs; omega
theorem RatN.fit (h : RatN u r q K) (k : Nt.rs q ≤ L) : RatN u r q L := by
 unfold Nt.rs at k
 exact ⟨⟨h.1.1, h.1.2.1, h.1.2.2.1, by omega⟩, h.2.1, h.2.2.1, by omega⟩
theorem RatN.raw (h : RatN u r q K) : RatV u r q K := ⟨⟨q.num, q.den, h.1.raw, h.2.raw, (Rat.mkRat_self q).symm⟩, by have := Nt.rs_pos q; have := h.rs; omega⟩
theorem RatV.rs (h : RatV u r q K) : Nt.rs q ≤ K := by
 obtain ⟨⟨z, D, h1, h2, h3⟩, h4⟩ := h
 rw [h3]; exact Nt.rs_mk h1.size h2.size h4
def NumV (u : World) (r : RL) (wh : Bool) (q : Rat) (K : Nat) : Prop := ∃ z D, IntV u ⟨r.s, r.m⟩ z K ∧ NatV u r.d D K ∧ 0 < D ∧ q = mkRat z D ∧ (wh = true → D = 1) ∧ 1 ≤ K
theorem quot_int {L : Nat} (h : IntN u i z K) (h2 : IntN u j z' L) : IntV u ⟨!(i.s == j.s), i.m⟩ (Nt.quoI z z') K := by
 refine ⟨z.natAbs, h.2.raw, ?_⟩
 show Nt.quoI z z' = Nt.sg (!(i.s == j.s)) _
 rw [h.1, h2.1]
 unfold Nt.quoI Nt.sg
 cases (decide (z < 0) == decide (z' < 0)) <;> rfl
theorem flip_rat (h : RatV u r q K) : RatV u ⟨!r.s, r.m, r.d⟩ (-q) K := by
 obtain ⟨⟨z, D, ⟨N, h1, h2⟩, h3, h4⟩, h5⟩ := h
 refine ⟨⟨-z, D, ⟨N, h1, ?_⟩, h3, by rw [h4, Nt.neg_mk]⟩, h5⟩
 rw [h2]; exact (Nt.sg_neg _ _).symm
theorem abs_rat (h : RatV u r q K) : RatV u ⟨false, r.m, r.d⟩ (Nt.absQ q) K := by
 obtain ⟨⟨z, D, ⟨N, h1, h2⟩, h3, h4⟩, h5⟩ := h
 refine ⟨⟨z.natAbs, D, ⟨N, h1, ?_⟩, h3, by rw [h4, Nt.abs_mk]⟩, h5⟩
 rw [h2, Nt.sg_abs]; rfl
theorem whole_rat (h : IntN u i z K) (h1 : NatN u y 1 L) : RatN u ⟨i.s, i.m, y⟩ (z : Rat) (max K L) := by
 refine ⟨?_, ?_⟩
 ·show IntN u i (z : Rat).num _; rw [Rat.num_intCast]; exact h.more (Nat.le_max_left _ _)
 ·show NatN u y (z : Rat).den _; rw [Rat.den_intCast]; exact h1.more (Nat.le_max_right _ _)
theorem rat_nil (u : World) : RatV u ⟨false, ⟨none, 0, 0⟩, ⟨none, 0, 0⟩⟩ 0 1 := ⟨⟨0, 0, ⟨0, nat_nil _ _, rfl⟩, nat_nil _ _, by simp⟩, Nat.le_refl _⟩
theorem low1 {s : Bool} {D : Nat} (hD : 0 < D) (h : N % D = 0) : ((Nt.sg s (N / D) : Int) : Rat) = mkRat (Nt.sg s N) D := by
 obtain ⟨k, hk⟩ := Nat.dvd_of_mod_eq_zero h
 subst hk
 rw [Nat.mul_div_cancel_left _ hD, ← Nt.mk_one, Rat.mkRat_eq_iff xq xq]
 unfold Nt.sg
 cases s
 ·simp [Int.mul_comm]
 ·simp [Int.mul_comm, Int.mul_neg]
theorem low2 {s : Bool} {D : Nat} (hD : 0 < D) (hg : Nat.gcd D (N % D) = 1) (h1 : IntN u i (Nt.sg s N) K) (h2 : NatN u y D L) : RatN u ⟨i.s, i.m, y⟩ (mkRat (Nt.sg s N) D) (max K L) := by
 rw [Nt.mk_gcd] at hg
 have hg' : Nat.gcd (Nt.sg s N).natAbs D = 1 := by rw [Nt.sg_abs]; exact hg
 have e1 := (Nt.mk_den (z := Nt.sg s N) hD).1
 have e2 := (Nt.mk_den (z := Nt.sg s N) hD).2
 rw [hg', Nat.div_one] at e1
 rw [hg'] at e2
 simp at e2
 refine ⟨?_, ?_⟩
 ·show IntN u i _ _; rw [e2]; exact h1.more (Nat.le_max_left _ _)
 ·show NatN u y _ _; rw [e1]; exact h2.more (Nat.le_max_right _ _)
theorem low3 {s : Bool} {D : Nat} (hD : 0 < D) (hr : N % D ≠ 0) (h1 : NatN u x (N / Nat.gcd D (N % D)) K) (h2 : NatN u y (D / Nat.gcd D (N % D)) L) : RatN u ⟨s, x, y⟩ (mkRat (Nt.sg s N) D) (max K L) := by
 rw [Nt.mk_gcd] at h1 h2
 have e1 := (Nt.mk_den (z := Nt.sg s N) hD).1
 have e2 := Nt.mk_num (z := Nt.sg s N) hD
 rw [Nt.sg_abs] at e1 e2
 refine ⟨⟨?_, ?_⟩, ?_⟩
 ·have hN : 0 < N := by
   rcases Nat.eq_zero_or_pos N with h | h
   ·rw [h] at hr; simp at hr
   ·exact h
  have e3 : decide ((mkRat (Nt.sg s N) D).num < 0) = decide (Nt.sg s N < 0) := decide_eq_decide.2 e2.2
  show s = decide _
  rw [e3]
  unfold Nt.sg
  cases s <;> simp <;> omega
 ·show NatN u x _ _; rw [e2.1]; exact h1.more (Nat.le_max_left _ _)
 ·show NatN u y _ _; rw [e1]; exact h2.more (Nat.le_max_right _ _)
end
end Go.Proofs.Ytdmpfhhhlhoeiaa
namespace Go.Proofs.Ytdmpfhhhlhoeiaa
open Go.RowKit Go.ChangeShapes Go.WideShapes
set_option linter.unusedVariables false
section
variable {H : Type} {enc : TypeId × Value → H} {P : Program} {w : World} {base : Nat} {spare : Nat → Bool} {held : Bool} {fuel : Nat} {cs : List Value} {x : DataW H × List MemPlace}
theorem ar_slr {k : IntKind} {t e : TypeId} (ht : P.underlying t = some (.slice e)) (he : P.underlying e = some (.int k)) (hc : P.cellsOf e = 1) (h : DataW.trod enc P w base spare held fuel t cs = some x) :
  ∃ (s : Sl) (l : List Int), cs = [s.v] ∧ SlR k w s.a s.n s.c l ∧ ∀ z ∈ l, (Lit.int k z).wf = true := by
 rcases open_ints ht he hc h with ⟨rfl, _⟩ | ⟨a, len, cap, zs, rfl, _, hl, hm, hz, _, hcell, hwz⟩
 ·exact ⟨⟨none, 0, 0⟩, [], rfl, SlR.nil w none 0 (Nat.zero_le _), (fun z h => by cases h)⟩
 ·have hle : len ≤ zs.length := by rw [hz]; split <;> omega
  refine ⟨⟨some a, len, cap⟩, zs.take len, rfl, ⟨by simp; omega, hl, hm, fun hp => ?_⟩, fun z hz' => hwz z (List.mem_of_mem_take hz')⟩
  have hp : 0 < len := hp
  obtain ⟨b, o, sp⟩ := a
  have h0 := hcell 0 xq
  have hsp : sp = none := by simpa [Addr.add] using World.cell?_spot h0
  subst hsp
  refine ⟨b, o, rfl, ?_, fun i hi => ?_⟩
  ·have := block_lt_of_cell h0
   simpa [Addr.add] using this
  ·have hi : i < len := hi
   have := hcell i xq
   rw [show (⟨b, o, none⟩ : Addr).add i = ⟨b, o + i, none⟩ by unfold Addr.add; split <;> simp_all] at this
   rw [this, List.getElem?_take_of_lt hi]
   simp
theorem wf_i64 {z : Int} (h : (Lit.int .i64 z).wf = true) : -9223372036854775808 ≤ z ∧ z ≤ 9223372036854775807 := by
 simp [Lit.wf, IntKind.min, IntKind.max, IntKind.bits, IntKind.signed] at h
 omega
theorem two_of {α : Type} {xs : List α} (h : xs.length = 2) : ∃ a b, xs = [a, b] := by
 match xs, h with
 | [a, b], _ => exact ⟨a, b, rfl⟩
section
variable {r0 : Reach} {b0 : Nat} {v : Value} {d : DataW H} {p : List MemPlace}
end
end
end Go.Proofs.Ytdmpfhhhlhoeiaa
namespace Go.Proofs.Ytdmpfhhhlhoeiaa
open Go.RowKit
set_option linter.unusedVariables false
def St.own (S : St) (d : Tmp) (V : Vr) (n c : Nat) : St := ⟨S.n, upd S.reg d (some (.slc d 0 n c)), upd S.var d (some V)⟩
def hide (u w' : World) : World := { u with heap := u.heap ++ Array.replicate (w'.heap.size - u.heap.size) hidO }
section
variable {P : Program} {ops : Array Oper} {w0 : Base} {u0 : World} {S T : St} {B : Tmp → Nat} {a : Act} {w w' u u' : World} {o : Oper} {p : List Tmp} {seq : Bool} {rest : List (Oper × List Tmp)} {K : St → World → Prop}
theorem zwp (h : u.heap.size ≤ w'.heap.size) : (hide u w').heap.size = w'.heap.size := by simp [hide]; omega
theorem hide_old {b : Nat} (h : b < u.heap.size) : (hide u w').heap[b]? = u.heap[b]? := by
 simp only [hide]; rw [Array.getElem?_append_left h]
theorem hide_new {b : Nat} (h : u.heap.size ≤ b) (h2 : b < w'.heap.size) : (hide u w').heap[b]? = some hidO := by
 simp only [hide]; rw [Array.getElem?_append_right h, Array.getElem?_replicate, if_pos xq]
theorem hide_grow (h : u.heap.size ≤ w'.heap.size) : Grow u (hide u w') := ⟨by rw [zwp h]; exact h, fun b hb => hide_old hb⟩
theorem zwf {pubs : List Tmp} {r : Tmp} {x : SV} (h : (S.unpub pubs).reg r = some x) : S.reg r = some x ∧ r ∉ pubs := by
 simp only [St.unpub] at h
 cases e : pubs.contains r with
 | true => rw [e] at h; cases h
 | false => rw [e] at h; exact ⟨h, fun hm => by rw [List.contains_iff_mem.2 hm] at e; cases e⟩
theorem zxn {pubs : List Tmp} {r : Tmp} {x : Vr} (h : (S.unpub pubs).var r = some x) : S.var r = some x ∧ r ∉ pubs := by
 simp only [St.unpub] at h
 cases e : pubs.contains r with
 | true => rw [e] at h; cases h
 | false => rw [e] at h; exact ⟨h, fun hm => by rw [List.contains_iff_mem.2 hm] at e; cases e⟩
theorem Rep.grown (h : Rep w0 u0 S B a w u) {pubs : List Tmp} (hno : NoAt S pubs) {row : Option Nat} (hrow : ∀ b, row = some b → ∃ t ∈ pubs, t < S.n ∧ ∃ V, S.var t = some V ∧ B t = b) (hg : w.grownBy w' row)
  {d : Tmp} {V : Vr} {g n c : Nat} (hd : d < S.n) (hdv : S.var d = none ∨ d ∈ pubs) (hgv : w'.heap[g]? = some (.cells V.cs.toArray V.ty (0, 0))) (hgo : row = some g ∨ g = w.heap.size) :
  Rep w0 u0 ((S.unpub pubs).own d V n c) (setB B d g) (a.put (some d) (.slice (some ⟨g, 0, none⟩) n c)) w' (hide u w') := by
 have hus : u.heap.size = w.heap.size := h.dat.size
 have hsz : u.heap.size ≤ w'.heap.size := by rw [hus]; exact hg.size
 have hrowu : ∀ b, row = some b → u.heap[b]? = some hidO ∧ u0.heap.size ≤ b ∧ b < w.heap.size := fun b hb => by
  obtain ⟨t, _, hlt, V', hV, rfl⟩ := hrow b hb
  exact ⟨(h.var t V' hV).2.1, (h.var t V' hV).2.2.1 hlt, h.lt hV⟩
 have hat : ∀ r x, S.reg r = some x → r ∉ pubs → x.at? ≠ some d := fun r x hx hr e => by
  obtain ⟨V', hV'⟩ := h.wf.reg r x d hx e
  rcases hdv with hdv | hdv
  ·rw [hdv] at hV'; cases hV'
  ·exact hr (hno r x d hx e hdv)
 refine ⟨⟨fun r x hx => ?_, by rw [Act.put_size]; exact h.regs.size⟩, ⟨fun r x t hx ht => ?_⟩, by rw [put_defers]; exact h.defers, fun t V' hV => ?_, fun t t' V1 V2 h1 h2 e => ?_, ⟨zwp hsz, fun b o hb hh => ?_⟩, h.base, h.grow.trans (hide_grow hsz), ?_⟩
 ·by_cases e : r = d
  ·subst e
   simp only [St.own, zxc] at hx
   injection hx with hx
   subst hx
   rw [Act.put_get_same _ _ (by rw [h.regs.size]; exact hd)]
   simp [SV.conc, setB]
  ·simp only [St.own, upd_ne _ _ e] at hx
   obtain ⟨k1, k2⟩ := zwf hx
   rw [Act.put_get_ne _ _ (fun k => e (by injection k with k; exact k.symm)), conc_setB (hat r x k1 k2)]
   exact h.regs.reg r x k1
 ·show ∃ V', upd (S.unpub pubs).var d (some V) t = some V'
  by_cases e : t = d
  ·subst e; exact ⟨V, zxc _ _ _⟩
  ·rw [upd_ne _ _ e]
   by_cases e2 : r = d
   ·subst e2
    simp only [St.own, zxc] at hx
    injection hx with hx
    subst hx
    injection ht with ht; exact absurd ht.symm e
   ·simp only [St.own, upd_ne _ _ e2] at hx
    obtain ⟨k1, k2⟩ := zwf hx
    obtain ⟨V', hV'⟩ := h.wf.reg r x t k1 ht
    have hnt : t ∉ pubs := fun hm => k2 (hno r x t k1 ht hm)
    exact ⟨V', by rw [unpub_var hnt]; exact hV'⟩
 ·by_cases e : t = d
  ·subst e
   simp only [St.own, zxc] at hV
   injection hV with hV
   subst hV
   rw [show setB B t g t = g by simp [setB]]
   refine ⟨hgv, ?_, ?_⟩
   ·rcases hgo with hgo | hgo
    ·obtain ⟨k1, _, k3⟩ := hrowu g hgo
     rw [hide_old xq]; exact k1
    ·exact hide_new xq (zxa hgv)
   ·refine .mk0 hd ?_
    rcases hgo with hgo | hgo
    ·exact (hrowu g hgo).2.1
    ·have := h.grow.size; omega
  ·simp only [St.own, upd_ne _ _ e] at hV
   obtain ⟨k1, k2⟩ := zxn hV
   obtain ⟨g1, g2, g3⟩ := h.var t V' k1
   rw [show setB B d g t = B t by simp [setB, e]]
   refine ⟨?_, by rw [hide_old (zxa g2)]; exact g2, g3⟩
   rw [hg.block _ (h.lt k1) ?_]
   ·exact g1
   ·intro hb
    obtain ⟨s, hs, _, Vs, hVs, he⟩ := hrow _ hb.symm
    exact k2 (h.inj s t Vs V' hVs k1 he ▸ hs)
 ·have key : ∀ t V1, (((S.unpub pubs).own d V n c)).var t = some V1 → t ≠ d → S.var t = some V1 ∧ t ∉ pubs := fun t V1 hV e => by
   simp only [St.own, upd_ne _ _ e] at hV; exact zxn hV
  have hgt : ∀ t V1, S.var t = some V1 → t ∉ pubs → B t ≠ g := fun t V1 hV hn e => by
   rcases hgo with hgo | hgo
   ·obtain ⟨s, hs, _, Vs, hVs, he⟩ := hrow g hgo
    exact hn (h.inj s t Vs V1 hVs hV (he.trans e.symm) ▸ hs)
   ·have := h.lt hV; omega
  by_cases e1 : t = d
  ·by_cases e2 : t' = d
   ·rw [e1, e2]
   ·obtain ⟨k1, k2⟩ := key t' V2 h2 e2
    simp [setB, e1, e2] at e
    exact absurd e.symm (hgt t' V2 k1 k2)
  ·obtain ⟨k1, k2⟩ := key t V1 h1 e1
   by_cases e2 : t' = d
   ·simp [setB, e1, e2] at e
    exact absurd e (hgt t V1 k1 k2)
   ·obtain ⟨k3, k4⟩ := key t' V2 h2 e2
    simp [setB, e1, e2] at e
    exact h.inj t t' V1 V2 k1 k3 e
 ·rcases Nat.lt_or_ge b u.heap.size with hlt | hge
  ·rw [hide_old hlt] at hb
   rw [hg.block b xq (fun hc => ?_)]
   ·exact h.dat.vis b o hb hh
   ·obtain ⟨k1, _⟩ := hrowu b hc.symm
    rw [k1] at hb; injection hb with hb; exact hh hb.symm
  ·have hlt := zxa hb
   rw [zwp hsz] at hlt
   rw [hide_new hge hlt] at hb; injection hb with hb; exact absurd hb.symm hh
 ·refine h.bel.trans ⟨hg.os, hg.tape, hg.output, hg.size, fun k hk => hg.block k ?_ (fun hc => ?_)⟩
  ·have h1 := h.bel.size; omega
  ·obtain ⟨_, k2, _⟩ := hrowu k hc.symm
   have := h.base; omega
theorem run_app {T E : TypeId} {z : Value} {size bytes : Nat} (hT : P.underlying T = some (.slice E)) (hi : (P.info? E).map (fun i => (i.zero, i.size, i.bytes)) = some (some z, size, bytes)) (hzs : z.cells.size = size) (hsz : 0 < size)
  {v : Value} {n : Nat} {xs : List Value} (hown : w.ownsRow u0.heap.size E size v n xs) {ad : Addr} {m c : Nat} {news : List Value} (hl : news.length = m * size) (hnews : ∀ j x, news[j]? = some x → w.cell? (ad.add j) = some x) (h1 : ∀ x ∈ news, x.oneCell' = true)
  (hm : 0 < m) (h63 : n + m ≤ maxLen) (hbytes : (n + m) * bytes ≤ 140737488355328) (hb : u0.heap.size ≤ w.heap.size) (ty : TypeId) :
  ∃ g c1 cs w', (Builtin.append_ #[T, T] ty #[v, .slice (some ad) m c]).run P w = .ok (.slice (some ⟨g, 0, none⟩) (n + m) c1) w' ∧ w'.heap[g]? = some (.cells cs E (0, 0)) ∧ n + m ≤ c1 ∧ c1 ≤ maxLen ∧ cs.toList.length = c1 * size ∧ cs.toList.take ((n + m) * size) = xs ++ news ∧
   w.grownBy w' v.ownBlock ∧ (v.ownBlock = some g ∨ g = w.heap.size) := by
 obtain ⟨i, hi1, hz, hs, hby⟩ := info_parts hi
 obtain ⟨v', w', hrun, g1, g2, g3, g4⟩ := run_append_own_at (P := P) w u0.heap.size T ty E i z size bytes hT hi1 hz hs hby hzs hsz v n xs hown ad m c news hl hnews h1 h63 hbytes hb
 rcases g1.2 with ⟨he, hn⟩ | ⟨g, cap, cur, he, hg, hh, hc, hm', hcs, ht⟩
 ·omega
 ·subst he
  refine ⟨g, cap, cur, w', hrun, hh, hc, hm', by simpa using hcs, ht, g2, ?_⟩
  rcases g4 with g4 | g4
  ·exact .inl g4.symm
  ·injection g4 with g4; exact .inr g4
theorem ev_of {x : Operand} {y : SV} (hr : RegOK S B a) (h : evO S x = some y) : a.eval x = y.conc B := ev_eval hr h
theorem sy_app0 (d : Tmp) {T E : TypeId} {s x : Operand} {z : Value} {size bytes : Nat} {b off m c : Nat} (news : List Value) (hT : P.underlying T = some (.slice E)) (hi : (P.info? E).map (fun i => (i.zero, i.size, i.bytes)) = some (some z, size, bytes)) (hzs : z.cells.size = size) (hsz : 0 < size)
  (hl : news.length = m * size) (hnews : ∀ j v, news[j]? = some v → u.cell? ⟨b, off + j, none⟩ = some v) (h1 : ∀ v ∈ news, v.oneCell' = true) (hm : 0 < m) (h63 : m ≤ maxLen) (hbytes : m * bytes ≤ 140737488355328)
  (k : ∀ c1 cs, m ≤ c1 → c1 ≤ maxLen → cs.length = c1 * size → cs.take (m * size) = news → sym P ops w0 u0 true rest (S.own d ⟨E, cs⟩ m c1) u K)
  (hw : Wants ops o S := by exact zwg xv) (hd : o.dst = some d := by kernel_rfl) (hop : o.op = .call { callee := .builtin .append, args := #[s, x], argTypes := #[T, T] } := by rfl) (hf : (freeB S d && (S.var d).isNone) = true := by kernel_rfl)
  (hs : evO S s = some (.v (.slice none 0 0)) := by rfl) (hx : evO S x = some (.v (.slice (some ⟨b, off, none⟩) m c)) := by rfl) : sym P ops w0 u0 true ((o, p) :: rest) S u K := by
 simp only [Bool.and_eq_true, Option.isNone_iff_eq_none] at hf
 refine .inr (.inr (.inl ⟨.inl rfl, fun B a w u' he hrep => ⟨hw B a hrep.regs, ?_⟩⟩))
 obtain ⟨g, c1, cs, w', hrun, hgv, k1, k2, k3, k4, k5, k6⟩ := run_app (P := P) (u0 := u0) (w := w) (v := .slice none 0 0) (n := 0) (xs := []) (ad := ⟨b, off, none⟩) (c := c) hT hi hzs hsz ⟨by simp, .inl ⟨rfl, rfl⟩⟩ hl (fun j v hv => by rw [addr_add]; exact hrep.dat.ext.cell (he.cell (hnews j v hv))) h1 hm xq (by simpa using hbytes) (by rw [← hrep.dat.size]; exact hrep.grow.size) o.type
 rw [Nat.zero_add] at hrun k1 k4
 unfold Oper.wp execOp
 simp only [hop, resolve, invoke, builtin, Sem.run_bind, Sem.run_pure, Result.andThen_ok, List.map_toArray, List.map_cons, List.map_nil, ev_of hrep.regs hs, ev_of hrep.regs hx, SV.conc, hrun]
 have hr2 := hrep.grown (pubs := []) (fun r x t _ _ h => by cases h) (row := none) (fun b h => by cases h) k5 (d := d) (V := ⟨E, cs.toList⟩) (g := g) (n := m) (c := c1) (zxy hd hf.1 d hd).1 (.inl hf.2) (by simpa using hgv) (k6.imp (fun h => by cases h) id)
 rw [unpub_nil] at hr2
 have hsz2 : u'.heap.size ≤ w'.heap.size := by rw [hrep.dat.size]; exact k5.size
 show ∃ S' B' u'' u2, Rep w0 u0 S' B' (a.put o.dst _) w' u'' ∧ _
 rw [hd]
 exact ⟨_, _, _, u, hr2, fun _ => (hide_grow hsz2).ext, fun _ => Ext.refl _, he.trans (hide_grow hsz2).ext, k c1 cs.toList k1 k2 k3 (by simpa using k4)⟩
theorem sy_app1 (d : Tmp) {T E : TypeId} {s x : Operand} {z : Value} {size bytes : Nat} {b off m c t n cap : Nat} {cs0 : List Value} (pubs : List Tmp) (news : List Value) (hT : P.underlying T = some (.slice E)) (hi : (P.info? E).map (fun i => (i.zero, i.size, i.bytes)) = some (some z, size, bytes)) (hzs : z.cells.size = size) (hsz : 0 < size)
  (hl : news.length = m * size) (hnews : ∀ j v, news[j]? = some v → u.cell? ⟨b, off + j, none⟩ = some v) (h1 : ∀ v ∈ news, v.oneCell' = true) (hm : 0 < m) (h63 : n + m ≤ maxLen) (hbytes : (n + m) * bytes ≤ 140737488355328)
  (hn : n ≤ cap) (hcap : cap ≤ maxLen) (hcl : cs0.length = cap * size) (hno : NoAt S pubs)
  (k : ∀ c1 cs, n + m ≤ c1 → c1 ≤ maxLen → cs.length = c1 * size → cs.take ((n + m) * size) = cs0.take (n * size) ++ news → sym P ops w0 u0 true rest ((S.unpub pubs).own d ⟨E, cs⟩ (n + m) c1) u K)
  (hw : Wants ops o S := by exact zwg xv) (hd : o.dst = some d := by kernel_rfl) (hop : o.op = .call { callee := .builtin .append, args := #[s, x], argTypes := #[T, T] } := by rfl) (hf : (Nat.blt d S.n && ((S.var d).isNone || pubs.contains d) && pubs.contains t && Nat.blt t S.n) = true := by kernel_rfl)
  (hs : evO S s = some (.slc t 0 n cap) := by rfl) (hv : S.var t = some ⟨E, cs0⟩ := by rfl) (hx : evO S x = some (.v (.slice (some ⟨b, off, none⟩) m c)) := by rfl) : sym P ops w0 u0 true ((o, p) :: rest) S u K := by
 simp only [Bool.and_eq_true, Bool.or_eq_true, Option.isNone_iff_eq_none, List.contains_iff_mem] at hf
 refine .inr (.inr (.inl ⟨.inl rfl, fun B a w u' he hrep => ⟨hw B a hrep.regs, ?_⟩⟩))
 have htn : t < S.n := Nat.le_of_ble_eq_true hf.2
 obtain ⟨v1, v2, v3⟩ := hrep.var t _ hv
 have v3 := v3.1 htn
 obtain ⟨g, c1, cs, w', hrun, hgv, k1, k2, k3, k4, k5, k6⟩ := run_app (P := P) (u0 := u0) (w := w) (v := .slice (some ⟨B t, 0, none⟩) n cap) (n := n) (xs := cs0.take (n * size)) (ad := ⟨b, off, none⟩) (c := c) hT hi hzs hsz
  ⟨by rw [List.length_take, hcl]; exact Nat.min_eq_left (Nat.mul_le_mul_right _ hn), .inr ⟨B t, cap, cs0.toArray, rfl, v3, v1, hn, hcap, by simpa using hcl, by simp⟩⟩ hl (fun j v hv => by rw [addr_add]; exact hrep.dat.ext.cell (he.cell (hnews j v hv))) h1 hm h63 hbytes (by rw [← hrep.dat.size]; exact hrep.grow.size) o.type
 unfold Oper.wp execOp
 simp only [hop, resolve, invoke, builtin, Sem.run_bind, Sem.run_pure, Result.andThen_ok, List.map_toArray, List.map_cons, List.map_nil, ev_of hrep.regs hs, ev_of hrep.regs hx, SV.conc, hrun]
 have hr2 := hrep.grown hno (row := some (B t)) (fun b h => by injection h with h; exact ⟨t, hf.1.2, htn, _, hv, h⟩) k5 (d := d) (V := ⟨E, cs.toList⟩) (g := g) (n := n + m) (c := c1) (Nat.le_of_ble_eq_true hf.1.1.1) hf.1.1.2 (by simpa using hgv) k6
 have hsz2 : u'.heap.size ≤ w'.heap.size := by rw [hrep.dat.size]; exact k5.size
 show ∃ S' B' u'' u2, Rep w0 u0 S' B' (a.put o.dst _) w' u'' ∧ _
 rw [hd]
 exact ⟨_, _, _, u, hr2, fun _ => (hide_grow hsz2).ext, fun _ => Ext.refl _, he.trans (hide_grow hsz2).ext, k c1 cs.toList k1 k2 k3 k4⟩
theorem makes {T E : TypeId} {x y : Operand} {z : Value} {size bytes : Nat} {k1 k2 : IntKind} (n : Nat) (hT : P.underlying T = some (.slice E)) (hi : (P.info? E).map (fun i => (i.zero, i.size, i.bytes)) = some (some z, size, bytes)) (hb : bytes * n ≤ 281474976710656) (h63 : n ≤ maxLen) (hop : o.op = .makeSlice T x y)
  (hx : evO S x = some (.v (.int k1 n))) (hy : evO S y = some (.v (.int k2 n))) (hr : RegOK S B a) : (execOp a.eval o).run P w = .ok (.value (.slice (some ⟨w.heap.size, 0, none⟩) n n)) (w.alloc (.cells (madeCells z.cells (n * size)) E)) := by
 obtain ⟨inf, hi1, hz, hs, hby⟩ := info_parts hi
 have h63' : (n : Int) ≤ 9223372036854775807 := by unfold maxLen at h63; omega
 have hb' : (inf.bytes : Int) * (n : Int) ≤ 281474976710656 := by
  have h : ((inf.bytes * n : Nat) : Int) ≤ 281474976710656 := by rw [hby]; omega
  rwa [Int.natCast_mul] at h
 have hrun := run_make (P := P) w T E inf z hT hi1 hz k1 k2 n n xq (Int.le_refl _) hb' h63'
 have e1 : (execOp a.eval o).run P w = (do pure (Next.value (← Instr.makeSlice T (a.eval x) (a.eval y))) : Sem Next).run P w := by unfold execOp; rw [hop]
 rw [e1, ev_of hr hx, ev_of hr hy]
 rw [hs] at hrun
 exact run_val (by simpa [SV.conc] using hrun)
theorem sy_make (d : Tmp) {T E : TypeId} {x y : Operand} {z : Value} {size bytes : Nat} {k1 k2 : IntKind} {i j : Int} (n : Nat) (cs : List Value) (hT : P.underlying T = some (.slice E)) (hi : (P.info? E).map (fun i => (i.zero, i.size, i.bytes)) = some (some z, size, bytes)) (hn : i = n) (hn2 : j = n) (hb : bytes * n ≤ 281474976710656) (h63 : n ≤ maxLen) (hcs : (madeCells z.cells (n * size)).toList = cs)
  (k : sym P ops w0 u0 seq rest (S.lit d ⟨E, cs⟩ n) u K) (hw : Wants ops o S := by exact zwg xv) (hd : o.dst = some d := by kernel_rfl) (hop : o.op = .makeSlice T x y := by rfl) (hf : freeB S d = true := by kernel_rfl) (hv : S.var d = none := by kernel_rfl)
  (hx : evO S x = some (.v (.int k1 i)) := by rfl) (hy : evO S y = some (.v (.int k2 j)) := by rfl) : sym P ops w0 u0 seq ((o, p) :: rest) S u K := by
 obtain ⟨inf, hi1, hz, hs, hby⟩ := info_parts hi
 subst hcs hn hn2
 refine .inl ⟨by rw [hop]; exact (by decide : (0 : Nat) ≠ 2), (.lit ⟨E, (madeCells z.cells (n * size)).toList⟩ n), ⟨zxy hd hf, d, hd, hv, fun B a w hr => ⟨hw B a hr, ?_⟩⟩, ?_⟩
 ·have h63' : (n : Int) ≤ 9223372036854775807 := by unfold maxLen at h63; omega
  have hb' : (inf.bytes : Int) * (n : Int) ≤ 281474976710656 := by
   have h : ((inf.bytes * n : Nat) : Int) ≤ 281474976710656 := by rw [hby]; omega
   rwa [Int.natCast_mul] at h
  have hrun := run_make (P := P) w T E inf z hT hi1 hz k1 k2 n n xq (Int.le_refl _) hb' h63'
  have e1 : (execOp a.eval o).run P w = (do pure (Next.value (← Instr.makeSlice T (a.eval x) (a.eval y))) : Sem Next).run P w := by unfold execOp; rw [hop]
  rw [e1, ev_of hr hx, ev_of hr hy]
  rw [hs] at hrun
  exact run_val (by simpa [SV.conc] using hrun)
 ·show sym P ops w0 u0 seq rest (S.app o.dst (.lit ⟨E, (madeCells z.cells (n * size)).toList⟩ n)) u K
  rw [hd]; exact k
theorem zyw (d : Tmp) {T : TypeId} {r t : Tmp} {ix : Operand} {off n c sz off' : Nat} {kk : IntKind} {i : Int} (hT : SlIs P T sz) (h0 : 0 ≤ i) (h1 : i < n) (ho : off + i.toNat * sz = off') (k : sym P ops w0 u0 seq rest (S.set d (.adr t off')) u K) (hw : Wants ops o S := by exact zwg xv) (hd : o.dst = some d := by kernel_rfl) (hop : o.op = .indexAddr T (.tmp r) ix := by rfl) (hf : freeB S d = true := by kernel_rfl)
  (hx : S.reg r = some (.slc t off n c) := by rfl) (hi : evO S ix = some (.v (.int kk i)) := by rfl) : sym P ops w0 u0 seq ((o, p) :: rest) S u K := by
 subst ho
 have hl : r ∈ o.looksAt ops := List.mem_append_left _ (List.mem_filterMap.2 ⟨.tmp r, by rw [hop]; simp [Op.operands], rfl⟩)
 refine .inl ⟨by rw [hop]; exact (by decide : (0 : Nat) ≠ 2), .set (.adr t (off + i.toNat * sz)), ⟨zxy hd hf, .inl ⟨(fun s hs => ⟨r, hl, _, hx, hs⟩), fun B a w u' hr he hdt => ⟨hw B a hr, ?_⟩⟩⟩, ?_⟩
 ·have e1 : (execOp a.eval o).run P w = (do pure (Next.value (← Instr.indexAt T (a.eval (.tmp r)) (a.eval ix))) : Sem Next).run P w := by unfold execOp; rw [hop]
  rw [e1, hr.eval hx, ev_of hr hi]
  exact run_val (run_index hT h0 h1)
 ·show sym P ops w0 u0 seq rest (S.put o.dst (some _)) u K
  rw [hd]; exact k
theorem zyv {T : TypeId} {r s : Tmp} {z : Operand} {off : Nat} {V : Vr} (cs' : List Value) {v : Value} {agg : Bool} {n : Nat} (hT : TyIs P T agg n) (hle : off + n ≤ V.cs.length) (hV : setL V.cs off v.cells.toList = cs') (k : sym P ops w0 u0 seq rest (S.setVar s ⟨V.ty, cs'⟩) u K) (hw : Wants ops o S := by exact zwg xv) (hd : o.dst = none := by kernel_rfl) (hop : o.op = .store T (.tmp r) z := by rfl) (hr : S.reg r = some (.adr s off) := by rfl) (hv : S.var s = some V := by rfl) (hz : evO S z = some (.v v) := by rfl)
  (hn : v.cells.size = n := by kernel_rfl) (hone : v.cells.toList.all Value.oneCell' = true := by kernel_rfl) (hnl : (p.all fun r' => match S.reg r' with | some (.adr t _) => !Nat.beq t s | _ => true) = true := by kernel_rfl) : sym P ops w0 u0 seq ((o, p) :: rest) S u K := by
 subst hV
 refine .inr (.inr (.inr (.inl ⟨s, _, ⟨T, r, z, off, V, v, agg, n, hop, hd, hr, hv, fun B a hreg => ?_, hT, hn, hone, hle, rfl, hw, fun r' hr' t off' ht => ?_⟩, k⟩)))
 ·cases z with
  | tmp t => exact hreg.eval hz
  | const x => injection hz with hz; injection hz
  | global g => injection hz with hz; injection hz
  | func f => injection hz with hz; injection hz
 ·have := List.all_eq_true.1 hnl r' hr'
  simp only [ht, Bool.not_eq_true'] at this
  rintro rfl
  rw [Nat.beq_refl] at this; cases this
theorem Rep.pub (h : Rep w0 u0 S B a w u) {r t : Tmp} {off n c : Nat} {V : Vr} {pubs : List Tmp} (hno : NoAt S pubs) (ht : t ∈ pubs) (hall : ∀ s ∈ pubs, ∀ V', S.var s = some V' → s = t) (hr : S.reg r = some (.slc t off n c)) (hv : S.var t = some V) (htn : t < S.n) :
  Rep w0 u0 ((S.unpub pubs).set r (.v (.slice (some ⟨B t, off, none⟩) n c))) B a w (pubW u w [B t]) := by
 refine ⟨⟨fun s x hx => ?_, h.regs.size⟩, ⟨fun s x t' hx ht' => ?_⟩, h.defers, fun s V' hV => ?_, fun s s' V1 V2 h1 h2 e => ?_, pubW_dat h.dat, h.base, pubW_grow h.grow (fun b hb => ?_), h.bel⟩
 ·by_cases e : s = r
  ·subst e
   simp only [St.set, zxc] at hx
   injection hx with hx
   subst hx
   exact h.regs.reg s (.slc t off n c) hr
  ·simp only [St.set, upd_ne _ _ e] at hx
   exact h.regs.reg s x (zwf hx).1
 ·by_cases e : s = r
  ·subst e
   simp only [St.set, zxc] at hx
   injection hx with hx
   subst hx; cases ht'
  ·simp only [St.set, upd_ne _ _ e] at hx
   obtain ⟨k1, k2⟩ := zwf hx
   obtain ⟨V', hV'⟩ := h.wf.reg s x t' k1 ht'
   exact ⟨V', by show (S.unpub pubs).var t' = _; rw [unpub_var (fun hm => k2 (hno s x t' k1 ht' hm))]; exact hV'⟩
 ·obtain ⟨k1, k2⟩ := zxn hV
  obtain ⟨g1, g2, g3⟩ := h.var s V' k1
  refine ⟨g1, ?_, g3⟩
  rw [pubW_out]
  ·exact g2
  ·intro hm
   simp at hm
   exact k2 (h.inj s t V' V k1 hv hm ▸ ht)
 ·exact h.inj s s' V1 V2 (zxn h1).1 (zxn h2).1 e
 ·simp at hb; subst hb; exact (h.var t V hv).2.2.1 htn
theorem zyp {c0 : Code} {Q : MP} {r t : Tmp} {off n c : Nat} {V : Vr} (pubs : List Tmp) (hno : NoAt S pubs) (hall : (pubs.all fun s => Nat.beq s t || (S.var s).isNone) = true) (hr : S.reg r = some (.slc t off n c)) (hv : S.var t = some V) (ht : pubs.contains t = true)
  (k : ∀ b u1, Ext u u1 → u0.heap.size ≤ b → u1.heap[b]? = some (.cells V.cs.toArray V.ty (0, 0)) → SW P w0 u0 c0 ((S.unpub pubs).set r (.v (.slice (some ⟨b, off, none⟩) n c))) u1 Q) (hlt : Nat.blt t S.n = true := by kernel_rfl) : SW P w0 u0 c0 S u Q := by
 intro B a w u' e hrep
 have hm := List.contains_iff_mem.1 ht
 obtain ⟨g1, g2, g3⟩ := hrep.var t V hv
 have hx : Ext u' (pubW u' w [B t]) := pubW_ext hrep.dat
 have hrep2 := hrep.pub hno hm (fun s hs V' hV' => by
  have := List.all_eq_true.1 hall s hs
  simp only [Bool.or_eq_true, Option.isNone_iff_eq_none] at this
  rcases this with h | h
  ·exact Nat.eq_of_beq_eq_true h
  ·rw [hV'] at h; cases h) hr hv (Nat.le_of_ble_eq_true hlt)
 exact k (B t) (pubW u' w [B t]) (e.trans hx) (g3.1 (Nat.le_of_ble_eq_true hlt)) (by rw [pubW_in zq (zxa g2) hrep.dat.size]; exact g1) B a w _ (Ext.refl _) hrep2
def hideB (u : World) (b : Nat) : World := { u with heap := u.heap.setIfInBounds b hidO }
theorem hideB_size (u : World) (b : Nat) : (hideB u b).heap.size = u.heap.size := by simp [hideB]
theorem hideB_ne {b k : Nat} (h : k ≠ b) : (hideB u b).heap[k]? = u.heap[k]? := by simp only [hideB]; rw [Array.getElem?_setIfInBounds_ne (Ne.symm h)]
theorem hideB_eq {b : Nat} (h : b < u.heap.size) : (hideB u b).heap[b]? = some hidO := by simp [hideB, h]
structure ExtB (b : Nat) (u u' : World) : Prop where
 size : u.heap.size ≤ u'.heap.size
 vis : ∀ (k : Nat) (o : Obj), k ≠ b → u.heap[k]? = some o → o ≠ hidO → u'.heap[k]? = some o
theorem ExtB.ext {b : Nat} {u2 : World} (h : ExtB b u u') (e : Ext u' u2) : ExtB b u u2 := ⟨Nat.le_trans h.size e.size, fun k o hk ho hh => e.vis k o (h.vis k o hk ho hh) hh⟩
theorem ExtB.old {b : Nat} {v : World} (h : ExtB b u u') (e : Ext v u) (hb : v.heap.size ≤ b) : Ext v u' :=
 ⟨Nat.le_trans e.size h.size, fun k o hk hh => h.vis k o (fun e => by have := zxa hk; omega) (e.vis k o hk hh) hh⟩
theorem sw_adopt {c0 : Code} {Q : MP} {r k : Tmp} {n c b : Nat} {cs : List Value} {ty : TypeId} (hr : S.reg r = some (.v (.slice (some ⟨b, 0, none⟩) n c))) (hb : u.heap[b]? = some (.cells cs.toArray ty (0, 0))) (hb0 : u0.heap.size ≤ b) (hk : S.var k = none)
  (kk : ∀ u1, ExtB b u u1 → SW P w0 u0 c0 ⟨S.n, upd S.reg r (some (.slc k 0 n c)), upd S.var k (some ⟨ty, cs⟩)⟩ u1 Q) (hkn : Nat.blt k S.n = true := by kernel_rfl) : SW P w0 u0 c0 S u Q := by
 intro B a w u' e hrep
 have hbu : u'.heap[b]? = some (.cells cs.toArray ty (0, 0)) := e.cells hb
 have hbw : w.heap[b]? = some (.cells cs.toArray ty (0, 0)) := hrep.dat.ext.cells hbu
 have hlt := zxa hbu
 have hno : ∀ s x, S.reg s = some x → x.at? ≠ some k := fun s x hx hc => by
  obtain ⟨V, hV⟩ := hrep.wf.reg s x k hx hc; rw [hk] at hV; cases hV
 have hBt : ∀ t V, S.var t = some V → B t ≠ b := fun t V hV hc => by
  have := (hrep.var t V hV).2.1
  rw [hc, hbu] at this
  injection this with this
  unfold hidO at this; cases this
 have hex : ExtB b u (hideB u' b) := ⟨by rw [hideB_size]; exact e.size, fun k' o hk' ho hh => by rw [hideB_ne hk']; exact e.vis k' o ho hh⟩
 refine kk (hideB u' b) hex (setB B k b) a w _ (Ext.refl _) ⟨⟨fun s x hx => ?_, hrep.regs.size⟩, ⟨fun s x t hx ht => ?_⟩, hrep.defers, fun t V hV => ?_, fun t t' V1 V2 h1 h2 he => ?_, ⟨by rw [hideB_size]; exact hrep.dat.size, fun b' o hb' hh => ?_⟩, hrep.base, ⟨by rw [hideB_size]; exact hrep.grow.size, fun b' hb' hf' => ?_⟩, hrep.bel⟩
 ·by_cases e1 : s = r
  ·subst e1
   simp only [zxc] at hx
   injection hx with hx
   subst hx
   have := hrep.regs.reg s _ hr
   simpa [SV.conc, setB] using this
  ·simp only [upd_ne _ _ e1] at hx
   rw [conc_setB (hno s x hx)]
   exact hrep.regs.reg s x hx
 ·show ∃ V, upd S.var k (some ⟨ty, cs⟩) t = some V
  by_cases e2 : t = k
  ·subst e2; exact ⟨_, zxc _ _ _⟩
  ·rw [upd_ne _ _ e2]
   by_cases e1 : s = r
   ·subst e1
    simp only [zxc] at hx
    injection hx with hx
    subst hx
    injection ht with ht; exact absurd ht.symm e2
   ·simp only [upd_ne _ _ e1] at hx
    exact hrep.wf.reg s x t hx ht
 ·by_cases e2 : t = k
  ·subst e2
   simp only [zxc] at hV
   injection hV with hV
   subst hV
   rw [show setB B t b t = b by simp [setB]]
   exact ⟨hbw, hideB_eq hlt, .mk0 (Nat.le_of_ble_eq_true hkn) hb0⟩
  ·simp only [upd_ne _ _ e2] at hV
   obtain ⟨g1, g2, g3⟩ := hrep.var t V hV
   rw [show setB B k b t = B t by simp [setB, e2]]
   exact ⟨g1, by rw [hideB_ne (hBt t V hV)]; exact g2, g3⟩
 ·by_cases e1 : t = k
  ·by_cases e2 : t' = k
   ·rw [e1, e2]
   ·simp only [upd_ne _ _ e2] at h2
    simp [setB, e1, e2] at he
    exact absurd he.symm (hBt t' V2 h2)
  ·simp only [upd_ne _ _ e1] at h1
   by_cases e2 : t' = k
   ·simp [setB, e1, e2] at he
    exact absurd he (hBt t V1 h1)
   ·simp only [upd_ne _ _ e2] at h2
    simp [setB, e1, e2] at he
    exact hrep.inj t t' V1 V2 h1 h2 he
 ·by_cases e1 : b' = b
  ·subst e1
   rw [hideB_eq hlt] at hb'; injection hb' with hb'; exact absurd hb'.symm hh
  ·rw [hideB_ne e1] at hb'; exact hrep.dat.vis b' o hb' hh
 ·rw [hideB_ne xq]; exact hrep.grow.old b' hb' hf'
theorem Rep.lentBack (h : Rep w0 u0 S B a w u) {t : Tmp} {V V' : Vr} (hv : S.var t = some V) (hd : Dat u' w') (hb : Bel ⟨w, some (0, B t), []⟩ w') (hg : Grow u u') (hw : w'.heap[B t]? = some (.cells V'.cs.toArray V'.ty (0, 0))) {d : Option Tmp} (hfd : ∀ s, d = some s → s < S.n) (v : Value) :
  Rep w0 u0 ((S.setVar t V').put d (some (.v v))) B (a.put d v) w' u' := by
 obtain ⟨v1, v2, v3⟩ := h.var t V hv
 have hwf : (S.setVar t V').Wf := ⟨fun r x s hx hs => by
  obtain ⟨V1, hV1⟩ := h.wf.reg r x s hx hs
  by_cases e : s = t
  ·subst e; exact ⟨V', zxc _ _ _⟩
  ·exact ⟨V1, by show upd S.var t (some V') s = _; rw [upd_ne _ _ e]; exact hV1⟩⟩
 have key : ∀ s V1, (S.setVar t V').var s = some V1 → ∃ V2, S.var s = some V2 := fun s V1 hV => by
  by_cases e : s = t
  ·exact ⟨V, by rw [e]; exact hv⟩
  ·simp only [St.setVar, upd_ne _ _ e] at hV; exact ⟨V1, hV⟩
 have hbs := h.bel
 refine ⟨regOK_put (S := S.setVar t V') ⟨h.regs.reg, h.regs.size⟩ hfd (fun z e => by injection e with e; rw [← e]; rfl), wf_put hwf (fun z t e ht => by injection e with e; rw [← e] at ht; cases ht), by rw [put_defers]; exact h.defers, ?_, ?_, hd, h.base, h.grow.trans hg, ?_⟩
 ·rw [put_var, put_n]
  intro s V1 hV1
  by_cases e : s = t
  ·subst e
   simp only [St.setVar, zxc] at hV1
   injection hV1 with hV1
   subst hV1
   exact ⟨hw, by rw [hg.old _ (zxa v2)]; exact v2, v3⟩
  ·simp only [St.setVar, upd_ne _ _ e] at hV1
   obtain ⟨g1, g2, g3⟩ := h.var s V1 hV1
   refine ⟨?_, by rw [hg.old _ (zxa g2)]; exact g2, g3⟩
   rw [hb.block _ (zxa g1) (fun q hq => ?_) zq]
   ·exact g1
   ·injection hq with hq; injection hq with _ hq
    exact e (h.inj s t V1 V hV1 hv hq.symm)
 ·rw [put_var]
  intro s s' V1 V2 h1 h2 e
  obtain ⟨X, hX⟩ := key s V1 h1
  obtain ⟨Y, hY⟩ := key s' V2 h2
  exact h.inj s s' X Y hX hY e
 ·refine ⟨hb.os.trans hbs.os, hb.tape.trans hbs.tape, hb.output.trans hbs.output, Nat.le_trans hbs.size hb.size, fun k hk hl hf => ?_⟩
  rw [hb.block k (Nat.lt_of_lt_of_le hk hbs.size) (fun q hq => ?_) zq]
  ·exact hbs.block k hk hl hf
  ·injection hq with hq; injection hq with _ hq
   subst hq
   rcases Nat.lt_or_ge t S.n with hs3 | hs3
   ·have h3 := v3.1 hs3
    rw [h.base] at h3
    omega
   ·exact hl _ (v3.2 hs3)
theorem sy_lend (d : Tmp) (f : FuncId) {t len cap : Nat} {V : Vr} (args : List Value) {Φ : Vr → World → Prop} (hv : S.var t = some V)
  (kc : ∀ g w u1, Ext u u1 → Dat u1 w → w.heap[g]? = some (.cells V.cs.toArray V.ty (0, 0)) → u1.heap[g]? = some hidO → Calls P f (Value.slice (some ⟨g, 0, none⟩) len cap :: args).toArray w (PostL u1 w g Φ))
  (k : ∀ V' u1, Ext u u1 → Φ V' u1 → sym P ops w0 u0 true rest ((S.setVar t V').set d (.v (.tuple #[]))) u1 K)
  (hw : Wants ops o S := by exact zwg xv) (hd : o.dst = some d := by kernel_rfl) (hf : (freeB S d && knownB S o) = true := by kernel_rfl) (hk : opK o.op ≠ 2 := by decide)
  (hrun : ∀ B w, (execOp (rho S B) o).run P w = .ok (.enter f (Value.slice (some ⟨B t, 0, none⟩) len cap :: args).toArray) w := by intro _ _; kernel_rfl) : sym P ops w0 u0 true ((o, p) :: rest) S u K := by
 simp only [Bool.and_eq_true] at hf
 refine .inr (.inr (.inl ⟨.inl rfl, fun B a w u' he hrep => ⟨hw B a hrep.regs, ?_⟩⟩))
 obtain ⟨v1, v2, v3⟩ := hrep.var t V hv
 unfold Oper.wp
 rw [exec_rho hrep.regs hf.2 hk, hrun B w]
 simp only [Oper.upon]
 refine Calls.mono (kc (B t) w u' he hrep.dat v1 v2) ?_
 rintro e w' ⟨u2, V', rfl, k1, k2, k3, k4, k5⟩
 have hr2 := hrep.lentBack hv k1 k2 k3 k4 (d := o.dst) (fun s hs => (zxy hd hf.1 s hs).1) (.tuple #[])
 refine ⟨_, B, u2, u2, hr2, fun _ => k3.ext, fun _ => he.trans k3.ext, Ext.refl _, ?_⟩
 have := k V' u2 (he.trans k3.ext) k5
 rw [hd]; exact this
theorem Rep.lentBackS (h : Rep w0 u0 S B a w u) {t : Tmp} {V V' : Vr} (hv : S.var t = some V) (hd : Dat u' w') (hb : Bel ⟨w, some (0, B t), []⟩ w') (hg : Grow u u') (hw : w'.heap[B t]? = some (.cells V'.cs.toArray V'.ty (0, 0))) {d : Option Tmp} (hfd : ∀ s, d = some s → s < S.n) (m cap : Nat) :
  Rep w0 u0 ((S.setVar t V').put d (some (.slc t 0 m cap))) B (a.put d (.slice (some ⟨B t, 0, none⟩) m cap)) w' u' := by
 have h1 := h.lentBack hv hd hb hg hw (d := none) (fun s hs => by cases hs) undef
 have h2 : Rep w0 u0 (S.setVar t V') B a w' u' := h1
 exact h2.set (fun s hs => hfd s hs) (fun z e => by injection e with e; subst e; rfl) (fun z s e hs => by injection e with e; subst e; injection hs with hs; subst hs; exact ⟨V', zxc _ _ _⟩)
theorem sy_lendS (d : Tmp) (f : FuncId) {t len cap : Nat} {V : Vr} (args : List Value) {Φ : Nat → Vr → World → Prop} (hv : S.var t = some V)
  (kc : ∀ g w u1, Ext u u1 → Dat u1 w → w.heap[g]? = some (.cells V.cs.toArray V.ty (0, 0)) → u1.heap[g]? = some hidO → Calls P f (Value.slice (some ⟨g, 0, none⟩) len cap :: args).toArray w (PostS u1 w g cap Φ))
  (k : ∀ m V' u1, Ext u u1 → Φ m V' u1 → sym P ops w0 u0 true rest ((S.setVar t V').set d (.slc t 0 m cap)) u1 K)
  (hw : Wants ops o S := by exact zwg xv) (hd : o.dst = some d := by kernel_rfl) (hf : (freeB S d && knownB S o) = true := by kernel_rfl) (hk : opK o.op ≠ 2 := by decide)
  (hrun : ∀ B w, (execOp (rho S B) o).run P w = .ok (.enter f (Value.slice (some ⟨B t, 0, none⟩) len cap :: args).toArray) w := by intro _ _; kernel_rfl) : sym P ops w0 u0 true ((o, p) :: rest) S u K := by
 simp only [Bool.and_eq_true] at hf
 refine .inr (.inr (.inl ⟨.inl rfl, fun B a w u' he hrep => ⟨hw B a hrep.regs, ?_⟩⟩))
 obtain ⟨v1, v2, v3⟩ := hrep.var t V hv
 unfold Oper.wp
 rw [exec_rho hrep.regs hf.2 hk, hrun B w]
 simp only [Oper.upon]
 refine Calls.mono (kc (B t) w u' he hrep.dat v1 v2) ?_
 rintro e w' ⟨u2, V', m, rfl, k1, k2, k3, k4, k5⟩
 have hr2 := hrep.lentBackS hv k1 k2 k3 k4 (d := o.dst) (fun s hs => (zxy hd hf.1 s hs).1) m cap
 refine ⟨_, B, u2, u2, hr2, fun _ => k3.ext, fun _ => he.trans k3.ext, Ext.refl _, ?_⟩
 have := k m V' u2 (he.trans k3.ext) k5
 rw [hd]; exact this
theorem sy_over (d : Tmp) (x : SV) (k : sym P ops w0 u0 true rest (S.set d x) u K) (hw : Wants ops o S := by exact zwg xv) (hd : o.dst = some d := by kernel_rfl) (hk : opK o.op ≠ 2 := by decide) (hf : (Nat.blt d S.n && knownB S o && fromB ops o S x) = true := by kernel_rfl)
  (hrun : ∀ B w, (execOp (rho S B) o).run P w = .ok (.value (x.conc B)) w := by intro _ _; kernel_rfl) : sym P ops w0 u0 true ((o, p) :: rest) S u K := by
 simp only [Bool.and_eq_true] at hf
 refine .inr (.inr (.inl ⟨.inl rfl, fun B a w u' he hrep => ⟨hw B a hrep.regs, ?_⟩⟩))
 unfold Oper.wp
 rw [exec_rho hrep.regs hf.1.2 hk, hrun B w]
 simp only [Oper.upon]
 have hr2 := hrep.set (d := o.dst) (x := some x) (v := x.conc B) (fun s hs => by rw [hd] at hs; injection hs with hs; subst hs; exact Nat.le_of_ble_eq_true hf.1.1) (fun z e => by injection e with e; rw [e]) (fun z t e ht => by injection e with e; subst e; exact (from_of hf.2).wf hrep.wf t ht)
 refine ⟨_, B, u', u, hr2, fun _ => Ext.refl _, fun _ => Ext.refl _, he, ?_⟩
 rw [hd]; exact k
end
theorem eqI {k : IntKind} {x y : Int} (h : x = y) : SV.v (.int k x) = SV.v (.int k y) := by rw [h]
theorem sy_front {P : Program} {ops : Array Oper} {w0 : Base} {u0 : World} {S : St} {u : World} {o : Oper} {p : List Tmp} {seq : Bool} {rest : List (Oper × List Tmp)} {K : St → World → Prop} (d : Tmp) {T : TypeId} {x h : Operand} {A : Option Addr} {n c : Nat} {k : IntKind} {i : Int} (m : Nat) {sz : Nat} (hT : SlIs P T sz) (hi : i = m) (hm : m ≤ c)
  (kk : sym P ops w0 u0 seq rest (S.set d (.v (.slice A m c))) u K) (hw : Wants ops o S := by exact zwg xv) (hd : o.dst = some d := by kernel_rfl) (hop : o.op = .slice T x none (some h) none := by rfl) (hf : freeB S d = true := by kernel_rfl)
  (hx : evO S x = some (.v (.slice A n c)) := by rfl) (hh : evO S h = some (.v (.int k i)) := by rfl) : sym P ops w0 u0 seq ((o, p) :: rest) S u K := by
 subst hi
 obtain ⟨E, agg, hu, hE⟩ := hT
 refine .inl ⟨by rw [hop]; exact (by decide : (0 : Nat) ≠ 2), .set (.v (.slice A m c)), ⟨zxy hd hf, .inl ⟨(fun t ht => by cases ht), fun B a w u' hr he hdt => ⟨hw B a hr, ?_⟩⟩⟩, ?_⟩
 ·have e1 : (execOp a.eval o).run P w = (do pure (Next.value (← Instr.sliceAt T (a.eval x) none (some (a.eval h)) none)) : Sem Next).run P w := by unfold execOp; rw [hop]; rfl
  rw [e1, ev_eval hr hx, ev_eval hr hh]
  refine run_val ?_
  show (Instr.sliceAt T (.slice A n c) none (some (.int k m)) none).run P w = .ok (.slice A m c) w
  have hs := (hE w).2
  simp [Instr.sliceAt, Instr.slice, Instr.sliceBounds, Instr.sliceBound, asIntOf, run_underlying hu, go_sem, hs, hm]
 ·show sym P ops w0 u0 seq rest (S.put o.dst (some _)) u K
  rw [hd]; exact kk
theorem sy_frontO {P : Program} {ops : Array Oper} {w0 : Base} {u0 : World} {S : St} {u : World} {o : Oper} {p : List Tmp} {seq : Bool} {rest : List (Oper × List Tmp)} {K : St → World → Prop} (d : Tmp) {T : TypeId} {r t : Tmp} {h : Operand} {n c : Nat} {k : IntKind} {i : Int} (m : Nat) {sz : Nat} (hT : SlIs P T sz) (hi : i = m) (hm : m ≤ c)
  (kk : sym P ops w0 u0 seq rest (S.set d (.slc t 0 m c)) u K) (hw : Wants ops o S := by exact zwg xv) (hd : o.dst = some d := by kernel_rfl) (hop : o.op = .slice T (.tmp r) none (some h) none := by rfl) (hf : freeB S d = true := by kernel_rfl)
  (hx : S.reg r = some (.slc t 0 n c) := by rfl) (hh : evO S h = some (.v (.int k i)) := by rfl) : sym P ops w0 u0 seq ((o, p) :: rest) S u K := by
 subst hi
 obtain ⟨E, agg, hu, hE⟩ := hT
 have hl : r ∈ o.looksAt ops := List.mem_append_left _ (List.mem_filterMap.2 ⟨.tmp r, by rw [hop]; simp [Op.operands], rfl⟩)
 refine .inl ⟨by rw [hop]; exact (by decide : (0 : Nat) ≠ 2), .set (.slc t 0 m c), ⟨zxy hd hf, .inl ⟨(fun s hs => ⟨r, hl, _, hx, hs⟩), fun B a w u' hr he hdt => ⟨hw B a hr, ?_⟩⟩⟩, ?_⟩
 ·have e1 : (execOp a.eval o).run P w = (do pure (Next.value (← Instr.sliceAt T (a.eval (.tmp r)) none (some (a.eval h)) none)) : Sem Next).run P w := by unfold execOp; rw [hop]; rfl
  rw [e1, hr.eval hx, ev_eval hr hh]
  refine run_val ?_
  show (Instr.sliceAt T (.slice (some ⟨B t, 0, none⟩) n c) none (some (.int k m)) none).run P w = .ok (.slice (some ⟨B t, 0, none⟩) m c) w
  have hs := (hE w).2
  simp [Instr.sliceAt, Instr.slice, Instr.sliceBounds, Instr.sliceBound, asIntOf, run_underlying hu, go_sem, hs, hm]
 ·show sym P ops w0 u0 seq rest (S.put o.dst (some _)) u K
  rw [hd]; exact kk
def rl0 : RL := ⟨false, ⟨none, 0, 0⟩, ⟨none, 0, 0⟩⟩
def rcs (L : List RL) : List Value := L.flatMap RL.cs
section
variable {u u' w w' : World} {L M : List RL} {r : RL} {l m : List Rat} {q : Rat} {K K' n i c b off : Nat} {x y : Sl}
theorem rcs_cons : rcs (r :: L) = r.cs ++ rcs L := rfl
theorem rcs_app : rcs (L ++ M) = rcs L ++ rcs M := by simp [rcs]
theorem zyy : (rcs L).length = L.length * 3 := by
 induction L with
 | nil => rfl
 | cons r L ih => rw [rcs_cons, List.length_append, ih, List.length_cons]; simp [RL.cs]; omega
theorem rcs_drop (n : Nat) : (rcs L).drop (n * 3) = rcs (L.drop n) := by
 induction n generalizing L with
 | zero => simp
 | succ n ih =>
  cases L with
  | nil => simp [rcs]
  | cons r L => rw [rcs_cons, show (n + 1) * 3 = r.cs.length + n * 3 by simp [RL.cs]; omega, List.drop_append, Nat.add_sub_cancel_left, ih, List.drop_of_length_le xq]; simp
theorem rcs_take (n : Nat) : (rcs L).take (n * 3) = rcs (L.take n) := by
 induction n generalizing L with
 | zero => simp [rcs]
 | succ n ih =>
  cases L with
  | nil => simp [rcs]
  | cons r L => rw [rcs_cons, show (n + 1) * 3 = r.cs.length + n * 3 by simp [RL.cs]; omega, List.take_append, Nat.add_sub_cancel_left, ih, List.take_of_length_le xq]; simp [rcs_cons]
theorem rcs_get (h : i < L.length) : ((rcs L).drop (i * 3)).take 3 = (L.getD i rl0).cs := by
 rw [rcs_drop, List.drop_eq_getElem_cons h, rcs_cons]
 have : (L[i].cs).length = 3 := rfl
 rw [List.take_append_of_le_length xq, List.take_of_length_le xq]
 simp [h]
theorem part_rcs (h : i < L.length) {off : Nat} (ho : off = i * 3) : PartIs (rcs L) off true 3 (.v (L.getD i rl0).v) := by
 subst ho
 refine ⟨by rw [zyy]; omega, ?_⟩
 rw [rcs_get h]; rfl
theorem zyx (h : i < L.length) {off : Nat} (ho : off = i * 3) : setL (rcs L) off r.v.cells.toList = rcs (L.set i r) := by
 subst ho
 have e : r.v.cells.toList = r.cs := rfl
 rw [e]
 unfold setL
 rw [rcs_take, show i * 3 + r.cs.length = (i + 1) * 3 by simp [RL.cs]; omega, rcs_drop, List.set_eq_take_append_cons_drop, if_pos h, rcs_app, rcs_cons, List.append_assoc]
theorem made_rcs (n : Nat) : (madeCells (Value.agg #[.bool false, .slice none 0 0, .slice none 0 0]).cells (n * 3)).toList = rcs (List.replicate n rl0) := by
 apply List.ext_getElem?
 intro j
 have hl : (rcs (List.replicate n rl0)).length = n * 3 := by rw [zyy]; simp
 by_cases hj : j < n * 3
 ·have e1 : (madeCells (Value.agg #[.bool false, .slice none 0 0, .slice none 0 0]).cells (n * 3)).toList[j]? = some ((Value.agg #[.bool false, .slice none 0 0, .slice none 0 0]).cells[j % 3]!) := by
   simp [madeCells, hj, Value.cells]
  rw [e1]
  have h3 : j / 3 < (List.replicate n rl0).length := by simp; omega
  have e2 := rcs_get h3
  have e3 : (rcs (List.replicate n rl0))[j]? = (((rcs (List.replicate n rl0)).drop (j / 3 * 3)).take 3)[j % 3]? := by
   rw [List.getElem?_take_of_lt xq, List.getElem?_drop]; congr 1; omega
  rw [e3, e2]
  have e4 : (List.replicate n rl0).getD (j / 3) rl0 = rl0 := by rw [List.getD_eq_getElem?_getD, List.getElem?_replicate]; split <;> rfl
  rw [e4]
  have : j % 3 = 0 ∨ j % 3 = 1 ∨ j % 3 = 2 := by omega
  rcases this with h | h | h <;> rw [h] <;> rfl
 ·rw [List.getElem?_eq_none (by simp [madeCells]; omega), List.getElem?_eq_none xq]
def RatsV (u : World) (L : List RL) (l : List Rat) (K : Nat) : Prop := L.length = l.length ∧ ∀ i, i < l.length → RatV u (L.getD i rl0) (l.getD i 0) K
def RatsN (u : World) (L : List RL) (l : List Rat) (K : Nat) : Prop := L.length = l.length ∧ ∀ i, i < l.length → RatN u (L.getD i rl0) (l.getD i 0) K
theorem RatsV.ext (h : RatsV u L l K) (e : Ext u u') : RatsV u' L l K := ⟨h.1, fun i hi => (h.2 i hi).ext e⟩
theorem RatsN.ext (h : RatsN u L l K) (e : Ext u u') : RatsN u' L l K := ⟨h.1, fun i hi => (h.2 i hi).ext e⟩
theorem RatsN.raw (h : RatsN u L l K) : RatsV u L l K := ⟨h.1, fun i hi => (h.2 i hi).raw⟩
theorem RatsV.more (h : RatsV u L l K) (k : K ≤ K') : RatsV u L l K' := ⟨h.1, fun i hi => (h.2 i hi).more k⟩
theorem RatsN.more (h : RatsN u L l K) (k : K ≤ K') : RatsN u L l K' := ⟨h.1, fun i hi => (h.2 i hi).more k⟩
theorem RatsN.nil (u : World) (K : Nat) : RatsN u [] [] K := ⟨rfl, fun i hi => by cases hi⟩
theorem RatsN.snoc (h : RatsN u L l K) (hr : RatN u r q K) : RatsN u (L ++ [r]) (l ++ [q]) K := by
 refine ⟨by simp [h.1], fun i hi => ?_⟩
 simp at hi
 by_cases e : i < l.length
 ·have := h.2 i e
  rw [List.getD_eq_getElem?_getD, List.getElem?_append_left (by rw [h.1]; exact e), List.getD_eq_getElem?_getD (l := l ++ [q]), List.getElem?_append_left e]
  rw [List.getD_eq_getElem?_getD, List.getD_eq_getElem?_getD] at this
  exact this
 ·have : i = l.length := by omega
  subst this
  rw [List.getD_eq_getElem?_getD, List.getElem?_append_right (by rw [h.1]; exact Nat.le_refl _), List.getD_eq_getElem?_getD, List.getElem?_append_right (Nat.le_refl _)]
  simp [h.1]; exact hr
theorem RatsV.take (h : RatsV u L l K) (n : Nat) : RatsV u (L.take n) (l.take n) K := by
 refine ⟨by simp [h.1], fun i hi => ?_⟩
 rw [List.length_take] at hi
 have hi : i < n ∧ i < l.length := by omega
 have := h.2 i hi.2
 rw [List.getD_eq_getElem?_getD, List.getElem?_take_of_lt hi.1, List.getD_eq_getElem?_getD, List.getElem?_take_of_lt hi.1]
 rw [List.getD_eq_getElem?_getD, List.getD_eq_getElem?_getD] at this
 exact this
theorem RatsN.take (h : RatsN u L l K) (n : Nat) : RatsN u (L.take n) (l.take n) K := by
 refine ⟨by simp [h.1], fun i hi => ?_⟩
 rw [List.length_take] at hi
 have hi : i < n ∧ i < l.length := by omega
 have := h.2 i hi.2
 rw [List.getD_eq_getElem?_getD, List.getElem?_take_of_lt hi.1, List.getD_eq_getElem?_getD, List.getElem?_take_of_lt hi.1]
 rw [List.getD_eq_getElem?_getD, List.getD_eq_getElem?_getD] at this
 exact this
theorem RatsN.set (h : RatsN u L l K) (hi : i < l.length) (hr : RatN u r q K) : RatsN u (L.set i r) (l.set i q) K := by
 refine ⟨by simp [h.1], fun j hj => ?_⟩
 simp at hj
 have hL := h.1
 by_cases e : j = i
 ·subst e; simp [hL, hj]; exact hr
 ·have := h.2 j hj
  rw [List.getD_eq_getElem?_getD, List.getElem?_set_ne (Ne.symm e), List.getD_eq_getElem?_getD, List.getElem?_set_ne (Ne.symm e)]
  rw [List.getD_eq_getElem?_getD, List.getD_eq_getElem?_getD] at this
  exact this
theorem RatsN.step (h : RatsN u (L.take i) l K) (hi : i < L.length) (hr : RatN u r q K) : RatsN u ((L.set i r).take (i + 1)) (l ++ [q]) K := by
 have e : (L.set i r).take (i + 1) = L.take i ++ [r] := by
  rw [List.take_set, List.take_succ_eq_append_getElem hi, List.set_append_right _ _ yz]
  simp [Nat.min_eq_left (Nat.le_of_lt hi)]
 rw [e]; exact h.snoc hr
theorem take_snoc {t : List Rat} (h : i < t.length) : t.take i ++ [t.getD i 0] = t.take (i + 1) := by
 rw [List.take_succ_eq_append_getElem h]; simp [h]
theorem RatsN.tstep {t : List Rat} (h : RatsN u (L.take i) (t.take i) K) (hi : i < L.length) (ht : i < t.length) (hr : RatN u r q K) (hq : q = t.getD i 0) : RatsN u ((L.set i r).take (i + 1)) (t.take (i + 1)) K := by
 rw [← take_snoc ht, ← hq]; exact h.step hi hr
theorem RatsN.tnil (u : World) (L : List RL) (t : List Rat) (K : Nat) : RatsN u (L.take 0) (t.take 0) K := RatsN.nil u K
theorem RatsN.tdone {t : List Rat} (h : RatsN u (L.take i) (t.take i) K) (hi : i = L.length) (ht : i = t.length) : RatsN u L t K := by
 rw [hi, List.take_length, ← hi, ht, List.take_length] at h; exact h
theorem rcs_noint {j : Nat} {k : IntKind} {z : Int} : (rcs L)[j]? ≠ some (.int k z) := by
 intro h
 have hj : j < (rcs L).length := (List.getElem?_eq_some_iff.1 h).1
 rw [zyy] at hj
 have h3 : j / 3 < L.length := by omega
 have e3 : (rcs L)[j]? = (((rcs L).drop (j / 3 * 3)).take 3)[j % 3]? := by
  rw [List.getElem?_take_of_lt xq, List.getElem?_drop]; congr 1; omega
 rw [e3, rcs_get h3] at h
 have : j % 3 = 0 ∨ j % 3 = 1 ∨ j % 3 = 2 := by omega
 rcases this with e | e | e <;> rw [e] at h <;> simp [RL.cs] at h
theorem SlR.extB {A : Option Addr} {n c : Nat} {z : List Int} {k : IntKind} {t : TypeId} {M : List RL} (h : SlR k u A n c z) (hb : u.heap[b]? = some (.cells (rcs M).toArray t (0, 0))) (e : ExtB b u u') : SlR k u' A n c z := by
 obtain ⟨h1, h2, h3, h4⟩ := h
 refine ⟨h1, h2, h3, fun hp => ?_⟩
 obtain ⟨b', o, rfl, hlt, hc⟩ := h4 hp
 have hne : b' ≠ b := by
  rintro rfl
  have := hc 0 hp
  rw [cells_at' hb] at this
  have h9 : (rcs M)[o + 0]? = some (.int k (z[0]?.getD 0)) := by simpa using this
  exact rcs_noint h9
 refine ⟨b', o, rfl, Nat.lt_of_lt_of_le hlt e.size, fun i hi => ?_⟩
 have := hc i hi
 unfold World.cell? at this ⊢
 cases hb' : u.heap[b']? with
 | none => simp only [hb'] at this; cases this
 | some ob =>
  simp only [hb'] at this
  cases ob with
  | cells cs t' fr => rw [e.vis b' _ hne hb' (by unfold hidO; exact fun e => by cases e)]; exact this
  | _ => cases this
where
 cells_at' {u : World} {b : Nat} {cs : Array Value} {t : TypeId} (h : u.heap[b]? = some (.cells cs t (0, 0))) {j : Nat} : u.cell? ⟨b, j, none⟩ = cs[j]? := by simp [World.cell?, h]
theorem RatN.extB {t : TypeId} {M : List RL} (h : RatN u r q K) (hb : u.heap[b]? = some (.cells (rcs M).toArray t (0, 0))) (e : ExtB b u u') : RatN u' r q K :=
 ⟨⟨h.1.1, h.1.2.1, h.1.2.2.1.extB hb e, h.1.2.2.2⟩, h.2.1, h.2.2.1.extB hb e, h.2.2.2⟩
theorem RatsN.extB {t : TypeId} {M : List RL} (h : RatsN u L l K) (hb : u.heap[b]? = some (.cells (rcs M).toArray t (0, 0))) (e : ExtB b u u') : RatsN u' L l K := ⟨h.1, fun i hi => (h.2 i hi).extB hb e⟩
def SlC (u : World) (x : Sl) (cs : List Value) : Prop := cs.length = x.n * 3 ∧ x.n ≤ x.c ∧ x.c ≤ maxLen ∧ (0 < x.n → ∃ b o, x.a = some ⟨b, o, none⟩ ∧ ∀ j, j < cs.length → u.cell? ⟨b, o + j, none⟩ = cs[j]?)
theorem SlC.ext {cs : List Value} (h : SlC u x cs) (e : Ext u u') : SlC u' x cs := by
 obtain ⟨h1, h2, h3, h4⟩ := h
 refine ⟨h1, h2, h3, fun hp => ?_⟩
 obtain ⟨b, o, e1, hc⟩ := h4 hp
 refine ⟨b, o, e1, fun j hj => ?_⟩
 have := hc j hj
 rw [List.getElem?_eq_getElem hj] at this ⊢
 exact e.cell this
def PolV (u : World) (x : Sl) (l : List Rat) (K : Nat) : Prop := ∃ L, SlC u x (rcs L) ∧ RatsV u L l K
def PolN (u : World) (x : Sl) (l : List Rat) (K : Nat) : Prop := ∃ L, SlC u x (rcs L) ∧ RatsN u L l K
theorem PolV.ext (h : PolV u x l K) (e : Ext u u') : PolV u' x l K := by obtain ⟨L, h1, h2⟩ := h; exact ⟨L, h1.ext e, h2.ext e⟩
theorem PolN.ext (h : PolN u x l K) (e : Ext u u') : PolN u' x l K := by obtain ⟨L, h1, h2⟩ := h; exact ⟨L, h1.ext e, h2.ext e⟩
theorem PolN.raw (h : PolN u x l K) : PolV u x l K := by obtain ⟨L, h1, h2⟩ := h; exact ⟨L, h1, h2.raw⟩
theorem PolV.more (h : PolV u x l K) (k : K ≤ K') : PolV u x l K' := by obtain ⟨L, h1, h2⟩ := h; exact ⟨L, h1, h2.more k⟩
theorem PolN.more (h : PolN u x l K) (k : K ≤ K') : PolN u x l K' := by obtain ⟨L, h1, h2⟩ := h; exact ⟨L, h1, h2.more k⟩
theorem PolV.len (h : PolV u x l K) : x.n = l.length := by
 obtain ⟨L, h1, h2⟩ := h
 have := h1.1; rw [zyy, h2.1] at this; omega
theorem PolN.len (h : PolN u x l K) : x.n = l.length := h.raw.len
theorem PolV.max (h : PolV u x l K) : l.length ≤ maxLen := by
 have := h.len
 obtain ⟨L, h1, h2⟩ := h
 have := h1.2.1; have := h1.2.2.1; omega
theorem PolV.cap (h : PolV u x l K) : x.n ≤ x.c := by obtain ⟨L, h1, h2⟩ := h; exact h1.2.1
theorem PolN.cap (h : PolN u x l K) : x.n ≤ x.c := h.raw.cap
theorem pol_nil (u : World) (K : Nat) : PolN u ⟨none, 0, 0⟩ [] K := ⟨[], ⟨rfl, Nat.le_refl _, Nat.zero_le _, fun h => absurd h (Nat.lt_irrefl 0)⟩, RatsN.nil u K⟩
theorem pol_at (h : PolV u x l K) (hi : i < l.length) : ∃ (r : RL) (b o : Nat), x.a = some ⟨b, o, none⟩ ∧ (∀ j, j < r.cs.length → u.cell? ⟨b, o + i * 3 + j, none⟩ = r.cs[j]?) ∧ RatV u r (l.getD i 0) K := by
 have hn := h.len
 obtain ⟨L, ⟨h1, h2, h3, h4⟩, h5⟩ := h
 obtain ⟨b, o, e, hc⟩ := h4 xq
 have hL : i < L.length := by rw [h5.1]; exact hi
 refine ⟨L.getD i rl0, b, o, e, fun j hj => ?_, h5.2 i hi⟩
 have hj : j < 3 := hj
 have := hc (i * 3 + j) (by rw [zyy]; omega)
 rw [← Nat.add_assoc] at this
 rw [this, ← rcs_get hL, List.getElem?_take_of_lt hj, List.getElem?_drop]
theorem pol_atN (h : PolN u x l K) (hi : i < l.length) : ∃ (r : RL) (b o : Nat), x.a = some ⟨b, o, none⟩ ∧ (∀ j, j < r.cs.length → u.cell? ⟨b, o + i * 3 + j, none⟩ = r.cs[j]?) ∧ RatN u r (l.getD i 0) K := by
 have hn := h.len
 obtain ⟨L, ⟨h1, h2, h3, h4⟩, h5⟩ := h
 obtain ⟨b, o, e, hc⟩ := h4 xq
 have hL : i < L.length := by rw [h5.1]; exact hi
 refine ⟨L.getD i rl0, b, o, e, fun j hj => ?_, h5.2 i hi⟩
 have hj : j < 3 := hj
 have := hc (i * 3 + j) (by rw [zyy]; omega)
 rw [← Nat.add_assoc] at this
 rw [this, ← rcs_get hL, List.getElem?_take_of_lt hj, List.getElem?_drop]
theorem cells_at {cs : Array Value} {t : TypeId} (h : u.heap[b]? = some (.cells cs t (0, 0))) (j : Nat) : u.cell? ⟨b, j, none⟩ = cs[j]? := by simp [World.cell?, h]
theorem pol_data {cs : List Value} {t : TypeId} (h : u.heap[b]? = some (.cells cs.toArray t (0, 0))) (hc : cs.take (n * 3) = rcs L) (hl : cs.length = c * 3) (hn : n ≤ c) (hm : c ≤ maxLen) (hL : RatsN u L l K) : PolN u ⟨some ⟨b, 0, none⟩, n, c⟩ l K := by
 have hlen : (rcs L).length = n * 3 := by rw [← hc, List.length_take, hl]; omega
 refine ⟨L, ⟨hlen, hn, hm, fun _ => ⟨b, 0, rfl, fun j hj => ?_⟩⟩, hL⟩
 rw [Nat.zero_add, cells_at h, ← hc, List.getElem?_take_of_lt xq]
 simp
theorem pol_data1 {t : TypeId} (h : u.heap[b]? = some (.cells (rcs L).toArray t (0, 0))) (hm : L.length ≤ maxLen) (hL : RatsN u L l K) (hn : n = L.length) : PolN u ⟨some ⟨b, 0, none⟩, n, n⟩ l K := by
 subst hn
 exact pol_data (cs := rcs L) h (by rw [rcs_take, List.take_length]) zyy (Nat.le_refl _) hm hL
theorem lit_news {cs : List Value} {t : TypeId} (h : u.heap[b]? = some (.cells cs.toArray t (0, 0))) : ∀ (j : Nat) (v : Value), cs[j]? = some v → u.cell? ⟨b, 0 + j, none⟩ = some v := fun j v hv => by
 rw [Nat.zero_add, cells_at h]; simpa using hv
theorem pol_lit {t : TypeId} (h : u.heap[b]? = some (.cells (rcs L).toArray t (0, 0))) (hL : RatsN u L l K) (hn : L.length = n) (hm : n ≤ maxLen) : PolN u ⟨some ⟨b, 0, none⟩, n, n⟩ l K := pol_data1 h xq hL hn.symm
theorem rats1 {r1 : RL} {q1 : Rat} (h1 : RatN u r1 q1 K) : RatsN u [r1] [q1] K := RatsN.snoc (RatsN.nil u K) h1
theorem rats2 {r1 r2 : RL} {q1 q2 : Rat} (h1 : RatN u r1 q1 K) (h2 : RatN u r2 q2 K) : RatsN u [r1, r2] [q1, q2] K := RatsN.snoc (rats1 h1) h2
theorem rats3 {r1 r2 r3 : RL} {q1 q2 q3 : Rat} (h1 : RatN u r1 q1 K) (h2 : RatN u r2 q2 K) (h3 : RatN u r3 q3 K) : RatsN u [r1, r2, r3] [q1, q2, q3] K := RatsN.snoc (rats2 h1 h2) h3
theorem pol_take (h : PolV u x l K) {n : Nat} (hn : n ≤ l.length) : PolV u ⟨x.a, n, x.c⟩ (l.take n) K := by
 have hx := h.len
 obtain ⟨L, ⟨h1, h2, h3, h4⟩, h5⟩ := h
 refine ⟨L.take n, ⟨by rw [zyy, List.length_take, h5.1]; show min n _ * 3 = n * 3; rw [Nat.min_eq_left hn], by show n ≤ x.c; omega, h3, fun hp => ?_⟩, h5.take n⟩
 have hp : 0 < n := hp
 obtain ⟨b, o, e, hc⟩ := h4 xq
 refine ⟨b, o, e, fun j hj => ?_⟩
 rw [← rcs_take] at hj ⊢
 rw [List.length_take] at hj
 rw [hc j xq, List.getElem?_take_of_lt xq]
theorem pol_takeN (h : PolN u x l K) {n : Nat} (hn : n ≤ l.length) : PolN u ⟨x.a, n, x.c⟩ (l.take n) K := by
 have hx := h.len
 obtain ⟨L, ⟨h1, h2, h3, h4⟩, h5⟩ := h
 refine ⟨L.take n, ⟨by rw [zyy, List.length_take, h5.1]; show min n _ * 3 = n * 3; rw [Nat.min_eq_left hn], by show n ≤ x.c; omega, h3, fun hp => ?_⟩, h5.take n⟩
 have hp : 0 < n := hp
 obtain ⟨b, o, e, hc⟩ := h4 xq
 refine ⟨b, o, e, fun j hj => ?_⟩
 rw [← rcs_take] at hj ⊢
 rw [List.length_take] at hj
 rw [hc j xq, List.getElem?_take_of_lt xq]
end
namespace Nt
theorem ediv_uniq {z y q r : Int} (hy : y ≠ 0) (h : z = y * q + r) (h0 : 0 ≤ r) (h1 : r < (y.natAbs : Int)) : z / y = q ∧ z % y = r := by
 rcases Int.lt_or_le y 0 with hn | hn
 ·exact (Int.ediv_emod_unique' hn).2 ⟨by omega, h0, by omega⟩
 ·exact (Int.ediv_emod_unique xq).2 ⟨by omega, h0, by omega⟩
theorem mk_div (a : Int) (b : Nat) : (a : Rat) / ((b : Int) : Rat) = mkRat a b := by rw [Rat.mkRat_eq_div]; rfl
theorem cmpQ_lt (x y : Rat) : decide (cmpQ x y < 0) = decide (x < y) := by
 unfold cmpQ
 rw [decide_eq_decide]
 split
 ·simp [*]
 ·split <;> simp [*]
def lo (x y : Rat) : Rat := if y < x then y else x
def hi (x y : Rat) : Rat := if x < y then y else x
end Nt
section
variable {u u' w w' : World} {x y : Sl} {i j : IL} {r r' : RL} {N M K L : Nat} {z z' : Int} {q q' : Rat}
theorem IntN.sg (h : IntN u i z K) : z = Nt.sg i.s z.natAbs := by
 rw [h.1]; unfold Nt.sg
 by_cases hz : z < 0
 ·simp [hz]; omega
 ·simp [hz]; omega
theorem RatN.num (h : RatN u r q K) : IntN u ⟨r.s, r.m⟩ q.num K := h.1
theorem RatN.den (h : RatN u r q K) : NatN u r.d q.den K := h.2
end
@[reducible] def IV (a b : RL) : Value := .agg #[.bool a.s, .slice a.m.a a.m.n a.m.c, .slice a.d.a a.d.n a.d.c, .bool b.s, .slice b.m.a b.m.n b.m.c, .slice b.d.a b.d.n b.d.c]
namespace Nt
theorem cmpQ_eq (x y : Rat) : (cmpQ x y == (0 : Int)) = decide (x = y) := by
 unfold cmpQ
 rw [Bool.eq_iff_iff, decide_eq_true_iff]
 split
 ·constructor
  ·intro h; simp at h
  ·intro h; grind
 ·split <;> simp_all
theorem sgQ_eq (x : Rat) : (sgQ x == (0 : Int)) = decide (x = 0) := cmpQ_eq x 0
end Nt
section
variable {u u' w w' : World} {x y : Sl} {i j : IL} {r r' : RL} {N M K L : Nat} {z z' : Int} {q q' : Rat}
theorem RatV.few (h : RatV u r q K) (h1 : r.m.n ≤ L) (h2 : r.d.n ≤ L) (hL : 1 ≤ L) : RatV u r q L := by
 obtain ⟨⟨z, D, ⟨N, ⟨l, a1, a2, a3, a4⟩, h4⟩, ⟨l', b1, b2, b3, b4⟩, h5⟩, h6⟩ := h
 exact ⟨⟨z, D, ⟨N, ⟨l, a1, a2, h1, a4⟩, h4⟩, ⟨l', b1, b2, h2, b4⟩, h5⟩, hL⟩
end
end Go.Proofs.Ytdmpfhhhlhoeiaa
namespace Go.Proofs.Ytdmpfhhhlhoeiaa
set_option linter.unusedVariables false
namespace Nt
def trimQ : List Rat → List Rat
 | [] => []
 | a :: l => if trimQ l = [] ∧ a = 0 then [] else a :: trimQ l
def co (l : List Rat) (i : Nat) : Rat := l.getD i 0
theorem co_nil (i : Nat) : co [] i = 0 := by simp [co]
theorem co_zero (a : Rat) (l : List Rat) : co (a :: l) 0 = a := rfl
theorem zxv (a : Rat) (l : List Rat) (i : Nat) : co (a :: l) (i + 1) = co l i := by simp [co]
theorem co_ge {l : List Rat} {i : Nat} (h : l.length ≤ i) : co l i = 0 := by simp [co, List.getElem?_eq_none h]
theorem trim_co (l : List Rat) (i : Nat) : co (trimQ l) i = co l i := by
 induction l generalizing i with
 | nil => rfl
 | cons a l ih =>
  unfold trimQ
  split
  ·rename_i h
   rw [co_nil]
   cases i with
   | zero => rw [co_zero, h.2]
   | succ i => rw [zxv, ← ih, h.1, co_nil]
  ·cases i with
   | zero => rfl
   | succ i => rw [zxv, zxv, ih]
def Nrm (l : List Rat) : Prop := trimQ l = l
theorem zxz {l : List Rat} : trimQ l = [] ↔ ∀ i, co l i = 0 := by
 induction l with
 | nil => simp [trimQ, co]
 | cons a l ih =>
  unfold trimQ
  split
  ·rename_i h
   simp
   intro i
   cases i with
   | zero => exact h.2
   | succ i => rw [zxv]; exact ih.1 h.1 i
  ·rename_i h
   simp
   apply Classical.byContradiction
   intro hc
   apply h
   have hc : ∀ i, co (a :: l) i = 0 := fun i => Classical.byContradiction fun k => hc ⟨i, k⟩
   exact ⟨ih.2 fun i => by rw [← zxv a]; exact hc (i + 1), hc 0⟩
theorem trim_ext {l m : List Rat} (h : ∀ i, co l i = co m i) : trimQ l = trimQ m := by
 induction l generalizing m with
 | nil =>
  have : trimQ m = [] := zxz.2 fun i => by rw [← h i, co_nil]
  rw [this]; rfl
 | cons a l ih =>
  cases m with
  | nil =>
   have : trimQ (a :: l) = [] := zxz.2 fun i => by rw [h i, co_nil]
   rw [this]; rfl
  | cons b m =>
   have e0 : a = b := h 0
   have e1 : trimQ l = trimQ m := ih fun i => by rw [← zxv a, ← zxv b]; exact h (i + 1)
   unfold trimQ
   rw [e0, e1]
theorem trim_trim (l : List Rat) : trimQ (trimQ l) = trimQ l := trim_ext fun i => trim_co l i
theorem trim_nrm (l : List Rat) : Nrm (trimQ l) := trim_trim l
theorem zzh (l : List Rat) : (trimQ l).length ≤ l.length := by
 induction l with
 | nil => exact Nat.le_refl _
 | cons a l ih => unfold trimQ; split <;> simp <;> omega
theorem trim_take (l : List Rat) : l.take (trimQ l).length = trimQ l := by
 induction l with
 | nil => rfl
 | cons a l ih =>
  unfold trimQ
  split
  ·rfl
  ·simp [ih]
theorem trim_len_of {l : List Rat} {n : Nat} (hn : n ≤ l.length) (hz : ∀ i, n ≤ i → co l i = 0) (hl : 0 < n → co l (n - 1) ≠ 0) : (trimQ l).length = n := by
 induction l generalizing n with
 | nil => simp at hn; subst hn; rfl
 | cons a l ih =>
  cases n with
  | zero =>
   have : trimQ (a :: l) = [] := zxz.2 fun i => hz i (Nat.zero_le _)
   rw [this]; rfl
  | succ n =>
   have hn' : n ≤ l.length := by simpa using hn
   have e : (trimQ l).length = n := ih hn' (fun i hi => by rw [← zxv a]; exact hz (i + 1) xq) (fun hp => by
    have := hl xq
    rw [show n + 1 - 1 = (n - 1) + 1 by omega, zxv] at this
    exact this)
   unfold trimQ
   rw [if_neg]
   ·simp [e]
   ·rintro ⟨h1, h2⟩
    rw [h1] at e
    have e : n = 0 := by simpa using e.symm
    subst e
    exact hl xq h2
theorem nrm_last {l : List Rat} (h : Nrm l) (hl : l ≠ []) : co l (l.length - 1) ≠ 0 := by
 induction l with
 | nil => exact absurd rfl hl
 | cons a l ih =>
  unfold Nrm trimQ at h
  split at h
  ·cases h
  ·rename_i hc
   injection h with _ h
   cases l with
   | nil =>
    intro k
    apply hc
    exact ⟨rfl, k⟩
   | cons b l =>
    have := ih h zq
    intro k
    apply this
    rw [show (a :: b :: l).length - 1 = ((b :: l).length - 1) + 1 by simp, zxv] at k
    exact k
theorem nrm_of {l : List Rat} (h : l ≠ [] → co l (l.length - 1) ≠ 0) : Nrm l := by
 have e := trim_len_of (l := l) (Nat.le_refl _) (fun i hi => co_ge hi) (fun hp => h (by rintro rfl; simp at hp))
 have := trim_take l
 rw [e, List.take_length] at this
 exact this.symm
theorem co_map (f : Rat → Rat) (hf : f 0 = 0) (l : List Rat) (i : Nat) : co (l.map f) i = f (co l i) := by
 simp only [co, List.getD_eq_getElem?_getD, List.getElem?_map]
 cases l[i]? <;> simp [hf]
theorem co_range (n : Nat) (f : Nat → Rat) (i : Nat) : co ((List.range n).map f) i = if i < n then f i else 0 := by
 simp only [co, List.getD_eq_getElem?_getD, List.getElem?_map]
 by_cases h : i < n
 ·simp [h]
 ·simp [h]
def addQ (l m : List Rat) : List Rat := (List.range (max l.length m.length)).map fun i => co l i + co m i
@[simp] theorem addQ_len (l m : List Rat) : (addQ l m).length = max l.length m.length := by simp [addQ]
theorem addQ_co (l m : List Rat) (i : Nat) : co (addQ l m) i = co l i + co m i := by
 unfold addQ
 rw [co_range]
 split
 ·rfl
 ·rw [co_ge (l := l) xq, co_ge (l := m) xq]; exact (Rat.add_zero 0).symm
def negQ (l : List Rat) : List Rat := l.map fun x => -x
@[simp] theorem negQ_len (l : List Rat) : (negQ l).length = l.length := by simp [negQ]
theorem negQ_co (l : List Rat) (i : Nat) : co (negQ l) i = -co l i := co_map _ zq l i
def derQ (l : List Rat) : List Rat := (List.range (l.length - 1)).map fun i => co l (i + 1) * (((i + 1 : Nat) : Int) : Rat)
@[simp] theorem derQ_len (l : List Rat) : (derQ l).length = l.length - 1 := by simp [derQ]
end Nt
section
open Go.RowKit
variable {u : World} {x : Sl} {l : List Rat} {K : Nat}
theorem cut_V (h : PolV u x l K) : PolV u ⟨x.a, (Nt.trimQ l).length, x.c⟩ (Nt.trimQ l) K := by
 have := pol_take h (Nt.zzh l)
 rwa [Nt.trim_take] at this
theorem cut_N (h : PolN u x l K) : PolN u ⟨x.a, (Nt.trimQ l).length, x.c⟩ (Nt.trimQ l) K := by
 have := pol_takeN h (Nt.zzh l)
 rwa [Nt.trim_take] at this
end
end Go.Proofs.Ytdmpfhhhlhoeiaa
namespace Go.Proofs.Ytdmpfhhhlhoeiaa
set_option linter.unusedVariables false
namespace Nt
def cmn (x y : Rat) : Rat := if x = 0 then absQ y else if y = 0 then x else absQ (x / (((x / y).num : Int) : Rat))
theorem absQ_ne {x : Rat} (h : x ≠ 0) : absQ x ≠ 0 := by unfold absQ; split <;> grind
theorem num_ne {x : Rat} (h : x ≠ 0) : ((x.num : Int) : Rat) ≠ 0 := by
 intro k
 apply h
 have : x.num = 0 := Rat.intCast_inj.1 (by rw [k]; rfl)
 exact Rat.num_eq_zero.1 this
theorem div_ne {x y : Rat} (hx : x ≠ 0) (hy : y ≠ 0) : x / y ≠ 0 := by
 intro k
 apply hx
 have : x = x / y * y := by grind
 rw [this, k]; grind
theorem cmn_ne {x y : Rat} (h : x ≠ 0 ∨ y ≠ 0) : cmn x y ≠ 0 := by
 unfold cmn
 by_cases hx : x = 0
 ·rw [if_pos hx]; exact absQ_ne (by grind)
 ·rw [if_neg hx]
  by_cases hy : y = 0
  ·rw [if_pos hy]; exact hx
  ·rw [if_neg hy]
   exact absQ_ne (div_ne hx (num_ne (div_ne hx hy)))
theorem dl_dvd {a b : Nat} (hb : 0 < b) (h : a ∣ b) : dl a ≤ dl b := dl_mono (Nat.le_of_dvd hb h)
theorem den_pos' (q : Rat) : 0 < q.den := Nat.pos_of_ne_zero q.den_nz
theorem cmn_mk {x y : Rat} (hx : x ≠ 0) (hy : y ≠ 0) : ∃ g : Int, x / (((x / y).num : Int) : Rat) = mkRat g (x.den * y.den) ∧ g.natAbs ∣ x.den * y.num.natAbs ∧ g ≠ 0 := by
 have hxn : x.num ≠ 0 := fun k => hx (Rat.num_eq_zero.1 k)
 have hyn : y.num ≠ 0 := fun k => hy (Rat.num_eq_zero.1 k)
 have hxd : (x.den : Rat) ≠ 0 := Ne.symm (Rat.ne_of_lt (Rat.natCast_pos.2 (den_pos' x)))
 have hyd : (y.den : Rat) ≠ 0 := Ne.symm (Rat.ne_of_lt (Rat.natCast_pos.2 (den_pos' y)))
 have ex : x = (x.num : Rat) / (x.den : Rat) := by rw [← Rat.mkRat_eq_div]; exact (Rat.mkRat_self x).symm
 have ey : y = (y.num : Rat) / (y.den : Rat) := by rw [← Rat.mkRat_eq_div]; exact (Rat.mkRat_self y).symm
 have hxn' : (x.num : Rat) ≠ 0 := fun k => hxn (Rat.intCast_inj.1 (by rw [k]; rfl))
 have hyn' : (y.num : Rat) ≠ 0 := fun k => hyn (Rat.intCast_inj.1 (by rw [k]; rfl))
 obtain ⟨z, hz⟩ : ∃ z, z = x / y := ⟨_, rfl⟩
 rw [← hz]
 have hz0 : z ≠ 0 := by rw [hz]; exact div_ne hx hy
 have hzn : z.num ≠ 0 := fun k => hz0 (Rat.num_eq_zero.1 k)
 have hzn' : (z.num : Rat) ≠ 0 := fun k => hzn (Rat.intCast_inj.1 (by rw [k]; rfl))
 have hzd : (z.den : Rat) ≠ 0 := Ne.symm (Rat.ne_of_lt (Rat.natCast_pos.2 (den_pos' z)))
 have ez : z = (z.num : Rat) / (z.den : Rat) := by rw [← Rat.mkRat_eq_div]; exact (Rat.mkRat_self z).symm
 -- z.num * (x.den * y.num) = x.num * y.den * z.den
 have cross : (z.num : Rat) * ((x.den : Rat) * (y.num : Rat)) = (x.num : Rat) * (y.den : Rat) * (z.den : Rat) := by
  have h1 : (z.num : Rat) / (z.den : Rat) = ((x.num : Rat) / (x.den : Rat)) / ((y.num : Rat) / (y.den : Rat)) := by rw [← ez, hz, ← ex, ← ey]
  generalize (z.num : Rat) = a at *
  generalize (z.den : Rat) = b at *
  generalize (x.num : Rat) = c at *
  generalize (x.den : Rat) = e at *
  generalize (y.num : Rat) = f at *
  generalize (y.den : Rat) = k at *
  grind
 have crossZ : z.num * ((x.den : Int) * y.num) = x.num * (y.den : Int) * (z.den : Int) := by
  have h : (((z.num * ((x.den : Int) * y.num) : Int)) : Rat) = ((x.num * (y.den : Int) * (z.den : Int) : Int) : Rat) := by
   simp only [Rat.intCast_mul]
   exact cross
  exact Rat.intCast_inj.1 h
 -- z.num divides x.num * y.den, as it has nothing in common with z.den
 have hdv : z.den ∣ x.den * y.num.natAbs := by
  have h : z.num.natAbs * (x.den * y.num.natAbs) = x.num.natAbs * y.den * z.den := by
   have := congrArg Int.natAbs crossZ
   simpa [Int.natAbs_mul] using this
  have hc : Nat.Coprime z.den z.num.natAbs := by
   have := z.reduced
   exact Nat.Coprime.symm this
  exact hc.dvd_of_dvd_mul_left ⟨x.num.natAbs * y.den, by rw [h, Nat.mul_comm]⟩
 obtain ⟨g0, hg0⟩ := hdv
 have hg0' : (x.den : Int) * y.num = (z.den : Int) * (if y.num < 0 then -(g0 : Int) else (g0 : Int)) := by
  have h1 : ((x.den * y.num.natAbs : Nat) : Int) = ((z.den * g0 : Nat) : Int) := by rw [hg0]
  rw [Int.natCast_mul, Int.natCast_mul] at h1
  split
  ·rename_i h
   rw [Int.mul_neg, ← h1, show ((y.num.natAbs : Nat) : Int) = -y.num by omega, Int.mul_neg, Int.neg_neg]
  ·rename_i h
   rw [← h1, show ((y.num.natAbs : Nat) : Int) = y.num by omega]
 refine ⟨if y.num < 0 then -(g0 : Int) else (g0 : Int), ?_, ?_, ?_⟩
 ·have hgR : (x.den : Rat) * (y.num : Rat) = (z.den : Rat) * (((if y.num < 0 then -(g0 : Int) else (g0 : Int)) : Int) : Rat) := by
   have h : ((((x.den : Int) * y.num : Int)) : Rat) = (((z.den : Int) * (if y.num < 0 then -(g0 : Int) else (g0 : Int)) : Int) : Rat) := by rw [hg0']
   simp only [Rat.intCast_mul] at h
   exact h
  rw [Rat.mkRat_eq_div]
  have hden : ((x.den * y.den : Nat) : Rat) = (x.den : Rat) * (y.den : Rat) := by
   have : (((x.den * y.den : Nat) : Int) : Rat) = (((x.den : Int) * (y.den : Int) : Int) : Rat) := by rw [Int.natCast_mul]
   rw [Rat.intCast_mul] at this
   exact this
  rw [hden]
  have hxx : x = (x.num : Rat) / (x.den : Rat) := ex
  generalize (((if y.num < 0 then -(g0 : Int) else (g0 : Int)) : Int) : Rat) = G at *
  generalize (z.num : Rat) = a at *
  generalize (z.den : Rat) = b at *
  generalize hcn : (x.num : Rat) = c at *
  generalize hce : (x.den : Rat) = e at *
  generalize (y.num : Rat) = f at *
  generalize (y.den : Rat) = k at *
  rw [hxx]
  grind
 ·have : (if y.num < 0 then -(g0 : Int) else (g0 : Int)).natAbs = g0 := by split <;> omega
  rw [this, hg0]; exact ⟨z.den, Nat.mul_comm _ _⟩
 ·have hpos : 0 < g0 := by
   rcases Nat.eq_zero_or_pos g0 with h | h
   ·rw [h, Nat.mul_zero] at hg0
    have := Nat.mul_pos (den_pos' x) (Int.natAbs_pos.2 hyn)
    omega
   ·exact h
  split <;> omega
theorem rs_cmn (x y : Rat) : rs (cmn x y) ≤ rs x + rs y := by
 unfold cmn
 by_cases hx : x = 0
 ·rw [if_pos hx, rs_abs]; omega
 ·rw [if_neg hx]
  by_cases hy : y = 0
  ·rw [if_pos hy]; omega
  ·rw [if_neg hy, rs_abs]
   obtain ⟨g, h1, h2, h3⟩ := cmn_mk hx hy
   rw [h1]
   have hyn : y.num ≠ 0 := fun k => hy (Rat.num_eq_zero.1 k)
   have b1 : dl x.den ≤ rs x := by unfold rs; omega
   have b2 : dl y.den ≤ rs y := by unfold rs; omega
   have b3 : dl y.num.natAbs ≤ rs y := by unfold rs; omega
   have := rs_pos x
   refine rs_mk ?_ ?_ xq
   ·have k1 := dl_dvd (Nat.mul_pos (den_pos' x) (Int.natAbs_pos.2 hyn)) h2
    have k2 := dl_mul x.den y.num.natAbs
    omega
   ·have k2 := dl_mul x.den y.den
    omega
def msr (l : List Rat) : Rat := l.foldl cmn 0
theorem msr_snoc (l : List Rat) (y : Rat) : msr (l ++ [y]) = cmn (msr l) y := by simp [msr]
theorem msr_take {l : List Rat} {i : Nat} (h : i < l.length) : msr (l.take (i + 1)) = cmn (msr (l.take i)) (l.getD i 0) := by
 rw [← Go.Proofs.Ytdmpfhhhlhoeiaa.take_snoc h, msr_snoc]
theorem msr_ne {l : List Rat} (h : Nrm l) (hl : 0 < l.length) : msr l ≠ 0 := by
 have h2 := nrm_last h (by rintro rfl; simp at hl)
 have h3 := msr_take (l := l) (i := l.length - 1) xq
 rw [show l.length - 1 + 1 = l.length by omega, List.take_length] at h3
 rw [h3]
 exact cmn_ne (.inr h2)
end Nt
end Go.Proofs.Ytdmpfhhhlhoeiaa
namespace Go.Proofs.Ytdmpfhhhlhoeiaa
set_option linter.unusedVariables false
namespace Nt
def mulQ : List Rat → List Rat → List Rat
 | [], m => []
 | a :: l, m => addQ (m.map (a * ·)) (0 :: mulQ l m)
def sh (f : Nat → Rat) (k : Nat) : Rat := if k = 0 then 0 else f (k - 1)
theorem co_cons0 (l : List Rat) (k : Nat) : co (0 :: l) k = sh (co l) k := by
 cases k with
 | zero => rfl
 | succ k => rw [zxv]; simp [sh]
theorem zxe (a : Rat) (l m : List Rat) (k : Nat) : co (mulQ (a :: l) m) k = a * co m k + sh (co (mulQ l m)) k := by
 show co (addQ (m.map (a * ·)) (0 :: mulQ l m)) k = _
 rw [addQ_co, co_map _ zq, co_cons0]
theorem mulQ_nil (m : List Rat) (k : Nat) : co (mulQ [] m) k = 0 := rfl
theorem mulQ_snoc (l : List Rat) (a : Rat) (m : List Rat) (k : Nat) : co (mulQ (l ++ [a]) m) k = co (mulQ l m) k + (if l.length ≤ k then a * co m (k - l.length) else 0) := by
 induction l generalizing k with
 | nil =>
  rw [List.nil_append, zxe, mulQ_nil]
  have e : sh (co (mulQ [] m)) k = 0 := by unfold sh; split <;> rfl
  rw [e, if_pos (show ([] : List Rat).length ≤ k from Nat.zero_le _)]
  show _ = 0 + a * co m (k - 0)
  rw [Nat.sub_zero]; grind
 | cons b l ih =>
  rw [List.cons_append, zxe, zxe]
  unfold sh
  cases k with
  | zero =>
   rw [if_pos rfl, if_pos rfl, if_neg zq]; grind
  | succ k =>
   simp only [Nat.add_one_ne_zero, if_false, Nat.add_sub_cancel, List.length_cons]
   rw [ih]
   by_cases h : l.length ≤ k
   ·rw [if_pos h, if_pos xq, show k + 1 - (l.length + 1) = k - l.length by omega]; grind
   ·rw [if_neg h, if_neg xq]; grind
def inn (R : List Rat) (i : Nat) (x : Rat) (B : List Rat) : Nat → List Rat
 | 0 => R
 | j + 1 => (inn R i x B j).set (i + j) (co (inn R i x B j) (i + j) + x * co B j)
def outQ (A B : List Rat) (N : Nat) : Nat → List Rat
 | 0 => List.replicate N 0
 | i + 1 => inn (outQ A B N i) i (co A i) B B.length
@[simp] theorem inn_len (R : List Rat) (i : Nat) (x : Rat) (B : List Rat) (j : Nat) : (inn R i x B j).length = R.length := by
 induction j with
 | zero => rfl
 | succ j ih => simp [inn, ih]
@[simp] theorem outQ_len (A B : List Rat) (N i : Nat) : (outQ A B N i).length = N := by
 induction i with
 | zero => simp [outQ]
 | succ i ih => simp [outQ, ih]
theorem co_set {l : List Rat} {i : Nat} (h : i < l.length) (x : Rat) (k : Nat) : co (l.set i x) k = if k = i then x else co l k := by
 unfold co
 simp only [List.getD_eq_getElem?_getD, List.getElem?_set]
 by_cases e : i = k
 ·subst e; simp [h]
 ·rw [if_neg e, if_neg (Ne.symm e)]
theorem inn_co {R : List Rat} {i : Nat} (x : Rat) (B : List Rat) {j : Nat} (h : i + j ≤ R.length) (k : Nat) : co (inn R i x B j) k = co R k + (if i ≤ k ∧ k < i + j then x * co B (k - i) else 0) := by
 induction j with
 | zero => rw [if_neg xq]; show co R k = _; grind
 | succ j ih =>
  have ih := ih xq
  unfold inn
  rw [co_set yz]
  by_cases e : k = i + j
  ·rw [if_pos e]
   subst e
   rw [ih, if_neg xq, if_pos xq, show i + j - i = j by omega]
   grind
  ·rw [if_neg e, ih]
   by_cases c : i ≤ k ∧ k < i + j
   ·rw [if_pos c, if_pos xq]
   ·rw [if_neg c, if_neg xq]
theorem outQ_co {A B : List Rat} {N : Nat} (hN : A.length + B.length ≤ N + 1) (hB : 0 < B.length) {i : Nat} (hi : i ≤ A.length) (k : Nat) : co (outQ A B N i) k = co (mulQ (A.take i) B) k := by
 induction i generalizing k with
 | zero =>
  rw [List.take_zero, mulQ_nil]
  unfold outQ co
  rw [List.getD_eq_getElem?_getD, List.getElem?_replicate]
  split <;> rfl
 | succ i ih =>
  unfold outQ
  rw [inn_co _ _ (by rw [outQ_len]; omega), ih xq, ← Go.Proofs.Ytdmpfhhhlhoeiaa.take_snoc (show i < A.length by omega), mulQ_snoc]
  rw [List.length_take, Nat.min_eq_left xq]
  by_cases c : i ≤ k ∧ k < i + B.length
  ·rw [if_pos c, if_pos c.1]; rfl
  ·rw [if_neg c]
   by_cases c2 : i ≤ k
   ·rw [if_pos c2, co_ge (l := B) xq]; grind
   ·rw [if_neg c2]
theorem mulQ_zero {l : List Rat} (h : ∀ i, co l i = 0) (m : List Rat) (k : Nat) : co (mulQ l m) k = 0 := by
 induction l generalizing k with
 | nil => rfl
 | cons a l ih =>
  have ha : a = 0 := h 0
  have hl : ∀ i, co l i = 0 := fun i => by rw [← zxv a]; exact h (i + 1)
  rw [zxe, ha]
  unfold sh
  split
  ·grind
  ·rw [ih hl]; grind
theorem zwi {l l' m m' : List Rat} (h : ∀ i, co l i = co l' i) (h2 : ∀ i, co m i = co m' i) (k : Nat) : co (mulQ l m) k = co (mulQ l' m') k := by
 induction l generalizing l' k with
 | nil =>
  rw [mulQ_nil, mulQ_zero (fun i => by rw [← h i, co_nil])]
 | cons a l ih =>
  cases l' with
  | nil => rw [mulQ_nil, mulQ_zero (fun i => by rw [h i, co_nil])]
  | cons b l' =>
   have hab : a = b := h 0
   have hl : ∀ i, co l i = co l' i := fun i => by rw [← zxv a, ← zxv b]; exact h (i + 1)
   rw [zxe, zxe, hab, h2]
   unfold sh
   split
   ·rfl
   ·rw [ih hl]
theorem mulQ_scale_l (c : Rat) (l m : List Rat) (k : Nat) : co (mulQ (l.map (c * ·)) m) k = c * co (mulQ l m) k := by
 induction l generalizing k with
 | nil => rw [List.map_nil, mulQ_nil]; grind
 | cons a l ih =>
  rw [List.map_cons, zxe, zxe]
  unfold sh
  split
  ·grind
  ·rw [ih]; grind
theorem mulQ_scale_r (c : Rat) (l m : List Rat) (k : Nat) : co (mulQ l (m.map (c * ·))) k = c * co (mulQ l m) k := by
 induction l generalizing k with
 | nil => rw [mulQ_nil, mulQ_nil]; grind
 | cons a l ih =>
  rw [zxe, zxe, co_map _ zq]
  unfold sh
  split
  ·grind
  ·rw [ih]; grind
theorem mul_parts {l m : List Rat} {s t : Rat} (hs : s ≠ 0) (ht : t ≠ 0) (hl : 0 < l.length) (hm : 0 < m.length) : trimQ ((outQ (l.map (· / s)) (m.map (· / t)) (l.length + m.length - 1) l.length).map (· * (s * t))) = trimQ (mulQ l m) := by
 apply trim_ext
 intro k
 rw [co_map _ zq, outQ_co yz (by simpa using hm) zq]
 rw [show (l.map (· / s)).take l.length = l.map (· / s) by rw [List.take_of_length_le zq]]
 have e1 : l.map (· / s) = l.map ((1 / s) * ·) := by congr 1; funext x; grind
 have e2 : m.map (· / t) = m.map ((1 / t) * ·) := by congr 1; funext x; grind
 rw [e1, e2, mulQ_scale_l, mulQ_scale_r]
 grind
theorem mul_trim (l m : List Rat) : trimQ (mulQ (trimQ l) (trimQ m)) = trimQ (mulQ l m) := trim_ext fun k => zwi (trim_co l) (trim_co m) k
theorem mulQ_zero_r {m : List Rat} (h : ∀ i, co m i = 0) (l : List Rat) (k : Nat) : co (mulQ l m) k = 0 := by
 have := mulQ_scale_r 0 l m k
 rw [Rat.zero_mul] at this
 rw [← this]
 exact zwi (fun _ => rfl) (fun i => by rw [co_map _ zq, h]; simp) k
theorem mul_nil {l m : List Rat} (h : trimQ l = [] ∨ trimQ m = []) : trimQ (mulQ l m) = [] := by
 rw [zxz]
 intro k
 rcases h with h | h
 ·exact mulQ_zero (zxz.1 h) m k
 ·exact mulQ_zero_r (zxz.1 h) l k
def kk (W t : Nat) : Nat := t * W + 2
theorem kk_succ (W t : Nat) : kk W (t + 1) = kk W t + W := by unfold kk; rw [Nat.add_mul]; omega
theorem kk_mono {W W' t t' : Nat} (h : W ≤ W') (h2 : t ≤ t') : kk W t ≤ kk W' t' := by
 unfold kk
 have := Nat.mul_le_mul h2 h
 omega
def spK (n K : Nat) : Nat := n * K + 2
theorem spK_mono {n n' K K' : Nat} (h : n ≤ n') (h2 : K ≤ K') : spK n K ≤ spK n' K' := by
 unfold spK
 have := Nat.mul_le_mul h h2
 omega
def mlK (n m K M : Nat) : Nat := kk ((K + spK n K) + (M + spK m M) + 1) (n * m) + (spK n K + spK m M)
theorem mlK_mono {n n' m m' K K' M M' : Nat} (h1 : n ≤ n') (h2 : m ≤ m') (h3 : K ≤ K') (h4 : M ≤ M') : mlK n m K M ≤ mlK n' m' K' M' := by
 have a := spK_mono h1 h3
 have b := spK_mono h2 h4
 have c := kk_mono (W := (K + spK n K) + (M + spK m M) + 1) (W' := (K' + spK n' K') + (M' + spK m' M') + 1) xq (Nat.mul_le_mul h1 h2)
 unfold mlK
 omega
end Nt
end Go.Proofs.Ytdmpfhhhlhoeiaa
namespace Go.Proofs.Ytdmpfhhhlhoeiaa
set_option linter.unusedVariables false
namespace Nt
def Wh (x : Rat) (C : Nat) : Prop := ∃ z : Int, x = (z : Rat) ∧ z.natAbs ≤ 2 ^ C
def WhL (l : List Rat) (C : Nat) : Prop := ∀ i, Wh (co l i) C
def dg (C : Nat) : Nat := C / 32 + 1
theorem dg_mono {A C : Nat} (h : A ≤ C) : dg A ≤ dg C := by unfold dg; omega
theorem Wh.more {x : Rat} {A C : Nat} (h : Wh x A) (k : A ≤ C) : Wh x C := by
 obtain ⟨z, e, b⟩ := h
 exact ⟨z, e, Nat.le_trans b (Nat.pow_le_pow_right xq k)⟩
theorem WhL.more {l : List Rat} {A C : Nat} (h : WhL l A) (k : A ≤ C) : WhL l C := fun i => (h i).more k
theorem Wh.zero (C : Nat) : Wh 0 C := ⟨0, rfl, Nat.zero_le _⟩
theorem Wh.one (C : Nat) : Wh 1 C := ⟨1, rfl, Nat.pos_of_ne_zero (by exact Nat.ne_of_gt (Nat.pow_pos xq))⟩
theorem Wh.mul {x y : Rat} {A B : Nat} (h : Wh x A) (k : Wh y B) : Wh (x * y) (A + B) := by
 obtain ⟨z, rfl, b⟩ := h
 obtain ⟨v, rfl, c⟩ := k
 exact ⟨z * v, by rw [Rat.intCast_mul], by rw [Int.natAbs_mul, Nat.pow_add]; exact Nat.mul_le_mul b c⟩
theorem Wh.sub {x y : Rat} {A : Nat} (h : Wh x A) (k : Wh y A) : Wh (x - y) (A + 1) := by
 obtain ⟨z, rfl, b⟩ := h
 obtain ⟨v, rfl, c⟩ := k
 exact ⟨z - v, by rw [Rat.intCast_sub], by rw [Nat.pow_succ]; omega⟩
theorem Wh.add {x y : Rat} {A : Nat} (h : Wh x A) (k : Wh y A) : Wh (x + y) (A + 1) := by
 obtain ⟨z, rfl, b⟩ := h
 obtain ⟨v, rfl, c⟩ := k
 exact ⟨z + v, by rw [Rat.intCast_add], by rw [Nat.pow_succ]; omega⟩
theorem pwTwo (k : Nat) : pw k = ((2 ^ (32 * k) : Nat) : Int) := by
 induction k with
 | zero => rfl
 | succ k ih =>
  rw [show 32 * (k + 1) = 32 * k + 32 by omega, Nat.pow_add, Int.natCast_mul, ← ih]
  show 4294967296 * pw k = _
  rw [Int.mul_comm]; rfl
theorem Wh.rs {x : Rat} {C : Nat} (h : Wh x C) : rs x ≤ dg C := by
 obtain ⟨z, rfl, b⟩ := h
 refine rs_int ?_ (by unfold dg; omega)
 refine dl_le ?_
 rw [pwTwo]
 refine Int.ofNat_lt.2 (Nat.lt_of_le_of_lt b (Nat.pow_lt_pow_right xq (by unfold dg; omega)))
theorem Wh.quo {x y : Rat} {A B : Nat} (h : Wh x A) (k : Wh y B) (hy : y ≠ 0) : Wh ((x / y).num : Rat) A ∧ Wh (((x / y).den : Nat) : Int) B := by
 obtain ⟨z, rfl, b⟩ := h
 obtain ⟨v, rfl, c⟩ := k
 have hv : v ≠ 0 := by rintro rfl; exact hy rfl
 rw [← div_mk2 hv]
 have hp : 0 < v.natAbs := Int.natAbs_pos.2 hv
 refine ⟨⟨_, rfl, ?_⟩, ⟨_, rfl, ?_⟩⟩
 ·rw [(mk_num hp).1, quoI_abs]
  exact Nat.le_trans (Nat.div_le_self _ _) b
 ·rw [(mk_den hp).1, Int.natAbs_natCast]
  exact Nat.le_trans (Nat.div_le_self _ _) c
theorem co_take {l : List Rat} {n i : Nat} (h : i < n) : co (l.take n) i = l.getD i 0 := by
 unfold co
 rw [List.getD_eq_getElem?_getD, List.getElem?_take_of_lt h, ← List.getD_eq_getElem?_getD]
def mulN (n : Nat) (l : List Rat) (q : Rat) : List Rat := (List.range l.length).map fun i => if i < n then co l i * q else co l i
@[simp] theorem mulN_len (n : Nat) (l : List Rat) (q : Rat) : (mulN n l q).length = l.length := by simp [mulN]
theorem mulN_co (n : Nat) (l : List Rat) (q : Rat) (i : Nat) : co (mulN n l q) i = if i < n then co l i * q else co l i := by
 unfold mulN
 rw [co_range]
 by_cases h : i < l.length
 ·rw [if_pos h]
 ·rw [if_neg h, co_ge xq]
  split
  ·exact (Rat.zero_mul q).symm
  ·rfl
theorem WhL.map {l : List Rat} {q : Rat} {A B : Nat} (h : WhL l A) (k : Wh q B) : WhL (l.map (· * q)) (A + B) := fun i => by
 rw [co_map _ (Rat.zero_mul q)]; exact (h i).mul k
theorem WhL.mulN {l : List Rat} {q : Rat} {A B : Nat} (h : WhL l A) (k : Wh q B) (n : Nat) : WhL (mulN n l q) (A + B) := fun i => by
 rw [mulN_co]; split
 ·exact (h i).mul k
 ·exact (h i).more xq
theorem WhL.set {l : List Rat} {x : Rat} {A : Nat} (h : WhL l A) (k : Wh x A) (i : Nat) : WhL (l.set i x) A := fun j => by
 by_cases hi : i < l.length
 ·rw [co_set hi]; split
  ·exact k
  ·exact h j
 ·rw [List.set_eq_of_length_le xq]; exact h j
def subN (a : Nat) (c : Rat) (q t : List Rat) : Nat → List Rat
 | 0 => t
 | j + 1 => (subN a c q t j).set (a + j) ((subN a c q t j).getD (a + j) 0 - c * q.getD j 0)
@[simp] theorem subN_len (a : Nat) (c : Rat) (q t : List Rat) (j : Nat) : (subN a c q t j).length = t.length := by
 induction j with
 | zero => rfl
 | succ j ih => simp [subN, ih]
theorem subN_co {a : Nat} {c : Rat} {q t : List Rat} {j : Nat} (h : a + j ≤ t.length) (k : Nat) : co (subN a c q t j) k = co t k - (if a ≤ k ∧ k < a + j then c * co q (k - a) else 0) := by
 induction j with
 | zero => rw [if_neg xq]; show co t k = _; grind
 | succ j ih =>
  have ih := ih xq
  unfold subN
  rw [co_set yz]
  by_cases e : k = a + j
  ·rw [if_pos e]
   subst e
   show co (subN a c q t j) (a + j) - c * co q j = _
   rw [ih, if_neg xq, if_pos xq, show a + j - a = j by omega]
   grind
  ·rw [if_neg e, ih]
   by_cases c : a ≤ k ∧ k < a + j
   ·rw [if_pos c, if_pos xq]
   ·rw [if_neg c, if_neg xq]
theorem WhL.subN {t q : List Rat} {c : Rat} {D : Nat} (ht : WhL t D) (hc : ∀ i, Wh (c * co q i) D) {a j : Nat} (h : a + j ≤ t.length) : WhL (subN a c q t j) (D + 1) := fun k => by
 rw [subN_co h]
 split
 ·exact (ht k).sub (hc _)
 ·exact (ht k).sub (Wh.zero D)
theorem mulQ_set {s : List Rat} {a : Nat} (ha : a < s.length) (h0 : co s a = 0) (x : Rat) (q : List Rat) (k : Nat) : co (mulQ (s.set a x) q) k = co (mulQ s q) k + (if a ≤ k then x * co q (k - a) else 0) := by
 induction s generalizing a k with
 | nil => simp at ha
 | cons b s ih =>
  cases a with
  | zero =>
   have hb : b = 0 := h0
   rw [List.set_cons_zero, zxe, zxe, hb, if_pos (Nat.zero_le _), Nat.sub_zero]
   grind
  | succ a =>
   rw [List.set_cons_succ, zxe, zxe]
   unfold sh
   cases k with
   | zero => rw [if_pos rfl, if_pos rfl, if_neg xq]; grind
   | succ k =>
    simp only [Nat.add_one_ne_zero, if_false, Nat.add_sub_cancel]
    rw [ih (by simpa using ha) (by rw [← zxv b]; exact h0)]
    by_cases c : a ≤ k
    ·rw [if_pos c, if_pos xq, show k + 1 - (a + 1) = k - a by omega]; grind
    ·rw [if_neg c, if_neg xq]; grind
structure DivI (p q : List Rat) (n : Nat) (s t : List Rat) (f : Rat) : Prop where
 sl : s.length = p.length - q.length + 1
 tl : t.length = p.length
 tz : ∀ i, n ≤ i → co t i = 0
 sz : ∀ i, i + q.length ≤ n → co s i = 0
 f0 : f ≠ 0
 eq : ∀ i, f * co p i = co (mulQ s q) i + co t i
theorem DivI.begin (p q : List Rat) : DivI p q p.length (List.replicate (p.length - q.length + 1) 0) p 1 := by
 have hz : ∀ i, co (List.replicate (p.length - q.length + 1) (0 : Rat)) i = 0 := fun i => by
  unfold co; rw [List.getD_eq_getElem?_getD, List.getElem?_replicate]; split <;> rfl
 refine ⟨by simp, rfl, fun i hi => co_ge hi, fun i _ => hz i, by decide, fun i => ?_⟩
 rw [mulQ_zero hz]; grind
theorem DivI.step {p q s t : List Rat} {n : Nat} {f : Rat} (h : DivI p q n s t f) (hn : n ≤ p.length) (hqn : q.length ≤ n) (hq : 0 < q.length) (hl : co q (q.length - 1) ≠ 0) {x d : Rat} (hd : d ≠ 0) (hx : co t (n - 1) * d = x * co q (q.length - 1)) :
  DivI p q (n - 1) ((s.map (· * d)).set (n - q.length) x) (subN (n - q.length) x q (t.map (· * d)) q.length) (f * d) := by
 have hsl := h.sl
 have htl := h.tl
 have ht : ∀ k, co (subN (n - q.length) x q (t.map (· * d)) q.length) k = co t k * d - (if n - q.length ≤ k ∧ k < n - q.length + q.length then x * co q (k - (n - q.length)) else 0) := fun k => by
  rw [subN_co yz, co_map _ (Rat.zero_mul d)]
 refine ⟨by simp [hsl], by simp [htl], fun i hi => ?_, fun i hi => ?_, fun k => ?_, fun i => ?_⟩
 ·rw [ht]
  by_cases e : i = n - 1
  ·subst e
   rw [if_pos xq, show n - 1 - (n - q.length) = q.length - 1 by omega, hx]; grind
  ·rw [h.tz i xq, if_neg xq]; grind
 ·rw [co_set yz, if_neg xq, co_map _ (Rat.zero_mul d), h.sz i xq]; grind
 ·rcases Rat.mul_eq_zero.1 k with k | k
  ·exact h.f0 k
  ·exact hd k
 ·have hs0 : co (s.map (· * d)) (n - q.length) = 0 := by rw [co_map _ (Rat.zero_mul d), h.sz _ xq, Rat.zero_mul]
  rw [mulQ_set yz hs0, ht]
  have e1 : s.map (· * d) = s.map (d * ·) := by congr 1; funext x; exact Rat.mul_comm _ _
  rw [e1, mulQ_scale_l]
  have hh := h.eq i
  by_cases c : n - q.length ≤ i
  ·rw [if_pos c]
   by_cases c2 : i < n - q.length + q.length
   ·rw [if_pos ⟨c, c2⟩]; grind
   ·rw [if_neg xq, co_ge (l := q) xq]; grind
  ·rw [if_neg c, if_neg xq]; grind
theorem DivI.less {p q s t : List Rat} {n m : Nat} {f : Rat} (h : DivI p q n s t f) (hm : m ≤ n) (hz : ∀ i, m ≤ i → co t i = 0) : DivI p q m s t f := ⟨h.sl, h.tl, hz, fun i hi => h.sz i xq, h.f0, h.eq⟩
theorem co_takez {t : List Rat} {n : Nat} (h : ∀ i, n ≤ i → co t i = 0) (i : Nat) : co (t.take n) i = co t i := by
 by_cases c : i < n
 ·rw [co_take c]; rfl
 ·rw [h i xq, co_ge (by rw [List.length_take]; omega)]
theorem WhL.take {t : List Rat} {C : Nat} (h : WhL t C) (n : Nat) : WhL (t.take n) C := fun i => by
 by_cases c : i < n
 ·rw [co_take c]; exact h i
 ·rw [co_ge (by rw [List.length_take]; omega)]; exact Wh.zero C
theorem quo_step {x y : Rat} (hy : y ≠ 0) : x * ((((x / y).den : Nat) : Int) : Rat) = (((x / y).num : Int) : Rat) * y ∧ ((((x / y).den : Nat) : Int) : Rat) ≠ 0 := by
 have hd : ((((x / y).den : Nat) : Int) : Rat) ≠ 0 := Ne.symm (Rat.ne_of_lt (Rat.natCast_pos.2 (den_pos' (x / y))))
 have e : x / y = (((x / y).num : Int) : Rat) / ((((x / y).den : Nat) : Int) : Rat) := by
  have h := (Rat.mkRat_self (x / y)).symm
  rw [Rat.mkRat_eq_div] at h
  exact h
 refine ⟨?_, hd⟩
 generalize (((x / y).num : Int) : Rat) = N at *
 generalize ((((x / y).den : Nat) : Int) : Rat) = D at *
 have h1 : x = N / D * y := by rw [← e]; grind
 rw [h1]; grind
structure DivR (p q s t : List Rat) (f : Rat) : Prop where
 f0 : f ≠ 0
 eq : ∀ i, f * co p i = co (mulQ s q) i + co t i
 lt : t.length < q.length
 tl : t.length ≤ p.length
 sl : s.length ≤ p.length + 1
theorem DivI.done {p q s t : List Rat} {n : Nat} {f : Rat} (h : DivI p q n s t f) (hn : n < q.length) : DivR p q s (t.take n) f := ⟨h.f0, fun i => by rw [co_takez h.tz]; exact h.eq i, by rw [List.length_take]; omega, by rw [List.length_take, h.tl]; omega, by rw [h.sl]; omega⟩
end Nt
section
open Go.RowKit
variable {u u' : World} {L : List RL} {X : List Value} {r : RL} {i : Nat} {l : List Rat} {K C : Nat}
theorem RatsN.fit (h : RatsN u L l K) (k : Nt.WhL l C) : RatsN u L l (Nt.dg C) := ⟨h.1, fun i hi => (h.2 i hi).fit (k i).rs⟩
end
end Go.Proofs.Ytdmpfhhhlhoeiaa
namespace Go.Proofs.Ytdmpfhhhlhoeiaa
set_option linter.unusedVariables false
namespace Nt
structure Pol where
 l : List Rat
 h : Nrm l
namespace Pol
def mk' (l : List Rat) : Pol := ⟨trimQ l, trim_nrm l⟩
def c (p : Pol) (i : Nat) : Rat := co p.l i
theorem mk_c (l : List Rat) (i : Nat) : (mk' l).c i = co l i := trim_co l i
theorem ext {p q : Pol} (h : ∀ i, p.c i = q.c i) : p = q := by
 obtain ⟨l, hl⟩ := p
 obtain ⟨m, hm⟩ := q
 have e : trimQ l = trimQ m := trim_ext h
 unfold Nrm at hl hm
 rw [hl, hm] at e
 subst e; rfl
theorem mk_eq {l m : List Rat} : mk' l = mk' m ↔ trimQ l = trimQ m := ⟨fun h => congrArg Pol.l h, fun h => by unfold mk'; simp [h]⟩
theorem mk_l (p : Pol) : mk' p.l = p := ext fun i => mk_c _ i
def C (a : Rat) : Pol := mk' [a]
instance (n : Nat) : OfNat Pol n := ⟨C (n : Rat)⟩
instance : Add Pol := ⟨fun p q => mk' (addQ p.l q.l)⟩
instance : Mul Pol := ⟨fun p q => mk' (mulQ p.l q.l)⟩
instance : Neg Pol := ⟨fun p => mk' (negQ p.l)⟩
instance : Sub Pol := ⟨fun p q => p + -q⟩
def X : Pol := mk' [0, 1]
theorem c_add (p q : Pol) (i : Nat) : (p + q).c i = p.c i + q.c i := (mk_c _ i).trans (addQ_co _ _ i)
theorem c_neg (p : Pol) (i : Nat) : (-p).c i = -p.c i := (mk_c _ i).trans (negQ_co _ i)
theorem c_sub (p q : Pol) (i : Nat) : (p - q).c i = p.c i - q.c i := by
 show (p + -q).c i = _
 rw [c_add, c_neg]; grind
theorem c_C (a : Rat) (i : Nat) : (C a).c i = if i = 0 then a else 0 := by
 unfold C
 rw [mk_c]
 cases i with
 | zero => rfl
 | succ i => rw [zxv, co_nil, if_neg xq]
theorem c_zero (i : Nat) : (0 : Pol).c i = 0 := by
 have h : (0 : Pol).c i = if i = 0 then (0 : Rat) else 0 := c_C 0 i
 rw [h]; split <;> rfl
theorem zero_l : (0 : Pol).l = [] := zxz.2 fun i => by
 have := c_zero i
 unfold c at this
 show co [((0 : Nat) : Rat)] i = 0
 rw [← trim_co]; exact this
theorem mk_mul (l m : List Rat) : mk' (mulQ l m) = mk' l * mk' m := ext fun i => by
 show _ = (mk' (mulQ (trimQ l) (trimQ m))).c i
 rw [mk_c, mk_c]
 exact zwi (fun i => (trim_co l i).symm) (fun i => (trim_co m i).symm) i
theorem c_mul (p q : Pol) (i : Nat) : (p * q).c i = co (mulQ p.l q.l) i := mk_c _ i
theorem mk_cons (a : Rat) (l : List Rat) (i : Nat) : (mk' (a :: l)).c i = if i = 0 then a else (mk' l).c (i - 1) := by
 rw [mk_c]
 cases i with
 | zero => rfl
 | succ i => rw [zxv, if_neg xq, mk_c]; rfl
theorem mulQ_consR (l : List Rat) (b : Rat) (m : List Rat) (k : Nat) : co (mulQ l (b :: m)) k = b * co l k + sh (co (mulQ l m)) k := by
 induction l generalizing k with
 | nil =>
  rw [mulQ_nil, co_nil]
  have e : sh (co (mulQ [] m)) k = 0 := by unfold sh; split <;> rfl
  rw [e]; grind
 | cons a l ih =>
  rw [zxe]
  cases k with
  | zero => unfold sh; rw [if_pos rfl, if_pos rfl, co_zero, co_zero]; grind
  | succ k =>
   have e1 : sh (co (mulQ l (b :: m))) (k + 1) = b * co l k + sh (co (mulQ l m)) k := by
    unfold sh; rw [if_neg xq, Nat.add_sub_cancel]; exact ih k
   have e2 : sh (co (mulQ (a :: l) m)) (k + 1) = a * co m k + sh (co (mulQ l m)) k := by
    unfold sh; rw [if_neg xq, Nat.add_sub_cancel]; exact zxe a l m k
   rw [e1, e2, zxv, zxv]; grind
theorem mulQ_comm (l m : List Rat) (k : Nat) : co (mulQ l m) k = co (mulQ m l) k := by
 induction l generalizing k with
 | nil =>
  rw [mulQ_nil]
  exact (mulQ_zero_r (m := []) (fun i => co_nil i) m k).symm
 | cons a l ih =>
  rw [zxe, mulQ_consR]
  have e : sh (co (mulQ l m)) k = sh (co (mulQ m l)) k := by unfold sh; split; rfl; exact ih _
  rw [e]
theorem mulQ_add (l l' m : List Rat) (k : Nat) : co (mulQ (addQ l l') m) k = co (mulQ l m) k + co (mulQ l' m) k := by
 induction m generalizing k with
 | nil =>
  rw [mulQ_zero_r (fun i => co_nil i), mulQ_zero_r (fun i => co_nil i), mulQ_zero_r (fun i => co_nil i)]; exact (Rat.add_zero 0).symm
 | cons b m ih =>
  rw [mulQ_consR, mulQ_consR, mulQ_consR, addQ_co]
  cases k with
  | zero => unfold sh; rw [if_pos rfl, if_pos rfl, if_pos rfl]; grind
  | succ k =>
   have e : ∀ x : List Rat, sh (co x) (k + 1) = co x k := fun x => by unfold sh; rw [if_neg xq, Nat.add_sub_cancel]
   rw [e, e, e, ih k]; grind
theorem mulQ_assoc (l m n : List Rat) (k : Nat) : co (mulQ (mulQ l m) n) k = co (mulQ l (mulQ m n)) k := by
 induction l generalizing k with
 | nil => rfl
 | cons a l ih =>
  show co (mulQ (addQ (m.map (a * ·)) (0 :: mulQ l m)) n) k = _
  rw [mulQ_add, mulQ_scale_l, zxe, zxe]
  cases k with
  | zero => unfold sh; rw [if_pos rfl, if_pos rfl]; grind
  | succ k =>
   have e : ∀ x : List Rat, sh (co x) (k + 1) = co x k := fun x => by unfold sh; rw [if_neg xq, Nat.add_sub_cancel]
   rw [e, e, ih k]; grind
theorem mulQ_one (m : List Rat) (k : Nat) : co (mulQ [1] m) k = co m k := by
 rw [zxe]
 have e : sh (co (mulQ [] m)) k = 0 := by unfold sh; split <;> rfl
 rw [e]; grind
theorem mul_comm (p q : Pol) : p * q = q * p := ext fun i => by rw [c_mul, c_mul, mulQ_comm]
theorem mul_assoc (p q r : Pol) : p * q * r = p * (q * r) := ext fun i => by
 rw [c_mul, c_mul]
 show co (mulQ (trimQ (mulQ p.l q.l)) r.l) i = co (mulQ p.l (trimQ (mulQ q.l r.l))) i
 rw [zwi (l' := mulQ p.l q.l) (m' := r.l) (trim_co _) (fun _ => rfl), zwi (l' := p.l) (m' := mulQ q.l r.l) (fun _ => rfl) (trim_co _)]
 exact mulQ_assoc _ _ _ i
theorem one_mul (p : Pol) : 1 * p = p := ext fun i => by
 rw [c_mul]
 show co (mulQ (trimQ [((1 : Nat) : Rat)]) p.l) i = _
 rw [zwi (l' := [((1 : Nat) : Rat)]) (m' := p.l) (trim_co _) (fun _ => rfl)]
 exact mulQ_one _ i
theorem right_distrib (p q r : Pol) : (p + q) * r = p * r + q * r := ext fun i => by
 rw [c_mul, c_add, c_mul, c_mul]
 show co (mulQ (trimQ (addQ p.l q.l)) r.l) i = _
 rw [zwi (l' := addQ p.l q.l) (m' := r.l) (trim_co _) (fun _ => rfl)]
 exact mulQ_add _ _ _ i
theorem add_comm (p q : Pol) : p + q = q + p := ext fun i => by rw [c_add, c_add]; grind
theorem add_assoc (p q r : Pol) : p + q + r = p + (q + r) := ext fun i => by rw [c_add, c_add, c_add, c_add]; grind
theorem add_zero (p : Pol) : p + 0 = p := ext fun i => by rw [c_add, c_zero]; grind
theorem neg_add_cancel (p : Pol) : -p + p = 0 := ext fun i => by rw [c_add, c_neg, c_zero]; grind
theorem zero_mul (p : Pol) : 0 * p = 0 := ext fun i => by rw [c_mul, zero_l, mulQ_nil, c_zero]
theorem left_distrib (p q r : Pol) : p * (q + r) = p * q + p * r := by rw [mul_comm, right_distrib, mul_comm q, mul_comm r]
theorem mul_zero (p : Pol) : p * 0 = 0 := by rw [mul_comm, zero_mul]
theorem mul_one (p : Pol) : p * 1 = p := by rw [mul_comm, one_mul]
instance : NatCast Pol := ⟨fun n => C (n : Rat)⟩
instance : IntCast Pol := ⟨fun n => C (n : Rat)⟩
def npow (p : Pol) : Nat → Pol
 | 0 => 1
 | n + 1 => npow p n * p
instance : HPow Pol Nat Pol := ⟨npow⟩
instance : SMul Nat Pol := ⟨fun n p => C (n : Rat) * p⟩
instance : SMul Int Pol := ⟨fun n p => C (n : Rat) * p⟩
theorem C_add (a b : Rat) : C (a + b) = C a + C b := ext fun i => by
 rw [c_add, c_C, c_C, c_C]; split <;> grind
theorem C_neg (a : Rat) : C (-a) = -C a := ext fun i => by
 rw [c_neg, c_C, c_C]; split <;> grind
theorem C_zero : C 0 = 0 := rfl
theorem C_mul (a b : Rat) : C (a * b) = C a * C b := by
 show mk' [a * b] = mk' [a] * mk' [b]
 rw [← mk_mul]
 refine ext fun i => ?_
 rw [mk_c, mk_c, zxe]
 have e : sh (co (mulQ [] [b])) i = 0 := by unfold sh; split <;> rfl
 rw [e]
 cases i with
 | zero => rw [co_zero, co_zero]; grind
 | succ i => rw [zxv, zxv, co_nil]; grind
instance : Lean.Grind.CommRing Pol where
 add_zero := add_zero
 add_comm := add_comm
 add_assoc := add_assoc
 mul_assoc := mul_assoc
 mul_one := mul_one
 one_mul := one_mul
 left_distrib := left_distrib
 right_distrib := right_distrib
 zero_mul := zero_mul
 mul_zero := mul_zero
 mul_comm := mul_comm
 pow_zero := fun p => rfl
 pow_succ := fun p n => rfl
 neg_add_cancel := neg_add_cancel
 sub_eq_add_neg := fun p q => rfl
 ofNat_succ := fun n => by
  show C ((n + 1 : Nat) : Rat) = C (n : Rat) + C 1
  rw [← C_add]; congr 1
  exact Rat.natCast_add n 1
 ofNat_eq_natCast := fun n => rfl
 intCast_ofNat := fun n => rfl
 intCast_neg := fun n => by
  show C ((-n : Int) : Rat) = -C (n : Rat)
  rw [← C_neg, Rat.intCast_neg]
 nsmul_eq_natCast_mul := fun n p => rfl
 zsmul_natCast_eq_nsmul := fun n p => rfl
 neg_zsmul := fun n p => by
  show C ((-n : Int) : Rat) * p = -(C (n : Rat) * p)
  rw [Rat.intCast_neg, C_neg]
  refine ext fun i => ?_
  rw [c_neg, c_mul, c_mul]
  show co (mulQ (trimQ (negQ (C (n : Rat)).l)) p.l) i = _
  rw [zwi (l' := negQ (C (n : Rat)).l) (m' := p.l) (trim_co _) (fun _ => rfl)]
  have e : negQ (C (n : Rat)).l = (C (n : Rat)).l.map ((-1) * ·) := by unfold negQ; congr 1; funext x; grind
  rw [e, mulQ_scale_l]; grind
example (p q : Pol) : (p + q) * (p - q) = p * p - q * q := by grind
example (p q : Pol) : (p + q) ^ 2 = p ^ 2 + 2 * p * q + q ^ 2 := by grind
end Pol
end Nt
end Go.Proofs.Ytdmpfhhhlhoeiaa
namespace Go.Proofs.Ytdmpfhhhlhoeiaa
set_option linter.unusedVariables false
namespace Nt
theorem mulQ_far {l m : List Rat} {k : Nat} (h : l.length + m.length ≤ k + 1) : co (mulQ l m) k = 0 := by
 induction l generalizing k with
 | nil => rfl
 | cons a l ih =>
  rw [zxe, co_ge (l := m) (by simp at h; omega)]
  unfold sh
  split
  ·grind
  ·rw [ih (by simp at h; omega)]; grind
theorem mulQ_top {l m : List Rat} (hl : 0 < l.length) (hm : 0 < m.length) : co (mulQ l m) (l.length + m.length - 2) = co l (l.length - 1) * co m (m.length - 1) := by
 induction l with
 | nil => simp at hl
 | cons a l ih =>
  rw [zxe]
  cases l with
  | nil =>
   have e : sh (co (mulQ [] m)) ([a].length + m.length - 2) = 0 := by unfold sh; split <;> rfl
   rw [e]
   show a * co m (1 + m.length - 2) + 0 = a * co m (m.length - 1)
   rw [show 1 + m.length - 2 = m.length - 1 by omega]; grind
  | cons b l =>
   have ih := ih zq
   rw [co_ge (l := m) yz]
   unfold sh
   rw [if_neg yz]
   have e : (a :: b :: l).length + m.length - 2 - 1 = (b :: l).length + m.length - 2 := by simp; omega
   rw [e, ih, show (a :: b :: l).length - 1 = ((b :: l).length - 1) + 1 by simp, zxv]; grind
namespace Pol
def len (p : Pol) : Nat := p.l.length
def lead (p : Pol) : Rat := p.c (p.len - 1)
theorem c_ge {p : Pol} {i : Nat} (h : p.len ≤ i) : p.c i = 0 := co_ge h
theorem len_le {p : Pol} {n : Nat} (h : ∀ i, n ≤ i → p.c i = 0) : p.len ≤ n := by
 apply Classical.byContradiction
 intro k
 have h1 : p.l.length > n := by unfold len at k; omega
 have h2 := nrm_last p.h (by intro e; rw [e] at h1; simp at h1)
 exact h2 (h _ xq)
theorem len_zero : (0 : Pol).len = 0 := by unfold len; rw [zero_l]; rfl
theorem zero_of_len {p : Pol} (h : p.len = 0) : p = 0 := ext fun i => by rw [c_zero, c_ge xq]
theorem len_pos {p : Pol} (h : p ≠ 0) : 0 < p.len := by
 rcases Nat.eq_zero_or_pos p.len with k | k
 ·exact absurd (zero_of_len k) h
 ·exact k
theorem ne_of_len {p : Pol} (h : 0 < p.len) : p ≠ 0 := by rintro rfl; rw [len_zero] at h; omega
theorem lead_ne {p : Pol} (h : p ≠ 0) : p.lead ≠ 0 := nrm_last p.h (by intro e; have := len_pos h; unfold len at this; rw [e] at this; simp at this)
theorem c_ne_len {p : Pol} {i : Nat} (h : p.c i ≠ 0) : i < p.len := by
 apply Classical.byContradiction
 intro k
 exact h (c_ge xq)
theorem mul_far {p q : Pol} {k : Nat} (h : p.len + q.len ≤ k + 1) : (p * q).c k = 0 := by rw [c_mul]; exact mulQ_far h
theorem mul_top {p q : Pol} (hp : p ≠ 0) (hq : q ≠ 0) : (p * q).c (p.len + q.len - 2) = p.lead * q.lead := by rw [c_mul]; exact mulQ_top (len_pos hp) (len_pos hq)
theorem len_mul {p q : Pol} (hp : p ≠ 0) (hq : q ≠ 0) : (p * q).len + 1 = p.len + q.len := by
 have h1 := len_pos hp
 have h2 := len_pos hq
 have h3 : (p * q).len ≤ p.len + q.len - 1 := len_le fun i hi => mul_far xq
 have h4 : (p * q).c (p.len + q.len - 2) ≠ 0 := by
  rw [mul_top hp hq]
  intro k
  rcases Rat.mul_eq_zero.1 k with k | k
  ·exact lead_ne hp k
  ·exact lead_ne hq k
 have := c_ne_len h4
 omega
theorem mul_ne {p q : Pol} (hp : p ≠ 0) (hq : q ≠ 0) : p * q ≠ 0 := by
 apply ne_of_len
 have := len_mul hp hq
 have := len_pos hp
 have := len_pos hq
 omega
theorem lead_mul {p q : Pol} (hp : p ≠ 0) (hq : q ≠ 0) : (p * q).lead = p.lead * q.lead := by
 unfold lead
 have h := len_mul hp hq
 have h1 := len_pos hp
 have h2 := len_pos hq
 rw [show (p * q).len - 1 = p.len + q.len - 2 by omega]
 exact mul_top hp hq
theorem eq_zero_of_mul {p q : Pol} (h : p * q = 0) : p = 0 ∨ q = 0 := by
 apply Classical.byContradiction
 intro k
 exact mul_ne (fun e => k (.inl e)) (fun e => k (.inr e)) h
theorem mul_cancel {p q r : Pol} (hr : r ≠ 0) (h : p * r = q * r) : p = q := by
 have h1 : (p - q) * r = 0 := by grind
 rcases eq_zero_of_mul h1 with k | k
 ·grind
 ·exact absurd k hr
theorem len_sub (p q : Pol) : (p - q).len ≤ max p.len q.len := len_le fun i hi => by rw [c_sub, c_ge xq, c_ge xq]; grind
theorem C_ne {a : Rat} (h : a ≠ 0) : C a ≠ 0 := fun e => h (by have := c_C a 0; rw [e, c_zero] at this; simpa using this.symm)
theorem len_C {a : Rat} (h : a ≠ 0) : (C a).len = 1 := by
 have h1 : (C a).len ≤ 1 := len_le fun i hi => by rw [c_C, if_neg xq]
 have := len_pos (C_ne h)
 omega
theorem lead_C {a : Rat} (h : a ≠ 0) : (C a).lead = a := by unfold lead; rw [len_C h, c_C, if_pos rfl]
theorem is_C {p : Pol} (h : p.len ≤ 1) : p = C (p.c 0) := ext fun i => by
 rw [c_C]
 split
 ·rename_i e; rw [e]
 ·exact c_ge xq
theorem C_inv {a : Rat} (h : a ≠ 0) : C a * C (1 / a) = 1 := by
 rw [← C_mul, show a * (1 / a) = 1 by grind]; rfl
theorem C_mul_c (a : Rat) (p : Pol) (i : Nat) : (C a * p).c i = a * p.c i := by
 rw [c_mul]
 show co (mulQ (trimQ [a]) p.l) i = _
 rw [zwi (l' := [a]) (m' := p.l) (trim_co _) (fun _ => rfl), zxe]
 have e : sh (co (mulQ [] p.l)) i = 0 := by unfold sh; split <;> rfl
 rw [e]
 show a * p.c i + 0 = _
 grind
theorem len_Cmul {a : Rat} (h : a ≠ 0) (p : Pol) : (C a * p).len = p.len := by
 by_cases hp : p = 0
 ·subst hp; rw [mul_zero]
 ·have := len_mul (C_ne h) hp
  rw [len_C h] at this
  omega
theorem div_unique {u v u' v' q : Pol} (h : u * q + v = u' * q + v') (hv : v.len < q.len) (hv' : v'.len < q.len) : u = u' ∧ v = v' := by
 have hq : q ≠ 0 := ne_of_len xq
 have h1 : (u - u') * q = v' - v := by grind
 have h2 : u - u' = 0 := by
  apply Classical.byContradiction
  intro k
  have h3 := len_mul k hq
  rw [h1] at h3
  have h4 := len_sub v' v
  have h5 := len_pos k
  omega
 have h3 : u = u' := by grind
 subst h3
 exact ⟨rfl, by grind⟩
instance : Dvd Pol := ⟨fun q p => ∃ u, p = q * u⟩
structure IsGcd (p q g : Pol) : Prop where
 m : g = 0 ∨ g.lead = 1
 l : g ∣ p
 r : g ∣ q
 s : ∃ u v, g = u * p + v * q
theorem one_ne : (1 : Pol) ≠ 0 := C_ne (a := 1) xw
theorem monic_unit {a b : Pol} (h : a * b = 1) : a.len = 1 := by
 have ha : a ≠ 0 := by rintro rfl; rw [zero_mul] at h; exact one_ne h.symm
 have hb : b ≠ 0 := by rintro rfl; rw [mul_zero] at h; exact one_ne h.symm
 have h1 := len_mul ha hb
 rw [h] at h1
 have h2 : (1 : Pol).len = 1 := len_C (a := 1) xw
 have := len_pos ha
 have := len_pos hb
 omega
theorem dvd_antisymm {g g' : Pol} (h1 : g = 0 ∨ g.lead = 1) (h2 : g' = 0 ∨ g'.lead = 1) (h : g ∣ g') (k : g' ∣ g) : g = g' := by
 obtain ⟨a, ha⟩ := h
 obtain ⟨b, hb⟩ := k
 by_cases hg : g = 0
 ·subst hg; rw [zero_mul] at ha; exact ha.symm
 ·have e : (a * b) * g = 1 * g := by rw [one_mul]; grind
  have e1 := mul_cancel hg e
  have ha0 : a ≠ 0 := by rintro rfl; rw [zero_mul] at e1; exact one_ne e1.symm
  have h3 := is_C (Nat.le_of_eq (monic_unit e1))
  have hg' : g' ≠ 0 := by rw [ha]; exact mul_ne hg ha0
  have h4 := lead_mul hg ha0
  rw [← ha] at h4
  have h5 : g.lead = 1 := h1.resolve_left hg
  have h6 : g'.lead = 1 := h2.resolve_left hg'
  rw [h5, h6] at h4
  have h7 : a.c 0 ≠ 0 := fun e => ha0 (by rw [h3, e]; rfl)
  have h8 : a.lead = a.c 0 := by unfold lead; rw [monic_unit e1]
  have h9 : a = 1 := by rw [h3, ← h8, show a.lead = 1 by grind]; rfl
  rw [ha, h9, mul_one]
theorem IsGcd.unique {p q g g' : Pol} (h : IsGcd p q g) (k : IsGcd p q g') : g = g' := by
 obtain ⟨a, ha⟩ := h.l
 obtain ⟨b, hb⟩ := h.r
 obtain ⟨a', ha'⟩ := k.l
 obtain ⟨b', hb'⟩ := k.r
 obtain ⟨u, v, e⟩ := h.s
 obtain ⟨u', v', e'⟩ := k.s
 exact dvd_antisymm h.m k.m ⟨u' * a + v' * b, by grind⟩ ⟨u * a' + v * b', by grind⟩
structure Same (p q a b : Pol) : Prop where
 ha : ∃ u v, a = u * p + v * q
 hb : ∃ u v, b = u * p + v * q
 hp : ∃ u v, p = u * a + v * b
 hq : ∃ u v, q = u * a + v * b
theorem Same.scale {p q : Pol} {s t : Rat} (hs : s ≠ 0) (ht : t ≠ 0) : Same p q (C s * p) (C t * q) := by
 have h1 := C_inv hs
 have h2 := C_inv ht
 exact ⟨⟨C s, 0, by grind⟩, ⟨0, C t, by grind⟩, ⟨C (1 / s), 0, by grind⟩, ⟨0, C (1 / t), by grind⟩⟩
theorem Same.step {p q a b r s : Pol} {f k : Rat} (h : Same p q a b) (hf : f ≠ 0) (hk : k ≠ 0) (e : C f * a = s * b + r) : Same p q b (C k * r) := by
 have h1 := C_inv hf
 have h2 := C_inv hk
 obtain ⟨⟨u1, v1, e1⟩, ⟨u2, v2, e2⟩, ⟨u3, v3, e3⟩, ⟨u4, v4, e4⟩⟩ := h
 refine ⟨⟨u2, v2, e2⟩, ⟨C k * (C f * u1 - s * u2), C k * (C f * v1 - s * v2), ?_⟩, ⟨u3 * C (1 / f) * s + v3, u3 * C (1 / f) * C (1 / k), ?_⟩, ⟨u4 * C (1 / f) * s + v4, u4 * C (1 / f) * C (1 / k), ?_⟩⟩
 ·have : r = C f * a - s * b := by grind
  rw [this]; grind
 ·have e5 : a = C (1 / f) * (s * b + r) := by rw [← e]; grind
  have e6 : r = C (1 / k) * (C k * r) := by grind
  grind
 ·have e5 : a = C (1 / f) * (s * b + r) := by rw [← e]; grind
  have e6 : r = C (1 / k) * (C k * r) := by grind
  grind
def monic (p : Pol) : Pol := C (1 / p.lead) * p
theorem monic_lead {p : Pol} (h : p ≠ 0) : p.monic.lead = 1 := by
 have h1 := lead_ne h
 have h2 : (1 / p.lead) ≠ 0 := by intro k; have : (1 : Rat) = (1 / p.lead) * p.lead := by grind
                                  rw [k] at this; grind
 unfold monic
 rw [lead_mul (C_ne h2) h, lead_C h2]; grind
theorem Same.gcd {p q a : Pol} (h : Same p q a 0) : IsGcd p q a.monic := by
 obtain ⟨⟨u1, v1, e1⟩, _, ⟨u3, v3, e3⟩, ⟨u4, v4, e4⟩⟩ := h
 by_cases ha : a = 0
 ·subst ha
  have e : (0 : Pol).monic = 0 := by unfold monic; rw [mul_zero]
  rw [e]
  exact ⟨.inl rfl, ⟨0, by grind⟩, ⟨0, by grind⟩, ⟨0, 0, by grind⟩⟩
 ·have h1 := lead_ne ha
  have h2 := C_inv h1
  refine ⟨.inr (monic_lead ha), ⟨u3 * C a.lead, ?_⟩, ⟨u4 * C a.lead, ?_⟩, ⟨C (1 / a.lead) * u1, C (1 / a.lead) * v1, ?_⟩⟩
  ·unfold monic; grind
  ·unfold monic; grind
  ·unfold monic
   have : C (1 / a.lead) * a = C (1 / a.lead) * (u1 * p + v1 * q) := by rw [← e1]
   rw [this]; grind
theorem mk_cons' (a : Rat) (l : List Rat) : mk' (a :: l) = C a + X * mk' l := ext fun i => by
 have hX : ∀ p : Pol, (X * p).c i = if i = 0 then 0 else p.c (i - 1) := fun p => by
  rw [c_mul]
  show co (mulQ (trimQ [0, 1]) p.l) i = _
  rw [zwi (l' := [0, 1]) (m' := p.l) (trim_co _) (fun _ => rfl), zxe]
  unfold sh
  split
  ·grind
  ·rw [mulQ_one]; show 0 * _ + p.c (i - 1) = _; grind
 rw [c_add, hX, mk_cons, c_C]
 split <;> grind
theorem ind {P : Pol → Prop} (h0 : P 0) (h1 : ∀ a p, P p → P (C a + X * p)) (p : Pol) : P p := by
 rw [← mk_l p]
 generalize p.l = l
 induction l with
 | nil => exact (zero_of_len (p := mk' []) rfl) ▸ h0
 | cons a l ih => rw [mk_cons']; exact h1 a _ ih
def D (p : Pol) : Pol := mk' (derQ p.l)
def evL : List Rat → Rat → Rat
 | [], x => 0
 | a :: l, x => a + x * evL l x
theorem evL_zero {l : List Rat} (h : ∀ i, co l i = 0) (x : Rat) : evL l x = 0 := by
 induction l with
 | nil => rfl
 | cons a l ih =>
  have h0 : a = 0 := h 0
  show a + x * evL l x = 0
  rw [ih fun i => by rw [← zxv a]; exact h (i + 1), h0]; grind
theorem evL_congr {l m : List Rat} (h : ∀ i, co l i = co m i) (x : Rat) : evL l x = evL m x := by
 induction l generalizing m with
 | nil => rw [evL_zero (l := m) fun i => by rw [← h i, co_nil]]; rfl
 | cons a l ih =>
  cases m with
  | nil => rw [evL_zero (l := a :: l) fun i => by rw [h i, co_nil]]; rfl
  | cons b m =>
   have h0 : a = b := h 0
   show a + x * evL l x = b + x * evL m x
   have e := ih (m := m) (fun i => by have := h (i + 1); rw [zxv, zxv] at this; exact this)
   rw [h0, e]
def ev (p : Pol) (x : Rat) : Rat := evL p.l x
theorem mk_ev (l : List Rat) (x : Rat) : (mk' l).ev x = evL l x := evL_congr (trim_co l) x
theorem ev_zero (x : Rat) : ev 0 x = 0 := evL_zero (fun i => c_zero i) x
theorem ev_cons (a : Rat) (p : Pol) (x : Rat) : ev (C a + X * p) x = a + x * ev p x := by
 have e : C a + X * p = mk' (a :: p.l) := by rw [mk_cons', mk_l]
 rw [e, mk_ev]; rfl
theorem ev_add (p q : Pol) (x : Rat) : ev (p + q) x = ev p x + ev q x := by
 induction p using ind generalizing q with
 | h0 => rw [ev_zero, show (0 : Pol) + q = q by grind]; grind
 | h1 a p ih =>
  induction q using ind with
  | h0 => rw [ev_zero, add_zero]; grind
  | h1 b q _ =>
   have e : C a + X * p + (C b + X * q) = C (a + b) + X * (p + q) := by rw [C_add]; grind
   rw [e, ev_cons, ev_cons, ev_cons, ih]; grind
theorem ev_Cmul (a : Rat) (p : Pol) (x : Rat) : ev (C a * p) x = a * ev p x := by
 induction p using ind with
 | h0 => rw [mul_zero, ev_zero]; grind
 | h1 b p ih =>
  have e : C a * (C b + X * p) = C (a * b) + X * (C a * p) := by rw [C_mul]; grind
  rw [e, ev_cons, ev_cons, ih]; grind
theorem ev_mul (p q : Pol) (x : Rat) : ev (p * q) x = ev p x * ev q x := by
 induction p using ind with
 | h0 => rw [zero_mul, ev_zero]; grind
 | h1 a p ih =>
  have e : (C a + X * p) * q = C a * q + (C 0 + X * (p * q)) := by rw [C_zero]; grind
  rw [e, ev_add, ev_Cmul, ev_cons, ih, ev_cons]; grind
end Pol
end Nt
end Go.Proofs.Ytdmpfhhhlhoeiaa
namespace Go.Proofs.Ytdmpfhhhlhoeiaa
set_option linter.unusedVariables false
namespace Nt
theorem absQ_mul (y : Rat) : ∃ z : Int, y = absQ y * (z : Rat) ∧ absQ y = y * (z : Rat) := by
 unfold absQ
 split
 ·exact ⟨-1, by rw [show (((-1 : Int)) : Rat) = -1 from rfl]; grind, by rw [show (((-1 : Int)) : Rat) = -1 from rfl]; grind⟩
 ·exact ⟨1, by rw [show (((1 : Int)) : Rat) = 1 from rfl]; grind, by rw [show (((1 : Int)) : Rat) = 1 from rfl]; grind⟩
theorem cmn_spec (x y : Rat) : (∃ z : Int, x = cmn x y * (z : Rat)) ∧ (∃ z : Int, y = cmn x y * (z : Rat)) ∧ ∀ c : Rat, (∃ z : Int, x = c * (z : Rat)) → (∃ z : Int, y = c * (z : Rat)) → ∃ z : Int, cmn x y = c * (z : Rat) := by
 unfold cmn
 by_cases hx : x = 0
 ·rw [if_pos hx]
  obtain ⟨z, h1, h2⟩ := absQ_mul y
  refine ⟨⟨0, by rw [hx]; exact (Rat.mul_zero _).symm⟩, ⟨z, h1⟩, fun c _ ⟨v, hv⟩ => ⟨v * z, ?_⟩⟩
  rw [Rat.intCast_mul, h2]
  have e : y * (z : Rat) = c * (v : Rat) * (z : Rat) := by rw [← hv]
  rw [e]; grind
 ·rw [if_neg hx]
  by_cases hy : y = 0
  ·rw [if_pos hy]
   exact ⟨⟨1, by rw [show (((1 : Int)) : Rat) = 1 from rfl]; grind⟩, ⟨0, by rw [hy]; exact (Rat.mul_zero _).symm⟩, fun c h _ => h⟩
  ·rw [if_neg hy]
   obtain ⟨z0, h1, h2⟩ := absQ_mul (x / (((x / y).num : Int) : Rat))
   have hN := num_ne (div_ne hx hy)
   obtain ⟨hq, hD⟩ := quo_step (x := x) hy
   have hcop : Nat.gcd (x / y).num.natAbs (x / y).den = 1 := (x / y).reduced
   obtain ⟨s, t, hst⟩ := bez (x / y).num (x / y).den hcop
   generalize hn : (x / y).num = N at *
   generalize hd : ((x / y).den : Nat) = Dn at *
   have hst' : (s : Rat) * (N : Rat) + (t : Rat) * ((Dn : Int) : Rat) = 1 := by
    have h := congrArg (fun z : Int => (z : Rat)) hst
    simp only [Rat.intCast_add, Rat.intCast_mul] at h
    exact h
   generalize hw : x / (N : Rat) = w at *
   have ex : x = w * (N : Rat) := by rw [← hw]; grind
   have ey : y = w * ((Dn : Int) : Rat) := by
    have : w * (N : Rat) * ((Dn : Int) : Rat) = (N : Rat) * y := by rw [← ex]; exact hq
    grind
   refine ⟨⟨z0 * N, ?_⟩, ⟨z0 * (Dn : Int), ?_⟩, fun c ⟨a, ha⟩ ⟨b, hb⟩ => ⟨(s * a + t * b) * z0, ?_⟩⟩
   ·rw [Rat.intCast_mul]; rw [ex, h1] ; grind
   ·rw [Rat.intCast_mul]; rw [ey, h1]; grind
   ·rw [h2, Rat.intCast_mul, Rat.intCast_add, Rat.intCast_mul, Rat.intCast_mul]
    have : w = c * ((s : Rat) * (a : Rat) + (t : Rat) * (b : Rat)) := by
     have e1 : w = w * ((s : Rat) * (N : Rat) + (t : Rat) * ((Dn : Int) : Rat)) := by rw [hst']; grind
     have e2 : w * ((s : Rat) * (N : Rat) + (t : Rat) * ((Dn : Int) : Rat)) = (s : Rat) * x + (t : Rat) * y := by rw [ex, ey]; grind
     rw [e1, e2, ha, hb]; grind
    rw [this]; grind
where
 bez (N : Int) (D : Nat) (h : Nat.gcd N.natAbs D = 1) : ∃ s t : Int, s * N + t * (D : Int) = 1 := by
  have := Int.gcd_eq_gcd_ab' N D h
  exact this
 Int.gcd_eq_gcd_ab' (N : Int) (D : Nat) (h : Nat.gcd N.natAbs D = 1) : ∃ s t : Int, s * N + t * (D : Int) = 1 := by
  have key : ∀ (n a b : Nat), a + b ≤ n → ∃ s t : Int, s * (a : Int) + t * (b : Int) = (Nat.gcd a b : Int) := by
   intro n
   induction n with
   | zero => intro a b hab; exact ⟨0, 0, by have h1 : a = 0 := by omega
                                            have h2 : b = 0 := by omega
                                            subst h1; subst h2; simp⟩
   | succ n ih =>
    intro a b hab
    rcases Nat.eq_zero_or_pos a with ha | ha
    ·subst ha; exact ⟨0, 1, by simp⟩
    ·rcases Nat.eq_zero_or_pos b with hb | hb
     ·subst hb; exact ⟨1, 0, by simp⟩
     ·rcases Nat.le_total a b with hle | hle
      ·obtain ⟨s, t, e⟩ := ih a (b - a) xq
       refine ⟨s - t, t, ?_⟩
       rw [Nat.gcd_sub_self_right hle] at e
       rw [← e, show ((b - a : Nat) : Int) = (b : Int) - (a : Int) by omega, Int.sub_mul, Int.mul_sub]; omega
      ·obtain ⟨s, t, e⟩ := ih (a - b) b xq
       refine ⟨s, t - s, ?_⟩
       rw [Nat.gcd_sub_self_left hle] at e
       rw [← e, show ((a - b : Nat) : Int) = (a : Int) - (b : Int) by omega, Int.sub_mul, Int.mul_sub]; omega
  obtain ⟨s, t, e⟩ := key _ N.natAbs D (Nat.le_refl _)
  rw [h] at e
  rcases Int.natAbs_eq N with hN | hN
  ·exact ⟨s, t, by rw [← hN] at e; exact e⟩
  ·refine ⟨-s, t, ?_⟩
   have : ((N.natAbs : Nat) : Int) = -N := by omega
   rw [this] at e
   rw [Int.neg_mul, ← Int.mul_neg]; exact e
theorem msr_spec (l : List Rat) : (∀ x ∈ l, ∃ z : Int, x = msr l * (z : Rat)) ∧ ∀ c : Rat, (∀ x ∈ l, ∃ z : Int, x = c * (z : Rat)) → ∃ z : Int, msr l = c * (z : Rat) := by
 have key : ∀ (l : List Rat) (a : Rat), ((∃ z : Int, a = l.foldl cmn a * (z : Rat)) ∧ ∀ x ∈ l, ∃ z : Int, x = l.foldl cmn a * (z : Rat)) ∧ ∀ c : Rat, (∃ z : Int, a = c * (z : Rat)) → (∀ x ∈ l, ∃ z : Int, x = c * (z : Rat)) → ∃ z : Int, l.foldl cmn a = c * (z : Rat) := by
  intro l
  induction l with
  | nil => intro a; exact ⟨⟨⟨1, by show a = a * _; rw [show (((1 : Int)) : Rat) = 1 from rfl]; grind⟩, fun x hx => by cases hx⟩, fun c h _ => h⟩
  | cons b l ih =>
   intro a
   obtain ⟨⟨⟨z, hz⟩, h2⟩, h3⟩ := ih (cmn a b)
   obtain ⟨⟨z1, e1⟩, ⟨z2, e2⟩, h4⟩ := cmn_spec a b
   refine ⟨⟨⟨z * z1, ?_⟩, fun x hx => ?_⟩, fun c ha hl => ?_⟩
   ·show a = l.foldl cmn (cmn a b) * _
    rw [Rat.intCast_mul, ← Rat.mul_assoc, ← hz]; exact e1
   ·rcases List.mem_cons.1 hx with rfl | hx
    ·exact ⟨z * z2, by show x = l.foldl cmn (cmn a x) * _; rw [Rat.intCast_mul, ← Rat.mul_assoc, ← hz]; exact e2⟩
    ·exact h2 x hx
   ·exact h3 c (h4 c ha (hl b (List.mem_cons_self ..))) (fun x hx => hl x (List.mem_cons_of_mem _ hx))
 obtain ⟨⟨_, h1⟩, h2⟩ := key l 0
 exact ⟨h1, fun c hc => h2 c ⟨0, (Rat.mul_zero c).symm⟩ hc⟩
def prim (l : List Rat) : List Rat := (trimQ l).map (· / msr (trimQ l))
@[simp] theorem prim_len (l : List Rat) : (prim l).length = (trimQ l).length := by simp [prim]
theorem prim_co (l : List Rat) (i : Nat) : co (prim l) i = co l i / msr (trimQ l) := by
 unfold prim
 rw [co_map _ (by rw [Rat.div_def, Rat.zero_mul]), trim_co]
theorem co_mem {l : List Rat} {i : Nat} (h : i < l.length) : co l i ∈ l := by
 unfold co
 rw [List.getD_eq_getElem?_getD, List.getElem?_eq_getElem h]
 exact List.getElem_mem h
theorem msr_ne' {l : List Rat} (h : trimQ l ≠ []) : msr (trimQ l) ≠ 0 := msr_ne (trim_nrm l) (by cases e : trimQ l with | nil => exact absurd e h | cons a m => simp)
theorem prim_whole (l : List Rat) (i : Nat) : ∃ z : Int, co (prim l) i = (z : Rat) := by
 by_cases hi : i < (trimQ l).length
 ·have hm := msr_ne' (l := l) (by intro e; rw [e] at hi; simp at hi)
  obtain ⟨z, hz⟩ := (msr_spec (trimQ l)).1 _ (co_mem hi)
  refine ⟨z, ?_⟩
  rw [prim_co, ← trim_co, hz]; grind
 ·exact ⟨0, by rw [co_ge yz]; rfl⟩
theorem prim_nrm (l : List Rat) : Nrm (prim l) := by
 refine nrm_of fun h k => ?_
 have ht : trimQ l ≠ [] := fun e => h (by unfold prim; rw [e]; rfl)
 have hm := msr_ne' ht
 have hn := nrm_last (trim_nrm l) ht
 rw [prim_len, prim_co, ← trim_co] at k
 apply hn
 have : co (trimQ l) ((trimQ l).length - 1) = co (trimQ l) ((trimQ l).length - 1) / msr (trimQ l) * msr (trimQ l) := by grind
 rw [this, k]; grind
theorem dl_bits {n K : Nat} (h : dl n ≤ K) : n ≤ 2 ^ (32 * K) := by
 have h1 := dl_lt (x := n)
 have h2 := pw_mono h
 rw [pwTwo K] at h2
 have h3 : (n : Int) < ((2 ^ (32 * K) : Nat) : Int) := by omega
 exact Nat.le_of_lt (Int.ofNat_lt.1 h3)
theorem prim_bits {l W : List Rat} {c : Rat} {A : Nat} (hc : c ≠ 0) (h : ∀ i, co l i = c * co W i) (hW : WhL W A) : WhL (prim l) A := fun i => by
 by_cases ht : trimQ l = []
 ·have : co (prim l) i = 0 := by rw [prim_co, zxz.1 ht i]; grind
  rw [this]; exact Wh.zero A
 ·have hm := msr_ne' ht
  obtain ⟨g, hg⟩ := (msr_spec (trimQ l)).2 c (fun x hx => by
   obtain ⟨j, hj, e⟩ := List.getElem_of_mem hx
   have e2 : x = co l j := by rw [← trim_co]; unfold co; rw [List.getD_eq_getElem?_getD, List.getElem?_eq_getElem hj, ← e]; rfl
   obtain ⟨z, hz, _⟩ := hW j
   exact ⟨z, by rw [e2, h j, hz]⟩)
  obtain ⟨z, hz⟩ := prim_whole l i
  obtain ⟨v, hv, hb⟩ := hW i
  have hg0 : g ≠ 0 := by rintro rfl; apply hm; rw [hg]; exact Rat.mul_zero c
  have e : (v : Rat) = ((z * g : Int) : Rat) := by
   rw [Rat.intCast_mul, ← hz, prim_co, h i, hv, hg]
   have : (g : Rat) ≠ 0 := fun k => hg0 (Rat.intCast_inj.1 (by rw [k]; rfl))
   grind
  have e2 := Rat.intCast_inj.1 e
  refine ⟨z, hz, Nat.le_trans ?_ hb⟩
  rw [e2, Int.natAbs_mul]
  exact Nat.le_mul_of_pos_right _ (Int.natAbs_pos.2 hg0)
theorem mk_map (l : List Rat) (c : Rat) : Pol.mk' (l.map (· * c)) = Pol.C c * Pol.mk' l := Pol.ext fun i => by
 rw [Pol.C_mul_c, Pol.mk_c, Pol.mk_c, co_map _ (Rat.zero_mul c)]; grind
theorem prim_mk' (l : List Rat) : ∃ k : Rat, k ≠ 0 ∧ Pol.mk' (prim l) = Pol.C k * Pol.mk' l := by
 by_cases h : trimQ l = []
 ·refine ⟨1, by decide, Pol.ext fun i => ?_⟩
  rw [Pol.C_mul_c, Pol.mk_c, Pol.mk_c, prim_co, zxz.1 h i]; grind
 ·have hm := msr_ne' h
  refine ⟨1 / msr (trimQ l), fun k => ?_, Pol.ext fun i => ?_⟩
  ·have : (1 : Rat) = 1 / msr (trimQ l) * msr (trimQ l) := by grind
   rw [k] at this; grind
  ·rw [Pol.C_mul_c, Pol.mk_c, Pol.mk_c, prim_co]; grind
theorem DivR.pol {p q s t : List Rat} {f : Rat} (h : DivR p q s t f) : Pol.C f * Pol.mk' p = Pol.mk' s * Pol.mk' q + Pol.mk' t := Pol.ext fun i => by
 rw [Pol.C_mul_c, Pol.mk_c, h.eq i, Pol.c_add, ← Pol.mk_mul, Pol.mk_c, Pol.mk_c]
theorem mk_len (l : List Rat) : (Pol.mk' l).len ≤ l.length := zzh l
theorem mk_len_nrm {l : List Rat} (h : Nrm l) : (Pol.mk' l).len = l.length := congrArg List.length h
theorem prim_same (l m : List Rat) : Pol.Same (Pol.mk' l) (Pol.mk' m) (Pol.mk' (prim l)) (Pol.mk' (prim m)) := by
 obtain ⟨k, h1, h2⟩ := prim_mk' l
 obtain ⟨k', h3, h4⟩ := prim_mk' m
 rw [h2, h4]
 exact Pol.Same.scale h1 h3
theorem same_step {p q : Pol} {a b s t : List Rat} {f : Rat} (h : Pol.Same p q (Pol.mk' a) (Pol.mk' b)) (hd : DivR a b s t f) : Pol.Same p q (Pol.mk' b) (Pol.mk' (prim t)) := by
 obtain ⟨k, h1, h2⟩ := prim_mk' t
 rw [h2]
 exact h.step hd.f0 h1 hd.pol
theorem prim_of_wh {t : List Rat} {A : Nat} (h : WhL t A) : WhL (prim t) A := prim_bits (c := 1) xw (fun i => (Rat.one_mul _).symm) h
theorem monic_scaled (l : List Rat) : ∃ k : Rat, k ≠ 0 ∧ ∀ i, co (Pol.mk' l).monic.l i = k * co l i := by
 by_cases h : Pol.mk' l = 0
 ·refine ⟨1, by decide, fun i => ?_⟩
  have e : co l i = 0 := by rw [← Pol.mk_c, h, Pol.c_zero]
  have e2 : (Pol.mk' l).monic = 0 := by unfold Pol.monic; rw [h, Pol.mul_zero]
  show (Pol.mk' l).monic.c i = _
  rw [e2, Pol.c_zero, e]; grind
 ·have h1 := Pol.lead_ne h
  refine ⟨1 / (Pol.mk' l).lead, fun k => ?_, fun i => ?_⟩
  ·have : (1 : Rat) = 1 / (Pol.mk' l).lead * (Pol.mk' l).lead := by grind
   rw [k] at this; grind
  ·show (Pol.mk' l).monic.c i = _
   unfold Pol.monic
   rw [Pol.C_mul_c, Pol.mk_c]
theorem mk_trim (l : List Rat) : Pol.mk' (trimQ l) = Pol.mk' l := Pol.mk_eq.2 (trim_trim l)
def IsSqf (p s : Pol) : Prop := (p = 0 ∧ s = 0) ∨ (p ≠ 0 ∧ ∃ g q, Pol.IsGcd p p.D g ∧ g ≠ 0 ∧ p = q * g ∧ s = q.monic)
theorem IsSqf.unique {p s t : Pol} (h : IsSqf p s) (k : IsSqf p t) : s = t := by
 rcases h with ⟨h1, h2⟩ | ⟨h1, g, q, h2, h3, h4, h5⟩
 ·rcases k with ⟨k1, k2⟩ | ⟨k1, _⟩
  ·rw [h2, k2]
  ·exact absurd h1 k1
 ·rcases k with ⟨k1, k2⟩ | ⟨k1, g', q', k2, k3, k4, k5⟩
  ·exact absurd k1 h1
  ·have e := h2.unique k2
   subst e
   have e2 := Pol.mul_cancel h3 (h4.symm.trans k4)
   rw [h5, k5, e2]
def pot (la lb : Nat) : Nat := la + lb + (if lb < la then 0 else if la = lb then 1 else 2)
theorem three_pow {k : Nat} (h : 2 ≤ k) : (k + 1) * (k + 1) ≤ 3 ^ k := by
 induction k with
 | zero => omega
 | succ k ih =>
  by_cases e : k = 1
  ·subst e; decide
  ·have := ih xq
   rw [Nat.pow_succ]
   have h1 : (k + 1 + 1) * (k + 1 + 1) ≤ (k + 1) * (k + 1) * 3 := by
    have : (k + 1 + 1) * (k + 1 + 1) = (k + 1) * (k + 1) + 2 * (k + 1) + 1 := by grind
    have h2 : 2 * (k + 1) + 1 ≤ 2 * ((k + 1) * (k + 1)) := by
     have : (k + 1) * 2 ≤ (k + 1) * (k + 1) := Nat.mul_le_mul_left _ xq
     omega
    omega
   omega
theorem pot_step {la lb lr A H : Nat} (h : (A + 1) * (A + 1) * 3 ^ pot la lb ≤ H * H) (hr : lr < lb) (hr2 : lr ≤ la) :
  (A + (la - lb + 1) * (A + 1) + 1) * (A + (la - lb + 1) * (A + 1) + 1) * 3 ^ pot lb lr ≤ H * H := by
 have e : A + (la - lb + 1) * (A + 1) + 1 = (la - lb + 1 + 1) * (A + 1) := by rw [Nat.succ_mul (la - lb + 1)]; omega
 have hp : pot lb lr = lb + lr := by unfold pot; rw [if_pos hr]; rfl
 rw [e, hp]
 refine Nat.le_trans ?_ h
 have key : (la - lb + 1 + 1) * (la - lb + 1 + 1) * 3 ^ (lb + lr) ≤ 3 ^ pot la lb := by
  by_cases c : lb < la
  ·have h1 := three_pow (k := la - lb + 1) xq
   have h2 : 3 ^ (la - lb + 1) * 3 ^ (lb + lr) ≤ 3 ^ pot la lb := by
    rw [← Nat.pow_add]
    refine Nat.pow_le_pow_right xq ?_
    unfold pot; rw [if_pos c]; omega
   exact Nat.le_trans (Nat.mul_le_mul_right _ h1) h2
  ·have e1 : la - lb = 0 := by omega
   rw [e1]
   have h2 : 3 ^ 2 * 3 ^ (lb + lr) ≤ 3 ^ pot la lb := by
    rw [← Nat.pow_add]
    refine Nat.pow_le_pow_right xq ?_
    unfold pot; rw [if_neg c]; split <;> omega
   exact Nat.le_trans (Nat.mul_le_mul_right _ xw) h2
 calc (la - lb + 1 + 1) * (A + 1) * ((la - lb + 1 + 1) * (A + 1)) * 3 ^ (lb + lr)
   = (A + 1) * (A + 1) * ((la - lb + 1 + 1) * (la - lb + 1 + 1) * 3 ^ (lb + lr)) := by grind
  _ ≤ (A + 1) * (A + 1) * 3 ^ pot la lb := Nat.mul_le_mul_left _ key
theorem pot_le {la lb A H : Nat} (h : (A + 1) * (A + 1) * 3 ^ pot la lb ≤ H * H) : A + 1 ≤ H := by
 apply Classical.byContradiction
 intro k
 have h1 : 1 ≤ 3 ^ pot la lb := Nat.pow_pos xq
 have h2 : (A + 1) * (A + 1) * 1 ≤ (A + 1) * (A + 1) * 3 ^ pot la lb := Nat.mul_le_mul_left _ h1
 have h3 : (H + 1) * (H + 1) ≤ (A + 1) * (A + 1) := Nat.mul_le_mul xq xq
 have h4 : (H + 1) * (H + 1) = H * H + 2 * H + 1 := by grind
 omega
end Nt
end Go.Proofs.Ytdmpfhhhlhoeiaa
namespace Go.Proofs.Ytdmpfhhhlhoeiaa
open Go.RowKit Go.ChangeShapes Go.WideShapes
set_option linter.unusedVariables false
namespace Nt
def Sm (l : List Rat) (D A : Nat) : Prop := 0 < D ∧ ∀ i, Wh (co l i * ((D : Int) : Rat)) A
section
variable {l m : List Rat} {D E A B K : Nat} {q : Rat}
theorem dz (h : 0 < D) : ((D : Int) : Rat) ≠ 0 := fun e => by
 have := Rat.intCast_inj.1 (show ((D : Int) : Rat) = ((0 : Int) : Rat) from e); omega
theorem Sm.more (h : Sm l D A) (k : A ≤ B) : Sm l D B := ⟨h.1, fun i => (h.2 i).more k⟩
theorem Sm.co (h : Sm l D A) (e : ∀ i, co m i = co l i) : Sm m D A := ⟨h.1, fun i => by rw [e]; exact h.2 i⟩
theorem Sm.trim (h : Sm l D A) : Sm (trimQ l) D A := h.co (trim_co l)
theorem Sm.prim (h : Sm l D A) : WhL (prim l) A := by
 have h0 := dz h.1
 refine prim_bits (c := 1 / ((D : Int) : Rat)) (W := l.map (· * ((D : Int) : Rat))) (by grind) (fun i => ?_) (fun i => ?_)
 ·rw [co_map (fun x => x * ((D : Int) : Rat)) (Rat.zero_mul _)]; grind
 ·rw [co_map (fun x => x * ((D : Int) : Rat)) (Rat.zero_mul _)]; exact h.2 i
theorem dl_dg {n C : Nat} (h : n ≤ 2 ^ C) : dl n ≤ dg C := by
 refine dl_le ?_
 rw [pwTwo]
 exact Int.ofNat_lt.2 (Nat.lt_of_le_of_lt h (Nat.pow_lt_pow_right xq (by unfold dg; omega)))
theorem wh_rs {x : Rat} (h0 : 0 < D) (h : Wh (x * ((D : Int) : Rat)) A) (hD : D ≤ 2 ^ A) : rs x ≤ dg A := by
 obtain ⟨z, hz, hb⟩ := h
 have h1 := dz h0
 have e : x = mkRat z D := by rw [← mk_div, ← hz]; grind
 rw [e]
 exact rs_mk (dl_dg hb) (dl_dg hD) (by unfold dg; omega)
theorem Sm.rs (h : Sm l D A) (hD : D ≤ 2 ^ A) (i : Nat) : rs (Nt.co l i) ≤ dg A := wh_rs h.1 (h.2 i) hD
theorem WhL.mulQ (h : WhL l A) (k : WhL m B) : WhL (mulQ l m) (A + B + l.length) := by
 induction l with
 | nil => exact fun i => by rw [mulQ_nil]; exact Wh.zero _
 | cons a l ih =>
  intro i
  rw [zxe]
  have h0 : Wh a A := by have := h 0; rwa [co_zero] at this
  have h1 : WhL l A := fun i => by have := h (i + 1); rwa [zxv] at this
  have e : A + B + (a :: l).length = A + B + l.length + 1 := by simp; omega
  rw [e]
  refine ((h0.mul (k i)).more xq).add ?_
  unfold sh
  split
  ·exact Wh.zero _
  ·exact ih h1 _
theorem Sm.mul (h : Sm l D A) (k : Sm m E B) : Sm (mulQ l m) (D * E) (A + B + l.length) := by
 refine ⟨Nat.mul_pos h.1 k.1, fun i => ?_⟩
 have h1 : WhL (l.map (((D : Int) : Rat) * ·)) A := fun i => by rw [co_map (fun x => ((D : Int) : Rat) * x) (Rat.mul_zero _), Rat.mul_comm]; exact h.2 i
 have h2 : WhL (m.map (((E : Int) : Rat) * ·)) B := fun i => by rw [co_map (fun x => ((E : Int) : Rat) * x) (Rat.mul_zero _), Rat.mul_comm]; exact k.2 i
 have h3 := h1.mulQ h2 i
 rw [mulQ_scale_l, mulQ_scale_r, List.length_map] at h3
 rw [show Nt.co (mulQ l m) i * (((D * E : Nat) : Int) : Rat) = ((D : Int) : Rat) * (((E : Int) : Rat) * Nt.co (mulQ l m) i) by rw [show (((D * E : Nat) : Int) : Rat) = ((D : Int) : Rat) * ((E : Int) : Rat) by rw [← Rat.intCast_mul]; simp]; grind]
 exact h3
theorem Sm.mulR (h : Sm l D A) (k : Sm m E B) : Sm (mulQ l m) (D * E) (A + B + m.length) := by
 have h9 := (k.mul h).co (m := mulQ l m) (fun i => Pol.mulQ_comm l m i)
 rw [Nat.mul_comm D E, Nat.add_comm A B]
 exact h9
theorem Sm.add (h : Sm l D A) (k : Sm m D A) : Sm (addQ l m) D (A + 1) := ⟨h.1, fun i => by
 rw [addQ_co, show (Nt.co l i + Nt.co m i) * ((D : Int) : Rat) = Nt.co l i * ((D : Int) : Rat) + Nt.co m i * ((D : Int) : Rat) by grind]
 exact (h.2 i).add (k.2 i)⟩
theorem natMul {x : Rat} (D E : Nat) : x * (((D * E : Nat) : Int) : Rat) = x * ((D : Int) : Rat) * ((E : Int) : Rat) := by
 rw [show (((D * E : Nat) : Int) : Rat) = ((D : Int) : Rat) * ((E : Int) : Rat) by rw [← Rat.intCast_mul]; simp]; grind
theorem Sm.map (h : Sm l D A) (hE : 0 < E) (k : Wh (q * ((E : Int) : Rat)) B) : Sm (l.map (· * q)) (D * E) (A + B) := ⟨Nat.mul_pos h.1 hE, fun i => by
 rw [co_map (fun x => x * q) (Rat.zero_mul q), natMul, show Nt.co l i * q * ((D : Int) : Rat) * ((E : Int) : Rat) = (Nt.co l i * ((D : Int) : Rat)) * (q * ((E : Int) : Rat)) by grind]
 exact (h.2 i).mul k⟩
theorem whNat {n b : Nat} (h : n ≤ 2 ^ b) : Wh (((n : Nat) : Int) : Rat) b := ⟨(n : Int), rfl, by simpa using h⟩
theorem whInt {z : Int} {b : Nat} (h : z.natAbs ≤ 2 ^ b) : Wh (z : Rat) b := ⟨z, rfl, h⟩
theorem Sm.over {b : Nat} (h : Sm l D A) (hE : 0 < E) (hb : E ≤ 2 ^ b) : Sm l (D * E) (A + b) := ⟨Nat.mul_pos h.1 hE, fun i => by
 rw [natMul]; exact (h.2 i).mul (whNat hb)⟩
theorem Sm.ofInts {zs : List Int} (h : ∀ z ∈ zs, z.natAbs ≤ 2 ^ A) : Sm (List.map (fun z : Int => (z : Rat)) zs) 1 A := ⟨by omega, fun i => by
 rw [show ((((1 : Nat) : Int)) : Rat) = 1 from rfl, Rat.mul_one]
 unfold Nt.co
 rw [List.getD_eq_getElem?_getD, List.getElem?_map]
 cases e : zs[i]? with
 | none => exact Wh.zero _
 | some z => exact whInt (h z (List.mem_of_getElem? e))⟩
theorem Sm.nil (hD : 0 < D) : Sm [] D A := ⟨hD, fun i => by rw [co_nil, Rat.zero_mul]; exact Wh.zero _⟩
theorem Sm.ofAll (hD : 0 < D) (h : ∀ x ∈ l, Wh (x * ((D : Int) : Rat)) A) : Sm l D A := ⟨hD, fun i => by
 by_cases hi : i < l.length
 ·exact h _ (co_mem hi)
 ·rw [co_ge xq, Rat.zero_mul]; exact Wh.zero _⟩
theorem Sm.any : ∀ {l : List Rat}, (∀ x ∈ l, Nt.rs x ≤ K) → ∃ D, D ≤ 2 ^ (32 * K * l.length) ∧ Sm l D (32 * K * (l.length + 1))
 | [], _ => ⟨1, Nat.one_le_two_pow, Sm.nil xq⟩
 | a :: l, h => by
  obtain ⟨D, hD, hs⟩ := Sm.any (l := l) (fun x hx => h x (List.mem_cons_of_mem _ hx))
  have ha := h a (List.mem_cons_self ..)
  have hd : a.den ≤ 2 ^ (32 * K) := dl_bits (by unfold Nt.rs at ha; omega)
  have hn : a.num.natAbs ≤ 2 ^ (32 * K) := dl_bits (by unfold Nt.rs at ha; omega)
  refine ⟨a.den * D, ?_, Nat.mul_pos (den_pos a) hs.1, fun i => ?_⟩
  ·rw [List.length_cons, Nat.mul_add, Nat.mul_one, Nat.pow_add, Nat.mul_comm]
   exact Nat.mul_le_mul hD hd
  ·cases i with
   | zero =>
    rw [co_zero, natMul]
    have e : a * ((a.den : Int) : Rat) = (a.num : Rat) := by
     have h1 := dz (den_pos a)
     have h2 : mkRat a.num a.den = a := Rat.mkRat_self a
     rw [← mk_div] at h2
     grind
    rw [e]
    refine ((whInt hn).mul (whNat hD)).more ?_
    rw [List.length_cons, Nat.mul_add, Nat.mul_add]; omega
   | succ i =>
    rw [zxv, Nat.mul_comm, natMul]
    refine ((hs.2 i).mul (whNat hd)).more ?_
    rw [List.length_cons, Nat.mul_add, Nat.mul_add, Nat.mul_add]; omega
end
end Nt
section
variable {u : World} {x : Sl} {l : List Rat} {D A K : Nat}
theorem RatsN.fitS {L : List RL} (h : RatsN u L l K) (s : Nt.Sm l D A) (hD : D ≤ 2 ^ A) : RatsN u L l (Nt.dg A) := ⟨h.1, fun i hi => (h.2 i hi).fit (s.rs hD i)⟩
theorem PolN.fitS (h : PolN u x l K) (s : Nt.Sm l D A) (hD : D ≤ 2 ^ A) : PolN u x l (Nt.dg A) := by obtain ⟨L, h1, h2⟩ := h; exact ⟨L, h1, h2.fitS s hD⟩
theorem PolV.all (h : PolV u x l K) : ∀ q ∈ l, Nt.rs q ≤ K := by
 obtain ⟨L, h1, h2⟩ := h
 intro q hq
 obtain ⟨j, hj, e⟩ := List.getElem_of_mem hq
 have h9 := (h2.2 j hj).rs
 rw [List.getD_eq_getElem?_getD, List.getElem?_eq_getElem hj, Option.getD_some, e] at h9
 exact h9
end
section
variable {H : Type} {enc : TypeId × Value → H} {w : World} {base : Nat} {spare : Nat → Bool} {held : Bool} {fuel : Nat} {r0 : Reach} {b0 : Nat} {v : Value} {d : DataW H} {p : List MemPlace}
end
end Go.Proofs.Ytdmpfhhhlhoeiaa
namespace Go.Proofs.Ytdmpfhhhlhoeiaa
open Go.RowKit Go.ChangeShapes Go.WideShapes
set_option linter.unusedVariables false
section
variable {H : Type} {enc : TypeId × Value → H} {w : World} {base : Nat} {spare : Nat → Bool} {held : Bool} {r0 : Reach} {b0 : Nat} {v : Value} {d : DataW H} {p : List MemPlace}
set_option maxRecDepth 100000 in
theorem ar_ints2 (hv : Value.okWide Try.prog w r0 b0 24 v) (h : DataW.Trod enc Try.prog w base spare held 24 v d p) : ∃ (s t : Sl) (l m : List Int), v = .agg #[s.v, t.v] ∧ SlR .i64 w s.a s.n s.c l ∧ (∀ z ∈ l, -9223372036854775808 ≤ z ∧ z ≤ 9223372036854775807) ∧ SlR .i64 w t.a t.n t.c m ∧ (∀ z ∈ m, -9223372036854775808 ≤ z ∧ z ≤ 9223372036854775807) := by
 obtain ⟨cs, rfl, hsz⟩ := okWide_struct Try.underlying24 hv
 obtain ⟨fuel, hf⟩ := h
 obtain ⟨xs, n, _, _, hlen, hxs, hf⟩ := DataW.trod_struct Try.underlying24 hf
 have hlen : cs.toList.length = 2 := hlen.trans xv
 obtain ⟨c0, c1, hcs⟩ := two_of hlen
 obtain ⟨y0, y1, rfl⟩ := two_of (hxs.trans rfl)
 have hcs : cs.toList = [c0, c1] := hcs
 have e : Try.prog.cellsOf 22 = 1 := by kernel_rfl
 change ∀ _, _ at hf
 have h0 : DataW.trod enc Try.prog w base spare held n 22 [c0] = some y0 := by have h9 := hf 0 _ rfl; rw [show ((Value.agg cs).cells).toList = [c0, c1] from hcs] at h9; simpa [e] using h9
 have h1 : DataW.trod enc Try.prog w base spare held n 22 [c1] = some y1 := by have h9 := hf 1 _ rfl; rw [show ((Value.agg cs).cells).toList = [c0, c1] from hcs] at h9; simpa [e] using h9
 obtain ⟨s, l, hs, g, f⟩ := ar_slr (k := .i64) (e := 3) xv xv xv h0
 obtain ⟨t, m, ht, g', f'⟩ := ar_slr (k := .i64) (e := 3) xv xv xv h1
 have hs : c0 = s.v := (List.cons.inj hs).1
 have ht : c1 = t.v := (List.cons.inj ht).1
 subst hs ht
 have hcs2 : cs = #[s.v, t.v] := by cases cs; simpa using hcs
 exact ⟨s, t, l, m, by rw [hcs2], g, fun z hz => wf_i64 (f z hz), g', fun z hz => wf_i64 (f' z hz)⟩
end
end Go.Proofs.Ytdmpfhhhlhoeiaa
namespace Go.Proofs.Ytdmpfhhhlhoeiaa
open Go.RowKit
set_option linter.unusedVariables false
section
variable {P : Program} {u0 u u' w w' : World} {S : St} {B : Tmp → Nat} {a : Act} {c : Code} {w0 : Base}
variable {ops : Array Oper} {o : Oper} {p : List Tmp} {rest : List (Oper × List Tmp)} {K : St → World → Prop}
theorem sy_appL0 {seq : Bool} (d : Tmp) {T E : TypeId} {s x : Operand} {z : Value} {size bytes : Nat} {m c t2 : Nat} {ty2 : TypeId} (news : List Value) (hT : P.underlying T = some (.slice E)) (hi : (P.info? E).map (fun i => (i.zero, i.size, i.bytes)) = some (some z, size, bytes)) (hzs : z.cells.size = size) (hsz : 0 < size)
  (hl : news.length = m * size) (h1 : ∀ v ∈ news, v.oneCell' = true) (hm : 0 < m) (h63 : m ≤ maxLen) (hbytes : m * bytes ≤ 140737488355328)
  (k : ∀ c1 cs, m ≤ c1 → c1 ≤ maxLen → cs.length = c1 * size → cs.take (m * size) = news → sym P ops w0 u0 seq rest (S.own d ⟨E, cs⟩ m c1) u K)
  (hw : Wants ops o S := by exact zwg xv) (hd : o.dst = some d := by kernel_rfl) (hop : o.op = .call { callee := .builtin .append, args := #[s, x], argTypes := #[T, T] } := by rfl) (hf : (freeB S d && (S.var d).isNone) = true := by kernel_rfl)
  (hs : evO S s = some (.v (.slice none 0 0)) := by rfl) (hx : evO S x = some (.slc t2 0 m c) := by rfl) (hv2 : S.var t2 = some ⟨ty2, news⟩ := by rfl) : sym P ops w0 u0 seq ((o, p) :: rest) S u K := by
 simp only [Bool.and_eq_true, Option.isNone_iff_eq_none] at hf
 refine .inr (.inr (.inl ⟨.inr ⟨by rw [hop]; rfl, by rw [hop]; rfl⟩, fun B a w u' he hrep => ⟨hw B a hrep.regs, ?_⟩⟩))
 obtain ⟨q1, q2, q3⟩ := hrep.var t2 _ hv2
 obtain ⟨g, c1, cs, w', hrun, hgv, k1, k2, k3, k4, k5, k6⟩ := run_app (P := P) (u0 := u0) (w := w) (v := .slice none 0 0) (n := 0) (xs := []) (ad := ⟨B t2, 0, none⟩) (c := c) hT hi hzs hsz ⟨by simp, .inl ⟨rfl, rfl⟩⟩ hl (fun j v hv => by rw [addr_add, Nat.zero_add, cells_at q1]; simpa using hv) h1 hm xq (by simpa using hbytes) (by rw [← hrep.dat.size]; exact hrep.grow.size) o.type
 rw [Nat.zero_add] at hrun k1 k4
 unfold Oper.wp execOp
 simp only [hop, resolve, invoke, builtin, Sem.run_bind, Sem.run_pure, Result.andThen_ok, List.map_toArray, List.map_cons, List.map_nil, ev_of hrep.regs hs, ev_of hrep.regs hx, SV.conc, hrun]
 have hr2 := hrep.grown (pubs := []) (fun r x t _ _ h => by cases h) (row := none) (fun b h => by cases h) k5 (d := d) (V := ⟨E, cs.toList⟩) (g := g) (n := m) (c := c1) (zxy hd hf.1 d hd).1 (.inl hf.2) (by simpa using hgv) (k6.imp (fun h => by cases h) id)
 rw [unpub_nil] at hr2
 have hsz2 : u'.heap.size ≤ w'.heap.size := by rw [hrep.dat.size]; exact k5.size
 show ∃ S' B' u'' u2, Rep w0 u0 S' B' (a.put o.dst _) w' u'' ∧ _
 rw [hd]
 exact ⟨_, _, _, u, hr2, fun _ => (hide_grow hsz2).ext, fun _ => Ext.refl _, he.trans (hide_grow hsz2).ext, k c1 cs.toList k1 k2 k3 (by simpa using k4)⟩
theorem sy_appL1 {seq : Bool} (d : Tmp) {T E : TypeId} {s x : Operand} {z : Value} {size bytes : Nat} {m c t n cap t2 : Nat} {ty2 : TypeId} {cs0 : List Value} (pubs : List Tmp) (news : List Value) (hT : P.underlying T = some (.slice E)) (hi : (P.info? E).map (fun i => (i.zero, i.size, i.bytes)) = some (some z, size, bytes)) (hzs : z.cells.size = size) (hsz : 0 < size)
  (hl : news.length = m * size) (h1 : ∀ v ∈ news, v.oneCell' = true) (hm : 0 < m) (h63 : n + m ≤ maxLen) (hbytes : (n + m) * bytes ≤ 140737488355328)
  (hn : n ≤ cap) (hcap : cap ≤ maxLen) (hcl : cs0.length = cap * size) (hno : NoAt S pubs)
  (k : ∀ c1 cs, n + m ≤ c1 → c1 ≤ maxLen → cs.length = c1 * size → cs.take ((n + m) * size) = cs0.take (n * size) ++ news → sym P ops w0 u0 seq rest ((S.unpub pubs).own d ⟨E, cs⟩ (n + m) c1) u K)
  (hw : Wants ops o S := by exact zwg xv) (hd : o.dst = some d := by kernel_rfl) (hop : o.op = .call { callee := .builtin .append, args := #[s, x], argTypes := #[T, T] } := by rfl) (hf : (Nat.blt d S.n && ((S.var d).isNone || pubs.contains d) && pubs.contains t && Nat.blt t S.n) = true := by kernel_rfl)
  (hs : evO S s = some (.slc t 0 n cap) := by rfl) (hv : S.var t = some ⟨E, cs0⟩ := by rfl) (hx : evO S x = some (.slc t2 0 m c) := by rfl) (hv2 : S.var t2 = some ⟨ty2, news⟩ := by rfl) : sym P ops w0 u0 seq ((o, p) :: rest) S u K := by
 simp only [Bool.and_eq_true, Bool.or_eq_true, Option.isNone_iff_eq_none, List.contains_iff_mem] at hf
 refine .inr (.inr (.inl ⟨.inr ⟨by rw [hop]; rfl, by rw [hop]; rfl⟩, fun B a w u' he hrep => ⟨hw B a hrep.regs, ?_⟩⟩))
 have htn : t < S.n := Nat.le_of_ble_eq_true hf.2
 obtain ⟨v1, v2, v3⟩ := hrep.var t _ hv
 obtain ⟨q1, q2, q3⟩ := hrep.var t2 _ hv2
 have v3 := v3.1 htn
 obtain ⟨g, c1, cs, w', hrun, hgv, k1, k2, k3, k4, k5, k6⟩ := run_app (P := P) (u0 := u0) (w := w) (v := .slice (some ⟨B t, 0, none⟩) n cap) (n := n) (xs := cs0.take (n * size)) (ad := ⟨B t2, 0, none⟩) (c := c) hT hi hzs hsz
  ⟨by rw [List.length_take, hcl]; exact Nat.min_eq_left (Nat.mul_le_mul_right _ hn), .inr ⟨B t, cap, cs0.toArray, rfl, v3, v1, hn, hcap, by simpa using hcl, by simp⟩⟩ hl (fun j v hv => by rw [addr_add, Nat.zero_add, cells_at q1]; simpa using hv) h1 hm h63 hbytes (by rw [← hrep.dat.size]; exact hrep.grow.size) o.type
 unfold Oper.wp execOp
 simp only [hop, resolve, invoke, builtin, Sem.run_bind, Sem.run_pure, Result.andThen_ok, List.map_toArray, List.map_cons, List.map_nil, ev_of hrep.regs hs, ev_of hrep.regs hx, SV.conc, hrun]
 have hr2 := hrep.grown hno (row := some (B t)) (fun b h => by injection h with h; exact ⟨t, hf.1.2, htn, _, hv, h⟩) k5 (d := d) (V := ⟨E, cs.toList⟩) (g := g) (n := n + m) (c := c1) (Nat.le_of_ble_eq_true hf.1.1.1) hf.1.1.2 (by simpa using hgv) k6
 have hsz2 : u'.heap.size ≤ w'.heap.size := by rw [hrep.dat.size]; exact k5.size
 show ∃ S' B' u'' u2, Rep w0 u0 S' B' (a.put o.dst _) w' u'' ∧ _
 rw [hd]
 exact ⟨_, _, _, u, hr2, fun _ => (hide_grow hsz2).ext, fun _ => Ext.refl _, he.trans (hide_grow hsz2).ext, k c1 cs.toList k1 k2 k3 k4⟩
theorem sy_max0 (d : Tmp) {x : Operand} {k0 : IntKind} {n v : Int} {tys : Array TypeId} (hv : (if (0 : Int) > n then 0 else n) = v)
  (k : sym P ops w0 u0 true rest (S.set d (.v (.int k0 v))) u K)
  (hw : Wants ops o S := by exact zwg xv) (hd : o.dst = some d := by kernel_rfl) (hop : o.op = .call { callee := .builtin .max, args := #[x, .const (.int k0 0)], argTypes := tys } := by rfl) (hf : freeB S d = true := by kernel_rfl)
  (hx : evO S x = some (.v (.int k0 n)) := by rfl) : sym P ops w0 u0 true ((o, p) :: rest) S u K := by
 refine .inr (.inr (.inl ⟨.inl rfl, fun B a w u' he hrep => ⟨hw B a hrep.regs, ?_⟩⟩))
 have hrun : ∀ ty w, (Builtin.max_ tys ty #[.int k0 n, .int k0 0]).run P w = .ok (.int k0 v) w := by
  intro ty w
  rw [← hv]
  rfl
 have hc0 : a.eval (Operand.const (.int k0 0)) = .int k0 0 := rfl
 unfold Oper.wp execOp
 simp only [hop, resolve, invoke, builtin, Sem.run_bind, Sem.run_pure, Result.andThen_ok, List.map_toArray, List.map_cons, List.map_nil, ev_of hrep.regs hx, SV.conc, hc0, hrun]
 have hr2 := hrep.set (d := o.dst) (x := some (.v (.int k0 v))) (v := .int k0 v) (fun s hs => (zxy hd hf s hs).1) (fun z e => by injection e with e; rw [← e]; rfl) (fun z t e ht => by injection e with e; rw [← e] at ht; cases ht)
 show ∃ S' B' u'' u2, Rep w0 u0 S' B' (a.put o.dst _) w u'' ∧ _
 refine ⟨_, B, u', u, hr2, fun _ => Ext.refl _, fun _ => Ext.refl _, he, ?_⟩
 rw [hd]; exact k
end
section
variable {u u' : World} {L : List RL} {l : List Rat} {q : Rat} {r : RL} {K i b n c : Nat} {x : Sl}
theorem RatsV.set (h : RatsV u L l K) (hi : i < l.length) (hr : RatV u r q K) : RatsV u (L.set i r) (l.set i q) K := by
 refine ⟨by simpa using h.1, fun j hj => ?_⟩
 rw [List.length_set] at hj
 rw [List.getD_eq_getElem?_getD, List.getD_eq_getElem?_getD, List.getElem?_set, List.getElem?_set]
 by_cases e : i = j
 ·subst e
  rw [if_pos rfl, if_pos rfl, if_pos hi, if_pos (by rw [h.1]; exact hi)]
  exact hr
 ·rw [if_neg e, if_neg e, ← List.getD_eq_getElem?_getD, ← List.getD_eq_getElem?_getD]
  exact h.2 j hj
theorem RatsV.zeros (u : World) (n : Nat) : RatsV u (List.replicate n rl0) (List.replicate n 0) 1 := by
 refine ⟨by simp, fun i hi => ?_⟩
 rw [List.length_replicate] at hi
 rw [List.getD_eq_getElem?_getD, List.getD_eq_getElem?_getD, List.getElem?_replicate, List.getElem?_replicate, if_pos hi, if_pos hi]
 exact rat_nil _
theorem RatsN.fitR {M : Nat} (h : RatsN u L l K) (k : ∀ i, Nt.rs (l.getD i 0) ≤ M) : RatsN u L l M := ⟨h.1, fun i hi => (h.2 i hi).fit (k i)⟩
theorem PolN.fitR {M : Nat} (h : PolN u x l K) (k : ∀ i, Nt.rs (l.getD i 0) ≤ M) : PolN u x l M := by obtain ⟨L, h1, h2⟩ := h; exact ⟨L, h1, h2.fitR k⟩
end
section
variable {P : Program} {ops : Array Oper} {w0 : Base} {u0 : World} {S T : St} {B : Tmp → Nat} {a : Act} {w w' u u' : World} {o : Oper} {p : List Tmp} {seq : Bool} {rest : List (Oper × List Tmp)} {K : St → World → Prop}
theorem Rep.pubA (h : Rep w0 u0 S B a w u) {r t : Tmp} {V : Vr} {pubs : List Tmp} (hno : NoAt S pubs) (ht : t ∈ pubs) (hall : ∀ s ∈ pubs, ∀ V', S.var s = some V' → s = t) (hr : S.reg r = some (.adr t 0)) (hv : S.var t = some V) (htn : t < S.n) :
  Rep w0 u0 ((S.unpub pubs).set r (.v (.pointer (some ⟨B t, 0, none⟩)))) B a w (pubW u w [B t]) := by
 refine ⟨⟨fun s x hx => ?_, h.regs.size⟩, ⟨fun s x t' hx ht' => ?_⟩, h.defers, fun s V' hV => ?_, fun s s' V1 V2 h1 h2 e => ?_, pubW_dat h.dat, h.base, pubW_grow h.grow (fun b hb => ?_), h.bel⟩
 ·by_cases e : s = r
  ·subst e
   simp only [St.set, zxc] at hx
   injection hx with hx
   subst hx
   exact h.regs.reg s (.adr t 0) hr
  ·simp only [St.set, upd_ne _ _ e] at hx
   exact h.regs.reg s x (zwf hx).1
 ·by_cases e : s = r
  ·subst e
   simp only [St.set, zxc] at hx
   injection hx with hx
   subst hx; cases ht'
  ·simp only [St.set, upd_ne _ _ e] at hx
   obtain ⟨k1, k2⟩ := zwf hx
   obtain ⟨V', hV'⟩ := h.wf.reg s x t' k1 ht'
   exact ⟨V', by show (S.unpub pubs).var t' = _; rw [unpub_var (fun hm => k2 (hno s x t' k1 ht' hm))]; exact hV'⟩
 ·obtain ⟨k1, k2⟩ := zxn hV
  obtain ⟨g1, g2, g3⟩ := h.var s V' k1
  refine ⟨g1, ?_, g3⟩
  rw [pubW_out]
  ·exact g2
  ·intro hm
   simp at hm
   exact k2 (h.inj s t V' V k1 hv hm ▸ ht)
 ·exact h.inj s s' V1 V2 (zxn h1).1 (zxn h2).1 e
 ·simp at hb; subst hb; exact (h.var t V hv).2.2.1 htn
theorem sw_pubA {c0 : Code} {Q : MP} {r t : Tmp} {V : Vr} (pubs : List Tmp) (hno : NoAt S pubs) (hall : (pubs.all fun s => Nat.beq s t || (S.var s).isNone) = true) (hr : S.reg r = some (.adr t 0)) (hv : S.var t = some V) (ht : pubs.contains t = true)
  (k : ∀ b u1, Ext u u1 → u0.heap.size ≤ b → (∀ ob, u.heap[b]? = some ob → ob = hidO) → u1.heap[b]? = some (.cells V.cs.toArray V.ty (0, 0)) → SW P w0 u0 c0 ((S.unpub pubs).set r (.v (.pointer (some ⟨b, 0, none⟩)))) u1 Q) (hlt : Nat.blt t S.n = true := by kernel_rfl) : SW P w0 u0 c0 S u Q := by
 intro B a w u' e hrep
 have hm := List.contains_iff_mem.1 ht
 obtain ⟨g1, g2, g3⟩ := hrep.var t V hv
 have hx : Ext u' (pubW u' w [B t]) := pubW_ext hrep.dat
 have hrep2 := hrep.pubA hno hm (fun s hs V' hV' => by
  have := List.all_eq_true.1 hall s hs
  simp only [Bool.or_eq_true, Option.isNone_iff_eq_none] at this
  rcases this with h | h
  ·exact Nat.eq_of_beq_eq_true h
  ·rw [hV'] at h; cases h) hr hv (Nat.le_of_ble_eq_true hlt)
 refine k (B t) (pubW u' w [B t]) (e.trans hx) (g3.1 (Nat.le_of_ble_eq_true hlt)) (fun ob hob => ?_) (by rw [pubW_in zq (zxa g2) hrep.dat.size]; exact g1) B a w _ (Ext.refl _) hrep2
 by_cases hh : ob = hidO
 ·exact hh
 ·have := e.vis _ ob hob hh
  rw [g2] at this; injection this with this; exact this.symm
theorem ExtB.old2 {b : Nat} {v : World} (h : ExtB b u u') (e : Ext v u) (hb : ∀ ob, v.heap[b]? = some ob → ob = hidO) : Ext v u' :=
 ⟨Nat.le_trans e.size h.size, fun k o hk hh => h.vis k o (fun e' => hh (hb o (e' ▸ hk))) (e.vis k o hk hh) hh⟩
theorem sy_fun (d : Tmp) {f : FuncId} {cs : List Operand} (vs : List Value) (k : sym P ops w0 u0 true rest (S.set d (.v (.func (.func f) #[] vs.toArray))) u K) (hw : Wants ops o S := by exact zwg xv) (hd : o.dst = some d := by kernel_rfl) (hop : o.op = .makeFunc (.func f) #[] cs.toArray := by rfl) (hf : freeB S d = true := by kernel_rfl)
  (hev : cs.map (evO S) = vs.map (fun v => some (.v v)) := by rfl) : sym P ops w0 u0 true ((o, p) :: rest) S u K := by
 refine .inr (.inr (.inl ⟨.inl rfl, fun B a w u' he hrep => ⟨hw B a hrep.regs, ?_⟩⟩))
 have hcs : cs.map a.eval = vs := by
  clear hop k
  induction cs generalizing vs with
  | nil => cases vs with
   | nil => rfl
   | cons v vs => cases hev
  | cons c cs ih => cases vs with
   | nil => cases hev
   | cons v vs =>
    simp only [List.map_cons, List.cons.injEq] at hev ⊢
    refine ⟨?_, ih vs hev.2⟩
    rw [ev_of hrep.regs hev.1]; rfl
 have hrun : (execOp a.eval o).run P w = .ok (.value (.func (.func f) #[] vs.toArray)) w := by
  unfold execOp
  simp only [hop]
  simp [Instr.makeFunc, Sem.run_pure, ← hcs]
 unfold Oper.wp
 rw [hrun]
 have hr2 := hrep.set (d := o.dst) (x := some (.v (.func (.func f) #[] vs.toArray))) (v := .func (.func f) #[] vs.toArray) (fun s hs => (zxy hd hf s hs).1) (fun z e => by injection e with e; rw [← e]; rfl) (fun z t e ht => by injection e with e; rw [← e] at ht; cases ht)
 show ∃ S' B' u'' u2, Rep w0 u0 S' B' (a.put o.dst _) w u'' ∧ _
 refine ⟨_, B, u', u, hr2, fun _ => Ext.refl _, fun _ => Ext.refl _, he, ?_⟩
 rw [hd]; exact k
def SL (P : Program) (w0 : Base) (u0 : World) (ops : Array Oper) (l : List Oper) (S : St) (u : World) (Q : MP) : Prop :=
 ∀ B a w u', Ext u u' → Rep w0 u0 S B a w u' → wpList P ops (fun e a' w' => ∃ S' B' u'', Rep w0 u0 S' B' a' w' u'' ∧ Q.f e S' u'') l a w
theorem SL.mono {l : List Oper} {Q : MP} : Mono (fun S u => SL P w0 u0 ops l S u Q) := fun S u u' e h B a w u'' e' hr => h B a w u'' (e.trans e') hr
theorem sl_key {Q : Exit → Act → World → Prop} (hK : Mono K) (l2 : List Oper) (hQ : ∀ S u, K S u → ∀ B a w, Rep w0 u0 S B a w u → wpList P ops Q l2 a w) :
  ∀ (l : List Oper) (S : St) (B : Tmp → Nat) (a : Act) (w u : World), Rep w0 u0 S B a w u → sym P ops w0 u0 true (l.map fun o => (o, [])) S u K → wpList P ops Q (l ++ l2) a w := by
 intro l
 induction l with
 | nil => intro S B a w u hr h; exact hQ S u h B a w hr
 | cons o l ih =>
  intro S B a w u hr h
  have hs := one_sound (Q := Q) (zwd hK) h (Ext.refl _) hr
  refine wpList_step fun K' hK' => ?_
  have hfin : ∀ a' w', (∃ S' B' u'', Rep w0 u0 S' B' a' w' u'' ∧ (true = false → Ext u u'') ∧ sym P ops w0 u0 true (l.map fun o => (o, [])) S' u'' K) → K' a' w' := by
   rintro a' w' ⟨S', B', u'', g1, _, g3⟩
   exact hK' _ _ (ih S' B' a' w' u'' g1 g3)
  show if Region.wanted o (yielded ops a.tmps) = true then _ else _
  split
  ·rename_i hw
   rw [if_pos hw] at hs
   exact Oper.wp_mono hfin hs
  ·rename_i hw
   rw [if_neg hw] at hs
   exact hfin _ _ hs
theorem sw_cut {id : Nat} {Q : MP} (n : Nat) (h : sym P ops w0 u0 true ((ops.toList.take n).map fun o => (o, [])) S u (fun S' u' => SL P w0 u0 ops (ops.toList.drop n) S' u' Q)) : SW P w0 u0 (.region id ops false) S u Q := by
 intro B a w u' e hr
 refine wp_region_list ?_
 have := sl_key (Q := fun e a' w' => ∃ S' B' u'', Rep w0 u0 S' B' a' w' u'' ∧ Q.f e S' u'') (SL.mono (l := ops.toList.drop n) (Q := Q)) (ops.toList.drop n) (fun S u h B a w hr => h B a w u (Ext.refl _) hr) (ops.toList.take n) S B a w u' hr (zwd SL.mono _ _ _ e h)
 rw [List.take_append_drop] at this
 exact this
theorem sl_sym {l : List Oper} {Q : MP} (h : sym P ops w0 u0 true (l.map fun o => (o, [])) S u (Q.f .normal)) : SL P w0 u0 ops l S u Q := by
 intro B a w u' e hr
 have := sl_key (P := P) (ops := ops) (Q := fun e a' w' => ∃ S' B' u'', Rep w0 u0 S' B' a' w' u'' ∧ Q.f e S' u'') (K := Q.f .normal) (Q.mono _) [] (fun S u h B a w hr => by exact ⟨S, B, u, hr, h⟩) l S B a w u' hr (zwd (Q.mono _) _ _ _ e h)
 rw [List.append_nil] at this
 exact this
theorem Rep.adoptA (hrep : Rep w0 u0 S B a w u') {r k : Tmp} {b : Nat} {cs : List Value} {ty : TypeId} (hr : S.reg r = some (.v (.pointer (some ⟨b, 0, none⟩)))) (hbu : u'.heap[b]? = some (.cells cs.toArray ty (0, 0))) (hb0 : u0.heap.size ≤ b) (hk : S.var k = none) (hkn : k < S.n) :
  Rep w0 u0 ⟨S.n, upd S.reg r (some (.adr k 0)), upd S.var k (some ⟨ty, cs⟩)⟩ (setB B k b) a w (hideB u' b) := by
 have hbw : w.heap[b]? = some (.cells cs.toArray ty (0, 0)) := hrep.dat.ext.cells hbu
 have hlt := zxa hbu
 have hno : ∀ s x, S.reg s = some x → x.at? ≠ some k := fun s x hx hc => by
  obtain ⟨V, hV⟩ := hrep.wf.reg s x k hx hc; rw [hk] at hV; cases hV
 have hBt : ∀ t V, S.var t = some V → B t ≠ b := fun t V hV hc => by
  have := (hrep.var t V hV).2.1
  rw [hc, hbu] at this
  injection this with this
  unfold hidO at this; cases this
 refine ⟨⟨fun s x hx => ?_, hrep.regs.size⟩, ⟨fun s x t hx ht => ?_⟩, hrep.defers, fun t V hV => ?_, fun t t' V1 V2 h1 h2 he => ?_, ⟨by rw [hideB_size]; exact hrep.dat.size, fun b' o hb' hh => ?_⟩, hrep.base, ⟨by rw [hideB_size]; exact hrep.grow.size, fun b' hb' hf' => ?_⟩, hrep.bel⟩
 ·by_cases e1 : s = r
  ·subst e1
   simp only [zxc] at hx
   injection hx with hx
   subst hx
   have := hrep.regs.reg s _ hr
   simpa [SV.conc, setB] using this
  ·simp only [upd_ne _ _ e1] at hx
   rw [conc_setB (hno s x hx)]
   exact hrep.regs.reg s x hx
 ·show ∃ V, upd S.var k (some ⟨ty, cs⟩) t = some V
  by_cases e2 : t = k
  ·subst e2; exact ⟨_, zxc _ _ _⟩
  ·rw [upd_ne _ _ e2]
   by_cases e1 : s = r
   ·subst e1
    simp only [zxc] at hx
    injection hx with hx
    subst hx
    injection ht with ht; exact absurd ht.symm e2
   ·simp only [upd_ne _ _ e1] at hx
    exact hrep.wf.reg s x t hx ht
 ·by_cases e2 : t = k
  ·subst e2
   simp only [zxc] at hV
   injection hV with hV
   subst hV
   rw [show setB B t b t = b by simp [setB]]
   exact ⟨hbw, hideB_eq hlt, .mk0 hkn hb0⟩
  ·simp only [upd_ne _ _ e2] at hV
   obtain ⟨g1, g2, g3⟩ := hrep.var t V hV
   rw [show setB B k b t = B t by simp [setB, e2]]
   exact ⟨g1, by rw [hideB_ne (hBt t V hV)]; exact g2, g3⟩
 ·by_cases e1 : t = k
  ·by_cases e2 : t' = k
   ·rw [e1, e2]
   ·simp only [upd_ne _ _ e2] at h2
    simp [setB, e1, e2] at he
    exact absurd he.symm (hBt t' V2 h2)
  ·simp only [upd_ne _ _ e1] at h1
   by_cases e2 : t' = k
   ·simp [setB, e1, e2] at he
    exact absurd he (hBt t V1 h1)
   ·simp only [upd_ne _ _ e2] at h2
    simp [setB, e1, e2] at he
    exact hrep.inj t t' V1 V2 h1 h2 he
 ·by_cases e1 : b' = b
  ·subst e1
   rw [hideB_eq hlt] at hb'; injection hb' with hb'; exact absurd hb'.symm hh
  ·rw [hideB_ne e1] at hb'; exact hrep.dat.vis b' o hb' hh
 ·rw [hideB_ne xq]; exact hrep.grow.old b' hb' hf'
theorem sl_adoptA {l : List Oper} {Q : MP} {r k : Tmp} {b : Nat} {cs : List Value} {ty : TypeId} (hr : S.reg r = some (.v (.pointer (some ⟨b, 0, none⟩)))) (hb : u.heap[b]? = some (.cells cs.toArray ty (0, 0))) (hb0 : u0.heap.size ≤ b) (hk : S.var k = none)
  (kk : ∀ u1, ExtB b u u1 → SL P w0 u0 ops l ⟨S.n, upd S.reg r (some (.adr k 0)), upd S.var k (some ⟨ty, cs⟩)⟩ u1 Q) (hkn : Nat.blt k S.n = true := by kernel_rfl) : SL P w0 u0 ops l S u Q := by
 intro B a w u' e hrep
 have hex : ExtB b u (hideB u' b) := ⟨by rw [hideB_size]; exact e.size, fun k' o hk' ho hh => by rw [hideB_ne hk']; exact e.vis k' o ho hh⟩
 exact kk (hideB u' b) hex (setB B k b) a w _ (Ext.refl _) (hrep.adoptA hr (e.cells hb) hb0 hk (Nat.le_of_ble_eq_true hkn))
end
theorem sy_maxN {P : Program} {ops : Array Oper} {w0 : Base} {u0 : World} {S : St} {u : World} {seq : Bool} {o : Oper} {p : List Tmp} {rest : List (Oper × List Tmp)} {K : St → World → Prop} (d : Tmp) {x y : Operand} {k0 : IntKind} {n m v : Int} {tys : Array TypeId} (hv : (if m > n then m else n) = v)
  (k : sym P ops w0 u0 seq rest (S.set d (.v (.int k0 v))) u K)
  (hw : Wants ops o S := by exact zwg xv) (hd : o.dst = some d := by kernel_rfl) (hop : o.op = .call { callee := .builtin .max, args := #[x, y], argTypes := tys } := by rfl) (hf : freeB S d = true := by kernel_rfl)
  (hx : evO S x = some (.v (.int k0 n)) := by rfl) (hy : evO S y = some (.v (.int k0 m)) := by rfl) : sym P ops w0 u0 seq ((o, p) :: rest) S u K := by
 have hrun : ∀ ty w, (Builtin.max_ tys ty #[.int k0 n, .int k0 m]).run P w = .ok (.int k0 v) w := by
  intro ty w
  rw [← hv]
  rfl
 refine .inl ⟨by rw [hop]; exact (by decide : (0 : Nat) ≠ 2), .set (.v (.int k0 v)), ⟨zxy hd hf, .inl ⟨(fun t ht => by cases ht), fun B a w u' hr he hdt => ⟨hw B a hr, ?_⟩⟩⟩, ?_⟩
 ·unfold execOp
  simp only [hop, resolve, invoke, builtin, Sem.run_bind, Sem.run_pure, Result.andThen_ok, List.map_toArray, List.map_cons, List.map_nil, ev_of hr hx, ev_of hr hy, SV.conc, hrun]
 ·show sym P ops w0 u0 seq rest (S.put o.dst (some _)) u K
  rw [hd]; exact k
section
variable {u u' u1 : World} {L : List RL} {r : RL} {l : List Rat} {q : Rat} {K n b b6 : Nat} {cs : List Value} {t t6 : TypeId}
theorem rl_set_same {i : Nat} (h : i < L.length) : (L.set i r).getD i rl0 = r := by
 rw [List.getD_eq_getElem?_getD, List.getElem?_set_self h]; rfl
theorem var_cells (h : u.heap[b]? = some (.cells cs.toArray t (0, 0))) : ∀ i, i < cs.length → u.cell? ⟨b, 0 + i, none⟩ = cs[i]? := fun i _ => by rw [Nat.zero_add, cells_at h]; simp
theorem var_cell1 {v : Value} (h : u.heap[b]? = some (.cells [v].toArray t (0, 0))) : u.cell? ⟨b, 0, none⟩ = some v := by rw [cells_at h]; rfl
theorem SlR.extB0 {A : Option Addr} {m c : Nat} {z : List Int} (h : SlR .u32 u A m c z) (hb : u.heap[b]? = some (.cells cs.toArray t (0, 0))) (hn : ∀ v ∈ cs, ∀ y, v ≠ .int .u32 y) (e : ExtB b u u') : SlR .u32 u' A m c z := by
 obtain ⟨h1, h2, h3, h4⟩ := h
 refine ⟨h1, h2, h3, fun hp => ?_⟩
 obtain ⟨b', o, rfl, hlt, hc⟩ := h4 hp
 have hne : b' ≠ b := by
  rintro rfl
  have := hc 0 hp
  rw [cells_at hb] at this
  have h9 : cs[o + 0]? = some (.int .u32 (z[0]?.getD 0)) := by simpa using this
  exact hn _ (List.mem_of_getElem? h9) _ rfl
 refine ⟨b', o, rfl, Nat.lt_of_lt_of_le hlt e.size, fun i hi => ?_⟩
 have := hc i hi
 unfold World.cell? at this ⊢
 cases hb' : u.heap[b']? with
 | none => simp only [hb'] at this; cases this
 | some ob =>
  simp only [hb'] at this
  cases ob with
  | cells cs t' fr => rw [e.vis b' _ hne hb' (by unfold hidO; exact fun e => by cases e)]; exact this
  | _ => cases this
theorem RatN.extB0 (h : RatN u r q K) (hb : u.heap[b]? = some (.cells cs.toArray t (0, 0))) (hn : ∀ v ∈ cs, ∀ y, v ≠ .int .u32 y) (e : ExtB b u u') : RatN u' r q K :=
 ⟨⟨h.1.1, h.1.2.1, h.1.2.2.1.extB0 hb hn e, h.1.2.2.2⟩, h.2.1, h.2.2.1.extB0 hb hn e, h.2.2.2⟩
theorem newR_adopt (hb : u.heap.size ≤ b) (hh : u'.heap[b]? = some (.cells (rcs L).toArray t (0, 0))) (hL : L.length = n) (hR : RatsN u' L l K) (hm : n ≤ maxLen) (h6 : u.heap[b6]? = some (.cells cs.toArray t6 (0, 0))) (h6' : u'.heap[b6]? = some (.cells cs.toArray t6 (0, 0))) (hn : ∀ v ∈ cs, ∀ y, v ≠ .int .u32 y) (e : ExtB b6 u' u1) : PolN u1 ⟨some ⟨b, 0, none⟩, n, n⟩ l K := by
 have hlt := zxa h6
 exact pol_data1 (e.vis b _ xq hh (by unfold hidO; exact fun e => by cases e)) xq ⟨hR.1, fun i hi => (hR.2 i hi).extB0 h6' hn e⟩ hL.symm
end
structure ExtF (F : List Nat) (u u' : World) : Prop where
 size : u.heap.size ≤ u'.heap.size
 vis : ∀ (k : Nat) (o : Obj), k ∉ F → u.heap[k]? = some o → o ≠ hidO → u'.heap[k]? = some o
section
variable {P : Program} {ops : Array Oper} {w0 : Base} {u0 : World} {S T : St} {B : Tmp → Nat} {a : Act} {w w' u u' u'' v : World} {o : Oper} {p : List Tmp} {seq : Bool} {rest : List (Oper × List Tmp)} {K : St → World → Prop} {F : List Nat} {b : Nat} {ob : Obj}
theorem ExtF.ext {u2 : World} (h : ExtF F u u') (e : Ext u' u2) : ExtF F u u2 := ⟨Nat.le_trans h.size e.size, fun k o hk ho hh => e.vis k o (h.vis k o hk ho hh) hh⟩
theorem ExtF.pre {u2 : World} (e : Ext u u') (h : ExtF F u' u2) : ExtF F u u2 := ⟨Nat.le_trans e.size h.size, fun k o hk ho hh => h.vis k o hk (e.vis k o ho hh) hh⟩
theorem ExtF.old (h : ExtF F u u') (e : Ext v u) (hb : ∀ b ∈ F, ∀ ob, v.heap[b]? = some ob → ob = hidO) : Ext v u' :=
 ⟨Nat.le_trans e.size h.size, fun k o hk hh => h.vis k o (fun e' => hh (hb k e' o hk)) (e.vis k o hk hh) hh⟩
theorem ExtF.cells {t : TypeId} {cs : Array Value} {k : Nat} (h : ExtF F u u') (hk : k ∉ F) (hb : u.heap[k]? = some (.cells cs t (0, 0))) : u'.heap[k]? = some (.cells cs t (0, 0)) := h.vis k _ hk hb (by unfold hidO; intro e; cases e)
theorem ExtB.cells {t : TypeId} {cs : Array Value} {k : Nat} (h : ExtB b u u') (hk : k ≠ b) (hb : u.heap[k]? = some (.cells cs t (0, 0))) : u'.heap[k]? = some (.cells cs t (0, 0)) := h.vis k _ hk hb (by unfold hidO; intro e; cases e)
def PostF (F : List Nat) (u w : World) (Φ : Value → World → Prop) (e : Ending) (w' : World) : Prop :=
 ∃ v u', e = .returned v ∧ Dat u' w' ∧ Bel ⟨w, none, F⟩ w' ∧ GrowF F u u' ∧ Φ v u'
theorem PostF.mono {f : FuncId} {args : Array Value} {Φ Ψ : Value → World → Prop} (h : Calls P f args w (PostF F u w Φ)) (k : ∀ v u', GrowF F u u' → Φ v u' → Ψ v u') : Calls P f args w (PostF F u w Ψ) :=
 h.mono fun e w' ⟨v, u', h1, h2, h3, h4, h5⟩ => ⟨v, u', h1, h2, h3, h4, k v u' h4 h5⟩
theorem Left.step {M : List Nat} {pre post : List (Nat × List Tmp)} {y : Nat × List Tmp} {listed : Array Bool} (hL : Left ops M (pre ++ y :: post) listed) (hro : ∀ j, (M.getD y.1 0).testBit j = true → j ∉ (pre ++ y :: post).map (·.1)) : Left ops M (pre ++ post) (listed.setIfInBounds y.1 true) := by
 have hsub : (pre ++ post).Sublist (pre ++ y :: post) := List.Sublist.append_left (List.sublist_cons_self _ _) _
 have hyn : y.1 ∉ (pre ++ post).map (·.1) := by
  have := hL.nodup
  rw [List.map_append, List.map_cons] at this
  have h2 := List.nodup_append.1 this
  have h3 := (List.nodup_cons.1 h2.2.1).1
  intro hm
  rw [List.map_append] at hm
  rcases List.mem_append.1 hm with hm | hm
  ·exact h2.2.2 y.1 hm y.1 (List.mem_cons_self ..) rfl
  ·exact h3 hm
 have hmem : ∀ j, j ≠ y.1 → (j ∈ (pre ++ post).map (·.1) ↔ j ∈ (pre ++ y :: post).map (·.1)) := fun j hj => by simp [hj]
 refine ⟨hL.nodup.sublist (hsub.map _), hL.pair.sublist hsub, by simp [hL.size], fun j hj => ?_, fun x hx => hL.lt x (hsub.mem hx), fun x hx => hL.mask x (hsub.mem hx), fun j hj hjn x hx => ?_⟩
 ·by_cases e : j = y.1
  ·subst e
   constructor
   ·intro h
    simp [hL.size, hj] at h
   ·intro h; exact absurd h hyn
  ·rw [getD_set_ne true (Ne.symm e), hmem j e]
   exact hL.mem j hj
 ·intro hmx
  by_cases e : j = y.1
  ·subst e; exact hro x hx ((hsub.map _).mem hmx)
  ·exact hL.closed j hj (fun h => hjn ((hmem j e).2 h)) x hx ((hsub.map _).mem hmx)
def chainB (M : List Nat) : List (Nat × List Tmp) → Bool
 | [] => true
 | x :: l => l.all (fun y => (M.getD y.1 0).testBit x.1) && chainB M l
theorem any_chain {M : List Nat} {Q : Exit → Act → World → Prop} : ∀ (T : List (Nat × List Tmp)) (listed : Array Bool) (a : Act) (w : World), Left ops M T listed → chainB M T = true →
  wpList P ops Q (T.map fun x => ops.getD x.1 default) a w → wpAny P .any ops Q T.length listed a w := by
 intro T
 induction T with
 | nil =>
  intro listed a w hL _ h
  refine ⟨?_, h⟩
  cases e : Region.ready .any ops listed with
  | nil => rfl
  | cons i l =>
   have := (hL.ready_mem (i := i) (by rw [e]; exact List.mem_cons_self ..)).2.1
   simp at this
 | cons y T ih =>
  intro listed a w hL hc h
  simp only [chainB, Bool.and_eq_true] at hc
  refine ⟨fun e => ?_, fun i hi => ?_⟩
  ·have := hL.head_ready
   rw [e] at this
   cases this
  ·obtain ⟨hlt, hm, hout⟩ := hL.ready_mem hi
   obtain ⟨x, hx, rfl⟩ := List.mem_map.1 hm
   have hro := reach_out hL hx hout
   have hxy : x = y := by
    rcases List.mem_cons.1 hx with rfl | hx'
    ·rfl
    ·exact absurd (List.mem_map.2 ⟨y, List.mem_cons_self .., rfl⟩) (hro y.1 (List.all_eq_true.1 hc.1 x hx'))
   subst hxy
   have hL' : Left ops M T (listed.setIfInBounds x.1 true) := by
    have := Left.step (pre := []) (post := T) hL hro
    exact this
   have key : ops[x.1]? = some (opAt ops x).1 := get_op hlt
   simp only [wpOp, key]
   simp only [List.map_cons] at h
   unfold wpList at h
   have h : if Region.wanted (opAt ops x).1 (yielded ops a.tmps) = true then (opAt ops x).1.wp P a w (wpList P ops Q (T.map fun x => ops.getD x.1 default)) Q ∨ ((opAt ops x).1.asks P a w ∧ LetsOut Q) else wpList P ops Q (T.map fun x => ops.getD x.1 default) (a.put (opAt ops x).1.dst undef) w := h
   split
   ·rename_i hw
    rw [if_pos hw] at h
    exact h.imp (Oper.wp_mono fun a w h => ih _ a w hL' hc.2 h) id
   ·rename_i hw
    rw [if_neg hw] at h
    exact ih _ _ w hL' hc.2 h
theorem any_symT {M : List Nat} {T : List (Nat × List Tmp)} {Q : Exit → Act → World → Prop} (hK : Mono K) (hc : chainB M T = true) (hQ : ∀ S u, K S u → ∀ B a w, Rep w0 u0 S B a w u → wpList P ops Q (T.map fun x => ops.getD x.1 default) a w) :
  ∀ (fuel : Nat) (L : List (Nat × List Tmp)) (listed : Array Bool) (S : St) (B : Tmp → Nat) (a : Act) (w u : World), L.length = fuel → Left ops M (L ++ T) listed → (∀ x ∈ L, ∀ y ∈ T, (M.getD y.1 0).testBit x.1 = true) → Rep w0 u0 S B a w u →
   sym P ops w0 u0 false (L.map (opAt ops)) S u K → wpAny P .any ops Q (fuel + T.length) listed a w := by
 intro fuel
 induction fuel with
 | zero =>
  intro L listed S B a w u hl hL _ hr hs
  obtain rfl := List.length_eq_zero_iff.1 hl
  rw [Nat.zero_add]
  exact any_chain T listed a w hL hc (hQ S u hs B a w hr)
 | succ fuel ih =>
  intro L listed S B a w u hl hL hT hr hs
  rw [Nat.succ_add]
  refine ⟨fun e => ?_, fun i hi => ?_⟩
  ·cases L with
   | nil => cases hl
   | cons x L =>
    have := Left.head_ready (L := L ++ T) hL
    rw [e] at this
    cases this
  ·obtain ⟨hlt, hm, hout⟩ := hL.ready_mem hi
   obtain ⟨y, hy, rfl⟩ := List.mem_map.1 hm
   have hro := reach_out hL hy hout
   have hyL : y ∈ L := by
    rcases List.mem_append.1 hy with h | h
    ·exact h
    ·cases L with
     | nil => cases hl
     | cons x L => exact absurd zq (hro x.1 (hT x (List.mem_cons_self ..) y h))
   obtain ⟨pre, post, rfl⟩ := List.append_of_mem hyL
   have hsw : ∀ x ∈ pre.map (opAt ops), swapOk ops x (opAt ops y) = true := by
    intro x hx
    obtain ⟨x', hx', rfl⟩ := List.mem_map.1 hx
    have hp := hL.pair
    rw [List.append_assoc, List.cons_append] at hp
    have := (List.pairwise_append.1 hp).2.2 x' hx' y (List.mem_cons_self ..)
    simp only [pairOk, Bool.and_eq_true, Bool.or_eq_true] at this
    rcases this.1 with h1 | h1
    ·exact absurd (List.mem_map.2 ⟨x', by simp [hx'], rfl⟩) (hro x'.1 h1)
    ·exact h1
   rw [List.map_append, List.map_cons] at hs
   have hone := bubble hK (pre.map (opAt ops)) S u hr.wf hsw hs
   have hsound := one_sound (Q := Q) (zwd hK) hone (Ext.refl _) hr
   have hL' : Left ops M ((pre ++ post) ++ T) (listed.setIfInBounds y.1 true) := by
    have e1 : (pre ++ y :: post) ++ T = pre ++ y :: (post ++ T) := by simp
    rw [e1] at hL hro
    have := Left.step hL hro
    rw [List.append_assoc]; exact this
   have hfin : ∀ a' w', (∃ S' B' u'', Rep w0 u0 S' B' a' w' u'' ∧ (false = false → Ext u u'') ∧ sym P ops w0 u0 false (pre.map (opAt ops) ++ post.map (opAt ops)) S' u'' K) → wpAny P .any ops Q (fuel + T.length) (listed.setIfInBounds y.1 true) a' w' := by
    rintro a' w' ⟨S', B', u'', g1, _, g3⟩
    refine ih (pre ++ post) _ S' B' a' w' u'' (by simp at hl ⊢; omega) hL' (fun x hx => hT x (by simp at hx ⊢; rcases hx with h | h <;> simp [h])) g1 ?_
    rw [List.map_append]; exact g3
   have key : ops[y.1]? = some (opAt ops y).1 := get_op hlt
   simp only [wpOp, key]
   split
   ·rename_i hw
    rw [if_pos hw] at hsound
    exact .inl (Oper.wp_mono hfin hsound)
   ·rename_i hw
    rw [if_neg hw] at hsound
    exact hfin _ _ hsound
def tailB (M : List Nat) (L T : List (Nat × List Tmp)) : Bool := L.all (fun x => T.all fun y => (M.getD y.1 0).testBit x.1) && chainB M T
theorem sw_anyC {id : Nat} {Q : MP} (M : List Nat) (q T : List (Nat × List Tmp)) (hm : P.follows .mixedOrders = true) (hok : regOk ops M (q ++ T) = true) (ht : tailB M q T = true)
  (h : sym P ops w0 u0 false (q.map (opAt ops)) S u (fun S' u' => sym P ops w0 u0 true (T.map fun x => (ops.getD x.1 default, [])) S' u' (Q.f .normal))) : SW P w0 u0 (.region id ops true) S u Q := by
 intro B a w u' e hr
 simp only [regOk, Bool.and_eq_true, beq_iff_eq, List.all_eq_true] at hok
 obtain ⟨⟨⟨⟨h1, h2⟩, h5⟩, h3⟩, h4⟩ := hok
 simp only [tailB, Bool.and_eq_true, List.all_eq_true] at ht
 have hnd := nodupB_spec h2
 have hall : ∀ i, i < ops.size → i ∈ (q ++ T).map (·.1) := fun i hi => List.contains_iff_mem.1 (h5 i (by simpa using hi))
 have hK : Mono (fun S' u' => sym P ops w0 u0 true (T.map fun x => (ops.getD x.1 default, ([] : List Tmp))) S' u' (Q.f .normal)) := zwd (Q.mono _)
 have hs : ops.size = q.length + T.length := by rw [← h1, List.length_append]
 refine wp_region_any hm ?_
 rw [hs]
 have hlist : Left ops M (q ++ T) (Array.replicate (q.length + T.length) false) := by
  rw [← hs]
  refine ⟨hnd, pairsOk_spec h4, by simp, fun i hi => ?_, fun x hx => ?_, fun x hx => (h3 x hx).2, fun j hj hjn => absurd (hall j hj) hjn⟩
  ·simp only [Array.getD_eq_getD_getElem?]
   rw [Array.getElem?_eq_getElem (by simpa using hi)]
   simp only [Array.getElem_replicate, Option.getD_some, true_iff]
   exact hall i hi
  ·obtain ⟨⟨g1, g2⟩, g3⟩ := h3 x hx
   refine ⟨by simpa using g1, fun e he hb => ?_⟩
   simp only [Bool.not_eq_true', List.any_eq_false] at g2
   have := g2 e (by simpa using he)
   simp [hb] at this
   exact this
 refine any_symT hK ht.2 (fun S u'' h B a w hr => ?_) q.length q _ S B a _ u' rfl hlist (fun x hx y hy => ht.1 x hx y hy) hr.drew (zwd hK _ _ _ e h)
 have := sl_key (Q := fun e a' w' => ∃ S' B' u'', Rep w0 u0 S' B' a' w' u'' ∧ Q.f e S' u'') (K := Q.f .normal) (Q.mono _) [] (fun S u h B a w hr => by exact ⟨S, B, u, hr, h⟩) (T.map fun x => ops.getD x.1 default) S B a w u'' hr (by rw [List.map_map]; exact h)
 rw [List.append_nil] at this
 exact this
end
structure PL where
 o : Int
 g : Int
 h : Int
def PL.cs (p : PL) : List Value := [.int .i64 p.o, .int .i64 p.g, .int .i64 p.h]
@[reducible] def PL.v (p : PL) : Value := .agg #[.int .i64 p.o, .int .i64 p.g, .int .i64 p.h]
def pcs (L : List PL) : List Value := L.flatMap PL.cs
section
variable {u u' w w' : World} {L M : List PL} {p : PL} {n i c b off K : Nat} {x y : Sl}
theorem pcs_cons : pcs (p :: L) = p.cs ++ pcs L := rfl
theorem pcs_len : (pcs L).length = L.length * 3 := by
 induction L with
 | nil => rfl
 | cons p L ih => rw [pcs_cons, List.length_append, ih, List.length_cons]; simp [PL.cs]; omega
def PasV (u : World) (x : Sl) (L : List PL) : Prop := SlC u x (pcs L)
theorem PasV.ext (h : PasV u x L) (e : Ext u u') : PasV u' x L := SlC.ext h e
theorem PasV.len (h : PasV u x L) : x.n = L.length := by
 have h1 := h.1
 rw [pcs_len] at h1; omega
theorem ints_data {cs : List Value} {t : TypeId} {l : List Int} (h : u.heap[b]? = some (.cells cs.toArray t (0, 0))) (hc : cs.take n = l.map (Value.int .i64)) (hl : cs.length = c) (hn : n ≤ c) (hm : c ≤ maxLen) : SlR .i64 u (some ⟨b, 0, none⟩) n c l := by
 have hlen : l.length = n := by have h9 := congrArg List.length hc; simp at h9; omega
 refine ⟨hlen, hn, hm, fun hp => ⟨b, 0, rfl, zxa h, fun i hi => ?_⟩⟩
 rw [Nat.zero_add, cells_at h]
 have h9 : (cs.take n)[i]? = (l.map (Value.int .i64))[i]? := by rw [hc]
 rw [List.getElem?_take_of_lt hi, List.getElem?_map, List.getElem?_eq_getElem (by omega : i < l.length)] at h9
 simp
 rw [h9, List.getElem?_eq_getElem (by omega : i < l.length)]
 rfl
end
section
variable {P : Program} {ops : Array Oper} {w0 : Base} {u0 : World} {S : St} {u u' w : World} {o : Oper} {p : List Tmp} {seq : Bool} {rest : List (Oper × List Tmp)} {K : St → World → Prop}
theorem sy_conv (d : Tmp) {src dst : TypeId} {x : Operand} {k0 k : IntKind} {n : Int} (v : Int) (hT : ∀ w, (convert src dst (.int k0 n)).run P w = .ok (.int k (k.wrap n)) w) (hv : k.wrap n = v) (kk : sym P ops w0 u0 seq rest (S.set d (.v (.int k v))) u K) (hw : Wants ops o S := by exact zwg xv) (hd : o.dst = some d := by kernel_rfl) (hop : o.op = .convert src dst x := by rfl) (hf : freeB S d = true := by kernel_rfl)
  (hx : evO S x = some (.v (.int k0 n)) := by rfl) : sym P ops w0 u0 seq ((o, p) :: rest) S u K := by
 subst hv
 refine .inl ⟨by rw [hop]; exact (by decide : (0 : Nat) ≠ 2), .set (.v (.int k (k.wrap n))), ⟨zxy hd hf, .inl ⟨(fun t ht => by cases ht), fun B a w u' hr he hdt => ⟨hw B a hr, ?_⟩⟩⟩, ?_⟩
 ·have e1 : (execOp a.eval o).run P w = (do pure (Next.value (← convert src dst (a.eval x))) : Sem Next).run P w := by unfold execOp; rw [hop]
  rw [e1, ev_eval hr hx]
  exact run_val (hT w)
 ·show sym P ops w0 u0 seq rest (S.put o.dst (some _)) u K
  rw [hd]; exact kk
theorem unwantedU {g : Nat} {b : Bool} {t : Tmp} (h : o.guard = some (g, b)) (ht : (ops[g]?).bind (·.dst) = some t) (hS : S.reg t = some (.v undef)) : ∀ B a, RegOK S B a → Want ops o a false := fun B a hr => by
 have := hr.reg t _ hS
 simp [Want, Region.wanted, h, yielded, ht, this, SV.conc, undef]
end
section
variable {u u' : World} {A : Option Addr} {n c i : Nat} {l : List Int} {k : IntKind}
theorem ints_at (h : SlR k u A n c l) (hi : i < n) : ∃ b o, A = some ⟨b, o, none⟩ ∧ u.cell? ⟨b, o + i * 1, none⟩ = some (.int k (l.getD i 0)) := by
 obtain ⟨h1, h2, h3, h4⟩ := h
 obtain ⟨b, o, e, _, hc⟩ := h4 xq
 exact ⟨b, o, e, by rw [Nat.mul_one]; exact hc i hi⟩
theorem ints_bd {lo hi : Int} (h : ∀ z ∈ l, lo ≤ z ∧ z ≤ hi) (h0 : lo ≤ 0 ∧ 0 ≤ hi) (i : Nat) : lo ≤ l.getD i 0 ∧ l.getD i 0 ≤ hi := by
 rw [List.getD_eq_getElem?_getD]
 cases e : l[i]? with
 | none => exact h0
 | some z => exact h z (List.mem_of_getElem? e)
end
structure WL where
 b : Int
 f : Int
 r : Int
 o : Int
@[reducible] def WL.v (w : WL) : Value := .agg #[.int .i64 w.b, .int .i64 w.f, .int .i64 w.r, .int .i64 w.o]
def WL.cs (w : WL) : List Value := [.int .i64 w.b, .int .i64 w.f, .int .i64 w.r, .int .i64 w.o]
def WdOK (w : WL) : Prop := 4 ≤ w.b ∧ w.b ≤ 24 ∧ 0 ≤ w.f ∧ w.f < w.b ∧ 1 ≤ w.r ∧ w.r ≤ 3 ∧ 1 ≤ w.o ∧ w.o ≤ 2
def CoefOK (w : WL) : Prop := 6 ≤ w.b ∧ w.b ≤ 9 ∧ 3 ≤ w.f ∧ w.f + 2 ≤ w.b ∧ 1 ≤ w.r ∧ w.r ≤ 3 ∧ 1 ≤ w.o ∧ w.o ≤ 2
theorem CoefOK.ok {w : WL} (h : CoefOK w) : WdOK w := by unfold CoefOK at h; unfold WdOK; omega
namespace Nt
def p2i (n : Int) : Int := 2 ^ n.toNat
theorem zxo (n : Int) : 0 < p2i n := Int.pow_pos xw
theorem zwe {a b : Int} (h : a ≤ b) : p2i a ≤ p2i b := by
 unfold p2i
 have h1 : 2 ^ a.toNat ≤ 2 ^ b.toNat := Nat.pow_le_pow_right xw xq
 have h2 : ((2 ^ a.toNat : Nat) : Int) ≤ ((2 ^ b.toNat : Nat) : Int) := Int.ofNat_le.2 h1
 simpa using h2
theorem p2i_24 {n : Int} (h : n ≤ 24) : p2i n ≤ 16777216 := zwe (b := 24) h
end Nt
section
variable {P : Program} {w0 : Base} {u0 u w : World} {S : St} {ops : Array Oper} {o : Oper} {p : List Tmp} {seq : Bool} {rest : List (Oper × List Tmp)} {K : St → World → Prop}
theorem run_shl {T : TypeId} {k yk : IntKind} {n s : Int} {x y : Operand} (h0 : 0 ≤ s) (h1 : s ≤ k.bits) : (do eqGuard .shl T x y (.int k n) (.int yk s); binOp .shl T (.int k n) (.int yk s) : Sem Value).run P w = .ok (.int k (k.wrap (n * 2 ^ s.toNat))) w := by
 simp [eqGuard, binOp, shift_shl k yk n s h0 h1, go_sem]
theorem sy_shl (d : Tmp) {T T2 : TypeId} {x y : Operand} {k yk : IntKind} {n s : Int} (v : Int) (h0 : 0 ≤ s) (h1 : s ≤ k.bits) (hv : k.wrap (n * 2 ^ s.toNat) = v) (kk : sym P ops w0 u0 seq rest (S.set d (.v (.int k v))) u K) (hw : Wants ops o S := by exact zwg xv) (hd : o.dst = some d := by kernel_rfl) (hop : o.op = .binOp .shl T x y T2 := by rfl) (hf : freeB S d = true := by kernel_rfl)
  (hx : evO S x = some (.v (.int k n)) := by rfl) (hy : evO S y = some (.v (.int yk s)) := by rfl) : sym P ops w0 u0 seq ((o, p) :: rest) S u K := by
 subst hv
 refine .inl ⟨by rw [hop]; exact (by decide : (0 : Nat) ≠ 2), .set (.v (.int k (k.wrap (n * 2 ^ s.toNat)))), ⟨zxy hd hf, .inl ⟨(fun t ht => by cases ht), fun B a w u' hr he hdt => ⟨hw B a hr, ?_⟩⟩⟩, ?_⟩
 ·have e1 : (execOp a.eval o).run P w = (do pure (Next.value (← (do eqGuard .shl T x y (a.eval x) (a.eval y); binOp .shl T (a.eval x) (a.eval y)))) : Sem Next).run P w := by unfold execOp; rw [hop]
  rw [e1, ev_eval hr hx, ev_eval hr hy]
  exact run_val (run_shl h0 h1)
 ·show sym P ops w0 u0 seq rest (S.put o.dst (some _)) u K
  rw [hd]; exact kk
end
theorem shl_one {n : Int} (h0 : 0 ≤ n) (h1 : n ≤ 24) : IntKind.i64.wrap (1 * 2 ^ n.toNat) = Nt.p2i n := by
 have h2 := Nt.p2i_24 h1
 have h3 := Nt.zxo n
 rw [Int.one_mul]
 exact IntWalk.i64_in _ (by unfold Nt.p2i at *; omega)
theorem mod_pos9 (m : Int) (hm : 1 ≤ m) (n : Int) (h : decide (Int.tmod n m < 0) = false) : Int.tmod n m = n % m := by
 have h := of_decide_eq_false h
 rcases Int.lt_or_le n 0 with hn | hn
 ·have e := Int.tmod_add_mul_tdiv n m
  have h2 : -m < Int.tmod n m := Int.lt_tmod_of_pos n xq
  have h3 : Int.tmod n m ≤ 0 := by
   have h8 := Int.neg_tmod n m
   have h9 : Int.tmod (-n) m = (-n) % m := Int.tmod_eq_emod_of_nonneg xq
   have h10 := Int.emod_nonneg (-n) (show m ≠ 0 by omega)
   omega
  have h4 : Int.tmod n m = 0 := by omega
  rw [h4] at e ⊢
  have : m ∣ n := ⟨n.tdiv m, by omega⟩
  exact (Int.emod_eq_zero_of_dvd this).symm
 ·exact Int.tmod_eq_emod_of_nonneg hn
theorem mod_neg9 (m : Int) (hm : 1 ≤ m) (n : Int) (h : decide (Int.tmod n m < 0) = true) : Int.tmod n m + m = n % m := by
 have h := of_decide_eq_true h
 have e := Int.tmod_add_mul_tdiv n m
 have h2 : -m < Int.tmod n m := Int.lt_tmod_of_pos n xq
 have h5 : n = m * (n.tdiv m - 1) + (Int.tmod n m + m) := by rw [Int.mul_sub, Int.mul_one]; omega
 have := (Nt.ediv_uniq (z := n) (y := m) (q := n.tdiv m - 1) (r := Int.tmod n m + m) xq h5 xq xq).2
 exact this.symm
def MutL (k : Nat) (ty : TypeId) (lo : Nat) (u : World) (x : Sl) (cs : List Value) : Prop :=
 cs.length = x.n * k ∧ x.n ≤ x.c ∧ x.c ≤ maxLen ∧ (x = ⟨none, 0, 0⟩ ∨ ∃ b all, x.a = some ⟨b, 0, none⟩ ∧ u.heap[b]? = some (.cells (List.toArray all) ty (0, 0)) ∧ all.length = x.c * k ∧ all.take (x.n * k) = cs ∧ lo ≤ b)
def offB (x : Sl) (h : Nat) : Prop := ∀ a, x.a = some a → a.block ≠ h
structure ExtX (x : Sl) (u u' : World) : Prop where
 size : u.heap.size ≤ u'.heap.size
 vis : ∀ (k : Nat) (o : Obj), offB x k → u.heap[k]? = some o → o ≠ hidO → u'.heap[k]? = some o
structure ExtT (ty : TypeId) (u u' : World) : Prop where
 size : u.heap.size ≤ u'.heap.size
 vis : ∀ (k : Nat) (cs : Array Value) (t : TypeId), t ≠ ty → u.heap[k]? = some (.cells cs t (0, 0)) → u'.heap[k]? = some (.cells cs t (0, 0))
def sl0 : Sl := ⟨none, 0, 0⟩
structure TL where
 f : Int
 c : Int
def TL.cs (t : TL) : List Value := [.int .i64 t.f, .int .i64 t.c]
@[reducible] def TL.v (t : TL) : Value := .agg #[.int .i64 t.f, .int .i64 t.c]
def tl0 : TL := ⟨0, 0⟩
def tcs (L : List TL) : List Value := L.flatMap TL.cs
def ics (l : List Int) : List Value := l.map (Value.int .i64)
section
variable {k lo lo' h b n c i : Nat} {ty t2 : TypeId} {u u' u'' v : World} {x y : Sl} {cs cs' : List Value}
theorem cells_not_hid {cs : Array Value} {t : TypeId} : Obj.cells cs t (0, 0) ≠ hidO := by unfold hidO; intro e; cases e
theorem MutL.ext (m : MutL k ty lo u x cs) (e : Ext u u') : MutL k ty lo u' x cs :=
 ⟨m.1, m.2.1, m.2.2.1, m.2.2.2.imp id fun ⟨b, all, h1, h2, h3⟩ => ⟨b, all, h1, e.cells h2, h3⟩⟩
theorem MutL.extT (m : MutL k ty lo u x cs) (e : ExtT t2 u u') (ht : ty ≠ t2) : MutL k ty lo u' x cs :=
 ⟨m.1, m.2.1, m.2.2.1, m.2.2.2.imp id fun ⟨b, all, h1, h2, h3⟩ => ⟨b, all, h1, e.vis _ _ _ ht h2, h3⟩⟩
theorem MutL.low (m : MutL k ty lo u x cs) (hl : lo' ≤ lo) : MutL k ty lo' u x cs :=
 ⟨m.1, m.2.1, m.2.2.1, m.2.2.2.imp id fun ⟨b, all, h1, h2, h3, h4, h5⟩ => ⟨b, all, h1, h2, h3, h4, Nat.le_trans hl h5⟩⟩
theorem MutL.nil (k : Nat) (ty : TypeId) (lo : Nat) (u : World) : MutL k ty lo u ⟨none, 0, 0⟩ [] := ⟨by simp, Nat.le_refl _, Nat.zero_le _, .inl rfl⟩
theorem ExtX.t {cs : List Value} (e : ExtX x u u') (m : MutL k ty lo u x cs) : ExtT ty u u' := ⟨e.size, fun q cs' t ht hq => by
 refine e.vis q _ (fun a ha hc => ?_) hq cells_not_hid
 rcases m.2.2.2 with h1 | ⟨b, all, h1, h2, _⟩
 ·rw [h1] at ha; cases ha
 ·rw [h1] at ha; injection ha with ha; subst ha
  rw [show b = q from hc, hq] at h2; injection h2 with h2; injection h2 with _ h2 _; exact ht h2⟩
theorem Ext.toX (e : Ext u u') (x : Sl) : ExtX x u u' := ⟨e.size, fun q o _ h1 h2 => e.vis q o h1 h2⟩
theorem ExtT.trans (e : ExtT ty u u') (f : ExtT ty u' u'') : ExtT ty u u'' := ⟨Nat.le_trans e.size f.size, fun q cs t ht h => f.vis q cs t ht (e.vis q cs t ht h)⟩
theorem ExtB.toX (e : ExtB b u u') (hx : x.a = some ⟨b, 0, none⟩) : ExtX x u u' := ⟨e.size, fun q o ho h1 h2 => e.vis q o (fun hc => ho _ hx hc.symm) h1 h2⟩
theorem MutL.lt {a : Addr} (m : MutL k ty lo u x cs) (ha : x.a = some a) : a.block < u.heap.size := by
 rcases m.2.2.2 with h1 | ⟨b, all, h1, h2, _⟩
 ·rw [h1] at ha; cases ha
 ·rw [h1] at ha; injection ha with ha; subst ha; exact zxa h2
theorem MutL.off (m : MutL k ty lo u x cs) (hh : u.heap.size ≤ h) : offB x h := fun a ha hc => by have := m.lt ha; omega
theorem MutL.take {m : Nat} (h0 : MutL k ty lo u x cs) (hm : m ≤ x.n) : MutL k ty lo u ⟨x.a, m, x.c⟩ (cs.take (m * k)) := by
 obtain ⟨h1, h2, h3, h4⟩ := h0
 refine ⟨by rw [List.length_take, h1]; exact Nat.min_eq_left (Nat.mul_le_mul_right _ hm), Nat.le_trans hm h2, h3, ?_⟩
 rcases h4 with h4 | ⟨b, all, g1, g2, g3, g4, g5⟩
 ·subst h4
  have : m = 0 := by simpa using hm
  subst this; exact .inl rfl
 ·refine .inr ⟨b, all, g1, g2, g3, ?_, g5⟩
  rw [← g4, List.take_take, Nat.min_eq_left (Nat.mul_le_mul_right _ hm)]
theorem MutL.cell {j : Nat} (m : MutL k ty lo u x cs) (hj : j < cs.length) : ∃ b, x.a = some ⟨b, 0, none⟩ ∧ u.cell? ⟨b, 0 + j, none⟩ = cs[j]? := by
 obtain ⟨h1, h2, h3, h4⟩ := m
 rcases h4 with h4 | ⟨b, all, g1, g2, g3, g4, g5⟩
 ·subst h4
  simp at h1; subst h1; simp at hj
 ·refine ⟨b, g1, ?_⟩
  rw [Nat.zero_add, cells_at g2, ← g4, List.getElem?_take_of_lt xq]; simp
theorem zwj (l : List Int) : (ics l).length = l.length := by unfold ics; simp
theorem ics_at {l : List Int} (h : i < l.length) : (ics l)[i]? = some (.int .i64 (l.getD i 0)) := by
 unfold ics
 rw [List.getElem?_map, List.getD_eq_getElem?_getD, List.getElem?_eq_getElem h]; rfl
theorem MutL.lit {cs : List Value} (hu : u.heap[b]? = some (.cells cs.toArray ty (0, 0))) (hl : cs.length = n * k) (hn : n ≤ maxLen) (hb : lo ≤ b) : MutL k ty lo u ⟨some ⟨b, 0, none⟩, n, n⟩ cs :=
 ⟨hl, Nat.le_refl _, hn, .inr ⟨b, cs, rfl, hu, hl, by rw [List.take_of_length_le (by show _ ≤ n * k; omega)], hb⟩⟩
end
def NodesB (lo h : Nat) (u : World) (x : Sl) (N : List (List TL)) : Prop :=
 ∃ Ls : List Sl, MutL 1 72 lo u x (Ls.map Sl.v) ∧ Ls.length = N.length ∧ ∀ i, i < N.length → MutL 2 70 lo u (Ls.getD i sl0) (tcs (N.getD i [])) ∧ offB (Ls.getD i sl0) h
section
variable {k lo lo' h h' b n c i : Nat} {ty t2 : TypeId} {u u' u'' v : World} {x y z : Sl} {cs cs' : List Value} {N : List (List TL)} {ts : List TL}
theorem NodesB.nil (lo h : Nat) (u : World) : NodesB lo h u ⟨none, 0, 0⟩ [] := ⟨[], .nil _ _ _ _, rfl, fun i hi => by simp at hi⟩
theorem NodesB.len (m : NodesB lo h u x N) : x.n = N.length := by
 obtain ⟨Ls, h1, h2, _⟩ := m
 have := h1.1
 rw [List.length_map, Nat.mul_one] at this
 omega
theorem NodesB.ext (m : NodesB lo h u x N) (e : Ext u u') : NodesB lo h u' x N := by
 obtain ⟨Ls, h1, h2, h3⟩ := m
 exact ⟨Ls, h1.ext e, h2, fun i hi => ⟨(h3 i hi).1.ext e, (h3 i hi).2⟩⟩
theorem NodesB.low (m : NodesB lo h u x N) (hl : lo' ≤ lo) : NodesB lo' h u x N := by
 obtain ⟨Ls, h1, h2, h3⟩ := m
 exact ⟨Ls, h1.low hl, h2, fun i hi => ⟨(h3 i hi).1.low hl, (h3 i hi).2⟩⟩
theorem NodesB.extT (m : NodesB lo h u x N) (e : ExtT t2 u u') (h1 : 72 ≠ t2) (h2 : 70 ≠ t2) : NodesB lo h u' x N := by
 obtain ⟨Ls, g1, g2, g3⟩ := m
 exact ⟨Ls, g1.extT e h1, g2, fun i hi => ⟨(g3 i hi).1.extT e h2, (g3 i hi).2⟩⟩
theorem getD_snoc {α : Type} (L : List α) (a z : α) (i : Nat) : (L ++ [a]).getD i z = if i < L.length then L.getD i z else if i = L.length then a else z := by
 rw [List.getD_eq_getElem?_getD]
 split
 ·rename_i h; rw [List.getElem?_append_left h, List.getD_eq_getElem?_getD]
 ·rename_i h
  rw [List.getElem?_append_right xq]
  split
  ·rename_i h2; rw [h2, Nat.sub_self]; rfl
  ·rename_i h2; rw [List.getElem?_eq_none yz]; rfl
theorem NodesB.snoc {Ls : List Sl} (h1 : MutL 1 72 lo u x (Ls.map Sl.v)) (h2 : Ls.length = N.length) (h3 : ∀ i, i < N.length → MutL 2 70 lo u (Ls.getD i sl0) (tcs (N.getD i [])) ∧ offB (Ls.getD i sl0) h)
  (my : MutL 2 70 lo u y (tcs ts)) (hy : offB y h) (e : ExtX x u u') (hm : MutL 1 72 lo u' z (Ls.map Sl.v ++ [y.v])) : NodesB lo h u' z (N ++ [ts]) := by
 have et := e.t h1
 refine ⟨Ls ++ [y], by rw [List.map_append]; exact hm, by simp [h2], fun i hi => ?_⟩
 rw [getD_snoc, getD_snoc, h2]
 by_cases hl : i < N.length
 ·rw [if_pos hl, if_pos hl]
  exact ⟨(h3 i hl).1.extT et xw, (h3 i hl).2⟩
 ·simp at hi
  rw [if_neg hl, if_neg hl, if_pos xq, if_pos xq]
  exact ⟨my.extT et xw, hy⟩
end
section
variable {P : Program} {ops : Array Oper} {w0 : Base} {u0 : World} {S T : St} {B : Tmp → Nat} {a : Act} {w w' u u' u'' v : World} {o : Oper} {p : List Tmp} {rest : List (Oper × List Tmp)} {K : St → World → Prop}
end
end Go.Proofs.Ytdmpfhhhlhoeiaa
