/- Parts of the proof: contracts of functions, each walked once, and plain laws. -/
import Derived.Test.YtcmllhhiekjmaaaGreatCyeB
import Derived.IntWalk
import Derived.KernelRfl
import Derived.Test.YtcmllhhiekjmaaaGreatProg
import Derived.OpenShut
import Derived.ChangeSlices
import Derived.Deep.Slices
import Derived.Laws.MakeOwn
import Derived.Maps.AppendAt
import Derived.WalkKit
import Derived.LoopTactic
import Derived.Outline
import Derived.Lib.Hide
import Derived.Deep.QuietTactic
import Derived.BigQuiet
set_option linter.unusedVariables false
set_option maxHeartbeats 8000000
namespace Go.Proofs.YtcmllhhiekjmaaaGreat
open Nt
open Go.RowKit
namespace Nt
theorem shr_dig {x y : Int} {s : Nat} (h : s < 32) (x0 : 0 ≤ x) (x1 : x < 4294967296) (y0 : 0 ≤ y) (y1 : y < 4294967296) :
  (x + y * 4294967296) / 2 ^ s % 4294967296 = x / 2 ^ s + y % 2 ^ s * 2 ^ (32 - s) ∧ 0 ≤ x / 2 ^ s + y % 2 ^ s * 2 ^ (32 - s) ∧ x / 2 ^ s + y % 2 ^ s * 2 ^ (32 - s) < 4294967296 := by
 have hs := p2_split h
 have p0 := p2_pos s
 have m0 := Int.emod_nonneg y (b := 2 ^ s) xq
 have m1 := Int.emod_lt_of_pos y p0
 obtain ⟨c0, c1, d0, d1, d2, _⟩ := low_dig h x0 x1 m0 m1
 have e1 : (x + y * 4294967296) / 2 ^ s = x / 2 ^ s + y * 2 ^ (32 - s) := by
  rw [← hs, Int.mul_comm (2 ^ s), ← Int.mul_assoc, Int.add_mul_ediv_right _ _ xq]
 have e2 := (low_hi h y0 y1).2.2
 refine ⟨?_, by omega, d2⟩
 rw [e1]
 generalize y * 2 ^ (32 - s) = z at *
 generalize y % 2 ^ s * 2 ^ (32 - s) = u at *
 omega
theorem shr_snoc {S x : List Int} {i s : Nat} {c0 : Int} (h : s < 32) (hl : S.length = i) (hv : 2 ^ s * val S = valTo x i - c0 + x[i]?.getD 0 % 2 ^ s * pw i) :
  2 ^ s * val (S ++ [x[i]?.getD 0 / 2 ^ s + x[i + 1]?.getD 0 % 2 ^ s * 2 ^ (32 - s)]) = valTo x (i + 1) - c0 + x[i + 1]?.getD 0 % 2 ^ s * pw (i + 1) := by
 rw [snoc_val, zyf, hl, pw]
 have e := Int.mul_ediv_add_emod (x[i]?.getD 0) (2 ^ s)
 have hs := p2_split h
 generalize x[i]?.getD 0 / 2 ^ s = q at *
 generalize x[i]?.getD 0 % 2 ^ s = r at *
 generalize x[i + 1]?.getD 0 % 2 ^ s = r' at *
 generalize (2 : Int) ^ s = p at *
 generalize (2 : Int) ^ (32 - s) = z at *
 grind
end Nt
theorem rShift_neg (A : Option Addr) (n c s : Nat) (a : List Int) (w : World) (ha : SlR .u32 w A n c a) (da : Nt.Dig a) (hn : n ≤ 1000000000) (hs0 : 0 < s) (hs : s < 32) :
  qyc 308 #[.slice A n c, .int .i64 (-(s : Int))] w fun e w' => ∃ A' n' c', e = .returned (.slice A' n' c') ∧ OwnF w w' A' n' c' (Nt.val a / 2 ^ s).toNat ∧ Below w.heap.size w w' := by
 have lx : Hid ((Nt.digits (Nt.val a).toNat).length ≤ n) := by rw [← zxl da, ← ha.1]; exact zyh a
 have a0 := zyw da
 have hsd : decide (65536 < -(s : Int)) = false := by rw [decide_eq_false_iff_not]; omega
 have ag : decide (-(s : Int) < 0) = true := by simp; omega
 have hdv : (s : Int) / 32 = 0 := by omega
 have hmd : (s : Int) % 32 = s := by omega
 have ai : s % 32 = s := by omega
 go_enter Tryz.func308, Tryz.ntmps308
 go_wp2_with fail
 refine (zyz _ _ _ _ _ ha da xq).mono ?_
 rintro e w1 ⟨A1, N, c1, rfl, f1, ac⟩
 have hx := f1.nat.2.1
 have eN := Lib.hid f1.1
 have hN : N ≤ 1000000000 := by have := f1.1; have := lx.out; omega
 clear f1 ha da lx
 obtain ⟨X, hX⟩ : ∃ X, X = (Nt.val a).toNat := ⟨_, rfl⟩
 have HX : Hid (Nt.val a = Nt.val (Nt.digits X)) := by show _ = _; rw [zyi, hX]; omega
 rw [← hX] at hx eN
 clear hX a0
 have dx := Lib.hid (zyj X)
 generalize Nt.digits X = x at *
 rcases Nat.eq_zero_or_pos N with h0 | h0
 ·subst h0
  have hz : Hid ((Nt.val a / 2 ^ s).toNat = 0) := by
   have e1 : x = [] := List.eq_nil_of_length_eq_zero eN.out.symm
   show _ = _
   rw [HX.out, e1]; simp [Nt.val]
  go_wp2
  go_ret
  refine ⟨none, 0, 0, rfl, ?_, ac⟩
  rw [hz.out]
  exact ⟨by rw [zyu]; rfl, by rw [zyu]; exact ⟨rfl, rfl, .inl ⟨rfl, rfl⟩⟩⟩
 have hN0 : ((N : Int) == 0) = false := by rw [beq_eq_false_iff_ne]; omega
 have hlt : decide (-(s : Int) < -32 * (N : Int)) = false := by simp; omega
 have aj : decide (-(s : Int) < -(32 * (N : Int))) = false := by simp; omega
 have hxw := Lib.hid hx
 clear hx
 go_wp2
 go_loopw [5, 6] (fun sv iv wr => ∃ (i : Nat) (S : List Int) (A2 : Option Addr) (c2 : Nat), i ≤ N ∧ sv = .slice A2 i c2 ∧ iv = .int .i64 i ∧ OwnK .u32 wr w1.heap.size 132 A2 i c2 S ∧ Hid (Nt.Dig S) ∧ Hid (2 ^ s * Nt.val S = Nt.valTo x i - x[0]?.getD 0 % 2 ^ s + x[i]?.getD 0 % 2 ^ s * Nt.pw i) ∧ Below w1.heap.size w1 wr) (fun _ iv _ => N - (intOf iv).toNat)
 case atStart => exact ⟨0, [], none, 0, by omega, rfl, rfl, ⟨rfl, rfl, .inl ⟨rfl, rfl⟩⟩, Nt.Dig.nil, by show _ = _; simp [zyy, Nt.val, Nt.pw]; omega, Below.refl _ _⟩
 case round =>
  obtain ⟨i, S, A2, c2, hi, rfl, rfl, hk, dS, hv, hbr⟩ := hrel
  have hSl := Lib.hid hk.1
  by_cases hin : i < N
  ·obtain ⟨b1, o1, rfl, _, hc1⟩ := (hxw.out.below hbr).pos hin
   have q1 := dx.out.at i
   have q2 := dx.out.at (i + 1)
   have Hst := Lib.hid (Nt.shr_snoc hs hSl.out hv.out)
   have Hdg := Lib.hid (Nt.shr_dig hs q1.1 q1.2 q2.1 q2.2)
   have hin' : (i : Int) < N := by omega
   by_cases hin2 : i + 1 < N
   ·obtain ⟨b2, o2, ae, _, hc2⟩ := (hxw.out.below hbr).pos hin2
    obtain ⟨rfl, rfl⟩ : b1 = b2 ∧ o1 = o2 := by cases ae; exact ⟨rfl, rfl⟩
    clear ae
    have hin2' : (i : Int) + 1 < N := by omega
    have or1 := Nt.or_swap q1.1 q1.2 q2.1 q2.2
    have Hd := Lib.hid (Hdg.out.1)
    have hnew : Hid (SlR .u32 (wr.alloc (.cells #[.int .u32 ((x[i]?.getD 0 + x[i + 1]?.getD 0 * 4294967296) / 2 ^ s % 4294967296)] 132)) (some ⟨wr.heap.size, 0, none⟩) 1 1 [(x[i]?.getD 0 + x[i + 1]?.getD 0 * 4294967296) / 2 ^ s % 4294967296]) := (KBlk.new wr 132 [(x[i]?.getD 0 + x[i + 1]?.getD 0 * 4294967296) / 2 ^ s % 4294967296]).slr_all rfl qyl yq
    go_wp2_with (at_builtin; refine zxb _ rfl (.tmp 56) (.tmp 63) _ rfl 132 .u32 4 Tryz.underlying28 zxd w1.heap.size A2 i c2 S rfl ?own (some ⟨wr.heap.size, 0, none⟩) 1 1 [(x[i]?.getD 0 + x[i + 1]?.getD 0 * 4294967296) / 2 ^ s % 4294967296] rfl ?slr ?h63 ?hby ?hbase ?_)
    case own => exact hk.below ((Below.refl _ _).alloc qyl _)
    case slr => exact hnew.out
    case h63 => unfold maxLen; omega
    case hby => omega
    case hbase => have := hbr.size; simp; omega
    intro A3 c3 w3 aa ab
    rw [Hd.out] at aa
    have Ho := Lib.hid aa
    have HB : Hid (Below w1.heap.size w1 w3) := (hbr.alloc hbr.size _).trans ab
    clear hnew aa ab hk hv
    go_wp2
    go_roundw
    case rel => exact ⟨i + 1, _, A3, c3, by omega, rfl, by go_num, Ho.out, dS.out.snoc Hdg.out.2, Hst.out, HB.out⟩
    case measure => simp [intOf]; omega
   have hin2' : ¬ (i : Int) + 1 < N := by omega
   have e2 : x[i + 1]?.getD 0 = 0 := by rw [List.getElem?_eq_none (by have := eN.out; omega)]; rfl
   have p0 := Nt.p2_pos s
   have z0 : 0 ≤ x[i]?.getD 0 / 2 ^ s := Int.ediv_nonneg q1.1 xq
   have z1 : x[i]?.getD 0 / 2 ^ s < 4294967296 := by have := Hdg.out; rw [e2] at this; simp at this; omega
   have ah : Hid (x[i]?.getD 0 / 2 ^ s = x[i]?.getD 0 / 2 ^ s + x[i + 1]?.getD 0 % 2 ^ s * 2 ^ (32 - s)) := by show _ = _; rw [e2]; simp
   clear e2
   have Hd := Lib.hid (ah.out)
   have hnew : Hid (SlR .u32 (wr.alloc (.cells #[.int .u32 (x[i]?.getD 0 / 2 ^ s)] 132)) (some ⟨wr.heap.size, 0, none⟩) 1 1 [x[i]?.getD 0 / 2 ^ s]) := (KBlk.new wr 132 [x[i]?.getD 0 / 2 ^ s]).slr_all rfl qyl yq
   go_wp2_with (at_builtin; refine zxb _ rfl (.tmp 56) (.tmp 63) _ rfl 132 .u32 4 Tryz.underlying28 zxd w1.heap.size A2 i c2 S rfl ?own (some ⟨wr.heap.size, 0, none⟩) 1 1 [x[i]?.getD 0 / 2 ^ s] rfl ?slr ?h63 ?hby ?hbase ?_)
   case own => exact hk.below ((Below.refl _ _).alloc qyl _)
   case slr => exact hnew.out
   case h63 => unfold maxLen; omega
   case hby => omega
   case hbase => have := hbr.size; simp; omega
   intro A3 c3 w3 aa ab
   rw [Hd.out] at aa
   have Ho := Lib.hid aa
   have HB : Hid (Below w1.heap.size w1 w3) := (hbr.alloc hbr.size _).trans ab
   clear hnew aa ab hk hv
   go_wp2
   go_roundw
   case rel => exact ⟨i + 1, _, A3, c3, by omega, rfl, by go_num, Ho.out, dS.out.snoc Hdg.out.2, Hst.out, HB.out⟩
   case measure => simp [intOf]; omega
  obtain rfl : i = N := by omega
  have hval : Nt.val S = Nt.val a / 2 ^ s := by
   have h1 := hv.out
   have p0 := Nt.p2_pos s
   have m0 := Int.emod_nonneg (x[0]?.getD 0) (b := 2 ^ s) xq
   have m1 := Int.emod_lt_of_pos (x[0]?.getD 0) p0
   have e2 : x[i]?.getD 0 = 0 := by rw [List.getElem?_eq_none (by have := eN.out; omega)]; rfl
   rw [zyg x (by have := eN.out; omega), e2] at h1
   simp only [Int.zero_emod, Int.zero_mul, Int.add_zero] at h1
   rw [HX.out]
   have := (Nt.div_of p0 (a := Nt.val x) (q := Nt.val S) (r := x[0]?.getD 0 % 2 ^ s) (by rw [Int.mul_comm]; omega) m0 m1).1
   exact this.symm
  have Hval := Lib.hid hval
  have Hs := Lib.hid hk.slr
  clear hval hk hv
  go_wp2_with fail
  refine (zyz _ _ _ _ _ Hs.out dS.out xq).mono ?_
  rintro e w4 ⟨A4, n4, c4, rfl, f4, af⟩
  rw [Hval.out] at f4
  have HF := Lib.hid f4
  clear f4
  go_wp2
  go_ret
  have ad : Below w.heap.size w wr := ac.trans (hbr.mono ac.size)
  exact ⟨A4, n4, c4, rfl, ⟨HF.out.1, HF.out.2.mono ad.size⟩, ad.trans (af.mono ad.size)⟩
theorem rShift_down (A : Option Addr) (n c z : Nat) (a : List Int) (w : World) (ha : SlR .u32 w A n c a) (da : Nt.Dig a) (hn : n ≤ 1000000000) (hz : z < 32) :
  qyc 308 #[.slice A n c, .int .i64 (-(z : Int))] w fun e w' => ∃ A' n' c', e = .returned (.slice A' n' c') ∧ OwnF w w' A' n' c' (Nt.val a / 2 ^ z).toNat ∧ Below w.heap.size w w' := by
 rcases Nat.eq_zero_or_pos z with h | h
 ·subst h
  have k := rShift_pos A n c 0 a w ha da hn xq
  simp only [Int.pow_zero, Int.mul_one, Int.ediv_one] at k ⊢
  exact k
 exact rShift_neg A n c z a w ha da hn h hz
namespace Nt
theorem and_low {p : Int} (h0 : 0 ≤ p) (h1 : p < 18446744073709551616) : bits .and .u64 p 4294967295 = p % 4294967296 :=
 bits_mask .u64 64 yq (fun n h0 h1 => by rw [IntKind.wrap_u64]; omega) 32 yq p h0 h1
structure DigP (j n i : Nat) (L v S : List Int) (q cr bo : Int) : Prop where
 len : S.length = L.length
 dig : Dig S
 sum : valTo (S.drop j) i + q * valTo v i = valTo (L.drop j) i + (cr + bo) * pw i
 same : ∀ k, k < j ∨ j + i ≤ k → S[k]? = L[k]?
theorem DigP.next {j n i : Nat} {L v S : List Int} {q cr bo d x p t : Int} (h : DigP j n i L v S q cr bo) (hj : j + (n + 2) + 1 ≤ L.length) (hi : i < n + 2) (hd : d = v[i]?.getD 0) (hx : x = S[j + i]?.getD 0) (hp : p = q * d + cr) (ht : t = x - p % 4294967296 - bo) (t0 : -4294967296 ≤ t) (t1 : t < 4294967296) :
  DigP j n (i + 1) L v (S.set (j + i) (t % 4294967296)) q (p / 4294967296) (if t < 0 then 1 else 0) := by
 refine ⟨by rw [List.length_set]; exact h.len, h.dig.set _ xq, ?_, ?_⟩
 ·rw [drop_set]
  refine ms_step (M := S.drop j) (u := L.drop j) (v := v) (p := p) (t := t) (by have := h.len; simp; omega) h.sum ?_ (by rw [← hd]; exact hp) (by rw [zxc, ← hx]; exact ht) t0 t1
  rw [zxc, zxc, h.same (j + i) (.inr qyl)]
 intro k hk
 rw [List.getElem?_set_ne xq]
 exact h.same k xq
structure DigQ (j n i : Nat) (M v R : List Int) (c : Int) : Prop where
 len : R.length = M.length
 dig : Dig R
 sum : valTo (R.drop j) i + c * pw i = valTo (M.drop j) i + valTo v i
 same : ∀ k, k < j ∨ j + i ≤ k → R[k]? = M[k]?
theorem DigQ.next {j n i : Nat} {M v R : List Int} {c d x t : Int} (h : DigQ j n i M v R c) (hj : j + (n + 2) + 1 ≤ M.length) (hi : i < n + 2) (hd : d = v[i]?.getD 0) (hx : x = R[j + i]?.getD 0) (ht : t = x + d + c) :
  DigQ j n (i + 1) M v (R.set (j + i) (t % 4294967296)) (t / 4294967296) := by
 refine ⟨by rw [List.length_set]; exact h.len, h.dig.set _ xq, ?_, ?_⟩
 ·rw [drop_set]
  refine ab_step (M := M.drop j) (R := R.drop j) (v := v) (t := t) (by have := h.len; simp; omega) h.sum ?_ (by rw [zxc, ← hx, ← hd]; exact ht)
  rw [zxc, zxc, h.same (j + i) (.inr qyl)]
 intro k hk
 rw [List.getElem?_set_ne xq]
 exact h.same k xq
def DigR (j N : Nat) (L v L' : List Int) (q : Int) : Prop := L'.length = L.length ∧ Dig L' ∧ (∀ k, k < j ∨ j + N + 1 ≤ k → L'[k]? = L[k]?) ∧ 0 ≤ q ∧ q < 4294967296 ∧ valTo (L.drop j) (N + 1) = q * val v + valTo (L'.drop j) (N + 1) ∧ valTo (L'.drop j) (N + 1) < val v
theorem DigP.done {j n : Nat} {L v S : List Int} {q cr bo u0 t T top v1 v2 u2 : Int} (h : DigP j n (n + 2) L v S q cr bo) (hj : j + (n + 2) + 1 ≤ L.length) (hv : v.length = n + 2) (dv : Dig v) (dL : Dig L) (hu : u0 = L[j + (n + 2)]?.getD 0) (ht : t = u0 - cr - bo) (t0 : 0 ≤ t) (t1 : t < 4294967296) (q0 : 0 ≤ q) (q1 : q < 4294967296) (hF : DivFacts j n L v top u2 v1 v2) (hT : T = valTo (L.drop j) (n + 3) / val v) (hG : Good T top v1 v2 u2 q) (h1 : 1 ≤ v1) (h2 : 0 ≤ v2) :
  DigR j (n + 2) L v (S.set (j + (n + 2)) t) q := by
 have hs := h.sum
 rw [zyg v xq] at hs
 have e : valTo ((S.set (j + (n + 2)) t).drop j) (n + 2 + 1) = valTo (L.drop j) (n + 2 + 1) - q * val v := by
  rw [drop_set, zxf _ _ (by have := h.len; simp; omega)]
  refine ms_end0 (Ul := valTo (L.drop j) (n + 2)) (uN := u0) hs ?_ ht
  rw [zyf, zxc, ← hu]
 have hend := hG.end (pw_pos n) hF.eV (zys dv n) (zxk dv n) hF.eU (zys (dL.drop j) n) h1 h2 (by rw [hT]; exact hF.tU) hF.vp
 refine ⟨by rw [List.length_set]; exact h.len, h.dig.set _ ⟨t0, t1⟩, ?_, q0, q1, ?_, ?_⟩
 ·intro k hk
  rw [List.getElem?_set_ne xq]
  exact h.same k xq
 ·rw [e]; omega
 rw [e]; exact hend.2
theorem DigQ.done {j n : Nat} {L v S R : List Int} {q cr bo u0 t c T top v1 v2 u2 : Int} (h0 : DigP j n (n + 2) L v S q cr bo) (h : DigQ j n (n + 2) (S.set (j + (n + 2)) (t % 4294967296)) v R c) (hj : j + (n + 2) + 1 ≤ L.length) (hv : v.length = n + 2) (dv : Dig v) (dL : Dig L) (hu : u0 = L[j + (n + 2)]?.getD 0) (ht : t = u0 - cr - bo) (t0 : t < 0) (t1 : -4294967296 ≤ t) (q0 : 0 ≤ q) (q1 : q < 4294967296) (hF : DivFacts j n L v top u2 v1 v2) (hT : T = valTo (L.drop j) (n + 3) / val v) (hG : Good T top v1 v2 u2 q) (h1 : 1 ≤ v1) (h2 : 0 ≤ v2) :
  R[j + (n + 2)]?.getD 0 = t % 4294967296 ∧ 1 ≤ q ∧ (t % 4294967296 + c) % 4294967296 = 0 ∧ DigR j (n + 2) L v (R.set (j + (n + 2)) 0) (q - 1) := by
 have hs := h0.sum
 have ha := h.sum
 rw [zyg v xq] at hs ha
 have e : valTo (S.drop j) (n + 2) + pw (n + 2) * t = valTo (L.drop j) (n + 2 + 1) - q * val v := by
  refine ms_end0 (Ul := valTo (L.drop j) (n + 2)) (uN := u0) hs ?_ ht
  rw [zyf, zxc, ← hu]
 have hend := hG.end (pw_pos n) hF.eV (zys dv n) (zxk dv n) hF.eU (zys (dL.drop j) n) h1 h2 (by rw [hT]; exact hF.tU) hF.vp
 have hU0 := zys (dL.drop j) (n + 2 + 1)
 rw [show n + 3 = n + 2 + 1 by omega] at hend
 have hX := zxk (h0.dig.drop j) (n + 2)
 have hP := pw_pos (n + 2)
 have hVP := val_lt dv
 rw [hv] at hVP
 have hneg : valTo (L.drop j) (n + 2 + 1) - q * val v < 0 := by
  have : pw (n + 2) * t ≤ pw (n + 2) * (-1) := Int.mul_le_mul_of_nonneg_left xq xq
  omega
 have hq1 : 1 ≤ q := by
  rcases (show q = 0 ∨ 1 ≤ q by omega) with hq | hq
  ·rw [hq] at hneg; omega
  exact hq
 have hsl : valTo ((S.set (j + (n + 2)) (t % 4294967296)).drop j) (n + 2) = valTo (S.drop j) (n + 2) := by rw [drop_set, valTo_set_lt _ _ qyl]
 rw [hsl] at ha
 have hlen : (S.set (j + (n + 2)) (t % 4294967296)).length = L.length := by rw [List.length_set]; exact h0.len
 obtain ⟨k1, k2⟩ := ab_end hP ha e.symm (zys (h.dig.drop j) (n + 2)) (zxk (h.dig.drop j) (n + 2)) (by have := hend.1; omega) xq
 refine ⟨?_, hq1, by omega, by rw [List.length_set, h.len, hlen], h.dig.set _ xq, ?_, by omega, by omega, ?_, ?_⟩
 ·rw [h.same _ (.inr qyl)]
  simp [show j + (n + 2) < S.length by have := h0.len; omega]
 ·intro k hk
  rw [List.getElem?_set_ne xq, h.same k xq, List.getElem?_set_ne xq]
  exact h0.same k xq
 ·rw [drop_set, zxf _ _ (by rw [List.length_drop, h.len, hlen]; omega), k2, Int.sub_mul]; omega
 rw [drop_set, zxf _ _ (by rw [List.length_drop, h.len, hlen]; omega), k2]; omega
theorem DigP.neg {j n : Nat} {L v S : List Int} {q cr bo u0 t : Int} (h0 : DigP j n (n + 2) L v S q cr bo) (hv : v.length = n + 2) (dL : Dig L) (hu : u0 = L[j + (n + 2)]?.getD 0) (ht : t = u0 - cr - bo) (t0 : t < 0) (q0 : 0 ≤ q) : 1 ≤ q := by
 have hs := h0.sum
 rw [zyg v xq] at hs
 have e : valTo (S.drop j) (n + 2) + pw (n + 2) * t = valTo (L.drop j) (n + 2 + 1) - q * val v := by
  refine ms_end0 (Ul := valTo (L.drop j) (n + 2)) (uN := u0) hs ?_ ht
  rw [zyf, zxc, ← hu]
 have hU0 := zys (dL.drop j) (n + 2 + 1)
 have hX := zxk (h0.dig.drop j) (n + 2)
 have hP := pw_pos (n + 2)
 have : pw (n + 2) * t ≤ pw (n + 2) * (-1) := Int.mul_le_mul_of_nonneg_left xq xq
 rcases (show q = 0 ∨ 1 ≤ q by omega) with hq | hq
 ·rw [hq] at e; omega
 exact hq
theorem lz2 {y : Nat} (h0 : 0 < y) (h1 : y < 4294967296) : ∃ z : Nat, 32 - (bitl y : Int) = z ∧ z < 32 ∧ 2147483648 ≤ (y : Int) * 2 ^ z ∧ ((y : Int) + 1) * 2 ^ z ≤ 4294967296 := by
 have p2 := bitl_le h0
 have p3 := bitl_lt y
 have p1 : bitl y ≠ 0 := by unfold bitl; rw [if_neg xq]; omega
 have hl : bitl y ≤ 32 := by
  have h3 : 2 ^ (bitl y - 1) < 2 ^ 32 := by omega
  have := (Nat.pow_lt_pow_iff_right (show 1 < 2 by omega)).1 h3
  omega
 generalize bitl y = b at *
 have k1 : 2 ^ (b - 1) * 2 ^ (32 - b) = 2147483648 := by rw [← Nat.pow_add, show b - 1 + (32 - b) = 31 by omega]
 have k2 : 2 ^ b * 2 ^ (32 - b) = 4294967296 := by rw [← Nat.pow_add, show b + (32 - b) = 32 by omega]
 have hp : 0 < 2 ^ (32 - b) := Nat.pow_pos xq
 have a1 : 2 ^ (b - 1) * 2 ^ (32 - b) ≤ y * 2 ^ (32 - b) := Nat.mul_le_mul_right _ p2
 have a2 : (y + 1) * 2 ^ (32 - b) ≤ 2 ^ b * 2 ^ (32 - b) := Nat.mul_le_mul_right _ p3
 rw [k1] at a1
 rw [k2] at a2
 refine ⟨32 - b, by omega, by omega, ?_, ?_⟩
 ·have : ((y * 2 ^ (32 - b) : Nat) : Int) = (y : Int) * 2 ^ (32 - b) := by rw [Int.natCast_mul, Int.natCast_pow]; rfl
  omega
 have : (((y + 1) * 2 ^ (32 - b) : Nat) : Int) = ((y : Int) + 1) * 2 ^ (32 - b) := by rw [Int.natCast_mul, Int.natCast_pow]; rfl
 omega
theorem vnorm {Y N z : Nat} {y : Int} (hl : (digits Y).length = N + 2) (hy : y = (digits Y)[N + 1]?.getD 0) (h1 : 2147483648 ≤ y * 2 ^ z) (h2 : (y + 1) * 2 ^ z ≤ 4294967296) :
  (digits (Y * 2 ^ z)).length = N + 2 ∧ 2147483648 ≤ (digits (Y * 2 ^ z))[N + 1]?.getD 0 := by
 have hp := pw_pos (N + 1)
 have hz := p2_pos z
 have eb : (Y : Int) = valTo (digits Y) (N + 1) + pw (N + 1) * y := by
  have h := zyi Y
  rw [← zyg (digits Y) (n := N + 2) xq, zyf, ← hy] at h
  exact h.symm
 have b0 := zys (zyj Y) (N + 1)
 have b1 := zxk (zyj Y) (N + 1)
 have ep : pw (N + 2) = 4294967296 * pw (N + 1) := rfl
 have ec : ((Y * 2 ^ z : Nat) : Int) = (Y : Int) * 2 ^ z := by rw [Int.natCast_mul, Int.natCast_pow]; rfl
 have hlt : (Y : Int) * 2 ^ z < pw (N + 2) := by
  have k1 : (Y : Int) * 2 ^ z < (pw (N + 1) * (y + 1)) * 2 ^ z := Int.mul_lt_mul_of_pos_right (by rw [eb, Int.mul_add]; omega) hz
  have k2 : (pw (N + 1) * (y + 1)) * 2 ^ z ≤ pw (N + 1) * 4294967296 := by rw [Int.mul_assoc]; exact Int.mul_le_mul_of_nonneg_left h2 xq
  omega
 have k3 : pw (N + 1) * (y * 2 ^ z) ≤ (Y : Int) * 2 ^ z := by
  rw [eb, Int.add_mul, Int.mul_assoc]
  have : 0 ≤ valTo (digits Y) (N + 1) * 2 ^ z := Int.mul_nonneg b0 xq
  omega
 have k4 : pw (N + 1) * 2147483648 ≤ pw (N + 1) * (y * 2 ^ z) := Int.mul_le_mul_of_nonneg_left h1 xq
 have l1 := digits_length_le (v := Y * 2 ^ z) (n := N + 2) (by rw [ec]; exact hlt)
 have l2 := digits_length_gt (v := Y * 2 ^ z) (n := N + 1) (by rw [ec]; omega)
 have l3 : (digits (Y * 2 ^ z)).length = N + 2 := by omega
 refine ⟨l3, ?_⟩
 have ev : (Y : Int) * 2 ^ z = valTo (digits (Y * 2 ^ z)) (N + 1) + pw (N + 1) * (digits (Y * 2 ^ z))[N + 1]?.getD 0 := by
  have h := zyi (Y * 2 ^ z)
  rw [← zyg (digits (Y * 2 ^ z)) (n := N + 2) xq, zyf, ec] at h
  exact h.symm
 have v1 := zxk (zyj (Y * 2 ^ z)) (N + 1)
 have k5 : pw (N + 1) * 2147483648 < pw (N + 1) * ((digits (Y * 2 ^ z))[N + 1]?.getD 0 + 1) := by rw [Int.mul_add _ _ 1]; omega
 have := Int.lt_of_mul_lt_mul_left k5 xq
 omega
theorem ulow {u v : List Int} {M N : Nat} (du : Dig u) (hl : u.length + 1 = M + (N + 2)) (dv : Dig v) (hv : v.length = N + 2) (hv1 : 2147483648 ≤ v[N + 1]?.getD 0) : val ((u ++ [0]).drop M) < val v := by
 have hd : Dig (u ++ [0]) := du.snoc xq
 have e := zxo (u ++ [0]) M
 have e2 : val (u ++ [0]) = val u := by rw [snoc_val]; simp
 have u1 := val_lt du
 have u0 := zys hd M
 have hp := pw_pos M
 rw [show u.length = M + (N + 1) by omega, pw_add] at u1
 have k2 : pw M * val ((u ++ [0]).drop M) < pw M * pw (N + 1) := by omega
 have k3 := Int.lt_of_mul_lt_mul_left k2 xq
 have ev : val v = valTo v (N + 1) + pw (N + 1) * v[N + 1]?.getD 0 := by rw [← zyg v (n := N + 2) xq, zyf]
 have v0 := zys dv (N + 1)
 have hp1 := pw_pos (N + 1)
 have k4 : pw (N + 1) * 1 ≤ pw (N + 1) * v[N + 1]?.getD 0 := Int.mul_le_mul_of_nonneg_left xq xq
 omega
end Nt
theorem wpList_appendG {P : Program} (w : World) {ops : Array Oper} {rest : List Oper} {o : Oper} {a : Act} {Q : Exit → Act → World → Prop} (hgd : o.guard = none) (s x : Operand) (t : TypeId)
  (ho : o.op = .call { callee := .builtin .append, args := #[s, x], argTypes := #[t, t] })
  (e : TypeId) (k : IntKind) (bytes : Nat) (h1 : P.underlying t = some (.slice e)) (h2 : (P.info? e).map (fun i => (i.zero, i.size, i.bytes)) = some (some (.int k 0), 1, bytes))
  (base : Nat) (A : Option Addr) (n c : Nat) (l : List Int) (hs : a.eval s = .slice A n c) (hown : OwnK k w base e A n c l)
  (ad : Addr) (m c' : Nat) (news : List Int) (hx : a.eval x = .slice (some ad) m c') (hr : SlR k w (some ad) m c' news)
  (h63 : n + m ≤ maxLen) (hbytes : (n + m) * bytes ≤ 140737488355328) (hbase : base ≤ w.heap.size)
  (h : ∀ A₁ c₁ w', OwnK k w' base e A₁ (n + m) c₁ (l ++ news) → Below base w w' → (∀ b, b < w.heap.size → (∀ p, A = some p → p.block ≠ b) → w'.heap[b]? = w.heap[b]?) → (∀ p, A₁ = some p → (∃ p0, A = some p0 ∧ p.block = p0.block) ∨ p.block = w.heap.size) → w.heap.size ≤ w'.heap.size → wpList P ops Q rest (a.put o.dst (.slice A₁ (n + m) c₁)) w') : wpList P ops Q (o :: rest) a w := by
 obtain ⟨i, hi, hz, hsz, hb⟩ := info_parts h2
 refine wpList_plain hgd fun K hK => ?_
 obtain ⟨v', w', hrun, g1, g2, _, g4⟩ := run_append_own_at (P := P) w base t o.type e i _ 1 bytes h1 hi hz hsz hb rfl xq _ n _ hown.2 ad m c' (news.map (Value.int k)) (by simpa using hr.1)
  (by
   intro j u hu
   have hj : j < m := by rw [← hr.1]; rcases Nat.lt_or_ge j news.length with h' | h'; exact h'; simp [List.getElem?_eq_none h'] at hu
   obtain ⟨b, q, he, hlt, hcell⟩ := hr.2.2.2 xq
   injection he with he
   subst he
   rw [show (⟨b, q, none⟩ : Addr).add j = ⟨b, q + j, none⟩ by unfold Addr.add; split <;> simp_all, hcell j hj, ← hu]
   simp [show j < news.length by rw [hr.1]; exact hj])
  (by intro u hu; simp at hu; obtain ⟨z, _, rfl⟩ := hu; rfl) h63 hbytes hbase
 have g3 : Below base w w' := (Below.refl _ _).grown g2 hbase (fun j hj => (hown.2.lt j hj).1)
 obtain ⟨A₁, c₁, hv⟩ : ∃ A₁ c₁, v' = .slice A₁ (n + m) c₁ := by
  rcases g1.2 with ⟨he, hn⟩ | ⟨g, cap, cur, he, _⟩
  ·exact ⟨none, 0, by rw [he, hn]⟩
  exact ⟨_, _, he⟩
 subst hv
 have hown' : OwnK k w' base e A₁ (n + m) c₁ (l ++ news) := ⟨by simp [hown.1, hr.1], by simpa using g1⟩
 unfold Oper.wp execOp
 simp only [ho, resolve, invoke, builtin, Sem.run_bind, Sem.run_pure, Result.andThen_ok, List.map_toArray, List.map_cons, List.map_nil, hs, hx, hrun]
 refine hK _ _ (h A₁ c₁ w' hown' g3 ?_ ?_ g2.size)
 ·intro b hb' hne
  refine g2.block b hb' ?_
  rcases A with _ | p
  ·simp [Value.ownBlock]
  simp only [Value.ownBlock]
  intro h'
  injection h' with h'
  exact hne p rfl h'.symm
 intro p hp
 subst hp
 rcases g4 with h' | h'
 ·left
  rcases A with _ | p0
  ·simp [Value.ownBlock] at h'
  simp only [Value.ownBlock] at h'
  injection h' with h'
  exact ⟨p0, rfl, h'⟩
 right
 simp only [Value.ownBlock] at h'
 injection h'
theorem SlR.blk {k : IntKind} {w w' : World} {g o n c : Nat} {l : List Int} (h : SlR k w (some ⟨g, o, none⟩) n c l) (hb : w'.heap[g]? = w.heap[g]?) (hs : w.heap.size ≤ w'.heap.size) : SlR k w' (some ⟨g, o, none⟩) n c l := by
 obtain ⟨h1, h2, h3, h4⟩ := h
 refine ⟨h1, h2, h3, fun hp => ?_⟩
 obtain ⟨b, q, e, hlt, hc⟩ := h4 hp
 cases e
 refine ⟨g, o, rfl, by omega, fun i hi => ?_⟩
 rw [← hc i hi]
 unfold World.cell?
 simp only []
 rw [hb]
structure RW (wr w : World) (B gu Lu cu gv cv n gq : Nat) (v U Q : List Int) : Prop where
 ku : OwnK .u32 wr B 132 (some ⟨gu, 0, none⟩) Lu cu U
 kv : SlR .u32 wr (some ⟨gv, 0, none⟩) n cv v
 kq : KBlk .u32 wr gq 132 Q
 bel : Below w.heap.size w wr
section
variable {wr w : World} {B gu Lu cu gv cv n gq : Nat} {v U Q : List Int}
theorem RW.drewN (h : RW wr w B gu Lu cu gv cv n gq v U Q) (k : Nat) : RW (wr.drewN k) w B gu Lu cu gv cv n gq v U Q := ⟨h.ku, h.kv, h.kq, Below.drewN' h.bel k⟩
theorem RW.setU (h : RW wr w B gu Lu cu gv cv n gq v U Q) (n1 : gv ≠ gu) (n2 : gq ≠ gu) (hw : w.heap.size ≤ gu) (i : Nat) (x : Int) : RW (wr.setCell ⟨gu, i, none⟩ (.int .u32 x)) w B gu Lu cu gv cv n gq v (U.set i x) Q :=
 ⟨h.ku.set i x, h.kv.setCell _ (fun a ha => by injection ha with ha; subst ha; exact n1), h.kq.far (p := ⟨gu, i, none⟩) n2 _, h.bel.setCell (p := ⟨gu, i, none⟩) hw _⟩
theorem RW.setQ (h : RW wr w B gu Lu cu gv cv n gq v U Q) (n3 : gv ≠ gq) (n2 : gq ≠ gu) (hw : w.heap.size ≤ gq) (i : Nat) (x : Int) : RW (wr.setCell ⟨gq, i, none⟩ (.int .u32 x)) w B gu Lu cu gv cv n gq v U (Q.set i x) :=
 ⟨h.ku.far (p := ⟨gq, i, none⟩) _ (fun a ha => by injection ha with ha; subst ha; exact fun h => n2 h.symm), h.kv.setCell _ (fun a ha => by injection ha with ha; subst ha; exact n3), h.kq.set i x, h.bel.setCell (p := ⟨gq, i, none⟩) hw _⟩
theorem RW.ucell (h : RW wr w B gu Lu cu gv cv n gq v U Q) {i : Nat} (hi : i < Lu) : wr.cell? ⟨gu, i, none⟩ = some (.int .u32 (U[i]?.getD 0)) := h.ku.cell hi
theorem RW.vcell (h : RW wr w B gu Lu cu gv cv n gq v U Q) {i : Nat} (hi : i < n) : wr.cell? ⟨gv, i, none⟩ = some (.int .u32 (v[i]?.getD 0)) := by
 obtain ⟨b, o, e, _, hc⟩ := h.kv.pos hi
 cases e
 simpa using hc
end
set_option maxRecDepth 1000000 in
theorem rDivMod_one (A B : Option Addr) (n c m d : Nat) (a b : List Int) (w : World) (ha : SlR .u32 w A n c a) (hb : SlR .u32 w B m d b) (da : Nt.Dig a) (db : Nt.Dig b) (hn : n ≤ 1000000000) (hm : m ≤ 1000000000) (hz : 0 < Nt.val b) (hz1 : Nt.val b < 4294967296) :
  qyc 289 #[.slice A n c, .slice B m d] w fun e w' => DivMF w w' e (Nt.val a) (Nt.val b) := by
 have lx : Hid ((Nt.digits (Nt.val a).toNat).length ≤ n) := by rw [← zxl da, ← ha.1]; exact zyh a
 have a0 := zyw da
 go_enter Tryz.func289, Tryz.ntmps289
 go_wp2_with fail
 refine (zyz _ _ _ _ _ ha da xq).mono ?_
 rintro e w1 ⟨A1, N, c1, rfl, f1, aa⟩
 go_wp2_with fail
 refine (zyz _ _ _ _ _ (hb.below aa) db xq).mono ?_
 rintro e w2 ⟨A2, M, c2, rfl, f2, ab⟩
 have hdy : Nt.digits (Nt.val b).toNat = [Nt.val b] := by
  rw [Nt.digits, if_neg xq, Nt.digits, if_pos xq]
  congr 1
  omega
 obtain rfl : M = 1 := by have := f2.1; rw [hdy] at this; simpa using this
 have hy := f2.nat.2.1
 have hx := f1.nat.2.1.below ab
 rw [hdy] at hy
 obtain ⟨g, o, rfl, hg, hc⟩ := hy.pos (i := 0) xq
 simp only [List.getElem?_cons_zero, Option.getD_some, Nat.add_zero] at hc
 have hN : N ≤ 1000000000 := by have := f1.1; have := lx.out; omega
 have hB : Hid (Below w.heap.size w w2) := aa.trans (ab.mono aa.size)
 obtain ⟨y, hyy⟩ : ∃ y, y = Nt.val b := ⟨_, rfl⟩
 have Hyy := Lib.hid hyy
 rw [← hyy] at hc hz hz1
 clear f1 f2 aa ab ha hb hy hdy hyy
 go_wp2_with fail
 refine (rsmall_any _ _ _ _ y _ hx (zyj _) hz hz1 hN).mono ?_
 rintro e w3 ⟨A3, n3, c3, rfl, f3, ad⟩
 rw [zyi, Int.toNat_of_nonneg a0] at f3
 rw [zyi, Int.toNat_of_nonneg a0]
 have F3 := Lib.hid f3
 have r0 : 0 ≤ Nt.val a % y := Int.emod_nonneg _ xq
 have r1 : Nt.val a % y < 4294967296 := by have := Int.emod_lt_of_pos (Nt.val a) hz; omega
 have Hb3 := Lib.hid ad
 clear f3 ad hx hc
 obtain ⟨r, hr⟩ : ∃ r, r = Nt.val a % y := ⟨_, rfl⟩
 have Hr := Lib.hid hr
 rw [← hr] at r0 r1 ⊢
 clear hr
 have hnew : Hid (SlR .u32 (w3.alloc (.cells #[.int .u32 r] 132)) (some ⟨w3.heap.size, 0, none⟩) 1 1 [r]) := (KBlk.new w3 132 [r]).slr_all rfl qyl yq
 go_wp2_with fail
 refine (zyz _ _ _ _ _ hnew.out (Nt.Dig.cons ⟨r0, r1⟩ Nt.Dig.nil) xq).mono ?_
 rintro e w4 ⟨A4, n4, c4, rfl, f4, ac⟩
 have F4 := Lib.hid f4
 have Hb4 := Lib.hid ac
 clear f4 ac
 go_wp2
 go_ret3
 have ae : Below w.heap.size w w3 := hB.out.trans (Hb3.out.mono hB.out.size)
 have hBa := ae.alloc ae.size (.cells #[.int .u32 r] 132)
 have f4 := F4.out.nat
 have e4 : Nt.val [r] = Nt.val a % Nt.val b := by rw [← Hyy.out, ← Hr.out]; simp [Nt.val]
 rw [e4] at f4
 have f3 := F3.out
 rw [Hyy.out] at f3
 refine ⟨A3, n3, c3, A4, n4, c4, rfl, (f3.mono hB.out.size).below ?_, f4.mono hBa.size, hBa.trans (Hb4.out.mono hBa.size)⟩
 exact ((Below.refl _ _).alloc qyl _).trans (Hb4.out.mono (by simp))
set_option maxRecDepth 1000000 in
theorem rDivMod_lt (A B : Option Addr) (n c m d : Nat) (a b : List Int) (w : World) (ha : SlR .u32 w A n c a) (hb : SlR .u32 w B m d b) (da : Nt.Dig a) (db : Nt.Dig b) (hn : n ≤ 1000000000) (hm : m ≤ 1000000000) (hz : 4294967296 ≤ Nt.val b) (hlt : Nt.val a < Nt.val b) :
  qyc 289 #[.slice A n c, .slice B m d] w fun e w' => DivMF w w' e (Nt.val a) (Nt.val b) := by
 have lx : Hid ((Nt.digits (Nt.val a).toNat).length ≤ n) := by rw [← zxl da, ← ha.1]; exact zyh a
 have ly : Hid ((Nt.digits (Nt.val b).toNat).length ≤ m) := by rw [← zxl db, ← hb.1]; exact zyh b
 have a0 := zyw da
 have hcmp : Nt.cmpS (Nt.val a) (Nt.val b) = -1 := by unfold Nt.cmpS; rw [if_pos hlt]
 have Hc := Lib.hid hcmp
 have Hlt := Lib.hid hlt
 clear hcmp hlt
 go_enter Tryz.func289, Tryz.ntmps289
 go_wp2_with fail
 refine (zyz _ _ _ _ _ ha da xq).mono ?_
 rintro e w1 ⟨A1, N, c1, rfl, f1, ab⟩
 go_wp2_with fail
 refine (zyz _ _ _ _ _ (hb.below ab) db xq).mono ?_
 rintro e w2 ⟨A2, M, c2, rfl, f2, aa⟩
 have hM2 : 1 < M := by
  have := Nt.digits_length_gt (v := (Nt.val b).toNat) (n := 1) (by simp [Nt.pw]; omega)
  rw [f2.1]; exact this
 have hN : N ≤ 1000000000 := by have := f1.1; have := lx.out; omega
 have hM : M ≤ 1000000000 := by have := f2.1; have := ly.out; omega
 have F1 := Lib.hid f1
 have hy := f2.nat.2.1
 have hx := f1.nat.2.1.below aa
 have h0 : ((M : Int) == 0) = false := by rw [beq_eq_false_iff_ne]; omega
 have h1 : ((M : Int) == 1) = false := by rw [beq_eq_false_iff_ne]; omega
 have Hb1 := Lib.hid ab
 have Hb2 := Lib.hid aa
 clear f1 f2 ha hb ab aa
 go_wp2_with fail
 refine (rCompare_any _ _ _ _ _ _ _ _ _ hx hy (zyj _) (zyj _) xq xq).mono ?_
 rintro e w3 ⟨rfl, ad⟩
 rw [zyi, zyi, Int.toNat_of_nonneg a0, Int.toNat_of_nonneg xq, Hc.out]
 have Hb3 := Lib.hid ad
 clear ad hx hy
 go_wp2
 go_ret3
 have ac : Below w.heap.size w w2 := Hb1.out.trans (Hb2.out.mono Hb1.out.size)
 have e1 : Nt.val a / Nt.val b = 0 := Int.ediv_eq_zero_of_lt a0 Hlt.out
 have e2 : Nt.val a % Nt.val b = Nt.val a := Int.emod_eq_of_lt a0 Hlt.out
 refine ⟨none, 0, 0, A1, N, c1, rfl, ?_, ?_, ac.trans (Hb3.out.mono ac.size)⟩
 ·rw [e1]
  exact ⟨by simp [zyu], by simp [zyu]; exact SlR.nil _ _ _ (Nat.zero_le _), fun h => absurd h xq⟩
 rw [e2]
 exact (F1.out.nat.below Hb2.out).below Hb3.out
theorem rdiv_fin {wr w : World} {B gu Lu cu gv cv n gq N z : Nat} {a b v U Q : List Int} (hR : RW wr w B gu Lu cu gv cv n gq v U Q) (hD : Nt.DivL 0 N (Nt.val a * 2 ^ z) (Nt.val v) U Q) (hv : v.length = N + 2) (dv : Nt.Dig v) (ev : Nt.val v = Nt.val b * 2 ^ z) :
  ∀ (w9 w10 : World) (A9 : Option Addr) (n9 c9 : Nat) (A10 : Option Addr) (n10 c10 : Nat), OwnF wr w9 A9 n9 c9 (Nt.val Q).toNat → Below wr.heap.size wr w9 → OwnF w9 w10 A10 n10 c10 (Nt.val (U.take (N + 2)) / 2 ^ z).toNat → Below w9.heap.size w9 w10 →
   DivMF w w10 (.returned (.tuple #[.slice A9 n9 c9, .slice A10 n10 c10, .int .i64 0])) (Nt.val a) (Nt.val b) := by
 intro w9 w10 A9 n9 c9 A10 n10 c10 f9 hb9 f10 hb10
 have hlow := hD.low
 have hsum := hD.sum
 simp only [List.drop_zero, Nt.pw, Int.mul_one] at hlow hsum
 have hU0 := zyw hD.dU
 have e1 : Nt.val (U.take (N + 2)) = Nt.val U := (Nt.val_low hD.dU (n := N + 2) (by have := Nt.val_lt dv; rw [hv] at this; omega)).2
 obtain ⟨q1, q2⟩ := Nt.div_end (a := Nt.val a) (b := Nt.val b) (Q := Nt.val Q) (U := Nt.val U) (Nt.p2_pos z) (by rw [hsum, ev]) hU0 xq
 rw [e1, ← q2] at f10
 rw [← q1] at f9
 have hs1 := hR.bel.size
 have hs2 := hb9.size
 have hB : Below w.heap.size w w9 := hR.bel.trans (hb9.mono hs1)
 exact ⟨A9, n9, c9, A10, n10, c10, rfl, (f9.nat.mono hs1).below hb10, f10.nat.mono xq, hB.trans (hb10.mono hB.size)⟩
set_option maxRecDepth 1000000 in
theorem rDivMod_long (A B : Option Addr) (n c m d : Nat) (a b : List Int) (w : World) (ha : SlR .u32 w A n c a) (hb : SlR .u32 w B m d b) (da : Nt.Dig a) (db : Nt.Dig b) (hn : n ≤ 500000000) (hm : m ≤ 500000000) (hz : 4294967296 ≤ Nt.val b) (hge : Nt.val b ≤ Nt.val a) :
  qyc 289 #[.slice A n c, .slice B m d] w fun e w' => DivMF w w' e (Nt.val a) (Nt.val b) := by
 have lx : Hid ((Nt.digits (Nt.val a).toNat).length ≤ n) := by rw [← zxl da, ← ha.1]; exact zyh a
 have ly : Hid ((Nt.digits (Nt.val b).toNat).length ≤ m) := by rw [← zxl db, ← hb.1]; exact zyh b
 have a0 := zyw da
 obtain ⟨X, hX⟩ : ∃ X : Nat, X = (Nt.val a).toNat := ⟨_, rfl⟩
 obtain ⟨Y, hY⟩ : ∃ Y : Nat, Y = (Nt.val b).toNat := ⟨_, rfl⟩
 have HX : Hid (Nt.val a = X) := by show _ = _; omega
 have HY : Hid (Nt.val b = Y) := by show _ = _; omega
 have HXY : Hid (Y ≤ X) := by show _ ≤ _; omega
 have hcmp : 0 ≤ Nt.cmpS X Y := by unfold Nt.cmpS; rw [if_neg xq]; split <;> omega
 have HXn := Lib.hid hX
 have HYn := Lib.hid hY
 have a4 : Hid (1 < (Nt.digits Y).length) := Nt.digits_length_gt (v := Y) (n := 1) (by simp [Nt.pw]; omega)
 clear hX hY hz hge
 go_enter Tryz.func289, Tryz.ntmps289
 go_wp2_with fail
 refine (zyz _ _ _ _ _ ha da xq).mono ?_
 rintro e w1 ⟨A1, N1, c1, rfl, f1, au⟩
 go_wp2_with fail
 refine (zyz _ _ _ _ _ (hb.below au) db xq).mono ?_
 rintro e w2 ⟨A2, M2, c2, rfl, f2, az⟩
 rw [← HXn.out] at f1 lx
 rw [← HYn.out] at f2 ly
 have ba : N1 ≤ 500000000 := by have := f1.1; have := lx.out; omega
 have hM2 : M2 ≤ 500000000 := by have := f2.1; have := ly.out; omega
 have hMN : Hid (M2 ≤ N1) := by show _ ≤ _; rw [f1.1, f2.1]; exact zxe HXY.out
 obtain ⟨N, hNN⟩ : ∃ N, M2 = N + 2 := ⟨M2 - 2, by have := f2.1; have := a4.out; omega⟩
 subst hNN
 have hx := Lib.hid (f1.nat.2.1.below az)
 have hy := Lib.hid f2.nat.2.1
 have e1 := Lib.hid f1.1
 have e2 := Lib.hid f2.1
 have aH : Hid (Below w.heap.size w w2) := au.trans (az.mono au.size)
 have h0 : ((N : Int) + 2 == 0) = false := by rw [beq_eq_false_iff_ne]; omega
 have h1 : ((N : Int) + 2 == 1) = false := by rw [beq_eq_false_iff_ne]; omega
 clear f1 f2 ha hb au az da db lx ly
 go_wp2_with fail
 refine (rCompare_any _ _ _ _ _ _ _ _ _ hx.out hy.out (zyj _) (zyj _) xq xq).mono ?_
 rintro e w3 ⟨rfl, aq⟩
 rw [zyi, zyi]
 have hx3 := Lib.hid (hx.out.below aq)
 have hy3 := Lib.hid (hy.out.below aq)
 have aJ : Hid (Below w.heap.size w w3) := aH.out.trans (aq.mono aH.out.size)
 obtain ⟨y, hyy⟩ : ∃ y : Nat, (y : Int) = (Nt.digits Y)[N + 1]?.getD 0 := ⟨((Nt.digits Y)[N + 1]?.getD 0).toNat, by have := (zyj Y).at (N + 1); omega⟩
 have hyb := (zyj Y).at (N + 1)
 have hyn := Nt.norm_last (k := N + 1) (zxg Y) e2.out.symm
 rw [← hyy] at hyb hyn
 obtain ⟨z, hz1, aZ, aP, aQ⟩ := Nt.lz2 (y := y) xq xq
 have Hz1 := Lib.hid hz1
 have hvn := Lib.hid (Nt.vnorm e2.out.symm hyy aP aQ)
 obtain ⟨gb, ob, rfl, hgb, hcb⟩ := hy3.out.pos (i := N + 1) xq
 have hcm := hy3.out.2.1
 have hcm2 := hy3.out.2.2.1
 unfold maxLen at hcm2
 have hyl : Hid (SlR .u32 w3 (some ⟨gb, ob + (N + 1), none⟩) 1 (c2 - (N + 1)) [(y : Int)]) := by
  refine ⟨rfl, by omega, by unfold maxLen; omega, fun _ => ⟨gb, ob + (N + 1), rfl, hgb, fun i hi => ?_⟩⟩
  obtain rfl : i = 0 := by omega
  rw [Nat.add_zero, hcb, ← hyy]; rfl
 have hN1' : (N : Int) + 2 - 1 = (N : Int) + 1 := by omega
 obtain ⟨s, hs⟩ : ∃ s, s = Nt.cmpS X Y := ⟨_, rfl⟩
 rw [← hs] at hcmp ⊢
 clear hz1 aP aQ hyy aq hx hy aH hcb hs
 go_wp2_with fail
 refine (rBitLen_any _ _ _ _ _ hyl.out (Nt.Dig.cons hyb Nt.Dig.nil) xq).mono ?_
 rintro e w4 ⟨rfl, ao⟩
 have hvy : (Nt.val [(y : Int)]).toNat = y := by simp [Nt.val]
 rw [hvy]
 have hz1 := Hz1.out
 have bq : (0 : Int) ≤ Nt.bitl y := by omega
 have bi : (Nt.bitl y : Int) ≤ 32 := by omega
 have hsd : decide (s < 0) = false := by simp; omega
 have hx4 := Lib.hid (hx3.out.below ao)
 have hy4 := Lib.hid (hy3.out.below ao)
 have ax : Hid (Below w.heap.size w w4) := aJ.out.trans (ao.mono aJ.out.size)
 clear hvy hyl ao hx3 hy3 aJ
 go_wp2_with fail
 refine (rShift_pos _ _ _ z _ _ hx4.out (zyj _) xq xq).mono ?_
 rintro e w5 ⟨A5, L5, c5, rfl, f5, av⟩
 rw [zyi] at f5
 have eX : ((X : Int) * 2 ^ z).toNat = X * 2 ^ z := by
  have : ((X * 2 ^ z : Nat) : Int) = (X : Int) * 2 ^ z := by rw [Int.natCast_mul, Int.natCast_pow]; rfl
  omega
 have eY : ((Y : Int) * 2 ^ z).toNat = Y * 2 ^ z := by
  have : ((Y * 2 ^ z : Nat) : Int) = (Y : Int) * 2 ^ z := by rw [Int.natCast_mul, Int.natCast_pow]; rfl
  omega
 rw [eX] at f5
 have F5 := Lib.hid f5
 have HW45 := Lib.hid av.size
 have hy5 := Lib.hid (hy4.out.below av)
 have ai : Hid (Below w.heap.size w w5) := ax.out.trans (av.mono ax.out.size)
 have EY := Lib.hid eY
 clear eX eY f5 av hy4 hx4
 go_wp2_with fail
 refine (rShift_pos _ _ _ z _ _ hy5.out (zyj _) xq xq).mono ?_
 rintro e w6 ⟨A6, L6, c6, rfl, f6, ap⟩
 rw [zyi, EY.out] at f6
 have aU : Hid (N1 ≤ L5) := by
  show _ ≤ _
  rw [F5.out.1, e1.out]
  exact zxe (Nat.le_mul_of_pos_right _ (Nat.pow_pos xq))
 have hL5' : Hid (L5 ≤ N1 + 1) := by
  show _ ≤ _
  rw [F5.out.1]
  apply Nt.digits_length_le
  have hv := Nt.val_lt (zyj X)
  rw [zyi, ← e1.out] at hv
  have hp := Nt.p2_le aZ
  have h3 : (X : Int) * 2 ^ z ≤ (X : Int) * 2147483648 := Int.mul_le_mul_of_nonneg_left hp xq
  rw [Int.natCast_mul, Int.natCast_pow, Nt.pw]
  have e : ((2 : Nat) : Int) = 2 := rfl
  rw [e]
  omega
 have a9 : L6 = N + 2 := by rw [f6.1]; exact hvn.out.1
 subst a9
 obtain ⟨gv, rfl, a8, br⟩ := f6.2.pos xq
 have hv6 := Lib.hid f6.nat.2.1
 have hu6 := Lib.hid (F5.out.2.below ap)
 have aE : Hid (Below w.heap.size w w6) := ai.out.trans (ap.mono ai.out.size)
 have aG : w.heap.size ≤ w4.heap.size := ax.out.size
 have bp : w4.heap.size ≤ w6.heap.size := by
  have h5 := (F5.out.2.blk)
  have := ai.out.size
  have := ap.size
  have h45 : w4.heap.size ≤ w5.heap.size := HW45.out
  omega
 clear f6 ap hy5
 have hl1 := aU.out
 have hl2 := hL5'.out
 have hmn := hMN.out
 go_wp2_with (at_builtin; refine wpList_appendG _ rfl (.tmp 67) (.tmp 68) _ rfl 132 .u32 4 Tryz.underlying28 zxd w4.heap.size A5 L5 c5 (Nt.digits (X * 2 ^ z)) rfl ?own ⟨w6.heap.size, 0, none⟩ 1 1 [0] rfl ?slr ?h63 ?hby ?hbase ?_)
 case own => exact hu6.out.below ((Below.refl _ _).alloc qyl _)
 case slr => exact (KBlk.new w6 132 [0]).slr_all rfl qyl yq
 case h63 => unfold maxLen; omega
 case hby => omega
 case hbase => simp; omega
 intro A7 c7 w7 aI aY aj am ak
 obtain ⟨gu, rfl, bc, a6⟩ := aI.pos xq
 have hU7 := Lib.hid aI
 have hbk5 := hu6.out.blk
 have hguv : gu ≠ gv := by
  rcases am _ rfl with ⟨p0, hp0, hp1⟩ | h
  ·have h1 := F5.out.2.blk p0 hp0
   have h2 : gu = p0.block := hp1
   omega
  have h2 : gu = w6.heap.size + 1 := h
  omega
 have aT : Hid (SlR .u32 w7 (some ⟨gv, 0, none⟩) (N + 2) c6 (Nt.digits (Y * 2 ^ z))) := by
  refine (hv6.out.alloc _).blk (aj gv xq ?_) (by simp; exact ak)
  intro p hp h
  have := F5.out.2.blk p hp
  omega
 have aw : Hid (Below w.heap.size w w7) := (aE.out.alloc aE.out.size _).trans (aY.mono aG)
 have hsz7' : gv < w7.heap.size := by omega
 have hgw : w.heap.size ≤ gu := by omega
 have hgvw : w.heap.size ≤ gv := by have := ai.out.size; omega
 have hLN : ¬ (L5 : Int) + 1 < (N1 : Int) + 1 := by omega
 have af : Hid (Nt.val (Nt.digits (X * 2 ^ z) ++ [0]) = Nt.val a * 2 ^ z) := by
  show _ = _
  rw [Nt.snoc_val, zyi, HX.out, Int.natCast_mul, Int.natCast_pow]
  simp
 have aC : Hid (Nt.val (Nt.digits (Y * 2 ^ z)) = Nt.val b * 2 ^ z) := by
  show _ = _
  rw [zyi, HY.out, Int.natCast_mul, Int.natCast_pow]
  rfl
 obtain ⟨M, hM⟩ : ∃ M, L5 + 1 = M + (N + 2) := ⟨L5 + 1 - (N + 2), by omega⟩
 have HM := Lib.hid hM
 have hMb : M + (N + 2) ≤ L5 + 1 ∧ L5 + 1 ≤ M + (N + 2) := by omega
 have hlow : Hid (Nt.val ((Nt.digits (X * 2 ^ z) ++ [0]).drop M) < Nt.val (Nt.digits (Y * 2 ^ z))) := Nt.ulow (zyj _) (by rw [← F5.out.1]; exact hM) (zyj _) hvn.out.1 hvn.out.2
 have hdU : Hid (Nt.Dig (Nt.digits (X * 2 ^ z) ++ [0])) := (zyj _).snoc xq
 have hdv := Lib.hid (zyj (Y * 2 ^ z))
 clear aI aY aj ak am hbk5 hu6 hv6 aE hM hz1 EY aU hL5' hMN e1 HXY ax ai HW45
 generalize Nt.digits (X * 2 ^ z) ++ [0] = U0 at *
 generalize Nt.digits (Y * 2 ^ z) = v at *
 go_wp2
 go_loopw [10] (fun bl wr => bl = .slice (some ⟨gu, 0, none⟩) (L5 + 1) c7 ∧ wr = w7) (fun _ _ => 0)
 case atStart => exact ⟨rfl, rfl⟩
 case round =>
  obtain ⟨rfl, rfl⟩ := hrel
  go_wp2_with (at_make; refine zxa _ rfl (.tmp 84) (.tmp 84) _ rfl 132 .u32 4 Tryz.underlying28 zxd _ _ _ _ M rfl rfl ?L ?C ?b2 ?b3 ?_)
  case L => show _ = _; omega
  case C => show _ = _; omega
  case b2 => omega
  case b3 => unfold maxLen; omega
  intro w8 aN ar a5
  have hR : Hid (RW w8 w w4.heap.size gu (L5 + 1) c7 gv c6 (N + 2) wr.heap.size v U0 (List.replicate M 0)) := ⟨hU7.out.below ar, aT.out.below ar, aN, aw.out.trans (ar.mono aw.out.size)⟩
  have hD : Hid (Nt.DivL M N (Nt.val a * 2 ^ z) (Nt.val v) U0 (List.replicate M 0)) := Nt.DivL.start (a := []) hdU.out (Nt.Dig.repl _) (by simp) af.out.symm hlow.out
  obtain ⟨gq, hgq⟩ : ∃ g, g = wr.heap.size := ⟨_, rfl⟩
  have ab : gq ≠ gu := by omega
  have aX : gv ≠ gq := by omega
  have aL : w.heap.size ≤ gq := by have := aw.out.size; omega
  rw [← hgq] at hR ⊢
  clear aN ar a5 hgq hU7 aT aw af hlow hdU
  go_wp2
  obtain ⟨wo, rfl⟩ : ∃ wo : World, wo = wr := ⟨_, rfl⟩
  go_loopw [14] (fun iv wr => ∃ (i : Nat) (U Q : List Int), i ≤ M ∧ iv = .int .i64 ((i : Int) - 1) ∧ Hid (RW wr w w4.heap.size gu (L5 + 1) c7 gv c6 (N + 2) gq v U Q) ∧ Hid (Q.length = M) ∧ Hid (Nt.DivL i N (Nt.val a * 2 ^ z) (Nt.val v) U Q)) (fun iv _ => (intOf iv + 1).toNat)
  case atStart => exact ⟨M, _, _, by omega, by congr 1; omega, hR, by simp [Hid], hD⟩
  case round =>
   obtain ⟨i, U, Q, hi, rfl, hR, hQ, hD⟩ := hrel
   rcases i with _ | j
   ·have hsq : SlR .u32 wr (some ⟨gq, 0, none⟩) M M Q := hR.out.kq.slr_all hQ.out qyl xw
    have hcu := hR.out.ku.slr.2.1
    have hcu2 := hR.out.ku.slr.2.2.1
    have hsu : SlR .u32 wr (some ⟨gu, 0, none⟩) (N + 2) c7 (U.take (N + 2)) := hR.out.ku.slr.upto xq
    have hsud : SlR .u32 wr.drew (some ⟨gu, 0, none⟩) (N + 2) c7 (U.take (N + 2)) := hsu
    have Hdu := Lib.hid (hD.out.dU.take (N + 2))
    have Hdq := Lib.hid hD.out.dQ
    have ba : (N : Int) + 2 ≤ c7 := by omega
    have hfin := Lib.hid (rdiv_fin (b := b) hR.out hD.out hvn.out.1 hdv.out aC.out)
    have bk : c7 ≤ 9223372036854775807 := by unfold maxLen at hcu2; omega
    clear hR hQ hD
    go_wp2
    go_region_with (first
     | (go_at_call 169; refine (zyz (some ⟨gq, 0, none⟩) M M Q _ ?_ Hdq.out xq).mono ?_; exact hsq; rintro e w9 ⟨A9, n9, c9, rfl, f9, ad⟩)
     | (go_at_call 308; refine (rShift_down _ _ _ z _ _ ?_ Hdu.out xq aZ).mono ?_; (first | exact hsud.below ad | exact hsu); rintro e bg ⟨bb, bh, bm, rfl, aR, ag⟩))
    all_goals
     have HF := Lib.hid (hfin.out w9 bg A9 n9 c9 bb bh bm f9 ⟨ad.os, ad.tape, ad.output, ad.size, ad.block⟩ aR ag)
     clear f9 ad aR ag
     go_wp2
     go_ret3
     exact HF.out
   have aV : ((j + 1 : Nat) : Int) - 1 = (j : Int) := by omega
   rw [aV]
   clear aV
   have hj : j + (N + 2) + 1 ≤ L5 + 1 := by omega
   have lU := Lib.hid hR.out.ku.1
   have Hj : Hid (j + (N + 2) + 1 ≤ U.length) := by show _ ≤ _; rw [lU.out]; exact hj
   have HU := Lib.hid (hD.out.pre (by have := lU.out; omega) hvn.out.1 hdv.out)
   have dU := Lib.hid hD.out.dU
   have c1 := hR.out.ucell (i := j + (N + 2)) xq
   have c2' := hR.out.ucell (i := j + (N + 1)) xq
   have c3 := hR.out.ucell (i := j + N) xq
   have d1 := hR.out.vcell (i := N + 1) xq
   have d2 := hR.out.vcell (i := N) xq
   have hv1 := hdv.out.at (N + 1)
   have hv2 := hdv.out.at N
   have hu0 := dU.out.at (j + (N + 2))
   have hu1 := dU.out.at (j + (N + 1))
   have hu2 := dU.out.at (j + N)
   have htop := hvn.out.2
   obtain ⟨v1, aF⟩ : ∃ x, x = v[N + 1]?.getD 0 := ⟨_, rfl⟩
   obtain ⟨v2, aA⟩ : ∃ x, x = v[N]?.getD 0 := ⟨_, rfl⟩
   obtain ⟨u0, aD⟩ : ∃ x, x = U[j + (N + 2)]?.getD 0 := ⟨_, rfl⟩
   obtain ⟨u1, aB⟩ : ∃ x, x = U[j + (N + 1)]?.getD 0 := ⟨_, rfl⟩
   obtain ⟨u2, ay⟩ : ∃ x, x = U[j + N]?.getD 0 := ⟨_, rfl⟩
   rw [← aF] at d1 hv1 htop
   rw [← aA] at d2 hv2
   rw [← aD] at c1 hu0
   rw [← aB] at c2' hu1
   rw [← ay] at c3 hu2
   have Ev1 := Lib.hid aF
   have Ev2 := Lib.hid aA
   have Eu0 := Lib.hid aD
   have Eu1 := Lib.hid aB
   have Eu2 := Lib.hid ay
   have bn : (v1 == 0) = false := by rw [beq_eq_false_iff_ne]; omega
   have or0 := Nt.or_top hu0.1 hu0.2 hu1.1 hu1.2
   have hRd : Hid (∀ k, RW (wr.drewN k) w w4.heap.size gu (L5 + 1) c7 gv c6 (N + 2) gq v U Q) := fun k => hR.out.drewN k
   have ac : IntKind.i64.wrap ((j : Int) + ((N : Int) + 2)) = (j : Int) + ((N : Int) + 2) := IntWalk.i64_in _ xq
   have ae : IntKind.i64.wrap ((j : Int) + ((N : Int) + 2) - 1) = (j : Int) + ((N : Int) + 1) := by rw [show (j : Int) + ((N : Int) + 2) - 1 = (j : Int) + ((N : Int) + 1) by omega]; exact IntWalk.i64_in _ xq
   have ah : ((j : Int) + ((N : Int) + 2)).toNat = j + (N + 2) := by omega
   have a3 : ((j : Int) + ((N : Int) + 1)).toNat = j + (N + 1) := by omega
   clear aF aA aD aB ay
   go_wp2
   go_quiet (fail)
   try rw [or0]
   obtain ⟨top, aa⟩ : ∃ top, top = u0 * 4294967296 + u1 := ⟨_, rfl⟩
   have Htop := Lib.hid aa
   have t0 : 0 ≤ top := by omega
   have t1 : top < 18446744073709551616 := by omega
   rw [← aa]
   clear aa or0 ac ae ah a3 c1 c2' c3 d1 d2 hR
   have hR1 := Lib.hid (hRd.out nq)
   clear hRd
   generalize wr.drewN nq = wa at *
   have d1 : wa.cell? ⟨gv, N + 1, none⟩ = some (.int .u32 v1) := by rw [Ev1.out]; exact hR1.out.vcell xq
   have hT : Hid (Nt.DivFacts j N U v top u2 v1 v2) := Nt.div_facts hdv.out dU.out hvn.out.1 Hj.out Ev1.out Ev2.out Eu0.out Eu1.out Eu2.out Htop.out htop HU.out
   obtain ⟨T, hTd⟩ : ∃ T, T = Nt.valTo (U.drop j) (N + 3) / Nt.val v := ⟨_, rfl⟩
   have HTd := Lib.hid hTd
   clear hTd
   have Hst : Hid (Nt.Guess T top v1 v2 u2 (top / v1) (top % v1)) := by
    have h := hT.out
    exact Nt.Guess.start t0 xq (by rw [HTd.out]; exact h.t0) (by rw [HTd.out]; exact h.ta) xq xq
   have b0 : 0 ≤ top / v1 := Int.ediv_nonneg t0 xq
   have b1 : top / v1 ≤ 8589934592 := Int.ediv_le_of_le_mul xq xq
   have b2 : 0 ≤ top % v1 := Int.emod_nonneg _ xq
   have b3 : top % v1 < 4294967296 := by have := Int.emod_lt_of_pos top (b := v1) xq; omega
   go_upto_block 4 with (fail)
   go_cut [16] (fun al wx => ∃ q : Int, al = .int .u64 q ∧ 0 ≤ q ∧ q < 4294967296 ∧ Hid (Nt.Good T top v1 v2 u2 q) ∧ Hid (RW wx w w4.heap.size gu (L5 + 1) c7 gv c6 (N + 2) gq v U Q))
   case first =>
    go_wp2
    obtain ⟨a2, rfl⟩ : ∃ a2 : World, a2 = wr := ⟨_, rfl⟩
    go_loopw [16, 17] (fun al be wr => ∃ g r : Int, al = .int .u64 g ∧ be = .int .u64 r ∧ 0 ≤ g ∧ g ≤ 8589934592 ∧ 0 ≤ r ∧ r < 4294967296 ∧ Hid (Nt.Guess T top v1 v2 u2 g r) ∧ Hid (RW wr w w4.heap.size gu (L5 + 1) c7 gv c6 (N + 2) gq v U Q)) (fun al _ _ => (intOf al).toNat)
    case atStart => exact ⟨_, _, rfl, rfl, b0, b1, b2, b3, Hst, hR1⟩
    case round =>
     obtain ⟨g, r, rfl, rfl, g0, g1, r0, r1, hg, hRg⟩ := hrel
     clear b0 b1 b2 b3 Hst hR1 d1
     have k1 : wr.cell? ⟨gv, N + 1, none⟩ = some (.int .u32 v1) := by rw [Ev1.out]; exact hRg.out.vcell xq
     have k2 : wr.cell? ⟨gv, N, none⟩ = some (.int .u32 v2) := by rw [Ev2.out]; exact hRg.out.vcell xq
     have k3 : wr.cell? ⟨gu, j + N, none⟩ = some (.int .u32 u2) := by rw [Eu2.out]; exact hRg.out.ucell xq
     have ac : IntKind.i64.wrap ((j : Int) + ((N : Int) + 2)) = (j : Int) + ((N : Int) + 2) := IntWalk.i64_in _ xq
     have ae : IntKind.i64.wrap ((j : Int) + ((N : Int) + 2) - 2) = (j : Int) + (N : Int) := by rw [show (j : Int) + ((N : Int) + 2) - 2 = (j : Int) + (N : Int) by omega]; exact IntWalk.i64_in _ xq
     have ah : ((j : Int) + (N : Int)).toNat = j + N := by omega
     by_cases hq : 4294967296 ≤ g
     ·skip
      have hn' : Hid (Nt.Guess T top v1 v2 u2 (g - 1) (r + v1)) := hg.out.next (by rw [HTd.out]; exact hT.out.t0) (by rw [HTd.out]; exact hT.out.t1) (by rw [HTd.out]; exact hT.out.ta) xq xq (.inl hq)
      have gp : 1 ≤ g := by have := hn'.out.q0; omega
      have hRx : Hid (∀ k, RW (wr.drewN k) w w4.heap.size gu (L5 + 1) c7 gv c6 (N + 2) gq v U Q) := fun k => hRg.out.drewN k
      have an : Hid (∀ k, (wr.drewN k).cell? ⟨gv, N + 1, none⟩ = some (.int .u32 v1)) := fun _ => k1
      clear hg hRg
      go_wp2
      go_quiet (fail)
      have hR3 := Lib.hid (hRx.out nq)
      have e3 := an.out nq
      generalize wr.drewN nq = wq at *
      clear hRx an k1 k2 k3 ac ae ah
      by_cases hr : 4294967296 ≤ r + v1
      ·have hG : Hid (Nt.Good T top v1 v2 u2 (g - 1)) := hn'.out.broke hT.out.tb hr xq xq xq xq
       go_wp2
       go_meet
       exact ⟨g - 1, rfl, by omega, hG.out.q1, hG, hR3⟩
      go_wp2
      go_roundw
      case rel => first | exact ⟨g - 1, r + v1, rfl, rfl, hn'.out.q0, by omega, by omega, by omega, hn', hR3⟩ | exact ⟨by omega, by omega⟩ | exact ⟨by omega, by omega, by omega⟩ | omega
      case measure => simp [intOf]; omega
     by_cases ht : r * 4294967296 + u2 < g * v2
     ·skip
      have hn' : Hid (Nt.Guess T top v1 v2 u2 (g - 1) (r + v1)) := hg.out.next (by rw [HTd.out]; exact hT.out.t0) (by rw [HTd.out]; exact hT.out.t1) (by rw [HTd.out]; exact hT.out.ta) xq xq (.inr ht)
      have gp : 1 ≤ g := by have := hn'.out.q0; omega
      have or1 := Nt.or_top r0 r1 hu2.1 hu2.2
      have a7 : decide (4294967296 ≤ g) = false := by simpa using hq
      have mb := Nt.mul_bd32 (x := g) (y := v2) ⟨g0, by omega⟩ hv2
      have htd : decide (bits BinOp.or IntKind.u64 (r * 4294967296) u2 < g * v2) = true := by rw [or1]; simpa using ht
      have aS : g < 4294967296 := by omega
      clear or1
      have hRx : Hid (∀ k, RW (wr.drewN k) w w4.heap.size gu (L5 + 1) c7 gv c6 (N + 2) gq v U Q) := fun k => hRg.out.drewN k
      have an : Hid (∀ k, (wr.drewN k).cell? ⟨gv, N + 1, none⟩ = some (.int .u32 v1)) := fun _ => k1
      clear hg hRg
      go_wp2
      go_quiet (fail)
      have hR3 := Lib.hid (hRx.out nq)
      have e3 := an.out nq
      generalize wr.drewN nq = wq at *
      clear hRx an k1 k2 k3 ac ae ah
      by_cases hr : 4294967296 ≤ r + v1
      ·have hG : Hid (Nt.Good T top v1 v2 u2 (g - 1)) := hn'.out.broke hT.out.tb hr xq xq xq xq
       go_wp2
       go_meet
       exact ⟨g - 1, rfl, by omega, hG.out.q1, hG, hR3⟩
      go_wp2
      go_roundw
      case rel => first | exact ⟨g - 1, r + v1, rfl, rfl, hn'.out.q0, by omega, by omega, by omega, hn', hR3⟩ | exact ⟨by omega, by omega⟩ | exact ⟨by omega, by omega, by omega⟩ | omega
      case measure => simp [intOf]; omega
     have hG : Hid (Nt.Good T top v1 v2 u2 g) := hg.out.good xq xq
     have or1 := Nt.or_top r0 r1 hu2.1 hu2.2
     have aS : g < 4294967296 := by omega
     have a7 : decide (4294967296 ≤ g) = false := by simpa using hq
     have mb := Nt.mul_bd32 (x := g) (y := v2) ⟨g0, by omega⟩ hv2
     have htd : decide (bits BinOp.or IntKind.u64 (r * 4294967296) u2 < g * v2) = false := by rw [or1]; simpa using ht
     have hRx : Hid (∀ k, RW (wr.drewN k) w w4.heap.size gu (L5 + 1) c7 gv c6 (N + 2) gq v U Q) := fun k => hRg.out.drewN k
     clear hg hRg or1
     go_wp2
     go_quiet (fail)
     have hR3 := Lib.hid (hRx.out nq)
     clear hRx ac ae ah
     go_wp2
     go_meet
     exact ⟨g, rfl, g0, aS, hG, hR3⟩
   case rest =>
    obtain ⟨q, rfl, q0, q1, hG, aK⟩ := hcut
    clear b0 b1 b2 b3 Hst hR1 d1
    go_wp2
    obtain ⟨aO, rfl⟩ : ∃ aO : World, aO = wr := ⟨_, rfl⟩
    go_loopw [18, 19, 20] (fun bv cv iv wr => ∃ (i : Nat) (cr bo : Int) (S : List Int), i ≤ N + 2 ∧ 0 ≤ cr ∧ cr ≤ 4294967295 ∧ 0 ≤ bo ∧ bo ≤ 1 ∧ bv = .int .u64 bo ∧ cv = .int .u64 cr ∧ iv = .int .i64 i ∧ Hid (RW wr w w4.heap.size gu (L5 + 1) c7 gv c6 (N + 2) gq v S Q) ∧ Hid (Nt.DigP j N i U v S q cr bo)) (fun _ _ iv _ => N + 2 - (intOf iv).toNat)
    case atStart => exact ⟨0, 0, 0, U, by omega, by omega, by omega, by omega, by omega, rfl, rfl, rfl, aK, rfl, dU.out, by simp [zyy], fun _ _ => rfl⟩
    case round =>
     obtain ⟨i, cr, bo, S, hi2, cr0, cr1, o0, o1, rfl, rfl, rfl, hRm, hP⟩ := hrel
     clear aK
     by_cases hin : i < N + 2
     ·have kv := hRm.out.vcell (i := i) hin
      have ku := hRm.out.ucell (i := i + j) xq
      have kf := hRm.out.ku.frozen (i + j)
      have hd := hdv.out.at i
      have hx := hP.out.dig.at (i + j)
      have mb := Nt.mul_bd32 (x := q) (y := v[i]?.getD 0) ⟨q0, q1⟩ hd
      obtain ⟨d, hdd⟩ : ∃ d, d = v[i]?.getD 0 := ⟨_, rfl⟩
      obtain ⟨x, hxx⟩ : ∃ x, x = S[i + j]?.getD 0 := ⟨_, rfl⟩
      have hn0 := Lib.hid (hP.out.next (p := cr + q * d) (t := x - (cr + q * d) % 4294967296 - bo) Hj.out hin hdd (by rw [Nat.add_comm j i]; exact hxx) xq rfl (by rw [hxx]; omega) (by rw [hxx]; omega))
      rw [← hdd] at kv hd mb
      rw [← hxx] at ku hx
      have mb0 := mb.1
      have mb1 := mb.2
      have and1 := Nt.and_low (p := cr + q * d) xq xq
      have hin' : (i : Int) < (N : Int) + 2 := by omega
      have hij : (i : Int) + (j : Int) < (L5 : Int) + 1 := by omega
      clear hdd hxx mb hP
      by_cases hlt : x < (cr + q * d) % 4294967296 + bo
      ·skip
       have hl2 : x - (cr + q * d) % 4294967296 - bo < 0 := by omega
       have hn1 := hn0.out
       rw [if_pos hl2, show (x - (cr + q * d) % 4294967296 - bo) % 4294967296 = x + 4294967296 - ((cr + q * d) % 4294967296 + bo) by omega, Nat.add_comm j i] at hn1
       have Hn := Lib.hid hn1
       have z0 : 0 ≤ x + 4294967296 - ((cr + q * d) % 4294967296 + bo) := by omega
       have z1 : x + 4294967296 - ((cr + q * d) % 4294967296 + bo) < 4294967296 := by omega
       clear hl2 hn1 hn0
       go_wp2
       go_roundw
       case rel => exact ⟨i + 1, _, _, _, by omega, by omega, by omega, by omega, by omega, rfl, rfl, by go_num, hRm.out.setU (fun h => hguv h.symm) ab hgw (i + j) _, Hn⟩
       case measure => simp [intOf]; omega
      have hl2 : ¬ x - (cr + q * d) % 4294967296 - bo < 0 := by omega
      have hn1 := hn0.out
      rw [if_neg hl2, show (x - (cr + q * d) % 4294967296 - bo) % 4294967296 = x - ((cr + q * d) % 4294967296 + bo) by omega, Nat.add_comm j i] at hn1
      have Hn := Lib.hid hn1
      have z0 : 0 ≤ x - ((cr + q * d) % 4294967296 + bo) := by omega
      have z1 : x - ((cr + q * d) % 4294967296 + bo) < 4294967296 := by omega
      clear hl2 hn1 hn0
      go_wp2
      go_roundw
      case rel => exact ⟨i + 1, _, _, _, by omega, by omega, by omega, by omega, by omega, rfl, rfl, by go_num, hRm.out.setU (fun h => hguv h.symm) ab hgw (i + j) _, Hn⟩
      case measure => simp [intOf]; omega
     obtain rfl : i = N + 2 := by omega
     have hu := hRm.out.ucell (i := j + (N + 2)) xq
     have hf := hRm.out.ku.frozen (j + (N + 2))
     rw [hP.out.same _ (.inr qyl), ← Eu0.out] at hu
     have hjn : (j : Int) + ((N : Int) + 2) < (L5 : Int) + 1 := by omega
     by_cases ht : u0 < cr + bo
     ·have q2 := hP.out.neg (t := u0 - cr - bo) hvn.out.1 dU.out Eu0.out rfl xq q0
      obtain ⟨tt, htt⟩ : ∃ tt, tt = u0 - cr - bo := ⟨_, rfl⟩
      have Htt := Lib.hid htt
      have bj : -4294967296 ≤ tt := by omega
      have bf : tt < 0 := by omega
      have z0 : 0 ≤ u0 + 4294967296 - (cr + bo) := by omega
      have z1 : u0 + 4294967296 - (cr + bo) < 4294967296 := by omega
      have etm : Hid (u0 + 4294967296 - (cr + bo) = tt % 4294967296) := by show _ = _; omega
      have aM : Hid (RW (wr.setCell ⟨gu, j + (N + 2), none⟩ (.int .u32 (u0 + 4294967296 - (cr + bo)))) w w4.heap.size gu (L5 + 1) c7 gv c6 (N + 2) gq v (S.set (j + (N + 2)) (tt % 4294967296)) Q) := by
       rw [etm.out]
       exact hRm.out.setU (fun h => hguv h.symm) ab hgw _ _
      have hlS : Hid ((S.set (j + (N + 2)) (tt % 4294967296)).length = L5 + 1) := by show _ = _; rw [List.length_set, hP.out.len]; exact lU.out
      have dS : Hid (Nt.Dig (S.set (j + (N + 2)) (tt % 4294967296))) := hP.out.dig.set _ xq
      clear htt
      go_wp2
      obtain ⟨aW, rfl⟩ : ∃ aW : World, aW = wr := ⟨_, rfl⟩
      go_loopw [25, 26] (fun cv iv wr => ∃ (i : Nat) (c : Int) (R : List Int), i ≤ N + 2 ∧ 0 ≤ c ∧ c ≤ 1 ∧ cv = .int .u64 c ∧ iv = .int .i64 i ∧ Hid (RW wr w w4.heap.size gu (L5 + 1) c7 gv c6 (N + 2) gq v R Q) ∧ Hid (Nt.DigQ j N i (S.set (j + (N + 2)) (tt % 4294967296)) v R c)) (fun _ iv _ => N + 2 - (intOf iv).toNat)
      case atStart => exact ⟨0, 0, _, by omega, by omega, by omega, rfl, rfl, aM, rfl, dS.out, by simp [zyy], fun _ _ => rfl⟩
      case round =>
       obtain ⟨i, c, R, hi3, c0, c1, rfl, rfl, hRa, hA⟩ := hrel
       clear aM hu hf
       by_cases hin : i < N + 2
       ·have kv := hRa.out.vcell (i := i) hin
        have ku := hRa.out.ucell (i := i + j) xq
        have hd := hdv.out.at i
        have hx := hA.out.dig.at (i + j)
        obtain ⟨d, hdd⟩ : ∃ d, d = v[i]?.getD 0 := ⟨_, rfl⟩
        obtain ⟨x, hxx⟩ : ∃ x, x = R[i + j]?.getD 0 := ⟨_, rfl⟩
        have hn1 := hA.out.next (x := x) (d := d) (t := c + (x + d)) (by have := hlS.out; omega) hin hdd (by rw [Nat.add_comm j i]; exact hxx) xq
        rw [Nat.add_comm j i] at hn1
        have Hn := Lib.hid hn1
        rw [← hdd] at kv hd
        rw [← hxx] at ku hx
        have hin' : (i : Int) < (N : Int) + 2 := by omega
        have hij : (i : Int) + (j : Int) < (L5 : Int) + 1 := by omega
        have hRx : Hid (∀ k, RW (wr.drewN k) w w4.heap.size gu (L5 + 1) c7 gv c6 (N + 2) gq v R Q) := fun k => hRa.out.drewN k
        have ac : IntKind.i64.wrap ((i : Int) + (j : Int)) = (i : Int) + (j : Int) := IntWalk.i64_in _ xq
        have ae : ((i : Int) + (j : Int)).toNat = i + j := by omega
        clear hdd hxx hn1 hA hRa
        go_wp2
        go_quiet (fail)
        have hR6 := Lib.hid (hRx.out nq)
        clear hRx ac ae kv ku
        generalize wr.drewN nq = wq at *
        have ku := hR6.out.ucell (i := i + j) xq
        have kf := hR6.out.ku.frozen (i + j)
        go_wp2
        go_roundw
        case rel => exact ⟨i + 1, _, _, by omega, by omega, by omega, rfl, by go_num, hR6.out.setU (fun h => hguv h.symm) ab hgw (i + j) _, Hn⟩
        case measure => simp [intOf]; omega
       obtain rfl : i = N + 2 := by omega
       obtain ⟨z1, z2, z3, z4⟩ := Nt.DigQ.done hP.out hA.out Hj.out hvn.out.1 hdv.out dU.out Eu0.out Htt.out bf bj q0 q1 hT.out HTd.out hG.out xq hv2.1
       have hu := hRa.out.ucell (i := j + (N + 2)) xq
       have hf := hRa.out.ku.frozen (j + (N + 2))
       rw [z1] at hu
       have hDR := Lib.hid z4
       obtain ⟨y2, a1⟩ : ∃ y2, y2 = tt % 4294967296 := ⟨_, rfl⟩
       rw [← a1] at hu z3
       have y20 : 0 ≤ y2 := by omega
       have y21 : y2 < 4294967296 := by omega
       have hRz : Hid (RW (wr.setCell ⟨gu, j + (N + 2), none⟩ (.int .u32 0)) w w4.heap.size gu (L5 + 1) c7 gv c6 (N + 2) gq v (R.set (j + (N + 2)) 0) Q) := hRa.out.setU (fun h => hguv h.symm) ab hgw _ _
       clear z1 z4 a1
       have hcq := hRz.out.kq.cell (i := j) (by have := hQ.out; omega)
       have hfq := hRz.out.kq.frozen j
       have hjM : (j : Int) < M := by omega
       go_wp2
       go_roundw
       case rel =>
        obtain ⟨d1, d2, d3, d4, d5, d6, d7⟩ := hDR.out
        exact ⟨j, _, _, by omega, rfl, hRz.out.setQ aX ab aL j _, by have := hQ.out; show _ = _; simpa using this, hD.out.next (by have := lU.out; omega) (by have := hQ.out; omega) hvn.out.1 hdv.out d1 d2 d3 d4 d5 d6 d7⟩
       case measure => simp [intOf]
     have hDR := Lib.hid (hP.out.done (t := u0 - (cr + bo)) Hj.out hvn.out.1 hdv.out dU.out Eu0.out xq xq xq q0 q1 hT.out HTd.out hG.out xq hv2.1)
     have z0 : 0 ≤ u0 - (cr + bo) := by omega
     have z1 : u0 - (cr + bo) < 4294967296 := by omega
     have hRz : Hid (RW (wr.setCell ⟨gu, j + (N + 2), none⟩ (.int .u32 (u0 - (cr + bo)))) w w4.heap.size gu (L5 + 1) c7 gv c6 (N + 2) gq v (S.set (j + (N + 2)) (u0 - (cr + bo))) Q) := hRm.out.setU (fun h => hguv h.symm) ab hgw _ _
     have hcq := hRz.out.kq.cell (i := j) (by have := hQ.out; omega)
     have hfq := hRz.out.kq.frozen j
     have hjM : (j : Int) < M := by omega
     go_wp2
     go_roundw
     case rel =>
      obtain ⟨d1, d2, d3, d4, d5, d6, d7⟩ := hDR.out
      exact ⟨j, _, _, by omega, rfl, hRz.out.setQ aX ab aL j _, by have := hQ.out; show _ = _; simpa using this, hD.out.next (by have := lU.out; omega) (by have := hQ.out; omega) hvn.out.1 hdv.out d1 d2 d3 d4 d5 d6 d7⟩
     case measure => simp [intOf]
theorem rDivMod_any (A B : Option Addr) (n c m d : Nat) (a b : List Int) (w : World) (ha : SlR .u32 w A n c a) (hb : SlR .u32 w B m d b) (da : Nt.Dig a) (db : Nt.Dig b) (hn : n ≤ 500000000) (hm : m ≤ 500000000) (hz : Nt.val b ≠ 0) :
  qyc 289 #[.slice A n c, .slice B m d] w fun e w' => DivMF w w' e (Nt.val a) (Nt.val b) := by
 have b0 := zyw db
 rcases Int.lt_or_le (Nt.val b) 4294967296 with h | h
 ·exact rDivMod_one _ _ _ _ _ _ _ _ _ ha hb da db xq xq xq h
 rcases Int.lt_or_le (Nt.val a) (Nt.val b) with h' | h'
 ·exact rDivMod_lt _ _ _ _ _ _ _ _ _ ha hb da db xq xq h h'
 exact rDivMod_long _ _ _ _ _ _ _ _ _ ha hb da db hn hm h h'
theorem rGcd_any (A B : Option Addr) (n c m d : Nat) (a b : List Int) (w : World) (ha : SlR .u32 w A n c a) (hb : SlR .u32 w B m d b) (da : Nt.Dig a) (db : Nt.Dig b) (hn : n ≤ 500000000) (hm : m ≤ 500000000) :
  qyc 288 #[.slice A n c, .slice B m d] w fun e w' => ∃ A' n' c', e = .returned (.slice A' n' c') ∧ NatF w w' A' n' c' (Nat.gcd (Nt.val a).toNat (Nt.val b).toNat) ∧ Below w.heap.size w w' := by
 have l1 : Hid ((Nt.digits (Nt.val a).toNat).length ≤ n) := by rw [← zxl da, ← ha.1]; exact zyh a
 have l2 : Hid ((Nt.digits (Nt.val b).toNat).length ≤ m) := by rw [← zxl db, ← hb.1]; exact zyh b
 go_enter Tryz.func288, Tryz.ntmps288
 go_wp2_with fail
 refine (zyz _ _ _ _ _ ha da xq).mono ?_
 rintro e w1 ⟨A1, n1, c1, rfl, f1, b1⟩
 go_wp2_with fail
 refine (zyz _ _ _ _ _ (hb.below b1) db xq).mono ?_
 rintro e w2 ⟨A2, n2, c2, rfl, f2, b2⟩
 have g1 : NatF w w2 A1 n1 c1 (Nt.val a).toNat := f1.nat.below b2
 have g2 : NatF w w2 A2 n2 c2 (Nt.val b).toNat := f2.nat.mono b1.size
 have hB : Hid (Below w.heap.size w w2) := b1.trans (b2.mono b1.size)
 have ac : n1 ≤ 500000000 := by have := f1.1; have := l1.out; omega
 have ab : n2 ≤ 500000000 := by have := f2.1; have := l2.out; omega
 clear f1 f2 b1 b2 ha hb l1 l2 da db
 obtain ⟨X, hX⟩ : ∃ X, X = (Nt.val a).toNat := ⟨_, rfl⟩
 obtain ⟨Y, hY⟩ : ∃ Y, Y = (Nt.val b).toNat := ⟨_, rfl⟩
 obtain ⟨G, hG⟩ : ∃ G, G = Nat.gcd (Nt.val a).toNat (Nt.val b).toNat := ⟨_, rfl⟩
 have HG := Lib.hid hG
 have aa : Hid (Nat.gcd X Y = G) := by show _ = _; rw [hX, hY, hG]
 rw [← hX] at g1
 rw [← hY] at g2
 have G1 := Lib.hid g1
 have G2 := Lib.hid g2
 clear hX hY hG g1 g2
 go_wp2
 go_loopw [0, 1] (fun s5 s6 wx => ∃ A1 n1 c1 A2 n2 c2 X Y, s5 = .slice A1 n1 c1 ∧ s6 = .slice A2 n2 c2 ∧ Hid (NatF w wx A1 n1 c1 X) ∧ Hid (NatF w wx A2 n2 c2 Y) ∧ Hid (Below w.heap.size w wx) ∧ n1 ≤ 500000000 ∧ n2 ≤ 500000000 ∧ Hid (Nat.gcd X Y = G)) (fun _ s6 wx => sval wx s6)
 case atStart => exact ⟨A1, n1, c1, A2, n2, c2, X, Y, rfl, rfl, G1, G2, hB, ac, ab, aa⟩
 case round =>
  clear G1 G2 hB aa ac ab
  obtain ⟨A1, n1, c1, A2, n2, c2, X, Y, rfl, rfl, K1, K2, KB, ac, ab, aa⟩ := hrel
  rcases Nat.eq_zero_or_pos n2 with h0 | h0
  ·subst h0
   have hY : Hid (X = G) := by
    have e1 := K2.out.1
    have : Y = 0 := by
     rcases Nat.eq_zero_or_pos Y with h | h
     ·exact h
     have := zwe h; omega
    have e2 := aa.out
    rw [this, Nat.gcd_zero_right] at e2
    exact e2
   go_wp2
   go_ret
   refine ⟨A1, n1, c1, rfl, ?_, KB.out⟩
   rw [← HG.out, ← hY.out]
   exact K1.out
  have h0' : (0 : Int) < n2 := by omega
  have hYp : 0 < Y := by
   rcases Nat.eq_zero_or_pos Y with h | h
   ·have e1 := K2.out.1; rw [h, zyu] at e1; simp at e1; omega
   exact h
  go_wp2_with fail
  refine (rDivMod_any _ _ _ _ _ _ _ _ _ K1.out.2.1 K2.out.2.1 (zyj X) (zyj Y) ac ab (by rw [zyi]; omega)).mono ?_
  rintro e w5 ⟨A3, n3, c3, A4, n4, c4, rfl, f1, f2, hbl⟩
  rw [zyi, zyi, ← Int.natCast_emod, Int.toNat_natCast] at f2
  have hr := Nat.mod_lt X hYp
  have ad : n4 ≤ 500000000 := by rw [f2.1]; have := zxe (Nat.le_of_lt hr); rw [← K2.out.1] at this; omega
  have hG' : Hid (Nat.gcd Y (X % Y) = G) := by show _ = _; rw [← aa.out, Nat.gcd_comm X Y, Nat.gcd_rec Y X, Nat.gcd_comm]
  have E1 : Hid (NatF w w5 A2 n2 c2 Y) := K2.out.below hbl
  have E2 : Hid (NatF w w5 A4 n4 c4 (X % Y)) := f2.mono KB.out.size
  have E3 : Hid (Below w.heap.size w w5) := KB.out.trans (hbl.mono KB.out.size)
  have Hms : Hid (sval w5 (.slice A4 n4 c4) < sval wr (.slice A2 n2 c2)) := by
   show _ < _
   rw [sval_slr f2.2.1, sval_slr K2.out.2.1, zyi, zyi]
   omega
  clear f1 f2 hbl
  go_wp2
  go_roundw
  case rel => exact ⟨A2, n2, c2, A4, n4, c4, Y, X % Y, rfl, rfl, E1, E2, E3, ab, ad, hG'⟩
  case measure => exact Hms.out
def dl (N : Nat) : Nat := (Nt.digits N).length
namespace Nt
theorem dl_mono {x y : Nat} (h : y ≤ x) : dl y ≤ dl x := zxe h
theorem dl_lt {x : Nat} : (x : Int) < pw (dl x) := by have := val_lt (zyj x); rw [zyi] at this; exact this
theorem dl_le {x n : Nat} (h : (x : Int) < pw n) : dl x ≤ n := digits_length_le h
theorem dl_mul (x y : Nat) : dl (x * y) ≤ dl x + dl y := by
 apply dl_le
 rw [pw_add, Int.natCast_mul]
 have h1 := dl_lt (x := x)
 have h2 := dl_lt (x := y)
 have a : (x : Int) * y ≤ x * pw (dl y) := Int.mul_le_mul_of_nonneg_left xq xq
 have b : (x : Int) * pw (dl y) < pw (dl x) * pw (dl y) := Int.mul_lt_mul_of_pos_right h1 (pw_pos _)
 omega
theorem dl_add (x y : Nat) : dl (x + y) ≤ max (dl x) (dl y) + 1 := by
 apply dl_le
 rw [pw, Int.natCast_add]
 have h1 := dl_lt (x := x)
 have h2 := dl_lt (x := y)
 have a := pw_mono (Nat.le_max_left (dl x) (dl y))
 have b := pw_mono (Nat.le_max_right (dl x) (dl y))
 have := pw_pos (max (dl x) (dl y))
 omega
theorem dl_one : dl 1 = 1 := by unfold dl; rw [digits, if_neg xq, digits, if_pos xq]; rfl
theorem dl_zero : dl 0 = 0 := by unfold dl; rw [zyu]; rfl
theorem dl_pos {x : Nat} : 0 < dl x ↔ 0 < x := by
 constructor
 ·intro h0
  rcases Nat.eq_zero_or_pos x with h' | h'
  ·rw [h', dl_zero] at h0; omega
  exact h'
 exact zwe
def sg (s : Bool) (N : Nat) : Int := if s then -(N : Int) else (N : Int)
theorem sg_abs (s : Bool) (N : Nat) : (sg s N).natAbs = N := by unfold sg; split <;> omega
theorem sg_false (N : Nat) : sg false N = N := rfl
theorem sg_true (N : Nat) : sg true N = -N := rfl
theorem sg_add1 {s t : Bool} (N M : Nat) (h : (s == t) = true) : sg s (N + M) = sg s N + sg t M := by cases s <;> cases t <;> simp_all [sg] <;> omega
theorem sg_add2 {s t : Bool} (N M : Nat) (h : (s == t) = false) (c : (cmpS (N : Int) (M : Int) == -1) = true) : sg t (M - N) = sg s N + sg t M := by
 unfold cmpS at c
 cases s <;> cases t <;> simp_all [sg] <;> omega
theorem sg_add3 {s t : Bool} (N M : Nat) (h : (s == t) = false) (c : (cmpS (N : Int) (M : Int) == -1) = false) : sg s (N - M) = sg s N + sg t M := by
 unfold cmpS at c
 cases s <;> cases t <;> simp_all [sg] <;> omega
theorem sg_mul (s t : Bool) (N M : Nat) : sg (!(s == t)) (N * M) = sg s N * sg t M := by
 cases s <;> cases t <;> simp [sg, Int.neg_mul, Int.mul_neg]
theorem sg_neg (s : Bool) (N : Nat) : sg (!s) N = -sg s N := by cases s <;> simp [sg]
theorem sg_cmp0 {s : Bool} (N : Nat) : cmpS (sg s N) 0 = if (cmpS (N : Int) 0 == 0) = true then 0 else if s = true then -1 else 1 := by
 unfold cmpS sg
 cases s <;> simp <;> (repeat' split) <;> first | rfl | omega | simp_all
theorem cmp_self_sub (x y : Int) : cmpS (x - y) 0 = cmpS x y := by
 unfold cmpS
 rcases Int.lt_trichotomy x y with h | h | h
 ·rw [if_pos xq, if_pos h]
 ·rw [if_neg xq, if_pos xq, if_neg xq, if_pos h]
 rw [if_neg xq, if_neg xq, if_neg xq, if_neg xq]
theorem cmp_range (x y : Int) : cmpS x y = -1 ∧ x < y ∨ cmpS x y = 0 ∧ x = y ∨ cmpS x y = 1 ∧ y < x := by
 unfold cmpS
 rcases Int.lt_trichotomy x y with h | h | h
 ·simp [h]
 ·simp [h]
 rw [if_neg xq, if_neg xq]; simp [h]
theorem cmp_lt {x y : Int} (h : x < y) : cmpS x y = -1 := by unfold cmpS; rw [if_pos h]
theorem cmp_gt {x y : Int} (h : y < x) : cmpS x y = 1 := by unfold cmpS; rw [if_neg xq, if_neg xq]
end Nt
structure Sl where
 a : Option Addr
 n : Nat
 c : Nat
@[reducible] def Sl.v (x : Sl) : Value := .slice x.a x.n x.c
structure IL where
 s : Bool
 m : Sl
@[reducible] def IL.v (i : IL) : Value := .agg #[.bool i.s, .slice i.m.a i.m.n i.m.c]
structure RL where
 s : Bool
 m : Sl
 d : Sl
def RL.cs (r : RL) : List Value := [.bool r.s, .slice r.m.a r.m.n r.m.c, .slice r.d.a r.d.n r.d.c]
def IL.cs (i : IL) : List Value := [.bool i.s, .slice i.m.a i.m.n i.m.c]
@[reducible] def RL.v (r : RL) : Value := .agg #[.bool r.s, .slice r.m.a r.m.n r.m.c, .slice r.d.a r.d.n r.d.c]
def NatV (u : World) (x : Sl) (N K : Nat) : Prop := ∃ l, SlR .u32 u x.a x.n x.c l ∧ Nt.Dig l ∧ x.n ≤ K ∧ Nt.val l = N
def NatN (u : World) (x : Sl) (N K : Nat) : Prop := x.n = dl N ∧ SlR .u32 u x.a x.n x.c (Nt.digits N) ∧ dl N ≤ K
def IntV (u : World) (i : IL) (z : Int) (K : Nat) : Prop := ∃ N, NatV u i.m N K ∧ z = Nt.sg i.s N
def IntN (u : World) (i : IL) (z : Int) (K : Nat) : Prop := i.s = decide (z < 0) ∧ NatN u i.m z.natAbs K
section
variable {u u' w w' : World} {x y : Sl} {i j : IL} {r : RL} {N M K L : Nat} {z z' : Int} {q : Rat}
theorem NatV.ext (h : NatV u x N K) (e : Ext u u') : NatV u' x N K := by obtain ⟨l, h1, h2⟩ := h; exact ⟨l, h1.ext e, h2⟩
theorem NatN.ext (h : NatN u x N K) (e : Ext u u') : NatN u' x N K := ⟨h.1, h.2.1.ext e, h.2.2⟩
theorem IntV.ext (h : IntV u i z K) (e : Ext u u') : IntV u' i z K := by obtain ⟨N, h1, h2⟩ := h; exact ⟨N, h1.ext e, h2⟩
theorem IntN.ext (h : IntN u i z K) (e : Ext u u') : IntN u' i z K := ⟨h.1, h.2.ext e⟩
theorem NatV.more (h : NatV u x N K) (k : K ≤ L) : NatV u x N L := by obtain ⟨l, h1, h2, h3, h4⟩ := h; exact ⟨l, h1, h2, by omega, h4⟩
theorem NatN.more (h : NatN u x N K) (k : K ≤ L) : NatN u x N L := ⟨h.1, h.2.1, Nat.le_trans h.2.2 k⟩
theorem IntV.more (h : IntV u i z K) (k : K ≤ L) : IntV u i z L := by obtain ⟨N, h1, h2⟩ := h; exact ⟨N, h1.more k, h2⟩
theorem IntN.more (h : IntN u i z K) (k : K ≤ L) : IntN u i z L := ⟨h.1, h.2.more k⟩
theorem NatN.raw (h : NatN u x N K) : NatV u x N K := ⟨_, h.2.1, zyj _, by have := h.2.2; rw [h.1]; exact this, zyi _⟩
theorem IntN.raw (h : IntN u i z K) : IntV u i z K := by
 refine ⟨z.natAbs, h.2.raw, ?_⟩
 unfold Nt.sg
 rw [h.1]
 by_cases hz : z < 0
 ·simp [hz]; omega
 simp [hz]; omega
theorem NatV.size (h : NatV u x N K) : dl N ≤ K := by
 obtain ⟨l, h1, h2, h3, h4⟩ := h
 have e := zxl h2
 rw [h4, Int.toNat_natCast] at e
 have := zyh l
 rw [e] at this
 have := h1.1
 unfold dl; omega
theorem IntV.abs (h : IntV u i z K) : NatV u i.m z.natAbs K := by
 obtain ⟨N, h1, h2⟩ := h
 have e : z.natAbs = N := by rw [h2, Nt.sg_abs]
 rw [e]; exact h1
theorem IntV.size (h : IntV u i z K) : dl z.natAbs ≤ K := h.abs.size
theorem NatN.pos (h : NatN u x N K) : 0 < x.n ↔ 0 < N := by rw [h.1]; exact Nt.dl_pos
theorem nat_nil (u : World) (K : Nat) : NatV u ⟨none, 0, 0⟩ 0 K := ⟨[], SlR.nil _ _ _ (Nat.zero_le _), Nt.Dig.nil, Nat.zero_le _, rfl⟩
theorem nat_nilN (u : World) (K : Nat) : NatN u ⟨none, 0, 0⟩ 0 K := ⟨by rw [Nt.dl_zero], by rw [zyu]; exact SlR.nil _ _ _ (Nat.zero_le _), by rw [Nt.dl_zero]; omega⟩
theorem int_zero (u : World) (K : Nat) : IntN u ⟨false, none, 0, 0⟩ 0 K := ⟨rfl, nat_nilN u K⟩
theorem signed_int {s : Bool} (h : NatN u x N K) : IntN u ⟨s && decide ((0 : Int) < (x.n : Int)), x⟩ (Nt.sg s N) K := by
 have hn := h.pos
 refine ⟨?_, by rw [Nt.sg_abs]; exact h⟩
 unfold Nt.sg
 cases s <;> simp <;> omega
theorem IntV.same {s : Bool} (h : NatV u x N K) : IntV u ⟨s, x⟩ (Nt.sg s N) K := ⟨N, h, rfl⟩
theorem one_data {b : Nat} (h : u.heap[b]? = some (.cells #[.int .u32 1] 132 (0, 0))) : NatN u ⟨some ⟨b, 0, none⟩, 1, 1⟩ 1 1 := by
 have hk : KBlk .u32 u b 132 [1] := h
 have e : Nt.digits 1 = [1] := by
  have h1 : Nt.strip [1] = [1] := by simp [Nt.strip]
  have h2 := zxl (l := [1]) (Nt.Dig.cons xq Nt.Dig.nil)
  rw [h1] at h2
  exact h2.symm
 exact ⟨by rw [Nt.dl_one], by rw [e]; exact hk.slr_all rfl qyl (show 1 ≤ maxLen by decide), by rw [Nt.dl_one]; exact Nat.le_refl _⟩
theorem two_data {b : Nat} {p q : Int} (h : u.heap[b]? = some (.cells #[.int .u32 p, .int .u32 q] 132 (0, 0))) (hp : 0 ≤ p ∧ p < 4294967296) (hq : 0 ≤ q ∧ q < 4294967296) (hN : p + 4294967296 * q = N) : NatV u ⟨some ⟨b, 0, none⟩, 2, 2⟩ N 2 := by
 have hk : KBlk .u32 u b 132 [p, q] := h
 exact ⟨[p, q], hk.slr_all rfl qyl (show 2 ≤ maxLen by decide), Nt.Dig.cons hp (Nt.Dig.cons hq Nt.Dig.nil), Nat.le_refl _, by simp [Nt.val]; omega⟩
theorem nat_digit (h : NatV u x N K) (hn : x.n = 1) : ∃ b o, x.a = some ⟨b, o, none⟩ ∧ u.cell? ⟨b, o, none⟩ = some (.int .u32 N) := by
 obtain ⟨l, h1, h2, h3, h4⟩ := h
 obtain ⟨b, o, e, _, hc⟩ := h1.pos (i := 0) xq
 refine ⟨b, o, e, ?_⟩
 simp only [Nat.add_zero] at hc
 rw [hc]
 have hl := h1.1
 have e2 := h4
 rw [← zyg l (n := 1) xq, zyf, zyy] at e2
 have : l[0]?.getD 0 = (N : Int) := by simpa [Nt.pw] using e2
 rw [this]
theorem nat_int (h : NatV u x N K) : IntV u ⟨false, x⟩ N K := ⟨N, h, rfl⟩
theorem nat_intN (h : NatN u x N K) : IntN u ⟨false, x⟩ N K := ⟨by simp, by simpa using h⟩
theorem int_mag (h : IntN u i z K) : NatN u i.m z.natAbs K := h.2
theorem over_nat {A : Option Addr} {n c : Nat} (h : NatF w w' A n c N) (hu : u.heap.size = w.heap.size) (hs : u.heap.size ≤ w'.heap.size) (hN : dl N ≤ K) : NatN (over u w') ⟨A, n, c⟩ N K := by
 obtain ⟨h1, h2, h3⟩ := h
 exact ⟨h1, h2.over (fun hp => by obtain ⟨a, e, k, _⟩ := h3 hp; exact ⟨a, e, by omega⟩) hs, hN⟩
def NatG (w w' : World) (e : Ending) (N : Nat) : Prop := ∃ A n c, e = .returned (.slice A n c) ∧ NatF w w' A n c N ∧ Below w.heap.size w w'
theorem post_nat {e : Ending} (d : Dat u w) (h : NatG w w' e N) (hN : dl N ≤ K) : Post u w (fun v u' => ∃ x : Sl, v = x.v ∧ NatN u' x N K) e w' := by
 obtain ⟨A, n, c, rfl, f, hb⟩ := h
 have hs : u.heap.size ≤ w'.heap.size := by rw [d.size]; exact hb.size
 exact ⟨_, over u w', rfl, over_dat d hb, hb, over_grow hs, ⟨A, n, c⟩, rfl, over_nat f d.size hs hN⟩
theorem post_below {e : Ending} {v : Value} (d : Dat u w) (he : e = .returned v) (hb : Below w.heap.size w w') : Post u w (fun v' _ => v' = v) e w' :=
 ⟨v, over u w', he, over_dat d hb, hb, over_grow (by rw [d.size]; exact hb.size), rfl⟩
theorem below_drewN (w : World) (k : Nat) : Below w.heap.size w (w.drewN k) := ⟨rfl, rfl, rfl, Nat.le_refl _, fun _ _ => rfl⟩
theorem nat_fits {A : Option Addr} {n c : Nat} {e : Ending} {t : Int} (h : e = .returned (.slice A n c) ∧ NatF w w' A n c t.toNat ∧ Below w.heap.size w w') (ht : t = (N : Int)) : NatG w w' e N := by
 subst ht; rw [Int.toNat_natCast] at h; exact ⟨A, n, c, h⟩
def DivN (N M K L : Nat) (v : Value) (u : World) : Prop := ∃ x y : Sl, v = .tuple #[x.v, y.v, .int .i64 0] ∧ NatN u x (N / M) K ∧ NatN u y (N % M) L
theorem post_div {e : Ending} (d : Dat u w) (h : DivMF w w' e (N : Int) (M : Int)) (hK : dl N ≤ K) (hL : dl M ≤ L) (hM : 0 < M) : Post u w (DivN N M K L) e w' := by
 obtain ⟨A1, n1, c1, A2, n2, c2, rfl, f, g, hb⟩ := h
 rw [← Int.natCast_ediv, Int.toNat_natCast] at f
 rw [← Int.natCast_emod, Int.toNat_natCast] at g
 have hs : u.heap.size ≤ w'.heap.size := by rw [d.size]; exact hb.size
 exact ⟨_, over u w', rfl, over_dat d hb, hb, over_grow hs, ⟨A1, n1, c1⟩, ⟨A2, n2, c2⟩, rfl, over_nat f d.size hs (Nat.le_trans (Nt.dl_mono (Nat.div_le_self _ _)) hK), over_nat g d.size hs (Nat.le_trans (Nt.dl_mono (Nat.le_of_lt (Nat.mod_lt _ hM))) hL)⟩
theorem k_natAdd (d : Dat u w) (h1 : NatV u x N K) (h2 : NatV u y M L) (hK : K ≤ 500000000) (hL : L ≤ 500000000) : qyc 295 #[x.v, y.v] w (Post u w fun v u' => ∃ x : Sl, v = x.v ∧ NatN u' x (N + M) (max K L + 1)) := by
 have hs1 := h1.size
 have hs2 := h2.size
 obtain ⟨a, a1, a2, a3, a4⟩ := h1
 obtain ⟨b, b1, b2, b3, b4⟩ := h2
 refine (Add_any _ _ _ _ _ _ _ _ _ (a1.ext d.ext) (b1.ext d.ext) a2 b2 xq xq).mono fun e w' ⟨A', n', c', h⟩ => ?_
 rw [a4, b4] at h
 exact post_nat d (nat_fits h xq) (by have := Nt.dl_add N M; omega)
theorem k_natSub (d : Dat u w) (h1 : NatV u x N K) (h2 : NatV u y M L) (hK : K ≤ 500000000) (hL : L ≤ 500000000) : qyc 296 #[x.v, y.v] w (Post u w fun v u' => ∃ x : Sl, v = x.v ∧ NatN u' x (N - M) (K)) := by
 have hs1 := h1.size
 have hs2 := h2.size
 obtain ⟨a, a1, a2, a3, a4⟩ := h1
 obtain ⟨b, b1, b2, b3, b4⟩ := h2
 refine (Sub_any _ _ _ _ _ _ _ _ _ (a1.ext d.ext) (b1.ext d.ext) a2 b2 xq xq).mono fun e w' ⟨A', n', c', h⟩ => ?_
 rw [a4, b4] at h
 exact post_nat d (by rw [show ((N : Int) - (M : Int)).toNat = N - M by omega] at h; exact ⟨A', n', c', h⟩) (by have := Nt.dl_mono (Nat.sub_le N M); omega)
theorem k_natMul (d : Dat u w) (h1 : NatV u x N K) (h2 : NatV u y M L) (hK : K ≤ 500000000) (hL : L ≤ 500000000) : qyc 208 #[x.v, y.v] w (Post u w fun v u' => ∃ x : Sl, v = x.v ∧ NatN u' x (N * M) (K + L)) := by
 have hs1 := h1.size
 have hs2 := h2.size
 obtain ⟨a, a1, a2, a3, a4⟩ := h1
 obtain ⟨b, b1, b2, b3, b4⟩ := h2
 refine (Mul_any _ _ _ _ _ _ _ _ _ (a1.ext d.ext) (b1.ext d.ext) a2 b2 xq xq).mono fun e w' ⟨A', n', c', h⟩ => ?_
 rw [a4, b4] at h
 exact post_nat d (nat_fits h (Int.natCast_mul N M).symm) (by have := Nt.dl_mul N M; omega)
theorem k_natGcd (d : Dat u w) (h1 : NatV u x N K) (h2 : NatV u y M L) (hK : K ≤ 500000000) (hL : L ≤ 500000000) : qyc 293 #[x.v, y.v] w (Post u w fun v u' => ∃ x : Sl, v = x.v ∧ NatN u' x (Nat.gcd N M) (max K L)) := by
 have hs1 := h1.size
 have hs2 := h2.size
 obtain ⟨a, a1, a2, a3, a4⟩ := h1
 obtain ⟨b, b1, b2, b3, b4⟩ := h2
 refine (Gcd_any _ _ _ _ _ _ _ _ _ (a1.ext d.ext) (b1.ext d.ext) a2 b2 xq xq).mono fun e w' ⟨A', n', c', h⟩ => ?_
 rw [a4, b4] at h
 exact post_nat d (by rw [Int.toNat_natCast, Int.toNat_natCast] at h; exact ⟨A', n', c', h⟩) (by
  rcases Nat.eq_zero_or_pos M with h0 | h0
  ·rw [h0, Nat.gcd_zero_right]; omega
  have := Nt.dl_mono (Nat.gcd_le_right N h0); omega)
theorem k_natTrim (d : Dat u w) (h1 : NatV u x N K) (hK : K ≤ 500000000) : qyc 265 #[x.v] w (Post u w fun v u' => ∃ x : Sl, v = x.v ∧ NatN u' x N K) := by
 have hs1 := h1.size
 obtain ⟨a, a1, a2, a3, a4⟩ := h1
 refine (Trim_any _ _ _ _ _ (a1.ext d.ext) a2 xq).mono fun e w' ⟨A', n', c', h⟩ => ?_
 rw [a4] at h
 exact post_nat d (nat_fits h rfl) hs1
theorem k_natDivMod (d : Dat u w) (h1 : NatV u x N K) (h2 : NatV u y M L) (hM : 0 < M) (hK : K ≤ 500000000) (hL : L ≤ 500000000) : qyc 211 #[x.v, y.v] w (Post u w (DivN N M K L)) := by
 have hs1 := h1.size
 have hs2 := h2.size
 obtain ⟨a, a1, a2, a3, a4⟩ := h1
 obtain ⟨b, b1, b2, b3, b4⟩ := h2
 refine (DivMod_any _ _ _ _ _ _ _ _ _ (a1.ext d.ext) (b1.ext d.ext) a2 b2 xq xq).mono fun e w' h => ?_
 rw [a4, b4] at h
 exact post_div d h hs1 hs2 hM
theorem k_rnAdd (d : Dat u w) (h1 : NatV u x N K) (h2 : NatV u y M L) (hK : K ≤ 500000000) (hL : L ≤ 500000000) : qyc 232 #[x.v, y.v] w (Post u w fun v u' => ∃ x : Sl, v = x.v ∧ NatN u' x (N + M) (max K L + 1)) := by
 have hs1 := h1.size
 have hs2 := h2.size
 obtain ⟨a, a1, a2, a3, a4⟩ := h1
 obtain ⟨b, b1, b2, b3, b4⟩ := h2
 refine (rAdd_any _ _ _ _ _ _ _ _ _ (a1.ext d.ext) (b1.ext d.ext) a2 b2 xq xq).mono fun e w' ⟨A', n', c', h⟩ => ?_
 rw [a4, b4] at h
 exact post_nat d (nat_fits h xq) (by have := Nt.dl_add N M; omega)
theorem k_rnSub (d : Dat u w) (h1 : NatV u x N K) (h2 : NatV u y M L) (hK : K ≤ 500000000) (hL : L ≤ 500000000) : qyc 234 #[x.v, y.v] w (Post u w fun v u' => ∃ x : Sl, v = x.v ∧ NatN u' x (N - M) (K)) := by
 have hs1 := h1.size
 have hs2 := h2.size
 obtain ⟨a, a1, a2, a3, a4⟩ := h1
 obtain ⟨b, b1, b2, b3, b4⟩ := h2
 refine (rSub_any _ _ _ _ _ _ _ _ _ (a1.ext d.ext) (b1.ext d.ext) a2 b2 xq xq).mono fun e w' ⟨A', n', c', h⟩ => ?_
 rw [a4, b4] at h
 exact post_nat d (by rw [show ((N : Int) - (M : Int)).toNat = N - M by omega] at h; exact ⟨A', n', c', h⟩) (by have := Nt.dl_mono (Nat.sub_le N M); omega)
theorem k_rnMul (d : Dat u w) (h1 : NatV u x N K) (h2 : NatV u y M L) (hK : K ≤ 500000000) (hL : L ≤ 500000000) : qyc 173 #[x.v, y.v] w (Post u w fun v u' => ∃ x : Sl, v = x.v ∧ NatN u' x (N * M) (K + L)) := by
 have hs1 := h1.size
 have hs2 := h2.size
 obtain ⟨a, a1, a2, a3, a4⟩ := h1
 obtain ⟨b, b1, b2, b3, b4⟩ := h2
 refine (rMul_any _ _ _ _ _ _ _ _ _ (a1.ext d.ext) (b1.ext d.ext) a2 b2 xq xq).mono fun e w' ⟨A', n', c', h⟩ => ?_
 rw [a4, b4] at h
 exact post_nat d (nat_fits h (Int.natCast_mul N M).symm) (by have := Nt.dl_mul N M; omega)
theorem k_rnGcd (d : Dat u w) (h1 : NatV u x N K) (h2 : NatV u y M L) (hK : K ≤ 500000000) (hL : L ≤ 500000000) : qyc 288 #[x.v, y.v] w (Post u w fun v u' => ∃ x : Sl, v = x.v ∧ NatN u' x (Nat.gcd N M) (max K L)) := by
 have hs1 := h1.size
 have hs2 := h2.size
 obtain ⟨a, a1, a2, a3, a4⟩ := h1
 obtain ⟨b, b1, b2, b3, b4⟩ := h2
 refine (rGcd_any _ _ _ _ _ _ _ _ _ (a1.ext d.ext) (b1.ext d.ext) a2 b2 xq xq).mono fun e w' ⟨A', n', c', h⟩ => ?_
 rw [a4, b4] at h
 exact post_nat d (by rw [Int.toNat_natCast, Int.toNat_natCast] at h; exact ⟨A', n', c', h⟩) (by
  rcases Nat.eq_zero_or_pos M with h0 | h0
  ·rw [h0, Nat.gcd_zero_right]; omega
  have := Nt.dl_mono (Nat.gcd_le_right N h0); omega)
theorem k_rnTrim (d : Dat u w) (h1 : NatV u x N K) (hK : K ≤ 500000000) : qyc 169 #[x.v] w (Post u w fun v u' => ∃ x : Sl, v = x.v ∧ NatN u' x N K) := by
 have hs1 := h1.size
 obtain ⟨a, a1, a2, a3, a4⟩ := h1
 refine (zyz _ _ _ _ _ (a1.ext d.ext) a2 xq).mono fun e w' ⟨A', n', c', h⟩ => ?_
 rw [a4] at h
 exact post_nat d (nat_fits ⟨h.1, h.2.1.nat, h.2.2⟩ rfl) hs1
theorem k_rnDivMod (d : Dat u w) (h1 : NatV u x N K) (h2 : NatV u y M L) (hM : 0 < M) (hK : K ≤ 500000000) (hL : L ≤ 500000000) : qyc 289 #[x.v, y.v] w (Post u w (DivN N M K L)) := by
 have hs1 := h1.size
 have hs2 := h2.size
 obtain ⟨a, a1, a2, a3, a4⟩ := h1
 obtain ⟨b, b1, b2, b3, b4⟩ := h2
 refine (rDivMod_any _ _ _ _ _ _ _ _ _ (a1.ext d.ext) (b1.ext d.ext) a2 b2 xq xq xq).mono fun e w' h => ?_
 rw [a4, b4] at h
 exact post_div d h hs1 hs2 hM
theorem k_natCompare (d : Dat u w) (h1 : NatV u x N K) (h2 : NatV u y M L) : qyc 207 #[x.v, y.v] w (Post u w fun v _ => v = .int .i64 (Nt.cmpS N M)) := by
 obtain ⟨a, a1, a2, a3, a4⟩ := h1
 obtain ⟨b, b1, b2, b3, b4⟩ := h2
 refine (Compare_any _ _ _ _ _ _ _ _ _ (a1.ext d.ext) (b1.ext d.ext) a2 b2).mono fun e w' ⟨h, k, hk⟩ => ?_
 rw [a4, b4] at h
 exact post_below d h (by rw [hk]; exact below_drewN w k)
theorem k_rnCompare (d : Dat u w) (h1 : NatV u x N K) (h2 : NatV u y M L) (hK : K ≤ 500000000) (hL : L ≤ 500000000) : qyc 233 #[x.v, y.v] w (Post u w fun v _ => v = .int .i64 (Nt.cmpS N M)) := by
 obtain ⟨a, a1, a2, a3, a4⟩ := h1
 obtain ⟨b, b1, b2, b3, b4⟩ := h2
 refine (rCompare_any _ _ _ _ _ _ _ _ _ (a1.ext d.ext) (b1.ext d.ext) a2 b2 xq xq).mono fun e w' ⟨h, hb⟩ => ?_
 rw [a4, b4] at h
 exact post_below d h hb
end
namespace Nt
theorem mk_den {z : Int} {D : Nat} (hD : 0 < D) : (mkRat z D).den = D / Nat.gcd z.natAbs D ∧ (mkRat z D).num = z / ((Nat.gcd z.natAbs D : Nat) : Int) := by
 rw [← Rat.normalize_eq_mkRat xq, Rat.normalize_eq]
 exact ⟨rfl, rfl⟩
theorem mk_num {z : Int} {D : Nat} (hD : 0 < D) : (mkRat z D).num.natAbs = z.natAbs / Nat.gcd z.natAbs D ∧ ((mkRat z D).num < 0 ↔ z < 0) := by
 have h := (mk_den (z := z) hD).2
 have hg : 0 < Nat.gcd z.natAbs D := Nat.gcd_pos_of_pos_right _ hD
 obtain ⟨k, hk⟩ := Nat.gcd_dvd_left z.natAbs D
 generalize Nat.gcd z.natAbs D = g at *
 rw [h]
 have hk2 : z.natAbs / g = k := by rw [hk]; exact Nat.mul_div_cancel_left _ hg
 rw [hk2]
 rcases Int.lt_or_le z 0 with hz | hz
 ·have e : z = -((g : Int) * (k : Int)) := by rw [← Int.natCast_mul, ← hk]; omega
  have hk0 : 0 < k := by
   rcases Nat.eq_zero_or_pos k with h | h
   ·rw [h] at hk; simp at hk; omega
   exact h
  have e2 : z / (g : Int) = -(k : Int) := by
   rw [e, ← Int.mul_neg]
   exact Int.mul_ediv_cancel_left _ xq
  rw [e2]
  exact ⟨by omega, by omega⟩
 have e : z = (g : Int) * (k : Int) := by rw [← Int.natCast_mul, ← hk]; omega
 have e2 : z / (g : Int) = (k : Int) := by rw [e]; exact Int.mul_ediv_cancel_left _ xq
 rw [e2]
 exact ⟨by omega, by omega⟩
theorem mk_gcd (N D : Nat) : Nat.gcd D (N % D) = Nat.gcd N D := by rw [Nat.gcd_comm N D, Nat.gcd_rec D N, Nat.gcd_comm]
def rs (q : Rat) : Nat := max (dl q.num.natAbs) (dl q.den)
theorem rs_mk {z : Int} {D K : Nat} (hz : dl z.natAbs ≤ K) (hd : dl D ≤ K) (hK : 1 ≤ K) : rs (mkRat z D) ≤ K := by
 rcases Nat.eq_zero_or_pos D with h | h
 ·rw [h, Rat.mkRat_zero]
  unfold rs
  rw [show (0 : Rat).num.natAbs = 0 from rfl, show (0 : Rat).den = 1 from rfl, dl_zero, dl_one]
  omega
 unfold rs
 have h1 : dl (mkRat z D).num.natAbs ≤ dl z.natAbs := by rw [(mk_num h).1]; exact dl_mono (Nat.div_le_self _ _)
 have h2 : dl (mkRat z D).den ≤ dl D := by rw [(mk_den h).1]; exact dl_mono (Nat.div_le_self _ _)
 omega
theorem den_pos (q : Rat) : 0 < q.den := Nat.pos_of_ne_zero q.den_nz
theorem rs_pos (q : Rat) : 1 ≤ rs q := by
 unfold rs
 have := dl_mono (den_pos q)
 rw [show Nat.succ 0 = 1 from rfl, dl_one] at this
 omega
def cmpQ (x y : Rat) : Int := if x < y then -1 else if x = y then 0 else 1
theorem cmp_nat0 {D : Nat} {b : Bool} (h : (cmpS (D : Int) 0 == 0) = b) : (b = true → D = 0) ∧ (b = false → 0 < D) := by
 unfold cmpS at h
 by_cases h0 : D = 0
 ·subst h0; simp at h; subst h; simp
 rw [if_neg xq, if_neg xq] at h
 simp at h; subst h; simp; omega
theorem cmp_natE {D E : Nat} (h : (cmpS (D : Int) (E : Int) == 0) = true) : D = E := by
 unfold cmpS at h
 by_cases h1 : (D : Int) < E
 ·simp only [h1, if_true] at h; simp at h
 by_cases h2 : (D : Int) = E
 ·omega
 simp only [h1, h2, if_false] at h; simp at h
theorem cmp_eq0 {z : Int} (h : (cmpS z 0 == 0) = true) : z = 0 := by
 unfold cmpS at h
 by_cases h1 : z < 0
 ·simp only [h1, if_true] at h; simp at h
 by_cases h2 : z = 0
 ·exact h2
 simp only [h1, h2, if_false] at h; simp at h
theorem cmp_ne0 {z : Int} (h : (cmpS z 0 == 0) = false) : z ≠ 0 := by
 rintro rfl; simp [cmpS] at h
theorem mk_lt {a c : Int} {b d : Nat} (hb : 0 < b) (hd : 0 < d) : (mkRat a b < mkRat c d ↔ a * d < c * b) ∧ (mkRat a b = mkRat c d ↔ a * d = c * b) := by
 have e : mkRat a b = mkRat c d ↔ a * d = c * b := Rat.mkRat_eq_iff xq xq
 refine ⟨?_, e⟩
 have hb' : (0 : Rat) < (b : Rat) := Rat.natCast_pos.2 hb
 have hd' : (0 : Rat) < (d : Rat) := Rat.natCast_pos.2 hd
 rw [Rat.mkRat_eq_div, Rat.mkRat_eq_div, Rat.div_lt_iff hb']
 have e2 : (c : Rat) / (d : Rat) * (b : Rat) = (c * b : Rat) / d := by rw [Rat.div_def, Rat.div_def]; grind
 rw [e2, Rat.lt_div_iff hd']
 have e3 : (a : Rat) * ((d : Nat) : Rat) = ((a * d : Int) : Rat) := by rw [Rat.intCast_mul]; rfl
 have e4 : (c : Rat) * ((b : Nat) : Rat) = ((c * b : Int) : Rat) := by rw [Rat.intCast_mul]; rfl
 rw [e3, e4, Rat.intCast_lt_intCast]
theorem cmp_mk {a c : Int} {b d : Nat} (hb : 0 < b) (hd : 0 < d) : cmpS (a * d) (c * b) = cmpQ (mkRat a b) (mkRat c d) := by
 obtain ⟨h1, h2⟩ := mk_lt (a := a) (c := c) hb hd
 unfold cmpS cmpQ
 simp only [h1, h2]
theorem add_mk {a c : Int} {b d : Nat} (hb : 0 < b) (hd : 0 < d) : mkRat (a * d + c * b) (b * d) = mkRat a b + mkRat c d := (Rat.mkRat_add_mkRat a c xq xq).symm
theorem add_same {a c : Int} {b : Nat} (hb : 0 < b) : mkRat (a + c) b = mkRat a b + mkRat c b := by
 rw [← add_mk hb hb, ← Int.add_mul, ← Rat.mkRat_mul_right (a := b) xq]
theorem mul_mk {a c : Int} {b d : Nat} : mkRat (a * c) (b * d) = mkRat a b * mkRat c d := (Rat.mkRat_mul_mkRat a c b d).symm
theorem mk_one (a : Int) : mkRat a 1 = (a : Rat) := by rw [Rat.mkRat_eq_div]; show (a : Rat) / ((1 : Nat) : Rat) = a; grind
theorem neg_mk {a : Int} {b : Nat} : mkRat (-a) b = -mkRat a b := (Rat.neg_mkRat a b).symm
def sgQ (x : Rat) : Int := cmpQ x 0
theorem sg_mk {a : Int} {b : Nat} (hb : 0 < b) : cmpS a 0 = sgQ (mkRat a b) := by
 have := cmp_mk (a := a) (c := 0) (b := b) (d := 1) hb xq
 rw [Rat.zero_mkRat] at this
 unfold sgQ
 rw [← this]
 congr 1 <;> omega
def absQ (x : Rat) : Rat := if x < 0 then -x else x
def quoI (x y : Int) : Int := if decide (x < 0) == decide (y < 0) then (x.natAbs : Int) else -(x.natAbs : Int)
theorem quoI_abs (x y : Int) : (quoI x y).natAbs = x.natAbs := by unfold quoI; split <;> omega
theorem div_mk2 {x y : Int} (hy : y ≠ 0) : mkRat (quoI x y) y.natAbs = (x : Rat) / (y : Rat) := by
 unfold quoI
 rw [← Rat.divInt_eq_div, ← Rat.divInt_ofNat]
 by_cases hx : x < 0 <;> by_cases hy' : y < 0
 ·rw [if_pos (by simp [hx, hy']), ← Rat.neg_divInt_neg x y, show ((x.natAbs : Nat) : Int) = -x by omega, show ((y.natAbs : Nat) : Int) = -y by omega]
 ·rw [if_neg (by simp [hx, hy']), show ((x.natAbs : Nat) : Int) = -x by omega, show ((y.natAbs : Nat) : Int) = y by omega, Int.neg_neg]
 ·rw [if_neg (by simp [hx, hy']), ← Rat.neg_divInt_neg x y, show ((x.natAbs : Nat) : Int) = x by omega, show ((y.natAbs : Nat) : Int) = -y by omega]
 rw [if_pos (by simp [hx, hy']), show ((x.natAbs : Nat) : Int) = x by omega, show ((y.natAbs : Nat) : Int) = y by omega]
theorem quo_mk {a c : Int} {b d : Nat} (hb : 0 < b) (hd : 0 < d) (hc : c ≠ 0) : ((a * d : Int) : Rat) / ((b * c : Int) : Rat) = mkRat a b / mkRat c d := by
 have hb' : (b : Rat) ≠ 0 := Ne.symm (Rat.ne_of_lt (Rat.natCast_pos.2 hb))
 have hd' : (d : Rat) ≠ 0 := Ne.symm (Rat.ne_of_lt (Rat.natCast_pos.2 hd))
 have hc' : (c : Rat) ≠ 0 := fun h => hc (by have : (c : Rat) = ((0 : Int) : Rat) := h; exact Rat.intCast_inj.1 this)
 rw [Rat.mkRat_eq_div, Rat.mkRat_eq_div, Rat.intCast_mul, Rat.intCast_mul]
 show (a : Rat) * (d : Rat) / ((b : Rat) * (c : Rat)) = _
 grind
end Nt
def RatV (u : World) (r : RL) (q : Rat) (K : Nat) : Prop := (∃ z D, IntV u ⟨r.s, r.m⟩ z K ∧ NatV u r.d D K ∧ q = mkRat z D) ∧ 1 ≤ K
def RatN (u : World) (r : RL) (q : Rat) (K : Nat) : Prop := IntN u ⟨r.s, r.m⟩ q.num K ∧ NatN u r.d q.den K
theorem zRc {u : World} {r : RL} {a b : Rat} {K : Nat} (h : RatN u r a K) (e : a = b) : RatN u r b K := e ▸ h
section
variable {u u' w w' : World} {x y : Sl} {i j : IL} {r : RL} {N M K L : Nat} {z z' : Int} {q : Rat}
theorem RatV.ext (h : RatV u r q K) (e : Ext u u') : RatV u' r q K := by
 obtain ⟨⟨z, D, h1, h2, h3⟩, h4⟩ := h; exact ⟨⟨z, D, h1.ext e, h2.ext e, h3⟩, h4⟩
theorem RatN.ext (h : RatN u r q K) (e : Ext u u') : RatN u' r q K := ⟨h.1.ext e, h.2.ext e⟩
theorem RatN.more (h : RatN u r q K) (k : K ≤ L) : RatN u r q L := ⟨h.1.more k, h.2.more k⟩
theorem RatN.rs (h : RatN u r q K) : Nt.rs q ≤ K := by
 have h1 := h.1.2.2.2
 have h2 := h.2.2.2
 unfold Nt.rs; omega
theorem RatN.fit (h : RatN u r q K) (k : Nt.rs q ≤ L) : RatN u r q L := by
 unfold Nt.rs at k
 exact ⟨⟨h.1.1, h.1.2.1, h.1.2.2.1, by omega⟩, h.2.1, h.2.2.1, by omega⟩
theorem RatN.raw (h : RatN u r q K) : RatV u r q K := ⟨⟨q.num, q.den, h.1.raw, h.2.raw, (Rat.mkRat_self q).symm⟩, by have := Nt.rs_pos q; have := h.rs; omega⟩
theorem RatV.rs (h : RatV u r q K) : Nt.rs q ≤ K := by
 obtain ⟨⟨z, D, h1, h2, h3⟩, h4⟩ := h
 rw [h3]; exact Nt.rs_mk h1.size h2.size h4
def NumV (u : World) (r : RL) (wh : Bool) (q : Rat) (K : Nat) : Prop := ∃ z D, IntV u ⟨r.s, r.m⟩ z K ∧ NatV u r.d D K ∧ 0 < D ∧ q = mkRat z D ∧ (wh = true → D = 1) ∧ 1 ≤ K
theorem quot_int {L : Nat} (h : IntN u i z K) (h2 : IntN u j z' L) : IntV u ⟨!(i.s == j.s), i.m⟩ (Nt.quoI z z') K := by
 refine ⟨z.natAbs, h.2.raw, ?_⟩
 show Nt.quoI z z' = Nt.sg (!(i.s == j.s)) _
 rw [h.1, h2.1]
 unfold Nt.quoI Nt.sg
 cases (decide (z < 0) == decide (z' < 0)) <;> rfl
theorem flip_rat (h : RatV u r q K) : RatV u ⟨!r.s, r.m, r.d⟩ (-q) K := by
 obtain ⟨⟨z, D, ⟨N, h1, h2⟩, h3, h4⟩, h5⟩ := h
 refine ⟨⟨-z, D, ⟨N, h1, ?_⟩, h3, by rw [h4, Nt.neg_mk]⟩, h5⟩
 rw [h2]; exact (Nt.sg_neg _ _).symm
theorem whole_rat (h : IntN u i z K) (h1 : NatN u y 1 L) : RatN u ⟨i.s, i.m, y⟩ (z : Rat) (max K L) := by
 refine ⟨?_, ?_⟩
 ·show IntN u i (z : Rat).num _; rw [Rat.num_intCast]; exact h.more (Nat.le_max_left _ _)
 show NatN u y (z : Rat).den _; rw [Rat.den_intCast]; exact h1.more (Nat.le_max_right _ _)
theorem rat_mk2 {s : Bool} {D : Nat} (hi : IntV u ⟨s, x⟩ z K) (hd : NatV u y D L) : RatV u ⟨s, x, y⟩ (mkRat z D) (max (max K L) 1) :=
 ⟨⟨z, D, hi.more xq, hd.more xq, rfl⟩, by omega⟩
theorem low1 {s : Bool} {D : Nat} (hD : 0 < D) (h : N % D = 0) : ((Nt.sg s (N / D) : Int) : Rat) = mkRat (Nt.sg s N) D := by
 obtain ⟨k, hk⟩ := Nat.dvd_of_mod_eq_zero h
 subst hk
 rw [Nat.mul_div_cancel_left _ hD, ← Nt.mk_one, Rat.mkRat_eq_iff xq xq]
 unfold Nt.sg
 cases s
 ·simp [Int.mul_comm]
 simp [Int.mul_comm, Int.mul_neg]
theorem low2 {s : Bool} {D : Nat} (hD : 0 < D) (hg : Nat.gcd D (N % D) = 1) (h1 : IntN u i (Nt.sg s N) K) (h2 : NatN u y D L) : RatN u ⟨i.s, i.m, y⟩ (mkRat (Nt.sg s N) D) (max K L) := by
 rw [Nt.mk_gcd] at hg
 have hg' : Nat.gcd (Nt.sg s N).natAbs D = 1 := by rw [Nt.sg_abs]; exact hg
 have e1 := (Nt.mk_den (z := Nt.sg s N) hD).1
 have e2 := (Nt.mk_den (z := Nt.sg s N) hD).2
 rw [hg', Nat.div_one] at e1
 rw [hg'] at e2
 simp at e2
 refine ⟨?_, ?_⟩
 ·show IntN u i _ _; rw [e2]; exact h1.more (Nat.le_max_left _ _)
 show NatN u y _ _; rw [e1]; exact h2.more (Nat.le_max_right _ _)
theorem low3 {s : Bool} {D : Nat} (hD : 0 < D) (hr : N % D ≠ 0) (h1 : NatN u x (N / Nat.gcd D (N % D)) K) (h2 : NatN u y (D / Nat.gcd D (N % D)) L) : RatN u ⟨s, x, y⟩ (mkRat (Nt.sg s N) D) (max K L) := by
 rw [Nt.mk_gcd] at h1 h2
 have e1 := (Nt.mk_den (z := Nt.sg s N) hD).1
 have e2 := Nt.mk_num (z := Nt.sg s N) hD
 rw [Nt.sg_abs] at e1 e2
 refine ⟨⟨?_, ?_⟩, ?_⟩
 ·have hN : 0 < N := by
   rcases Nat.eq_zero_or_pos N with h | h
   ·rw [h] at hr; simp at hr
   exact h
  have e3 : decide ((mkRat (Nt.sg s N) D).num < 0) = decide (Nt.sg s N < 0) := decide_eq_decide.2 e2.2
  show s = decide _
  rw [e3]
  unfold Nt.sg
  cases s <;> simp <;> omega
 ·show NatN u x _ _; rw [e2.1]; exact h1.more (Nat.le_max_left _ _)
 show NatN u y _ _; rw [e1]; exact h2.more (Nat.le_max_right _ _)
end
open Go.ChangeShapes Go.WideShapes
section
variable {H : Type} {enc : TypeId × Value → H} {P : Program} {w : World} {base : Nat} {spare : Nat → Bool} {held : Bool} {fuel : Nat} {cs : List Value} {x : DataW H × List MemPlace}
theorem ar_slr {k : IntKind} {t e : TypeId} (ht : P.underlying t = some (.slice e)) (he : P.underlying e = some (.int k)) (hc : P.cellsOf e = 1) (h : DataW.trod enc P w base spare held fuel t cs = some x) :
  ∃ (s : Sl) (l : List Int), cs = [s.v] ∧ SlR k w s.a s.n s.c l ∧ ∀ z ∈ l, (Lit.int k z).wf = true := by
 rcases open_ints ht he hc h with ⟨rfl, _⟩ | ⟨a, len, cap, zs, rfl, _, hl, hm, hz, _, hcell, hwz⟩
 ·exact ⟨⟨none, 0, 0⟩, [], rfl, SlR.nil w none 0 (Nat.zero_le _), (fun z h => by cases h)⟩
 have hle : len ≤ zs.length := by rw [hz]; split <;> omega
 refine ⟨⟨some a, len, cap⟩, zs.take len, rfl, ⟨by simp; omega, hl, hm, fun hp => ?_⟩, fun z hz' => hwz z (List.mem_of_mem_take hz')⟩
 have hp : 0 < len := hp
 obtain ⟨b, o, sp⟩ := a
 have h0 := hcell 0 xq
 have hsp : sp = none := by simpa [Addr.add] using World.cell?_spot h0
 subst hsp
 refine ⟨b, o, rfl, ?_, fun i hi => ?_⟩
 ·have := block_lt_of_cell h0
  simpa [Addr.add] using this
 have hi : i < len := hi
 have := hcell i xq
 rw [show (⟨b, o, none⟩ : Addr).add i = ⟨b, o + i, none⟩ by unfold Addr.add; split <;> simp_all] at this
 rw [this, List.getElem?_take_of_lt hi]
 simp
theorem wf_i64 {z : Int} (h : (Lit.int .i64 z).wf = true) : -9223372036854775808 ≤ z ∧ z ≤ 9223372036854775807 := by
 simp [Lit.wf, IntKind.min, IntKind.max, IntKind.bits, IntKind.signed] at h
 omega
end
end Go.Proofs.YtcmllhhiekjmaaaGreat
namespace Go.Proofs.YtcmllhhiekjmaaaGreat
open Nt
open Go.RowKit
def St.own (S : St) (d : Tmp) (V : Vr) (n c : Nat) : St := ⟨S.n, upd S.reg d (some (.slc d 0 n c)), upd S.var d (some V)⟩
section
variable {P : Program} {ops : Array Oper} {w0 : Base} {u0 : World} {S T : St} {B : Tmp → Nat} {a : Act} {w w' u u' : World} {o : Oper} {p : List Tmp} {seq : Bool} {rest : List (Oper × List Tmp)} {K : St → World → Prop}
theorem zxw {pubs : List Tmp} {r : Tmp} {x : SV} (h : (S.unpub pubs).reg r = some x) : S.reg r = some x ∧ r ∉ pubs := by
 simp only [St.unpub] at h
 cases e : pubs.contains r with
 | true => rw [e] at h; cases h
 | false => rw [e] at h; exact ⟨h, fun hm => by rw [List.contains_iff_mem.2 hm] at e; cases e⟩
theorem zxh {pubs : List Tmp} {r : Tmp} {x : Vr} (h : (S.unpub pubs).var r = some x) : S.var r = some x ∧ r ∉ pubs := by
 simp only [St.unpub] at h
 cases e : pubs.contains r with
 | true => rw [e] at h; cases h
 | false => rw [e] at h; exact ⟨h, fun hm => by rw [List.contains_iff_mem.2 hm] at e; cases e⟩
theorem ev_of {x : Operand} {y : SV} (hr : RegOK S B a) (h : evO S x = some y) : a.eval x = y.conc B := ev_eval hr h
theorem makes {T E : TypeId} {x y : Operand} {z : Value} {size bytes : Nat} {k1 k2 : IntKind} (n : Nat) (hT : P.underlying T = some (.slice E)) (hi : (P.info? E).map (fun i => (i.zero, i.size, i.bytes)) = some (some z, size, bytes)) (hb : bytes * n ≤ 281474976710656) (h63 : n ≤ maxLen) (hop : o.op = .makeSlice T x y)
  (hx : evO S x = some (.v (.int k1 n))) (hy : evO S y = some (.v (.int k2 n))) (hr : RegOK S B a) : (execOp a.eval o).run P w = .ok (.value (.slice (some ⟨w.heap.size, 0, none⟩) n n)) (w.alloc (.cells (madeCells z.cells (n * size)) E)) := by
 obtain ⟨inf, hi1, hz, hs, hby⟩ := info_parts hi
 have h63' : (n : Int) ≤ 9223372036854775807 := by unfold maxLen at h63; omega
 have hb' : (inf.bytes : Int) * (n : Int) ≤ 281474976710656 := by
  have h : ((inf.bytes * n : Nat) : Int) ≤ 281474976710656 := by rw [hby]; omega
  rwa [Int.natCast_mul] at h
 have hrun := run_make (P := P) w T E inf z hT hi1 hz k1 k2 n n xq (Int.le_refl _) hb' h63'
 have e1 : (execOp a.eval o).run P w = (do pure (Next.value (← Instr.makeSlice T (a.eval x) (a.eval y))) : Sem Next).run P w := by unfold execOp; rw [hop]
 rw [e1, ev_of hr hx, ev_of hr hy]
 rw [hs] at hrun
 exact run_val (by simpa [SV.conc] using hrun)
end
theorem eqI {k : IntKind} {x y : Int} (h : x = y) : SV.v (.int k x) = SV.v (.int k y) := by rw [h]
def rl0 : RL := ⟨false, ⟨none, 0, 0⟩, ⟨none, 0, 0⟩⟩
section
variable {u u' w w' : World} {L M : List RL} {r : RL} {l m : List Rat} {q : Rat} {K K' n i c b off : Nat} {x y : Sl}
theorem take_snoc {t : List Rat} (h : i < t.length) : t.take i ++ [t.getD i 0] = t.take (i + 1) := by
 rw [List.take_succ_eq_append_getElem h]; simp [h]
theorem cells_at {cs : Array Value} {t : TypeId} (h : u.heap[b]? = some (.cells cs t (0, 0))) (j : Nat) : u.cell? ⟨b, j, none⟩ = cs[j]? := by simp [World.cell?, h]
end
namespace Nt
theorem sg_add4 {s t : Bool} (N M : Nat) (h : (s == t) = false) (c : decide ((0 : Int) ≤ cmpS (N : Int) (M : Int)) = true) : sg s (N - M) = sg s N + sg t M := by
 unfold cmpS at c
 cases s <;> cases t <;> simp_all [sg] <;> (split at c <;> omega)
theorem sg_add5 {s t : Bool} (N M : Nat) (h : (s == t) = false) (c : decide ((0 : Int) ≤ cmpS (N : Int) (M : Int)) = false) : sg t (M - N) = sg s N + sg t M := by
 have c' : (cmpS (N : Int) (M : Int) == -1) = true := by
  rcases cmp_range (N : Int) (M : Int) with ⟨e, h⟩ | ⟨e, h⟩ | ⟨e, h⟩ <;> rw [e] at c ⊢ <;> simp at c ⊢
 exact sg_add2 N M h c'
theorem ediv_uniq {z y q r : Int} (hy : y ≠ 0) (h : z = y * q + r) (h0 : 0 ≤ r) (h1 : r < (y.natAbs : Int)) : z / y = q ∧ z % y = r := by
 rcases Int.lt_or_le y 0 with hn | hn
 ·exact (Int.ediv_emod_unique' hn).2 ⟨by omega, h0, by omega⟩
 exact (Int.ediv_emod_unique xq).2 ⟨by omega, h0, by omega⟩
theorem ediv_pos {N M : Nat} (z y : Int) (hz : z.natAbs = N) (hy : y.natAbs = M) (hM : 0 < M) (hr : ¬ (z < 0 ∧ 0 < N % M)) : z / y = sg (!(decide (z < 0) == decide (y < 0))) (N / M) ∧ z % y = ((N % M : Nat) : Int) := by
 have key : z = y * sg (!(decide (z < 0) == decide (y < 0))) (N / M) + ((N % M : Nat) : Int) := by
  have h := Nat.div_add_mod N M
  have h' : ((M * (N / M) + N % M : Nat) : Int) = N := by rw [h]
  rw [Int.natCast_add, Int.natCast_mul] at h'
  rcases Int.lt_or_le z 0 with hz0 | hz0
  ·have hm : N % M = 0 := by omega
   rw [hm] at h' ⊢
   rcases Int.lt_or_le y 0 with hy0 | hy0
   ·have e1 : z = -(N : Int) := by omega
    have e2 : y = -(M : Int) := by omega
    simp only [hz0, hy0, decide_true, beq_self_eq_true, Bool.not_true, sg_false]
    rw [e1, e2, ← h', Int.neg_mul]; omega
   have e1 : z = -(N : Int) := by omega
   have e2 : y = (M : Int) := by omega
   have hy1 : decide (y < 0) = false := by simp; omega
   simp only [hz0, hy1, decide_true]
   show z = y * sg true _ + _
   rw [sg_true, e1, e2, ← h', Int.mul_neg]; omega
  have hz1 : decide (z < 0) = false := by simp; omega
  have e1 : z = (N : Int) := by omega
  rcases Int.lt_or_le y 0 with hy0 | hy0
  ·have e2 : y = -(M : Int) := by omega
   simp only [hz1, hy0, decide_true]
   show z = y * sg true _ + _
   rw [sg_true, e1, e2, ← h', Int.neg_mul_neg]
  have e2 : y = (M : Int) := by omega
  have hy1 : decide (y < 0) = false := by simp; omega
  simp only [hz1, hy1, beq_self_eq_true, Bool.not_true, sg_false]
  rw [e1, e2, ← h']
 have hm := Nat.mod_lt N hM
 exact ediv_uniq xq key xq xq
theorem ediv_neg' {N M : Nat} (z y : Int) (hz : z.natAbs = N) (hy : y.natAbs = M) (hM : 0 < M) (hz0 : z < 0) (hr : 0 < N % M) : z / y = sg (!(decide (z < 0) == decide (y < 0))) (N / M + 1) ∧ z % y = ((M - N % M : Nat) : Int) := by
 have hm := Nat.mod_lt N hM
 have key : z = y * sg (!(decide (z < 0) == decide (y < 0))) (N / M + 1) + ((M - N % M : Nat) : Int) := by
  have h := Nat.div_add_mod N M
  have h' : ((M * (N / M) + N % M : Nat) : Int) = N := by rw [h]
  rw [Int.natCast_add, Int.natCast_mul] at h'
  have e1 : z = -(N : Int) := by omega
  have e3 : ((M - N % M : Nat) : Int) = (M : Int) - ((N % M : Nat) : Int) := by omega
  have e4 : ((N / M + 1 : Nat) : Int) = ((N / M : Nat) : Int) + 1 := by omega
  rcases Int.lt_or_le y 0 with hy0 | hy0
  ·have e2 : y = -(M : Int) := by omega
   simp only [hz0, hy0, decide_true, beq_self_eq_true, Bool.not_true, sg_false]
   rw [e1, e2, e3, e4, ← h', Int.neg_mul, Int.mul_add]; omega
  have e2 : y = (M : Int) := by omega
  have hy1 : decide (y < 0) = false := by simp; omega
  simp only [hz0, hy1, decide_true]
  show z = y * sg true _ + _
  rw [sg_true, e1, e2, e3, e4, ← h', Int.mul_neg, Int.mul_add]; omega
 exact ediv_uniq xq key xq xq
theorem add_div2 {a c : Int} {b d : Nat} (hb : 0 < b) (hd : 0 < d) : (((a * d + c * b : Int)) : Rat) / (((b * d : Int)) : Rat) = mkRat a b + mkRat c d := by
 rw [← add_mk hb hd, Rat.mkRat_eq_div]
 congr 1
theorem mul_div2 {a c : Int} {b d : Nat} : (((a * c : Int)) : Rat) / (((b * d : Int)) : Rat) = mkRat a b * mkRat c d := by
 rw [← mul_mk, Rat.mkRat_eq_div]
 congr 1
theorem mk_div (a : Int) (b : Nat) : (a : Rat) / ((b : Int) : Rat) = mkRat a b := by rw [Rat.mkRat_eq_div]; rfl
theorem cmpQ_lt (x y : Rat) : decide (cmpQ x y < 0) = decide (x < y) := by
 unfold cmpQ
 rw [decide_eq_decide]
 split
 ·simp [*]
 split <;> simp [*]
def lo (x y : Rat) : Rat := if y < x then y else x
def hi (x y : Rat) : Rat := if x < y then y else x
end Nt
section
variable {u u' w w' : World} {x y : Sl} {i j : IL} {r r' : RL} {N M K L : Nat} {z z' : Int} {q q' : Rat}
theorem IntN.sg (h : IntN u i z K) : z = Nt.sg i.s z.natAbs := by
 rw [h.1]; unfold Nt.sg
 by_cases hz : z < 0
 ·simp [hz]; omega
 simp [hz]; omega
theorem sign_len (h : IntN u i z K) : Nt.cmpS z 0 = if ((i.m.n : Int) == 0) = true then 0 else if i.s = true then -1 else 1 := by
 have hp := h.2.pos
 rw [h.1]
 rcases Nt.cmp_range z 0 with ⟨e, h1⟩ | ⟨e, h1⟩ | ⟨e, h1⟩
 ·rw [e, if_neg yz, if_pos (by simpa using h1)]
 ·rw [e, if_pos yz]
 rw [e, if_neg yz, if_neg yz]
theorem neg_int (h : IntN u i z K) : IntN u ⟨(!i.s) && decide ((0 : Int) < (i.m.n : Int)), i.m⟩ (-z) K := by
 have hp := h.2.pos
 refine ⟨?_, by rw [Int.natAbs_neg]; exact h.2⟩
 show ((!i.s) && _) = _
 rw [h.1, Bool.eq_iff_iff]
 simp
 omega
theorem RatN.num (h : RatN u r q K) : IntN u ⟨r.s, r.m⟩ q.num K := h.1
theorem RatN.den (h : RatN u r q K) : NatN u r.d q.den K := h.2
theorem neg_rat (h : RatN u r q K) (h' : IntN u i (-q.num) K) : RatN u ⟨i.s, i.m, r.d⟩ (-q) K := by
 refine ⟨?_, ?_⟩
 ·show IntN u i _ _; rw [Rat.neg_num]; exact h'
 show NatN u r.d _ _; rw [Rat.neg_den]; exact h.2
theorem red_mk (hy : z' ≠ 0) : (z : Rat) / (z' : Rat) = mkRat (Nt.quoI z z') z'.natAbs := (Nt.div_mk2 hy).symm
theorem quoI_neg (z z' : Int) (h : z' < 0) : Nt.quoI z z' = -z := by
 unfold Nt.quoI
 by_cases hz : z < 0
 ·simp [hz, h]; omega
 simp [hz, h]; omega
theorem quoI_pos (z z' : Int) (h : 0 ≤ z') : Nt.quoI z z' = z := by
 have h' : ¬ z' < 0 := by omega
 unfold Nt.quoI
 by_cases hz : z < 0
 ·simp [hz, h']; omega
 simp [hz, h']; omega
theorem red_fin {G : Nat} (hy : z' ≠ 0) (hG : G = Nat.gcd z.natAbs z'.natAbs) (h1 : IntN u i (Nt.quoI z z' / (G : Int)) K) (h2 : NatN u y (z'.natAbs / G) L) : RatN u ⟨i.s, i.m, y⟩ ((z : Rat) / (z' : Rat)) (max K L) := by
 have hp : 0 < z'.natAbs := Int.natAbs_pos.2 hy
 rw [red_mk hy]
 have e := Nt.mk_den (z := Nt.quoI z z') hp
 rw [Nt.quoI_abs, ← hG] at e
 refine ⟨?_, ?_⟩
 ·show IntN u i _ _; rw [e.2]; exact h1.more (Nat.le_max_left _ _)
 show NatN u y _ _; rw [e.1]; exact h2.more (Nat.le_max_right _ _)
theorem gcd_div_abs {G : Nat} (hG : G = Nat.gcd z.natAbs z'.natAbs) (hp : 0 < G) : (z' / (G : Int)).natAbs = z'.natAbs / G := by
 have hd : (G : Int) ∣ z' := by rw [hG]; exact Int.ofNat_dvd_left.2 (Nat.gcd_dvd_right _ _)
 obtain ⟨k, hk⟩ := hd
 subst hk
 rw [Int.mul_ediv_cancel_left _ xq, Int.natAbs_mul, Int.natAbs_natCast, Nat.mul_div_cancel_left _ hp]
theorem red_neg {G : Nat} (hy : z' ≠ 0) (hG : G = Nat.gcd z.natAbs z'.natAbs) (h1 : IntN u i (-(z / (G : Int))) K) (h2 : IntN u' j (z' / (G : Int)) L) (hs : j.s = true) (h3 : NatN u y (z' / (G : Int)).natAbs L) : RatN u ⟨i.s, i.m, y⟩ ((z : Rat) / (z' : Rat)) (max K L) := by
 have hp : 0 < G := by rw [hG]; exact Nat.gcd_pos_of_pos_right _ (Int.natAbs_pos.2 hy)
 have hneg : z' < 0 := by
  rw [h2.1] at hs
  have h4 : z' / (G : Int) < 0 := by simpa using hs
  rcases Int.lt_or_le z' 0 with h | h
  ·exact h
  have := Int.ediv_nonneg h (show (0 : Int) ≤ (G : Int) by omega); omega
 have hd : (G : Int) ∣ z := by rw [hG]; exact Int.ofNat_dvd_left.2 (Nat.gcd_dvd_left _ _)
 refine red_fin hy hG ?_ (by rw [← gcd_div_abs hG hp]; exact h3)
 rw [quoI_neg z z' hneg]
 obtain ⟨k, hk⟩ := hd
 rw [hk, Int.mul_ediv_cancel_left _ xq] at h1
 rw [hk, ← Int.mul_neg, Int.mul_ediv_cancel_left _ xq]
 exact h1
theorem red_pos {G : Nat} (hy : z' ≠ 0) (hG : G = Nat.gcd z.natAbs z'.natAbs) (h1 : IntN u i (z / (G : Int)) K) (h2 : IntN u' j (z' / (G : Int)) L) (hs : j.s = false) (h3 : NatN u y (z' / (G : Int)).natAbs L) : RatN u ⟨i.s, i.m, y⟩ ((z : Rat) / (z' : Rat)) (max K L) := by
 have hp : 0 < G := by rw [hG]; exact Nat.gcd_pos_of_pos_right _ (Int.natAbs_pos.2 hy)
 have hd2 : (G : Int) ∣ z' := by rw [hG]; exact Int.ofNat_dvd_left.2 (Nat.gcd_dvd_right _ _)
 have hnn : 0 ≤ z' := by
  rw [h2.1] at hs
  have h4 : ¬ z' / (G : Int) < 0 := by simpa using hs
  obtain ⟨k, hk⟩ := hd2
  rw [hk, Int.mul_ediv_cancel_left _ xq] at h4
  rw [hk]
  exact Int.mul_nonneg xq xq
 refine red_fin hy hG ?_ (by rw [← gcd_div_abs hG hp]; exact h3)
 rw [quoI_pos z z' hnn]
 exact h1
def PartV (q : Rat) (K : Nat) (v : Value) (u : World) : Prop := ∃ (i j : IL) (z : Int) (D : Nat), v = .tuple #[i.v, j.v] ∧ IntV u i z K ∧ IntN u j (D : Int) K ∧ 0 < D ∧ q = mkRat z D ∧ 1 ≤ K
end
@[reducible] def IV (a b : RL) : Value := .agg #[.bool a.s, .slice a.m.a a.m.n a.m.c, .slice a.d.a a.d.n a.d.c, .bool b.s, .slice b.m.a b.m.n b.m.c, .slice b.d.a b.d.n b.d.c]
namespace Nt
theorem cmpQ_gt (x y : Rat) : decide ((0 : Int) < cmpQ x y) = decide (y < x) := by
 unfold cmpQ
 rw [decide_eq_decide]
 split
 ·constructor
  ·intro h; simp at h
  intro h; grind
 split
 ·constructor
  ·intro h; simp at h
  intro h; grind
 constructor
 ·intro h; grind
 intro h; simp
theorem cmpQ_le (x y : Rat) : decide (cmpQ x y ≤ (0 : Int)) = decide (x ≤ y) := by
 unfold cmpQ
 rw [decide_eq_decide]
 split
 ·constructor
  ·intro h; grind
  intro h; simp
 split
 ·constructor
  ·intro h; grind
  intro h; simp
 constructor
 ·intro h; simp at h
 intro h; grind
theorem cmpQ_eq (x y : Rat) : (cmpQ x y == (0 : Int)) = decide (x = y) := by
 unfold cmpQ
 rw [Bool.eq_iff_iff, decide_eq_true_iff]
 split
 ·constructor
  ·intro h; simp at h
  intro h; grind
 split <;> simp_all
theorem sgQ_gt (x : Rat) : decide ((0 : Int) < sgQ x) = decide (0 < x) := cmpQ_gt x 0
theorem sgQ_lt (x : Rat) : decide (sgQ x < (0 : Int)) = decide (x < 0) := cmpQ_lt x 0
theorem ends_gt {x y : Rat} (h : decide ((0 : Int) < cmpQ x y) = true) : lo x y = y ∧ hi x y = x := by
 rw [cmpQ_gt] at h
 have h := qyt h
 unfold lo hi
 exact ⟨if_pos h, if_neg (by grind)⟩
theorem ends_le {x y : Rat} (h : decide ((0 : Int) < cmpQ x y) = false) : lo x y = x ∧ hi x y = y := by
 rw [cmpQ_gt] at h
 have h := qyf h
 unfold lo hi
 refine ⟨if_neg h, ?_⟩
 split
 ·rfl
 grind
theorem lesser_lt {x y : Rat} (h : decide (cmpQ y x < (0 : Int)) = true) : lo x y = y := by
 rw [cmpQ_lt] at h
 exact if_pos (qyt h)
theorem lesser_ge {x y : Rat} (h : decide (cmpQ y x < (0 : Int)) = false) : lo x y = x := by
 rw [cmpQ_lt] at h
 exact if_neg (qyf h)
theorem greater_gt {x y : Rat} (h : decide ((0 : Int) < cmpQ y x) = true) : hi x y = y := by
 rw [cmpQ_gt] at h
 exact if_pos (qyt h)
theorem greater_le {x y : Rat} (h : decide ((0 : Int) < cmpQ y x) = false) : hi x y = x := by
 rw [cmpQ_gt] at h
 exact if_neg (qyf h)
theorem lo_le_hi (x y : Rat) : lo x y ≤ hi x y := by unfold lo hi; grind
theorem lo_of_le {x y : Rat} (h : x ≤ y) : lo x y = x ∧ hi x y = y := by unfold lo hi; grind
def sgI (a b : Rat) : Int := if 0 < lo a b then 1 else if hi a b < 0 then -1 else 0
def lo4 (a b c d : Rat) : Rat := lo (lo (lo a b) c) d
def hi4 (a b c d : Rat) : Rat := hi (hi (hi a b) c) d
end Nt
section
variable {u u' w w' : World} {x y : Sl} {i j : IL} {r r' : RL} {N M K L : Nat} {z z' : Int} {q q' : Rat}
theorem k_cloneN (d : Dat u w) (h : NatN u x N K) (hK : K ≤ 500000000) : qyc 328 #[x.v] w (Post u w fun v u' => ∃ y : Sl, v = y.v ∧ NatN u' y N K) := by
 obtain ⟨h1, h2, h3⟩ := h
 refine (CloneU_any _ _ _ _ _ (h2.ext d.ext) xq).mono fun e w' ⟨A', c', he, f, g, hb⟩ => ?_
 have hs : u.heap.size ≤ w'.heap.size := by rw [d.size]; exact hb.size
 exact ⟨_, over u w', he, over_dat d hb, hb, over_grow hs, ⟨A', x.n, c'⟩, rfl, h1, f.over (fun hp => by obtain ⟨a, e, k, _⟩ := g hp; exact ⟨a, e, by rw [d.size]; exact k⟩) hs, h3⟩
theorem own_rat {m e : Sl} (h : RatN u r q K) (h1 : NatN u' m q.num.natAbs K) (h2 : NatN u' e q.den K) : RatN u' ⟨r.s, m, e⟩ q K := ⟨⟨h.1.1, h1⟩, h2⟩
end
end Go.Proofs.YtcmllhhiekjmaaaGreat
namespace Go.Proofs.YtcmllhhiekjmaaaGreat
open Nt
namespace Nt
def trimQ : List Rat → List Rat
 | [] => []
 | a :: l => if trimQ l = [] ∧ a = 0 then [] else a :: trimQ l
def co (l : List Rat) (i : Nat) : Rat := l.getD i 0
theorem co_nil (i : Nat) : co [] i = 0 := by simp [co]
theorem co_zero (a : Rat) (l : List Rat) : co (a :: l) 0 = a := rfl
theorem zxn (a : Rat) (l : List Rat) (i : Nat) : co (a :: l) (i + 1) = co l i := by simp [co]
theorem co_ge {l : List Rat} {i : Nat} (h : l.length ≤ i) : co l i = 0 := by simp [co, List.getElem?_eq_none h]
theorem trim_co (l : List Rat) (i : Nat) : co (trimQ l) i = co l i := by
 induction l generalizing i with
 | nil => rfl
 | cons a l ih =>
  unfold trimQ
  split
  ·rename_i h
   rw [co_nil]
   cases i with
   | zero => rw [co_zero, h.2]
   | succ i => rw [zxn, ← ih, h.1, co_nil]
  cases i with
  | zero => rfl
  | succ i => rw [zxn, zxn, ih]
def Nrm (l : List Rat) : Prop := trimQ l = l
theorem zxr {l : List Rat} : trimQ l = [] ↔ ∀ i, co l i = 0 := by
 induction l with
 | nil => simp [trimQ, co]
 | cons a l ih =>
  unfold trimQ
  split
  ·rename_i h
   simp
   intro i
   cases i with
   | zero => exact h.2
   | succ i => rw [zxn]; exact ih.1 h.1 i
  rename_i h
  simp
  apply Classical.byContradiction
  intro hc
  apply h
  have hc : ∀ i, co (a :: l) i = 0 := fun i => Classical.byContradiction fun k => hc ⟨i, k⟩
  exact ⟨ih.2 fun i => by rw [← zxn a]; exact hc (i + 1), hc 0⟩
theorem trim_ext {l m : List Rat} (h : ∀ i, co l i = co m i) : trimQ l = trimQ m := by
 induction l generalizing m with
 | nil =>
  have : trimQ m = [] := zxr.2 fun i => by rw [← h i, co_nil]
  rw [this]; rfl
 | cons a l ih =>
  cases m with
  | nil =>
   have : trimQ (a :: l) = [] := zxr.2 fun i => by rw [h i, co_nil]
   rw [this]; rfl
  | cons b m =>
   have e0 : a = b := h 0
   have e1 : trimQ l = trimQ m := ih fun i => by rw [← zxn a, ← zxn b]; exact h (i + 1)
   unfold trimQ
   rw [e0, e1]
theorem trim_trim (l : List Rat) : trimQ (trimQ l) = trimQ l := trim_ext fun i => trim_co l i
theorem trim_nrm (l : List Rat) : Nrm (trimQ l) := trim_trim l
theorem co_map (f : Rat → Rat) (hf : f 0 = 0) (l : List Rat) (i : Nat) : co (l.map f) i = f (co l i) := by
 simp only [co, qyg, List.getElem?_map]
 cases l[i]? <;> simp [hf]
theorem co_range (n : Nat) (f : Nat → Rat) (i : Nat) : co ((List.range n).map f) i = if i < n then f i else 0 := by
 simp only [co, qyg, List.getElem?_map]
 by_cases h : i < n
 ·simp [h]
 simp [h]
def addQ (l m : List Rat) : List Rat := (List.range (max l.length m.length)).map fun i => co l i + co m i
@[simp] theorem addQ_len (l m : List Rat) : (addQ l m).length = max l.length m.length := by simp [addQ]
theorem addQ_co (l m : List Rat) (i : Nat) : co (addQ l m) i = co l i + co m i := by
 unfold addQ
 rw [co_range]
 split
 ·rfl
 rw [co_ge (l := l) xq, co_ge (l := m) xq]; exact (Rat.add_zero 0).symm
def negQ (l : List Rat) : List Rat := l.map fun x => -x
@[simp] theorem negQ_len (l : List Rat) : (negQ l).length = l.length := by simp [negQ]
theorem negQ_co (l : List Rat) (i : Nat) : co (negQ l) i = -co l i := co_map _ (by simp) l i
def derQ (l : List Rat) : List Rat := (List.range (l.length - 1)).map fun i => co l (i + 1) * (((i + 1 : Nat) : Int) : Rat)
@[simp] theorem derQ_len (l : List Rat) : (derQ l).length = l.length - 1 := by simp [derQ]
end Nt
namespace Nt
def cmn (x y : Rat) : Rat := if x = 0 then absQ y else if y = 0 then x else absQ (x / (((x / y).num : Int) : Rat))
def msr (l : List Rat) : Rat := l.foldl cmn 0
end Nt
namespace Nt
def mulQ : List Rat → List Rat → List Rat
 | [], m => []
 | a :: l, m => addQ (m.map (a * ·)) (0 :: mulQ l m)
def sh (f : Nat → Rat) (k : Nat) : Rat := if k = 0 then 0 else f (k - 1)
theorem co_cons0 (l : List Rat) (k : Nat) : co (0 :: l) k = sh (co l) k := by
 cases k with
 | zero => rfl
 | succ k => rw [zxn]; simp [sh]
theorem zyx (a : Rat) (l m : List Rat) (k : Nat) : co (mulQ (a :: l) m) k = a * co m k + sh (co (mulQ l m)) k := by
 show co (addQ (m.map (a * ·)) (0 :: mulQ l m)) k = _
 rw [addQ_co, co_map _ (by simp), co_cons0]
theorem mulQ_nil (m : List Rat) (k : Nat) : co (mulQ [] m) k = 0 := rfl
def inn (R : List Rat) (i : Nat) (x : Rat) (B : List Rat) : Nat → List Rat
 | 0 => R
 | j + 1 => (inn R i x B j).set (i + j) (co (inn R i x B j) (i + j) + x * co B j)
def outQ (A B : List Rat) (N : Nat) : Nat → List Rat
 | 0 => List.replicate N 0
 | i + 1 => inn (outQ A B N i) i (co A i) B B.length
@[simp] theorem inn_len (R : List Rat) (i : Nat) (x : Rat) (B : List Rat) (j : Nat) : (inn R i x B j).length = R.length := by
 induction j with
 | zero => rfl
 | succ j ih => simp [inn, ih]
@[simp] theorem outQ_len (A B : List Rat) (N i : Nat) : (outQ A B N i).length = N := by
 induction i with
 | zero => simp [outQ]
 | succ i ih => simp [outQ, ih]
theorem mulQ_zero {l : List Rat} (h : ∀ i, co l i = 0) (m : List Rat) (k : Nat) : co (mulQ l m) k = 0 := by
 induction l generalizing k with
 | nil => rfl
 | cons a l ih =>
  have ha : a = 0 := h 0
  have hl : ∀ i, co l i = 0 := fun i => by rw [← zxn a]; exact h (i + 1)
  rw [zyx, ha]
  unfold sh
  split
  ·grind
  rw [ih hl]; grind
theorem zxz {l l' m m' : List Rat} (h : ∀ i, co l i = co l' i) (h2 : ∀ i, co m i = co m' i) (k : Nat) : co (mulQ l m) k = co (mulQ l' m') k := by
 induction l generalizing l' k with
 | nil =>
  rw [mulQ_nil, mulQ_zero (fun i => by rw [← h i, co_nil])]
 | cons a l ih =>
  cases l' with
  | nil => rw [mulQ_nil, mulQ_zero (fun i => by rw [h i, co_nil])]
  | cons b l' =>
   have hab : a = b := h 0
   have hl : ∀ i, co l i = co l' i := fun i => by rw [← zxn a, ← zxn b]; exact h (i + 1)
   rw [zyx, zyx, hab, h2]
   unfold sh
   split
   ·rfl
   rw [ih hl]
theorem mulQ_scale_l (c : Rat) (l m : List Rat) (k : Nat) : co (mulQ (l.map (c * ·)) m) k = c * co (mulQ l m) k := by
 induction l generalizing k with
 | nil => rw [List.map_nil, mulQ_nil]; grind
 | cons a l ih =>
  rw [List.map_cons, zyx, zyx]
  unfold sh
  split
  ·grind
  rw [ih]; grind
theorem mulQ_scale_r (c : Rat) (l m : List Rat) (k : Nat) : co (mulQ l (m.map (c * ·))) k = c * co (mulQ l m) k := by
 induction l generalizing k with
 | nil => rw [mulQ_nil, mulQ_nil]; grind
 | cons a l ih =>
  rw [zyx, zyx, co_map _ (by simp)]
  unfold sh
  split
  ·grind
  rw [ih]; grind
theorem mulQ_zero_r {m : List Rat} (h : ∀ i, co m i = 0) (l : List Rat) (k : Nat) : co (mulQ l m) k = 0 := by
 have := mulQ_scale_r 0 l m k
 rw [Rat.zero_mul] at this
 rw [← this]
 exact zxz (fun _ => rfl) (fun i => by rw [co_map _ (by simp), h]; simp) k
def kk (W t : Nat) : Nat := t * W + 2
end Nt
namespace Nt
def mulN (n : Nat) (l : List Rat) (q : Rat) : List Rat := (List.range l.length).map fun i => if i < n then co l i * q else co l i
@[simp] theorem mulN_len (n : Nat) (l : List Rat) (q : Rat) : (mulN n l q).length = l.length := by simp [mulN]
def subN (a : Nat) (c : Rat) (q t : List Rat) : Nat → List Rat
 | 0 => t
 | j + 1 => (subN a c q t j).set (a + j) ((subN a c q t j).getD (a + j) 0 - c * q.getD j 0)
@[simp] theorem subN_len (a : Nat) (c : Rat) (q t : List Rat) (j : Nat) : (subN a c q t j).length = t.length := by
 induction j with
 | zero => rfl
 | succ j ih => simp [subN, ih]
structure DivR (p q s t : List Rat) (f : Rat) : Prop where
 f0 : f ≠ 0
 eq : ∀ i, f * co p i = co (mulQ s q) i + co t i
 lt : t.length < q.length
 tl : t.length ≤ p.length
 sl : s.length ≤ p.length + 1
end Nt
namespace Nt
structure Pol where
 l : List Rat
 h : Nrm l
namespace Pol
def mk' (l : List Rat) : Pol := ⟨trimQ l, trim_nrm l⟩
def c (p : Pol) (i : Nat) : Rat := co p.l i
theorem mk_c (l : List Rat) (i : Nat) : (mk' l).c i = co l i := trim_co l i
theorem ext {p q : Pol} (h : ∀ i, p.c i = q.c i) : p = q := by
 obtain ⟨l, hl⟩ := p
 obtain ⟨m, hm⟩ := q
 have e : trimQ l = trimQ m := trim_ext h
 unfold Nrm at hl hm
 rw [hl, hm] at e
 subst e; rfl
theorem mk_l (p : Pol) : mk' p.l = p := ext fun i => mk_c _ i
def C (a : Rat) : Pol := mk' [a]
instance (n : Nat) : OfNat Pol n := ⟨C (n : Rat)⟩
instance : Add Pol := ⟨fun p q => mk' (addQ p.l q.l)⟩
instance : Mul Pol := ⟨fun p q => mk' (mulQ p.l q.l)⟩
instance : Neg Pol := ⟨fun p => mk' (negQ p.l)⟩
instance : Sub Pol := ⟨fun p q => p + -q⟩
def X : Pol := mk' [0, 1]
theorem c_add (p q : Pol) (i : Nat) : (p + q).c i = p.c i + q.c i := (mk_c _ i).trans (addQ_co _ _ i)
theorem c_neg (p : Pol) (i : Nat) : (-p).c i = -p.c i := (mk_c _ i).trans (negQ_co _ i)
theorem c_C (a : Rat) (i : Nat) : (C a).c i = if i = 0 then a else 0 := by
 unfold C
 rw [mk_c]
 cases i with
 | zero => rfl
 | succ i => rw [zxn, co_nil, if_neg xq]
theorem c_zero (i : Nat) : (0 : Pol).c i = 0 := by
 have h : (0 : Pol).c i = if i = 0 then (0 : Rat) else 0 := c_C 0 i
 rw [h]; split <;> rfl
theorem zero_l : (0 : Pol).l = [] := zxr.2 fun i => by
 have := c_zero i
 unfold c at this
 show co [((0 : Nat) : Rat)] i = 0
 rw [← trim_co]; exact this
theorem c_mul (p q : Pol) (i : Nat) : (p * q).c i = co (mulQ p.l q.l) i := mk_c _ i
theorem mk_cons (a : Rat) (l : List Rat) (i : Nat) : (mk' (a :: l)).c i = if i = 0 then a else (mk' l).c (i - 1) := by
 rw [mk_c]
 cases i with
 | zero => rfl
 | succ i => rw [zxn, if_neg xq, mk_c]; rfl
theorem mulQ_consR (l : List Rat) (b : Rat) (m : List Rat) (k : Nat) : co (mulQ l (b :: m)) k = b * co l k + sh (co (mulQ l m)) k := by
 induction l generalizing k with
 | nil =>
  rw [mulQ_nil, co_nil]
  have e : sh (co (mulQ [] m)) k = 0 := by unfold sh; split <;> rfl
  rw [e]; grind
 | cons a l ih =>
  rw [zyx]
  cases k with
  | zero => unfold sh; rw [if_pos rfl, if_pos rfl, co_zero, co_zero]; grind
  | succ k =>
   have e1 : sh (co (mulQ l (b :: m))) (k + 1) = b * co l k + sh (co (mulQ l m)) k := by
    unfold sh; rw [if_neg xq, Nat.add_sub_cancel]; exact ih k
   have e2 : sh (co (mulQ (a :: l) m)) (k + 1) = a * co m k + sh (co (mulQ l m)) k := by
    unfold sh; rw [if_neg xq, Nat.add_sub_cancel]; exact zyx a l m k
   rw [e1, e2, zxn, zxn]; grind
theorem mulQ_comm (l m : List Rat) (k : Nat) : co (mulQ l m) k = co (mulQ m l) k := by
 induction l generalizing k with
 | nil =>
  rw [mulQ_nil]
  exact (mulQ_zero_r (m := []) (fun i => co_nil i) m k).symm
 | cons a l ih =>
  rw [zyx, mulQ_consR]
  have e : sh (co (mulQ l m)) k = sh (co (mulQ m l)) k := by unfold sh; split; rfl; exact ih _
  rw [e]
theorem mulQ_add (l l' m : List Rat) (k : Nat) : co (mulQ (addQ l l') m) k = co (mulQ l m) k + co (mulQ l' m) k := by
 induction m generalizing k with
 | nil =>
  rw [mulQ_zero_r (fun i => co_nil i), mulQ_zero_r (fun i => co_nil i), mulQ_zero_r (fun i => co_nil i)]; exact (Rat.add_zero 0).symm
 | cons b m ih =>
  rw [mulQ_consR, mulQ_consR, mulQ_consR, addQ_co]
  cases k with
  | zero => unfold sh; rw [if_pos rfl, if_pos rfl, if_pos rfl]; grind
  | succ k =>
   have e : ∀ x : List Rat, sh (co x) (k + 1) = co x k := fun x => by unfold sh; rw [if_neg xq, Nat.add_sub_cancel]
   rw [e, e, e, ih k]; grind
theorem mulQ_assoc (l m n : List Rat) (k : Nat) : co (mulQ (mulQ l m) n) k = co (mulQ l (mulQ m n)) k := by
 induction l generalizing k with
 | nil => rfl
 | cons a l ih =>
  show co (mulQ (addQ (m.map (a * ·)) (0 :: mulQ l m)) n) k = _
  rw [mulQ_add, mulQ_scale_l, zyx, zyx]
  cases k with
  | zero => unfold sh; rw [if_pos rfl, if_pos rfl]; grind
  | succ k =>
   have e : ∀ x : List Rat, sh (co x) (k + 1) = co x k := fun x => by unfold sh; rw [if_neg xq, Nat.add_sub_cancel]
   rw [e, e, ih k]; grind
theorem mulQ_one (m : List Rat) (k : Nat) : co (mulQ [1] m) k = co m k := by
 rw [zyx]
 have e : sh (co (mulQ [] m)) k = 0 := by unfold sh; split <;> rfl
 rw [e]; grind
theorem mul_comm (p q : Pol) : p * q = q * p := ext fun i => by rw [c_mul, c_mul, mulQ_comm]
theorem mul_assoc (p q r : Pol) : p * q * r = p * (q * r) := ext fun i => by
 rw [c_mul, c_mul]
 show co (mulQ (trimQ (mulQ p.l q.l)) r.l) i = co (mulQ p.l (trimQ (mulQ q.l r.l))) i
 rw [zxz (l' := mulQ p.l q.l) (m' := r.l) (trim_co _) (fun _ => rfl), zxz (l' := p.l) (m' := mulQ q.l r.l) (fun _ => rfl) (trim_co _)]
 exact mulQ_assoc _ _ _ i
theorem one_mul (p : Pol) : 1 * p = p := ext fun i => by
 rw [c_mul]
 show co (mulQ (trimQ [((1 : Nat) : Rat)]) p.l) i = _
 rw [zxz (l' := [((1 : Nat) : Rat)]) (m' := p.l) (trim_co _) (fun _ => rfl)]
 exact mulQ_one _ i
theorem right_distrib (p q r : Pol) : (p + q) * r = p * r + q * r := ext fun i => by
 rw [c_mul, c_add, c_mul, c_mul]
 show co (mulQ (trimQ (addQ p.l q.l)) r.l) i = _
 rw [zxz (l' := addQ p.l q.l) (m' := r.l) (trim_co _) (fun _ => rfl)]
 exact mulQ_add _ _ _ i
theorem add_comm (p q : Pol) : p + q = q + p := ext fun i => by rw [c_add, c_add]; grind
theorem add_assoc (p q r : Pol) : p + q + r = p + (q + r) := ext fun i => by rw [c_add, c_add, c_add, c_add]; grind
theorem add_zero (p : Pol) : p + 0 = p := ext fun i => by rw [c_add, c_zero]; grind
theorem neg_add_cancel (p : Pol) : -p + p = 0 := ext fun i => by rw [c_add, c_neg, c_zero]; grind
theorem zero_mul (p : Pol) : 0 * p = 0 := ext fun i => by rw [c_mul, zero_l, mulQ_nil, c_zero]
theorem left_distrib (p q r : Pol) : p * (q + r) = p * q + p * r := by rw [mul_comm, right_distrib, mul_comm q, mul_comm r]
theorem mul_zero (p : Pol) : p * 0 = 0 := by rw [mul_comm, zero_mul]
theorem mul_one (p : Pol) : p * 1 = p := by rw [mul_comm, one_mul]
instance : NatCast Pol := ⟨fun n => C (n : Rat)⟩
instance : IntCast Pol := ⟨fun n => C (n : Rat)⟩
def npow (p : Pol) : Nat → Pol
 | 0 => 1
 | n + 1 => npow p n * p
instance : HPow Pol Nat Pol := ⟨npow⟩
instance : SMul Nat Pol := ⟨fun n p => C (n : Rat) * p⟩
instance : SMul Int Pol := ⟨fun n p => C (n : Rat) * p⟩
theorem C_add (a b : Rat) : C (a + b) = C a + C b := ext fun i => by
 rw [c_add, c_C, c_C, c_C]; split <;> grind
theorem C_neg (a : Rat) : C (-a) = -C a := ext fun i => by
 rw [c_neg, c_C, c_C]; split <;> grind
instance : Lean.Grind.CommRing Pol where
 add_zero := add_zero
 add_comm := add_comm
 add_assoc := add_assoc
 mul_assoc := mul_assoc
 mul_one := mul_one
 one_mul := one_mul
 left_distrib := left_distrib
 right_distrib := right_distrib
 zero_mul := zero_mul
 mul_zero := mul_zero
 mul_comm := mul_comm
 pow_zero := fun p => rfl
 pow_succ := fun p n => rfl
 neg_add_cancel := neg_add_cancel
 sub_eq_add_neg := fun p q => rfl
 ofNat_succ := fun n => by
  show C ((n + 1 : Nat) : Rat) = C (n : Rat) + C 1
  rw [← C_add]; congr 1
  exact Rat.natCast_add n 1
 ofNat_eq_natCast := fun n => rfl
 intCast_ofNat := fun n => rfl
 intCast_neg := fun n => by
  show C ((-n : Int) : Rat) = -C (n : Rat)
  rw [← C_neg, Rat.intCast_neg]
 nsmul_eq_natCast_mul := fun n p => rfl
 zsmul_natCast_eq_nsmul := fun n p => rfl
 neg_zsmul := fun n p => by
  show C ((-n : Int) : Rat) * p = -(C (n : Rat) * p)
  rw [Rat.intCast_neg, C_neg]
  refine ext fun i => ?_
  rw [c_neg, c_mul, c_mul]
  show co (mulQ (trimQ (negQ (C (n : Rat)).l)) p.l) i = _
  rw [zxz (l' := negQ (C (n : Rat)).l) (m' := p.l) (trim_co _) (fun _ => rfl)]
  have e : negQ (C (n : Rat)).l = (C (n : Rat)).l.map ((-1) * ·) := by unfold negQ; congr 1; funext x; grind
  rw [e, mulQ_scale_l]; grind
example (p q : Pol) : (p + q) * (p - q) = p * p - q * q := by grind
example (p q : Pol) : (p + q) ^ 2 = p ^ 2 + 2 * p * q + q ^ 2 := by grind
end Pol
end Nt
namespace Nt
namespace Pol
def len (p : Pol) : Nat := p.l.length
def lead (p : Pol) : Rat := p.c (p.len - 1)
theorem c_ge {p : Pol} {i : Nat} (h : p.len ≤ i) : p.c i = 0 := co_ge h
theorem zero_of_len {p : Pol} (h : p.len = 0) : p = 0 := ext fun i => by rw [c_zero, c_ge xq]
instance : Dvd Pol := ⟨fun q p => ∃ u, p = q * u⟩
def monic (p : Pol) : Pol := C (1 / p.lead) * p
theorem mk_cons' (a : Rat) (l : List Rat) : mk' (a :: l) = C a + X * mk' l := ext fun i => by
 have hX : ∀ p : Pol, (X * p).c i = if i = 0 then 0 else p.c (i - 1) := fun p => by
  rw [c_mul]
  show co (mulQ (trimQ [0, 1]) p.l) i = _
  rw [zxz (l' := [0, 1]) (m' := p.l) (trim_co _) (fun _ => rfl), zyx]
  unfold sh
  split
  ·grind
  rw [mulQ_one]; show 0 * _ + p.c (i - 1) = _; grind
 rw [c_add, hX, mk_cons, c_C]
 split <;> grind
theorem ind {P : Pol → Prop} (h0 : P 0) (h1 : ∀ a p, P p → P (C a + X * p)) (p : Pol) : P p := by
 rw [← mk_l p]
 generalize p.l = l
 induction l with
 | nil => exact (zero_of_len (p := mk' []) rfl) ▸ h0
 | cons a l ih => rw [mk_cons']; exact h1 a _ ih
def D (p : Pol) : Pol := mk' (derQ p.l)
def evL : List Rat → Rat → Rat
 | [], x => 0
 | a :: l, x => a + x * evL l x
def ev (p : Pol) (x : Rat) : Rat := evL p.l x
end Pol
end Nt
namespace Nt
def prim (l : List Rat) : List Rat := (trimQ l).map (· / msr (trimQ l))
@[simp] theorem prim_len (l : List Rat) : (prim l).length = (trimQ l).length := by simp [prim]
end Nt
open Go.RowKit Go.ChangeShapes Go.WideShapes
section
variable {H : Type} {enc : TypeId × Value → H} {w : World} {base : Nat} {spare : Nat → Bool} {held : Bool} {fuel : Nat} {r0 : Reach} {b0 : Nat} {v : Value} {d : DataW H} {p : List MemPlace}
set_option maxRecDepth 100000 in
theorem ar_intsv (hv : Value.okWide Tryz.prog w r0 b0 22 v) (h : DataW.Trod enc Tryz.prog w base spare held 22 v d p) : ∃ (s : Sl) (l : List Int), v = s.v ∧ SlR .i64 w s.a s.n s.c l ∧ ∀ z ∈ l, -9223372036854775808 ≤ z ∧ z ≤ 9223372036854775807 := by
 obtain ⟨a, n, c, rfl⟩ := okWide_slice Tryz.underlying22 hv
 obtain ⟨fuel, hf⟩ := h
 obtain ⟨s, l, h1, h2, h3⟩ := ar_slr (k := .i64) (e := 3) xj xj xj hf
 have h1 : [Value.slice a n c] = [s.v] := h1
 exact ⟨s, l, (List.cons.inj h1).1, h2, fun z hz => wf_i64 (h3 z hz)⟩
end
end Go.Proofs.YtcmllhhiekjmaaaGreat
namespace Go.Proofs.YtcmllhhiekjmaaaGreat.Cyc
open Go.RowKit
def subRow (R : List Int) (k : Nat) (c : Int) (Q : List Int) : Nat → List Int
 | 0 => R
 | m + 1 => (subRow R k c Q m).set (k + m) (wrap64 ((subRow R k c Q m)[k + m]?.getD 0 - wrap64 (c * Q[m]?.getD 0)))
theorem subRow_length (R : List Int) (k : Nat) (c : Int) (Q : List Int) (m : Nat) : (subRow R k c Q m).length = R.length := by
 induction m with
 | zero => rfl
 | succ m ih => simp [subRow, ih]
def divGo (Q : List Int) (top : Nat) : Nat → List Int → List Int → List Int
 | 0, _, r => r
 | m + 1, R, r => divGo Q top m (subRow R m (R[m + top]?.getD 0) Q Q.length) (r.set m (R[m + top]?.getD 0))
def quot (p q : List Int) : List Int := divGo q (q.length - 1) (p.length - (q.length - 1)) p (List.replicate (p.length - (q.length - 1)) 0)
theorem divGo_length (Q : List Int) (top m : Nat) : ∀ R r, (divGo Q top m R r).length = r.length := by
 induction m with
 | zero => intro R r; rfl
 | succ m ih => intro R r; simp [divGo, ih]
theorem quot_length (p q : List Int) : (quot p q).length = p.length - (q.length - 1) := by simp [quot, divGo_length]
theorem subRow_get (R : List Int) (k : Nat) (c : Int) (Q : List Int) (m : Nat) : ∀ i, k + m ≤ R.length → (subRow R k c Q m)[i]? = if k ≤ i ∧ i < k + m then some (wrap64 (R[i]?.getD 0 - wrap64 (c * Q[i - k]?.getD 0))) else R[i]? := by
 induction m with
 | zero => intro i _; rw [if_neg xq]; rfl
 | succ m ih =>
  intro i hl
  rw [subRow, List.getElem?_set]
  by_cases h1 : k + m = i
  ·subst h1
   rw [if_pos rfl, if_pos (by rw [subRow_length]; omega), if_pos xq, ih _ xq, if_neg xq, Nat.add_sub_cancel_left]
  rw [if_neg h1, ih _ xq]
  by_cases h2 : k ≤ i ∧ i < k + m
  ·rw [if_pos h2, if_pos xq]
  rw [if_neg h2, if_neg xq]
def subZip (c : Int) : List Int → List Int → List Int
 | x :: R, y :: Q => wrap64 (x - wrap64 (c * y)) :: subZip c R Q
 | R, _ => R
def subAt (c : Int) (Q : List Int) : Nat → List Int → List Int
 | 0, R => subZip c R Q
 | k + 1, x :: R => x :: subAt c Q k R
 | _ + 1, [] => []
theorem subZip_get (c : Int) : ∀ (R Q : List Int) (i : Nat), Q.length ≤ R.length → (subZip c R Q)[i]? = if i < Q.length then some (wrap64 (R[i]?.getD 0 - wrap64 (c * Q[i]?.getD 0))) else R[i]?
 | [], [], i, _ => by simp [subZip]
 | [], y :: Q, i, h => by simp at h
 | x :: R, [], i, _ => by simp [subZip]
 | x :: R, y :: Q, 0, _ => by simp [subZip]
 | x :: R, y :: Q, i + 1, h => by
  simp only [subZip, List.getElem?_cons_succ, List.length_cons]
  rw [subZip_get c R Q i (by simpa using h)]
  simp
theorem subAt_get (c : Int) (Q : List Int) : ∀ (k : Nat) (R : List Int) (i : Nat), k + Q.length ≤ R.length → (subAt c Q k R)[i]? = if k ≤ i ∧ i < k + Q.length then some (wrap64 (R[i]?.getD 0 - wrap64 (c * Q[i - k]?.getD 0))) else R[i]?
 | 0, R, i, h => by rw [subAt, subZip_get c R Q i xq]; simp
 | k + 1, [], i, h => by simp at h
 | k + 1, x :: R, 0, _ => by simp [subAt]
 | k + 1, x :: R, i + 1, h => by
  simp only [subAt, List.getElem?_cons_succ]
  rw [subAt_get c Q k R i (by simp at h; omega), show i + 1 - (k + 1) = i - k by omega]
  by_cases h2 : k ≤ i ∧ i < k + Q.length
  ·rw [if_pos h2, if_pos xq]
  rw [if_neg h2, if_neg xq]
theorem subRow_eq (c : Int) (Q R : List Int) (k : Nat) (h : k + Q.length ≤ R.length) : subRow R k c Q Q.length = subAt c Q k R := by
 apply List.ext_getElem?
 intro i
 rw [subRow_get R k c Q Q.length i h, subAt_get c Q k R i h]
def divQ (Q : List Int) (top : Nat) : Nat → List Int → List Int → List Int
 | 0, _, r => r
 | m + 1, R, r => divQ Q top m (subAt (R[m + top]?.getD 0) Q m R) ((R[m + top]?.getD 0) :: r)
theorem subAt_length (c : Int) (Q : List Int) (k : Nat) (R : List Int) (h : k + Q.length ≤ R.length) : (subAt c Q k R).length = R.length := by
 rw [← subRow_eq c Q R k h, subRow_length]
theorem divGo_eq (Q : List Int) (top : Nat) (hQ : Q.length = top + 1) : ∀ (m : Nat) (R r : List Int), m + top ≤ R.length → m ≤ r.length → divGo Q top m R r = divQ Q top m R (r.drop m)
 | 0, R, r, _, _ => by simp [divGo, divQ]
 | m + 1, R, r, h, h2 => by
  rw [divGo, divQ, subRow_eq _ _ _ _ xq]
  rw [divGo_eq Q top hQ m _ _ (by rw [subAt_length _ _ _ _ xq]; omega) yz]
  congr 1
  rw [List.drop_eq_getElem_cons (i := m) yz]
  simp [List.drop_set]
def quotQ (p q : List Int) : List Int := divQ q (q.length - 1) (p.length - (q.length - 1)) p []
theorem quot_eq (p q : List Int) (hq : 1 ≤ q.length) (hp : q.length ≤ p.length + 1) : quot p q = quotQ p q := by
 unfold quot quotQ
 rw [divGo_eq q _ xq _ _ _ xq (by simp)]
 simp
def tab : List (List Int) := [[],
 [-1, 1],
 [1, 1],
 [1, 1, 1],
 [1, 0, 1],
 [1, 1, 1, 1, 1],
 [1, -1, 1],
 [1, 1, 1, 1, 1, 1, 1],
 [1, 0, 0, 0, 1],
 [1, 0, 0, 1, 0, 0, 1],
 [1, -1, 1, -1, 1],
 [1, 1, 1, 1, 1, 1, 1, 1, 1, 1, 1],
 [1, 0, -1, 0, 1],
 [1, 1, 1, 1, 1, 1, 1, 1, 1, 1, 1, 1, 1],
 [1, -1, 1, -1, 1, -1, 1],
 [1, -1, 0, 1, -1, 1, 0, -1, 1],
 [1, 0, 0, 0, 0, 0, 0, 0, 1],
 [1, 1, 1, 1, 1, 1, 1, 1, 1, 1, 1, 1, 1, 1, 1, 1, 1],
 [1, 0, 0, -1, 0, 0, 1],
 [1, 1, 1, 1, 1, 1, 1, 1, 1, 1, 1, 1, 1, 1, 1, 1, 1, 1, 1],
 [1, 0, -1, 0, 1, 0, -1, 0, 1],
 [1, -1, 0, 1, -1, 0, 1, 0, -1, 1, 0, -1, 1],
 [1, -1, 1, -1, 1, -1, 1, -1, 1, -1, 1],
 [1, 1, 1, 1, 1, 1, 1, 1, 1, 1, 1, 1, 1, 1, 1, 1, 1, 1, 1, 1, 1, 1, 1],
 [1, 0, 0, 0, -1, 0, 0, 0, 1],
 [1, 0, 0, 0, 0, 1, 0, 0, 0, 0, 1, 0, 0, 0, 0, 1, 0, 0, 0, 0, 1],
 [1, -1, 1, -1, 1, -1, 1, -1, 1, -1, 1, -1, 1],
 [1, 0, 0, 0, 0, 0, 0, 0, 0, 1, 0, 0, 0, 0, 0, 0, 0, 0, 1],
 [1, 0, -1, 0, 1, 0, -1, 0, 1, 0, -1, 0, 1],
 [1, 1, 1, 1, 1, 1, 1, 1, 1, 1, 1, 1, 1, 1, 1, 1, 1, 1, 1, 1, 1, 1, 1, 1, 1, 1, 1, 1, 1],
 [1, 1, 0, -1, -1, -1, 0, 1, 1],
 [1, 1, 1, 1, 1, 1, 1, 1, 1, 1, 1, 1, 1, 1, 1, 1, 1, 1, 1, 1, 1, 1, 1, 1, 1, 1, 1, 1, 1, 1, 1],
 [1, 0, 0, 0, 0, 0, 0, 0, 0, 0, 0, 0, 0, 0, 0, 0, 1],
 [1, -1, 0, 1, -1, 0, 1, -1, 0, 1, -1, 1, 0, -1, 1, 0, -1, 1, 0, -1, 1],
 [1, -1, 1, -1, 1, -1, 1, -1, 1, -1, 1, -1, 1, -1, 1, -1, 1],
 [1, -1, 0, 0, 0, 1, -1, 1, -1, 0, 1, -1, 1, -1, 1, 0, -1, 1, -1, 1, 0, 0, 0, -1, 1],
 [1, 0, 0, 0, 0, 0, -1, 0, 0, 0, 0, 0, 1],
 [1, 1, 1, 1, 1, 1, 1, 1, 1, 1, 1, 1, 1, 1, 1, 1, 1, 1, 1, 1, 1, 1, 1, 1, 1, 1, 1, 1, 1, 1, 1, 1, 1, 1, 1, 1, 1],
 [1, -1, 1, -1, 1, -1, 1, -1, 1, -1, 1, -1, 1, -1, 1, -1, 1, -1, 1],
 [1, -1, 0, 1, -1, 0, 1, -1, 0, 1, -1, 0, 1, 0, -1, 1, 0, -1, 1, 0, -1, 1, 0, -1, 1],
 [1, 0, 0, 0, -1, 0, 0, 0, 1, 0, 0, 0, -1, 0, 0, 0, 1],
 [1, 1, 1, 1, 1, 1, 1, 1, 1, 1, 1, 1, 1, 1, 1, 1, 1, 1, 1, 1, 1, 1, 1, 1, 1, 1, 1, 1, 1, 1, 1, 1, 1, 1, 1, 1, 1, 1, 1, 1, 1],
 [1, 1, 0, -1, -1, 0, 1, 0, -1, -1, 0, 1, 1],
 [1, 1, 1, 1, 1, 1, 1, 1, 1, 1, 1, 1, 1, 1, 1, 1, 1, 1, 1, 1, 1, 1, 1, 1, 1, 1, 1, 1, 1, 1, 1, 1, 1, 1, 1, 1, 1, 1, 1, 1, 1, 1, 1],
 [1, 0, -1, 0, 1, 0, -1, 0, 1, 0, -1, 0, 1, 0, -1, 0, 1, 0, -1, 0, 1],
 [1, 0, 0, -1, 0, 0, 0, 0, 0, 1, 0, 0, -1, 0, 0, 1, 0, 0, 0, 0, 0, -1, 0, 0, 1],
 [1, -1, 1, -1, 1, -1, 1, -1, 1, -1, 1, -1, 1, -1, 1, -1, 1, -1, 1, -1, 1, -1, 1],
 [1, 1, 1, 1, 1, 1, 1, 1, 1, 1, 1, 1, 1, 1, 1, 1, 1, 1, 1, 1, 1, 1, 1, 1, 1, 1, 1, 1, 1, 1, 1, 1, 1, 1, 1, 1, 1, 1, 1, 1, 1, 1, 1, 1, 1, 1, 1],
 [1, 0, 0, 0, 0, 0, 0, 0, -1, 0, 0, 0, 0, 0, 0, 0, 1],
 [1, 0, 0, 0, 0, 0, 0, 1, 0, 0, 0, 0, 0, 0, 1, 0, 0, 0, 0, 0, 0, 1, 0, 0, 0, 0, 0, 0, 1, 0, 0, 0, 0, 0, 0, 1, 0, 0, 0, 0, 0, 0, 1],
 [1, 0, 0, 0, 0, -1, 0, 0, 0, 0, 1, 0, 0, 0, 0, -1, 0, 0, 0, 0, 1],
 [1, -1, 0, 1, -1, 0, 1, -1, 0, 1, -1, 0, 1, -1, 0, 1, -1, 1, 0, -1, 1, 0, -1, 1, 0, -1, 1, 0, -1, 1, 0, -1, 1],
 [1, 0, -1, 0, 1, 0, -1, 0, 1, 0, -1, 0, 1, 0, -1, 0, 1, 0, -1, 0, 1, 0, -1, 0, 1],
 [1, 1, 1, 1, 1, 1, 1, 1, 1, 1, 1, 1, 1, 1, 1, 1, 1, 1, 1, 1, 1, 1, 1, 1, 1, 1, 1, 1, 1, 1, 1, 1, 1, 1, 1, 1, 1, 1, 1, 1, 1, 1, 1, 1, 1, 1, 1, 1, 1, 1, 1, 1, 1],
 [1, 0, 0, 0, 0, 0, 0, 0, 0, -1, 0, 0, 0, 0, 0, 0, 0, 0, 1],
 [1, -1, 0, 0, 0, 1, -1, 0, 0, 0, 1, 0, -1, 0, 0, 1, 0, -1, 0, 0, 1, 0, 0, -1, 0, 1, 0, 0, -1, 0, 1, 0, 0, 0, -1, 1, 0, 0, 0, -1, 1],
 [1, 0, 0, 0, -1, 0, 0, 0, 1, 0, 0, 0, -1, 0, 0, 0, 1, 0, 0, 0, -1, 0, 0, 0, 1],
 [1, -1, 0, 1, -1, 0, 1, -1, 0, 1, -1, 0, 1, -1, 0, 1, -1, 0, 1, 0, -1, 1, 0, -1, 1, 0, -1, 1, 0, -1, 1, 0, -1, 1, 0, -1, 1],
 [1, -1, 1, -1, 1, -1, 1, -1, 1, -1, 1, -1, 1, -1, 1, -1, 1, -1, 1, -1, 1, -1, 1, -1, 1, -1, 1, -1, 1],
 [1, 1, 1, 1, 1, 1, 1, 1, 1, 1, 1, 1, 1, 1, 1, 1, 1, 1, 1, 1, 1, 1, 1, 1, 1, 1, 1, 1, 1, 1, 1, 1, 1, 1, 1, 1, 1, 1, 1, 1, 1, 1, 1, 1, 1, 1, 1, 1, 1, 1, 1, 1, 1, 1, 1, 1, 1, 1, 1],
 [1, 0, 1, 0, 0, 0, -1, 0, -1, 0, -1, 0, 0, 0, 1, 0, 1],
 [1, 1, 1, 1, 1, 1, 1, 1, 1, 1, 1, 1, 1, 1, 1, 1, 1, 1, 1, 1, 1, 1, 1, 1, 1, 1, 1, 1, 1, 1, 1, 1, 1, 1, 1, 1, 1, 1, 1, 1, 1, 1, 1, 1, 1, 1, 1, 1, 1, 1, 1, 1, 1, 1, 1, 1, 1, 1, 1, 1, 1],
 [1, -1, 1, -1, 1, -1, 1, -1, 1, -1, 1, -1, 1, -1, 1, -1, 1, -1, 1, -1, 1, -1, 1, -1, 1, -1, 1, -1, 1, -1, 1],
 [1, 0, 0, -1, 0, 0, 0, 0, 0, 1, 0, 0, -1, 0, 0, 0, 0, 0, 1, 0, 0, 0, 0, 0, -1, 0, 0, 1, 0, 0, 0, 0, 0, -1, 0, 0, 1],
 [1, 0, 0, 0, 0, 0, 0, 0, 0, 0, 0, 0, 0, 0, 0, 0, 0, 0, 0, 0, 0, 0, 0, 0, 0, 0, 0, 0, 0, 0, 0, 0, 1]]
def T (n : Nat) : List Int := (tab[n]?).getD []
def start (n : Nat) : List Int := -1 :: (List.replicate (n - 1) 0 ++ [1])
def phiTo (n : Nat) : Nat → List Int
 | 0 => start n
 | d + 1 => if n % (d + 1) = 0 then quot (phiTo n d) (T (d + 1)) else phiTo n d
def phiQ (n : Nat) : Nat → Nat → List Int → Bool
 | 0, _, p => p == T n
 | m + 1, d, p => if n % d = 0 then decide ((T d).length ≤ p.length) && phiQ n m (d + 1) (quotQ p (T d)) else phiQ n m (d + 1) p
def phiOk (n : Nat) : Bool := decide (1 ≤ (T n).length) && phiQ n (n - 1) 1 (start n)
def redGo (Q : List Int) (top : Nat) : Nat → List Int → List Int
 | 0, S => S
 | m + 1, S => redGo Q top m (subRow S m (S[m + top]?.getD 0) Q Q.length)
def deg (n : Nat) : Nat := (T n).length - 1
def normalW (S : List Int) (n : Nat) : List Int := (redGo (T n) (deg n) (n - deg n) S).take (deg n)
theorem redGo_length (Q : List Int) (top m : Nat) : ∀ S, (redGo Q top m S).length = S.length := by
 induction m with
 | zero => intro S; rfl
 | succ m ih => intro S; rw [redGo, ih, subRow_length]
end Go.Proofs.YtcmllhhiekjmaaaGreat.Cyc
namespace Go.Proofs.YtcmllhhiekjmaaaGreat.Cyc
theorem phi_checked : (List.range 64).all (fun i => phiOk (i + 1)) = true := by decide +kernel
theorem tab_len : (List.range 64).all (fun i => decide (1 ≤ (T (i + 1)).length)) = true := by decide +kernel
open Go.RowKit
theorem phiQ_spec (n : Nat) : ∀ (m d : Nat) (p : List Int), (∀ i, 1 ≤ (T (i + 1)).length ∨ 64 ≤ i) → d + m ≤ 64 → phiTo n d = p → phiQ n m (d + 1) p = true → phiTo n (d + m) = T n
 | 0, d, p, _, _, h, hq => by simp [phiQ] at hq; rw [Nat.add_zero, h, hq]
 | m + 1, d, p, ht, hd, h, hq => by
  rw [phiQ] at hq
  by_cases h0 : n % (d + 1) = 0
  ·rw [if_pos h0] at hq
   simp only [Bool.and_eq_true, decide_eq_true_eq] at hq
   have := phiQ_spec n m (d + 1) (quotQ p (T (d + 1))) ht xq (by rw [phiTo, if_pos h0, h, quot_eq _ _ (by rcases ht d with h' | h' <;> omega) xq]) hq.2
   rw [← this]; congr 1; omega
  rw [if_neg h0] at hq
  have := phiQ_spec n m (d + 1) p ht xq (by rw [phiTo, if_neg h0, h]) hq
  rw [← this]; congr 1; omega
theorem phiQ_len (n : Nat) : ∀ (m d : Nat) (p : List Int), (∀ i, 1 ≤ (T (i + 1)).length ∨ 64 ≤ i) → d + m ≤ 64 → phiTo n d = p → phiQ n m (d + 1) p = true → ∀ j, j < m → n % (d + j + 1) = 0 → (T (d + j + 1)).length ≤ (phiTo n (d + j)).length
 | 0, d, p, _, _, _, _, j, hj, _ => by omega
 | m + 1, d, p, ht, hd, h, hq, j, hj, hn => by
  rw [phiQ] at hq
  by_cases h0 : n % (d + 1) = 0
  ·rw [if_pos h0] at hq
   simp only [Bool.and_eq_true, decide_eq_true_eq] at hq
   rcases j with _ | j
   ·simp only [Nat.add_zero]; rw [h]; exact hq.1
   have := phiQ_len n m (d + 1) (quotQ p (T (d + 1))) ht xq (by rw [phiTo, if_pos h0, h, quot_eq _ _ (by rcases ht d with h' | h' <;> omega) xq]) hq.2 j xq (by rw [← hn]; congr 1; omega)
   rw [show d + (j + 1) + 1 = d + 1 + j + 1 by omega, show d + (j + 1) = d + 1 + j by omega]
   exact this
  rw [if_neg h0] at hq
  rcases j with _ | j
  ·exact absurd hn h0
  have := phiQ_len n m (d + 1) p ht xq (by rw [phiTo, if_neg h0, h]) hq j xq (by rw [← hn]; congr 1; omega)
  rw [show d + (j + 1) + 1 = d + 1 + j + 1 by omega, show d + (j + 1) = d + 1 + j by omega]
  exact this
theorem start_eq (n : Nat) (h : 1 ≤ n) : ((List.replicate (n + 1) (0 : Int)).set 0 (-1)).set n 1 = start n := by
 obtain ⟨m, rfl⟩ : ∃ m, n = m + 1 := ⟨n - 1, by omega⟩
 rw [List.replicate_succ, List.set_cons_zero, List.set_cons_succ, start, Nat.add_sub_cancel]
 congr 1
 rw [List.replicate_succ']
 rw [List.set_append_right _ _ (by simp)]
 simp
theorem start_length (n : Nat) (h : 1 ≤ n) : (start n).length = n + 1 := by simp [start]; omega
theorem phiTo_length (n d : Nat) (h : 1 ≤ n) : (phiTo n d).length ≤ n + 1 := by
 induction d with
 | zero => rw [phiTo, start_length n h]; exact Nat.le_refl _
 | succ d ih =>
  rw [phiTo]
  split
  ·rw [quot_length]; omega
  exact ih
theorem T_len (i : Nat) : 1 ≤ (T (i + 1)).length ∨ 64 ≤ i := by
 rcases Nat.lt_or_ge i 64 with h | h
 ·left
  have := List.all_eq_true.1 tab_len i (List.mem_range.2 h)
  simpa using this
 right; exact h
theorem phi_T (n : Nat) (h1 : 1 ≤ n) (h2 : n ≤ 64) : phiTo n (n - 1) = T n := by
 have := List.all_eq_true.1 phi_checked (n - 1) (List.mem_range.2 xq)
 rw [show n - 1 + 1 = n by omega, phiOk] at this
 simp only [Bool.and_eq_true, decide_eq_true_eq] at this
 have h := phiQ_spec n (n - 1) 0 (start n) T_len xq rfl this.2
 rwa [Nat.zero_add] at h
theorem phi_len (n d : Nat) (h1 : 1 ≤ n) (h2 : n ≤ 64) (hd : d + 1 < n) (h0 : n % (d + 1) = 0) : (T (d + 1)).length ≤ (phiTo n d).length := by
 have := List.all_eq_true.1 phi_checked (n - 1) (List.mem_range.2 xq)
 rw [show n - 1 + 1 = n by omega, phiOk] at this
 simp only [Bool.and_eq_true, decide_eq_true_eq] at this
 have h := phiQ_len n (n - 1) 0 (start n) T_len xq rfl this.2 d xq (by rw [← h0]; congr 1; omega)
 rwa [Nat.zero_add] at h
theorem T_length_le (n : Nat) (h1 : 1 ≤ n) (h2 : n ≤ 64) : (T n).length ≤ n + 1 := by
 rw [← phi_T n h1 h2]; exact phiTo_length n _ h1
theorem T_length (n : Nat) (h1 : 1 ≤ n) (h2 : n ≤ 64) : (T n).length = deg n + 1 := by
 obtain ⟨m, rfl⟩ : ∃ m, n = m + 1 := ⟨n - 1, by omega⟩
 have := T_len m
 unfold deg; omega
theorem deg_le (n : Nat) (h1 : 1 ≤ n) (h2 : n ≤ 64) : deg n ≤ n := by have := T_length n h1 h2; have := T_length_le n h1 h2; omega
theorem normalW_length (S : List Int) (n : Nat) (h1 : 1 ≤ n) (h2 : n ≤ 64) (hS : S.length = 64) : (normalW S n).length = deg n := by
 have := deg_le n h1 h2
 simp [normalW, redGo_length, hS]; omega
def addZip (c : Int) : List Int → List Int → List Int
 | x :: R, y :: Q => wrap64 (x + wrap64 (c * y)) :: addZip c R Q
 | R, _ => R
def addAt (c : Int) (Q : List Int) : Nat → List Int → List Int
 | 0, R => addZip c R Q
 | k + 1, x :: R => x :: addAt c Q k R
 | _ + 1, [] => []
def mulQgo (Q : List Int) : List Int → Nat → List Int → List Int
 | [], _, N => N
 | x :: P, i, N => mulQgo Q P (i + 1) (addAt x Q i N)
def mulQ (P Q : List Int) : List Int := mulQgo Q P 0 (List.replicate (P.length + (Q.length - 1)) 0)
def totTo (n : Nat) : Nat → Nat
 | 0 => 0
 | m + 1 => if Int.gcd ((m : Int) + 1) n = 1 then totTo n m + 1 else totTo n m
theorem tot_checked : (List.range 64).all (fun i => totTo (i + 1) (i + 1) == deg (i + 1) && ((T (i + 1))[deg (i + 1)]?.getD 0 == 1)) = true := by decide +kernel
theorem tot_deg (n : Nat) (h1 : 1 ≤ n) (h2 : n ≤ 64) : totTo n n = deg n := by
 have := List.all_eq_true.1 tot_checked (n - 1) (List.mem_range.2 xq)
 rw [show n - 1 + 1 = n by omega] at this
 simp at this
 exact this.1
theorem T_monic (n : Nat) (h1 : 1 ≤ n) (h2 : n ≤ 64) : (T n)[deg n]?.getD 0 = 1 := by
 have := List.all_eq_true.1 tot_checked (n - 1) (List.mem_range.2 xq)
 rw [show n - 1 + 1 = n by omega] at this
 simp at this
 exact this.2
def sumTo : Nat → (Nat → Int) → Int
 | 0, _ => 0
 | n + 1, f => sumTo n f + f n
theorem sumTo_congr {n : Nat} {f g : Nat → Int} (h : ∀ i, i < n → f i = g i) : sumTo n f = sumTo n g := by
 induction n with
 | zero => rfl
 | succ n ih => rw [sumTo, sumTo, ih (fun i hi => h i xq), h n xq]
theorem sumTo_sub (n : Nat) (f g : Nat → Int) : sumTo n (fun i => f i - g i) = sumTo n f - sumTo n g := by
 induction n with
 | zero => rfl
 | succ n ih => simp only [sumTo]; rw [ih]; omega
theorem sumTo_mul (n : Nat) (c : Int) (f : Nat → Int) : sumTo n (fun i => c * f i) = c * sumTo n f := by
 induction n with
 | zero => simp [sumTo]
 | succ n ih => simp only [sumTo]; rw [ih, Int.mul_add]
theorem sumTo_mul' (n : Nat) (c : Int) (f : Nat → Int) : sumTo n (fun i => f i * c) = sumTo n f * c := by
 rw [Int.mul_comm, ← sumTo_mul]; exact sumTo_congr fun i _ => Int.mul_comm _ _
theorem sumTo_zero {n : Nat} {f : Nat → Int} (h : ∀ i, i < n → f i = 0) : sumTo n f = 0 := by
 induction n with
 | zero => rfl
 | succ n ih => rw [sumTo, ih (fun i hi => h i xq), h n xq]; rfl
theorem sumTo_single {n k : Nat} {f : Nat → Int} (hk : k < n) (h : ∀ i, i < n → i ≠ k → f i = 0) : sumTo n f = f k := by
 induction n with
 | zero => omega
 | succ n ih =>
  rw [sumTo]
  by_cases e : k = n
  ·subst e; rw [sumTo_zero fun i hi => h i xq xq]; omega
  rw [ih xq fun i hi hne => h i xq hne, h n xq xq]; omega
theorem sumTo_abs {n : Nat} {f g : Nat → Int} (h : ∀ i, i < n → -(g i) ≤ f i ∧ f i ≤ g i) : -(sumTo n g) ≤ sumTo n f ∧ sumTo n f ≤ sumTo n g := by
 induction n with
 | zero => exact ⟨by simp [sumTo], by simp [sumTo]⟩
 | succ n ih =>
  have h1 := ih fun i hi => h i xq
  have h2 := h n xq
  simp only [sumTo]; omega
theorem sumTo_const (n : Nat) (c : Int) : sumTo n (fun _ => c) = n * c := by
 induction n with
 | zero => simp [sumTo]
 | succ n ih => rw [sumTo, ih]; rw [Int.natCast_add, Int.add_mul]; simp
/-! ### Congruence modulo 2^64 -/
def M64 : Int := 18446744073709551616
def Cg (a b : Int) : Prop := ∃ z, a = b + M64 * z
theorem Cg.refl (a : Int) : Cg a a := ⟨0, by simp⟩
theorem Cg.of_eq {a b : Int} (h : a = b) : Cg a b := h ▸ Cg.refl a
theorem Cg.symm {a b : Int} (h : Cg a b) : Cg b a := by obtain ⟨z, h⟩ := h; exact ⟨-z, by rw [h, Int.mul_neg]; omega⟩
theorem Cg.trans {a b c : Int} (h : Cg a b) (k : Cg b c) : Cg a c := by obtain ⟨z, h⟩ := h; obtain ⟨y, k⟩ := k; exact ⟨z + y, by rw [h, k, Int.mul_add]; omega⟩
theorem Cg.add {a b c d : Int} (h : Cg a b) (k : Cg c d) : Cg (a + c) (b + d) := by obtain ⟨z, h⟩ := h; obtain ⟨y, k⟩ := k; exact ⟨z + y, by rw [h, k, Int.mul_add]; omega⟩
theorem Cg.sub {a b c d : Int} (h : Cg a b) (k : Cg c d) : Cg (a - c) (b - d) := by obtain ⟨z, h⟩ := h; obtain ⟨y, k⟩ := k; exact ⟨z - y, by rw [h, k, Int.mul_sub]; omega⟩
theorem Cg.mul {a b : Int} (h : Cg a b) (c : Int) : Cg (c * a) (c * b) := by obtain ⟨z, h⟩ := h; exact ⟨c * z, by rw [h, Int.mul_add, Int.mul_left_comm]⟩
theorem Cg.mul' {a b : Int} (h : Cg a b) (c : Int) : Cg (a * c) (b * c) := by rw [Int.mul_comm a, Int.mul_comm b]; exact h.mul c
theorem Cg.sum {n : Nat} {f g : Nat → Int} (h : ∀ i, i < n → Cg (f i) (g i)) : Cg (sumTo n f) (sumTo n g) := by
 induction n with
 | zero => exact Cg.refl _
 | succ n ih => exact (ih fun i hi => h i xq).add (h n xq)
theorem wrap_cg (x : Int) : Cg (wrap64 x) x := ⟨-((x + 9223372036854775808) / 18446744073709551616), by unfold wrap64 M64; omega⟩
theorem Cg.wrap {a b : Int} (h : Cg a b) : wrap64 a = wrap64 b := by
 obtain ⟨z, h⟩ := h
 unfold wrap64
 rw [h, show b + M64 * z + 9223372036854775808 = b + 9223372036854775808 + 18446744073709551616 * z by unfold M64; omega, Int.add_mul_emod_self_left]
theorem wrap_id {x : Int} (h1 : -9223372036854775808 ≤ x) (h2 : x ≤ 9223372036854775807) : wrap64 x = x := by unfold wrap64; omega
/-! ### The powers of the root, in coordinates -/
def ph (n i : Nat) : Int := (T n)[i]?.getD 0
def up (n : Nat) (v : Nat → Int) (i : Nat) : Int := if i < deg n then (if i = 0 then 0 else v (i - 1)) - v (deg n - 1) * ph n i else 0
def red (n : Nat) : Nat → Nat → Int
 | 0, i => if i = 0 then 1 else 0
 | k + 1, i => up n (red n k) i
theorem up_sum (n N : Nat) (c : Nat → Int) (v : Nat → Nat → Int) (i : Nat) : up n (fun i => sumTo N (fun m => c m * v m i)) i = sumTo N (fun m => c m * up n (v m) i) := by
 unfold up
 by_cases h : i < deg n
 ·simp only [if_pos h]
  by_cases h0 : i = 0
  ·simp only [if_pos h0]
   rw [← sumTo_mul']
   have e : (0 : Int) = sumTo N (fun _ => 0) := (sumTo_zero fun _ _ => rfl).symm
   conv => lhs; rw [e, ← sumTo_sub]
   exact sumTo_congr fun m _ => by rw [Int.mul_sub, Int.mul_assoc, Int.mul_zero]
  simp only [if_neg h0]
  rw [← sumTo_mul', ← sumTo_sub]
  exact sumTo_congr fun m _ => by rw [Int.mul_sub, Int.mul_assoc]
 simp only [if_neg h]
 rw [sumTo_zero]; intro m _; simp
theorem up_congr (n : Nat) {v u : Nat → Int} (h : ∀ i, v i = u i) (i : Nat) : up n v i = up n u i := by
 have : v = u := funext h
 rw [this]
theorem up_zero (n i : Nat) : up n (fun _ => 0) i = 0 := by unfold up; simp
section
variable {n : Nat} (h1 : 1 ≤ n) (h2 : n ≤ 64)
include h1 h2
theorem deg_pos : 1 ≤ deg n := by
 have := deg_le n h1 h2
 have := T_monic n h1 h2
 rw [← tot_deg n h1 h2]
 rw [← tot_deg n h1 h2] at this
 have hk : totTo n 1 = 1 := by simp [totTo]
 have mono : ∀ k, 1 ≤ totTo n (k + 1) := by
  intro k
  induction k with
  | zero => rw [hk]; exact Nat.le_refl _
  | succ k ih => rw [totTo]; split <;> omega
 have := mono (n - 1)
 rwa [show n - 1 + 1 = n by omega] at this
theorem red_hi (k i : Nat) (hi : deg n ≤ i) : red n k i = 0 := by
 have := deg_pos h1 h2
 cases k with
 | zero => rw [red, if_neg xq]
 | succ k => rw [red, up, if_neg xq]
omit h1 h2 in
theorem red_lo (k : Nat) (hk : k < deg n) (i : Nat) : red n k i = if i = k then 1 else 0 := by
 induction k generalizing i with
 | zero => rfl
 | succ k ih =>
  rw [red, up, ih xq (deg n - 1), if_neg (by omega : ¬ deg n - 1 = k)]
  by_cases h : i < deg n
  ·rw [if_pos h]
   by_cases h0 : i = 0
   ·rw [if_pos h0, if_neg xq]; omega
   rw [if_neg h0, ih xq]
   by_cases e : i = k + 1
   ·rw [if_pos e, if_pos xq]; omega
   rw [if_neg e, if_neg xq]; omega
  rw [if_neg h, if_neg xq]
theorem red_top (i : Nat) : red n (deg n) i = if i < deg n then -(ph n i) else 0 := by
 have hd := deg_pos h1 h2
 obtain ⟨t, ht⟩ : ∃ t, deg n = t + 1 := ⟨deg n - 1, by omega⟩
 rw [ht, red, up, ht, Nat.add_sub_cancel, red_lo t xq t, if_pos rfl]
 by_cases h : i < t + 1
 ·rw [if_pos h, if_pos h]
  by_cases h0 : i = 0
  ·rw [if_pos h0]; omega
  rw [if_neg h0, red_lo t xq, if_neg xq]; omega
 rw [if_neg h, if_neg h]
theorem sum_delta (f : Nat → Int) (i : Nat) : sumTo (deg n) (fun j => f j * red n j i) = if i < deg n then f i else 0 := by
 by_cases h : i < deg n
 ·rw [if_pos h, sumTo_single h, red_lo i h, if_pos rfl, Int.mul_one]
  intro j hj hne
  rw [red_lo j hj, if_neg xq, Int.mul_zero]
 rw [if_neg h, sumTo_zero]
 intro j hj
 rw [red_hi h1 h2 j i xq, Int.mul_zero]
theorem phi_zero (m i : Nat) : sumTo (deg n + 1) (fun j => ph n j * red n (m + j) i) = 0 := by
 induction m generalizing i with
 | zero =>
  simp only [Nat.zero_add]
  rw [sumTo, sum_delta h1 h2, red_top h1 h2, show ph n (deg n) = 1 from T_monic n h1 h2]
  split <;> omega
 | succ m ih =>
  have e : ∀ j, red n (m + 1 + j) i = up n (red n (m + j)) i := by intro j; rw [show m + 1 + j = m + j + 1 by omega]; rfl
  simp only [e]
  rw [← up_sum, up_congr n ih, up_zero]
end
def zipUp (l : Int) : List Int → List Int → List Int
 | x :: v, p :: P => (x - l * p) :: zipUp l v P
 | _, _ => []
def lastOf : List Int → Int
 | [] => 0
 | [x] => x
 | _ :: v => lastOf v
def dropEnd : List Int → List Int
 | [] => []
 | [_] => []
 | x :: v => x :: dropEnd v
def stepV (P v : List Int) : List Int := zipUp (lastOf v) (0 :: dropEnd v) P
def firstV (n : Nat) : List Int := 1 :: List.replicate (deg n - 1) 0
def redV (n : Nat) : Nat → List Int
 | 0 => firstV n
 | k + 1 => stepV (T n) (redV n k)
theorem dropEnd_length : ∀ v : List Int, (dropEnd v).length = v.length - 1
 | [] => rfl
 | [_] => rfl
 | _ :: y :: v => by simp only [dropEnd, List.length_cons, dropEnd_length (y :: v)]; simp
theorem dropEnd_get : ∀ (v : List Int) (i : Nat), i + 1 < v.length → (dropEnd v)[i]? = v[i]?
 | [], i, h => by simp at h
 | [_], i, h => by simp at h
 | x :: y :: v, 0, _ => rfl
 | x :: y :: v, i + 1, h => by
  simp only [dropEnd, List.getElem?_cons_succ]
  exact dropEnd_get (y :: v) i (by simpa using h)
theorem lastOf_get : ∀ (v : List Int), lastOf v = v[v.length - 1]?.getD 0
 | [] => rfl
 | [x] => rfl
 | x :: y :: v => by simp only [lastOf, lastOf_get (y :: v)]; simp
theorem zipUp_get (l : Int) : ∀ (v P : List Int) (i : Nat), (zipUp l v P)[i]? = if i < v.length ∧ i < P.length then some (v[i]?.getD 0 - l * P[i]?.getD 0) else none
 | [], P, i => by simp [zipUp]
 | x :: v, [], i => by simp [zipUp]
 | x :: v, p :: P, 0 => by simp [zipUp]
 | x :: v, p :: P, i + 1 => by simp [zipUp, zipUp_get l v P i]
theorem zipUp_length (l : Int) : ∀ (v P : List Int), (zipUp l v P).length = min v.length P.length
 | [], P => by simp [zipUp]
 | x :: v, [] => by simp [zipUp]
 | x :: v, p :: P => by simp [zipUp, zipUp_length l v P]
section
variable {n : Nat} (h1 : 1 ≤ n) (h2 : n ≤ 64)
include h1 h2
theorem redV_length (k : Nat) : (redV n k).length = deg n := by
 have hd := deg_pos h1 h2
 induction k with
 | zero => simp [redV, firstV]; omega
 | succ k ih => rw [redV, stepV, zipUp_length, List.length_cons, dropEnd_length, ih, T_length n h1 h2]; omega
theorem redV_get (k i : Nat) : (redV n k)[i]?.getD 0 = red n k i := by
 have hd := deg_pos h1 h2
 induction k generalizing i with
 | zero =>
  rw [redV, firstV, red]
  cases i with
  | zero => rfl
  | succ i => simp [List.getElem?_replicate]; split <;> rfl
 | succ k ih =>
  have hl := redV_length h1 h2 k
  rw [redV, stepV, zipUp_get, red, up, lastOf_get, hl, ih, List.length_cons, dropEnd_length, hl, T_length n h1 h2]
  by_cases h : i < deg n
  ·rw [if_pos xq, if_pos h]
   cases i with
   | zero => rfl
   | succ i =>
    rw [List.getElem?_cons_succ, dropEnd_get _ _ xq, ih, if_neg xq]
    rfl
  rw [if_neg xq, if_neg h]; rfl
end
def rowsGo (P : List Int) : Nat → List Int → List (List Int)
 | 0, _ => []
 | m + 1, v => v :: rowsGo P m (stepV P v)
theorem rowsGo_get (n : Nat) : ∀ (m k j : Nat), j < m → (rowsGo (T n) m (redV n k))[j]? = some (redV n (k + j))
 | 0, k, j, h => by omega
 | m + 1, k, 0, _ => rfl
 | m + 1, k, j + 1, h => by
  rw [rowsGo, List.getElem?_cons_succ, show k + (j + 1) = k + 1 + j by omega, ← rowsGo_get n m (k + 1) j xq]
  rfl
def addV (c : Int) : List Int → List Int → List Int
 | x :: v, y :: u => (x + c * y) :: addV c v u
 | v, _ => v
def combV (rows : List (List Int)) (k n : Nat) : List Int → Nat → List Int → List Int
 | [], _, acc => acc
 | c :: cs, j, acc => combV rows k n cs (j + 1) (addV c acc ((rows[j * k % n]?).getD []))
def allZero (v : List Int) : Bool := v.all (fun x => x == 0)
def smallV (v : List Int) : Bool := v.all (fun x => decide (-1 ≤ x) && decide (x ≤ 1))
def primes : List Nat := [2, 3, 5, 7, 11, 13, 17, 19, 23, 29, 31, 37, 41, 43, 47, 53, 59, 61]
def checkGal (n : Nat) (rows : List (List Int)) : Bool :=
 primes.all (fun k => !(decide (k < n) && Nat.gcd k n == 1) || allZero (combV rows k n (T n) 0 (List.replicate (deg n) 0)))
def checkAll (n : Nat) (rows : List (List Int)) : Bool :=
 redV n n == firstV n && rows.all smallV && (n == 1 || allZero (combV rows 1 n (List.replicate n 1) 0 (List.replicate (deg n) 0))) && checkGal n rows
def checkFrom (a m : Nat) : Bool := (List.range m).all (fun i => checkAll (a + i + 1) (rowsGo (T (a + i + 1)) (a + i + 1) (firstV (a + i + 1))))
theorem all_checked0 : checkFrom 0 32 = true := by decide +kernel
theorem all_checked1 : checkFrom 32 8 = true := by decide +kernel
theorem all_checked2 : checkFrom 40 6 = true := by decide +kernel
theorem all_checked3 : checkFrom 46 6 = true := by decide +kernel
theorem all_checked4 : checkFrom 52 6 = true := by decide +kernel
theorem all_checked5 : checkFrom 58 3 = true := by decide +kernel
theorem all_checked6 : checkFrom 61 3 = true := by decide +kernel
theorem from_spec (a m : Nat) (h : checkFrom a m = true) (n : Nat) (h1 : a + 1 ≤ n) (h2 : n ≤ a + m) : checkAll n (rowsGo (T n) n (firstV n)) = true := by
 have := List.all_eq_true.1 h (n - a - 1) (List.mem_range.2 xq)
 rwa [show a + (n - a - 1) + 1 = n by omega] at this
section
variable {n : Nat} (h1 : 1 ≤ n) (h2 : n ≤ 64)
include h1 h2
theorem checked : checkAll n (rowsGo (T n) n (firstV n)) = true := by
 by_cases a : n ≤ 32
 ·exact from_spec 0 32 all_checked0 n xq xq
 by_cases a : n ≤ 40
 ·exact from_spec 32 8 all_checked1 n xq xq
 by_cases a : n ≤ 46
 ·exact from_spec 40 6 all_checked2 n xq xq
 by_cases a : n ≤ 52
 ·exact from_spec 46 6 all_checked3 n xq xq
 by_cases a : n ≤ 58
 ·exact from_spec 52 6 all_checked4 n xq xq
 by_cases a : n ≤ 61
 ·exact from_spec 58 3 all_checked5 n xq xq
 exact from_spec 61 3 all_checked6 n xq xq
omit h1 h2 in
theorem rows_at (j : Nat) (hj : j < n) : (rowsGo (T n) n (firstV n))[j]? = some (redV n j) := by
 have := rowsGo_get n n 0 j hj
 rwa [Nat.zero_add] at this
theorem red_n (i : Nat) : red n n i = red n 0 i := by
 have h := checked h1 h2
 simp only [checkAll, Bool.and_eq_true, beq_iff_eq] at h
 rw [← redV_get h1 h2, ← redV_get h1 h2, h.1.1.1]; rfl
theorem red_period (k i : Nat) : red n (k + n) i = red n k i := by
 induction k generalizing i with
 | zero => rw [Nat.zero_add]; exact red_n h1 h2 i
 | succ k ih =>
  rw [show k + 1 + n = k + n + 1 by omega, red, red]
  exact up_congr n ih i
theorem red_add_mul (k q i : Nat) : red n (k + n * q) i = red n k i := by
 induction q with
 | zero => rfl
 | succ q ih => rw [Nat.mul_succ, ← Nat.add_assoc, red_period h1 h2, ih]
theorem red_mod (k i : Nat) : red n (k % n) i = red n k i := by
 conv => rhs; rw [← Nat.mod_add_div k n]
 exact (red_add_mul h1 h2 _ _ _).symm
theorem red_small (k i : Nat) : -1 ≤ red n k i ∧ red n k i ≤ 1 := by
 rw [← red_mod h1 h2]
 have hk : k % n < n := Nat.mod_lt _ xq
 have h := checked h1 h2
 simp only [checkAll, Bool.and_eq_true] at h
 have hr := List.all_eq_true.1 h.1.1.2 _ (List.mem_of_getElem? (rows_at _ hk))
 rw [← redV_get h1 h2]
 rcases Nat.lt_or_ge i (redV n (k % n)).length with hi | hi
 ·rw [List.getElem?_eq_getElem hi]
  have := List.all_eq_true.1 hr _ (List.getElem_mem hi)
  simpa using this
 rw [List.getElem?_eq_none hi]; simp
end
end Go.Proofs.YtcmllhhiekjmaaaGreat.Cyc
namespace Go.Proofs.YtcmllhhiekjmaaaGreat
open Nt
open Go.RowKit
theorem neg_lt_tmod (v m : Int) (h : 0 < m) : -m < v.tmod m := by
 have := Int.tmod_lt_of_pos (-v) h
 rw [Int.neg_tmod] at this
 omega
theorem mod_of_tmod (v m : Int) (h : 0 < m) : v % m = if 0 ≤ v.tmod m then v.tmod m else v.tmod m + m := by
 have h1 := Int.tmod_lt_of_pos v h
 have h2 := neg_lt_tmod v m h
 have h3 := Int.mul_tdiv_add_tmod v m
 split
 ·rename_i hp
  conv => lhs; rw [← h3]
  rw [Int.add_emod, Int.mul_emod_right, Int.zero_add, Int.emod_emod_of_dvd _ (Int.dvd_refl m), Int.emod_eq_of_lt hp h1]
 rename_i hp
 have : v = m * (v.tdiv m - 1) + (v.tmod m + m) := by rw [Int.mul_sub]; omega
 conv => lhs; rw [this]
 rw [Int.add_emod, Int.mul_emod_right, Int.zero_add, Int.emod_emod_of_dvd _ (Int.dvd_refl m), Int.emod_eq_of_lt xq xq]
theorem within_any (v m : Int) (w : World) (h1 : -9223372036854775808 ≤ v) (h2 : v ≤ 9223372036854775807) (hm : 1 ≤ m) (hm' : m ≤ 1000000) :
  qyc 7 #[.int .i64 v, .int .i64 m] w fun e w' => e = .returned (.int .i64 (v % m)) ∧ w = w' := by
 have hq1 := Int.tmod_lt_of_pos v (show 0 < m by omega)
 have hq2 : -m < v.tmod m := neg_lt_tmod v m xq
 have hmod : Hid (v % m = if 0 ≤ v.tmod m then v.tmod m else v.tmod m + m) := mod_of_tmod v m xq
 have h0 : ¬ m < 1 := by omega
 by_cases hneg : v.tmod m < 0
 ·go_enter Tryz.func7, Tryz.ntmps7
  go_wp2
  go_ret
  refine ⟨?_, rfl⟩
  rw [hmod.out, if_neg xq]; rfl
 go_enter Tryz.func7, Tryz.ntmps7
 go_wp2
 go_ret
 refine ⟨?_, rfl⟩
 rw [hmod.out, if_pos xq]; rfl
theorem permitted_yes (v : Int) (w : World) (h1 : 1 ≤ v) (h2 : v ≤ 64) :
  qyc 48 #[.int .i64 v] w fun e w' => e = .returned (.bool true) ∧ w = w' := by
 go_enter Tryz.func48, Tryz.ntmps48
 go_wp2
 go_ret
 exact ⟨by simp, rfl⟩
theorem residue_any (k n : Int) (w : World) (h1 : -9223372036854775808 ≤ k) (h2 : k ≤ 9223372036854775807) (hm : 1 ≤ n) (hm' : n ≤ 64) :
  qyc 168 #[.int .i64 k, .int .i64 n] w fun e w' => e = .returned (.int .i64 (k % n)) ∧ w = w' := by
 have hq1 := Int.tmod_lt_of_pos k (show 0 < n by omega)
 have hq2 : -n < k.tmod n := neg_lt_tmod k n xq
 have hmod : Hid (k % n = if 0 ≤ k.tmod n then k.tmod n else k.tmod n + n) := mod_of_tmod k n xq
 by_cases hneg : k.tmod n < 0
 ·go_enter Tryz.func168, Tryz.ntmps168
  go_wp2
  go_ret
  refine ⟨?_, rfl⟩
  rw [hmod.out, if_neg xq]; rfl
 go_enter Tryz.func168, Tryz.ntmps168
 go_wp2
 go_ret
 refine ⟨?_, rfl⟩
 rw [hmod.out, if_pos xq]; rfl
theorem int_info : (Tryz.prog.info? 3).map (fun i => (i.zero, i.size, i.bytes)) = some (some (.int .i64 0), 1, 8) := by kernel_rfl
theorem quotient_any (A B : Option Addr) (t r c d : Nat) (p q : List Int) (w : World) (hp : SlR .i64 w A (t + r) c p) (hq : SlR .i64 w B (t + 1) d q) (hr : 1 ≤ r) (hn' : t + r ≤ 100) :
  qyc 263 #[.slice A (t + r : Nat) c, .slice B (t + 1 : Nat) d] w fun e w' => ∃ A' c', e = .returned (.slice A' r c') ∧ OwnK .i64 w' w.heap.size 3 A' r c' (Cyc.quot p q) ∧ Below w.heap.size w w' := by
 have hnc := hp.2.1
 have hmd := hq.2.1
 have hquot : Hid (Cyc.quot p q = Cyc.divGo q t r p (List.replicate r 0)) := by
  show _ = _
  unfold Cyc.quot
  rw [hp.1, hq.1, show t + 1 - 1 = t by omega, show t + r - t = r by omega]
 go_enter Tryz.func263, Tryz.ntmps263
 go_wp2_with (at_builtin; refine zxb _ rfl (.tmp 12) (.tmp 13) _ rfl 3 .i64 8 Tryz.underlying22 int_info w.heap.size (some ⟨w.heap.size, 0, none⟩) 0 0 [] rfl ?own A (t + r) c p rfl ?slr ?h63 ?hby ?hbase ?_)
 case own => exact (KBlk.new w 3 []).own qyl rfl (Nat.zero_le _)
 case slr => exact hp.alloc _
 case h63 => unfold maxLen; omega
 case hby => omega
 case hbase => simp
 intro A1 c1 w1 ae ag
 have aa : Below w.heap.size w w1 := ((Below.refl _ _).alloc qyl _).trans ag
 obtain ⟨g, rfl, aj, ai⟩ := ae.pos xq
 clear ag
 go_wp2_with (at_make; refine zxa _ rfl (.tmp 21) (.tmp 21) _ rfl 3 .i64 8 Tryz.underlying22 int_info _ _ _ _ r rfl rfl ?L ?C ?b2 ?b3 ?_)
 case L => omega
 case C => omega
 case b2 => omega
 case b3 => unfold maxLen; omega
 intro w2 ad ac ah
 have ho2 := ae.below ac
 have ab : Below w.heap.size w w2 := aa.trans (ac.mono aa.size)
 obtain ⟨h, hh⟩ : ∃ h, h = w1.heap.size := ⟨_, rfl⟩
 rw [← hh] at ad ai ⊢
 have hgh : g ≠ h := by omega
 have hwh : w.heap.size ≤ h := by have := aa.size; omega
 clear ac aa ae ah hh
 go_wp2
 go_loopw [8] (fun x wr => ∃ (j : Nat) (R rr : List Int), j ≤ r ∧ x = .int .i64 ((j : Int) - 1) ∧ OwnK .i64 wr w.heap.size 3 (some ⟨g, 0, none⟩) (t + r) c1 R ∧ KBlk .i64 wr h 3 rr ∧ Hid (rr.length = r) ∧ Below w.heap.size w wr ∧ Hid (Cyc.quot p q = Cyc.divGo q t j R rr)) (fun x _ => (intOf x + 1).toNat)
 case atStart => exact ⟨r, p, _, Nat.le_refl _, rfl, ho2, ad, by simp [Hid], ab, hquot⟩
 case round =>
  obtain ⟨j, R, rr, hj, rfl, ho, hk, hrl, hb, af⟩ := hrel
  clear ho2 ad ab hquot
  rcases j with _ | j
  ·go_wp2
   go_ret
   exact ⟨_, _, rfl, by rw [af.out]; exact hk.own hwh hrl.out xw, hb⟩
  have hc1 := ho.cell (i := j + t) xq
  have hf1 := hk.frozen j
  have hf0 := hk.cell (i := j) (by have := hrl.out; omega)
  have hqs : Hid (Cyc.quot p q = Cyc.divGo q t j (Cyc.subRow R j (R[j + t]?.getD 0) q (t + 1)) (rr.set j (R[j + t]?.getD 0))) := by
   have := af.out
   show _ = _
   rw [this, Cyc.divGo, hq.1]
  have hos := ho.far (p := ⟨h, j, none⟩) (.int .i64 (R[j + t]?.getD 0)) (by rintro a ⟨⟩; exact hgh)
  have hks := hk.set j (R[j + t]?.getD 0)
  have hbs := hb.setCell (p := ⟨h, j, none⟩) hwh (.int .i64 (R[j + t]?.getD 0))
  go_wp2
  clear af ho hk hb hc1 hf1 hf0
  go_loopw [42] (fun x wi => ∃ (i : Nat), i ≤ t + 1 ∧ x = .int .i64 i ∧ OwnK .i64 wi w.heap.size 3 (some ⟨g, 0, none⟩) (t + r) c1 (Cyc.subRow R j (R[j + t]?.getD 0) q i) ∧ KBlk .i64 wi h 3 (rr.set j (R[j + t]?.getD 0)) ∧ Below w.heap.size w wi) (fun x _ => t + 1 - (intOf x).toNat)
  case atStart => exact ⟨0, by omega, rfl, hos, hks, hbs⟩
  case round =>
   obtain ⟨i, hi, rfl, ho, hk, hb⟩ := hrel
   clear hos hks hbs
   by_cases hit : i < t + 1
   ·obtain ⟨b, o, rfl, hblt, hcq⟩ := (hq.below hb).pos (i := i) hit
    have hc2 := ho.cell (i := j + i) xq
    have hf2 := ho.frozen (j + i)
    go_wp2
    go_roundw
    case rel => exact ⟨i + 1, by omega, by go_num, ho.set _ _, hk.far (p := ⟨g, j + i, none⟩) (Ne.symm hgh) _, hb.setCell (p := ⟨g, j + i, none⟩) aj _⟩
    case measure => simp [intOf]; omega
   obtain rfl : i = t + 1 := by omega
   go_wp2
   go_roundw
   case rel => exact ⟨j, _, _, by omega, by go_num, ho, hk, by have := hrl.out; show _ = _; simpa using this, hb, hqs⟩
   case measure => simp [intOf]
theorem quotient_len (A B : Option Addr) (n m c d : Nat) (p q : List Int) (w : World) (hp : SlR .i64 w A n c p) (hq : SlR .i64 w B m d q) (hm : 1 ≤ m) (hmn : m ≤ n) (hn' : n ≤ 100) :
  qyc 263 #[.slice A n c, .slice B m d] w fun e w' => ∃ A' c', e = .returned (.slice A' (n + 1 - m) c') ∧ OwnK .i64 w' w.heap.size 3 A' (n + 1 - m) c' (Cyc.quot p q) ∧ Below w.heap.size w w' := by
 obtain ⟨t, rfl⟩ : ∃ t, m = t + 1 := ⟨m - 1, by omega⟩
 obtain ⟨r, rfl⟩ : ∃ r, n = t + r := ⟨n - t, by omega⟩
 rw [show t + r + 1 - (t + 1) = r by omega]
 exact quotient_any A B t r c d p q w hp hq xq hn'
theorem emod_succ (n d : Nat) : (n : Int) % ((d : Int) + 1) = ((n % (d + 1) : Nat) : Int) := by simp
theorem phi_all (k : Nat) : ∀ (z : Int) (w : World), z.toNat ≤ k → 1 ≤ z → z ≤ 64 →
  qyc 154 #[.int .i64 z] w fun e w' => ∃ A c, e = .returned (.slice A (Cyc.T z.toNat).length c) ∧ OwnK .i64 w' w.heap.size 3 A (Cyc.T z.toNat).length c (Cyc.T z.toNat) ∧ Below w.heap.size w w' := by
 induction k with
 | zero => intro n w h1 h2; omega
 | succ k ih =>
  intro z w hk h1 h2
  have IH := Lib.hid ih; clear ih
  obtain ⟨n, rfl⟩ := Int.eq_ofNat_of_zero_le (show 0 ≤ z by omega)
  rw [Int.toNat_natCast] at hk ⊢
  have h1 : 1 ≤ n := by omega
  have h2 : n ≤ 64 := by omega
  have hT : Hid (Cyc.phiTo n (n - 1) = Cyc.T n) := Cyc.phi_T n h1 h2
  go_enter Tryz.func154, Tryz.ntmps154
  go_wp2_with (at_make; refine zxa _ rfl (.tmp 6) (.tmp 6) _ rfl 3 .i64 8 Tryz.underlying22 int_info _ _ _ _ (n + 1) rfl rfl ?L ?C ?b2 ?b3 ?_)
  case L => omega
  case C => omega
  case b2 => omega
  case b3 => unfold maxLen; omega
  intro w2 ad ab hz2
  have hc0 := ad.cell (i := 0) (by simp)
  have hf0 := ad.frozen 0
  have hk3 := ad.set 0 (-1)
  have hc1 := hk3.cell (i := n) (by simp)
  have hf1 := hk3.frozen n
  have hk4 := hk3.set n 1
  rw [Cyc.start_eq n h1] at hk4
  have hb4 := (ab.setCell (p := ⟨w.heap.size, 0, none⟩) qyl (.int .i64 (-1))).setCell (p := ⟨w.heap.size, n, none⟩) qyl (.int .i64 1)
  go_wp2
  clear hc0 hf0 hc1 hf1 hk3 ab ad
  go_loopw [3, 4] (fun x y wr => ∃ (d : Nat) (A : Option Addr) (m c : Nat), d + 1 ≤ n ∧ y = .int .i64 ((d : Int) + 1) ∧ x = .slice A m c ∧ OwnK .i64 wr w.heap.size 3 A m c (Cyc.phiTo n d) ∧ Below w.heap.size w wr) (fun _ y _ => n - (intOf y).toNat)
  case atStart => exact ⟨0, _, _, _, h1, rfl, rfl, hk4.own qyl (Cyc.start_length n h1) xw, hb4⟩
  case round =>
   obtain ⟨d, A, m, c, hd, rfl, rfl, ho, hb⟩ := hrel
   clear hk4 hb4
   have hml := ho.1
   have hm := Cyc.phiTo_length n d h1
   have Hml := Lib.hid hml; clear hml
   by_cases hdn : d + 1 < n
   ·by_cases h0 : n % (d + 1) = 0
    ·have ae : ((n : Int) % ((d : Int) + 1) == 0) = true := by rw [emod_succ, h0]; rfl
     have hlen := Cyc.phi_len n d h1 h2 hdn h0
     have aa : 1 ≤ (Cyc.T (d + 1)).length := by rcases Cyc.T_len d with h | h <;> omega
     have H0 := Lib.hid h0; clear h0
     go_wp2_with fail
     refine (IH.out _ _ xq xq xq).mono ?_
     rintro e w1 ⟨A1, c1, rfl, ag, ac⟩
     rw [show ((d : Int) + 1).toNat = d + 1 by omega] at *
     go_wp2_with fail
     refine (quotient_len A A1 m _ c c1 _ _ w1 (ho.slr.below ac) ag.slr aa (by rw [← Hml.out]; exact hlen) (by rw [← Hml.out]; omega)).mono ?_
     rintro e w2 ⟨A2, c2, rfl, af, ab⟩
     go_wp2
     go_roundw
     case rel => exact ⟨d + 1, A2, _, c2, by omega, by go_num, rfl, by rw [Cyc.phiTo, if_pos H0.out]; exact af.mono (Nat.le_trans hb.size ac.size), hb.trans ((ac.trans (ab.mono ac.size)).mono hb.size)⟩
     case measure => simp [intOf]; omega
    have ae : ((n : Int) % ((d : Int) + 1) == 0) = false := by rw [emod_succ, beq_eq_false_iff_ne]; omega
    have H0 := Lib.hid h0; clear h0
    go_wp2
    go_roundw
    case rel => exact ⟨d + 1, A, m, c, by omega, by go_num, rfl, by rw [Cyc.phiTo, if_neg H0.out]; exact ho, hb⟩
    case measure => simp [intOf]; omega
   obtain rfl : n = d + 1 := by omega
   have hT' : Hid (Cyc.phiTo (d + 1) d = Cyc.T (d + 1)) := hT
   clear hT
   go_wp2
   go_ret
   have e1 := hT'.out
   have e2 : m = (Cyc.T (d + 1)).length := by rw [← e1]; exact Hml.out.symm
   rw [e1, e2] at ho
   exact ⟨A, c, by rw [e2]; rfl, ho, hb⟩
theorem phi_any (z : Int) (w : World) (h1 : 1 ≤ z) (h2 : z ≤ 64) :
  qyc 154 #[.int .i64 z] w fun e w' => ∃ A c, e = .returned (.slice A (Cyc.T z.toNat).length c) ∧ OwnK .i64 w' w.heap.size 3 A (Cyc.T z.toNat).length c (Cyc.T z.toNat) ∧ Below w.heap.size w w' :=
 phi_all 64 z w xq h1 h2
theorem Phi_yes (z : Int) (w : World) (h1 : 1 ≤ z) (h2 : z ≤ 64) :
  qyc 67 #[.int .i64 z] w fun e w' => ∃ A c, e = .returned (.tuple #[.slice A (Cyc.T z.toNat).length c, .int .i64 0]) ∧ OwnK .i64 w' w.heap.size 3 A (Cyc.T z.toNat).length c (Cyc.T z.toNat) ∧ Below w.heap.size w w' := by
 go_enter Tryz.func67, Tryz.ntmps67
 go_wp2_with fail
 refine (permitted_yes z _ h1 h2).mono ?_
 rintro e w1 ⟨rfl, rfl⟩
 go_wp2_with fail
 refine (phi_any z _ h1 h2).mono ?_
 rintro e w2 ⟨A, c, rfl, ho, hb⟩
 go_wp2
 go_ret2
 exact ⟨A, c, rfl, ho, hb⟩
def arr (l : List Int) : Value := .agg (l.map (Value.int .i64)).toArray
theorem sum_under : Tryz.prog.underlying 98 = some (.array 64 3) := by kernel_rfl
theorem slice_sum (g t : Nat) (ht : t ≤ 64) (w : World) :
  (Instr.sliceAt 98 (.pointer (some ⟨g, 0, none⟩)) none (some (.int .i64 (t : Int))) none).run Tryz.prog w = .ok (.slice (some ⟨g, 0, none⟩) t 64) w := by
 obtain ⟨i0, hi, hz0, hz1, hz2⟩ := info_parts int_info
 simp [Instr.sliceAt, Instr.sureAddr, run_underlying sum_under, Instr.sliceBounds, run_sliceBound (P := Tryz.prog) w .i64 (t : Int) 64 .sliceAlen xq xq, sizeOf, typeInfo, hi, Addr.add]
theorem normal_any (S : List Int) (z : Int) (w : World) (hS : S.length = 64) (h1 : 1 ≤ z) (h2 : z ≤ 64) :
  qyc 50 #[arr S, .int .i64 z] w fun e w' => ∃ A c, e = .returned (.slice A (Cyc.deg z.toNat) c) ∧ OwnK .i64 w' w.heap.size 3 A (Cyc.deg z.toNat) c (Cyc.normalW S z.toNat) ∧ Below w.heap.size w w' := by
 obtain ⟨n, rfl⟩ := Int.eq_ofNat_of_zero_le (show 0 ≤ z by omega)
 rw [Int.toNat_natCast]
 have h1 : 1 ≤ n := by omega
 have h2 : n ≤ 64 := by omega
 have hlen : Hid ((Cyc.T n).length = Cyc.deg n + 1) := Cyc.T_length n h1 h2
 have hdn := Cyc.deg_le n h1 h2
 have HS := Lib.hid hS; clear hS
 unfold arr
 go_enter Tryz.func50, Tryz.ntmps50
 go_wp2_with fail
 refine (phi_any _ _ xq xq).mono ?_
 rintro e w1 ⟨A1, c1, rfl, ac, ae⟩
 rw [Int.toNat_natCast, hlen.out] at ac ⊢
 have ab : KBlk .i64 w1 w.heap.size 98 S := (KBlk.new w _ S).same ae
 have aa : Below w.heap.size w w1 := ((Below.refl _ _).alloc qyl _).trans (ae.mono (by simp))
 have hsl1 := ac.slr
 obtain ⟨t, ht⟩ : ∃ t, t = Cyc.deg n := ⟨_, rfl⟩
 have hN : Hid (Cyc.normalW S n = (Cyc.redGo (Cyc.T n) t (n - t) S).take t) := by rw [ht]; exact rfl
 rw [← ht] at hsl1 hlen hdn ⊢
 have hgw : w.heap.size < w1.heap.size := ab.lt
 have hAg : ∀ a, A1 = some a → a.block ≠ w.heap.size := by
  obtain ⟨ga, rfl, hga, _⟩ := ac.pos xq
  rintro a ⟨⟩
  simp at hga ⊢
  omega
 have Ht := Lib.hid ht
 clear ac ae ht
 go_wp2
 obtain ⟨g, hg⟩ : ∃ g, g = w.heap.size := ⟨_, rfl⟩
 have ad : w.heap.size ≤ g := by omega
 rw [← hg] at ab hgw hAg ⊢
 clear hg
 go_loopw [7] (fun x wr => ∃ (j : Nat) (R : List Int), j + t ≤ n ∧ x = .int .i64 ((j : Int) + t - 1) ∧ KBlk .i64 wr g 98 R ∧ Hid (R.length = 64) ∧ Below w.heap.size w wr ∧ SlR .i64 wr A1 (t + 1) c1 (Cyc.T n) ∧ (∀ a, A1 = some a → a.block ≠ g) ∧ Hid (Cyc.normalW S n = (Cyc.redGo (Cyc.T n) t j R).take t)) (fun x _ => (intOf x + 1 - t).toNat)
 case atStart =>
  refine ⟨n - t, S, by omega, by go_num, ab, HS, aa, hsl1, hAg, hN⟩
 case round =>
  obtain ⟨j, R, hj, rfl, hk, hR, hb, hsl, hA, af⟩ := hrel
  clear ab hsl1 aa hN
  rcases j with _ | j
  ·have hrs := slice_sum g t xq
   have hsk := (hk.slr (n := t) (c := 64) (by have := hR.out; omega) xq xw)
   go_wp2_with (at_builtin; refine zxb _ rfl (.tmp 46) (.tmp 48) _ rfl 3 .i64 8 Tryz.underlying22 int_info wr.heap.size (some ⟨wr.heap.size, 0, none⟩) 0 0 [] rfl ?own (some ⟨g, 0, none⟩) t 64 (R.take t) rfl ?slr ?h63 ?hby ?hbase ?_)
   case own => exact (KBlk.new wr 3 []).own qyl rfl (Nat.zero_le _)
   case slr => exact hsk.alloc _
   case h63 => unfold maxLen; omega
   case hby => omega
   case hbase => simp
   intro A2 c2 w3 ag ah
   go_wp2
   go_ret
   have hfin := af.out
   rw [Cyc.redGo] at hfin
   obtain rfl := Ht.out
   refine ⟨A2, c2, rfl, ?_, hb.trans (((Below.refl _ _).alloc hb.size _).trans (ah.mono hb.size))⟩
   rw [hfin]
   exact ag.mono hb.size
  have hc1 := hk.cell (i := j + t) (by have := hR.out; omega)
  have hqs : Hid (Cyc.normalW S n = (Cyc.redGo (Cyc.T n) t j (Cyc.subRow R j (R[j + t]?.getD 0) (Cyc.T n) (t + 1))).take t) := by
   have := af.out
   show _ = _
   rw [this, Cyc.redGo, hlen.out]
  go_wp2
  clear af hc1
  obtain ⟨wo, rfl⟩ : ∃ wo : World, wo = wr := ⟨_, rfl⟩
  go_loopw [28] (fun x wi => ∃ (i : Nat), i ≤ t + 1 ∧ x = .int .i64 i ∧ KBlk .i64 wi g 98 (Cyc.subRow R j (R[j + t]?.getD 0) (Cyc.T n) i) ∧ Below w.heap.size w wi ∧ SlR .i64 wi A1 (t + 1) c1 (Cyc.T n)) (fun x _ => t + 1 - (intOf x).toNat)
  case atStart => exact ⟨0, by omega, rfl, hk, hb, hsl⟩
  case round =>
   obtain ⟨i, hi, rfl, hk, hb, hsl⟩ := hrel
   by_cases hit : i < t + 1
   ·obtain ⟨b, o, rfl, hblt, hcq⟩ := hsl.pos (i := i) hit
    have hc2 := hk.cell (i := j + i) (by have := hR.out; rw [Cyc.subRow_length]; omega)
    have hf2 := hk.frozen (j + i)
    go_wp2
    go_roundw
    case rel => exact ⟨i + 1, by omega, by go_num, hk.set _ _, hb.setCell (p := ⟨g, j + i, none⟩) ad _, hsl.setCell _ hA⟩
    case measure => simp [intOf]; omega
   obtain rfl : i = t + 1 := by omega
   go_wp2
   go_roundw
   case rel => exact ⟨j, _, by omega, by go_num, hk, by have := hR.out; show _ = _; rw [Cyc.subRow_length]; exact this, hb, hsl, hA, hqs⟩
   case measure => simp [intOf]; omega
theorem SameInts_eq (A B : Option Addr) (n c d : Nat) (l : List Int) (w : World) (ha : SlR .i64 w A n c l) (hb : SlR .i64 w B n d l) :
  qyc 69 #[.slice A n c, .slice B n d] w fun e w' => e = .returned (.bool true) ∧ ∃ m, w' = w.drewN m := by
 have hnm : n ≤ maxLen := Nat.le_trans ha.2.1 ha.2.2.1
 unfold maxLen at hnm
 have hne : ((n : Int) != n) = false := by simp
 go_enter Tryz.func69, Tryz.ntmps69
 go_wp2
 go_loopw [5] (fun y wr => ∃ k : Nat, k ≤ n ∧ y = .int .i64 k ∧ ∃ m, wr = w.drewN m) (fun y _ => n - (intOf y).toNat)
 case atStart => exact ⟨0, by omega, rfl, 0, rfl⟩
 case round =>
  obtain ⟨k, hk, rfl, m, rfl⟩ := hrel
  by_cases hkn : k < n
  ·obtain ⟨b, o, rfl, _, hc1⟩ := ha.pos hkn
   obtain ⟨b', o', rfl, _, hc2⟩ := hb.pos hkn
   have hl1 : (k : Int) < n := by omega
   go_wp2
   go_quiet (fail)
   go_wp2
   go_roundw
   case rel => exact ⟨k + 1, by omega, by go_num, m + nq, rfl⟩
   case measure => simp [intOf]; omega
  obtain rfl : k = n := by omega
  go_wp2
  go_ret
  exact ⟨rfl, m, rfl⟩
end Go.Proofs.YtcmllhhiekjmaaaGreat
