/- Contracts of nat: cofactors (Lehmer). -/
import Derived.Test.YtnedhbidmfoegaaGreatNatE
import Derived.Test.YtnedhbidmfoegaaGreatLeh
import Derived.Deep.DeepCutAuto
import Derived.Deep.CutBlock
import Derived.WalkLawsBesides
namespace Go.Proofs.YtnedhbidmfoegaaGreat
open Go.RowKit
set_option linter.unusedVariables false
def mx4 (x y z u : Int) : Int := let m1 := if y > x then y else x; let m2 := if z > m1 then z else m1; if u > m2 then u else m2
theorem mx4_lt (x y z u l : Int) : l < mx4 x y z u ↔ (l < x ∨ l < y ∨ l < z ∨ l < u) := by
  unfold mx4
  simp only []
  split <;> split <;> split <;> omega
theorem run_max4 {P : Program} (w : World) (ts : Array TypeId) (t : TypeId) (x y z u : Int) : (Builtin.max_ ts t #[.int .i64 x, .int .i64 y, .int .i64 z, .int .i64 u]).run P w = .ok (.int .i64 (mx4 x y z u)) w := by
  simp [Builtin.max_, Builtin.max2, mx4, List.foldlM]
/-- What cofactors answers. -/
def CofF (x y p0 q0 : Int) (e : Ending) : Prop := ∃ a b c d, e = .returned (.tuple #[.int .i64 a, .int .i64 b, .int .i64 c, .int .i64 d]) ∧ ∃ p q, Nt.Leh x y p0 q0 p q a b c d
set_option maxHeartbeats 2000000 in
theorem cofactors_any (x y p0 q0 K Z ex ey : Int) (w : World) (hK : 0 < K) (hZ : 0 < Z) (hx : x * Z = p0 * K + ex) (hx0 : 0 ≤ ex) (hx1 : ex < K) (hy : y * Z = q0 * K + ey) (hy0 : 0 ≤ ey) (hy1 : ey < K) (y0 : 0 ≤ y) (hxy : y ≤ x) (hp : 0 ≤ p0) (hq : 0 ≤ q0) (hp' : p0 ≤ 4611686018427387904) (hq' : q0 ≤ 4611686018427387904) :
    Calls Tryz.prog 205 #[.int .i64 p0, .int .i64 q0] w fun e w' => CofF x y p0 q0 e ∧ w = w' := by
  have Hx := Lib.hid hx
  have Hy := Lib.hid hy
  have H0 := Lib.hid (Nt.Leh.start y0 hxy hp hq hp' hq')
  have hmax := fun (w : World) (ts : Array TypeId) (t : TypeId) (x y z u : Int) => run_max4 (P := Tryz.prog) w ts t x y z u
  clear hx hy
  go_enter Tryz.func205, Tryz.ntmps205
  go_upto_block 0 with (fail)
  go_cut [4, 5, 6, 7] (fun s4 s5 s6 s7 wx => ∃ a b c d : Int, s4 = .int .i64 a ∧ s5 = .int .i64 b ∧ s6 = .int .i64 c ∧ s7 = .int .i64 d ∧ Hid (∃ p q, Nt.Leh x y p0 q0 p q a b c d) ∧ wx = w)
  case first =>
    go_wp2
    go_loop [0, 1, 4, 5, 6, 7] (fun s0 s1 s4 s5 s6 s7 => ∃ p q a b c d : Int, s0 = .int .i64 p ∧ s1 = .int .i64 q ∧ s4 = .int .i64 a ∧ s5 = .int .i64 b ∧ s6 = .int .i64 c ∧ s7 = .int .i64 d ∧ Hid (Nt.Leh x y p0 q0 p q a b c d)) (fun _ s1 _ _ s6 _ => (intOf s1 + intOf s6).toNat)
    case atStart => exact ⟨p0, q0, 1, 0, 0, 1, rfl, rfl, rfl, rfl, rfl, rfl, H0⟩
    case round =>
      obtain ⟨p, q, a, b, c, d, rfl, rfl, rfl, rfl, rfl, rfl, hL⟩ := hrel
      clear H0
      have k1 := hL.out.p0
      have k2 := hL.out.q0
      have k3 := hL.out.pm
      have k4 := hL.out.qm
      have k5 := hL.out.ba
      have k6 := hL.out.bb
      have k7 := hL.out.bc
      have k8 := hL.out.bd
      have m1 := hL.out.pa
      have m2 := hL.out.pb
      have m3 := hL.out.qc
      have m4 := hL.out.qd
      by_cases z1 : q + c = 0
      · have z1' : (q + c != 0) = false := by rw [z1]; rfl
        clear z1
        go_wp2
        go_meet
        exact ⟨a, b, c, d, rfl, rfl, rfl, rfl, ⟨p, q, hL.out⟩, rfl⟩
      have z1' : (q + c != 0) = true := by rw [bne_iff_ne]; exact z1
      have z1'' : (q + c == 0) = false := by rw [beq_eq_false_iff_ne]; exact z1
      by_cases z2 : q + d = 0
      · have z2' : (q + d != 0) = false := by rw [z2]; rfl
        clear z1 z2
        go_wp2
        go_meet
        exact ⟨a, b, c, d, rfl, rfl, rfl, rfl, ⟨p, q, hL.out⟩, rfl⟩
      have z2' : (q + d != 0) = true := by rw [bne_iff_ne]; exact z2
      have z2'' : (q + d == 0) = false := by rw [beq_eq_false_iff_ne]; exact z2
      have z3 : 1 ≤ q + c := by omega
      have z4 : 1 ≤ q + d := by omega
      have Hz1 := Lib.hid z1
      have Hz2 := Lib.hid z2
      obtain ⟨f, hf⟩ : ∃ f, (p + a) / (q + c) = f := ⟨_, rfl⟩
      have f0 : 0 ≤ f := by rw [← hf]; exact Int.ediv_nonneg m1 m3
      have Hf := Lib.hid hf
      by_cases e2 : (p + b) / (q + d) = f
      · by_cases e3 : 2147483647 < f
        · clear z1 z2
          go_wp2
          go_meet
          exact ⟨a, b, c, d, rfl, rfl, rfl, rfl, ⟨p, q, hL.out⟩, rfl⟩
        · have He2 := Lib.hid e2
          have b1 := Nt.mul_range2 f0 (by omega) k7.1 k7.2
          have b2 := Nt.mul_range2 f0 (by omega) k8.1 k8.2
          have b3 := Nt.fl (n := p + a) (m := q + c) (f := f) (by omega) hf.symm
          have b4 : f * (q + c) = f * q + f * c := Int.mul_add _ _ _
          have b5 : 0 ≤ f * q := Int.mul_nonneg f0 k2
          have b6 : f * q ≤ p + a - f * c := by omega
          have b1a := b1.1
          have b1b := b1.2
          have b2a := b2.1
          have b2b := b2.2
          by_cases hm : 2147483647 < mx4 (a - f * c) (-(a - f * c)) (b - f * d) (-(b - f * d))
          · clear z1 z2 b4 b3
            go_wp2
            go_meet
            exact ⟨a, b, c, d, rfl, rfl, rfl, rfl, ⟨p, q, hL.out⟩, rfl⟩
          · have hm' := hm
            rw [mx4_lt] at hm'
            have be : -2147483647 ≤ a - f * c ∧ a - f * c ≤ 2147483647 := by omega
            have bg : -2147483647 ≤ b - f * d ∧ b - f * d ≤ 2147483647 := by omega
            have hN := hL.out.step hK hZ Hx.out hx0 hx1 Hy.out hy0 hy1 Hz1.out Hz2.out Hf.out.symm He2.out.symm be bg
            have HN := Lib.hid hN.1
            have HM := Lib.hid hN.2
            clear z1 z2 b4 b3 hm' hN
            go_wp2
            go_round
            case rel => exact ⟨q, p - f * q, c, d, _, _, rfl, rfl, rfl, rfl, rfl, rfl, HN⟩
            case measure => simp [intOf]; have := HM.out; omega
      · have e2' : (f != (p + b) / (q + d)) = true := by rw [bne_iff_ne]; exact fun h => e2 h.symm
        clear z1 z2
        go_wp2
        go_meet
        exact ⟨a, b, c, d, rfl, rfl, rfl, rfl, ⟨p, q, hL.out⟩, rfl⟩
  case rest =>
    obtain ⟨a, b, c, d, rfl, rfl, rfl, rfl, h, rfl⟩ := hcut
    go_wp2
    exact bodyPost_ret (v := .tuple #[.int .i64 a, .int .i64 b, .int .i64 c, .int .i64 d]) (by simp [results, Tryz.results205, go_sem]) rfl ⟨⟨a, b, c, d, rfl, h.out⟩, rfl⟩
end Go.Proofs.YtnedhbidmfoegaaGreat
