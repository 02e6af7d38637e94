/- Contracts of nat: leading. -/
import Derived.Test.YtnedhbidmfoegaaGreatNatL
import Derived.Test.YtnedhbidmfoegaaGreatNatM
import Derived.Test.YtnedhbidmfoegaaGreatNatN
namespace Go.Proofs.YtnedhbidmfoegaaGreat
open Go.RowKit
set_option linter.unusedVariables false
namespace Nt
theorem or_add {x y : Int} {s : Nat} (h : s < 64) (h0 : 0 ≤ x) (hm : x % 2 ^ s = 0) (h1 : x < 18446744073709551616) (k0 : 0 ≤ y) (k1 : y < 2 ^ s) : bits .or .u64 x y = x + y := by
  have hp : (2 : Int) ^ s ≤ 9223372036854775808 := by
    have h1 : (2 : Nat) ^ s ≤ 2 ^ 63 := Nat.pow_le_pow_right (by omega) (by omega)
    have h2 : ((2 ^ s : Nat) : Int) ≤ ((2 ^ 63 : Nat) : Int) := Int.ofNat_le.2 h1
    simpa using h2
  exact bits_join .u64 64 (by decide) (fun n h0 h1 => by rw [IntKind.wrap_u64]; omega) s _ _ h0 hm (by omega) k0 k1 (by omega)
/-- What leading answers. -/
def LeadF (a : List Int) (k s : Nat) (p : Int) : Prop := 0 ≤ p ∧ p < 4611686018427387904 ∧ ∃ ex, val a * 2 ^ s = p * (4 * pw (k + 1)) + ex ∧ 0 ≤ ex ∧ ex < 4 * pw (k + 1)
theorem lead_top {d1 d2 d3 : Int} {s : Nat} (hs : s < 32) (p1 : 0 ≤ d1) (p2 : 0 ≤ d2 ∧ d2 < 4294967296) (p3 : 0 ≤ d3 ∧ d3 < 4294967296) (ht : (d1 + 1) * 2 ^ s ≤ 4294967296) :
    0 ≤ (d1 * 4294967296 + d2) * 2 ^ s ∧ (d1 * 4294967296 + d2) * 2 ^ s + 2 ^ s ≤ 18446744073709551616 ∧ 0 ≤ d3 * 2 ^ s ∧ d3 * 2 ^ s < 9223372036854775808 ∧ 0 ≤ d3 * 2 ^ s / 4294967296 ∧ d3 * 2 ^ s / 4294967296 < 2 ^ s ∧ bits .or .u64 ((d1 * 4294967296 + d2) * 2 ^ s) (d3 * 2 ^ s / 4294967296) = (d1 * 4294967296 + d2) * 2 ^ s + d3 * 2 ^ s / 4294967296 := by
  have hp := p2_pos s
  have h3 := hi_lift hs p3.1 p3.2
  have a0 : 0 ≤ (d1 * 4294967296 + d2) * 2 ^ s := Int.mul_nonneg (by omega) (by omega)
  have a1 : (d1 * 4294967296 + d2 + 1) * 2 ^ s ≤ ((d1 + 1) * 4294967296) * 2 ^ s := Int.mul_le_mul_of_nonneg_right (by omega) (by omega)
  have a2 : ((d1 + 1) * 4294967296) * 2 ^ s = ((d1 + 1) * 2 ^ s) * 4294967296 := by rw [Int.mul_assoc, Int.mul_comm 4294967296, ← Int.mul_assoc]
  have a3 : (d1 * 4294967296 + d2 + 1) * 2 ^ s = (d1 * 4294967296 + d2) * 2 ^ s + 2 ^ s := by rw [Int.add_mul _ 1, Int.one_mul]
  exact ⟨a0, by omega, h3.1, h3.2.1, h3.2.2.1, h3.2.2.2, or_add (by omega) a0 (Int.mul_emod_left _ _) (by omega) h3.2.2.1 h3.2.2.2⟩
theorem lead_val {a : List Int} {k s : Nat} {d1 d2 d3 t : Int} (hs : s < 32) (da : Dig a) (hl : a.length ≤ k + 3) (e1 : d1 = a[k + 2]?.getD 0) (e2 : d2 = a[k + 1]?.getD 0) (e3 : d3 = a[k]?.getD 0) (ht : (d1 + 1) * 2 ^ s ≤ 4294967296) (hT : t = (d1 * 4294967296 + d2) * 2 ^ s + d3 * 2 ^ s / 4294967296) : LeadF a k s (t / 4) := by
  have p1 := da.at (k + 2)
  have p2 := da.at (k + 1)
  have p3 := da.at k
  rw [← e1] at p1
  rw [← e2] at p2
  rw [← e3] at p3
  obtain ⟨q0, q1, q2, q3, q4, q5, _⟩ := lead_top (d3 := d3) hs p1.1 p2 p3 ht
  have hp := p2_pos s
  have hk := pw_pos k
  have hv : val a = valTo a k + pw k * (d3 + 4294967296 * d2 + 4294967296 * 4294967296 * d1) := by
    rw [← valTo_all a hl, valTo_succ, valTo_succ, valTo_succ, ← e1, ← e2, ← e3]
    simp only [pw]
    grind
  have hm := mod_p2 (x := d3) hs
  have hd := dig_lift (x := d3) (lo := 2 ^ s - 1) hs (by omega) (by omega)
  have v0 := valTo_nonneg da k
  have v1 := valTo_lt da k
  refine ⟨by omega, by omega, val a * 2 ^ s - t / 4 * (4 * pw (k + 1)), by omega, ?_⟩
  have e4 : val a * 2 ^ s = t * pw (k + 1) + (valTo a k * 2 ^ s + pw k * (d3 * 2 ^ s % 4294967296)) := by
    have e := Int.mul_ediv_add_emod (d3 * 2 ^ s) 4294967296
    rw [hT, hv]
    simp only [pw]
    generalize d3 * 2 ^ s / 4294967296 = q at *
    generalize d3 * 2 ^ s % 4294967296 = r at *
    grind
  have e5 : t * pw (k + 1) = t / 4 * (4 * pw (k + 1)) + (t % 4) * pw (k + 1) := by
    have e := Int.mul_ediv_add_emod t 4
    generalize t / 4 = q at *
    generalize t % 4 = r at *
    rw [← e]; grind
  have r0 : 0 ≤ valTo a k * 2 ^ s := Int.mul_nonneg v0 (by omega)
  have r1 : valTo a k * 2 ^ s ≤ (pw k - 1) * 2 ^ s := Int.mul_le_mul_of_nonneg_right (by omega) (by omega)
  rw [Int.sub_mul, Int.one_mul] at r1
  have r2 : 0 ≤ pw k * (d3 * 2 ^ s % 4294967296) := Int.mul_nonneg (by omega) (by omega)
  have r3 : pw k * (d3 * 2 ^ s % 4294967296) ≤ pw k * (4294967296 - 2 ^ s) := Int.mul_le_mul_of_nonneg_left (by omega) (by omega)
  rw [Int.mul_sub] at r3
  have r4 : pw (k + 1) = pw k * 4294967296 := by rw [pw, Int.mul_comm]
  have r5 : 0 ≤ (t % 4) * pw (k + 1) := Int.mul_nonneg (by omega) (by have := pw_pos (k + 1); omega)
  have r6 : (t % 4) * pw (k + 1) ≤ 3 * pw (k + 1) := Int.mul_le_mul_of_nonneg_right (by omega) (by have := pw_pos (k + 1); omega)
  constructor <;> omega
end Nt
theorem at_any (i : Nat) (p : Addr) (A : Option Addr) (n c : Nat) (a : List Int) (w : World) (hp : w.cell? p = some (.slice A n c)) (ha : SlR .u32 w A n c a) (da : Nt.Dig a) (hi : i ≤ 2000000000) :
    Calls Tryz.prog 214 #[.int .i64 i, .pointer (some p)] w fun e w' => e = .returned (.int .u64 (a[i]?.getD 0)) ∧ w = w' := by
  have hl := ha.1
  have hm := ha.2.2.1
  have hc := ha.2.1
  unfold maxLen at hm
  have hx := da.at i
  by_cases h : i < n
  · obtain ⟨b, o, rfl, hb, hcell⟩ := ha.pos h
    clear hl
    go_enter Tryz.func214, Tryz.ntmps214
    go_wp2
    go_ret
    exact ⟨rfl, rfl⟩
  · have e : a[i]?.getD 0 = 0 := by rw [List.getElem?_eq_none (by omega)]; rfl
    have E := Lib.hid e
    clear e hl
    go_enter Tryz.func214, Tryz.ntmps214
    go_wp2
    go_ret
    exact ⟨by rw [E.out]; rfl, rfl⟩
set_option maxHeartbeats 1000000 in
theorem leading_any (A : Option Addr) (n c k s : Nat) (a : List Int) (w : World) (ha : SlR .u32 w A n c a) (da : Nt.Dig a) (hn : n ≤ k + 3) (hk : k ≤ 1000000000) (hs : s < 32) (ht : (a[k + 2]?.getD 0 + 1) * 2 ^ s ≤ 4294967296) :
    Calls Tryz.prog 206 #[.slice A n c, .int .i64 (k + 3), .int .u64 s] w fun e w' => (∃ p, e = .returned (.int .i64 p) ∧ Nt.LeadF a k s p) ∧ Below w.heap.size w w' := by
  have p1 := da.at (k + 2)
  have p2 := da.at (k + 1)
  have p3 := da.at k
  obtain ⟨d1, e1⟩ : ∃ d, d = a[k + 2]?.getD 0 := ⟨_, rfl⟩
  obtain ⟨d2, e2⟩ : ∃ d, d = a[k + 1]?.getD 0 := ⟨_, rfl⟩
  obtain ⟨d3, e3⟩ : ∃ d, d = a[k]?.getD 0 := ⟨_, rfl⟩
  have E1 := Lib.hid e1
  have E2 := Lib.hid e2
  have E3 := Lib.hid e3
  rw [← e1] at p1 ht
  rw [← e2] at p2
  rw [← e3] at p3
  have hv := Nt.lead_val (t := (d1 * 4294967296 + d2) * 2 ^ s + d3 * 2 ^ s / 4294967296) hs da (by rw [ha.1]; exact hn) e1 e2 e3 ht rfl
  have HV := Lib.hid hv
  obtain ⟨q0, q1, q2, q3, q4, q5, q6⟩ := Nt.lead_top (d3 := d3) hs p1.1 p2 p3 ht
  have hp := Nt.p2_pos s
  have or1 := Nt.or_top p1.1 p1.2 p2.1 p2.2
  have hp2 := Nt.p2_le hs
  have hbox : (w.alloc (.cells #[.slice A n c] 22)).cell? ⟨w.heap.size, 0, none⟩ = some (.slice A n c) := by simp [World.cell?_alloc_new]
  have Hbox := Lib.hid hbox
  clear e1 e2 e3 hv ht hbox
  go_enter Tryz.func206, Tryz.ntmps206
  go_wp2_with fail
  rw [show ((k : Int) + 3 - 1) = ((k + 2 : Nat) : Int) by omega]
  refine (at_any (k + 2) _ A n c a _ Hbox.out (ha.alloc _) da (by omega)).mono ?_
  rintro e w1 ⟨rfl, rfl⟩
  rw [← E1.out]
  go_wp2_with fail
  rw [show ((k : Int) + 3 - 2) = ((k + 1 : Nat) : Int) by omega]
  refine (at_any (k + 1) _ A n c a _ Hbox.out (ha.alloc _) da (by omega)).mono ?_
  rintro e w1 ⟨rfl, rfl⟩
  rw [← E2.out]
  go_wp2_with fail
  refine (at_any k _ A n c a _ Hbox.out (ha.alloc _) da (by omega)).mono ?_
  rintro e w1 ⟨rfl, rfl⟩
  rw [← E3.out]
  go_wp2
  go_ret
  exact ⟨⟨_, rfl, HV.out⟩, (Below.refl _ _).alloc (Nat.le_refl _) _⟩
end Go.Proofs.YtnedhbidmfoegaaGreat
