/- Contracts of nat: DivMod, small. -/
import Derived.Test.YtnedhbidmfoegaaNatK
namespace Go.Proofs.Ytnedhbidmfoegaa
open Go.RowKit
set_option linter.unusedVariables false
/-- What DivMod answers where the divisor is not 0. -/
def DivMF (w0 w : World) (e : Ending) (a b : Int) : Prop := ∃ A1 n1 c1 A2 n2 c2, e = .returned (.tuple #[.slice A1 n1 c1, .slice A2 n2 c2, .int .i64 0]) ∧ NatF w0 w A1 n1 c1 (a / b).toNat ∧ NatF w0 w A2 n2 c2 (a % b).toNat ∧ Below w0.heap.size w0 w
theorem DivMod_zero (A B : Option Addr) (n c m d : Nat) (b : List Int) (w : World) (hb : SlR .u32 w B m d b) (db : Nt.Dig b) (hz : Nt.val b = 0) :
    Calls Try.prog 113 #[.slice A n c, .slice B m d] w fun e w' => e = .returned (.tuple #[.slice none 0 0, .slice none 0 0, .int .i64 3]) ∧ w = w' := by
  have he : (Nt.strip b).length = 0 := by rw [Nt.strip_eq db, hz]; simp [Nt.digits_zero]
  have He := Lib.hid he
  clear he hz
  go_enter Try.func113, Try.ntmps113
  go_wp2_with fail
  refine (cut_any _ _ _ _ _ hb).mono ?_
  rintro e w1 ⟨rfl, rfl⟩
  rw [He.out]
  go_wp2
  go_ret3
  exact ⟨rfl, rfl⟩
theorem DivMod_any (A B : Option Addr) (n c m d : Nat) (a b : List Int) (w : World) (ha : SlR .u32 w A n c a) (hb : SlR .u32 w B m d b) (da : Nt.Dig a) (db : Nt.Dig b) (hn : n ≤ 1000000000) (hz : Nt.val b ≠ 0) :
    Calls Try.prog 113 #[.slice A n c, .slice B m d] w fun e w' => DivMF w w' e (Nt.val a) (Nt.val b) := by
  have lx : (Nt.strip a).length ≤ n := by rw [← ha.1]; exact Nt.strip_length_le a
  have ly : (Nt.strip b).length ≤ m := by rw [← hb.1]; exact Nt.strip_length_le b
  have hx := ha.upto (m := (Nt.strip a).length) lx
  have hy := hb.upto (m := (Nt.strip b).length) ly
  rw [← Nt.strip_take] at hx hy
  have hp : 0 < (Nt.strip b).length := by
    rcases Nat.eq_zero_or_pos (Nt.strip b).length with h | h
    · exfalso
      apply hz
      rw [← Nt.strip_val, List.eq_nil_of_length_eq_zero h]; rfl
    · exact h
  have hpb : (((Nt.strip b).length : Int) == 0) = false := by rw [beq_eq_false_iff_ne]; omega
  go_enter Try.func113, Try.ntmps113
  go_wp2_with fail
  refine (cut_any _ _ _ _ _ hb).mono ?_
  rintro e w1 ⟨rfl, rfl⟩
  go_wp2_with fail
  refine (cut_any _ _ _ _ _ ha).mono ?_
  rintro e w1 ⟨rfl, rfl⟩
  go_wp2_with fail
  refine (divide_any _ _ _ _ _ _ _ _ _ hx hy (Nt.strip_dig da) (Nt.strip_dig db) (Nt.strip_norm a) (Nt.strip_norm b) (by omega) hp).mono ?_
  rintro e w1 ⟨A1, n1, c1, A2, n2, c2, rfl, f1, f2, hbl⟩
  rw [Nt.strip_val, Nt.strip_val] at f1 f2
  have F1 := Lib.hid f1
  have F2 := Lib.hid f2
  clear f1 f2
  go_wp2
  go_ret3
  exact ⟨A1, n1, c1, A2, n2, c2, rfl, F1.out, F2.out, hbl⟩
namespace Nt
theorem or_zero {x : Int} (h0 : 0 ≤ x) (h1 : x < 4294967296) : bits .or .u64 0 x = x := by
  have := or_top (x := 0) (y := x) (by omega) (by omega) h0 h1
  simpa using this
theorem or_swap {x y : Int} (h0 : 0 ≤ x) (h1 : x < 4294967296) (k0 : 0 ≤ y) (k1 : y < 4294967296) : bits .or .u64 x (y * 4294967296) = x + y * 4294967296 := by
  have hc : bits .or .u64 x (y * 4294967296) = bits .or .u64 (y * 4294967296) x := by simp only [bits, BitVec.or_comm]
  rw [hc, or_top k0 k1 h0 h1]; omega
end Nt
theorem small_any (A : Option Addr) (n c : Nat) (a : List Int) (w : World) (ha : SlR .u32 w A n c a) (da : Nt.Dig a) (hn : n ≤ 2) :
    Calls Try.prog 127 #[.slice A n c] w fun e w' => e = .returned (.int .u64 (Nt.val a)) ∧ w = w' := by
  have hl := Lib.hid ha.1
  have Hd := Lib.hid da
  clear da
  go_enter Try.func127, Try.ntmps127
  go_wp2
  go_loop [3, 8] (fun v iv => ∃ i : Nat, i ≤ n ∧ iv = .int .i64 i ∧ v = .int .u64 (Nt.valTo a i)) (fun _ iv => n - (intOf iv).toNat)
  case atStart => exact ⟨0, by omega, rfl, by rw [Nt.valTo_zero]⟩
  case round =>
    obtain ⟨i, hi, rfl, rfl⟩ := hrel
    by_cases hin : i < n
    · obtain ⟨b1, o1, rfl, _, hc1⟩ := ha.pos hin
      have hx := Hd.out.at i
      have Hs := Lib.hid (Nt.valTo_succ a i)
      obtain ⟨x, hxx⟩ : ∃ x, x = a[i]?.getD 0 := ⟨_, rfl⟩
      rw [← hxx] at hc1 hx
      have Hx := Lib.hid hxx
      clear hxx
      rcases i with _ | _ | i
      · have or1 := Nt.or_zero hx.1 hx.2
        have Hr : Hid (Nt.valTo a 1 = x) := by have := Hs.out; rw [Nt.valTo_zero, ← Hx.out] at this; show _ = _; simpa [Nt.pw] using this
        rw [Nt.valTo_zero]
        simp only [Nat.add_zero] at hc1
        go_wp2
        go_round
        case rel => exact ⟨1, by omega, by go_num, by rw [Hr.out]⟩
        case measure => simp [intOf]; omega
      · have h1 := Nt.valTo_nonneg Hd.out 1
        have h2 := Nt.valTo_lt Hd.out 1
        have or1 := Nt.or_swap h1 h2 hx.1 hx.2
        have Hr : Hid (Nt.valTo a 2 = Nt.valTo a 1 + x * 4294967296) := by have := Hs.out; rw [← Hx.out] at this; simp only [Nt.pw, Nat.zero_add] at this; show _ = _; rw [this]; omega
        have h2' : Nt.valTo a 1 < 4294967296 := h2
        clear h2
        go_wp2
        go_round
        case rel => exact ⟨2, by omega, by go_num, by rw [Hr.out]⟩
        case measure => simp [intOf]; omega
      · omega
    · obtain rfl : i = n := by omega
      go_wp2
      go_ret
      exact ⟨by rw [Nt.valTo_all a (by have := hl.out; omega)]; rfl, rfl⟩
end Go.Proofs.Ytnedhbidmfoegaa
