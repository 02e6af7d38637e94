/- Contracts of the reference of nat: Gcd. -/
import Derived.Test.YtnedhbidmfoegaaRfH
import Derived.Test.YtnedhbidmfoegaaNatQ
namespace Go.Proofs.Ytnedhbidmfoegaa
open Go.RowKit
set_option linter.unusedVariables false
set_option maxHeartbeats 1000000 in
theorem rGcd_any (A B : Option Addr) (n c m d : Nat) (a b : List Int) (w : World) (ha : SlR .u32 w A n c a) (hb : SlR .u32 w B m d b) (da : Nt.Dig a) (db : Nt.Dig b) (hn : n ≤ 500000000) (hm : m ≤ 500000000) :
    Calls Try.prog 121 #[.slice A n c, .slice B m d] w fun e w' => ∃ A' n' c', e = .returned (.slice A' n' c') ∧ NatF w w' A' n' c' (Nat.gcd (Nt.val a).toNat (Nt.val b).toNat) ∧ Below w.heap.size w w' := by
  have l1 : Hid ((Nt.digits (Nt.val a).toNat).length ≤ n) := by rw [← Nt.strip_eq da, ← ha.1]; exact Nt.strip_length_le a
  have l2 : Hid ((Nt.digits (Nt.val b).toNat).length ≤ m) := by rw [← Nt.strip_eq db, ← hb.1]; exact Nt.strip_length_le b
  go_enter Try.func121, Try.ntmps121
  go_wp2_with fail
  refine (rTrim_any _ _ _ _ _ ha da (by omega)).mono ?_
  rintro e w1 ⟨A1, n1, c1, rfl, f1, b1⟩
  go_wp2_with fail
  refine (rTrim_any _ _ _ _ _ (hb.below b1) db (by omega)).mono ?_
  rintro e w2 ⟨A2, n2, c2, rfl, f2, b2⟩
  have g1 : NatF w w2 A1 n1 c1 (Nt.val a).toNat := f1.nat.below b2
  have g2 : NatF w w2 A2 n2 c2 (Nt.val b).toNat := f2.nat.mono b1.size
  have hB : Hid (Below w.heap.size w w2) := b1.trans (b2.mono b1.size)
  have hL1 : n1 ≤ 500000000 := by have := f1.1; have := l1.out; omega
  have hL2 : n2 ≤ 500000000 := by have := f2.1; have := l2.out; omega
  clear f1 f2 b1 b2 ha hb l1 l2 da db
  obtain ⟨X, hX⟩ : ∃ X, X = (Nt.val a).toNat := ⟨_, rfl⟩
  obtain ⟨Y, hY⟩ : ∃ Y, Y = (Nt.val b).toNat := ⟨_, rfl⟩
  obtain ⟨G, hG⟩ : ∃ G, G = Nat.gcd (Nt.val a).toNat (Nt.val b).toNat := ⟨_, rfl⟩
  have HG := Lib.hid hG
  have HG2 : Hid (Nat.gcd X Y = G) := by show _ = _; rw [hX, hY, hG]
  rw [← hX] at g1
  rw [← hY] at g2
  have G1 := Lib.hid g1
  have G2 := Lib.hid g2
  clear hX hY hG g1 g2
  go_wp2
  go_loopw [0, 1] (fun s5 s6 wx => ∃ A1 n1 c1 A2 n2 c2 X Y, s5 = .slice A1 n1 c1 ∧ s6 = .slice A2 n2 c2 ∧ Hid (NatF w wx A1 n1 c1 X) ∧ Hid (NatF w wx A2 n2 c2 Y) ∧ Hid (Below w.heap.size w wx) ∧ n1 ≤ 500000000 ∧ n2 ≤ 500000000 ∧ Hid (Nat.gcd X Y = G)) (fun _ s6 wx => sval wx s6)
  case atStart => exact ⟨A1, n1, c1, A2, n2, c2, X, Y, rfl, rfl, G1, G2, hB, hL1, hL2, HG2⟩
  case round =>
    clear G1 G2 hB HG2 hL1 hL2
    obtain ⟨A1, n1, c1, A2, n2, c2, X, Y, rfl, rfl, K1, K2, KB, hL1, hL2, HG2⟩ := hrel
    rcases Nat.eq_zero_or_pos n2 with h0 | h0
    · subst h0
      have hY : Hid (X = G) := by
        have e1 := K2.out.1
        have : Y = 0 := by
          rcases Nat.eq_zero_or_pos Y with h | h
          · exact h
          · have := Nt.digits_length_pos h; omega
        have e2 := HG2.out
        rw [this, Nat.gcd_zero_right] at e2
        exact e2
      go_wp2
      go_ret
      refine ⟨A1, n1, c1, rfl, ?_, KB.out⟩
      rw [← HG.out, ← hY.out]
      exact K1.out
    · have h0' : (0 : Int) < n2 := by omega
      have hYp : 0 < Y := by
        rcases Nat.eq_zero_or_pos Y with h | h
        · have e1 := K2.out.1; rw [h, Nt.digits_zero] at e1; simp at e1; omega
        · exact h
      go_wp2_with fail
      refine (rDivMod_any _ _ _ _ _ _ _ _ _ K1.out.2.1 K2.out.2.1 (Nt.digits_dig X) (Nt.digits_dig Y) hL1 hL2 (by rw [Nt.digits_val]; omega)).mono ?_
      rintro e w5 ⟨A3, n3, c3, A4, n4, c4, rfl, f1, f2, hbl⟩
      rw [Nt.digits_val, Nt.digits_val, ← Int.natCast_emod, Int.toNat_natCast] at f2
      have hr := Nat.mod_lt X hYp
      have hn4 : n4 ≤ 500000000 := by rw [f2.1]; have := Nt.digits_len_mono (Nat.le_of_lt hr); rw [← K2.out.1] at this; omega
      have hG' : Hid (Nat.gcd Y (X % Y) = G) := by show _ = _; rw [← HG2.out, Nat.gcd_comm X Y, Nat.gcd_rec Y X, Nat.gcd_comm]
      have E1 : Hid (NatF w w5 A2 n2 c2 Y) := K2.out.below hbl
      have E2 : Hid (NatF w w5 A4 n4 c4 (X % Y)) := f2.mono KB.out.size
      have E3 : Hid (Below w.heap.size w w5) := KB.out.trans (hbl.mono KB.out.size)
      have Hms : Hid (sval w5 (.slice A4 n4 c4) < sval wr (.slice A2 n2 c2)) := by
        show _ < _
        rw [sval_slr f2.2.1, sval_slr K2.out.2.1, Nt.digits_val, Nt.digits_val]
        omega
      clear f1 f2 hbl
      go_wp2
      go_roundw
      case rel => exact ⟨A2, n2, c2, A4, n4, c4, Y, X % Y, rfl, rfl, E1, E2, E3, hL2, hn4, hG'⟩
      case measure => exact Hms.out
end Go.Proofs.Ytnedhbidmfoegaa
