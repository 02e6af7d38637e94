/- Contracts: At, Below (choices made small). -/
import Derived.Test.YtdgigbehdmhflaaCycE
namespace Go.Proofs.Ytdgigbehdmhflaa
open Go.RowKit
set_option linter.unusedVariables false

/-- Each element fits an int. -/
def Fit (l : List Int) : Prop := ∀ i : Nat, -9223372036854775808 ≤ l[i]?.getD 0 ∧ l[i]?.getD 0 ≤ 9223372036854775807

theorem wrap64_bd (x : Int) : -9223372036854775808 ≤ wrap64 x ∧ wrap64 x ≤ 9223372036854775807 := by unfold wrap64; omega
theorem At_any (A : Option Addr) (n c : Nat) (l : List Int) (i : Int) (w : World) (h : SlR .i64 w A n c l) (hf : Fit l) :
    Calls Try.prog 30 #[.slice A n c, .int .i64 i] w fun e w' => (∃ x : Int, e = .returned (.int .i64 x) ∧ -9223372036854775808 ≤ x ∧ x ≤ 9223372036854775807) ∧ w = w' := by
  have hnm : n ≤ maxLen := Nat.le_trans h.2.1 h.2.2.1
  unfold maxLen at hnm
  by_cases h0 : 0 ≤ i
  · obtain ⟨k, rfl⟩ := Int.eq_ofNat_of_zero_le h0
    by_cases h1 : k < n
    · obtain ⟨b, o, rfl, _, hc⟩ := h.pos h1
      have hlt : (k : Int) < n := by omega
      go_enter Try.func30, Try.ntmps30
      go_wp2
      go_ret
      exact ⟨⟨_, rfl, hf k⟩, rfl⟩
    · have hlt : ¬ (k : Int) < n := by omega
      have hlt' : decide ((k : Int) < n) = false := by simpa using hlt
      go_enter Try.func30, Try.ntmps30
      go_wp2
      go_ret
      exact ⟨⟨0, rfl, by omega, by omega⟩, rfl⟩
  · have hlt' : decide ((0 : Int) ≤ i) = false := by simpa using h0
    go_enter Try.func30, Try.ntmps30
    go_wp2
    go_ret
    exact ⟨⟨0, rfl, by omega, by omega⟩, rfl⟩

/-- All elements have an absolute value of at most b. -/
def Bd (b : Int) (l : List Int) : Prop := ∀ x ∈ l, -b ≤ x ∧ x ≤ b

set_option maxHeartbeats 1000000 in
theorem Below_any (b : Int) (A : Option Addr) (n c : Nat) (l : List Int) (k : Int) (w : World) (h : SlR .i64 w A n c l) (hf : Fit l) (hb1 : 1 ≤ b) (hb2 : b ≤ 1000) (hk0 : 0 ≤ k) (hk : k ≤ 100) :
    Calls Try.prog 13 #[.int .i64 b, .slice A n c, .int .i64 k] w fun e w' => ∃ A' c' l', e = .returned (.slice A' k.toNat c') ∧ OwnK .i64 w' w.heap.size 3 A' k.toNat c' l' ∧ Hid (Bd b l') ∧ Below w.heap.size w w' := by
  obtain ⟨m, rfl⟩ := Int.eq_ofNat_of_zero_le hk0
  rw [Int.toNat_natCast]
  go_enter Try.func13, Try.ntmps13
  go_wp2
  go_loopw [7, 8] (fun x y wr => ∃ (i : Nat) (A' : Option Addr) (c' : Nat) (l' : List Int), i ≤ m ∧ x = .slice A' i c' ∧ y = .int .i64 i ∧ OwnK .i64 wr w.heap.size 3 A' i c' l' ∧ Hid (Bd b l') ∧ Below w.heap.size w wr) (fun _ y _ => m - (intOf y).toNat)
  case atStart => exact ⟨0, none, 0, [], by omega, rfl, rfl, ⟨rfl, World.ownsRow_nil _ _ _ _⟩, fun x hx => by simp at hx, Below.refl _ _⟩
  case round =>
    obtain ⟨i, A', c', l', hi, rfl, rfl, ho, hbd, hb⟩ := hrel
    by_cases him : i < m
    · have hl : (i : Int) < m := by omega
      go_wp2_with fail
      refine (At_any A n c l _ _ (h.below hb) hf).mono ?_
      rintro e w1 ⟨⟨x, rfl, hx1, hx2⟩, rfl⟩
      go_wp2_with fail
      have hwb := wrap64_bd (x + b)
      refine (within_any _ _ _ hwb.1 hwb.2 (by omega) (by omega)).mono ?_
      rintro e w1 ⟨rfl, rfl⟩
      have hy1 := Int.emod_nonneg (wrap64 (x + b)) (show 2 * b + 1 ≠ 0 by omega)
      have hy2 := Int.emod_lt_of_pos (wrap64 (x + b)) (show 0 < 2 * b + 1 by omega)
      generalize wrap64 (x + b) % (2 * b + 1) = y at *
      have hsl : SlR .i64 (wr.alloc (.cells #[.int .i64 (y - b)] 3)) (some ⟨wr.heap.size, 0, none⟩) 1 1 [y - b] := (KBlk.new wr 3 [y - b]).slr_all rfl (by omega) (by unfold maxLen; omega)
      have hoa : OwnK .i64 (wr.alloc (.cells #[.int .i64 (y - b)] 3)) w.heap.size 3 A' i c' l' := ho.below ((Below.refl _ _).alloc (Nat.le_refl _) _)
      have hba : Below w.heap.size w (wr.alloc (.cells #[.int .i64 (y - b)] 3)) := hb.alloc hb.size _
      clear hwb
      go_wp2_with (at_builtin; refine wpList_appendK _ rfl (.tmp 14) (.tmp 26) _ rfl 3 .i64 8 Try.underlying23 int_info w.heap.size A' i c' l' rfl hoa (some ⟨wr.heap.size, 0, none⟩) 1 1 [y - b] rfl hsl ?h63 ?hby ?hbase ?_)
      case h63 => unfold maxLen; omega
      case hby => omega
      case hbase => have := hba.size; simpa using this
      intro A2 c2 w3 ho3 hb3
      clear hsl hoa
      go_wp2
      go_roundw
      case rel => exact ⟨i + 1, A2, c2, _, by omega, rfl, by go_num, ho3, by
        intro z hz
        rcases List.mem_append.1 hz with hz | hz
        · exact hbd.out z hz
        · simp at hz; subst hz; omega, hba.trans hb3⟩
      case measure => simp [intOf]; omega
    · obtain rfl : i = m := by omega
      go_wp2
      go_ret
      exact ⟨A', c', l', rfl, ho, hbd, hb⟩
end Go.Proofs.Ytdgigbehdmhflaa
