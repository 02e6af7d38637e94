/- Contracts: small, check. -/
import Derived.Test.YtdgigbehdmhflaaCycH
namespace Go.Proofs.Ytdgigbehdmhflaa
open Go.RowKit
set_option linter.unusedVariables false

theorem small_any (A : Option Addr) (n c : Nat) (l : List Int) (w : World) (hsl : SlR .i64 w A n c l) (hf : Fit l) :
    Calls Try.prog 12 #[.slice A n c] w fun e w' => ∃ m A' c' l', m ≤ 40 ∧ e = .returned (.slice A' m c') ∧ OwnK .i64 w' w.heap.size 3 A' m c' l' ∧ Hid (Bd 200 l') ∧ Below w.heap.size w w' := by
  have hnm : n ≤ maxLen := Nat.le_trans hsl.2.1 hsl.2.2.1
  unfold maxLen at hnm
  by_cases hn : n ≤ 40
  · have hmin : min (n : Int) 40 = n := by omega
    go_enter Try.func12, Try.ntmps12
    go_wp2_with fail
    refine (Below_any 200 A n c l _ _ hsl hf (by omega) (by omega) (by omega) (by omega)).mono ?_
    rintro e w1 ⟨A', c', l', rfl, ho, hbd, hb⟩
    rw [Int.toNat_natCast] at ho ⊢
    go_wp2
    go_ret
    exact ⟨n, A', c', l', hn, rfl, ho, hbd, hb⟩
  · have hmin : min (n : Int) 40 = 40 := by omega
    go_enter Try.func12, Try.ntmps12
    go_wp2_with fail
    refine (Below_any 200 A n c l _ _ hsl hf (by omega) (by omega) (by omega) (by omega)).mono ?_
    rintro e w1 ⟨A', c', l', rfl, ho, hbd, hb⟩
    rw [show (40 : Int).toNat = 40 from rfl] at ho ⊢
    go_wp2
    go_ret
    exact ⟨40, A', c', l', by omega, rfl, ho, hbd, hb⟩

def anyTo (p : Nat → Bool) : Nat → Bool
  | 0 => false
  | m + 1 => anyTo p m || p m
theorem anyTo_hit {p : Nat → Bool} {m j : Nat} (hj : j < m) (h : p j = true) : anyTo p m = true := by
  induction m with
  | zero => omega
  | succ m ih =>
    rw [anyTo]
    by_cases hm : j = m
    · subst hm; simp [h]
    · simp [ih (by omega)]
def wideAt (l : List Int) (i : Nat) : Bool := decide (l[i]?.getD 0 < -16777216) || decide (16777216 < l[i]?.getD 0)
def longAt (n : Nat → Nat) (j : Nat) : Bool := decide (128 < n j)
def wideList (n : Nat → Nat) (l : Nat → List Int) (j : Nat) : Bool := anyTo (wideAt (l j)) (n j)
def checkCode (m : Nat) (n : Nat → Nat) (l : Nat → List Int) : Int := if anyTo (longAt n) m = true then 4 else if anyTo (wideList n l) m = true then 17 else 0

set_option maxHeartbeats 2000000 in
theorem check_any (m b : Nat) (A : Nat → Option Addr) (n c : Nat → Nat) (l : Nat → List Int) (w : World) (hm : m ≤ 10)
    (hc : ∀ j, j < m → w.cell? ⟨b, j, none⟩ = some (.slice (A j) (n j) (c j))) (hs : ∀ j, j < m → SlR .i64 w (A j) (n j) (c j) (l j)) :
    Calls Try.prog 31 #[.slice (some ⟨b, 0, none⟩) m m] w fun e w' => e = .returned (.int .i64 (checkCode m n l)) ∧ w = w' := by
  have Hc := Lib.hid hc; clear hc
  have Hs := Lib.hid hs; clear hs
  go_enter Try.func31, Try.ntmps31
  go_wp2
  go_loop [11] (fun x => ∃ j : Nat, j ≤ m ∧ x = .int .i64 j ∧ Hid (anyTo (longAt n) j = false)) (fun x => m - (intOf x).toNat)
  case atStart => exact ⟨0, by omega, rfl, rfl⟩
  case round =>
    obtain ⟨j, hj, rfl, hno⟩ := hrel
    by_cases hjm : j < m
    · have hcj := Hc.out j hjm
      by_cases h128 : 128 < n j
      · have h128' : (128 : Int) < n j := by omega
        have hfin : Hid (checkCode m n l = 4) := by
          show _ = _
          unfold checkCode
          rw [if_pos (anyTo_hit hjm (by simp [longAt, h128]))]
        clear hno
        go_wp2
        go_ret
        exact ⟨by rw [hfin.out]; rfl, rfl⟩
      · have h128' : ¬ (128 : Int) < n j := by omega
        go_wp2
        go_round
        case rel => exact ⟨j + 1, by omega, by go_num, by show _ = _; rw [anyTo, hno.out]; simp [longAt]; omega⟩
        case measure => simp [intOf]; omega
    · obtain rfl : j = m := by omega
      go_wp2
      go_loop [21] (fun x => ∃ k : Nat, k ≤ j ∧ x = .int .i64 k ∧ Hid (anyTo (wideList n l) k = false)) (fun x => j - (intOf x).toNat)
      case atStart => exact ⟨0, by omega, rfl, rfl⟩
      case round =>
        obtain ⟨k, hk, rfl, hno2⟩ := hrel
        by_cases hkm : k < j
        · have hck := Hc.out k hkm
          have hsk := Hs.out k hkm
          obtain ⟨Ak, hAk⟩ : ∃ X, X = A k := ⟨_, rfl⟩
          rw [← hAk] at hck hsk
          clear hAk
          have hnm : n k ≤ maxLen := Nat.le_trans hsk.2.1 hsk.2.2.1
          unfold maxLen at hnm
          go_wp2
          go_loop [27] (fun x => ∃ i : Nat, i ≤ n k ∧ x = .int .i64 i ∧ Hid (anyTo (wideAt (l k)) i = false)) (fun x => n k - (intOf x).toNat)
          case atStart => exact ⟨0, by omega, rfl, rfl⟩
          case round =>
            obtain ⟨i, hi, rfl, hno3⟩ := hrel
            by_cases hin : i < n k
            · obtain ⟨b', o', rfl, _, hci⟩ := hsk.pos hin
              by_cases hw : wideAt (l k) i = true
              · have hfin : Hid (checkCode j n l = 17) := by
                  show _ = _
                  unfold checkCode
                  rw [hno.out, if_neg (by simp), if_pos (anyTo_hit (p := wideList n l) hkm (anyTo_hit (p := wideAt (l k)) hin hw))]
                have hw2 : (l k)[i]?.getD 0 < -16777216 ∨ ¬ (l k)[i]?.getD 0 < -16777216 ∧ 16777216 < (l k)[i]?.getD 0 := by
                  simp [wideAt] at hw; omega
                clear hw hno hno2 hno3
                rcases hw2 with hw2 | ⟨hw2, hw3⟩
                · go_wp2
                  go_ret
                  exact ⟨by rw [hfin.out]; rfl, rfl⟩
                · go_wp2
                  go_ret
                  exact ⟨by rw [hfin.out]; rfl, rfl⟩
              · have hw2 : ¬ (l k)[i]?.getD 0 < -16777216 := by simp [wideAt] at hw; omega
                have hw3 : ¬ 16777216 < (l k)[i]?.getD 0 := by simp [wideAt] at hw; omega
                have Hw := Lib.hid hw; clear hw
                go_wp2
                go_round
                case rel => exact ⟨i + 1, by omega, by go_num, by have h' := Hw.out; show _ = _; rw [anyTo, hno3.out]; simpa using h'⟩
                case measure => simp [intOf]; omega
            · obtain rfl : i = n k := by omega
              go_wp2
              go_round
              case rel => exact ⟨k + 1, by omega, by go_num, by show _ = _; rw [anyTo, hno2.out, wideList, hno3.out]; rfl⟩
              case measure => simp [intOf]; omega
        · obtain rfl : k = j := by omega
          have hfin : Hid (checkCode k n l = 0) := by
            show _ = _
            unfold checkCode
            rw [hno.out, hno2.out]; rfl
          go_wp2
          go_ret
          exact ⟨by rw [hfin.out]; rfl, rfl⟩
end Go.Proofs.Ytdgigbehdmhflaa
