/- Contracts of the reference: Phi, Totient, Small, check. -/
import Derived.Test.YtdgigbehdmhflaaCycN1
import Derived.Test.YtdgigbehdmhflaaCycGa
namespace Go.Proofs.Ytdgigbehdmhflaa
open Go.RowKit
set_option linter.unusedVariables false

set_option maxHeartbeats 1000000 in
theorem rPhi_all (k : Nat) : ∀ (z : Int) (w : World), z.toNat ≤ k → 1 ≤ z → z ≤ 64 →
    Calls Try.prog 21 #[.int .i64 z] w fun e w' => ∃ A c, e = .returned (.tuple #[.slice A (Cyc.T z.toNat).length c, .int .i64 0]) ∧ OwnK .i64 w' w.heap.size 3 A (Cyc.T z.toNat).length c (Cyc.T z.toNat) ∧ Below w.heap.size w w' := by
  induction k with
  | zero => intro n w h1 h2; omega
  | succ k ih =>
    intro z w hk h1 h2
    have IH := Lib.hid ih; clear ih
    obtain ⟨n, rfl⟩ := Int.eq_ofNat_of_zero_le (show 0 ≤ z by omega)
    rw [Int.toNat_natCast] at hk ⊢
    have h1 : 1 ≤ n := by omega
    have h2 : n ≤ 64 := by omega
    have hT : Hid (Cyc.phiTo n (n - 1) = Cyc.T n) := Cyc.phi_T n h1 h2
    go_enter Try.func21, Try.ntmps21
    go_wp2_with fail
    refine (In_yes _ _ _ _ (by omega) (by omega)).mono ?_
    rintro e w1 ⟨rfl, rfl⟩
    go_wp2_with (at_make; refine wpList_makeK _ rfl (.tmp 12) (.tmp 12) _ rfl 3 .i64 8 Try.underlying23 int_info _ _ _ _ (n + 1) rfl rfl ?L ?C ?b2 ?b3 ?_)
    case L => omega
    case C => omega
    case b2 => omega
    case b3 => unfold maxLen; omega
    intro w2 hk2 hb2 hz2
    have hc0 := hk2.cell (i := 0) (by simp)
    have hf0 := hk2.frozen 0
    have hk3 := hk2.set 0 (-1)
    have hc1 := hk3.cell (i := n) (by simp)
    have hf1 := hk3.frozen n
    have hk4 := hk3.set n 1
    rw [Cyc.start_eq n h1] at hk4
    have hb4 := (hb2.setCell (p := ⟨w.heap.size, 0, none⟩) (Nat.le_refl _) (.int .i64 (-1))).setCell (p := ⟨w.heap.size, n, none⟩) (Nat.le_refl _) (.int .i64 1)
    go_wp2
    clear hc0 hf0 hc1 hf1 hk3 hb2 hk2
    go_loopw [4, 5] (fun x y wr => ∃ (d : Nat) (A : Option Addr) (m c : Nat), d + 1 ≤ n ∧ y = .int .i64 ((d : Int) + 1) ∧ x = .slice A m c ∧ OwnK .i64 wr w.heap.size 3 A m c (Cyc.phiTo n d) ∧ Below w.heap.size w wr) (fun _ y _ => n - (intOf y).toNat)
    case atStart => exact ⟨0, _, _, _, h1, rfl, rfl, hk4.own (Nat.le_refl _) (Cyc.start_length n h1) (by unfold maxLen; omega), hb4⟩
    case round =>
      obtain ⟨d, A, m, c, hd, rfl, rfl, ho, hb⟩ := hrel
      clear hk4 hb4
      have hml := ho.1
      have hm := Cyc.phiTo_length n d h1
      have Hml := Lib.hid hml; clear hml
      by_cases hdn : d + 1 < n
      · by_cases h0 : n % (d + 1) = 0
        · have hb0 : ((n : Int) % ((d : Int) + 1) == 0) = true := by rw [emod_succ, h0]; rfl
          have hlen := Cyc.phi_len n d h1 h2 hdn h0
          have hlen1 : 1 ≤ (Cyc.T (d + 1)).length := by rcases Cyc.T_len d with h | h <;> omega
          have H0 := Lib.hid h0; clear h0
          go_wp2_with fail
          refine (IH.out _ _ (by omega) (by omega) (by omega)).mono ?_
          rintro e w1 ⟨A1, c1, rfl, ho1, hb1⟩
          rw [show ((d : Int) + 1).toNat = d + 1 by omega] at *
          go_wp2_with fail
          refine (divided_len A A1 m _ c c1 _ _ w1 (ho.slr.below hb1) ho1.slr hlen1 (by rw [← Hml.out]; exact hlen) (by rw [← Hml.out]; omega)).mono ?_
          rintro e w2 ⟨A2, c2, rfl, ho2, hb2⟩
          go_wp2
          go_roundw
          case rel => exact ⟨d + 1, A2, _, c2, by omega, by go_num, rfl, by rw [Cyc.phiTo, if_pos H0.out]; exact ho2.mono (Nat.le_trans hb.size hb1.size), hb.trans ((hb1.trans (hb2.mono hb1.size)).mono hb.size)⟩
          case measure => simp [intOf]; omega
        · have hb0 : ((n : Int) % ((d : Int) + 1) == 0) = false := by rw [emod_succ, beq_eq_false_iff_ne]; omega
          have H0 := Lib.hid h0; clear h0
          go_wp2
          go_roundw
          case rel => exact ⟨d + 1, A, m, c, by omega, by go_num, rfl, by rw [Cyc.phiTo, if_neg H0.out]; exact ho, hb⟩
          case measure => simp [intOf]; omega
      · obtain rfl : n = d + 1 := by omega
        have hT' : Hid (Cyc.phiTo (d + 1) d = Cyc.T (d + 1)) := hT
        clear hT
        go_wp2
        go_ret2
        have e1 := hT'.out
        have e2 : m = (Cyc.T (d + 1)).length := by rw [← e1]; exact Hml.out.symm
        rw [e1, e2] at ho
        exact ⟨A, c, by rw [e2]; rfl, ho, hb⟩

theorem In_no (v lo hi : Int) (w : World) (h : v < lo ∨ hi < v) :
    Calls Try.prog 36 #[.int .i64 v, .int .i64 lo, .int .i64 hi] w fun e w' => e = .returned (.bool false) ∧ w = w' := by
  by_cases h1 : lo ≤ v
  · have h2 : ¬ v ≤ hi := by omega
    go_enter Try.func36, Try.ntmps36
    go_wp2
    go_ret
    exact ⟨by simp, rfl⟩
  · go_enter Try.func36, Try.ntmps36
    go_wp2
    go_ret
    exact ⟨by simp, rfl⟩
theorem rPhi_yes (z : Int) (w : World) (h1 : 1 ≤ z) (h2 : z ≤ 64) :
    Calls Try.prog 21 #[.int .i64 z] w fun e w' => ∃ A c, e = .returned (.tuple #[.slice A (Cyc.T z.toNat).length c, .int .i64 0]) ∧ OwnK .i64 w' w.heap.size 3 A (Cyc.T z.toNat).length c (Cyc.T z.toNat) ∧ Below w.heap.size w w' := rPhi_all 64 z w (by omega) h1 h2
theorem rPhi_no (z : Int) (w : World) (h : z < 1 ∨ 64 < z) :
    Calls Try.prog 21 #[.int .i64 z] w fun e w' => e = .returned (.tuple #[.slice none 0 0, .int .i64 1]) ∧ Below w.heap.size w w' := by
  go_enter Try.func21, Try.ntmps21
  go_wp2_with fail
  refine (In_no z _ _ _ h).mono ?_
  rintro e w1 ⟨rfl, rfl⟩
  go_wp2
  go_ret2
  exact ⟨rfl, Below.refl _ _⟩
set_option maxHeartbeats 400000 in
theorem rTotient_yes (z : Int) (w : World) (h1 : 1 ≤ z) (h2 : z ≤ 64) :
    Calls Try.prog 22 #[.int .i64 z] w fun e w' => e = .returned (.tuple #[.int .i64 (Cyc.totTo z.toNat z.toNat), .int .i64 0]) ∧ ∃ m, w' = w.drewN m := by
  obtain ⟨n, rfl⟩ := Int.eq_ofNat_of_zero_le (show 0 ≤ z by omega)
  rw [Int.toNat_natCast]
  go_enter Try.func22, Try.ntmps22
  go_wp2_with fail
  refine (In_yes _ _ _ _ h1 h2).mono ?_
  rintro e w1 ⟨rfl, rfl⟩
  go_wp2
  go_loopw [4, 5] (fun x y wr => ∃ k : Nat, k ≤ n ∧ x = .int .i64 (Cyc.totTo n k : Nat) ∧ y = .int .i64 ((k : Int) + 1) ∧ ∃ m, wr = w.drewN m) (fun _ y _ => n + 1 - (intOf y).toNat)
  case atStart => exact ⟨0, by omega, rfl, rfl, 0, rfl⟩
  case round =>
    obtain ⟨k, hk, rfl, rfl, m, rfl⟩ := hrel
    have hle := Cyc.totTo_le n k
    by_cases hkn : k < n
    · by_cases hg : Int.gcd ((k : Int) + 1) n = 1
      · have hb0 : (((Int.gcd ((k : Int) + 1) n : Nat) : Int) == 1) = true := by rw [hg]; rfl
        have Hg := Lib.hid hg; clear hg
        go_wp2_with fail
        refine (rgcd_any _ _ _ (by omega) (by omega)).mono ?_
        rintro e w1 ⟨rfl, m1, rfl⟩
        go_wp2
        go_roundw
        case rel => exact ⟨k + 1, by omega, by rw [Cyc.totTo, if_pos Hg.out]; go_num, by go_num, m + m1, rfl⟩
        case measure => simp [intOf]; omega
      · have hb0 : (((Int.gcd ((k : Int) + 1) n : Nat) : Int) == 1) = false := by rw [beq_eq_false_iff_ne]; omega
        have Hg := Lib.hid hg; clear hg
        go_wp2_with fail
        refine (rgcd_any _ _ _ (by omega) (by omega)).mono ?_
        rintro e w1 ⟨rfl, m1, rfl⟩
        go_wp2
        go_roundw
        case rel => exact ⟨k + 1, by omega, by rw [Cyc.totTo, if_neg Hg.out], by go_num, m + m1, rfl⟩
        case measure => simp [intOf]; omega
    · obtain rfl : k = n := by omega
      go_wp2
      go_ret2
      exact ⟨rfl, m, rfl⟩


theorem rTotient_no (z : Int) (w : World) (h : z < 1 ∨ 64 < z) :
    Calls Try.prog 22 #[.int .i64 z] w fun e w' => e = .returned (.tuple #[.int .i64 0, .int .i64 1]) ∧ w = w' := by
  go_enter Try.func22, Try.ntmps22
  go_wp2_with fail
  refine (In_no z _ _ _ h).mono ?_
  rintro e w1 ⟨rfl, rfl⟩
  go_wp2
  go_ret2
  exact ⟨rfl, rfl⟩

/-- 'Small' with 24 and with 62 bits. -/
def outAt (b : Int) (l : List Int) (i : Nat) : Bool := decide (l[i]?.getD 0 < -b) || decide (b < l[i]?.getD 0)
set_option maxHeartbeats 1000000 in
theorem Small24 (A : Option Addr) (n c : Nat) (l : List Int) (w : World) (h : SlR .i64 w A n c l) :
    Calls Try.prog 42 #[.slice A n c, .int .i64 24] w fun e w' => e = .returned (.bool (!anyTo (outAt 16777216 l) n)) ∧ w = w' := by
  have hnm : n ≤ maxLen := Nat.le_trans h.2.1 h.2.2.1
  unfold maxLen at hnm
  go_enter Try.func42, Try.ntmps42
  go_wp2
  go_loop [5] (fun x => ∃ i : Nat, i ≤ n ∧ x = .int .i64 i ∧ Hid (anyTo (outAt 16777216 l) i = false)) (fun x => n - (intOf x).toNat)
  case atStart => exact ⟨0, by omega, rfl, rfl⟩
  case round =>
    obtain ⟨i, hi, rfl, hno⟩ := hrel
    by_cases hin : i < n
    · obtain ⟨bb, o, rfl, _, hc⟩ := h.pos hin
      by_cases ho : outAt 16777216 l i = true
      · have hfin : Hid (anyTo (outAt 16777216 l) n = true) := anyTo_hit hin ho
        have ho2 : l[i]?.getD 0 < -16777216 ∨ 16777216 < l[i]?.getD 0 := by simp [outAt] at ho; omega
        clear ho hno
        go_wp2_with fail
        refine (In_no _ _ _ _ ho2).mono ?_
        rintro e w1 ⟨rfl, rfl⟩
        go_wp2
        go_ret
        exact ⟨by rw [hfin.out]; rfl, rfl⟩
      · have ho2 : -16777216 ≤ l[i]?.getD 0 := by simp [outAt] at ho; omega
        have ho3 : l[i]?.getD 0 ≤ 16777216 := by simp [outAt] at ho; omega
        have Ho := Lib.hid ho; clear ho
        go_wp2_with fail
        refine (In_yes _ _ _ _ ho2 ho3).mono ?_
        rintro e w1 ⟨rfl, rfl⟩
        go_wp2
        go_round
        case rel => exact ⟨i + 1, by omega, by go_num, by have h' := Ho.out; show _ = _; rw [anyTo, hno.out]; simpa using h'⟩
        case measure => simp [intOf]; omega
    · obtain rfl : i = n := by omega
      have Hno := hno
      clear hno
      go_wp2
      go_ret
      exact ⟨by rw [Hno.out]; rfl, rfl⟩
set_option maxHeartbeats 1000000 in
theorem Small62 (A : Option Addr) (n c : Nat) (l : List Int) (w : World) (h : SlR .i64 w A n c l) :
    Calls Try.prog 42 #[.slice A n c, .int .i64 62] w fun e w' => e = .returned (.bool (!anyTo (outAt 4611686018427387904 l) n)) ∧ w = w' := by
  have hnm : n ≤ maxLen := Nat.le_trans h.2.1 h.2.2.1
  unfold maxLen at hnm
  go_enter Try.func42, Try.ntmps42
  go_wp2
  go_loop [5] (fun x => ∃ i : Nat, i ≤ n ∧ x = .int .i64 i ∧ Hid (anyTo (outAt 4611686018427387904 l) i = false)) (fun x => n - (intOf x).toNat)
  case atStart => exact ⟨0, by omega, rfl, rfl⟩
  case round =>
    obtain ⟨i, hi, rfl, hno⟩ := hrel
    by_cases hin : i < n
    · obtain ⟨bb, o, rfl, _, hc⟩ := h.pos hin
      by_cases ho : outAt 4611686018427387904 l i = true
      · have hfin : Hid (anyTo (outAt 4611686018427387904 l) n = true) := anyTo_hit hin ho
        have ho2 : l[i]?.getD 0 < -4611686018427387904 ∨ 4611686018427387904 < l[i]?.getD 0 := by simp [outAt] at ho; omega
        clear ho hno
        go_wp2_with fail
        refine (In_no _ _ _ _ ho2).mono ?_
        rintro e w1 ⟨rfl, rfl⟩
        go_wp2
        go_ret
        exact ⟨by rw [hfin.out]; rfl, rfl⟩
      · have ho2 : -4611686018427387904 ≤ l[i]?.getD 0 := by simp [outAt] at ho; omega
        have ho3 : l[i]?.getD 0 ≤ 4611686018427387904 := by simp [outAt] at ho; omega
        have Ho := Lib.hid ho; clear ho
        go_wp2_with fail
        refine (In_yes _ _ _ _ ho2 ho3).mono ?_
        rintro e w1 ⟨rfl, rfl⟩
        go_wp2
        go_round
        case rel => exact ⟨i + 1, by omega, by go_num, by have h' := Ho.out; show _ = _; rw [anyTo, hno.out]; simpa using h'⟩
        case measure => simp [intOf]; omega
    · obtain rfl : i = n := by omega
      have Hno := hno
      clear hno
      go_wp2
      go_ret
      exact ⟨by rw [Hno.out]; rfl, rfl⟩

theorem outAt_wide (l : List Int) : outAt 16777216 l = wideAt l := rfl
set_option maxHeartbeats 2000000 in
theorem rcheck_any (z : Int) (m b : Nat) (A : Nat → Option Addr) (n c : Nat → Nat) (l : Nat → List Int) (w : World) (hm : m ≤ 10) (h1 : 1 ≤ z) (h2 : z ≤ 64)
    (hc : ∀ j, j < m → w.cell? ⟨b, j, none⟩ = some (.slice (A j) (n j) (c j))) (hs : ∀ j, j < m → SlR .i64 w (A j) (n j) (c j) (l j)) :
    Calls Try.prog 38 #[.int .i64 z, .slice (some ⟨b, 0, none⟩) m m] w fun e w' => e = .returned (.int .i64 (checkCode m n l)) ∧ w = w' := by
  have Hc := Lib.hid hc; clear hc
  have Hs := Lib.hid hs; clear hs
  go_enter Try.func38, Try.ntmps38
  go_wp2_with fail
  refine (In_yes _ _ _ _ h1 h2).mono ?_
  rintro e w1 ⟨rfl, rfl⟩
  go_wp2
  go_loop [5] (fun x => ∃ j : Nat, j ≤ m ∧ x = .int .i64 j ∧ Hid (anyTo (longAt n) j = false)) (fun x => m - (intOf x).toNat)
  case atStart => exact ⟨0, by omega, rfl, rfl⟩
  case round =>
    obtain ⟨j, hj, rfl, hno⟩ := hrel
    by_cases hjm : j < m
    · have hcj := Hc.out j hjm
      by_cases h128 : 128 < n j
      · have h128' : (128 : Int) < n j := by omega
        have hfin : Hid (checkCode m n l = 4) := by
          show _ = _
          unfold checkCode
          rw [if_pos (anyTo_hit hjm (by simp [longAt, h128]))]
        clear hno
        go_wp2
        go_ret
        exact ⟨by rw [hfin.out]; rfl, rfl⟩
      · have h128' : ¬ (128 : Int) < n j := by omega
        go_wp2
        go_round
        case rel => exact ⟨j + 1, by omega, by go_num, by show _ = _; rw [anyTo, hno.out]; simp [longAt]; omega⟩
        case measure => simp [intOf]; omega
    · obtain rfl : j = m := by omega
      go_wp2
      go_loop [6] (fun x => ∃ k : Nat, k ≤ j ∧ x = .int .i64 k ∧ Hid (anyTo (wideList n l) k = false)) (fun x => j - (intOf x).toNat)
      case atStart => exact ⟨0, by omega, rfl, rfl⟩
      case round =>
        obtain ⟨k, hk, rfl, hno2⟩ := hrel
        by_cases hkm : k < j
        · have hck := Hc.out k hkm
          have hsk := Hs.out k hkm
          by_cases hw : anyTo (wideAt (l k)) (n k) = true
          · have hfin : Hid (checkCode j n l = 17) := by
              show _ = _
              unfold checkCode
              rw [hno.out, if_neg (by simp), if_pos (anyTo_hit (p := wideList n l) hkm hw)]
            have Hw := Lib.hid hw
            clear hw hno hno2
            go_wp2_with fail
            refine (Small24 _ _ _ _ _ hsk).mono ?_
            rintro e w1 ⟨rfl, rfl⟩
            rw [outAt_wide, Hw.out]
            go_wp2
            go_ret
            exact ⟨by rw [hfin.out]; rfl, rfl⟩
          · have Hw := Lib.hid (show anyTo (wideAt (l k)) (n k) = false by simpa using hw)
            clear hw
            go_wp2_with fail
            refine (Small24 _ _ _ _ _ hsk).mono ?_
            rintro e w1 ⟨rfl, rfl⟩
            rw [outAt_wide, Hw.out]
            go_wp2
            go_round
            case rel => exact ⟨k + 1, by omega, by go_num, by show _ = _; rw [anyTo, hno2.out, wideList, Hw.out]; rfl⟩
            case measure => simp [intOf]; omega
        · obtain rfl : k = j := by omega
          have hfin : Hid (checkCode k n l = 0) := by
            show _ = _
            unfold checkCode
            rw [hno.out, hno2.out]; rfl
          go_wp2
          go_ret
          exact ⟨by rw [hfin.out]; rfl, rfl⟩
theorem rcheck_no (z : Int) (v : Value) (w : World) (h : z < 1 ∨ 64 < z) :
    Calls Try.prog 38 #[.int .i64 z, v] w fun e w' => e = .returned (.int .i64 1) ∧ w = w' := by
  go_enter Try.func38, Try.ntmps38
  go_wp2_with fail
  refine (In_no z _ _ _ h).mono ?_
  rintro e w1 ⟨rfl, rfl⟩
  go_wp2
  go_ret
  exact ⟨rfl, rfl⟩
theorem rcheck_one (z : Int) (A : Option Addr) (m c : Nat) (a : List Int) (w : World) (ha : SlR .i64 w A m c a) (h1 : 1 ≤ z) (h2 : z ≤ 64) :
    Calls Try.prog 38 #[.int .i64 z, .slice (some ⟨w.heap.size, 0, none⟩) 1 1] (w.alloc (.cells #[.slice A m c] 23)) fun e w' => e = .returned (.int .i64 (code1 a)) ∧ w.alloc (.cells #[.slice A m c] 23) = w' := by
  have := rcheck_any z 1 w.heap.size (fun _ => A) (fun _ => m) (fun _ => c) (fun _ => a) (w.alloc (.cells #[.slice A m c] 23)) (by omega) h1 h2 (by
    intro j hj
    obtain rfl : j = 0 := by omega
    rw [cell_of_row _ _ _ _ _ _ (heap_alloc_new w _)]; rfl) (fun j hj => ha.alloc _)
  rw [show m = a.length from ha.1.symm] at this ⊢
  exact this
theorem rcheck_two (z : Int) (A B : Option Addr) (m c m' c' : Nat) (a b : List Int) (w : World) (ha : SlR .i64 w A m c a) (hb : SlR .i64 w B m' c' b) (h1 : 1 ≤ z) (h2 : z ≤ 64) :
    Calls Try.prog 38 #[.int .i64 z, .slice (some ⟨w.heap.size, 0, none⟩) 2 2] (w.alloc (.cells #[.slice A m c, .slice B m' c'] 23)) fun e w' => e = .returned (.int .i64 (code2 a b)) ∧ w.alloc (.cells #[.slice A m c, .slice B m' c'] 23) = w' := by
  have := rcheck_any z 2 w.heap.size (fun j => if j = 0 then A else B) (fun j => if j = 0 then m else m') (fun j => if j = 0 then c else c') (fun j => if j = 0 then a else b) (w.alloc (.cells #[.slice A m c, .slice B m' c'] 23)) (by omega) h1 h2 (by
    intro j hj
    rw [cell_of_row _ _ _ _ _ _ (heap_alloc_new w _)]
    rcases j with _ | _ | j
    · rfl
    · rfl
    · omega) (by
    intro j hj
    rcases j with _ | _ | j
    · exact ha.alloc _
    · exact hb.alloc _
    · omega)
  rw [show m = a.length from ha.1.symm, show m' = b.length from hb.1.symm] at this ⊢
  exact this
end Go.Proofs.Ytdgigbehdmhflaa
