/- Contracts: Add. -/
import Derived.Test.YtdgigbehdmhflaaCycW
namespace Go.Proofs.Ytdgigbehdmhflaa
open Go.RowKit
set_option linter.unusedVariables false

namespace Cyc
def addT (s t : List Int) : Nat → List Int
  | 0 => s
  | i + 1 => (addT s t i).set i (wrap64 ((addT s t i)[i]?.getD 0 + t[i]?.getD 0))
theorem addT_length (s t : List Int) (i : Nat) : (addT s t i).length = s.length := by
  induction i with
  | zero => rfl
  | succ i ih => simp [addT, ih]
theorem addT_inR (s t : List Int) (h : InR s) : ∀ i, i ≤ s.length → InR (addT s t i)
  | 0, _ => h
  | i + 1, hi => inR_set (addT_inR s t h i (by omega)) _ _ (by rw [addT_length]; omega)
theorem addT_lin (s t : List Int) (n : Nat) (g : Nat → Int) (hl : n ≤ s.length) : ∀ i, i ≤ n → Cg (lin n (addT s t i) g) (lin n s g + sumTo i (fun k => t[k]?.getD 0 * g k))
  | 0, _ => Cg.of_eq (by simp [addT, sumTo])
  | i + 1, hi => by
    rw [addT, lin_set _ _ _ (by omega) (by rw [addT_length]; omega), sumTo, ← Int.add_assoc]
    refine (addT_lin s t n g hl i (by omega)).add ((?_ : Cg _ _).mul' _)
    refine ((wrap_cg _).sub (Cg.refl _)).trans (Cg.of_eq ?_)
    omega
theorem add_norm {n : Nat} (h1 : 1 ≤ n) (h2 : n ≤ 64) (a b : List Int) (hv : Valid a) (hv' : Valid b) : normalW (addT (foldW a 1 n a.length) (foldW b 1 n b.length) n) n = specL n (fun i => linS n a 1 i + linS n b 1 i) := by
  rw [normalW_spec h1 h2 _ (by rw [addT_length, foldW_length]) (addT_inR _ _ (foldW_inR _ _ _ h1 h2 _) _ (by rw [foldW_length]; omega))]
  refine specL_congr fun i _ => ?_
  have e : ∀ c : List Int, sumTo c.length (fun j => c[j]?.getD 0 * red n (j * 1 % n) i) = linS n c 1 i := fun c => sumTo_congr fun j _ => by rw [red_mod h1 h2]
  have hcg := (addT_lin (foldW a 1 n a.length) (foldW b 1 n b.length) n (fun k => red n k i) (by rw [foldW_length]; omega) n (Nat.le_refl _)).trans ((foldW_lin a 1 n h1 h2 (fun k => red n k i) a.length).add (foldW_lin b 1 n h1 h2 (fun k => red n k i) b.length))
  rw [hcg.wrap]
  rw [e, e]
  have b1 := linS_bd h1 h2 (b := 16777216) (l := 128) hv.2 hv.1 1 i
  have b2 := linS_bd h1 h2 (b := 16777216) (l := 128) hv'.2 hv'.1 1 i
  exact wrap_id (by omega) (by omega)
end Cyc

set_option maxHeartbeats 2000000 in
theorem Add_ok (A B : Option Addr) (m c m' c' : Nat) (a b : List Int) (z : Int) (w : World) (ha : SlR .i64 w A m c a) (hb : SlR .i64 w B m' c' b) (hv : Valid a) (hv' : Valid b) (h1 : 1 ≤ z) (h2 : z ≤ 64) :
    Calls Try.prog 15 #[.slice A m c, .slice B m' c', .int .i64 z] w fun e w' => ∃ A' c', e = .returned (.tuple #[.slice A' (Cyc.deg z.toNat) c', .int .i64 0]) ∧ OwnK .i64 w' w.heap.size 3 A' (Cyc.deg z.toNat) c' (Cyc.specL z.toNat (fun i => Cyc.linS z.toNat a 1 i + Cyc.linS z.toNat b 1 i)) ∧ Below w.heap.size w w' := by
  obtain ⟨n, rfl⟩ := Int.eq_ofNat_of_zero_le (show 0 ≤ z by omega)
  have hc0 : code2 a b = 0 := code2_zero.2 ⟨hv, hv'⟩
  have Hc0 := Lib.hid hc0
  have hnm := Cyc.add_norm (n := n) (by omega) (by omega) a b hv hv'
  rw [show a.length = m from ha.1, show b.length = m' from hb.1] at hnm
  have Hnm := Lib.hid hnm
  have hm : m ≤ 128 := by rw [← ha.1]; exact hv.1
  have hm' : m' ≤ 128 := by rw [← hb.1]; exact hv'.1
  clear hc0 hnm hv hv'
  rw [Int.toNat_natCast]
  go_enter Try.func15, Try.ntmps15
  go_wp2_with fail
  refine (permitted_yes _ _ h1 h2).mono ?_
  rintro e w1 ⟨rfl, rfl⟩
  go_wp2_with fail
  refine (check_two A B m c m' c' a b w ha hb).mono ?_
  rintro e w1 ⟨rfl, rfl⟩
  rw [Hc0.out]
  generalize hw1 : w.alloc (.cells #[.slice A m c, .slice B m' c'] 23) = w1
  have hb1 : Below w.heap.size w w1 := by rw [← hw1]; exact (Below.refl _ _).alloc (Nat.le_refl _) _
  clear hw1
  go_wp2_with fail
  refine (fold_any A m c a 1 n w1 (ha.below hb1) (by omega) (by omega) (by omega) (by omega)).mono ?_
  rintro e w2 ⟨rfl, hb2⟩
  have hb12 := hb1.trans (hb2.mono hb1.size)
  go_wp2_with fail
  refine (fold_any B m' c' b 1 n w2 (hb.below hb12) (by omega) (by omega) (by omega) (by omega)).mono ?_
  rintro e w3 ⟨rfl, hb3⟩
  have hb13 := hb12.trans (hb3.mono hb12.size)
  clear hb1 hb2 hb3 hb12
  have hfl := foldW_length a 1 n m
  have hfl' := foldW_length b 1 n m'
  generalize foldW a 1 n m = s at *
  generalize foldW b 1 n m' = t at *
  have Hfl := Lib.hid hfl; clear hfl
  have Hfl' := Lib.hid hfl'; clear hfl'
  go_wp2_with (with_reducible refine wpList_alloc_sum rfl rfl ?_)
  intro w4 hk4 hb4 hz4
  go_wp2_with (with_reducible refine wpList_alloc_sum rfl rfl ?_)
  intro w5 hk5 hb5 hz5
  have hk45 := hk4.below hb5 (by omega)
  have hb15 := hb13.trans ((hb4.mono hb13.size).trans (hb5.mono (by have := hb13.size; omega)))
  clear hb4 hb5 hk4
  go_wp2_with (first | (with_reducible refine wpList_store_sum rfl (.tmp 9) (.tmp 24) rfl w3.heap.size rfl s zeros rfl Hfl.out zeros_length _ hk45 ?_))
  intro w6 hk6 hot6 hz6 hb6
  have hk56 : KBlk .i64 w6 (w3.heap.size + 1) 46 zeros := (hot6 _ (by omega)).trans hk5
  have hb16 := hb15.trans (hb6.mono hb13.size)
  go_wp2_with (first | (with_reducible refine wpList_store_sum rfl (.tmp 10) (.tmp 27) rfl (w3.heap.size + 1) rfl t zeros rfl Hfl'.out zeros_length _ hk56 ?_))
  intro w7 hk7 hot7 hz7 hb7
  have hk67 : KBlk .i64 w7 w3.heap.size 46 s := (hot7 _ (by omega)).trans hk6
  have hb17 := hb16.trans (hb7.mono (by have := hb13.size; omega))
  have hN : w.heap.size ≤ w3.heap.size := hb13.size
  clear hk5 hk6 hk45 hk56 hot6 hot7 hb6 hb7 hb15 hb16 hz4 hz5 hz6 hz7 hb13
  go_wp2
  go_loopw [29] (fun x wr => ∃ i : Nat, i ≤ n ∧ x = .int .i64 i ∧ KBlk .i64 wr w3.heap.size 46 (Cyc.addT s t i) ∧ KBlk .i64 wr (w3.heap.size + 1) 46 t ∧ Below w.heap.size w wr) (fun x _ => n - (intOf x).toNat)
  case atStart => exact ⟨0, by omega, rfl, hk67, hk7, hb17⟩
  case round =>
    obtain ⟨i, hi, rfl, hks, hkt, hbr⟩ := hrel
    clear hk67 hk7 hb17
    by_cases hin : i < n
    · have hc1 := hks.cell (i := i) (by rw [Cyc.addT_length, Hfl.out]; omega)
      have hc2 := hkt.cell (i := i) (by rw [Hfl'.out]; omega)
      have hf1 := hks.frozen i
      have Hset := Lib.hid (hks.set i (wrap64 ((Cyc.addT s t i)[i]?.getD 0 + t[i]?.getD 0)))
      go_wp2
      go_region
      go_wp2
      go_roundw
      case rel => exact ⟨i + 1, by omega, by go_num, Hset.out, hkt.far (p := ⟨w3.heap.size, i, none⟩) (by simp) _, (hbr.setCell (p := ⟨w3.heap.size, i, none⟩) hN _).drew⟩
      case measure => simp [intOf]; omega
    · obtain rfl : i = n := by omega
      go_wp2_with (with_reducible refine wpList_load_sum rfl (.tmp 9) rfl w3.heap.size rfl _ _ hks (by rw [Cyc.addT_length, Hfl.out]) ?_)
      refine (normal_any _ _ _ (by rw [Cyc.addT_length, Hfl.out]) h1 h2).mono ?_
      rintro e w9 ⟨A', c', rfl, ho, hb9⟩
      rw [Int.toNat_natCast, Hnm.out] at ho
      rw [Int.toNat_natCast]
      go_wp2
      go_ret2
      exact ⟨A', c', rfl, ho.mono hbr.size, hbr.trans (hb9.mono hbr.size)⟩

theorem Add_err (A B : Option Addr) (m c m' c' : Nat) (a b : List Int) (z : Int) (w : World) (ha : SlR .i64 w A m c a) (hb : SlR .i64 w B m' c' b) (hc : code2 a b ≠ 0) (h1 : 1 ≤ z) (h2 : z ≤ 64) :
    Calls Try.prog 15 #[.slice A m c, .slice B m' c', .int .i64 z] w fun e w' => e = .returned (.tuple #[.slice none 0 0, .int .i64 (code2 a b)]) ∧ Below w.heap.size w w' := by
  have hb0 : (code2 a b != 0) = true := by rw [bne_iff_ne]; exact hc
  clear hc
  go_enter Try.func15, Try.ntmps15
  go_wp2_with fail
  refine (permitted_yes _ _ h1 h2).mono ?_
  rintro e w1 ⟨rfl, rfl⟩
  go_wp2_with fail
  refine (check_two A B m c m' c' a b w ha hb).mono ?_
  rintro e w1 ⟨rfl, rfl⟩
  go_wp2
  go_ret2
  exact ⟨rfl, (Below.refl _ _).alloc (Nat.le_refl _) _⟩
theorem Add_no (A B : Option Addr) (m c m' c' : Nat) (z : Int) (w : World) (h : z < 1 ∨ 64 < z) :
    Calls Try.prog 15 #[.slice A m c, .slice B m' c', .int .i64 z] w fun e w' => e = .returned (.tuple #[.slice none 0 0, .int .i64 1]) ∧ Below w.heap.size w w' := by
  go_enter Try.func15, Try.ntmps15
  go_wp2_with fail
  refine (permitted_no z _ h).mono ?_
  rintro e w1 ⟨rfl, rfl⟩
  go_wp2
  go_ret2
  exact ⟨rfl, Below.refl _ _⟩
end Go.Proofs.Ytdgigbehdmhflaa
