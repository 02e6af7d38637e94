/- Contracts: Mul. -/
import Derived.Test.YtdgigbehdmhflaaCycX
namespace Go.Proofs.Ytdgigbehdmhflaa
open Go.RowKit
set_option linter.unusedVariables false

namespace Cyc
def mapT (f : Int → Int) (t : List Int) : Nat → List Int
  | 0 => zeros
  | i + 1 => (mapT f t i).set i (f (t[i]?.getD 0))
theorem mapT_length (f : Int → Int) (t : List Int) (i : Nat) : (mapT f t i).length = 64 := by
  induction i with
  | zero => exact zeros_length
  | succ i ih => simp [mapT, ih]
/-- Both parts of the product put together, for the first i elements. -/
def finT (R L : List Int) : Nat → List Int
  | 0 => R
  | i + 1 => (finT R L i).set i (wrap64 (R[i]?.getD 0 * 8192 + L[i]?.getD 0))
theorem finT_length (R L : List Int) (i : Nat) : (finT R L i).length = R.length := by
  induction i with
  | zero => rfl
  | succ i ih => simp [finT, ih]
theorem finT_get (R L : List Int) : ∀ i j, i ≤ j → (finT R L i)[j]?.getD 0 = R[j]?.getD 0
  | 0, j, _ => rfl
  | i + 1, j, h => by
    rw [finT, List.getElem?_set_ne (by omega)]
    exact finT_get R L i j (by omega)
def hiPart (s t : List Int) (n : Nat) : List Int := normalW (prodW s (mapT (fun x => x / 8192) t n) n n) n
def loPart (s t : List Int) (n : Nat) : List Int := normalW (prodW s (mapT (fun x => bits .and .i64 x 8191) t n) n n) n
/-- No element of the two parts or of their sum is out of its range. -/
def FitsAt (R L : List Int) (i : Nat) : Prop := -580542139465728 ≤ R[i]?.getD 0 ∧ R[i]?.getD 0 ≤ 580542139465728 ∧ -4611686018427387904 ≤ wrap64 (R[i]?.getD 0 * 8192 + L[i]?.getD 0) ∧ wrap64 (R[i]?.getD 0 * 8192 + L[i]?.getD 0) ≤ 4611686018427387904
end Cyc

set_option maxHeartbeats 4000000 in
set_option maxRecDepth 100000 in
theorem Mul_walk (A B : Option Addr) (m c m' c' : Nat) (a b : List Int) (n : Nat) (w : World) (ha : SlR .i64 w A m c a) (hb : SlR .i64 w B m' c' b) (Hc0 : Hid (code2 a b = 0)) (hm : m ≤ 128) (hm' : m' ≤ 128) (h1 : 1 ≤ (n : Int)) (h2 : (n : Int) ≤ 64)
    (HB : Hid (∀ i, i < Cyc.deg n → Cyc.FitsAt (Cyc.hiPart (foldW a 1 n m) (foldW b 1 n m') n) (Cyc.loPart (foldW a 1 n m) (foldW b 1 n m') n) i)) :
    Calls Try.prog 14 #[.slice A m c, .slice B m' c', .int .i64 n] w fun e w' => ∃ A' c', e = .returned (.tuple #[.slice A' (Cyc.deg n) c', .int .i64 0]) ∧ OwnK .i64 w' w.heap.size 3 A' (Cyc.deg n) c' (Cyc.finT (Cyc.hiPart (foldW a 1 n m) (foldW b 1 n m') n) (Cyc.loPart (foldW a 1 n m) (foldW b 1 n m') n) (Cyc.deg n)) ∧ Below w.heap.size w w' := by
  go_enter Try.func14, Try.ntmps14
  go_wp2_with fail
  refine (permitted_yes _ _ h1 h2).mono ?_
  rintro e w1 ⟨rfl, rfl⟩
  go_wp2_with fail
  refine (check_two A B m c m' c' a b w ha hb).mono ?_
  rintro e w1 ⟨rfl, rfl⟩
  rw [Hc0.out]
  generalize hw1 : w.alloc (.cells #[.slice A m c, .slice B m' c'] 23) = w1
  have hb1 : Below w.heap.size w w1 := by rw [← hw1]; exact (Below.refl _ _).alloc (Nat.le_refl _) _
  clear hw1
  go_wp2_with fail
  refine (fold_any A m c a 1 n w1 (ha.below hb1) (by omega) (by omega) (by omega) (by omega)).mono ?_
  rintro e w2 ⟨rfl, hb2⟩
  have hb12 := hb1.trans (hb2.mono hb1.size)
  go_wp2_with fail
  refine (fold_any B m' c' b 1 n w2 (hb.below hb12) (by omega) (by omega) (by omega) (by omega)).mono ?_
  rintro e w3 ⟨rfl, hb3⟩
  have hb13 := hb12.trans (hb3.mono hb12.size)
  clear hb1 hb2 hb3 hb12
  have hfl := foldW_length a 1 n m
  have hfl' := foldW_length b 1 n m'
  generalize hgs : foldW a 1 n m = s at *
  generalize hgt : foldW b 1 n m' = t at *
  have HGS := Lib.hid hgs; clear hgs
  have HGT := Lib.hid hgt; clear hgt
  have Hfl := Lib.hid hfl; clear hfl
  have Hfl' := Lib.hid hfl'; clear hfl'
  go_wp2_with (with_reducible refine wpList_alloc_sum rfl rfl ?_)
  intro w4 hk4 hb4 hz4
  go_wp2_with (with_reducible refine wpList_alloc_sum rfl rfl ?_)
  intro w5 hk5 hb5 hz5
  have hk45 := hk4.below hb5 (by omega)
  have hb15 := hb13.trans ((hb4.mono hb13.size).trans (hb5.mono (by have := hb13.size; omega)))
  clear hb4 hb5 hk4
  go_wp2_with (first | (with_reducible refine wpList_store_sum rfl (.tmp 9) (.tmp 29) rfl w3.heap.size rfl s zeros rfl Hfl.out zeros_length _ hk45 ?_))
  intro w6 hk6 hot6 hz6 hb6
  have hk56 : KBlk .i64 w6 (w3.heap.size + 1) 46 zeros := (hot6 _ (by omega)).trans hk5
  have hb16 := hb15.trans (hb6.mono hb13.size)
  go_wp2_with (first | (with_reducible refine wpList_store_sum rfl (.tmp 10) (.tmp 32) rfl (w3.heap.size + 1) rfl t zeros rfl Hfl'.out zeros_length _ hk56 ?_))
  intro w7 hk7 hot7 hz7 hb7
  have hk67 : KBlk .i64 w7 w3.heap.size 46 s := (hot7 _ (by omega)).trans hk6
  have hb17 := hb16.trans (hb7.mono (by have := hb13.size; omega))
  have hN : w.heap.size ≤ w3.heap.size := hb13.size
  clear hk5 hk6 hk45 hk56 hot6 hot7 hb6 hb7 hb15 hb16 hz4 hz5 hz6 hz7 hb13
  go_wp2_with (with_reducible refine wpList_alloc_sum rfl rfl ?_)
  intro w8 hk8 hb8 hz8
  go_wp2_with (with_reducible refine wpList_alloc_sum rfl rfl ?_)
  intro w9 hk9 hb9 hz9
  have hk89 := hk8.below hb9 (by omega)
  have hks9 := (hk67.same hb8).below hb9 (by have := hk67.lt; omega)
  have hkt9 := (hk7.same hb8).below hb9 (by have := hk7.lt; omega)
  have hb19 := hb17.trans ((hb8.mono hb17.size).trans (hb9.mono (by have := hb17.size; omega)))
  have hlt7 := hk7.lt
  have hN7 := hb17.size
  obtain ⟨gs, hgs⟩ : ∃ g, g = w3.heap.size := ⟨_, rfl⟩
  obtain ⟨gt, hgt⟩ : ∃ g, g = w3.heap.size + 1 := ⟨_, rfl⟩
  obtain ⟨gh, hgh⟩ : ∃ g, g = w7.heap.size := ⟨_, rfl⟩
  obtain ⟨gl, hgl⟩ : ∃ g, g = w7.heap.size + 1 := ⟨_, rfl⟩
  go_wp2
  have d1 : gs ≠ gh := by omega
  have d2 : gs ≠ gl := by omega
  have d3 : gt ≠ gh := by omega
  have d4 : gt ≠ gl := by omega
  have d5 : gh ≠ gl := by omega
  have e1 : w.heap.size ≤ gh := by omega
  have e2 : w.heap.size ≤ gl := by omega
  rw [← hgt] at hkt9 ⊢
  rw [← hgs] at hks9 ⊢
  rw [← hgl] at hk9 ⊢
  rw [← hgh] at hk89 ⊢
  clear hgs hgt hgh hgl hk8 hb8 hz8 hb9 hz9 hk7 hk67 hb17 hN hN7 hlt7
  go_loopw [34] (fun x wr => ∃ i : Nat, i ≤ n ∧ x = .int .i64 i ∧ KBlk .i64 wr gs 46 s ∧ KBlk .i64 wr gt 46 t ∧ KBlk .i64 wr gh 46 (Cyc.mapT (fun x => x / 8192) t i) ∧ KBlk .i64 wr gl 46 (Cyc.mapT (fun x => bits .and .i64 x 8191) t i) ∧ Below w.heap.size w wr) (fun x _ => n - (intOf x).toNat)
  case atStart => exact ⟨0, by omega, rfl, hks9, hkt9, hk89, hk9, hb19⟩
  case round =>
    obtain ⟨i, hi, rfl, hks, hkt, hkh, hkl, hbr⟩ := hrel
    clear hks9 hkt9 hk89 hk9 hb19
    by_cases hin : i < n
    · have hks' := (hks.far (p := ⟨gh, i, none⟩) d1 (.int .i64 (t[i]?.getD 0 / 8192))).far (p := ⟨gl, i, none⟩) d2 (.int .i64 (bits .and .i64 (t[i]?.getD 0) 8191))
      have hkt1 := (hkt.far (p := ⟨gh, i, none⟩) d3 (.int .i64 (t[i]?.getD 0 / 8192)))
      have hkt' := hkt1.far (p := ⟨gl, i, none⟩) d4 (.int .i64 (bits .and .i64 (t[i]?.getD 0) 8191))
      have hkh' := (hkh.set i (t[i]?.getD 0 / 8192)).far (p := ⟨gl, i, none⟩) d5 (.int .i64 (bits .and .i64 (t[i]?.getD 0) 8191))
      have hkl1 := hkl.far (p := ⟨gh, i, none⟩) (Ne.symm d5) (.int .i64 (t[i]?.getD 0 / 8192))
      have hkl' := hkl1.set i (bits .and .i64 (t[i]?.getD 0) 8191)
      have hbr' := (hbr.setCell (p := ⟨gh, i, none⟩) e1 (.int .i64 (t[i]?.getD 0 / 8192))).setCell (p := ⟨gl, i, none⟩) e2 (.int .i64 (bits .and .i64 (t[i]?.getD 0) 8191))
      have hc1 := hkt.cell (i := i) (by rw [Hfl'.out]; omega)
      have hc2 := hkh.cell (i := i) (by rw [Cyc.mapT_length]; omega)
      have hc3 := hkt1.cell (i := i) (by rw [Hfl'.out]; omega)
      have hc4 := hkl1.cell (i := i) (by rw [Cyc.mapT_length]; omega)
      have hf2 := hkh.frozen i
      have hf4 := hkl1.frozen i
      have HH := Lib.hid (And.intro hks' (And.intro hkt' (And.intro hkh' (And.intro hkl' hbr'))))
      clear hks' hkt1 hkt' hkh' hkl1 hkl' hbr'
      go_wp2
      go_roundw
      case rel => exact ⟨i + 1, by omega, by go_num, HH.out.1, HH.out.2.1, HH.out.2.2.1, HH.out.2.2.2.1, HH.out.2.2.2.2⟩
      case measure => simp [intOf]; omega
    · obtain rfl : i = n := by omega
      go_wp2_with (first | (with_reducible refine wpList_load_sum rfl (.tmp 9) rfl gs rfl _ _ hks Hfl.out ?_) | (with_reducible refine wpList_load_sum rfl (.tmp 11) rfl gh rfl _ _ hkh (Cyc.mapT_length _ _ _) ?_))
      have hsl := Cyc.mapT_length (fun x => x / 8192) t i
      have hsl' := Cyc.mapT_length (fun x => bits .and .i64 x 8191) t i
      refine (product_any _ _ _ _ Hfl.out hsl (by omega) (by omega)).mono ?_
      rintro e w10 ⟨rfl, hb10⟩
      go_wp2_with fail
      refine (normal_any _ _ _ (prodW_length _ _ _ _) h1 h2).mono ?_
      rintro e w11 ⟨A1, c1, rfl, ho1, hb11⟩
      rw [Int.toNat_natCast] at ho1 ⊢
      have hbb := hb10.trans (hb11.mono hb10.size)
      have hks11 := hks.same hbb
      have hkl11 := hkl.same hbb
      have hbr11 := hbr.trans (hbb.mono hbr.size)
      have ho1' := ho1.mono (Nat.le_trans hbr.size hb10.size)
      clear hb10 hb11 hbb hks hkl hkh hkt hbr hsl ho1
      go_wp2_with (first | (with_reducible refine wpList_load_sum rfl (.tmp 9) rfl gs rfl _ _ hks11 Hfl.out ?_) | (with_reducible refine wpList_load_sum rfl (.tmp 12) rfl gl rfl _ _ hkl11 (Cyc.mapT_length _ _ _) ?_))
      refine (product_any _ _ _ _ Hfl.out hsl' (by omega) (by omega)).mono ?_
      rintro e w12 ⟨rfl, hb12⟩
      go_wp2_with fail
      refine (normal_any _ _ _ (prodW_length _ _ _ _) h1 h2).mono ?_
      rintro e w13 ⟨A2, c2, rfl, ho2, hb13⟩
      rw [Int.toNat_natCast] at ho2 ⊢
      have hbb := hb12.trans (hb13.mono hb12.size)
      have ho1'' := ho1'.below hbb
      have hbr13 := hbr11.trans (hbb.mono hbr11.size)
      have hs2 := ho2.slr
      have hdp := Cyc.deg_pos (n := i) (by omega) (by omega)
      have hdl := Cyc.deg_le i (by omega) (by omega)
      obtain ⟨g1, rfl, hg1, hg1'⟩ := ho1'.pos (by omega)
      obtain ⟨g2, rfl, hg2, hg2'⟩ := ho2.pos (by omega)
      have hg12 : g1 ≠ g2 := by have := hb12.size; omega
      have HR : Hid (Cyc.normalW (prodW s (Cyc.mapT (fun x => x / 8192) t i) i i) i = Cyc.hiPart s t i) := rfl
      have HL : Hid (Cyc.normalW (prodW s (Cyc.mapT (fun x => bits .and .i64 x 8191) t i) i i) i = Cyc.loPart s t i) := rfl
      rw [HR.out] at ho1''
      rw [HL.out] at hs2
      clear HR HL ho1' ho2 hb12 hb13 hbb hks11 hkl11 hbr11 hsl' hg1' hg2' hg2
      generalize hgR : Cyc.hiPart s t i = R at *
      generalize hgL : Cyc.loPart s t i = L at *
      have HGR := Lib.hid hgR; clear hgR
      have HGL := Lib.hid hgL; clear hgL
      obtain ⟨D, hD⟩ : ∃ D, D = Cyc.deg i := ⟨_, rfl⟩
      rw [← hD] at ho1'' hs2 hdp hdl HB ⊢
      have HD := Lib.hid hD
      clear hD
      go_wp2
      go_loopw [64] (fun x wr => ∃ k : Nat, k ≤ D ∧ x = .int .i64 k ∧ OwnK .i64 wr w.heap.size 3 (some ⟨g1, 0, none⟩) D c1 (Cyc.finT R L k) ∧ SlR .i64 wr (some ⟨g2, 0, none⟩) D c2 L ∧ Below w.heap.size w wr) (fun x _ => D - (intOf x).toNat)
      case atStart => exact ⟨0, by omega, rfl, ho1'', hs2, hbr13⟩
      case round =>
        obtain ⟨k, hk, rfl, hoR, hsL, hbk⟩ := hrel
        clear ho1'' hs2 hbr13
        by_cases hkD : k < D
        · obtain ⟨b1, b2, b3, b4⟩ := HB.out k hkD
          have hcR := hoR.cell hkD
          rw [Cyc.finT_get R L k k (Nat.le_refl _)] at hcR
          have hfR := hoR.frozen k
          obtain ⟨g2', o2', he, _, hcL⟩ := hsL.pos hkD
          obtain ⟨rfl, rfl⟩ : g2 = g2' ∧ 0 = o2' := by simpa using he
          rw [Nat.zero_add] at hcL
          have Hset := Lib.hid (And.intro (hoR.set k (wrap64 (R[k]?.getD 0 * 8192 + L[k]?.getD 0))) (And.intro (hsL.setCell (p := ⟨g1, k, none⟩) (.int .i64 (wrap64 (R[k]?.getD 0 * 8192 + L[k]?.getD 0))) (by rintro a ⟨⟩; exact Ne.symm hg12)) (hbk.setCell (p := ⟨g1, k, none⟩) hg1 (.int .i64 (wrap64 (R[k]?.getD 0 * 8192 + L[k]?.getD 0))))))
          go_wp2
          go_region
          go_wp2
          go_roundw
          case rel => exact ⟨k + 1, by omega, by go_num, Hset.out.1, Hset.out.2.1, Hset.out.2.2.drew⟩
          case measure => simp [intOf]; omega
        · obtain rfl : k = D := by omega
          go_wp2
          go_ret2
          obtain rfl := HD.out
          obtain rfl := HGR.out
          obtain rfl := HGL.out
          obtain rfl := HGS.out
          obtain rfl := HGT.out
          exact ⟨_, _, rfl, hoR, hbk⟩
end Go.Proofs.Ytdgigbehdmhflaa
