/- CyclotomicFactors: the walk. -/
import Derived.Test.YtdgigbehdmhflaaCycE
import Derived.BigRegion
namespace Go.Proofs.Ytdgigbehdmhflaa
open Go.RowKit
set_option linter.unusedVariables false

set_option maxHeartbeats 4000000 in
set_option maxRecDepth 100000 in
theorem factors_walk (v : Int) (w : World) (hv1 : -9223372036854775808 ≤ v) (hv2 : v ≤ 9223372036854775807) :
    Calls Try.prog 3 #[.int .i64 v] w fun e w' => e = .returned (.bool true) ∧ Below w.heap.size w w' := by
  have hn0 := Int.emod_nonneg v (show (64 : Int) ≠ 0 by omega)
  have hn1 := Int.emod_lt_of_pos v (show (0 : Int) < 64 by omega)
  obtain ⟨n', hn'⟩ := Int.eq_ofNat_of_zero_le hn0
  obtain ⟨n, hn⟩ : ∃ n, n = n' + 1 := ⟨_, rfl⟩
  have h1 : 1 ≤ n := by omega
  have h2 : n ≤ 64 := by omega
  have Hn : Hid (1 + v % 64 = (n : Int)) := by show _ = _; omega
  have hlo : 0 ≤ v % 64 := hn0
  have hhi : v % 64 < 64 := hn1
  clear hn' hn hn0 hn1
  have hfac : Hid (Cyc.facTo n n = Cyc.start n ∧ Cyc.degTo n n = n) := Cyc.fac_all n h1 h2
  go_enter Try.func3, Try.ntmps3
  go_wp2_with fail
  refine (within_any v 64 _ hv1 hv2 (by omega) (by omega)).mono ?_
  rintro e w1 ⟨rfl, rfl⟩
  go_wp2
  rw [Hn.out]
  clear hlo hhi
  have hk0 : KBlk .i64 (w.alloc (.cells #[.int .i64 1] 3)) w.heap.size 3 [1] := KBlk.new w 3 [1]
  have hs0 := hk0.slr_all (n := 1) (c := 1) rfl (by omega) (by unfold maxLen; omega)
  have hb0 : Below w.heap.size w (w.alloc (.cells #[.int .i64 1] 3)) := (Below.refl _ _).alloc (Nat.le_refl _) _
  go_loopw [3, 4, 5] (fun x y z wr => ∃ (d : Nat) (A : Option Addr) (m c : Nat), d ≤ n ∧ x = .slice A m c ∧ y = .int .i64 (Cyc.degTo n d : Nat) ∧ z = .int .i64 ((d : Int) + 1) ∧ SlR .i64 wr A m c (Cyc.facTo n d) ∧ Below w.heap.size w wr) (fun _ _ z _ => n + 1 - (intOf z).toNat)
  case atStart => exact ⟨0, _, _, _, by omega, rfl, rfl, rfl, hs0, hb0⟩
  case round =>
    obtain ⟨d, A, m, c, hd, rfl, rfl, rfl, hsl, hb⟩ := hrel
    clear hk0 hs0 hb0
    have hml := hsl.1
    rw [Cyc.facTo_length n d h2 hd] at hml
    have hdle := Cyc.degTo_le n d h1 h2 hd
    have hm65 : m ≤ 65 := by omega
    have Hml := Lib.hid hml; clear hml
    by_cases hdn : d < n
    · by_cases h0 : n % (d + 1) = 0
      · have hb0 : ((n : Int) % ((d : Int) + 1) != 0) = false := by rw [emod_succ, h0]; rfl
        have H0 := Lib.hid h0; clear h0
        have hmon : (Cyc.T (d + 1))[Cyc.deg (d + 1)]?.getD 0 = 1 := Cyc.T_monic (d + 1) (by omega) (by omega)
        have htd := Cyc.tot_deg (d + 1) (by omega) (by omega)
        have htl := Cyc.T_length (d + 1) (by omega) (by omega)
        have hdl := Cyc.deg_le (d + 1) (by omega) (by omega)
        have hde : Hid (Cyc.degTo n (d + 1) = Cyc.degTo n d + Cyc.deg (d + 1)) := by show _ = _; rw [Cyc.degTo, if_pos H0.out]
        have hfe : Hid (Cyc.facTo n (d + 1) = Cyc.mulW (Cyc.facTo n d) (Cyc.T (d + 1))) := by show _ = _; rw [Cyc.facTo, if_pos H0.out]
        have Hmon := Lib.hid hmon
        have Htd := Lib.hid htd
        have Htl := Lib.hid htl
        clear hmon htd htl
        go_wp2_with fail
        refine (Phi_yes _ _ (by omega) (by omega)).mono ?_
        rintro e w1 ⟨A1, c1, rfl, ho1, hb1⟩
        rw [show ((d : Int) + 1).toNat = d + 1 by omega, Htl.out] at ho1 ⊢
        have hs1 := ho1.slr
        have hsl1 := hsl.below hb1
        have hbw1 : Below w.heap.size w w1 := hb.trans (hb1.mono hb.size)
        clear ho1 hb1 hsl hb
        obtain ⟨b1, o1, rfl, hb1l, hcl⟩ := hs1.pos (i := Cyc.deg (d + 1)) (by omega)
        rw [Hmon.out] at hcl
        go_wp2_with fail
        refine (Totient_yes _ _ (by omega) (by omega)).mono ?_
        rintro e w2 ⟨rfl, m2, rfl⟩
        rw [show ((d : Int) + 1).toNat = d + 1 by omega, Htd.out]
        obtain ⟨t, ht⟩ : ∃ t, t = Cyc.deg (d + 1) := ⟨_, rfl⟩
        rw [← ht] at hcl hs1 hdl hde ⊢
        have Ht := Lib.hid ht
        clear ht Hmon Htd
        go_wp2_with (at_make; refine wpList_makeK _ rfl (.tmp 61) (.tmp 61) _ rfl 3 .i64 8 Try.underlying23 int_info _ _ _ _ (m + t) rfl rfl ?L ?C ?b2 ?b3 ?_)
        case L => omega
        case C => omega
        case b2 => omega
        case b3 => unfold maxLen; omega
        intro w3 hk3 hb3 hz3
        go_wp2
        clear hcl hb1l
        have hb3' : Below w1.heap.size w1 w3 := ⟨hb3.os, hb3.tape, hb3.output, hb3.size, hb3.block⟩
        have hmul : Hid (Cyc.mulGo (Cyc.facTo n d) (Cyc.T (d + 1)) (m + t) m = Cyc.mulW (Cyc.facTo n d) (Cyc.T (d + 1))) := by
          show _ = _
          unfold Cyc.mulW
          rw [Htl.out, Cyc.facTo_length n d h2 (by omega), Hml.out, ← Ht.out, Nat.add_sub_cancel]
        clear hb3
        go_loopw [11] (fun x wi => ∃ i : Nat, i ≤ m ∧ x = .int .i64 i ∧ KBlk .i64 wi w1.heap.size 3 (Cyc.mulGo (Cyc.facTo n d) (Cyc.T (d + 1)) (m + t) i) ∧ Below w1.heap.size w1 wi) (fun x _ => m - (intOf x).toNat)
        case atStart => exact ⟨0, by omega, rfl, hk3, hb3'⟩
        case round =>
          obtain ⟨i, hi, rfl, hk, hbi⟩ := hrel
          clear hk3 hb3'
          by_cases him : i < m
          · obtain ⟨b2, o2, rfl, hb2l, hcA⟩ := (hsl1.below hbi).pos (i := i) him
            go_wp2
            clear hcA
            obtain ⟨wo, rfl⟩ : ∃ wo : World, wo = wr := ⟨_, rfl⟩
            go_loopw [12] (fun x wi => ∃ k : Nat, k ≤ t + 1 ∧ x = .int .i64 k ∧ KBlk .i64 wi w1.heap.size 3 (Cyc.addRow (Cyc.mulGo (Cyc.facTo n d) (Cyc.T (d + 1)) (m + t) i) i ((Cyc.facTo n d)[i]?.getD 0) (Cyc.T (d + 1)) k) ∧ Below w1.heap.size w1 wi) (fun x _ => t + 1 - (intOf x).toNat)
            case atStart => exact ⟨0, by omega, rfl, hk, hbi⟩
            case round =>
              obtain ⟨k, hkt, rfl, hk, hbi⟩ := hrel
              by_cases hkt' : k < t + 1
              · obtain ⟨b2', o2', he, hb2l, hcA⟩ := (hsl1.below hbi).pos (i := i) him
                obtain ⟨rfl, rfl⟩ : b2 = b2' ∧ o2 = o2' := by simpa using he
                obtain ⟨b1', o1', he', hb1l, hcB⟩ := (hs1.below hbi).pos (i := k) hkt'
                obtain ⟨rfl, rfl⟩ : b1 = b1' ∧ o1 = o1' := by simpa using he'
                have hcC := hk.cell (i := i + k) (by rw [Cyc.addRow_length, Cyc.mulGo_length]; omega)
                have hfC := hk.frozen (i + k)
                have hset := hk.set (i + k) (wrap64 ((Cyc.addRow (Cyc.mulGo (Cyc.facTo n d) (Cyc.T (d + 1)) (m + t) i) i ((Cyc.facTo n d)[i]?.getD 0) (Cyc.T (d + 1)) k)[i + k]?.getD 0 + wrap64 ((Cyc.facTo n d)[i]?.getD 0 * (Cyc.T (d + 1))[k]?.getD 0)))
                have hbset := hbi.setCell (p := ⟨w1.heap.size, i + k, none⟩) (Nat.le_refl _) (.int .i64 (wrap64 ((Cyc.addRow (Cyc.mulGo (Cyc.facTo n d) (Cyc.T (d + 1)) (m + t) i) i ((Cyc.facTo n d)[i]?.getD 0) (Cyc.T (d + 1)) k)[i + k]?.getD 0 + wrap64 ((Cyc.facTo n d)[i]?.getD 0 * (Cyc.T (d + 1))[k]?.getD 0))))
                have Hset := Lib.hid hset
                have Hbset := Lib.hid hbset
                clear hset hbset
                go_wp2
                go_region
                go_wp2
                go_roundw
                case rel => exact ⟨k + 1, by omega, by go_num, Hset.out, Hbset.out.drew⟩
                case measure => simp [intOf]; omega
              · obtain rfl : k = t + 1 := by omega
                go_wp2
                go_roundw
                case rel => exact ⟨i + 1, by omega, by go_num, by rw [Cyc.mulGo, Htl.out, ← Ht.out]; exact hk, hbi⟩
                case measure => simp [intOf]; omega
          · obtain rfl : i = m := by omega
            go_wp2
            go_roundw
            case rel =>
              refine ⟨d + 1, _, i + t, i + t, by omega, rfl, by rw [hde.out]; go_num, by go_num, ?_, hbw1.trans (hbi.mono hbw1.size)⟩
              rw [hfe.out, ← hmul.out]
              exact hk.slr_all (Cyc.mulGo_length _ _ _ _) (Nat.le_refl _) (by unfold maxLen; omega)
            case measure => simp [intOf]; omega
      · have hb0 : ((n : Int) % ((d : Int) + 1) != 0) = true := by rw [emod_succ, bne_iff_ne]; omega
        have H0 := Lib.hid h0; clear h0
        go_wp2
        go_roundw
        case rel => exact ⟨d + 1, A, m, c, by omega, rfl, by rw [Cyc.degTo, if_neg H0.out], by go_num, by rw [Cyc.facTo, if_neg H0.out]; exact hsl, hb⟩
        case measure => simp [intOf]; omega
    · obtain rfl : d = n := by omega
      have hf1 := hfac.out.1
      have hf2 := hfac.out.2
      rw [hf1] at hsl
      obtain rfl : m = d + 1 := by have := hsl.1; rw [Cyc.start_length d h1] at this; omega
      have hdd : (((Cyc.degTo d d : Nat) : Int) == (d : Int)) = true := by rw [hf2]; simp
      clear hf1 hf2 hfac Hml
      go_wp2
      go_loopw [13] (fun x wi => ∃ i : Nat, i ≤ d + 1 ∧ x = .int .i64 i ∧ wi = wr) (fun x _ => d + 1 - (intOf x).toNat)
      case atStart => exact ⟨0, by omega, rfl, rfl⟩
      case round =>
        obtain ⟨i, hi, rfl, rfl⟩ := hrel
        by_cases him : i < d + 1
        · obtain ⟨b2, o2, rfl, hb2l, hcA⟩ := hsl.pos (i := i) him
          have hst := Cyc.start_get d i h1 (by omega)
          by_cases hi0 : i = 0
          · subst hi0
            rw [if_pos rfl] at hst
            rw [hst, Nat.add_zero] at hcA
            have hne : ((0 : Int) == (d : Int)) = false := by rw [beq_eq_false_iff_ne]; omega
            clear hst
            go_wp2
            go_roundw
            case rel => exact ⟨1, by omega, rfl, trivial⟩
            case measure => simp [intOf]
          · rw [if_neg hi0] at hst
            have hne0 : ((i : Int) == 0) = false := by rw [beq_eq_false_iff_ne]; omega
            by_cases hin : i = d
            · subst hin
              rw [if_pos rfl] at hst
              rw [hst] at hcA
              clear hst
              go_wp2
              go_roundw
              case rel => exact ⟨i + 1, by omega, by go_num, trivial⟩
              case measure => simp [intOf]
            · rw [if_neg hin] at hst
              rw [hst] at hcA
              have hne : ((i : Int) == (d : Int)) = false := by rw [beq_eq_false_iff_ne]; omega
              clear hst
              go_wp2
              go_roundw
              case rel => exact ⟨i + 1, by omega, by go_num, trivial⟩
              case measure => simp [intOf]; omega
        · obtain rfl : i = d + 1 := by omega
          go_wp2_with fail
          refine (known_true _).mono ?_
          rintro e w9 ⟨rfl, hb9⟩
          go_wp2
          go_ret
          exact ⟨rfl, hb.trans (hb9.mono hb.size)⟩
end Go.Proofs.Ytdgigbehdmhflaa
