/- Contracts of nat: combine. -/
import Derived.Test.YtnedhbidmfoegaaNatE
import Derived.Test.YtnedhbidmfoegaaLeh
namespace Go.Proofs.Ytnedhbidmfoegaa
open Go.RowKit
set_option linter.unusedVariables false
set_option maxHeartbeats 2000000 in
theorem combine_any (A B : Option Addr) (n c m d : Nat) (x y : List Int) (f g : Int) (w : World) (ha : SlR .u32 w A n c x) (hb : SlR .u32 w B m d y) (da : Nt.Dig x) (db : Nt.Dig y) (hn : n ≤ 1000000000) (hm : m ≤ n)
    (f0 : -2147483647 ≤ f) (f1 : f ≤ 2147483647) (g0 : -2147483647 ≤ g) (g1 : g ≤ 2147483647) (hfg : (0 ≤ f ∧ g ≤ 0) ∨ (f ≤ 0 ∧ 0 ≤ g)) (h0 : 0 ≤ f * Nt.val x + g * Nt.val y) (h1 : f * Nt.val x + g * Nt.val y ≤ Nt.val x) :
    Calls Try.prog 138 #[.slice A n c, .slice B m d, .int .i64 f, .int .i64 g] w fun e w' => ∃ A' n' c', e = .returned (.slice A' n' c') ∧ NatF w w' A' n' c' (f * Nt.val x + g * Nt.val y).toNat ∧ Below w.heap.size w w' := by
  have hlx := Lib.hid ha.1
  have hly := Lib.hid hb.1
  have Hda := Lib.hid da
  have Hdb := Lib.hid db
  have Hfg := Lib.hid hfg
  have H0 := Lib.hid h0
  have H1 := Lib.hid h1
  clear hfg h0 h1 da db
  go_enter Try.func138, Try.ntmps138
  go_wp2_with (at_make; refine wpList_makeK _ rfl (.tmp 15) (.tmp 15) _ rfl 82 .u32 4 Try.underlying22 u32_info _ _ _ _ n rfl rfl ?L ?C ?b2 ?b3 ?_)
  case L => rfl
  case C => rfl
  case b2 => omega
  case b3 => unfold maxLen; omega
  intro w2 hk2 hb2' hz2
  have hb2 : Below w.heap.size w w2 := hb2'
  obtain ⟨gr, hg⟩ : ∃ g, g = w.heap.size := ⟨_, rfl⟩
  have hgw : w.heap.size ≤ gr := by omega
  rw [← hg] at hk2 ⊢
  clear hz2 hg hb2'
  go_wp2
  go_loopw [10, 19] (fun cv iv wr => ∃ (i : Nat) (cy : Int) (S : List Int), i ≤ n ∧ -2147483648 ≤ cy ∧ cy ≤ 2147483648 ∧ cv = .int .i64 cy ∧ iv = .int .i64 i ∧ KBlk .u32 wr gr 82 S ∧ Hid (S.length = n) ∧ Hid (Nt.Dig S) ∧ Hid (Nt.valTo S i + cy * Nt.pw i = f * Nt.valTo x i + g * Nt.valTo y i) ∧ Below w.heap.size w wr) (fun _ iv _ => n - (intOf iv).toNat)
  case atStart => exact ⟨0, 0, _, by omega, by omega, by omega, rfl, rfl, hk2, by simp [Hid], Nt.Dig.repl _, by simp [Hid, Nt.valTo_zero], hb2⟩
  case round =>
    obtain ⟨i, cy, S, hi, c0, c1, rfl, rfl, hk, hS, dS, hv, hbr⟩ := hrel
    clear hk2 hb2
    by_cases hiX : i < n
    · obtain ⟨b1, o1, rfl, _, hc1⟩ := (ha.below hbr).pos hiX
      have q1 := Hda.out.at i
      have hc3 := hk.cell (i := i) (by have := hS.out; omega)
      have hf3 := hk.frozen i
      obtain ⟨xi, hxi⟩ : ∃ xi, xi = x[i]?.getD 0 := ⟨_, rfl⟩
      rw [← hxi] at hc1 q1
      have Hxi := Lib.hid hxi
      have r1 := Nt.mul_range f0 f1 q1.1 q1.2
      clear hxi
      by_cases hiY : i < m
      · obtain ⟨b2, o2, rfl, _, hc2⟩ := (hb.below hbr).pos hiY
        have q2 := Hdb.out.at i
        obtain ⟨yi, hyi⟩ : ∃ yi, yi = y[i]?.getD 0 := ⟨_, rfl⟩
        rw [← hyi] at hc2 q2
        have Hyi := Lib.hid hyi
        have r2 := Nt.mul_range g0 g1 q2.1 q2.2
        have hiY' : (i : Int) < m := by omega
        have Hst := Lib.hid (Nt.comb_step (t := f * xi + cy + g * yi) (by have := hS.out; omega) hv.out (by rw [Hxi.out, Hyi.out]))
        have t0 : -9223372034707292161 ≤ f * xi + cy + g * yi := by rcases Hfg.out with ⟨k1, k2⟩ | ⟨k1, k2⟩ <;> (have := r1.2.2.1; have := r1.2.2.2; have := r2.2.2.1; have := r2.2.2.2; omega)
        have t1 : f * xi + cy + g * yi ≤ 9223372034707292161 := by rcases Hfg.out with ⟨k1, k2⟩ | ⟨k1, k2⟩ <;> (have := r1.2.2.1; have := r1.2.2.2; have := r2.2.2.1; have := r2.2.2.2; omega)
        have s0 := r1.1
        have s1 := r1.2.1
        have s2 := r2.1
        have s3 := r2.2.1
        clear hyi r1 r2 hv
        go_wp2
        go_roundw
        case rel => exact ⟨i + 1, _, _, by omega, by omega, by omega, rfl, by go_num, hk.set i _, by have := hS.out; show _ = _; simpa using this, dS.out.set i (by omega), Hst.out, hbr.setCell (p := ⟨gr, i, none⟩) hgw _⟩
        case measure => simp [intOf]; omega
      · have hiY' : ¬ (i : Int) < m := by omega
        have e0 : y[i]?.getD 0 = 0 := by rw [List.getElem?_eq_none (by have := hly.out; omega)]; rfl
        have Hst := Lib.hid (Nt.comb_step (t := f * xi + cy) (by have := hS.out; omega) hv.out (by rw [Hxi.out, e0]; simp))
        have s0 := r1.1
        have s1 := r1.2.1
        clear r1 hv e0
        go_wp2
        go_roundw
        case rel => exact ⟨i + 1, _, _, by omega, by omega, by omega, rfl, by go_num, hk.set i _, by have := hS.out; show _ = _; simpa using this, dS.out.set i (by omega), Hst.out, hbr.setCell (p := ⟨gr, i, none⟩) hgw _⟩
        case measure => simp [intOf]; omega
    · obtain rfl : i = n := by omega
      have hval : Nt.val S = f * Nt.val x + g * Nt.val y := by
        have h1 := hv.out
        rw [Nt.valTo_all S (by have := hS.out; omega), Nt.valTo_all x (by have := hlx.out; omega), Nt.valTo_all y (by have := hly.out; omega)] at h1
        have h5 := Nt.val_lt dS.out
        have h6 := Nt.val_nonneg dS.out
        have h7 := Nt.val_lt Hda.out
        have h8 := H0.out
        have h9 := H1.out
        rw [hS.out] at h5
        rw [hlx.out] at h7
        have hp := Nt.pw_pos i
        have : cy = 0 := by
          rcases Int.lt_trichotomy cy 0 with h | h | h
          · have : cy * Nt.pw i ≤ (-1) * Nt.pw i := Int.mul_le_mul_of_nonneg_right (by omega) (by omega)
            omega
          · exact h
          · have : 1 * Nt.pw i ≤ cy * Nt.pw i := Int.mul_le_mul_of_nonneg_right (by omega) (by omega)
            omega
        rw [this] at h1
        omega
      have hsl := hk.slr_all (n := i) (c := i) hS.out (by omega) (by unfold maxLen; omega)
      have hfr := strip_fresh (w0 := w) hk hS.out (by unfold maxLen; omega) dS.out hgw
      rw [hval] at hfr
      have HF := Lib.hid hfr
      clear hval hfr
      go_wp2_with fail
      refine (cut_any _ _ _ _ _ hsl).mono ?_
      rintro e w1 ⟨rfl, rfl⟩
      go_wp2
      go_ret
      exact ⟨_, _, _, rfl, HF.out, hbr⟩
end Go.Proofs.Ytnedhbidmfoegaa
