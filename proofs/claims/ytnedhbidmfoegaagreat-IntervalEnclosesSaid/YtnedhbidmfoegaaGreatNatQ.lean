/- Contracts of nat: Gcd. -/
import Derived.Test.YtnedhbidmfoegaaGreatNatP
namespace Go.Proofs.YtnedhbidmfoegaaGreat
open Go.RowKit
set_option linter.unusedVariables false
/-- The number that a slice of digits reads as. -/
def sval (w : World) : Value → Nat
  | .slice (some a) n _ => (Nt.val ((List.range n).map fun i => match w.cell? ⟨a.block, a.off + i, none⟩ with | some (.int _ x) => x | _ => 0)).toNat
  | _ => 0
theorem sval_slr {w : World} {A : Option Addr} {n c : Nat} {l : List Int} (h : SlR .u32 w A n c l) : sval w (.slice A n c) = (Nt.val l).toNat := by
  rcases Nat.eq_zero_or_pos n with h0 | h0
  · subst h0
    have : l = [] := List.eq_nil_of_length_eq_zero h.1
    subst this
    rcases A with _ | a <;> simp [sval, Nt.val]
  · obtain ⟨b, o, rfl, hb, hc⟩ := h.2.2.2 h0
    show (Nt.val ((List.range n).map fun i => match w.cell? ⟨b, o + i, none⟩ with | some (.int _ x) => x | _ => 0)).toNat = _
    congr 2
    apply List.ext_getElem
    · simp [h.1]
    · intro i h1 h2
      simp at h1
      simp only [List.getElem_map, List.getElem_range]
      rw [hc i h1]
      simp [h2]
namespace Nt
theorem two_digits {p : Nat} (h : p < 18446744073709551616) : strip [((p % 4294967296 : Nat) : Int), ((p / 4294967296 : Nat) : Int)] = digits p := by
  have hd : Dig [((p % 4294967296 : Nat) : Int), ((p / 4294967296 : Nat) : Int)] := Dig.cons (by omega) (Dig.cons (by omega) Dig.nil)
  rw [strip_eq hd]
  congr 1
  simp [val]; omega
theorem digits_two {v : Nat} (h : (digits v).length ≤ 2) : v < 18446744073709551616 := by
  have h1 := val_lt (digits_dig v)
  have h2 := pw_mono h
  rw [digits_val] at h1
  simp [pw] at h2
  omega
end Nt
set_option maxHeartbeats 2000000 in
theorem Gcd_any (A B : Option Addr) (n c m d : Nat) (a b : List Int) (w : World) (ha : SlR .u32 w A n c a) (hb : SlR .u32 w B m d b) (da : Nt.Dig a) (db : Nt.Dig b) (hn : n ≤ 1000000000) (hm : m ≤ 1000000000) :
    Calls Tryz.prog 175 #[.slice A n c, .slice B m d] w fun e w' => ∃ A' n' c', e = .returned (.slice A' n' c') ∧ NatF w w' A' n' c' (Nat.gcd (Nt.val a).toNat (Nt.val b).toNat) ∧ Below w.heap.size w w' := by
  have l1 : Hid ((Nt.digits (Nt.val a).toNat).length ≤ n) := by rw [← Nt.strip_eq da, ← ha.1]; exact Nt.strip_length_le a
  have l2 : Hid ((Nt.digits (Nt.val b).toNat).length ≤ m) := by rw [← Nt.strip_eq db, ← hb.1]; exact Nt.strip_length_le b
  go_enter Tryz.func175, Tryz.ntmps175
  go_wp2_with fail
  refine (Trim_any _ _ _ _ _ ha da hn).mono ?_
  rintro e w1 ⟨A1, n1, c1, rfl, f1, b1⟩
  go_wp2_with fail
  refine (Trim_any _ _ _ _ _ (hb.below b1) db hm).mono ?_
  rintro e w2 ⟨A2, n2, c2, rfl, f2, b2⟩
  have g1 : NatF w w2 A1 n1 c1 (Nt.val a).toNat := f1.below b2
  have g2 : NatF w w2 A2 n2 c2 (Nt.val b).toNat := f2.mono b1.size
  have hB : Below w.heap.size w w2 := b1.trans (b2.mono b1.size)
  have hL1 : n1 ≤ 1000000000 := by have := f1.1; have := l1.out; omega
  have hL2 : n2 ≤ 1000000000 := by have := f2.1; have := l2.out; omega
  clear f1 f2 b1 b2 ha hb l1 l2 da db
  obtain ⟨X, hX⟩ : ∃ X, X = (Nt.val a).toNat := ⟨_, rfl⟩
  obtain ⟨Y, hY⟩ : ∃ Y, Y = (Nt.val b).toNat := ⟨_, rfl⟩
  obtain ⟨G, hG⟩ : ∃ G, G = Nat.gcd (Nt.val a).toNat (Nt.val b).toNat := ⟨_, rfl⟩
  have HG := Lib.hid hG
  have HG2 : Hid (Nat.gcd X Y = G) := by show _ = _; rw [hX, hY, hG]
  rw [← hX] at g1
  rw [← hY] at g2
  have G1 := Lib.hid g1
  have G2 := Lib.hid g2
  have HB := Lib.hid hB
  clear hX hY hG g1 g2 hB
  go_wp2_with fail
  refine (Compare_any _ _ _ _ _ _ _ _ _ G1.out.2.1 G2.out.2.1 (Nt.digits_dig X) (Nt.digits_dig Y)).mono ?_
  rintro e w3 ⟨rfl, q, rfl⟩
  rw [Nt.digits_val, Nt.digits_val]
  have K1 : Hid (NatF w (w2.drewN q) A1 n1 c1 X) := G1.out
  have K2 : Hid (NatF w (w2.drewN q) A2 n2 c2 Y) := G2.out
  have KB : Hid (Below w.heap.size w (w2.drewN q)) := ⟨HB.out.os, HB.out.tape, HB.out.output, HB.out.size, HB.out.block⟩
  generalize w2.drewN q = w3 at *
  clear G1 G2 HB
  go_upto_if 18 with (fail)
  go_cut [5, 6] (fun s5 s6 wx => ∃ A1 n1 c1 A2 n2 c2 X Y, s5 = .slice A1 n1 c1 ∧ s6 = .slice A2 n2 c2 ∧ Hid (NatF w wx A1 n1 c1 X) ∧ Hid (NatF w wx A2 n2 c2 Y) ∧ Hid (Below w.heap.size w wx) ∧ n1 ≤ 1000000000 ∧ n2 ≤ 1000000000 ∧ Hid (Y ≤ X) ∧ Hid (Nat.gcd X Y = G))
  case first =>
    by_cases hlt : X < Y
    · have hc : Nt.cmpS X Y = -1 := by unfold Nt.cmpS; rw [if_pos (by omega)]
      have Hle : Hid (X ≤ Y) := by show _ ≤ _; omega
      clear hlt
      go_wp2_with fail
      go_meet
      exact ⟨A2, n2, c2, A1, n1, c1, Y, X, rfl, rfl, K2, K1, KB, hL2, hL1, Hle, by show _ = _; rw [Nat.gcd_comm]; exact HG2.out⟩
    · have hc : 0 ≤ Nt.cmpS X Y := by unfold Nt.cmpS; rw [if_neg (by omega)]; split <;> omega
      have Hle : Hid (Y ≤ X) := by show _ ≤ _; omega
      clear hlt
      go_wp2_with fail
      go_meet
      exact ⟨A1, n1, c1, A2, n2, c2, X, Y, rfl, rfl, K1, K2, KB, hL1, hL2, Hle, HG2⟩
  case rest =>
    clear K1 K2 KB HG2 hL1 hL2
    obtain ⟨A1, n1, c1, A2, n2, c2, X, Y, rfl, rfl, K1, K2, KB, hL1, hL2, Hle, HG2⟩ := hcut
    go_wp2
    go_loopw [5, 6] (fun s5 s6 wx => ∃ A1 n1 c1 A2 n2 c2 X Y, s5 = .slice A1 n1 c1 ∧ s6 = .slice A2 n2 c2 ∧ Hid (NatF w wx A1 n1 c1 X) ∧ Hid (NatF w wx A2 n2 c2 Y) ∧ Hid (Below w.heap.size w wx) ∧ n1 ≤ 1000000000 ∧ n2 ≤ 1000000000 ∧ Hid (Y ≤ X) ∧ Hid (Nat.gcd X Y = G)) (fun _ s6 wx => sval wx s6)
    case atStart => exact ⟨A1, n1, c1, A2, n2, c2, X, Y, rfl, rfl, K1, K2, KB, hL1, hL2, Hle, HG2⟩
    case round =>
      clear K1 K2 KB Hle HG2 hL1 hL2
      obtain ⟨A1, n1, c1, A2, n2, c2, X, Y, rfl, rfl, K1, K2, KB, hL1, hL2, Hle, HG2⟩ := hrel
      by_cases h2 : 2 < n2
      · have h2' : (2 : Int) < n2 := by omega
        go_wp2_with fail
        refine (shorten_any w _ _ _ _ _ _ _ X Y K1.out K2.out KB.out.size hL1 h2 Hle.out).mono ?_
        rintro e w5 ⟨A3, n3, c3, A4, n4, c4, X', Y', rfl, k1, k2, k3, k4, k5, k6, k7⟩
        have E1 := Lib.hid k1
        have E2 := Lib.hid k2
        have E3 := Lib.hid k3
        have E4 := Lib.hid k4
        have E6 := Lib.hid k6
        have E7 := Lib.hid k7
        have j1 : n3 ≤ 1000000000 := by have e1 := k1.1; have e2 := K1.out.1; have := Nt.digits_len_mono k5; omega
        have j2 : n4 ≤ 1000000000 := by have e1 := k2.1; have e2 := K2.out.1; have := Nt.digits_len_mono (Nat.le_of_lt k4); omega
        have Hms : Hid (sval w5 (.slice A4 n4 c4) < sval wr (.slice A2 n2 c2)) := by
          show _ < _
          rw [sval_slr k2.2.1, sval_slr K2.out.2.1, Nt.digits_val, Nt.digits_val]
          omega
        clear k1 k2 k3 k4 k5 k6 k7
        go_wp2
        go_roundw
        case rel => exact ⟨A3, n3, c3, A4, n4, c4, X', Y', rfl, rfl, E1, E2, KB.out.trans (E7.out.mono KB.out.size), j1, j2, E3, by show _ = _; rw [E6.out]; exact HG2.out⟩
        case measure => exact Hms.out
      · have h2' : ¬ (2 : Int) < n2 := by omega
        rcases Nat.eq_zero_or_pos n2 with h0 | h0
        · subst h0
          have hY : Hid (X = G) := by
            have e1 := K2.out.1
            have : Y = 0 := by
              rcases Nat.eq_zero_or_pos Y with h | h
              · exact h
              · have := Nt.digits_length_pos h; omega
            have e2 := HG2.out
            rw [this, Nat.gcd_zero_right] at e2
            exact e2
          go_wp2
          go_ret
          refine ⟨A1, n1, c1, rfl, ?_, KB.out⟩
          rw [← HG.out, ← hY.out]
          exact K1.out
        · have h0' : ((n2 : Int) == 0) = false := by rw [beq_eq_false_iff_ne]; omega
          go_wp2_with fail
          refine (divide_any _ _ _ _ _ _ _ _ _ K1.out.2.1 K2.out.2.1 (Nt.digits_dig X) (Nt.digits_dig Y) (Nt.digits_norm X) (Nt.digits_norm Y) hL1 h0).mono ?_
          rintro e w5 ⟨A3, n3, c3, A4, n4, c4, rfl, f1, f2, hbl⟩
          have hYp : 0 < Y := by
            rcases Nat.eq_zero_or_pos Y with h | h
            · have e1 := K2.out.1; rw [h, Nt.digits_zero] at e1; simp at e1; omega
            · exact h
          rw [Nt.digits_val, Nt.digits_val, ← Int.natCast_emod, Int.toNat_natCast] at f2
          have hr := Nat.mod_lt X hYp
          have hY2 : Y < 18446744073709551616 := Nt.digits_two (by rw [← K2.out.1]; omega)
          have F2 := Lib.hid f2
          have hn4 : n4 ≤ 2 := by rw [f2.1]; have := Nt.digits_len_mono (Nat.le_of_lt hr); rw [← K2.out.1] at this; omega
          have hG' : Hid (Nat.gcd Y (X % Y) = G) := by show _ = _; rw [← HG2.out, Nat.gcd_comm X Y, Nat.gcd_rec Y X, Nat.gcd_comm]
          have HB5 : Hid (Below w.heap.size w w5) := KB.out.trans (hbl.mono KB.out.size)
          have HK2 := Lib.hid (K2.out.2.1.below hbl)
          clear f1 f2 hbl
          go_wp2_with fail
          refine (small_any _ _ _ _ _ HK2.out (Nt.digits_dig Y) (by omega)).mono ?_
          rintro e w6 ⟨rfl, rfl⟩
          go_wp2_with fail
          refine (small_any _ _ _ _ _ F2.out.2.1 (Nt.digits_dig _) hn4).mono ?_
          rintro e w6 ⟨rfl, rfl⟩
          rw [Nt.digits_val, Nt.digits_val]
          obtain ⟨R, hR⟩ : ∃ R, R = X % Y := ⟨_, rfl⟩
          rw [← hR] at hG' hr ⊢
          clear hR F2 HK2 K1 K2 Hle HG2 h2 h2' h0 h0'
          go_wp2
          obtain ⟨wo, rfl⟩ : ∃ wo : World, wo = wr := ⟨_, rfl⟩
          go_loopw [9, 10] (fun s9 s10 wr => ∃ P Q : Nat, P < 18446744073709551616 ∧ Q < 18446744073709551616 ∧ s9 = .int .u64 P ∧ s10 = .int .u64 Q ∧ Hid (Nat.gcd P Q = G) ∧ Hid (Below w.heap.size w wr)) (fun _ s10 _ => (intOf s10).toNat)
          case atStart => exact ⟨Y, R, hY2, by omega, rfl, rfl, hG', HB5⟩
          case round =>
            clear hG' HB5
            obtain ⟨P, Q, hP, hQ, rfl, rfl, hG', HB5⟩ := hrel
            rcases Nat.eq_zero_or_pos Q with hq | hq
            · subst hq
              have hPG : Hid (P = G) := by have := hG'.out; rw [Nat.gcd_zero_right] at this; exact this
              have hs : SlR .u32 (wr.alloc (.cells #[.int .u32 ((P : Int) % 4294967296), .int .u32 ((P : Int) / 4294967296)] 105)) (some ⟨wr.heap.size, 0, none⟩) 2 2 [(P : Int) % 4294967296, (P : Int) / 4294967296] := (KBlk.new wr 105 [(P : Int) % 4294967296, (P : Int) / 4294967296]).slr_all rfl (Nat.le_refl _) (by decide)
              have Hs := Lib.hid hs
              have e2 : Nt.strip [(P : Int) % 4294967296, (P : Int) / 4294967296] = Nt.digits P := by
                have := Nt.two_digits (p := P) hP
                simpa using this
              have hf := strip_fresh (w0 := w) (m := 2) (KBlk.new wr 105 [(P : Int) % 4294967296, (P : Int) / 4294967296]) rfl (by decide) (Nt.Dig.cons (by omega) (Nt.Dig.cons (by omega) Nt.Dig.nil)) (by have := HB5.out.size; omega)
              have e3 : (Nt.val [(P : Int) % 4294967296, (P : Int) / 4294967296]).toNat = P := by simp [Nt.val]; omega
              rw [e3] at hf
              have HF := Lib.hid hf
              clear hs e2 hf e3
              go_wp2_with fail
              refine (cut_any _ _ _ _ _ Hs.out).mono ?_
              rintro e w7 ⟨rfl, rfl⟩
              go_wp2
              go_ret
              refine ⟨_, _, _, rfl, ?_, HB5.out.alloc HB5.out.size _⟩
              rw [← HG.out, ← hPG.out]
              exact HF.out
            · have hqb : ((Q : Int) == 0) = false := by rw [beq_eq_false_iff_ne]; omega
              have hqn : ((Q : Int) != 0) = true := by rw [bne_iff_ne]; omega
              have hB2 : Hid (∀ k, Below w.heap.size w (wr.drewN k)) := fun k => ⟨HB5.out.os, HB5.out.tape, HB5.out.output, HB5.out.size, HB5.out.block⟩
              have hg2 : Hid (Nat.gcd Q (P % Q) = G) := by show _ = _; rw [← hG'.out, Nat.gcd_comm P Q, Nat.gcd_rec Q P, Nat.gcd_comm]
              have hr := Nat.mod_lt P hq
              clear hG' HB5
              go_wp2
              go_quiet (fail)
              have HB7 := Lib.hid (hB2.out nq)
              go_wp2
              go_roundw
              case rel => exact ⟨Q, P % Q, hQ, by omega, rfl, by go_num, hg2, HB7⟩
              case measure => simp [intOf]; omega
end Go.Proofs.YtnedhbidmfoegaaGreat
