/- Contracts of the reference of nat: Mul, small. -/
import Derived.Test.YtnedhbidmfoegaaRfB
import Derived.Test.YtnedhbidmfoegaaNatC
namespace Go.Proofs.Ytnedhbidmfoegaa
open Go.RowKit
set_option linter.unusedVariables false
theorem Below.drewN' {B : Nat} {w w' : World} (h : Below B w w') (k : Nat) : Below B w (w'.drewN k) := ⟨h.os, h.tape, h.output, h.size, h.block⟩
set_option maxHeartbeats 2000000 in
theorem rMul_any (A B : Option Addr) (n c m d : Nat) (a b : List Int) (w : World) (ha : SlR .u32 w A n c a) (hb : SlR .u32 w B m d b) (da : Nt.Dig a) (db : Nt.Dig b) (hn : n ≤ 1000000000) (hm : m ≤ 1000000000) :
    Calls Try.prog 105 #[.slice A n c, .slice B m d] w fun e w' => ∃ A' n' c', e = .returned (.slice A' n' c') ∧ NatF w w' A' n' c' (Nt.val a * Nt.val b).toNat ∧ Below w.heap.size w w' := by
  have hla := Lib.hid ha.1
  have hlb := Lib.hid hb.1
  have Hda := Lib.hid da
  have Hdb := Lib.hid db
  clear da db
  go_enter Try.func105, Try.ntmps105
  go_wp2_with (at_make; refine wpList_makeK _ rfl (.tmp 14) (.tmp 14) _ rfl 82 .u32 4 Try.underlying22 u32_info _ _ _ _ (n + m + 1) rfl rfl ?L ?C ?b2 ?b3 ?_)
  case L => show _ = _; omega
  case C => show _ = _; omega
  case b2 => omega
  case b3 => unfold maxLen; omega
  intro w2 hk2 hb2' hz2
  have hb2 : Below w.heap.size w w2 := hb2'
  obtain ⟨g, hg⟩ : ∃ g, g = w.heap.size := ⟨_, rfl⟩
  have hgw : w.heap.size ≤ g := by omega
  rw [← hg] at hk2 ⊢
  clear hz2 hg hb2'
  go_wp2
  go_loopw [6] (fun iv wr => ∃ (i : Nat) (S : List Int), i ≤ n ∧ iv = .int .i64 i ∧ KBlk .u32 wr g 82 S ∧ Hid (S.length = n + m + 1) ∧ Hid (Nt.Dig S) ∧ Hid (Nt.valTo S (i + m) = Nt.valTo a i * Nt.val b) ∧ Hid (∀ k, i + m ≤ k → S[k]?.getD 0 = 0) ∧ Below w.heap.size w wr) (fun iv _ => n - (intOf iv).toNat)
  case atStart => exact ⟨0, _, by omega, rfl, hk2, by simp [Hid], Nt.Dig.repl _, by show _ = _; rw [Nt.valTo_zero, Int.zero_mul]; unfold Nt.valTo; rw [List.take_replicate, Nt.val_repl], fun k _ => by simp only [List.getElem?_replicate]; split <;> rfl, hb2⟩
  case round =>
    obtain ⟨i, S, hi, rfl, hk, hS, dS, hv, hz, hbr⟩ := hrel
    clear hk2 hb2
    by_cases hin : i < n
    · have q1 := Hda.out.at i
      have hin' : (i : Int) < n := by omega
      obtain ⟨xi, hxi⟩ : ∃ xi, xi = a[i]?.getD 0 := ⟨_, rfl⟩
      rw [← hxi] at q1
      have Hxi := Lib.hid hxi
      clear hxi
      go_wp2
      obtain ⟨wo, rfl⟩ : ∃ wo : World, wo = wr := ⟨_, rfl⟩
      go_loopw [7, 8] (fun cv jv wr => ∃ (j : Nat) (cy : Int) (T : List Int), j ≤ m ∧ 0 ≤ cy ∧ cy ≤ 4294967295 ∧ cv = .int .u64 cy ∧ jv = .int .i64 j ∧ KBlk .u32 wr g 82 T ∧ Hid (T.length = n + m + 1) ∧ Hid (Nt.Dig T) ∧ Hid (Nt.valTo T (i + j) + cy * Nt.pw (i + j) = Nt.valTo S (i + j) + xi * (Nt.pw i * Nt.valTo b j)) ∧ Hid (∀ k, i + j ≤ k → T[k]?.getD 0 = S[k]?.getD 0) ∧ Below w.heap.size w wr) (fun _ jv _ => m - (intOf jv).toNat)
      case atStart => exact ⟨0, 0, S, by omega, by omega, by omega, rfl, rfl, hk, hS, dS, by simp [Hid, Nt.valTo_zero], fun k _ => rfl, hbr⟩
      case round =>
        obtain ⟨j, cy, T, hj, c0, c1, rfl, rfl, hk, hT, dT, hw, hsame, hbr⟩ := hrel
        by_cases hjY : j < m
        · obtain ⟨b1, o1, rfl, _, hc1⟩ := (ha.below hbr).pos hin
          obtain ⟨b2, o2, rfl, _, hc2⟩ := (hb.below hbr).pos hjY
          rw [← Hxi.out] at hc1
          have q2 := Hdb.out.at j
          have q3 := dT.out.at (i + j)
          have hc3 := hk.cell (i := i + j) (by have := hT.out; omega)
          have q4 := Nt.mul_bd32 q1 q2
          obtain ⟨yj, hyj⟩ : ∃ yj, yj = b[j]?.getD 0 := ⟨_, rfl⟩
          obtain ⟨tj, htj⟩ : ∃ tj, tj = T[i + j]?.getD 0 := ⟨_, rfl⟩
          have Hst := Lib.hid (Nt.mul_step (t := cy + (xi * yj + tj)) (by have := hT.out; omega) hw.out (hsame.out _ (Nat.le_refl _)) (by rw [hyj, htj]; omega))
          rw [← hyj] at hc2 q2 q4
          rw [← htj] at hc3 q3
          have q4a := q4.1
          have q4b := q4.2
          have hjm : (j : Int) < m := by omega
          have hw1 : (i : Int) + (j : Int) < n + m + 1 := by omega
          have hkd : Hid (∀ k, KBlk .u32 (wr.drewN k) g 82 T) := fun k => hk
          have hbd : Hid (∀ k, Below w.heap.size w (wr.drewN k)) := fun k => Below.drewN' hbr k
          clear q4 hyj htj hw
          go_wp2
          go_quiet (fail)
          have hk' := hkd.out nq
          have hbr' := Lib.hid (hbd.out nq)
          generalize wr.drewN nq = wq at *
          have hc3' := hk'.cell (i := i + j) (by have := hT.out; omega)
          have hf3 := hk'.frozen (i + j)
          clear hc1 hc2 hc3 hkd hbd hk hbr
          go_wp2
          go_roundw
          case rel => exact ⟨j + 1, _, _, by omega, by omega, by omega, rfl, by go_num, hk'.set (i + j) _, by have := hT.out; show _ = _; simpa using this, dT.out.set (i + j) (by omega), Hst.out, fun k hk' => by rw [List.getElem?_set_ne (by omega)]; exact hsame.out k (by omega), hbr'.out.setCell (p := ⟨g, i + j, none⟩) hgw _⟩
          case measure => simp [intOf]; omega
        · obtain rfl : j = m := by omega
          have hc3 := hk.cell (i := i + j) (by have := hT.out; omega)
          have hf3 := hk.frozen (i + j)
          have hv' : Hid (Nt.valTo (T.set (i + j) cy) (i + 1 + j) = Nt.valTo a (i + 1) * Nt.val b) := by
            have h1 := hw.out
            have h2 := hv.out
            have h3 := Hxi.out
            show _ = _
            rw [show i + 1 + j = i + j + 1 by omega, Nt.valTo_set T cy (by have := hT.out; omega), Nt.valTo_succ, ← h3]
            rw [Nt.valTo_all b (by have := hlb.out; omega)] at h1
            grind
          have hz' : Hid (∀ k, i + 1 + j ≤ k → (T.set (i + j) cy)[k]?.getD 0 = 0) := fun k hk' => by
            rw [List.getElem?_set_ne (by omega), hsame.out k (by omega)]
            exact hz.out k (by omega)
          clear hv hz hw hsame
          go_wp2
          go_roundw
          case rel => exact ⟨i + 1, _, by omega, by go_num, hk.set (i + j) _, by have := hT.out; show _ = _; simpa using this, dT.out.set (i + j) (by omega), hv', hz', hbr.setCell (p := ⟨g, i + j, none⟩) hgw _⟩
          case measure => simp [intOf]; omega
    · obtain rfl : i = n := by omega
      have hval : Nt.val S = Nt.val a * Nt.val b := by
        have h1 := hv.out
        have h2 := hz.out (i + m) (Nat.le_refl _)
        rw [← Nt.valTo_all S (n := i + m + 1) (by have := hS.out; omega), Nt.valTo_succ, h1, h2, Nt.valTo_all a (by have := hla.out; omega)]; simp
      have Hval := Lib.hid hval
      have Hsl := Lib.hid (hk.slr_all (n := i + m + 1) (c := i + m + 1) hS.out (by omega) (by unfold maxLen; omega))
      clear hval hk
      go_wp2_with fail
      refine (rTrim_any _ _ _ _ _ Hsl.out dS.out (by omega)).mono ?_
      rintro e w4 ⟨A3, n3, c3, rfl, f3, hb4⟩
      have hf := f3.nat
      rw [Hval.out] at hf
      have HF := Lib.hid hf
      clear f3 hf
      go_wp2
      go_ret
      exact ⟨A3, n3, c3, rfl, HF.out.mono hbr.size, hbr.trans (hb4.mono hbr.size)⟩
/-- What small answers. -/
def SmF (w0 w : World) (e : Ending) (a y : Int) : Prop := ∃ A1 n1 c1, e = .returned (.tuple #[.slice A1 n1 c1, .int .u32 (a % y)]) ∧ NatF w0 w A1 n1 c1 (a / y).toNat ∧ Below w0.heap.size w0 w
set_option maxHeartbeats 2000000 in
theorem rsmall_any (A : Option Addr) (n c : Nat) (a : List Int) (y : Int) (w : World) (ha : SlR .u32 w A n c a) (da : Nt.Dig a) (hy : 0 < y) (hy1 : y < 4294967296) (hn : n ≤ 1000000000) :
    Calls Try.prog 129 #[.slice A n c, .int .u32 y] w fun e w' => SmF w w' e (Nt.val a) y := by
  have hlen : Hid (a.length = n) := ha.1
  have Hda := Lib.hid da
  have hyb : (y == 0) = false := by rw [beq_eq_false_iff_ne]; omega
  clear da
  go_enter Try.func129, Try.ntmps129
  go_wp2_with (at_make; refine wpList_makeK _ rfl (.tmp 10) (.tmp 10) _ rfl 82 .u32 4 Try.underlying22 u32_info _ _ _ _ n rfl rfl ?L ?C ?b2 ?b3 ?_)
  case L => rfl
  case C => rfl
  case b2 => omega
  case b3 => unfold maxLen; omega
  intro w2 hk2 hb2' hz2
  have hb2 : Below w.heap.size w w2 := hb2'
  obtain ⟨g, hg⟩ : ∃ g, g = w.heap.size := ⟨_, rfl⟩
  have hgw : w.heap.size ≤ g := by omega
  rw [← hg] at hk2 ⊢
  clear hz2 hg hb2'
  go_wp2
  go_loopw [7, 8] (fun rv iv wr => ∃ (i : Nat) (r : Int) (Q : List Int), i ≤ n ∧ 0 ≤ r ∧ r < y ∧ rv = .int .u64 r ∧ iv = .int .i64 ((i : Int) - 1) ∧ KBlk .u32 wr g 82 Q ∧ Hid (Q.length = n) ∧ Hid (Nt.Dig Q) ∧ Hid (Nt.val (a.drop i) = Nt.val (Q.drop i) * y + r) ∧ Below w.heap.size w wr) (fun _ iv _ => (intOf iv + 1).toNat)
  case atStart => exact ⟨n, 0, _, by omega, by omega, by omega, rfl, rfl, hk2, by simp [Hid], Nt.Dig.repl _, by have := hlen.out; show _ = _; rw [Nt.val_drop_all (by omega), Nt.val_drop_all (by simp)]; simp, hb2⟩
  case round =>
    obtain ⟨i, r, Q, hin, r0, r1, rfl, rfl, hk, hQ, dQ, hv, hbr⟩ := hrel
    clear hk2 hb2
    rcases i with _ | i
    · have hv0 := hv.out
      simp only [List.drop_zero] at hv0
      have hdm := Nt.div_of hy hv0 r0 r1
      have Hsl := Lib.hid (hk.slr_all (n := n) (c := n) hQ.out (by omega) (by unfold maxLen; omega))
      have Hdm := Lib.hid hdm
      have r2 : r < 4294967296 := by omega
      clear hv hv0 hdm hk
      go_wp2_with fail
      refine (rTrim_any _ _ _ _ _ Hsl.out dQ.out (by omega)).mono ?_
      rintro e w4 ⟨A3, n3, c3, rfl, f3, hb4⟩
      have hf := f3.nat
      rw [← Hdm.out.1] at hf
      have HF := Lib.hid hf
      clear f3 hf
      go_wp2
      go_ret2
      unfold SmF
      rw [Hdm.out.2]
      exact ⟨A3, n3, c3, rfl, HF.out.mono hbr.size, hbr.trans (hb4.mono hbr.size)⟩
    · obtain ⟨b1, o1, rfl, hlt, hc1⟩ := (ha.below hbr).pos (i := i) (by omega)
      have hcq := hk.cell (i := i) (by have := hQ.out; omega)
      have hfq := hk.frozen i
      have hx := Hda.out.at i
      obtain ⟨x, hxx⟩ : ∃ x, x = a[i]?.getD 0 := ⟨_, rfl⟩
      rw [← hxx] at hc1 hx
      have hbd := Nt.small_bd hy r0 r1 hx.1 hx.2 rfl
      have Hst := Lib.hid (Nt.small_step (t := r * 4294967296 + x) hy (by have := hQ.out; omega) (by have := hlen.out; omega) hv.out (by rw [hxx]))
      have or1 := Nt.or_top r0 (by omega) hx.1 hx.2
      have hbd0 := hbd.1
      have hbd1 := hbd.2.1
      have hin' : (i : Int) < n := by omega
      clear hv hxx
      go_wp2
      go_roundw
      case rel => exact ⟨i, _, _, by omega, hbd.2.2.1, hbd.2.2.2, rfl, by go_num, hk.set i _, by have := hQ.out; show _ = _; simpa using this, dQ.out.set i ⟨hbd0, hbd1⟩, Hst.out, hbr.setCell (p := ⟨g, i, none⟩) hgw _⟩
      case measure => simp [intOf]
end Go.Proofs.Ytnedhbidmfoegaa
