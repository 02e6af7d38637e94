/- Contracts of the reference of nat: Trim, Same, Compare. -/
import Derived.Test.YtnedhbidmfoegaaGreatNatD
import Derived.Deep.DeepCutAuto
import Derived.Deep.CutBlock
namespace Go.Proofs.YtnedhbidmfoegaaGreat
open Go.RowKit
set_option linter.unusedVariables false
/-- A list of the call's own, the digits of v. -/
def OwnF (w0 w : World) (A : Option Addr) (n c v : Nat) : Prop := n = (Nt.digits v).length ∧ OwnK .u32 w w0.heap.size 105 A n c (Nt.digits v)
theorem OwnF.nat {w0 w : World} {A : Option Addr} {n c v : Nat} (h : OwnF w0 w A n c v) : NatF w0 w A n c v :=
  ⟨h.1, h.2.slr, fun hp => h.2.ty hp⟩
namespace Nt
theorem cut_len {l : List Int} {n : Nat} (hl : l.length = n) {k : Nat} (hk : k ≤ n) (hs : strip l = strip (l.take k)) (h : strip (l.take k) = l.take k) : l.take k = strip l := by rw [hs, h]
end Nt
set_option maxHeartbeats 1000000 in
theorem rTrim_any (A : Option Addr) (n c : Nat) (l : List Int) (w : World) (h : SlR .u32 w A n c l) (da : Nt.Dig l) (hn : n ≤ 3000000000) :
    Calls Tryz.prog 156 #[.slice A n c] w fun e w' => ∃ A' n' c', e = .returned (.slice A' n' c') ∧ OwnF w w' A' n' c' (Nt.val l).toNat ∧ Below w.heap.size w w' := by
  have hnc := h.2.1
  have hnm : c ≤ maxLen := h.2.2.1
  unfold maxLen at hnm
  have hln : Hid (l.length = n) := h.1
  have He := Lib.hid (Nt.strip_eq da)
  clear da
  go_enter Tryz.func156, Tryz.ntmps156
  go_upto_block 0 with (fail)
  go_cut [3] (fun s3 wx => ∃ k : Nat, k ≤ n ∧ s3 = .int .i64 k ∧ Hid (l.take k = Nt.strip l) ∧ wx = w)
  case first =>
    go_wp2
    go_loop [3] (fun x => ∃ k : Nat, k ≤ n ∧ x = .int .i64 k ∧ Hid (Nt.strip l = Nt.strip (l.take k))) (fun x => (intOf x).toNat)
    case atStart => exact ⟨n, Nat.le_refl _, rfl, by show _ = _; rw [List.take_of_length_le (by have := hln.out; omega)]⟩
    case round =>
      obtain ⟨k, hk, rfl, hs⟩ := hrel
      rcases k with _ | k
      · have hfin : Hid (l.take 0 = Nt.strip l) := by have := hs.out; show _ = _; rw [this]; rfl
        clear hs
        go_wp2
        go_meet
        exact ⟨0, by omega, rfl, hfin, rfl⟩
      · obtain ⟨b, o, rfl, _, hc⟩ := h.pos (i := k) (by omega)
        have hsn := Nt.take_snoc l k (by have := hln.out; omega)
        by_cases h0 : l[k]?.getD 0 = 0
        · have hs' : Hid (Nt.strip l = Nt.strip (l.take k)) := by
            have := hs.out
            show _ = _
            rw [this, hsn, h0, Nt.strip_snoc_zero]
          rw [h0] at hc
          clear hs hsn h0
          go_wp2
          go_round
          case rel => exact ⟨k, by omega, by go_num, hs'⟩
          case measure => simp [intOf]
        · have hfin : Hid (l.take (k + 1) = Nt.strip l) := by
            have := hs.out
            show _ = _
            rw [this, hsn, Nt.strip_snoc_ne _ h0]
          have hb : (l[k]?.getD 0 == 0) = false := by simpa using h0
          clear hs hsn h0
          go_wp2
          go_meet
          exact ⟨k + 1, hk, rfl, hfin, rfl⟩
  case rest =>
    obtain ⟨k, hk, rfl, hfin, rfl⟩ := hcut
    have hsl := h.upto hk
    rw [hfin.out] at hsl
    have hkl : Hid (k = (Nt.strip l).length) := by show _ = _; rw [← hfin.out]; simp; have := hln.out; omega
    have hk' : (k : Int) ≤ c := by omega
    go_wp2_with (at_builtin; refine wpList_appendK _ rfl (.const (.slice none 0 0)) (.tmp 20) _ rfl 105 .u32 4 Tryz.underlying22 u32_info wc.heap.size none 0 0 [] rfl ?own A k c (Nt.strip l) rfl hsl ?h63 ?hby (Nat.le_refl _) ?_)
    case own => exact ⟨rfl, rfl, .inl ⟨rfl, rfl⟩⟩
    case h63 => unfold maxLen; omega
    case hby => omega
    intro A2 c2 w3 ho3 hb3
    have Ho := Lib.hid ho3
    clear ho3
    go_wp2
    go_ret
    refine ⟨A2, k, c2, rfl, ?_, hb3⟩
    unfold OwnF
    rw [← He.out]
    exact ⟨hkl.out, by simpa using Ho.out⟩
set_option maxHeartbeats 1000000 in
theorem rSame_any (A B : Option Addr) (n c m d : Nat) (a b : List Int) (w : World) (ha : SlR .u32 w A n c a) (hb : SlR .u32 w B m d b) :
    Calls Tryz.prog 138 #[.slice A n c, .slice B m d] w fun e w' => e = .returned (.bool (decide (a = b))) ∧ ∃ k, w' = w.drewN k := by
  have hcm : c ≤ maxLen := ha.2.2.1
  have hdm : d ≤ maxLen := hb.2.2.1
  unfold maxLen at hcm hdm
  have hac := ha.2.1
  have hbc := hb.2.1
  have HA := Lib.hid ha.1
  have HB := Lib.hid hb.1
  by_cases hlen : n = m
  · subst hlen
    go_enter Tryz.func138, Tryz.ntmps138
    go_wp2
    go_loopw [5] (fun iv wr => ∃ i : Nat, i ≤ n ∧ iv = .int .i64 i ∧ Hid (a.take i = b.take i) ∧ Hid (∃ q, wr = w.drewN q) ∧ Hid (SlR .u32 wr A n c a) ∧ Hid (SlR .u32 wr B n d b)) (fun iv _ => n - (intOf iv).toNat)
    case atStart => exact ⟨0, by omega, rfl, rfl, ⟨0, rfl⟩, ha, hb⟩
    case round =>
      obtain ⟨i, hi, rfl, ht, hq, hA, hB⟩ := hrel
      by_cases hin : i < n
      · obtain ⟨b1, o1, rfl, _, hc1⟩ := hA.out.pos hin
        obtain ⟨b2, o2, rfl, _, hc2⟩ := hB.out.pos hin
        have hin' : (i : Int) < n := by omega
        have e1 := Nt.take_snoc a i (by have := HA.out; omega)
        have e2 := Nt.take_snoc b i (by have := HB.out; omega)
        have hQ : Hid (∀ k, ∃ q, wr.drewN k = w.drewN q) := fun k => by obtain ⟨q, rfl⟩ := hq.out; exact ⟨q + k, by rw [World.drewN_drewN]⟩
        have hA2 : Hid (∀ k, SlR .u32 (wr.drewN k) (some ⟨b1, o1, none⟩) n c a) := fun k => hA.out
        have hB2 : Hid (∀ k, SlR .u32 (wr.drewN k) (some ⟨b2, o2, none⟩) n d b) := fun k => hB.out
        by_cases heq : a[i]?.getD 0 = b[i]?.getD 0
        · have ht' : Hid (a.take (i + 1) = b.take (i + 1)) := by show _ = _; rw [e1, e2, ht.out, heq]
          rw [heq] at hc1
          clear heq e1 e2 ht hq hA hB
          go_wp2
          go_quiet (fail)
          have z1 := Lib.hid (hQ.out nq)
          have z2 := Lib.hid (hA2.out nq)
          have z3 := Lib.hid (hB2.out nq)
          go_wp2
          go_roundw
          case rel => exact ⟨i + 1, by omega, by go_num, ht', z1, z2, z3⟩
          case measure => simp [intOf]; omega
        · have hne : Hid (decide (a = b) = false) := by
            show _ = _
            rw [decide_eq_false_iff_not]
            intro h
            rw [h] at heq
            exact heq rfl
          have hb0 : (a[i]?.getD 0 != b[i]?.getD 0) = true := by simpa using heq
          clear heq e1 e2 ht hq hA hB
          go_wp2
          go_quiet (fail)
          have z1 := Lib.hid (hQ.out nq)
          go_wp2
          go_ret
          exact ⟨by rw [hne.out]; rfl, z1.out⟩
      · obtain rfl : i = n := by omega
        have hy : Hid (decide (a = b) = true) := by
          have := ht.out
          rw [List.take_of_length_le (by have := HA.out; omega), List.take_of_length_le (by have := HB.out; omega)] at this
          show _ = _
          rw [decide_eq_true_iff]; exact this
        clear ht
        go_wp2
        go_ret
        exact ⟨by rw [hy.out]; rfl, hq.out⟩
  · have hb0 : ((n : Int) != (m : Int)) = true := by rw [bne_iff_ne]; omega
    have hne : Hid (decide (a = b) = false) := by
      show _ = _
      rw [decide_eq_false_iff_not]
      intro h
      have h1 := HA.out
      have h2 := HB.out
      rw [h] at h1
      omega
    clear hlen
    go_enter Tryz.func138, Tryz.ntmps138
    go_wp2
    go_ret
    exact ⟨by rw [hne.out]; rfl, 0, rfl⟩
set_option maxHeartbeats 1000000 in
theorem rCompare_any (A B : Option Addr) (n c m d : Nat) (a b : List Int) (w : World) (ha : SlR .u32 w A n c a) (hb : SlR .u32 w B m d b) (da : Nt.Dig a) (db : Nt.Dig b) (hn : n ≤ 2000000000) (hm : m ≤ 2000000000) :
    Calls Tryz.prog 162 #[.slice A n c, .slice B m d] w fun e w' => e = .returned (.int .i64 (Nt.cmpS (Nt.val a) (Nt.val b))) ∧ Below w.heap.size w w' := by
  have lx : Hid ((Nt.digits (Nt.val a).toNat).length ≤ n) := by rw [← Nt.strip_eq da, ← ha.1]; exact Nt.strip_length_le a
  have ly : Hid ((Nt.digits (Nt.val b).toNat).length ≤ m) := by rw [← Nt.strip_eq db, ← hb.1]; exact Nt.strip_length_le b
  have a0 := Nt.val_nonneg da
  have b0 := Nt.val_nonneg db
  have hfinal : ∀ X Y : Nat, X = (Nt.val a).toNat → Y = (Nt.val b).toNat → Nt.cmpS (Nt.val a) (Nt.val b) = Nt.cmpS (Nt.val (Nt.digits X)) (Nt.val (Nt.digits Y)) := by
    intro X Y hX hY
    rw [Nt.digits_val, Nt.digits_val, hX, hY, Int.toNat_of_nonneg a0, Int.toNat_of_nonneg b0]
  have Hfinal := Lib.hid hfinal
  clear hfinal
  go_enter Tryz.func162, Tryz.ntmps162
  go_wp2_with fail
  refine (rTrim_any _ _ _ _ _ ha da (by omega)).mono ?_
  rintro e w1 ⟨A1, N, c1, rfl, f1, b1⟩
  go_wp2_with fail
  refine (rTrim_any _ _ _ _ _ (hb.below b1) db (by omega)).mono ?_
  rintro e w2 ⟨A2, M, c2, rfl, f2, b2⟩
  have hx := f1.nat.2.1.below b2
  have hy := f2.nat.2.1
  have hN : N ≤ 2000000000 := by have := f1.1; have := lx.out; omega
  have hM : M ≤ 2000000000 := by have := f2.1; have := ly.out; omega
  have eN := Lib.hid f1.1
  have eM := Lib.hid f2.1
  have hB : Hid (Below w.heap.size w w2) := b1.trans (b2.mono b1.size)
  clear f1 f2 b1 b2 ha hb da db lx ly
  obtain ⟨X, hX⟩ : ∃ X, X = (Nt.val a).toNat := ⟨_, rfl⟩
  obtain ⟨Y, hY⟩ : ∃ Y, Y = (Nt.val b).toNat := ⟨_, rfl⟩
  have ev := Lib.hid (Hfinal.out X Y hX hY)
  rw [← hX] at hx eN
  rw [← hY] at hy eM
  have dx := Lib.hid (Nt.digits_dig X)
  have dy := Lib.hid (Nt.digits_dig Y)
  have nx := Lib.hid (Nt.digits_norm X)
  have ny := Lib.hid (Nt.digits_norm Y)
  clear Hfinal hX hY
  generalize Nt.digits X = x at *
  generalize Nt.digits Y = y at *
  have hxl := hx.2.1
  have hyl := hy.2.1
  have hcm : c1 ≤ maxLen := hx.2.2.1
  have hdm : c2 ≤ maxLen := hy.2.2.1
  unfold maxLen at hcm hdm
  by_cases hlen : N = M
  · subst hlen
    go_wp2
    go_loopw [5] (fun v wr => ∃ k : Nat, k ≤ N ∧ v = .int .i64 ((k : Int) - 1) ∧ Hid (x.drop k = y.drop k) ∧ Hid (Below w.heap.size w wr) ∧ Hid (SlR .u32 wr A1 N c1 x) ∧ Hid (SlR .u32 wr A2 N c2 y)) (fun v _ => (intOf v + 1).toNat)
    case atStart => exact ⟨N, Nat.le_refl _, rfl, by show _ = _; rw [List.drop_of_length_le (by have := eN.out; omega), List.drop_of_length_le (by have := eM.out; omega)], hB, hx, hy⟩
    case round =>
      obtain ⟨k, hk, rfl, hdr, hbr, hA, hBB⟩ := hrel
      clear hx hy hB
      rcases k with _ | k
      · have hfin : Hid (Nt.cmpS (Nt.val a) (Nt.val b) = 0) := by
          have h1 := hdr.out
          have h2 := ev.out
          simp only [List.drop_zero] at h1
          show _ = _
          rw [h2, h1]; simp [Nt.cmpS]
        clear hdr
        go_wp2
        go_ret
        exact ⟨by rw [hfin.out]; rfl, hbr.out⟩
      · obtain ⟨b1, o1, rfl, _, hc1⟩ := hA.out.pos (i := k) (by omega)
        obtain ⟨b2, o2, rfl, _, hc2⟩ := hBB.out.pos (i := k) (by omega)
        have hkl : (k : Int) < N := by omega
        have hQ : Hid (∀ k, Below w.heap.size w (wr.drewN k)) := fun k => ⟨hbr.out.os, hbr.out.tape, hbr.out.output, hbr.out.size, hbr.out.block⟩
        have hA2 : Hid (∀ k, SlR .u32 (wr.drewN k) (some ⟨b1, o1, none⟩) N c1 x) := fun k => hA.out
        have hB2 : Hid (∀ k, SlR .u32 (wr.drewN k) (some ⟨b2, o2, none⟩) N c2 y) := fun k => hBB.out
        by_cases heq : x[k]?.getD 0 = y[k]?.getD 0
        · have hdr' : Hid (x.drop k = y.drop k) := by
            have h1 := hdr.out
            have e1 := eN.out
            have e2 := eM.out
            rw [List.getElem?_eq_getElem (by omega), List.getElem?_eq_getElem (by omega)] at heq
            show _ = _
            rw [List.drop_eq_getElem_cons (by omega), List.drop_eq_getElem_cons (i := k) (l := y) (by omega), h1]
            congr 1
          rw [heq] at hc1
          clear heq hdr
          go_wp2
          go_quiet (fail)
          have z1 := Lib.hid (hQ.out nq)
          have z2 := Lib.hid (hA2.out nq)
          have z3 := Lib.hid (hB2.out nq)
          have c1' : (wr.drewN nq).cell? ⟨b1, o1 + k, none⟩ = some (.int .u32 (y[k]?.getD 0)) := hc1
          have c2' : (wr.drewN nq).cell? ⟨b2, o2 + k, none⟩ = some (.int .u32 (y[k]?.getD 0)) := hc2
          generalize wr.drewN nq = wq at *
          clear hc1 hc2 hQ hA2 hB2 hbr hA hBB
          have hQ : Hid (∀ k, Below w.heap.size w (wq.drewN k)) := fun k => ⟨z1.out.os, z1.out.tape, z1.out.output, z1.out.size, z1.out.block⟩
          have hA2 : Hid (∀ k, SlR .u32 (wq.drewN k) (some ⟨b1, o1, none⟩) N c1 x) := fun k => z2.out
          have hB2 : Hid (∀ k, SlR .u32 (wq.drewN k) (some ⟨b2, o2, none⟩) N c2 y) := fun k => z3.out
          go_wp2
          go_quiet (fail)
          have z1 := Lib.hid (hQ.out nq)
          have z2 := Lib.hid (hA2.out nq)
          have z3 := Lib.hid (hB2.out nq)
          go_wp2
          go_roundw
          case rel => exact ⟨k, by omega, by go_num, hdr', z1, z2, z3⟩
          case measure => simp [intOf]
        · have hfin : Hid (Nt.cmpS (x[k]?.getD 0) (y[k]?.getD 0) = Nt.cmpS (Nt.val a) (Nt.val b)) := by
            show _ = _
            rw [ev.out]
            exact Nt.cmp_at dx.out dy.out k (by have := eN.out; omega) (by have := eM.out; omega) hdr.out heq
          clear hdr
          by_cases hlt : x[k]?.getD 0 < y[k]?.getD 0
          · have hv : Hid (Nt.cmpS (Nt.val a) (Nt.val b) = -1) := by show _ = _; rw [← hfin.out]; unfold Nt.cmpS; rw [if_pos hlt]
            clear heq
            go_wp2
            go_quiet (fail)
            have z1 := Lib.hid (hQ.out nq)
            go_wp2
            go_ret
            exact ⟨by rw [hv.out]; rfl, z1.out⟩
          · have hv : Hid (Nt.cmpS (Nt.val a) (Nt.val b) = 1) := by show _ = _; rw [← hfin.out]; unfold Nt.cmpS; rw [if_neg hlt, if_neg heq]
            have hgt : y[k]?.getD 0 < x[k]?.getD 0 := by omega
            clear heq
            go_wp2
            go_quiet (fail)
            have z1 := Lib.hid (hQ.out nq)
            have c1' : (wr.drewN nq).cell? ⟨b1, o1 + k, none⟩ = some (.int .u32 (x[k]?.getD 0)) := hc1
            have c2' : (wr.drewN nq).cell? ⟨b2, o2 + k, none⟩ = some (.int .u32 (y[k]?.getD 0)) := hc2
            generalize wr.drewN nq = wq at *
            clear hc1 hc2 hQ hA2 hB2 hbr hA hBB
            have hQ : Hid (∀ k, Below w.heap.size w (wq.drewN k)) := fun k => ⟨z1.out.os, z1.out.tape, z1.out.output, z1.out.size, z1.out.block⟩
            go_wp2
            go_quiet (fail)
            have z1 := Lib.hid (hQ.out nq)
            go_wp2
            go_ret
            exact ⟨by rw [hv.out]; rfl, z1.out⟩
  · have hb0 : ((N : Int) != (M : Int)) = true := by rw [bne_iff_ne]; omega
    by_cases hlt : N < M
    · have hv : Hid (Nt.cmpS (Nt.val a) (Nt.val b) = -1) := by
        have := Nt.len_lt dx.out dy.out ny.out (by have := eN.out; have := eM.out; omega)
        show _ = _
        rw [ev.out]; unfold Nt.cmpS; rw [if_pos this]
      clear hlen
      go_wp2
      go_ret
      exact ⟨by rw [hv.out]; rfl, hB.out⟩
    · have hv : Hid (Nt.cmpS (Nt.val a) (Nt.val b) = 1) := by
        have := Nt.len_lt dy.out dx.out nx.out (by have := eN.out; have := eM.out; omega)
        show _ = _
        rw [ev.out]; unfold Nt.cmpS; rw [if_neg (by omega), if_neg (by omega)]
      clear hlen
      go_wp2
      go_ret
      exact ⟨by rw [hv.out]; rfl, hB.out⟩
end Go.Proofs.YtnedhbidmfoegaaGreat
