/- Contracts of the reference of nat: Add, Sub. -/
import Derived.Test.YtnedhbidmfoegaaGreatRfA
import Derived.Test.YtnedhbidmfoegaaGreatNatP
namespace Go.Proofs.YtnedhbidmfoegaaGreat
open Go.RowKit
set_option linter.unusedVariables false
theorem OwnK.blk {k : IntKind} {w : World} {B : Nat} {t : TypeId} {A : Option Addr} {n c : Nat} {l : List Int} (h : OwnK k w B t A n c l) : ∀ a, A = some a → B ≤ a.block ∧ a.block < w.heap.size := by
  intro a ha
  rcases h.2.2 with ⟨he, _⟩ | ⟨g, cap, cur, he, hg, hh, _⟩
  · injection he with e1; rw [e1] at ha; cases ha
  · injection he with e1
    rw [e1] at ha
    injection ha with ha
    subst ha
    refine ⟨hg, ?_⟩
    rcases Nat.lt_or_ge g w.heap.size with hlt | hge
    · exact hlt
    · rw [Array.getElem?_eq_none hge] at hh; cases hh
namespace Nt
theorem snoc_val (S : List Int) (x : Int) : val (S ++ [x]) = val S + pw S.length * x := by rw [val_append]; simp [val]
theorem add_snoc {S a b : List Int} {i : Nat} {c t : Int} (hl : S.length = i) (h : val S + c * pw i = valTo a i + valTo b i) (ht : t = c + a[i]?.getD 0 + b[i]?.getD 0) :
    val (S ++ [t % 4294967296]) + (t / 4294967296) * pw (i + 1) = valTo a (i + 1) + valTo b (i + 1) := by
  rw [snoc_val, valTo_succ, valTo_succ, pw, hl]
  have e := Int.mul_ediv_add_emod t 4294967296
  generalize t % 4294967296 = r at *
  generalize t / 4294967296 = q at *
  grind
theorem Dig.snoc {l : List Int} (h : Dig l) {x : Int} (hx : 0 ≤ x ∧ x < 4294967296) : Dig (l ++ [x]) := h.append (Dig.cons hx Dig.nil)
end Nt
set_option maxHeartbeats 2000000 in
theorem rAdd_any (A B : Option Addr) (n c m d : Nat) (a b : List Int) (w : World) (ha : SlR .u32 w A n c a) (hb : SlR .u32 w B m d b) (da : Nt.Dig a) (db : Nt.Dig b) (hn : n ≤ 1000000000) (hm : m ≤ 1000000000) :
    Calls Tryz.prog 161 #[.slice A n c, .slice B m d] w fun e w' => ∃ A' n' c', e = .returned (.slice A' n' c') ∧ NatF w w' A' n' c' (Nt.val a + Nt.val b).toNat ∧ Below w.heap.size w w' := by
  have hla := Lib.hid ha.1
  have hlb := Lib.hid hb.1
  have Hda := Lib.hid da
  have Hdb := Lib.hid db
  clear da db
  go_enter Tryz.func161, Tryz.ntmps161
  go_wp2
  go_loopw [5, 6, 7] (fun sv cv iv wr => ∃ (i : Nat) (cy : Int) (S : List Int) (A1 : Option Addr) (c1 : Nat), i ≤ 1000000000 ∧ Hid (i ≤ n ∨ i ≤ m) ∧ 0 ≤ cy ∧ cy ≤ 1 ∧ sv = .slice A1 i c1 ∧ cv = .int .u64 cy ∧ iv = .int .i64 i ∧ OwnK .u32 wr w.heap.size 105 A1 i c1 S ∧ Hid (Nt.Dig S) ∧ Hid (Nt.val S + cy * Nt.pw i = Nt.valTo a i + Nt.valTo b i) ∧ Below w.heap.size w wr) (fun _ _ iv _ => n + m - (intOf iv).toNat)
  case atStart => exact ⟨0, 0, [], none, 0, by omega, .inl (Nat.zero_le _), by omega, by omega, rfl, rfl, rfl, ⟨rfl, rfl, .inl ⟨rfl, rfl⟩⟩, Nt.Dig.nil, by simp [Hid, Nt.valTo_zero, Nt.val], Below.refl _ _⟩
  case round =>
    obtain ⟨i, cy, S, A1, c1, hi, him, c0, c1', rfl, rfl, rfl, hk, dS, hv, hbr⟩ := hrel
    have hSl := Lib.hid hk.1
    by_cases hia : i < n
    · by_cases hib : i < m
      · skip
        obtain ⟨b1, o1, rfl, _, hc1⟩ := (ha.below hbr).pos hia
        have q1 := Hda.out.at i
        have hia' : (i : Int) < n := by omega
        obtain ⟨b2, o2, rfl, _, hc2⟩ := (hb.below hbr).pos hib
        have q2 := Hdb.out.at i
        have hib' : (i : Int) < m := by omega
        have Hst := Lib.hid (Nt.add_snoc (t := cy + a[i]?.getD 0 + b[i]?.getD 0) hSl.out hv.out (rfl))
        have hnew : Hid (SlR .u32 (wr.alloc (.cells #[.int .u32 ((cy + a[i]?.getD 0 + b[i]?.getD 0) % 4294967296)] 105)) (some ⟨wr.heap.size, 0, none⟩) 1 1 [(cy + a[i]?.getD 0 + b[i]?.getD 0) % 4294967296]) := (KBlk.new wr 105 [(cy + a[i]?.getD 0 + b[i]?.getD 0) % 4294967296]).slr_all rfl (Nat.le_refl _) (by decide)
        go_wp2_with (at_builtin; refine wpList_appendK _ rfl (.tmp 42) (.tmp 45) _ rfl 105 .u32 4 Tryz.underlying22 u32_info w.heap.size A1 i c1 S rfl ?own (some ⟨wr.heap.size, 0, none⟩) 1 1 [(cy + a[i]?.getD 0 + b[i]?.getD 0) % 4294967296] rfl ?slr ?h63 ?hby ?hbase ?_)
        case own => exact hk.below ((Below.refl _ _).alloc (Nat.le_refl _) _)
        case slr => exact hnew.out
        case h63 => unfold maxLen; omega
        case hby => omega
        case hbase => have := hbr.size; simp; omega
        intro A2 c2 w3 ho3 hb3
        have Ho := Lib.hid ho3
        have HB : Hid (Below w.heap.size w w3) := (hbr.alloc hbr.size _).trans hb3
        clear hnew ho3 hb3 hk hv
        go_wp2
        go_roundw
        case rel => exact ⟨i + 1, _, _, A2, c2, by omega, .inl (by omega), by omega, by omega, rfl, rfl, by go_num, Ho.out, dS.out.snoc (by omega), Hst.out, HB.out⟩
        case measure => simp [intOf]; omega
      · skip
        obtain ⟨b1, o1, rfl, _, hc1⟩ := (ha.below hbr).pos hia
        have q1 := Hda.out.at i
        have hia' : (i : Int) < n := by omega
        have e2 : b[i]?.getD 0 = 0 := by rw [List.getElem?_eq_none (by have := hlb.out; omega)]; rfl
        have hib' : ¬ (i : Int) < m := by omega
        have hib2 : decide ((i : Int) < m) = false := by simpa using hib'
        have Hst := Lib.hid (Nt.add_snoc (t := cy + a[i]?.getD 0) hSl.out hv.out (by rw [e2]; omega))
        clear e2
        have hnew : Hid (SlR .u32 (wr.alloc (.cells #[.int .u32 ((cy + a[i]?.getD 0) % 4294967296)] 105)) (some ⟨wr.heap.size, 0, none⟩) 1 1 [(cy + a[i]?.getD 0) % 4294967296]) := (KBlk.new wr 105 [(cy + a[i]?.getD 0) % 4294967296]).slr_all rfl (Nat.le_refl _) (by decide)
        go_wp2_with (at_builtin; refine wpList_appendK _ rfl (.tmp 42) (.tmp 45) _ rfl 105 .u32 4 Tryz.underlying22 u32_info w.heap.size A1 i c1 S rfl ?own (some ⟨wr.heap.size, 0, none⟩) 1 1 [(cy + a[i]?.getD 0) % 4294967296] rfl ?slr ?h63 ?hby ?hbase ?_)
        case own => exact hk.below ((Below.refl _ _).alloc (Nat.le_refl _) _)
        case slr => exact hnew.out
        case h63 => unfold maxLen; omega
        case hby => omega
        case hbase => have := hbr.size; simp; omega
        intro A2 c2 w3 ho3 hb3
        have Ho := Lib.hid ho3
        have HB : Hid (Below w.heap.size w w3) := (hbr.alloc hbr.size _).trans hb3
        clear hnew ho3 hb3 hk hv
        go_wp2
        go_roundw
        case rel => exact ⟨i + 1, _, _, A2, c2, by omega, .inl (by omega), by omega, by omega, rfl, rfl, by go_num, Ho.out, dS.out.snoc (by omega), Hst.out, HB.out⟩
        case measure => simp [intOf]; omega
    · by_cases hib : i < m
      · skip
        have e1 : a[i]?.getD 0 = 0 := by rw [List.getElem?_eq_none (by have := hla.out; omega)]; rfl
        have hia' : ¬ (i : Int) < n := by omega
        have hia2 : decide ((i : Int) < n) = false := by simpa using hia'
        obtain ⟨b2, o2, rfl, _, hc2⟩ := (hb.below hbr).pos hib
        have q2 := Hdb.out.at i
        have hib' : (i : Int) < m := by omega
        have Hst := Lib.hid (Nt.add_snoc (t := cy + b[i]?.getD 0) hSl.out hv.out (by rw [e1]; omega))
        clear e1
        have hnew : Hid (SlR .u32 (wr.alloc (.cells #[.int .u32 ((cy + b[i]?.getD 0) % 4294967296)] 105)) (some ⟨wr.heap.size, 0, none⟩) 1 1 [(cy + b[i]?.getD 0) % 4294967296]) := (KBlk.new wr 105 [(cy + b[i]?.getD 0) % 4294967296]).slr_all rfl (Nat.le_refl _) (by decide)
        go_wp2_with (at_builtin; refine wpList_appendK _ rfl (.tmp 42) (.tmp 45) _ rfl 105 .u32 4 Tryz.underlying22 u32_info w.heap.size A1 i c1 S rfl ?own (some ⟨wr.heap.size, 0, none⟩) 1 1 [(cy + b[i]?.getD 0) % 4294967296] rfl ?slr ?h63 ?hby ?hbase ?_)
        case own => exact hk.below ((Below.refl _ _).alloc (Nat.le_refl _) _)
        case slr => exact hnew.out
        case h63 => unfold maxLen; omega
        case hby => omega
        case hbase => have := hbr.size; simp; omega
        intro A2 c2 w3 ho3 hb3
        have Ho := Lib.hid ho3
        have HB : Hid (Below w.heap.size w w3) := (hbr.alloc hbr.size _).trans hb3
        clear hnew ho3 hb3 hk hv
        go_wp2
        go_roundw
        case rel => exact ⟨i + 1, _, _, A2, c2, by omega, .inr (by omega), by omega, by omega, rfl, rfl, by go_num, Ho.out, dS.out.snoc (by omega), Hst.out, HB.out⟩
        case measure => simp [intOf]; omega
      · skip
        have e1 : a[i]?.getD 0 = 0 := by rw [List.getElem?_eq_none (by have := hla.out; omega)]; rfl
        have hia' : ¬ (i : Int) < n := by omega
        have hia2 : decide ((i : Int) < n) = false := by simpa using hia'
        have e2 : b[i]?.getD 0 = 0 := by rw [List.getElem?_eq_none (by have := hlb.out; omega)]; rfl
        have hib' : ¬ (i : Int) < m := by omega
        have hib2 : decide ((i : Int) < m) = false := by simpa using hib'
        have hval : Nt.val (S ++ [cy]) = Nt.val a + Nt.val b := by
          have h1 := hv.out
          rw [Nt.valTo_all a (by have := hla.out; omega), Nt.valTo_all b (by have := hlb.out; omega)] at h1
          rw [Nt.snoc_val, hSl.out, Int.mul_comm (Nt.pw i)]; exact h1
        have Hval := Lib.hid hval
        have dS2 := Lib.hid (dS.out.snoc (x := cy) (by omega))
        have hnew : Hid (SlR .u32 (wr.alloc (.cells #[.int .u32 cy] 105)) (some ⟨wr.heap.size, 0, none⟩) 1 1 [cy]) := (KBlk.new wr 105 [cy]).slr_all rfl (Nat.le_refl _) (by decide)
        clear hval e1 e2
        go_wp2_with (at_builtin; refine wpList_appendK _ rfl (.tmp 49) (.tmp 52) _ rfl 105 .u32 4 Tryz.underlying22 u32_info w.heap.size A1 i c1 S rfl ?own2 (some ⟨wr.heap.size, 0, none⟩) 1 1 [cy] rfl ?slr2 ?h632 ?hby2 ?hbase2 ?_)
        case own2 => exact hk.below ((Below.refl _ _).alloc (Nat.le_refl _) _)
        case slr2 => exact hnew.out
        case h632 => unfold maxLen; omega
        case hby2 => omega
        case hbase2 => have := hbr.size; simp; omega
        intro A2 c2 w3 ho3 hb3
        have HB : Hid (Below w.heap.size w w3) := (hbr.alloc hbr.size _).trans hb3
        have Hs := Lib.hid ho3.slr
        clear hnew ho3 hb3 hk hv
        go_wp2_with fail
        refine (rTrim_any _ _ _ _ _ Hs.out dS2.out (by omega)).mono ?_
        rintro e w4 ⟨A3, n3, c3, rfl, f3, hb4⟩
        have hf := f3.nat
        rw [Hval.out] at hf
        have HF := Lib.hid hf
        clear f3 hf
        go_wp2
        go_ret
        exact ⟨A3, n3, c3, rfl, HF.out.mono HB.out.size, HB.out.trans (hb4.mono HB.out.size)⟩
set_option maxHeartbeats 2000000 in
theorem rSub_any (A B : Option Addr) (n c m d : Nat) (a b : List Int) (w : World) (ha : SlR .u32 w A n c a) (hb : SlR .u32 w B m d b) (da : Nt.Dig a) (db : Nt.Dig b) (hn : n ≤ 1000000000) (hm : m ≤ 1000000000) :
    Calls Tryz.prog 163 #[.slice A n c, .slice B m d] w fun e w' => ∃ A' n' c', e = .returned (.slice A' n' c') ∧ NatF w w' A' n' c' (Nt.val a - Nt.val b).toNat ∧ Below w.heap.size w w' := by
  by_cases hle : Nt.val a < Nt.val b
  · have hcmp : Nt.cmpS (Nt.val a) (Nt.val b) = -1 := by unfold Nt.cmpS; rw [if_pos hle]
    have hfin : Hid ((Nt.val a - Nt.val b).toNat = 0) := by show _ = _; omega
    have Hc := Lib.hid hcmp
    clear hle hcmp
    go_enter Tryz.func163, Tryz.ntmps163
    go_wp2_with fail
    refine (rCompare_any _ _ _ _ _ _ _ _ _ ha hb da db (by omega) (by omega)).mono ?_
    rintro e w1 ⟨rfl, hb1⟩
    rw [Hc.out]
    go_wp2
    go_ret
    refine ⟨none, 0, 0, rfl, ?_, hb1⟩
    rw [hfin.out]
    exact ⟨by rw [Nt.digits_zero]; rfl, by rw [Nt.digits_zero]; exact SlR.nil _ _ _ (Nat.zero_le _), fun h => absurd h (by omega)⟩
  · have hcmp : 0 ≤ Nt.cmpS (Nt.val a) (Nt.val b) := by unfold Nt.cmpS; rw [if_neg hle]; split <;> omega
    obtain ⟨s, hs⟩ : ∃ s, s = Nt.cmpS (Nt.val a) (Nt.val b) := ⟨_, rfl⟩
    have Hs := Lib.hid hs
    have Hle : Hid (Nt.val b ≤ Nt.val a) := by show _ ≤ _; omega
    have a0 := Nt.val_nonneg da
    have b0 := Nt.val_nonneg db
    have ev : Hid (∀ X Y : Nat, X = (Nt.val a).toNat → Y = (Nt.val b).toNat → Nt.val (Nt.digits X) = Nt.val a ∧ Nt.val (Nt.digits Y) = Nt.val b) := by
      intro X Y hX hY
      rw [Nt.digits_val, Nt.digits_val, hX, hY, Int.toNat_of_nonneg a0, Int.toNat_of_nonneg b0]
      exact ⟨rfl, rfl⟩
    have lx : Hid ((Nt.digits (Nt.val a).toNat).length ≤ n) := by rw [← Nt.strip_eq da, ← ha.1]; exact Nt.strip_length_le a
    rw [← hs] at hcmp
    clear hle hs
    go_enter Tryz.func163, Tryz.ntmps163
    go_wp2_with fail
    refine (rCompare_any _ _ _ _ _ _ _ _ _ ha hb da db (by omega) (by omega)).mono ?_
    rintro e w1 ⟨rfl, hb1⟩
    rw [← Hs.out]
    clear Hs
    go_wp2_with fail
    refine (rTrim_any _ _ _ _ _ (hb.below hb1) db (by omega)).mono ?_
    rintro e w2 ⟨A2, M, c2, rfl, f2, hb2⟩
    have hB2 : Below w.heap.size w w2 := hb1.trans (hb2.mono hb1.size)
    go_wp2_with fail
    refine (rTrim_any _ _ _ _ _ (ha.below hB2) da (by omega)).mono ?_
    rintro e w3 ⟨A1, N, c1, rfl, f1, hb3⟩
    have hB : Below w.heap.size w w3 := hB2.trans (hb3.mono hB2.size)
    have hAy : ∀ p, A2 = some p → p.block < w2.heap.size := fun p hp => (f2.2.blk p hp).2
    have hy : Hid (SlR .u32 w3 A2 M c2 (Nt.digits (Nt.val b).toNat)) := f2.nat.2.1.below hb3
    obtain ⟨X, hX⟩ : ∃ X, X = (Nt.val a).toNat := ⟨_, rfl⟩
    obtain ⟨Y, hY⟩ : ∃ Y, Y = (Nt.val b).toNat := ⟨_, rfl⟩
    have eN := Lib.hid f1.1
    have eM := Lib.hid f2.1
    have hk := f1.2
    have hws := hB2.size
    have Ev := Lib.hid (ev.out X Y hX hY)
    have hN : N ≤ 1000000000 := by have := f1.1; have := lx.out; omega
    rw [← hX] at eN hk
    rw [← hY] at eM hy
    have dx := Lib.hid (Nt.digits_dig X)
    have dy := Lib.hid (Nt.digits_dig Y)
    have ny := Lib.hid (Nt.digits_norm Y)
    have nx := Lib.hid (Nt.digits_norm X)
    have hMN : M ≤ N := by
      rw [eN.out, eM.out]
      rcases Nat.lt_or_ge (Nt.digits X).length (Nt.digits Y).length with h | h
      · have := Nt.len_lt dx.out dy.out ny.out h
        have := Ev.out
        have := Hle.out
        omega
      · exact h
    clear f1 f2 hb1 hb2 hb3 hB2 ha hb da db hX hY ev lx
    generalize Nt.digits X = x at *
    generalize Nt.digits Y = y at *
    have hkm := hy.out.2.2.1
    have hkm1 := hk.slr.2.2.1
    have hkc1 := hk.slr.2.1
    unfold maxLen at hkm hkm1
    rcases Nat.eq_zero_or_pos N with hN0 | hN0
    · subst hN0
      have hx0 : Hid ((Nt.val a - Nt.val b).toNat = 0) := by
        have h1 := Ev.out
        have h2 : x = [] := List.eq_nil_of_length_eq_zero eN.out.symm
        rw [h2] at h1
        simp only [Nt.val] at h1
        show _ = _
        omega
      have Hk := Lib.hid hk.slr
      have Hx : Hid (x = []) := List.eq_nil_of_length_eq_zero eN.out.symm
      have HB := Lib.hid hB
      clear hk hB
      go_wp2
      go_loop [7] (fun iv => iv = .int .i64 0) (fun _ => 0)
      case atStart => rfl
      case round =>
        subst hrel
        go_wp2_with fail
        refine (rTrim_any _ _ _ _ _ Hk.out dx.out (by omega)).mono ?_
        rintro e w4 ⟨A3, n3, c3, rfl, f3, hb4⟩
        have hf := f3.nat
        rw [Hx.out] at hf
        have HF := Lib.hid hf
        clear f3 hf
        go_wp2
        go_ret
        refine ⟨A3, n3, c3, rfl, ?_, HB.out.trans (hb4.mono HB.out.size)⟩
        rw [hx0.out]
        exact HF.out.mono HB.out.size
    obtain ⟨g, rfl, hgw2, hg3⟩ := hk.pos hN0
    have hgw : w.heap.size ≤ g := by omega
    have hkk : OwnK .u32 w3 w2.heap.size 105 (some ⟨g, 0, none⟩) N c1 x := hk
    clear hk
    go_wp2
    go_loopw [6, 7] (fun cv iv wr => ∃ (i : Nat) (bo : Int) (S : List Int), i ≤ N ∧ 0 ≤ bo ∧ bo ≤ 1 ∧ cv = .int .u64 bo ∧ iv = .int .i64 i ∧ OwnK .u32 wr w2.heap.size 105 (some ⟨g, 0, none⟩) N c1 S ∧ Hid (S.length = N) ∧ Hid (Nt.Dig S) ∧ Hid (Nt.valTo S i + Nt.valTo y i = Nt.valTo x i + bo * Nt.pw i) ∧ Hid (∀ k, i ≤ k → S[k]?.getD 0 = x[k]?.getD 0) ∧ Hid (SlR .u32 wr A2 M c2 y) ∧ Below w.heap.size w wr) (fun _ iv _ => N - (intOf iv).toNat)
    case atStart => exact ⟨0, 0, x, by omega, by omega, by omega, rfl, rfl, hkk, eN.out.symm, dx, by simp [Hid, Nt.valTo_zero], fun _ _ => rfl, hy, hB⟩
    case round =>
      clear hkk hy hB
      obtain ⟨i, bo, S, hi, c0, c1', rfl, rfl, hk, hS, dS, hv, hsame, hy, hbr⟩ := hrel
      by_cases hin : i < N
      · have hc1 := hk.cell (i := i) hin
        rw [hsame.out i (Nat.le_refl _)] at hc1
        have hf1 := hk.frozen i
        have q1 := dx.out.at i
        have hin' : (i : Int) < N := by omega
        by_cases hib : i < M
        · skip
          obtain ⟨b2, o2, rfl, _, hc2⟩ := hy.out.pos hib
          have q2 := dy.out.at i
          have hib' : (i : Int) < M := by omega
          have Hst := Lib.hid (Nt.sub_step (S := S) (t := x[i]?.getD 0 - bo - y[i]?.getD 0) (by have := hS.out; omega) hv.out rfl (by have := dy.out.at i; omega) (by have := dy.out.at i; omega))
          by_cases hlt : x[i]?.getD 0 < bo + y[i]?.getD 0
          · have hl2 : x[i]?.getD 0 - bo - y[i]?.getD 0 < 0 := by omega
            have hst := Hst.out
            rw [if_pos hl2, show (x[i]?.getD 0 - bo - y[i]?.getD 0) % 4294967296 = x[i]?.getD 0 + 4294967296 - (bo + y[i]?.getD 0) by omega] at hst
            have Hst2 := Lib.hid hst
            have hd1 : 0 ≤ x[i]?.getD 0 + 4294967296 - (bo + y[i]?.getD 0) := by omega
            have hd2 : x[i]?.getD 0 + 4294967296 - (bo + y[i]?.getD 0) < 4294967296 := by omega
            clear Hst hst hl2
            go_wp2
            go_roundw
            case rel => exact ⟨i + 1, _, _, by omega, by omega, by omega, rfl, by go_num, hk.set i _, by have := hS.out; show _ = _; simpa using this, dS.out.set i ⟨hd1, hd2⟩, Hst2.out, fun k hk' => by rw [List.getElem?_set_ne (by omega)]; exact hsame.out k (by omega), hy.out.setCell _ (fun p hp => by have := hAy p hp; show p.block ≠ g; omega), hbr.setCell (p := ⟨g, i, none⟩) hgw _⟩
            case measure => simp [intOf]; omega
          · have hl2 : ¬ x[i]?.getD 0 - bo - y[i]?.getD 0 < 0 := by omega
            have hst := Hst.out
            rw [if_neg hl2, show (x[i]?.getD 0 - bo - y[i]?.getD 0) % 4294967296 = x[i]?.getD 0 - (bo + y[i]?.getD 0) by omega] at hst
            have Hst2 := Lib.hid hst
            have hd1 : 0 ≤ x[i]?.getD 0 - (bo + y[i]?.getD 0) := by omega
            have hd2 : x[i]?.getD 0 - (bo + y[i]?.getD 0) < 4294967296 := by omega
            clear Hst hst hl2
            go_wp2
            go_roundw
            case rel => exact ⟨i + 1, _, _, by omega, by omega, by omega, rfl, by go_num, hk.set i _, by have := hS.out; show _ = _; simpa using this, dS.out.set i ⟨hd1, hd2⟩, Hst2.out, fun k hk' => by rw [List.getElem?_set_ne (by omega)]; exact hsame.out k (by omega), hy.out.setCell _ (fun p hp => by have := hAy p hp; show p.block ≠ g; omega), hbr.setCell (p := ⟨g, i, none⟩) hgw _⟩
            case measure => simp [intOf]; omega
        · skip
          have e2 : y[i]?.getD 0 = 0 := by rw [List.getElem?_eq_none (by have := eM.out; omega)]; rfl
          have hib' : ¬ (i : Int) < M := by omega
          have Hst := Lib.hid (Nt.sub_step (S := S) (t := x[i]?.getD 0 - bo - y[i]?.getD 0) (by have := hS.out; omega) hv.out rfl (by have := dy.out.at i; omega) (by have := dy.out.at i; omega))
          rw [e2, Int.sub_zero] at Hst
          clear e2
          by_cases hlt : x[i]?.getD 0 < bo
          · have hl2 : x[i]?.getD 0 - bo < 0 := by omega
            have hst := Hst.out
            rw [if_pos hl2, show (x[i]?.getD 0 - bo) % 4294967296 = x[i]?.getD 0 + 4294967296 - (bo) by omega] at hst
            have Hst2 := Lib.hid hst
            have hd1 : 0 ≤ x[i]?.getD 0 + 4294967296 - (bo) := by omega
            have hd2 : x[i]?.getD 0 + 4294967296 - (bo) < 4294967296 := by omega
            clear Hst hst hl2
            go_wp2
            go_roundw
            case rel => exact ⟨i + 1, _, _, by omega, by omega, by omega, rfl, by go_num, hk.set i _, by have := hS.out; show _ = _; simpa using this, dS.out.set i ⟨hd1, hd2⟩, Hst2.out, fun k hk' => by rw [List.getElem?_set_ne (by omega)]; exact hsame.out k (by omega), hy.out.setCell _ (fun p hp => by have := hAy p hp; show p.block ≠ g; omega), hbr.setCell (p := ⟨g, i, none⟩) hgw _⟩
            case measure => simp [intOf]; omega
          · have hl2 : ¬ x[i]?.getD 0 - bo < 0 := by omega
            have hst := Hst.out
            rw [if_neg hl2, show (x[i]?.getD 0 - bo) % 4294967296 = x[i]?.getD 0 - (bo) by omega] at hst
            have Hst2 := Lib.hid hst
            have hd1 : 0 ≤ x[i]?.getD 0 - (bo) := by omega
            have hd2 : x[i]?.getD 0 - (bo) < 4294967296 := by omega
            clear Hst hst hl2
            go_wp2
            go_roundw
            case rel => exact ⟨i + 1, _, _, by omega, by omega, by omega, rfl, by go_num, hk.set i _, by have := hS.out; show _ = _; simpa using this, dS.out.set i ⟨hd1, hd2⟩, Hst2.out, fun k hk' => by rw [List.getElem?_set_ne (by omega)]; exact hsame.out k (by omega), hy.out.setCell _ (fun p hp => by have := hAy p hp; show p.block ≠ g; omega), hbr.setCell (p := ⟨g, i, none⟩) hgw _⟩
            case measure => simp [intOf]; omega
      · obtain rfl : i = N := by omega
        have hval : Nt.val S = Nt.val a - Nt.val b := by
          have h1 := hv.out
          have h2 := Ev.out
          have h3 := Hle.out
          rw [Nt.valTo_all S (by have := hS.out; omega), Nt.valTo_all x (by have := eN.out; omega), Nt.valTo_all y (by have := eM.out; omega)] at h1
          have h5 := Nt.val_lt dS.out
          have h6 := Nt.val_nonneg dS.out
          rw [hS.out] at h5
          have h7 : bo = 0 := by
            rcases (show bo = 0 ∨ bo = 1 by omega) with h | h
            · exact h
            · rw [h] at h1; omega
          rw [h7] at h1
          omega
        have Hval := Lib.hid hval
        have Hsl := Lib.hid hk.slr
        clear hval hk
        go_wp2_with fail
        refine (rTrim_any _ _ _ _ _ Hsl.out dS.out (by omega)).mono ?_
        rintro e w4 ⟨A3, n3, c3, rfl, f3, hb4⟩
        have hf := f3.nat
        rw [Hval.out] at hf
        have HF := Lib.hid hf
        clear f3 hf
        go_wp2
        go_ret
        exact ⟨A3, n3, c3, rfl, HF.out.mono hbr.size, hbr.trans (hb4.mono hbr.size)⟩
end Go.Proofs.YtnedhbidmfoegaaGreat
