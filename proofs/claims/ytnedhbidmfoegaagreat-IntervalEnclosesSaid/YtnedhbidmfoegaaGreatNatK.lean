/- Contracts of nat: divide by two digits or more (Knuth D), and any divide. -/
import Derived.Test.YtnedhbidmfoegaaGreatNatJ
namespace Go.Proofs.YtnedhbidmfoegaaGreat
open Go.RowKit
set_option linter.unusedVariables false
structure DivW (wr w : World) (gu gv gq i N n M : Nat) (A : Int) (v U Q : List Int) : Prop where
  ku : KBlk .u32 wr gu 105 U
  kv : KBlk .u32 wr gv 105 v
  kq : KBlk .u32 wr gq 105 Q
  lu : U.length = n + 1
  lq : Q.length = M
  d : Nt.DivL i N A (Nt.val v) U Q
  bel : Below w.heap.size w wr
theorem DivW.fin {wr w w6 : World} {gu gv gq N n M z gl : Nat} {a b v U Q SL : List Int} (h : DivW wr w gu gv gq 0 N n M (Nt.val a * 2 ^ z) v U Q) (hv : v.length = N + 2) (dv : Nt.Dig v) (ev : Nt.val v = Nt.val b * 2 ^ z) (hgw : w.heap.size ≤ gq) (hM : M ≤ 1000000000) (hn : n ≤ 1000000000) (hN : N + 2 ≤ n) (hb : Below wr.heap.size wr w6) (l1 : wr.heap.size ≤ gl) (l2 : KBlk .u32 w6 gl 105 SL) (l3 : SL.length = N + 2) (l4 : Nt.Dig SL) (l5 : Nt.val SL = Nt.val (U.take (N + 2)) / 2 ^ z) :
    DivF w w6 (.returned (.tuple #[.slice (some ⟨gq, 0, none⟩) (Nt.strip Q).length M, .slice (some ⟨gl, 0, none⟩) (Nt.strip SL).length (N + 2)])) (Nt.val a) (Nt.val b) := by
  have hlow := h.d.low
  have hsum := h.d.sum
  simp only [List.drop_zero, Nt.pw, Int.mul_one] at hlow hsum
  have hU0 := Nt.val_nonneg h.d.dU
  have e1 : Nt.val (U.take (N + 2)) = Nt.val U := (Nt.val_low h.d.dU (n := N + 2) (by have := Nt.val_lt dv; rw [hv] at this; omega)).2
  have hb2 := h.bel.size
  obtain ⟨q1, q2⟩ := Nt.div_end (a := Nt.val a) (b := Nt.val b) (Q := Nt.val Q) (U := Nt.val U) (Nt.p2_pos z) (by rw [hsum, ev]) hU0 (by omega)
  have f1 := strip_fresh (w0 := w) (h.kq.below hb h.kq.lt) h.lq (by unfold maxLen; omega) h.d.dQ hgw
  have f2 := strip_fresh (w0 := w) l2 l3 (by unfold maxLen; omega) l4 (by omega)
  rw [l5, e1, ← q2] at f2
  rw [← q1] at f1
  exact ⟨_, _, _, _, _, _, rfl, f1, f2, h.bel.trans (hb.mono hb2)⟩
set_option maxHeartbeats 2000000 in
set_option maxRecDepth 100000 in
theorem divide_long (A B : Option Addr) (n c N d : Nat) (a b : List Int) (w : World) (ha : SlR .u32 w A n c a) (hb : SlR .u32 w B (N + 2) d b) (da : Nt.Dig a) (db : Nt.Dig b) (na : Nt.Norm a) (nb : Nt.Norm b) (hn : n ≤ 1000000000) (hge : Nt.val b ≤ Nt.val a) :
    Calls Tryz.prog 193 #[.slice A n c, .slice B (N + 2) d] w fun e w' => DivF w w' e (Nt.val a) (Nt.val b) := by
  have hcmp : 0 ≤ Nt.cmpS (Nt.val a) (Nt.val b) := by unfold Nt.cmpS; rw [if_neg (by omega)]; split <;> omega
  have hn1 : N + 2 ≤ n := by
    rcases Nat.lt_or_ge n (N + 2) with h | h
    · have := Nt.len_lt da db nb (by rw [ha.1, hb.1]; exact h)
      omega
    · exact h
  obtain ⟨M, hM⟩ : ∃ M, n = M + (N + 1) := ⟨n - (N + 1), by omega⟩
  have hla := Lib.hid ha.1
  have hlb := Lib.hid hb.1
  have hyt := Nt.norm_last (k := N + 1) nb hb.1
  have hyd := db.at (N + 1)
  obtain ⟨y, hyy⟩ : ∃ y, y = b[N + 1]?.getD 0 := ⟨_, rfl⟩
  have hby := hb.pos (i := N + 1) (by omega)
  rw [← hyy] at hyt hyd hby
  have Hyy := Lib.hid hyy
  obtain ⟨z, hz1, hz2, hz3, hz4⟩ := lz_spec (x := y.toNat) (by omega) (by omega)
  have Hz1 := Lib.hid hz1
  have Hz3 : Hid (2147483648 ≤ y * 2 ^ z ∧ (y + 1) * 2 ^ z ≤ 4294967296) := by
    have e : ((y.toNat * 2 ^ z : Nat) : Int) = y * 2 ^ z := by rw [Int.natCast_mul, Int.natCast_pow]; congr 1; omega
    have hs := Nt.p2_split hz2
    have p0 := Nt.p2_pos z
    refine ⟨by omega, ?_⟩
    have h4 : y * 2 ^ z < 2 ^ (32 - z) * 2 ^ z := by rw [Int.mul_comm (2 ^ (32 - z)), hs]; omega
    have h5 := Int.lt_of_mul_lt_mul_right h4 (by omega)
    have h6 : (y + 1) * 2 ^ z ≤ 2 ^ (32 - z) * 2 ^ z := Int.mul_le_mul_of_nonneg_right (by omega) (by omega)
    rw [Int.mul_comm (2 ^ (32 - z)), hs] at h6
    exact h6
  obtain ⟨b1, o1, rfl, hb1, hc1⟩ := hby
  obtain ⟨s, hs⟩ : ∃ s, s = Nt.cmpS (Nt.val a) (Nt.val b) := ⟨_, rfl⟩
  have Hs := Lib.hid hs
  have Hna := Lib.hid na
  have Hnb := Lib.hid nb
  have Hda := Lib.hid da
  have Hdb := Lib.hid db
  have HM := Lib.hid hM
  have hMn : M + (N + 1) ≤ n ∧ n ≤ M + (N + 1) := by omega
  rw [← hs] at hcmp
  clear hs hge na nb hz1 hz3 hz4 hyy hM
  go_enter Tryz.func193, Tryz.ntmps193
  go_wp2_with fail
  refine (Compare_any _ _ _ _ _ _ _ _ _ ha hb da db).mono ?_
  rintro e w1 ⟨rfl, q, rfl⟩
  rw [← Hs.out]
  clear Hs
  have hb0 : ((N : Int) + 2 == 1) = false := by rw [beq_eq_false_iff_ne]; omega
  go_wp2_with (at_make; refine wpList_makeK _ rfl (.tmp 27) (.tmp 27) _ rfl 105 .u32 4 Tryz.underlying22 u32_info _ _ _ _ M rfl rfl ?L ?C ?b2 ?b3 ?_)
  case L => show _ = _; omega
  case C => show _ = _; omega
  case b2 => omega
  case b3 => unfold maxLen; omega
  intro w2 hk2 hb2' hz2'
  have hb2 : Below w.heap.size w w2 := ⟨hb2'.os, hb2'.tape, hb2'.output, hb2'.size, hb2'.block⟩
  have hc2 : w2.cell? ⟨b1, o1 + (N + 1), none⟩ = some (.int .u32 y) := (hb2.cell (p := ⟨b1, o1 + (N + 1), none⟩) hb1).trans hc1
  obtain ⟨gq, hg⟩ : ∃ g, g = w.heap.size := ⟨_, rfl⟩
  have hgw : w.heap.size ≤ gq := by omega
  have hgq : gq < w2.heap.size := by omega
  have ha2 := ha.below hb2
  have hb2s := hb.below hb2
  rw [← hg] at hk2 ⊢
  clear hz2' hg hb2' hc1
  go_wp2_with fail
  refine (LeadingZeros32_any y _ hyd.1 hyd.2).mono ?_
  rintro e w1 ⟨rfl, rfl⟩
  rw [Hz1.out]
  have hlz : (0 : Int) ≤ (z : Int) ∧ (z : Int) < 32 := by omega
  go_wp2_with fail
  refine (lift_any _ _ _ z (n + 1) _ _ ha2 da hn hz2 (.inr rfl)).mono ?_
  rintro e w3 ⟨gu, rfl, hL1, hb3⟩
  have hb13 : Below w.heap.size w w3 := hb2.trans (hb3.mono hb2.size)
  have hL1' := Lib.hid hL1
  clear hL1
  go_wp2_with fail
  refine (lift_any _ _ _ z (N + 2) _ _ (hb2s.below hb3) db (by omega) hz2 (.inl rfl)).mono ?_
  rintro e w4 ⟨gv, rfl, hL2, hb4⟩
  have Hst : Hid (∃ U v, DivW w4 w gu gv gq M N n M (Nt.val a * 2 ^ z) v U (List.replicate M 0) ∧ Nt.Dig v ∧ v.length = N + 2 ∧ Nt.val v = Nt.val b * 2 ^ z ∧ 2147483648 ≤ v[N + 1]?.getD 0 ∧ gu ≠ gv ∧ gq ≠ gu ∧ gq ≠ gv ∧ w.heap.size ≤ gu) := by
    obtain ⟨U, lo, p1, p2, p3, p4, p5, p6, p7⟩ := hL1'.out
    obtain ⟨v, lo2, q1, q2, q3, q4, q5, q6, q7⟩ := hL2
    have hlt := p2.lt
    have hp0 := Nt.p2_pos z
    obtain ⟨l1, l2⟩ := Nt.liftv Hdb.out hlb.out q4 q3 q5 q7 hp0 Hyy.out Hz3.out.1 Hz3.out.2
    rw [p6 rfl] at p7
    have hU : Nt.val U = Nt.val a * 2 ^ z := by omega
    have l3 := Nt.liftu (z := 2 ^ z) (N := N) (M := M) (lo := 0) Hda.out hla.out p4 hU (by have := HM.out; omega) hp0 (Nt.p2_le hz2) q4 q3 l2
    refine ⟨U, v, ⟨p2.below hb4 hlt, q2, (hk2.below hb3 hgq).below hb4 (by have := hb3.size; omega), p3, by simp, Nt.DivL.start (a := a) p4 (Nt.Dig.repl _) (by simp) hU.symm l3, hb13.trans (hb4.mono hb13.size)⟩, q4, q3, l1, l2, by omega, by omega, by have := hb3.size; omega, by have := hb2.size; omega⟩
  clear hk2 ha2 hb2s hb2 hc2 hb3 hb13 hL1' hb4 hL2
  obtain ⟨U0, v, hW, dv, lv, ev, tv, n1, n2, n3, n4⟩ := Hst.out
  have HW := Lib.hid hW
  have Hdv := Lib.hid dv
  have Hlv := Lib.hid lv
  have Hev := Lib.hid ev
  have Htv := Lib.hid tv
  clear Hst hW dv lv ev tv ha hb da db Hz1 Hz3 Hyy
  go_wp2
  go_loopw [14] (fun iv wr => ∃ (i : Nat) (U Q : List Int), i ≤ M ∧ iv = .int .i64 ((i : Int) - 1) ∧ DivW wr w gu gv gq i N n M (Nt.val a * 2 ^ z) v U Q) (fun iv _ => (intOf iv + 1).toNat)
  case atStart => exact ⟨M, _, _, by omega, by congr 1; omega, HW.out⟩
  case round =>
    obtain ⟨i, U, Q, hi, rfl, hr⟩ := hrel
    clear HW
    rcases i with _ | j
    · have Hr := Lib.hid hr
      clear hr
      go_wp2
      have hsq : SlR .u32 wr (some ⟨gq, 0, none⟩) M M Q := Hr.out.kq.slr_all Hr.out.lq (Nat.le_refl _) (by unfold maxLen; omega)
      have hsu : SlR .u32 wr (some ⟨gu, 0, none⟩) (N + 2) (n + 1) (U.take (N + 2)) := Hr.out.ku.slr (by have := Hr.out.lu; omega) (by omega) (by unfold maxLen; omega)
      have Hdu := Lib.hid (Hr.out.d.dU.take (N + 2))
      have hN1 : (N : Int) + 2 ≤ (n : Int) + 1 := by omega
      go_region_with (first
        | (go_at_call_of 187 (Value.slice (some ⟨gq, 0, none⟩) M M); refine (cut_any (some ⟨gq, 0, none⟩) M M Q _ ?_).mono ?_; (first | exact hsq | exact hsq.below hbl); rintro e w' ⟨rfl, rfl⟩)
        | (go_at_call 210; refine (lower_any _ _ _ z _ _ ?_ Hdu.out (by omega) hz2).mono ?_; exact hsu; rintro e w6 ⟨gl, rfl, ⟨SL, l1, l2, l3, l4, l5⟩, hbl⟩)
        | (go_at_call 187; refine (cut_any _ _ _ SL _ ?_).mono ?_; exact l2.slr_all l3 (Nat.le_refl _) (by unfold maxLen; omega); rintro e w' ⟨rfl, rfl⟩))
      all_goals
        have HF := Lib.hid (Hr.out.fin (w6 := w6) (b := b) Hlv.out Hdv.out Hev.out hgw (by omega) hn hn1 ⟨hbl.os, hbl.tape, hbl.output, hbl.size, hbl.block⟩ l1 l2 l3 l4 l5)
        clear l1 l2 l3 l4 l5 hbl
        go_wp2
        go_ret2
        exact HF.out
    · have hU := Lib.hid (hr.d.pre (by have := hr.lu; omega) Hlv.out Hdv.out)
      have Hr := Lib.hid hr
      have hfq := hr.kq.frozen j
      have hcq := hr.kq.cell (i := j) (by have := hr.lq; omega)
      have hjn : (j : Int) + (N + 2) + 1 ≤ (n : Int) + 1 := by omega
      clear hr
      go_wp2_with fail
      rw [show j + (N + 2) + 1 - j = N + 3 by omega]
      refine (digit_any gu gv j N (n + 1 - j) (N + 2) U v wr Hr.out.ku Hr.out.kv (fun h => n1 h.symm) (by have := Hr.out.lu; omega) Hlv.out Hr.out.d.dU Hdv.out (by omega) (by omega) (by unfold maxLen; omega) (Nat.le_refl _) (by unfold maxLen; omega) Htv.out hU.out).mono ?_
      rintro e w5 ⟨qd, rfl, hD⟩
      have HD := Lib.hid hD
      have Hn : Hid (∃ U', DivW (w5.setCell ⟨gq, j, none⟩ (.int .u32 qd)) w gu gv gq j N n M (Nt.val a * 2 ^ z) v U' (Q.set j qd)) := by
        obtain ⟨U', d1, d2, d3, d4, d5, d6, d7, d8, d9⟩ := hD
        have hq := Hr.out.kq.only d9 n2
        exact ⟨U', d1.far (p := ⟨gq, j, none⟩) (fun h => n2 h.symm) _, (Hr.out.kv.only d9 (fun h => n1 h.symm)).far (p := ⟨gq, j, none⟩) (fun h => n3 h.symm) _, hq.set j qd, by rw [d2]; exact Hr.out.lu, by rw [List.length_set]; exact Hr.out.lq, Hr.out.d.next (by have := Hr.out.lu; omega) (by have := Hr.out.lq; omega) Hlv.out Hdv.out d2 d3 d4 d5 d6 d7 d8, (Below.only Hr.out.bel d9 n4).setCell (p := ⟨gq, j, none⟩) hgw _⟩
      have hq : Hid (KBlk .u32 w5 gq 105 Q) := by
        obtain ⟨U', d1, d2, d3, d4, d5, d6, d7, d8, d9⟩ := hD
        exact Hr.out.kq.only d9 n2
      have hfq := hq.out.frozen j
      have hcq := hq.out.cell (i := j) (by have := Hr.out.lq; omega)
      have hjM : (j : Int) < M := by omega
      clear hD HD hU Hr
      go_wp2
      go_roundw
      case rel =>
        obtain ⟨U', h'⟩ := Hn.out
        exact ⟨j, U', _, by omega, rfl, h'⟩
      case measure => simp [intOf]
theorem divide_any (A B : Option Addr) (n c m d : Nat) (a b : List Int) (w : World) (ha : SlR .u32 w A n c a) (hb : SlR .u32 w B m d b) (da : Nt.Dig a) (db : Nt.Dig b) (na : Nt.Norm a) (nb : Nt.Norm b) (hn : n ≤ 1000000000) (hm : 0 < m) :
    Calls Tryz.prog 193 #[.slice A n c, .slice B m d] w fun e w' => DivF w w' e (Nt.val a) (Nt.val b) := by
  rcases Int.lt_or_le (Nt.val a) (Nt.val b) with h | h
  · exact divide_lt _ _ _ _ _ _ _ _ _ ha hb da db na hn h
  · rcases m with _ | _ | N
    · omega
    · obtain ⟨y, rfl⟩ : ∃ y, b = [y] := List.length_eq_one_iff.1 hb.1
      have hy := db.head
      have hl := Nt.norm_last (k := 0) nb rfl
      simp at hl
      exact divide_one _ _ _ _ _ _ _ _ ha hb da hy (by omega) hn (by simpa [Nt.val] using h)
    · exact divide_long _ _ _ _ _ _ _ _ _ ha hb da db na nb hn h
end Go.Proofs.YtnedhbidmfoegaaGreat
