/- Contracts of nat: divide where the dividend is less, and by one digit. -/
import Derived.Test.YtnedhbidmfoegaaGreatNatH
namespace Go.Proofs.YtnedhbidmfoegaaGreat
open Go.RowKit
set_option linter.unusedVariables false
namespace Nt
theorem small_step {Q x : List Int} {i : Nat} {r y t : Int} (hy : 0 < y) (hi : i < Q.length) (hx : i < x.length) (h : val (x.drop (i + 1)) = val (Q.drop (i + 1)) * y + r) (ht : t = r * 4294967296 + x[i]?.getD 0) :
    val (x.drop i) = val ((Q.set i (t / y)).drop i) * y + t % y := by
  rw [val_drop_set _ hi, val_drop hx, h]
  have e := Int.mul_ediv_add_emod t y
  generalize t / y = q at *
  generalize t % y = s at *
  grind
theorem small_bd {r y t d : Int} (hy : 0 < y) (r0 : 0 ≤ r) (r1 : r < y) (d0 : 0 ≤ d) (d1 : d < 4294967296) (ht : t = r * 4294967296 + d) : 0 ≤ t / y ∧ t / y < 4294967296 ∧ 0 ≤ t % y ∧ t % y < y := by
  refine ⟨Int.ediv_nonneg (by omega) (by omega), ?_, Int.emod_nonneg _ (by omega), Int.emod_lt_of_pos _ hy⟩
  apply Int.ediv_lt_of_lt_mul hy
  have : (r + 1) * 4294967296 ≤ y * 4294967296 := Int.mul_le_mul_of_nonneg_right (by omega) (by omega)
  omega
theorem div_of {a b q r : Int} (hb : 0 < b) (h : a = q * b + r) (r0 : 0 ≤ r) (r1 : r < b) : a / b = q ∧ a % b = r := by
  have e : a = r + b * q := by rw [h, Int.mul_comm]; omega
  constructor
  · rw [e, Int.add_mul_ediv_left _ _ (by omega), Int.ediv_eq_zero_of_lt r0 r1]; omega
  · rw [e, Int.add_mul_emod_self_left, Int.emod_eq_of_lt r0 r1]
theorem strip_one {x : Int} (h0 : 0 ≤ x) (h1 : x < 4294967296) : strip [x] = digits x.toNat := by
  rw [strip_eq (Dig.cons ⟨h0, h1⟩ Dig.nil)]; simp [val]
end Nt
theorem NatF.below {w0 w w' : World} {A : Option Addr} {n c v : Nat} (h : NatF w0 w A n c v) (hb : Below w.heap.size w w') : NatF w0 w' A n c v := ⟨h.1, h.2.1.below hb, fun hp => by obtain ⟨a, e, k, t⟩ := h.2.2 hp; exact ⟨a, e, k, t.below hb⟩⟩
/-- What a division answers: the quotient and the remainder, in memory made since w0. -/
def DivF (w0 w : World) (e : Ending) (a b : Int) : Prop := ∃ A1 n1 c1 A2 n2 c2, e = .returned (.tuple #[.slice A1 n1 c1, .slice A2 n2 c2]) ∧ NatF w0 w A1 n1 c1 (a / b).toNat ∧ NatF w0 w A2 n2 c2 (a % b).toNat ∧ Below w0.heap.size w0 w
theorem divide_lt (A B : Option Addr) (n c m d : Nat) (a b : List Int) (w : World) (ha : SlR .u32 w A n c a) (hb : SlR .u32 w B m d b) (da : Nt.Dig a) (db : Nt.Dig b) (na : Nt.Norm a) (hn : n ≤ 1000000000) (hlt : Nt.val a < Nt.val b) :
    Calls Tryz.prog 193 #[.slice A n c, .slice B m d] w fun e w' => DivF w w' e (Nt.val a) (Nt.val b) := by
  have hcmp : Nt.cmpS (Nt.val a) (Nt.val b) = -1 := by unfold Nt.cmpS; rw [if_pos hlt]
  have Hcmp := Lib.hid hcmp
  have Hlt := Lib.hid hlt
  have Hna := Lib.hid (Nt.norm_eq da na)
  have Hn0 := Lib.hid (Nt.val_nonneg da)
  clear hcmp hlt na
  go_enter Tryz.func193, Tryz.ntmps193
  go_wp2_with fail
  refine (Compare_any _ _ _ _ _ _ _ _ _ ha hb da db).mono ?_
  rintro e w1 ⟨rfl, q, rfl⟩
  rw [Hcmp.out]
  go_wp2_with fail
  refine (CloneU_any _ _ _ _ _ (ha.drewN q) hn).mono ?_
  rintro e w1 ⟨A', c', rfl, hs, hf, hbl⟩
  have Hs := Lib.hid hs
  have Hf := Lib.hid hf
  have Hb := Lib.hid hbl
  clear hs hf hbl
  go_wp2
  go_ret2
  have e1 : Nt.val a / Nt.val b = 0 := Int.ediv_eq_zero_of_lt Hn0.out Hlt.out
  have e2 : Nt.val a % Nt.val b = Nt.val a := Int.emod_eq_of_lt Hn0.out Hlt.out
  refine ⟨none, 0, 0, A', n, c', rfl, ?_, ?_, ⟨Hb.out.os, Hb.out.tape, Hb.out.output, Hb.out.size, Hb.out.block⟩⟩
  · rw [e1]
    exact ⟨by simp [Nt.digits_zero], by simp [Nt.digits_zero]; exact SlR.nil _ _ _ (Nat.zero_le _), fun h => absurd h (by omega)⟩
  · rw [e2]
    exact ⟨by rw [← Hna.out]; exact ha.1.symm, by rw [← Hna.out]; exact Hs.out, Hf.out⟩
set_option maxHeartbeats 2000000 in
set_option maxRecDepth 100000 in
theorem divide_one (A B : Option Addr) (n c d : Nat) (a : List Int) (y : Int) (w : World) (ha : SlR .u32 w A n c a) (hb : SlR .u32 w B 1 d [y]) (da : Nt.Dig a) (db : 0 ≤ y ∧ y < 4294967296) (hy : 0 < y) (hn : n ≤ 1000000000) (hge : y ≤ Nt.val a) :
    Calls Tryz.prog 193 #[.slice A n c, .slice B 1 d] w fun e w' => DivF w w' e (Nt.val a) (Nt.val [y]) := by
  have hcmp : 0 ≤ Nt.cmpS (Nt.val a) (Nt.val [y]) := by
    have hv1 : Nt.val [y] = y := by simp [Nt.val]
    rw [hv1]; unfold Nt.cmpS; rw [if_neg (by omega)]; split <;> omega
  have hn1 : 1 ≤ n := by
    rcases Nat.eq_zero_or_pos n with h | h
    · have := ha.1
      have : a = [] := List.eq_nil_of_length_eq_zero (by omega)
      rw [this] at hge; simp [Nt.val] at hge; omega
    · exact h
  obtain ⟨s, hs⟩ : ∃ s, s = Nt.cmpS (Nt.val a) (Nt.val [y]) := ⟨_, rfl⟩
  have Hs := Lib.hid hs
  have hlen : Hid (a.length = n) := ha.1
  have Hda := Lib.hid da
  have hyb : (y == 0) = false := by rw [beq_eq_false_iff_ne]; omega
  rw [← hs] at hcmp
  clear hs hge
  go_enter Tryz.func193, Tryz.ntmps193
  go_wp2_with fail
  refine (Compare_any _ _ _ _ _ _ _ _ _ ha hb da (Nt.Dig.cons db Nt.Dig.nil)).mono ?_
  rintro e w1 ⟨rfl, q, rfl⟩
  rw [← Hs.out]
  clear Hs
  go_wp2_with (at_make; refine wpList_makeK _ rfl (.tmp 27) (.tmp 27) _ rfl 105 .u32 4 Tryz.underlying22 u32_info _ _ _ _ n rfl rfl ?L ?C ?b2 ?b3 ?_)
  case L => show _ = _; omega
  case C => show _ = _; omega
  case b2 => omega
  case b3 => unfold maxLen; omega
  intro w2 hk2 hb2' hz2
  have hb2 : Below w.heap.size w w2 := ⟨hb2'.os, hb2'.tape, hb2'.output, hb2'.size, hb2'.block⟩
  obtain ⟨g, hg⟩ : ∃ g, g = w.heap.size := ⟨_, rfl⟩
  have hgw : w.heap.size ≤ g := by omega
  rw [← hg] at hk2 ⊢
  have hab : SlR .u32 w A n c a := ha
  have hbb : SlR .u32 w B 1 d [y] := hb
  clear ha hb hz2 hb2' hg da
  go_wp2
  go_loopw [8, 9] (fun rv iv wr => ∃ (i : Nat) (r : Int) (Q : List Int), i ≤ n ∧ 0 ≤ r ∧ r < y ∧ rv = .int .u64 r ∧ iv = .int .i64 ((i : Int) - 1) ∧ KBlk .u32 wr g 105 Q ∧ Hid (Q.length = n) ∧ Hid (Nt.Dig Q) ∧ Hid (Nt.val (a.drop i) = Nt.val (Q.drop i) * y + r) ∧ Below w.heap.size w wr) (fun _ iv _ => (intOf iv + 1).toNat)
  case atStart => exact ⟨n, 0, _, by omega, by omega, by omega, rfl, rfl, hk2, by simp [Hid], Nt.Dig.repl _, by have := hlen.out; show _ = _; rw [Nt.val_drop_all (by omega), Nt.val_drop_all (by simp)]; simp, hb2⟩
  case round =>
    obtain ⟨i, r, Q, hin, r0, r1, rfl, rfl, hk, hQ, dQ, hv, hbr⟩ := hrel
    clear hk2 hb2
    rcases i with _ | i
    · have hv0 := hv.out
      simp only [List.drop_zero] at hv0
      have hdm := Nt.div_of hy hv0 r0 r1
      have hsl := hk.slr_all (n := n) (c := n) hQ.out (by omega) (by unfold maxLen; omega)
      have hfr := strip_fresh (w0 := w) hk hQ.out (by unfold maxLen; omega) dQ.out hgw
      have ev : Nt.val Q = Nt.val a / Nt.val [y] := by simp only [Nt.val, Int.mul_zero, Int.add_zero]; exact hdm.1.symm
      have er : r = Nt.val a % Nt.val [y] := by simp only [Nt.val, Int.mul_zero, Int.add_zero]; exact hdm.2.symm
      rw [ev] at hfr
      have HF := Lib.hid hfr
      have Her := Lib.hid er
      have r2 : r < 4294967296 := by omega
      clear hv hv0 hdm hfr ev er
      go_wp2_with fail
      refine (cut_any _ _ _ _ _ hsl).mono ?_
      rintro e w1 ⟨rfl, rfl⟩
      go_wp2_with fail
      refine (cut_any _ _ _ _ _ ((KBlk.new wr 105 [r]).slr_all (n := 1) (c := 1) rfl (Nat.le_refl _) (by decide))).mono ?_
      rintro e w1 ⟨rfl, rfl⟩
      have hf2 := strip_fresh (w0 := w) (m := 1) (KBlk.new wr 105 [r]) rfl (by decide) (Nt.Dig.cons ⟨r0, r2⟩ Nt.Dig.nil) (by have := hbr.size; omega)
      have hvr : Nt.val [r] = Nt.val a % Nt.val [y] := by rw [← Her.out]; simp [Nt.val]
      rw [hvr] at hf2
      have HF2 := Lib.hid hf2
      have HB : Hid (Below w.heap.size w (wr.alloc (.cells #[.int .u32 r] 105))) := hbr.alloc hbr.size _
      have HF1 : Hid (NatF w (wr.alloc (.cells #[.int .u32 r] 105)) (some ⟨g, 0, none⟩) (Nt.strip Q).length n (Nt.val a / Nt.val [y]).toNat) := HF.out.below ((Below.refl _ _).alloc (Nat.le_refl _) _)
      clear hf2 hvr Her
      go_wp2
      go_ret2
      exact ⟨_, _, _, _, _, _, rfl, HF1.out, HF2.out, HB.out⟩
    · obtain ⟨b1, o1, rfl, hlt, hc1⟩ := (hab.below hbr).pos (i := i) (by omega)
      obtain ⟨b2, o2, rfl, hlt2, hc2⟩ := (hbb.below hbr).pos (i := 0) (by omega)
      have hlt3 := (hbb.pos (i := 0) (by omega))
      obtain ⟨_, _, he', hlt3, _⟩ := hlt3
      have hb2g : b2 ≠ g := by cases he'; omega
      clear he' hlt3
      simp only [List.getElem?_cons_zero, Option.getD_some, Nat.add_zero] at hc2
      have hcq := hk.cell (i := i) (by have := hQ.out; omega)
      have hfq := hk.frozen i
      have hx := Hda.out.at i
      obtain ⟨x, hxx⟩ : ∃ x, x = a[i]?.getD 0 := ⟨_, rfl⟩
      rw [← hxx] at hc1 hx
      have Hx := Lib.hid hxx
      have hbd := Nt.small_bd hy r0 r1 hx.1 hx.2 rfl
      have Hst := Lib.hid (Nt.small_step (t := r * 4294967296 + x) hy (by have := hQ.out; omega) (by have := hlen.out; omega) hv.out (by rw [hxx]))
      have or1 := Nt.or_top r0 (by omega) hx.1 hx.2
      have hbd0 := hbd.1
      have hbd1 := hbd.2.1
      have hin' : (i : Int) < n := by omega
      clear hv hxx
      go_wp2
      go_roundw
      case rel => exact ⟨i, _, _, by omega, hbd.2.2.1, hbd.2.2.2, rfl, by go_num, hk.set i _, by have := hQ.out; show _ = _; simpa using this, dQ.out.set i ⟨hbd0, hbd1⟩, Hst.out, hbr.setCell (p := ⟨g, i, none⟩) hgw _⟩
      case measure => simp [intOf]
end Go.Proofs.YtnedhbidmfoegaaGreat
