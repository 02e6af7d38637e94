/- Contracts of nat: Add. -/
import Derived.Test.YtnedhbidmfoegaaGreatNatA
namespace Go.Proofs.YtnedhbidmfoegaaGreat
open Go.RowKit
set_option linter.unusedVariables false

theorem u32_info : (Tryz.prog.info? 105).map (fun i => (i.zero, i.size, i.bytes)) = some (some (.int .u32 0), 1, 4) := by kernel_rfl
/-- The slice reads as the digits of v, in memory made since w0. -/
def NatF (w0 w : World) (A : Option Addr) (n c v : Nat) : Prop := n = (Nt.digits v).length ∧ SlR .u32 w A n c (Nt.digits v) ∧ (0 < n → ∃ a, A = some a ∧ w0.heap.size ≤ a.block ∧ TyB w a.block 105)
namespace Nt
theorem add_step {S x y : List Int} {i : Nat} {c t : Int} (hi : i < S.length) (h : valTo S i + c * pw i = valTo x i + valTo y i) (ht : t = x[i]?.getD 0 + c + y[i]?.getD 0) :
    valTo (S.set i (t % 4294967296)) (i + 1) + (t / 4294967296) * pw (i + 1) = valTo x (i + 1) + valTo y (i + 1) := by
  rw [valTo_set S _ hi, valTo_succ, valTo_succ, pw]
  have e := Int.mul_ediv_add_emod t 4294967296
  generalize t % 4294967296 = r at *
  generalize t / 4294967296 = q at *
  grind
end Nt
theorem strip_fresh {w0 w : World} {g m : Nat} {l : List Int} (hk : KBlk .u32 w g 105 l) (hl : l.length = m) (hm : m ≤ maxLen) (hd : Nt.Dig l) (hg : w0.heap.size ≤ g) : NatF w0 w (some ⟨g, 0, none⟩) (Nt.strip l).length m (Nt.val l).toNat := by
  have e := Nt.strip_eq hd
  refine ⟨by rw [e], ?_, fun _ => ⟨_, rfl, hg, hk.ty⟩⟩
  rw [← e]
  have h := hk.slr (n := (Nt.strip l).length) (c := m) (Nt.strip_length_le l) (by rw [← hl]; exact Nt.strip_length_le l) hm
  rwa [← Nt.strip_take] at h

set_option maxHeartbeats 2000000 in
theorem Add_any (A B : Option Addr) (n c m d : Nat) (a b : List Int) (w : World) (ha : SlR .u32 w A n c a) (hb : SlR .u32 w B m d b) (da : Nt.Dig a) (db : Nt.Dig b) (hn : n ≤ 1000000000) (hm : m ≤ 1000000000) :
    Calls Tryz.prog 185 #[.slice A n c, .slice B m d] w fun e w' => ∃ A' n' c', e = .returned (.slice A' n' c') ∧ NatF w w' A' n' c' (Nt.val a + Nt.val b).toNat ∧ Below w.heap.size w w' := by
  have lx : (Nt.strip a).length ≤ n := by rw [← ha.1]; exact Nt.strip_length_le a
  have ly : (Nt.strip b).length ≤ m := by rw [← hb.1]; exact Nt.strip_length_le b
  have hx := ha.upto (m := (Nt.strip a).length) lx
  have hy := hb.upto (m := (Nt.strip b).length) ly
  rw [← Nt.strip_take] at hx hy
  have ev : Hid (Nt.val a + Nt.val b = Nt.val (Nt.strip a) + Nt.val (Nt.strip b)) := by show _ = _; rw [Nt.strip_val, Nt.strip_val]
  have dx := Lib.hid (Nt.strip_dig da)
  have dy := Lib.hid (Nt.strip_dig db)
  go_enter Tryz.func185, Tryz.ntmps185
  go_wp2_with fail
  refine (cut_any _ _ _ _ _ ha).mono ?_
  rintro e w1 ⟨rfl, rfl⟩
  go_wp2_with fail
  refine (cut_any _ _ _ _ _ hb).mono ?_
  rintro e w1 ⟨rfl, rfl⟩
  obtain ⟨X, hX⟩ : ∃ X, X = (Nt.strip a).length := ⟨_, rfl⟩
  obtain ⟨Y, hY⟩ : ∃ Y, Y = (Nt.strip b).length := ⟨_, rfl⟩
  have HX : Hid ((Nt.strip a).length = X) := hX.symm
  have HY : Hid ((Nt.strip b).length = Y) := hY.symm
  rw [← hX] at hx lx ⊢
  rw [← hY] at hy ly ⊢
  generalize Nt.strip a = x at *
  generalize Nt.strip b = y at *
  clear ha hb da db hX hY
  by_cases hlt : X < Y
  · have hlt' : (X : Int) < Y := by omega
    go_wp2_with (at_make; refine wpList_makeK _ rfl (.tmp 25) (.tmp 25) _ rfl 105 .u32 4 Tryz.underlying22 u32_info _ _ _ _ (Y + 1) rfl rfl ?L ?C ?b2 ?b3 ?_)
    case L => omega
    case C => omega
    case b2 => omega
    case b3 => unfold maxLen; omega
    intro w2 hk2 hb2 hz2
    obtain ⟨g, hg⟩ : ∃ g, g = w.heap.size := ⟨_, rfl⟩
    have hgw : w.heap.size ≤ g := by omega
    rw [← hg] at hk2 ⊢
    clear hz2 hg
    go_wp2
    go_loopw [8, 29] (fun cv iv wr => ∃ (i : Nat) (cy : Int) (S : List Int), i ≤ Y ∧ 0 ≤ cy ∧ cy ≤ 1 ∧ cv = .int .u64 cy ∧ iv = .int .i64 i ∧ KBlk .u32 wr g 105 S ∧ Hid (S.length = Y + 1) ∧ Hid (Nt.Dig S) ∧ Hid (Nt.valTo S i + cy * Nt.pw i = Nt.valTo y i + Nt.valTo x i) ∧ Below w.heap.size w wr) (fun _ iv _ => Y - (intOf iv).toNat)
    case atStart => exact ⟨0, 0, _, by omega, by omega, by omega, rfl, rfl, hk2, by simp [Hid], Nt.Dig.repl _, by simp [Hid, Nt.valTo_zero], hb2⟩
    case round =>
      obtain ⟨i, cy, S, hi, c0, c1, rfl, rfl, hk, hS, dS, hv, hbr⟩ := hrel
      clear hk2 hb2
      by_cases hiX : i < Y
      · obtain ⟨b1, o1, rfl, _, hc1⟩ := (hy.below hbr).pos hiX
        have q1 := dy.out.at i
        have q1a := q1.1
        have q1b := q1.2
        have hc3 := hk.cell (i := i) (by have := hS.out; omega)
        have hf3 := hk.frozen i
        clear q1
        by_cases hiY : i < X
        · obtain ⟨b2, o2, rfl, _, hc2⟩ := (hx.below hbr).pos hiY
          have q2 := dx.out.at i
          have q2a := q2.1
          have q2b := q2.2
          clear q2
          have hiY' : (i : Int) < X := by omega
          have Hst := Lib.hid (Nt.add_step (t := y[i]?.getD 0 + cy + x[i]?.getD 0) (by have := hS.out; omega) hv.out rfl)
          go_wp2
          go_roundw
          case rel => exact ⟨i + 1, _, _, by omega, by omega, by omega, rfl, by go_num, hk.set i _, by have := hS.out; show _ = _; simpa using this, dS.out.set i (by omega), Hst.out, hbr.setCell (p := ⟨g, i, none⟩) hgw _⟩
          case measure => simp [intOf]; omega
        · have hiY' : ¬ (i : Int) < X := by omega
          have e0 : x[i]?.getD 0 = 0 := by rw [List.getElem?_eq_none (by have := HX.out; omega)]; rfl
          have Hst := Lib.hid (Nt.add_step (t := y[i]?.getD 0 + cy) (by have := hS.out; omega) hv.out (by rw [e0]; omega))
          clear e0
          go_wp2
          go_roundw
          case rel => exact ⟨i + 1, _, _, by omega, by omega, by omega, rfl, by go_num, hk.set i _, by have := hS.out; show _ = _; simpa using this, dS.out.set i (by omega), Hst.out, hbr.setCell (p := ⟨g, i, none⟩) hgw _⟩
          case measure => simp [intOf]; omega
      · obtain rfl : i = Y := by omega
        have hc3 := hk.cell (i := i) (by have := hS.out; omega)
        have hf3 := hk.frozen i
        have hks := hk.set i cy
        have hds : Nt.Dig (S.set i cy) := dS.out.set i (by omega)
        have hls : (S.set i cy).length = i + 1 := by have := hS.out; simpa using this
        have hval : Nt.val (S.set i cy) = Nt.val a + Nt.val b := by
          have h1 := hv.out
          rw [← Nt.valTo_all (S.set i cy) (n := i + 1) (by omega), Nt.valTo_set S cy (by have := hS.out; omega), ev.out, Int.mul_comm, h1, Nt.valTo_all y (by have := HY.out; omega), Nt.valTo_all x (by have := HX.out; omega)]
          try omega
        have hsl := hks.slr_all (n := i + 1) (c := i + 1) hls (by omega) (by unfold maxLen; omega)
        have hfr := strip_fresh (w0 := w) hks hls (by unfold maxLen; omega) hds hgw
        rw [hval] at hfr
        have HF := Lib.hid hfr
        clear hval hfr hks hds hls
        go_wp2_with fail
        refine (cut_any _ _ _ _ _ hsl).mono ?_
        rintro e w1 ⟨rfl, rfl⟩
        go_wp2
        go_ret
        exact ⟨_, _, _, rfl, HF.out, hbr.setCell (p := ⟨g, i, none⟩) hgw _⟩
  · have hlt' : ¬ (X : Int) < Y := by omega
    go_wp2_with (at_make; refine wpList_makeK _ rfl (.tmp 25) (.tmp 25) _ rfl 105 .u32 4 Tryz.underlying22 u32_info _ _ _ _ (X + 1) rfl rfl ?L ?C ?b2 ?b3 ?_)
    case L => omega
    case C => omega
    case b2 => omega
    case b3 => unfold maxLen; omega
    intro w2 hk2 hb2 hz2
    obtain ⟨g, hg⟩ : ∃ g, g = w.heap.size := ⟨_, rfl⟩
    have hgw : w.heap.size ≤ g := by omega
    rw [← hg] at hk2 ⊢
    clear hz2 hg
    go_wp2
    go_loopw [8, 29] (fun cv iv wr => ∃ (i : Nat) (cy : Int) (S : List Int), i ≤ X ∧ 0 ≤ cy ∧ cy ≤ 1 ∧ cv = .int .u64 cy ∧ iv = .int .i64 i ∧ KBlk .u32 wr g 105 S ∧ Hid (S.length = X + 1) ∧ Hid (Nt.Dig S) ∧ Hid (Nt.valTo S i + cy * Nt.pw i = Nt.valTo x i + Nt.valTo y i) ∧ Below w.heap.size w wr) (fun _ iv _ => X - (intOf iv).toNat)
    case atStart => exact ⟨0, 0, _, by omega, by omega, by omega, rfl, rfl, hk2, by simp [Hid], Nt.Dig.repl _, by simp [Hid, Nt.valTo_zero], hb2⟩
    case round =>
      obtain ⟨i, cy, S, hi, c0, c1, rfl, rfl, hk, hS, dS, hv, hbr⟩ := hrel
      clear hk2 hb2
      by_cases hiX : i < X
      · obtain ⟨b1, o1, rfl, _, hc1⟩ := (hx.below hbr).pos hiX
        have q1 := dx.out.at i
        have q1a := q1.1
        have q1b := q1.2
        have hc3 := hk.cell (i := i) (by have := hS.out; omega)
        have hf3 := hk.frozen i
        clear q1
        by_cases hiY : i < Y
        · obtain ⟨b2, o2, rfl, _, hc2⟩ := (hy.below hbr).pos hiY
          have q2 := dy.out.at i
          have q2a := q2.1
          have q2b := q2.2
          clear q2
          have hiY' : (i : Int) < Y := by omega
          have Hst := Lib.hid (Nt.add_step (t := x[i]?.getD 0 + cy + y[i]?.getD 0) (by have := hS.out; omega) hv.out rfl)
          go_wp2
          go_roundw
          case rel => exact ⟨i + 1, _, _, by omega, by omega, by omega, rfl, by go_num, hk.set i _, by have := hS.out; show _ = _; simpa using this, dS.out.set i (by omega), Hst.out, hbr.setCell (p := ⟨g, i, none⟩) hgw _⟩
          case measure => simp [intOf]; omega
        · have hiY' : ¬ (i : Int) < Y := by omega
          have e0 : y[i]?.getD 0 = 0 := by rw [List.getElem?_eq_none (by have := HY.out; omega)]; rfl
          have Hst := Lib.hid (Nt.add_step (t := x[i]?.getD 0 + cy) (by have := hS.out; omega) hv.out (by rw [e0]; omega))
          clear e0
          go_wp2
          go_roundw
          case rel => exact ⟨i + 1, _, _, by omega, by omega, by omega, rfl, by go_num, hk.set i _, by have := hS.out; show _ = _; simpa using this, dS.out.set i (by omega), Hst.out, hbr.setCell (p := ⟨g, i, none⟩) hgw _⟩
          case measure => simp [intOf]; omega
      · obtain rfl : i = X := by omega
        have hc3 := hk.cell (i := i) (by have := hS.out; omega)
        have hf3 := hk.frozen i
        have hks := hk.set i cy
        have hds : Nt.Dig (S.set i cy) := dS.out.set i (by omega)
        have hls : (S.set i cy).length = i + 1 := by have := hS.out; simpa using this
        have hval : Nt.val (S.set i cy) = Nt.val a + Nt.val b := by
          have h1 := hv.out
          rw [← Nt.valTo_all (S.set i cy) (n := i + 1) (by omega), Nt.valTo_set S cy (by have := hS.out; omega), ev.out, Int.mul_comm, h1, Nt.valTo_all x (by have := HX.out; omega), Nt.valTo_all y (by have := HY.out; omega)]
          try omega
        have hsl := hks.slr_all (n := i + 1) (c := i + 1) hls (by omega) (by unfold maxLen; omega)
        have hfr := strip_fresh (w0 := w) hks hls (by unfold maxLen; omega) hds hgw
        rw [hval] at hfr
        have HF := Lib.hid hfr
        clear hval hfr hks hds hls
        go_wp2_with fail
        refine (cut_any _ _ _ _ _ hsl).mono ?_
        rintro e w1 ⟨rfl, rfl⟩
        go_wp2
        go_ret
        exact ⟨_, _, _, rfl, HF.out, hbr.setCell (p := ⟨g, i, none⟩) hgw _⟩
end Go.Proofs.YtnedhbidmfoegaaGreat
