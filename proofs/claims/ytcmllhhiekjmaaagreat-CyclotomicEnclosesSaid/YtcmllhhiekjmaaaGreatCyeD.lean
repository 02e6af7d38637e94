/- Parts of the proof: contracts of functions, each walked once, and plain laws. -/
import Derived.Test.YtcmllhhiekjmaaaGreatCyeC
import Derived.BigRegion
import Derived.Test.YtcmllhhiekjmaaaGreatProg
import Derived.KernelRfl
set_option linter.unusedVariables false
set_option maxHeartbeats 8000000
namespace Go.Proofs.YtcmllhhiekjmaaaGreat
open Nt
open Go.RowKit
def zeros : List Int := List.replicate 64 0
theorem zeros_length : zeros.length = 64 := by simp [zeros]
theorem sum_size : (Tryz.prog.info? 98).map (·.size) = some 64 := by kernel_rfl
theorem wpList_load_sum {ops : Array Oper} {rest : List Oper} {o : Oper} {a : Act} {w : World} {Q : Exit → Act → World → Prop} (hgd : o.guard = none) (x : Operand) (ho : o.op = .load 98 x)
  (g : Nat) (hx : a.eval x = .pointer (some ⟨g, 0, none⟩)) (t : TypeId) (l : List Int) (hk : KBlk .i64 w g t l) (hl : l.length = 64)
  (h : wpList Tryz.prog ops Q rest (a.put o.dst (arr l)) w) : wpList Tryz.prog ops Q (o :: rest) a w :=
 wpList_load_row hgd _ x ho g hx t _ (0, 0) _ hk sum_under rfl (by rw [sum_size]; simp [hl]) h
theorem run_alloc_sum (w : World) : (Instr.alloc 98 true (.tuple #[])).run Tryz.prog w = .ok (.pointer (some ⟨w.heap.size, 0, none⟩)) (w.alloc (.cells (zeros.map (Value.int .i64)).toArray 98)) := by kernel_rfl
theorem wpList_alloc_sum {ops : Array Oper} {rest : List Oper} {o : Oper} {a : Act} {w : World} {Q : Exit → Act → World → Prop} (hgd : o.guard = none) (ho : o.op = .alloc 98)
  (h : ∀ w', KBlk .i64 w' w.heap.size 98 zeros → Below w.heap.size w w' → w'.heap.size = w.heap.size + 1 → wpList Tryz.prog ops Q rest (a.put o.dst (.pointer (some ⟨w.heap.size, 0, none⟩))) w') : wpList Tryz.prog ops Q (o :: rest) a w := by
 refine wpList_plain hgd fun K hK => ?_
 unfold Oper.wp execOp
 simp only [ho, Sem.run_bind, Sem.run_pure, Result.andThen_ok, run_alloc_sum]
 exact hK _ _ (h _ (KBlk.new w _ zeros) ((Below.refl _ _).alloc qyl _) (by simp))
theorem Root_yes (k z : Int) (w : World) (hk1 : -9223372036854775808 ≤ k) (hk2 : k ≤ 9223372036854775807) (h1 : 1 ≤ z) (h2 : z ≤ 64) :
  qyc 68 #[.int .i64 k, .int .i64 z] w fun e w' => ∃ A c, e = .returned (.tuple #[.slice A (Cyc.deg z.toNat) c, .int .i64 0]) ∧ OwnK .i64 w' w.heap.size 3 A (Cyc.deg z.toNat) c (Cyc.normalW (zeros.set (k % z).toNat 1) z.toNat) ∧ Below w.heap.size w w' := by
 have hr1 := Int.emod_nonneg k (show z ≠ 0 by omega)
 have hr2 := Int.emod_lt_of_pos k (show 0 < z by omega)
 obtain ⟨r, hr⟩ := Int.eq_ofNat_of_zero_le hr1
 have Hr := Lib.hid hr
 rw [hr] at hr1 hr2 ⊢
 clear hr
 rw [Int.toNat_natCast]
 go_enter Tryz.func68, Tryz.ntmps68
 go_wp2_with fail
 refine (permitted_yes z _ h1 h2).mono ?_
 rintro e w1 ⟨rfl, rfl⟩
 go_wp2_with (with_reducible refine wpList_alloc_sum rfl rfl ?_)
 intro w0 aa ab hz0
 go_wp2_with fail
 refine (residue_any k z _ hk1 hk2 h1 h2).mono ?_
 rintro e w1 ⟨rfl, rfl⟩
 rw [Hr.out]
 have hc0 := aa.cell (i := r) (by rw [zeros_length]; omega)
 have hf0 := aa.frozen r
 have hs0 := aa.set r 1
 have hb1 := ab.setCell (p := ⟨w.heap.size, r, none⟩) qyl (.int .i64 1)
 go_wp2_with (with_reducible refine wpList_load_sum rfl (.tmp 6) rfl w.heap.size rfl _ _ hs0 (by simp [zeros_length]) ?_)
 refine (normal_any _ z _ (by simp [zeros_length]) h1 h2).mono ?_
 rintro e w1 ⟨A, c, rfl, ho, hb⟩
 go_wp2
 go_ret2
 have hbz := ab.setCell (p := ⟨w.heap.size, r, none⟩) qyl (.int .i64 1)
 exact ⟨A, c, rfl, ho.mono hbz.size, hbz.trans (hb.mono hbz.size)⟩
theorem known_T6 : Cyc.T 6 = [1, -1, 1] := by decide +kernel
theorem known_R : Cyc.normalW (zeros.set 3 1) 4 = [0, -1] := by decide +kernel
theorem known_d : Cyc.deg 4 = 2 := by decide +kernel
theorem known_true (w : World) : qyc 13 #[] w fun e w' => e = .returned (.bool true) ∧ Below w.heap.size w w' := by
 go_enter Tryz.func13, Tryz.ntmps13
 go_wp2_with fail
 refine (Phi_yes 6 _ xq xq).mono ?_
 rintro e w1 ⟨A1, c1, rfl, af, ae⟩
 rw [show (6 : Int).toNat = 6 from rfl, known_T6] at af ⊢
 go_wp2_with fail
 refine (Root_yes (-1) 4 _ xq xq xq xq).mono ?_
 rintro e w2 ⟨A2, c2, rfl, ad, ac⟩
 rw [show (4 : Int).toNat = 4 from rfl, show ((-1 : Int) % 4).toNat = 3 from rfl, known_R, known_d] at ad
 rw [show (4 : Int).toNat = 4 from rfl, known_d]
 have hsa : SlR .i64 (w2.alloc (Obj.cells #[Value.int IntKind.i64 1, Value.int IntKind.i64 (-1), Value.int IntKind.i64 1] 3)) A1 3 c1 [1, -1, 1] := (af.slr.below ac).alloc _
 have hsb : SlR .i64 (w2.alloc (Obj.cells #[Value.int IntKind.i64 1, Value.int IntKind.i64 (-1), Value.int IntKind.i64 1] 3)) (some ⟨w2.heap.size, 0, none⟩) 3 3 [1, -1, 1] := (KBlk.new w2 3 [1, -1, 1]).slr_all rfl xq xw
 have hsc : SlR .i64 (w2.alloc (Obj.cells #[Value.int IntKind.i64 1, Value.int IntKind.i64 (-1), Value.int IntKind.i64 1] 3)) A2 2 c2 [0, -1] := ad.slr.alloc _
 have aa : Below w.heap.size w w2 := ae.trans (ac.mono ae.size)
 go_wp2_with fail
 refine (SameInts_eq _ _ 3 _ _ _ _ hsa hsb).mono ?_
 rintro e w3 ⟨rfl, m3, rfl⟩
 generalize hw3 : (w2.alloc (Obj.cells #[Value.int IntKind.i64 1, Value.int IntKind.i64 (-1), Value.int IntKind.i64 1] 3)).drewN m3 = w3
 have ab : Below w.heap.size w w3 := by rw [← hw3]; exact aa.trans ⟨rfl, rfl, rfl, by simp, fun k hk => Below.heap_alloc w2 _ k (by have := aa.size; omega)⟩
 have hsd : SlR .i64 w3 A2 2 c2 [0, -1] := by rw [← hw3]; exact hsc.drewN m3
 clear hw3 hsa hsb hsc ae ac af ad aa
 have hse : SlR .i64 (w3.alloc (Obj.cells #[Value.int IntKind.i64 0, Value.int IntKind.i64 (-1)] 3)) A2 2 c2 [0, -1] := hsd.alloc _
 have hsf : SlR .i64 (w3.alloc (Obj.cells #[Value.int IntKind.i64 0, Value.int IntKind.i64 (-1)] 3)) (some ⟨w3.heap.size, 0, none⟩) 2 2 [0, -1] := (KBlk.new w3 3 [0, -1]).slr_all rfl xq xw
 go_wp2_with fail
 refine (SameInts_eq _ _ 2 _ _ _ _ hse hsf).mono ?_
 rintro e w4 ⟨rfl, m4, rfl⟩
 go_wp2
 go_ret
 exact ⟨rfl, ab.trans ⟨rfl, rfl, rfl, by simp, fun k hk => Below.heap_alloc w3 _ k (by have := ab.size; omega)⟩⟩
def Fit (l : List Int) : Prop := ∀ i : Nat, -9223372036854775808 ≤ l[i]?.getD 0 ∧ l[i]?.getD 0 ≤ 9223372036854775807
theorem wrap64_bd (x : Int) : -9223372036854775808 ≤ wrap64 x ∧ wrap64 x ≤ 9223372036854775807 := by unfold wrap64; omega
theorem At_any (A : Option Addr) (n c : Nat) (l : List Int) (i : Int) (w : World) (h : SlR .i64 w A n c l) (hf : Fit l) :
  qyc 25 #[.slice A n c, .int .i64 i] w fun e w' => (∃ x : Int, e = .returned (.int .i64 x) ∧ -9223372036854775808 ≤ x ∧ x ≤ 9223372036854775807) ∧ w = w' := by
 have hnm : n ≤ maxLen := Nat.le_trans h.2.1 h.2.2.1
 unfold maxLen at hnm
 by_cases h0 : 0 ≤ i
 ·obtain ⟨k, rfl⟩ := Int.eq_ofNat_of_zero_le h0
  by_cases h1 : k < n
  ·obtain ⟨b, o, rfl, _, hc⟩ := h.pos h1
   have hlt : (k : Int) < n := by omega
   go_enter Tryz.func25, Tryz.ntmps25
   go_wp2
   go_ret
   exact ⟨⟨_, rfl, hf k⟩, rfl⟩
  have hlt : ¬ (k : Int) < n := by omega
  have hlt' : decide ((k : Int) < n) = false := by simpa using hlt
  go_enter Tryz.func25, Tryz.ntmps25
  go_wp2
  go_ret
  exact ⟨⟨0, rfl, by omega, by omega⟩, rfl⟩
 have hlt' : decide ((0 : Int) ≤ i) = false := by simpa using h0
 go_enter Tryz.func25, Tryz.ntmps25
 go_wp2
 go_ret
 exact ⟨⟨0, rfl, by omega, by omega⟩, rfl⟩
def Bd (b : Int) (l : List Int) : Prop := ∀ x ∈ l, -b ≤ x ∧ x ≤ b
theorem Below_any (b : Int) (A : Option Addr) (n c : Nat) (l : List Int) (k : Int) (w : World) (h : SlR .i64 w A n c l) (hf : Fit l) (hb1 : 1 ≤ b) (hb2 : b ≤ 1000) (hk0 : 0 ≤ k) (hk : k ≤ 100) :
  qyc 47 #[.int .i64 b, .slice A n c, .int .i64 k] w fun e w' => ∃ A' c' l', e = .returned (.slice A' k.toNat c') ∧ OwnK .i64 w' w.heap.size 3 A' k.toNat c' l' ∧ Hid (Bd b l') ∧ Below w.heap.size w w' := by
 obtain ⟨m, rfl⟩ := Int.eq_ofNat_of_zero_le hk0
 rw [Int.toNat_natCast]
 go_enter Tryz.func47, Tryz.ntmps47
 go_wp2
 go_loopw [7, 8] (fun x y wr => ∃ (i : Nat) (A' : Option Addr) (c' : Nat) (l' : List Int), i ≤ m ∧ x = .slice A' i c' ∧ y = .int .i64 i ∧ OwnK .i64 wr w.heap.size 3 A' i c' l' ∧ Hid (Bd b l') ∧ Below w.heap.size w wr) (fun _ y _ => m - (intOf y).toNat)
 case atStart => exact ⟨0, none, 0, [], by omega, rfl, rfl, ⟨rfl, World.ownsRow_nil _ _ _ _⟩, fun x hx => by simp at hx, Below.refl _ _⟩
 case round =>
  obtain ⟨i, A', c', l', hi, rfl, rfl, ho, hbd, hb⟩ := hrel
  by_cases him : i < m
  ·have hl : (i : Int) < m := by omega
   go_wp2_with fail
   refine (At_any A n c l _ _ (h.below hb) hf).mono ?_
   rintro e w1 ⟨⟨x, rfl, hx1, hx2⟩, rfl⟩
   go_wp2_with fail
   have hwb := wrap64_bd (x + b)
   refine (within_any _ _ _ hwb.1 hwb.2 xq xq).mono ?_
   rintro e w1 ⟨rfl, rfl⟩
   have hy1 := Int.emod_nonneg (wrap64 (x + b)) (show 2 * b + 1 ≠ 0 by omega)
   have hy2 := Int.emod_lt_of_pos (wrap64 (x + b)) (show 0 < 2 * b + 1 by omega)
   generalize wrap64 (x + b) % (2 * b + 1) = y at *
   have hsl : SlR .i64 (wr.alloc (.cells #[.int .i64 (y - b)] 3)) (some ⟨wr.heap.size, 0, none⟩) 1 1 [y - b] := (KBlk.new wr 3 [y - b]).slr_all rfl xq xw
   have hoa : OwnK .i64 (wr.alloc (.cells #[.int .i64 (y - b)] 3)) w.heap.size 3 A' i c' l' := ho.below ((Below.refl _ _).alloc qyl _)
   have hba : Below w.heap.size w (wr.alloc (.cells #[.int .i64 (y - b)] 3)) := hb.alloc hb.size _
   clear hwb
   go_wp2_with (at_builtin; refine zxb _ rfl (.tmp 14) (.tmp 26) _ rfl 3 .i64 8 Tryz.underlying22 int_info w.heap.size A' i c' l' rfl hoa (some ⟨wr.heap.size, 0, none⟩) 1 1 [y - b] rfl hsl ?h63 ?hby ?hbase ?_)
   case h63 => unfold maxLen; omega
   case hby => omega
   case hbase => have := hba.size; simpa using this
   intro A2 c2 w3 aa ab
   clear hsl hoa
   go_wp2
   go_roundw
   case rel => exact ⟨i + 1, A2, c2, _, by omega, rfl, by go_num, aa, by
    intro z hz
    rcases List.mem_append.1 hz with hz | hz
    ·exact hbd.out z hz
    simp at hz; subst hz; omega, hba.trans ab⟩
   case measure => simp [intOf]; omega
  obtain rfl : i = m := by omega
  go_wp2
  go_ret
  exact ⟨A', c', l', rfl, ho, hbd, hb⟩
theorem smallC_any (A : Option Addr) (n c : Nat) (l : List Int) (w : World) (hsl : SlR .i64 w A n c l) (hf : Fit l) :
  qyc 8 #[.slice A n c] w fun e w' => ∃ m A' c' l', m ≤ 40 ∧ e = .returned (.slice A' m c') ∧ OwnK .i64 w' w.heap.size 3 A' m c' l' ∧ Hid (Bd 200 l') ∧ Below w.heap.size w w' := by
 have hnm : n ≤ maxLen := Nat.le_trans hsl.2.1 hsl.2.2.1
 unfold maxLen at hnm
 by_cases hn : n ≤ 40
 ·have hmin : min (n : Int) 40 = n := by omega
  go_enter Tryz.func8, Tryz.ntmps8
  go_wp2_with fail
  refine (Below_any 200 A n c l _ _ hsl hf xq xq xq xq).mono ?_
  rintro e w1 ⟨A', c', l', rfl, ho, hbd, hb⟩
  rw [Int.toNat_natCast] at ho ⊢
  go_wp2
  go_ret
  exact ⟨n, A', c', l', hn, rfl, ho, hbd, hb⟩
 have hmin : min (n : Int) 40 = 40 := by omega
 go_enter Tryz.func8, Tryz.ntmps8
 go_wp2_with fail
 refine (Below_any 200 A n c l _ _ hsl hf xq xq xq xq).mono ?_
 rintro e w1 ⟨A', c', l', rfl, ho, hbd, hb⟩
 rw [show (40 : Int).toNat = 40 from rfl] at ho ⊢
 go_wp2
 go_ret
 exact ⟨40, A', c', l', by omega, rfl, ho, hbd, hb⟩
def anyTo (p : Nat → Bool) : Nat → Bool
 | 0 => false
 | m + 1 => anyTo p m || p m
theorem anyTo_hit {p : Nat → Bool} {m j : Nat} (hj : j < m) (h : p j = true) : anyTo p m = true := by
 induction m with
 | zero => omega
 | succ m ih =>
  rw [anyTo]
  by_cases hm : j = m
  ·subst hm; simp [h]
  simp [ih xq]
def wideAt (l : List Int) (i : Nat) : Bool := decide (l[i]?.getD 0 < -16777216) || decide (16777216 < l[i]?.getD 0)
def longAt (n : Nat → Nat) (j : Nat) : Bool := decide (128 < n j)
def wideList (n : Nat → Nat) (l : Nat → List Int) (j : Nat) : Bool := anyTo (wideAt (l j)) (n j)
def checkCode (m : Nat) (n : Nat → Nat) (l : Nat → List Int) : Int := if anyTo (longAt n) m = true then 4 else if anyTo (wideList n l) m = true then 17 else 0
theorem check_any (m b : Nat) (A : Nat → Option Addr) (n c : Nat → Nat) (l : Nat → List Int) (w : World) (hm : m ≤ 10)
  (hc : ∀ j, j < m → w.cell? ⟨b, j, none⟩ = some (.slice (A j) (n j) (c j))) (hs : ∀ j, j < m → SlR .i64 w (A j) (n j) (c j) (l j)) :
  qyc 49 #[.slice (some ⟨b, 0, none⟩) m m] w fun e w' => e = .returned (.int .i64 (checkCode m n l)) ∧ w = w' := by
 have Hc := Lib.hid hc; clear hc
 have Hs := Lib.hid hs; clear hs
 go_enter Tryz.func49, Tryz.ntmps49
 go_wp2
 go_loop [11] (fun x => ∃ j : Nat, j ≤ m ∧ x = .int .i64 j ∧ Hid (anyTo (longAt n) j = false)) (fun x => m - (intOf x).toNat)
 case atStart => exact ⟨0, by omega, rfl, rfl⟩
 case round =>
  obtain ⟨j, hj, rfl, hno⟩ := hrel
  by_cases hjm : j < m
  ·have hcj := Hc.out j hjm
   by_cases h128 : 128 < n j
   ·have h128' : (128 : Int) < n j := by omega
    have hfin : Hid (checkCode m n l = 4) := by
     show _ = _
     unfold checkCode
     rw [if_pos (anyTo_hit hjm (by simp [longAt, h128]))]
    clear hno
    go_wp2
    go_ret
    exact ⟨by rw [hfin.out]; rfl, rfl⟩
   have h128' : ¬ (128 : Int) < n j := by omega
   go_wp2
   go_round
   case rel => exact ⟨j + 1, by omega, by go_num, by show _ = _; rw [anyTo, hno.out]; simp [longAt]; omega⟩
   case measure => simp [intOf]; omega
  obtain rfl : j = m := by omega
  go_wp2
  go_loop [21] (fun x => ∃ k : Nat, k ≤ j ∧ x = .int .i64 k ∧ Hid (anyTo (wideList n l) k = false)) (fun x => j - (intOf x).toNat)
  case atStart => exact ⟨0, by omega, rfl, rfl⟩
  case round =>
   obtain ⟨k, hk, rfl, ab⟩ := hrel
   by_cases hkm : k < j
   ·have hck := Hc.out k hkm
    have hsk := Hs.out k hkm
    obtain ⟨Ak, hAk⟩ : ∃ X, X = A k := ⟨_, rfl⟩
    rw [← hAk] at hck hsk
    clear hAk
    have hnm : n k ≤ maxLen := Nat.le_trans hsk.2.1 hsk.2.2.1
    unfold maxLen at hnm
    go_wp2
    go_loop [27] (fun x => ∃ i : Nat, i ≤ n k ∧ x = .int .i64 i ∧ Hid (anyTo (wideAt (l k)) i = false)) (fun x => n k - (intOf x).toNat)
    case atStart => exact ⟨0, by omega, rfl, rfl⟩
    case round =>
     obtain ⟨i, hi, rfl, aa⟩ := hrel
     by_cases hin : i < n k
     ·obtain ⟨b', o', rfl, _, hci⟩ := hsk.pos hin
      by_cases hw : wideAt (l k) i = true
      ·have hfin : Hid (checkCode j n l = 17) := by
        show _ = _
        unfold checkCode
        rw [hno.out, if_neg (by simp), if_pos (anyTo_hit (p := wideList n l) hkm (anyTo_hit (p := wideAt (l k)) hin hw))]
       have ac : (l k)[i]?.getD 0 < -16777216 ∨ ¬ (l k)[i]?.getD 0 < -16777216 ∧ 16777216 < (l k)[i]?.getD 0 := by
        simp [wideAt] at hw; omega
       clear hw hno ab aa
       rcases ac with ac | ⟨ac, ad⟩
       ·go_wp2
        go_ret
        exact ⟨by rw [hfin.out]; rfl, rfl⟩
       go_wp2
       go_ret
       exact ⟨by rw [hfin.out]; rfl, rfl⟩
      have ac : ¬ (l k)[i]?.getD 0 < -16777216 := by simp [wideAt] at hw; omega
      have ad : ¬ 16777216 < (l k)[i]?.getD 0 := by simp [wideAt] at hw; omega
      have Hw := Lib.hid hw; clear hw
      go_wp2
      go_round
      case rel => exact ⟨i + 1, by omega, by go_num, by have h' := Hw.out; show _ = _; rw [anyTo, aa.out]; simpa using h'⟩
      case measure => simp [intOf]; omega
     obtain rfl : i = n k := by omega
     go_wp2
     go_round
     case rel => exact ⟨k + 1, by omega, by go_num, by show _ = _; rw [anyTo, ab.out, wideList, aa.out]; rfl⟩
     case measure => simp [intOf]; omega
   obtain rfl : k = j := by omega
   have hfin : Hid (checkCode k n l = 0) := by
    show _ = _
    unfold checkCode
    rw [hno.out, ab.out]; rfl
   go_wp2
   go_ret
   exact ⟨by rw [hfin.out]; rfl, rfl⟩
set_option maxRecDepth 20000
def foldW (a : List Int) (k n : Nat) : Nat → List Int
 | 0 => zeros
 | i + 1 => (foldW a k n i).set (i * k % n) (wrap64 ((foldW a k n i)[i * k % n]?.getD 0 + a[i]?.getD 0))
theorem foldW_length (a : List Int) (k n i : Nat) : (foldW a k n i).length = 64 := by
 induction i with
 | zero => exact zeros_length
 | succ i ih => simp [foldW, ih]
theorem wpList_store_sum {ops : Array Oper} {rest : List Oper} {o : Oper} {a : Act} {w : World} {Q : Exit → Act → World → Prop} (hgd : o.guard = none) (p x : Operand) (ho : o.op = .store 98 p x)
  (g : Nat) (hp : a.eval p = .pointer (some ⟨g, 0, none⟩)) (l old : List Int) (hx : a.eval x = arr l) (hl : l.length = 64) (hold : old.length = 64) (t : TypeId) (hk : KBlk .i64 w g t old)
  (h : ∀ w', KBlk .i64 w' g t l → (∀ k, k ≠ g → w'.heap[k]? = w.heap[k]?) → w'.heap.size = w.heap.size → Below g w w' → wpList Tryz.prog ops Q rest (a.put o.dst undef) w') : wpList Tryz.prog ops Q (o :: rest) a w := by
 refine wpList_plain hgd fun K hK => ?_
 have hst := run_storeCells_at (P := Tryz.prog) g 0 t (l.map (Value.int .i64)) 0 _ w hk (by simp [hl, hold]) (by intro v hv; simp at hv; obtain ⟨z, _, rfl⟩ := hv; rfl)
 obtain ⟨i, hi, hi2⟩ := Option.map_eq_some_iff.1 sum_size
 have hcell : (arr l).cells = (l.map (Value.int .i64)).toArray := rfl
 have hrun : (storeVar 98 ⟨g, 0, none⟩ (arr l)).run Tryz.prog w = .ok () (w.setRow g (l.map (Value.int .i64)).toArray) := by
  unfold storeVar
  simp only [Sem.run_bind, sizeOf, typeInfo, hcell]
  simp [hi, hi2, hl]
  rw [hst]
  simp [hl]
  congr 2
  rw [List.drop_of_length_le (by simp [hold]), List.append_nil]
 unfold Oper.wp execOp
 simp only [ho, hp, hx, Instr.storeAt, Instr.sureAddr, Sem.run_bind, Sem.run_pure, Result.andThen_ok, hrun]
 exact hK _ _ (h _ (setRow_heap w g _ _ t _ hk) (fun k hk => setRow_other w g k _ hk) (by simp) ⟨rfl, rfl, rfl, by simp, fun k hk => setRow_other w g k _ xq⟩)
theorem fold_any (A : Option Addr) (m c : Nat) (a : List Int) (k n : Nat) (w : World) (ha : SlR .i64 w A m c a) (hm : m ≤ 1000) (hk : k ≤ 64) (h1 : 1 ≤ n) (h2 : n ≤ 64) :
  qyc 51 #[.slice A m c, .int .i64 k, .int .i64 n] w fun e w' => e = .returned (arr (foldW a k n m)) ∧ Below w.heap.size w w' := by
 go_enter Tryz.func51, Tryz.ntmps51
 go_wp2_with (with_reducible refine wpList_alloc_sum rfl rfl ?_)
 intro w0 ae ac ak
 go_wp2_with (with_reducible refine wpList_alloc_sum rfl rfl ?_)
 intro w1 ad ab an
 go_wp2
 have hk01 := ae.below ab xq
 have aa : Below w.heap.size w w1 := ac.trans (ab.mono xq)
 clear ak an ab ac
 go_loopw [12] (fun x wr => ∃ i : Nat, i ≤ m ∧ x = .int .i64 i ∧ KBlk .i64 wr (w.heap.size + 1) 98 (foldW a k n i) ∧ KBlk .i64 wr w.heap.size 98 zeros ∧ Below w.heap.size w wr) (fun x _ => m - (intOf x).toNat)
 case atStart => exact ⟨0, by omega, rfl, ad, hk01, aa⟩
 case round =>
  obtain ⟨i, hi, rfl, hkf, hkz, hb⟩ := hrel
  clear ad hk01 aa ae
  by_cases him : i < m
  ·obtain ⟨b, o, rfl, _, hc⟩ := (ha.below hb).pos him
   have hmod : i * k % n < n := Nat.mod_lt _ xq
   have hik : i * k ≤ 1000 * 64 := Nat.mul_le_mul xq xq
   have al : (0 : Int) ≤ (i : Int) * k := by rw [← Int.natCast_mul]; omega
   have ag : (i : Int) * k ≤ 64000 := by rw [← Int.natCast_mul]; omega
   have hix : ((i : Int) * k % n).toNat = i * k % n := by rw [← Int.natCast_mul, ← Int.natCast_emod]; rfl
   have aj : 0 ≤ (i : Int) * k % n := Int.emod_nonneg _ xq
   have ai : (i : Int) * k % n < 64 := by have := Int.emod_lt_of_pos ((i : Int) * k) (show (0 : Int) < n by omega); omega
   have hc2 := hkf.cell (i := i * k % n) (by rw [foldW_length]; omega)
   have hf2 := hkf.frozen (i * k % n)
   go_wp2
   go_roundw
   case rel => exact ⟨i + 1, by omega, by go_num, hkf.set _ _, hkz.far (p := ⟨w.heap.size + 1, i * k % n, none⟩) (by simp) _, hb.setCell (p := ⟨w.heap.size + 1, i * k % n, none⟩) (by simp) _⟩
   case measure => simp [intOf]; omega
  obtain rfl : i = m := by omega
  go_wp2_with (first | (with_reducible refine wpList_load_sum rfl (.tmp 7) rfl (w.heap.size + 1) rfl _ _ hkf (foldW_length _ _ _ _) ?_) | (with_reducible refine wpList_store_sum rfl (.tmp 6) (.tmp 28) rfl w.heap.size rfl _ _ rfl (foldW_length _ _ _ _) zeros_length _ hkz ?_))
  intro w4 af am hz4 ah
  go_wp2
  exact bodyPost_ret (v := arr (foldW a k n i)) (results_cell_row Tryz.results51 _ _ w.heap.size _ _ (0, 0) _ rfl af sum_under rfl (by rw [sum_size]; simp [foldW_length])) rfl ⟨rfl, hb.trans ah⟩
end Go.Proofs.YtcmllhhiekjmaaaGreat
namespace Go.Proofs.YtcmllhhiekjmaaaGreat.Cyc
open Go.RowKit
/-! ### Linear functionals of lists -/
def lin (n : Nat) (S : List Int) (g : Nat → Int) : Int := sumTo n (fun k => S[k]?.getD 0 * g k)
theorem get_set (S : List Int) (k j : Nat) (x : Int) (hk : k < S.length) : (S.set k x)[j]?.getD 0 = if j = k then x else S[j]?.getD 0 := by
 rw [List.getElem?_set]
 by_cases h : k = j
 ·subst h; simp [hk]
 rw [if_neg h, if_neg xq]
theorem sumTo_change {n k : Nat} (hk : k < n) (f f' : Nat → Int) (h : ∀ j, j ≠ k → f' j = f j) : sumTo n f' = sumTo n f + (f' k - f k) := by
 induction n with
 | zero => omega
 | succ n ih =>
  simp only [sumTo]
  by_cases e : k = n
  ·subst e
   rw [sumTo_congr (f := f') (g := f) fun i hi => h i xq]; omega
  rw [ih xq, h n xq]; omega
theorem lin_set {n k : Nat} (S : List Int) (x : Int) (g : Nat → Int) (hk : k < n) (hS : k < S.length) : lin n (S.set k x) g = lin n S g + (x - S[k]?.getD 0) * g k := by
 unfold lin
 rw [sumTo_change hk (fun j => S[j]?.getD 0 * g j) _ (fun j hj => by rw [get_set S k j x hS, if_neg hj]), get_set S k k x hS, if_pos rfl, Int.sub_mul]
def InR (S : List Int) : Prop := ∀ j : Nat, -9223372036854775808 ≤ S[j]?.getD 0 ∧ S[j]?.getD 0 ≤ 9223372036854775807
theorem inR_set {S : List Int} (h : InR S) (k : Nat) (x : Int) (hk : k < S.length) : InR (S.set k (wrap64 x)) := by
 intro j
 rw [get_set S k j _ hk]
 split
 ·exact wrap64_bd x
 exact h j
theorem inR_zeros : InR zeros := by
 intro j
 unfold zeros
 rw [List.getElem?_replicate]
 split <;> simp
theorem lin_zeros (n : Nat) (g : Nat → Int) : lin n zeros g = 0 := by
 unfold lin zeros
 refine sumTo_zero fun k _ => ?_
 rw [List.getElem?_replicate]
 split <;> simp
theorem subRow_lin {n : Nat} (R : List Int) (k : Nat) (c : Int) (Q : List Int) (g : Nat → Int) : ∀ m, k + m ≤ n → k + m ≤ R.length → Cg (lin n (subRow R k c Q m) g) (lin n R g - c * sumTo m (fun j => Q[j]?.getD 0 * g (k + j)))
 | 0, _, _ => Cg.of_eq (by simp [subRow, sumTo])
 | m + 1, h, h' => by
  rw [subRow, lin_set _ _ _ xq (by rw [subRow_length]; omega)]
  have ih := subRow_lin (n := n) R k c Q g m xq xq
  have hx : Cg (wrap64 ((subRow R k c Q m)[k + m]?.getD 0 - wrap64 (c * Q[m]?.getD 0)) - (subRow R k c Q m)[k + m]?.getD 0) (-(c * Q[m]?.getD 0)) := by
   have := ((wrap_cg ((subRow R k c Q m)[k + m]?.getD 0 - wrap64 (c * Q[m]?.getD 0))).trans ((Cg.refl _).sub (wrap_cg (c * Q[m]?.getD 0)))).sub (Cg.refl ((subRow R k c Q m)[k + m]?.getD 0))
   refine this.trans (Cg.of_eq ?_)
   omega
  refine (ih.add (hx.mul' (g (k + m)))).trans (Cg.of_eq ?_)
  rw [sumTo, Int.mul_add, Int.neg_mul, Int.mul_assoc]
  omega
theorem subRow_inR (R : List Int) (k : Nat) (c : Int) (Q : List Int) (h : InR R) : ∀ m, k + m ≤ R.length → InR (subRow R k c Q m)
 | 0, _ => h
 | m + 1, hl => by
  rw [subRow]
  exact inR_set (subRow_inR R k c Q h m xq) _ _ (by rw [subRow_length]; omega)
section
variable {n : Nat} (h1 : 1 ≤ n) (h2 : n ≤ 64)
include h1 h2
theorem redGo_spec : ∀ (m : Nat) (S : List Int), m + deg n ≤ n → S.length = 64 → InR S → (∀ k, m + deg n ≤ k → k < n → Cg (S[k]?.getD 0) 0) →
  InR (redGo (T n) (deg n) m S) ∧ (∀ i, Cg (lin n (redGo (T n) (deg n) m S) (fun k => red n k i)) (lin n S (fun k => red n k i))) ∧ ∀ k, deg n ≤ k → k < n → Cg ((redGo (T n) (deg n) m S)[k]?.getD 0) 0
 | 0, S, _, _, hr, hz => ⟨hr, fun i => Cg.refl _, fun k hk hn => hz k xq hn⟩
 | m + 1, S, hm, hl, hr, hz => by
  have hT := T_length n h1 h2
  have hlen : (subRow S m (S[m + deg n]?.getD 0) (T n) (T n).length).length = 64 := by rw [subRow_length, hl]
  have hget := fun i => subRow_get S m (S[m + deg n]?.getD 0) (T n) (T n).length i xq
  obtain ⟨g1, g2, g3⟩ := redGo_spec m (subRow S m (S[m + deg n]?.getD 0) (T n) (T n).length) xq hlen (subRow_inR S _ _ _ hr _ xq) (by
   intro k hk hn
   by_cases e : k = m + deg n
   ·subst e
    rw [hget, if_pos xq, Option.getD_some, show m + deg n - m = deg n by omega, show (T n)[deg n]?.getD 0 = 1 from T_monic n h1 h2, Int.mul_one]
    have := (wrap_cg (S[m + deg n]?.getD 0 - wrap64 (S[m + deg n]?.getD 0))).trans ((Cg.refl _).sub (wrap_cg (S[m + deg n]?.getD 0)))
    exact this.trans (Cg.of_eq xq)
   rw [hget, if_neg xq]
   exact hz k xq hn)
  rw [redGo]
  refine ⟨g1, fun i => (g2 i).trans ?_, g3⟩
  have := subRow_lin S m (S[m + deg n]?.getD 0) (T n) (fun k => red n k i) (T n).length (n := n) xq xq
  refine this.trans (Cg.of_eq ?_)
  have hz := phi_zero h1 h2 m i
  rw [hT]
  rw [show sumTo (deg n + 1) (fun j => (T n)[j]?.getD 0 * red n (m + j) i) = 0 from hz]
  omega
def specL (n : Nat) (f : Nat → Int) : List Int := (List.range (deg n)).map f
omit h1 h2 in
theorem specL_get (f : Nat → Int) (i : Nat) (hi : i < deg n) : (specL n f)[i]? = some (f i) := by simp [specL, hi]
omit h1 h2 in
theorem specL_length (f : Nat → Int) : (specL n f).length = deg n := by simp [specL]
omit h1 h2 in
theorem specL_congr {f g : Nat → Int} (h : ∀ i, i < deg n → f i = g i) : specL n f = specL n g := by
 unfold specL
 exact List.map_congr_left fun i hi => h i (List.mem_range.1 hi)
theorem normalW_spec (S : List Int) (hl : S.length = 64) (hr : InR S) : normalW S n = specL n (fun i => wrap64 (lin n S (fun k => red n k i))) := by
 have hd := deg_le n h1 h2
 obtain ⟨g1, g2, g3⟩ := redGo_spec h1 h2 (n - deg n) S xq hl hr (by intro k hk hn; omega)
 apply List.ext_getElem?
 intro i
 by_cases hi : i < deg n
 ·rw [specL_get _ _ hi, normalW, List.getElem?_take_of_lt hi]
  have hlen : i < (redGo (T n) (deg n) (n - deg n) S).length := by rw [redGo_length, hl]; omega
  rw [List.getElem?_eq_getElem hlen]
  congr 1
  have hgd : (redGo (T n) (deg n) (n - deg n) S)[i] = (redGo (T n) (deg n) (n - deg n) S)[i]?.getD 0 := by rw [List.getElem?_eq_getElem hlen]; rfl
  rw [hgd, ← wrap_id (g1 i).1 (g1 i).2]
  apply Cg.wrap
  refine Cg.trans (Cg.symm ?_) (g2 i)
  unfold lin
  -- only the term i stays
  have key : Cg (sumTo n (fun k => (redGo (T n) (deg n) (n - deg n) S)[k]?.getD 0 * red n k i)) (sumTo n (fun k => if k = i then (redGo (T n) (deg n) (n - deg n) S)[k]?.getD 0 else 0)) := by
   refine Cg.sum fun k hk => ?_
   by_cases hkt : k < deg n
   ·rw [red_lo k hkt]
    by_cases e : k = i
    ·subst e; simp; exact Cg.refl _
    rw [if_neg xq, if_neg e]; simp; exact Cg.refl _
   rw [if_neg xq]
   have := (g3 k xq hk).mul' (red n k i)
   simpa using this
  refine key.trans (Cg.of_eq ?_)
  rw [sumTo_single (k := i) xq]
  ·simp
  intro j _ hne; rw [if_neg hne]
 rw [List.getElem?_eq_none (by rw [normalW_length S n h1 h2 hl]; omega), List.getElem?_eq_none (by rw [specL_length]; omega)]
end
theorem foldW_inR (a : List Int) (k n : Nat) (h1 : 1 ≤ n) (h2 : n ≤ 64) : ∀ m, InR (foldW a k n m)
 | 0 => inR_zeros
 | m + 1 => inR_set (foldW_inR a k n h1 h2 m) _ _ (by rw [foldW_length]; have := Nat.mod_lt (m * k) (show 0 < n by omega); omega)
theorem foldW_lin (a : List Int) (k n : Nat) (h1 : 1 ≤ n) (h2 : n ≤ 64) (g : Nat → Int) : ∀ m, Cg (lin n (foldW a k n m) g) (sumTo m (fun j => a[j]?.getD 0 * g (j * k % n)))
 | 0 => Cg.of_eq (lin_zeros n g)
 | m + 1 => by
  have hm := Nat.mod_lt (m * k) (show 0 < n by omega)
  rw [foldW, lin_set _ _ _ hm (by rw [foldW_length]; omega), sumTo]
  refine (foldW_lin a k n h1 h2 g m).add ((?_ : Cg _ _).mul' _)
  refine ((wrap_cg _).sub (Cg.refl _)).trans (Cg.of_eq ?_)
  omega
end Go.Proofs.YtcmllhhiekjmaaaGreat.Cyc
namespace Go.Proofs.YtcmllhhiekjmaaaGreat
open Nt
open Go.RowKit
def code1 (a : List Int) : Int := checkCode 1 (fun _ => a.length) (fun _ => a)
def Valid (a : List Int) : Prop := a.length ≤ 128 ∧ ∀ j : Nat, -16777216 ≤ a[j]?.getD 0 ∧ a[j]?.getD 0 ≤ 16777216
theorem anyTo_false {p : Nat → Bool} {m : Nat} (h : anyTo p m = false) : ∀ j, j < m → p j = false := by
 intro j hj
 cases e : p j
 ·rfl
 rw [anyTo_hit hj e] at h; cases h
theorem anyTo_none {p : Nat → Bool} {m : Nat} (h : ∀ j, j < m → p j = false) : anyTo p m = false := by
 induction m with
 | zero => rfl
 | succ m ih => rw [anyTo, ih (fun j hj => h j xq), h m xq]; rfl
theorem wide_none {a : List Int} : anyTo (wideAt a) a.length = false ↔ ∀ j : Nat, -16777216 ≤ a[j]?.getD 0 ∧ a[j]?.getD 0 ≤ 16777216 := by
 constructor
 ·intro h j
  rcases Nat.lt_or_ge j a.length with hj | hj
  ·have := anyTo_false h j hj
   simp [wideAt] at this
   omega
  rw [List.getElem?_eq_none hj]; simp
 intro h
 refine anyTo_none fun j hj => ?_
 have := h j
 simp [wideAt] at this ⊢; omega
theorem code1_zero {a : List Int} : code1 a = 0 ↔ Valid a := by
 unfold code1 checkCode Valid
 simp only [anyTo, longAt, wideList, Bool.false_or]
 by_cases h : 128 < a.length
 ·rw [if_pos (by simp [h])]; constructor
  ·intro h; simp at h
  intro h'; omega
 rw [if_neg (by simp [h])]
 by_cases hw : anyTo (wideAt a) a.length = true
 ·rw [if_pos hw]; constructor
  ·intro h; simp at h
  intro h'; rw [wide_none.2 h'.2] at hw; cases hw
 rw [if_neg hw]
 simp at hw
 exact ⟨fun _ => ⟨by omega, wide_none.1 hw⟩, fun _ => rfl⟩
theorem check_one (A : Option Addr) (m c : Nat) (a : List Int) (w : World) (ha : SlR .i64 w A m c a) :
  qyc 49 #[.slice (some ⟨w.heap.size, 0, none⟩) 1 1] (w.alloc (.cells #[.slice A m c] 22)) fun e w' => e = .returned (.int .i64 (code1 a)) ∧ w.alloc (.cells #[.slice A m c] 22) = w' := by
 have := check_any 1 w.heap.size (fun _ => A) (fun _ => m) (fun _ => c) (fun _ => a) (w.alloc (.cells #[.slice A m c] 22)) xq (by
  intro j hj
  obtain rfl : j = 0 := by omega
  rw [cell_of_row _ _ _ _ _ _ (heap_alloc_new w _)]; rfl) (fun j hj => ha.alloc _)
 rw [show m = a.length from ha.1.symm] at this ⊢
 exact this
namespace Cyc
def linS (n : Nat) (a : List Int) (k i : Nat) : Int := sumTo a.length (fun j => a[j]?.getD 0 * red n (j * k) i)
theorem linS_bd {n : Nat} (h1 : 1 ≤ n) (h2 : n ≤ 64) {a : List Int} {b : Int} {l : Nat} (hb : ∀ j : Nat, -b ≤ a[j]?.getD 0 ∧ a[j]?.getD 0 ≤ b) (hl : a.length ≤ l) (k i : Nat) : -(l * b) ≤ linS n a k i ∧ linS n a k i ≤ l * b := by
 have hb0 : 0 ≤ b := by have := hb 0; omega
 have h := sumTo_abs (n := a.length) (f := fun j => a[j]?.getD 0 * red n (j * k) i) (g := fun _ => b) (by
  intro j _
  have hr := red_small h1 h2 (j * k) i
  have hbj := hb j
  generalize red n (j * k) i = r at *
  have : r = -1 ∨ r = 0 ∨ r = 1 := by omega
  rcases this with rfl | rfl | rfl <;> omega)
 rw [sumTo_const] at h
 have : (a.length : Int) * b ≤ l * b := Int.mul_le_mul_of_nonneg_right xq hb0
 unfold linS; omega
theorem fold_norm {n : Nat} (h1 : 1 ≤ n) (h2 : n ≤ 64) (a : List Int) (k : Nat) (hv : Valid a) : normalW (foldW a k n a.length) n = specL n (linS n a k) := by
 rw [normalW_spec h1 h2 _ (foldW_length _ _ _ _) (foldW_inR _ _ _ h1 h2 _)]
 refine specL_congr fun i _ => ?_
 rw [(foldW_lin a k n h1 h2 (fun k => red n k i) a.length).wrap]
 have e : sumTo a.length (fun j => a[j]?.getD 0 * red n (j * k % n) i) = linS n a k i := sumTo_congr fun j _ => by rw [red_mod h1 h2]
 rw [e]
 have := linS_bd h1 h2 (b := 16777216) (l := 128) hv.2 hv.1 k i
 exact wrap_id xq xq
end Cyc
theorem Reduce_ok (A : Option Addr) (m c : Nat) (a : List Int) (z : Int) (w : World) (ha : SlR .i64 w A m c a) (hv : Valid a) (h1 : 1 ≤ z) (h2 : z ≤ 64) :
  qyc 9 #[.slice A m c, .int .i64 z] w fun e w' => ∃ A' c', e = .returned (.tuple #[.slice A' (Cyc.deg z.toNat) c', .int .i64 0]) ∧ OwnK .i64 w' w.heap.size 3 A' (Cyc.deg z.toNat) c' (Cyc.specL z.toNat (Cyc.linS z.toNat a 1)) ∧ Below w.heap.size w w' := by
 obtain ⟨n, rfl⟩ := Int.eq_ofNat_of_zero_le (show 0 ≤ z by omega)
 have ab : code1 a = 0 := code1_zero.2 hv
 have Hc0 := Lib.hid ab
 have hnm := Cyc.fold_norm (n := n) xq xq a 1 hv
 rw [show a.length = m from ha.1] at hnm
 have Hnm := Lib.hid hnm
 have hm : m ≤ 128 := by rw [← ha.1]; exact hv.1
 have Hv := Lib.hid hv
 clear ab hnm hv
 rw [Int.toNat_natCast]
 go_enter Tryz.func9, Tryz.ntmps9
 go_wp2_with fail
 refine (permitted_yes _ _ h1 h2).mono ?_
 rintro e w1 ⟨rfl, rfl⟩
 go_wp2_with fail
 refine (check_one A m c a w ha).mono ?_
 rintro e w1 ⟨rfl, rfl⟩
 rw [Hc0.out]
 generalize hw1 : w.alloc (.cells #[.slice A m c] 22) = w1
 have aa : Below w.heap.size w w1 := by rw [← hw1]; exact (Below.refl _ _).alloc qyl _
 clear hw1
 go_wp2_with fail
 refine (fold_any A m c a 1 n w1 (ha.below aa) xq xq xq xq).mono ?_
 rintro e w2 ⟨rfl, ac⟩
 go_wp2_with fail
 refine (normal_any _ _ _ (foldW_length _ _ _ _) h1 h2).mono ?_
 rintro e w3 ⟨A', c', rfl, ho, ad⟩
 rw [Int.toNat_natCast, Hnm.out] at ho
 rw [Int.toNat_natCast]
 go_wp2
 go_ret2
 have hb12 := aa.trans (ac.mono aa.size)
 exact ⟨A', c', rfl, ho.mono hb12.size, hb12.trans (ad.mono hb12.size)⟩
namespace Cyc
section
variable {n : Nat} (h1 : 1 ≤ n) (h2 : n ≤ 64)
include h1 h2
end
end Cyc
end Go.Proofs.YtcmllhhiekjmaaaGreat
namespace Go.Proofs.YtcmllhhiekjmaaaGreat.Cyc
open Go.RowKit
set_option linter.unusedSectionVars false
section
variable {n : Nat} (h1 : 1 ≤ n) (h2 : n ≤ 64)
include h1 h2
end
end Go.Proofs.YtcmllhhiekjmaaaGreat.Cyc
namespace Go.Proofs.YtcmllhhiekjmaaaGreat
open Nt
open Go.RowKit
namespace Cyc
section
variable {n : Nat} (h1 : 1 ≤ n) (h2 : n ≤ 64)
include h1 h2
end
end Cyc
theorem In_yes (v lo hi : Int) (w : World) (h1 : lo ≤ v) (h2 : v ≤ hi) :
  qyc 57 #[.int .i64 v, .int .i64 lo, .int .i64 hi] w fun e w' => e = .returned (.bool true) ∧ w = w' := by
 go_enter Tryz.func57, Tryz.ntmps57
 go_wp2
 go_ret
 exact ⟨by simp, rfl⟩
theorem In_no (v lo hi : Int) (w : World) (h : v < lo ∨ hi < v) :
  qyc 57 #[.int .i64 v, .int .i64 lo, .int .i64 hi] w fun e w' => e = .returned (.bool false) ∧ w = w' := by
 by_cases h1 : lo ≤ v
 ·have h2 : ¬ v ≤ hi := by omega
  go_enter Tryz.func57, Tryz.ntmps57
  go_wp2
  go_ret
  exact ⟨by simp, rfl⟩
 go_enter Tryz.func57, Tryz.ntmps57
 go_wp2
 go_ret
 exact ⟨by simp, rfl⟩
def outAt (b : Int) (l : List Int) (i : Nat) : Bool := decide (l[i]?.getD 0 < -b) || decide (b < l[i]?.getD 0)
theorem Small24 (A : Option Addr) (n c : Nat) (l : List Int) (w : World) (h : SlR .i64 w A n c l) :
  qyc 162 #[.slice A n c, .int .i64 24] w fun e w' => e = .returned (.bool (!anyTo (outAt 16777216 l) n)) ∧ w = w' := by
 have hnm : n ≤ maxLen := Nat.le_trans h.2.1 h.2.2.1
 unfold maxLen at hnm
 go_enter Tryz.func162, Tryz.ntmps162
 go_wp2
 go_loop [5] (fun x => ∃ i : Nat, i ≤ n ∧ x = .int .i64 i ∧ Hid (anyTo (outAt 16777216 l) i = false)) (fun x => n - (intOf x).toNat)
 case atStart => exact ⟨0, by omega, rfl, rfl⟩
 case round =>
  obtain ⟨i, hi, rfl, hno⟩ := hrel
  by_cases hin : i < n
  ·obtain ⟨bb, o, rfl, _, hc⟩ := h.pos hin
   by_cases ho : outAt 16777216 l i = true
   ·have hfin : Hid (anyTo (outAt 16777216 l) n = true) := anyTo_hit hin ho
    have aa : l[i]?.getD 0 < -16777216 ∨ 16777216 < l[i]?.getD 0 := by simp [outAt] at ho; omega
    clear ho hno
    go_wp2_with fail
    refine (In_no _ _ _ _ aa).mono ?_
    rintro e w1 ⟨rfl, rfl⟩
    go_wp2
    go_ret
    exact ⟨by rw [hfin.out]; rfl, rfl⟩
   have aa : -16777216 ≤ l[i]?.getD 0 := by simp [outAt] at ho; omega
   have ab : l[i]?.getD 0 ≤ 16777216 := by simp [outAt] at ho; omega
   have Ho := Lib.hid ho; clear ho
   go_wp2_with fail
   refine (In_yes _ _ _ _ aa ab).mono ?_
   rintro e w1 ⟨rfl, rfl⟩
   go_wp2
   go_round
   case rel => exact ⟨i + 1, by omega, by go_num, by have h' := Ho.out; show _ = _; rw [anyTo, hno.out]; simpa using h'⟩
   case measure => simp [intOf]; omega
  obtain rfl : i = n := by omega
  have Hno := hno
  clear hno
  go_wp2
  go_ret
  exact ⟨by rw [Hno.out]; rfl, rfl⟩
theorem outAt_wide (l : List Int) : outAt 16777216 l = wideAt l := rfl
theorem rcheck_any (z : Int) (m b : Nat) (A : Nat → Option Addr) (n c : Nat → Nat) (l : Nat → List Int) (w : World) (hm : m ≤ 10) (h1 : 1 ≤ z) (h2 : z ≤ 64)
  (hc : ∀ j, j < m → w.cell? ⟨b, j, none⟩ = some (.slice (A j) (n j) (c j))) (hs : ∀ j, j < m → SlR .i64 w (A j) (n j) (c j) (l j)) :
  qyc 58 #[.int .i64 z, .slice (some ⟨b, 0, none⟩) m m] w fun e w' => e = .returned (.int .i64 (checkCode m n l)) ∧ w = w' := by
 have Hc := Lib.hid hc; clear hc
 have Hs := Lib.hid hs; clear hs
 go_enter Tryz.func58, Tryz.ntmps58
 go_wp2_with fail
 refine (In_yes _ _ _ _ h1 h2).mono ?_
 rintro e w1 ⟨rfl, rfl⟩
 go_wp2
 go_loop [5] (fun x => ∃ j : Nat, j ≤ m ∧ x = .int .i64 j ∧ Hid (anyTo (longAt n) j = false)) (fun x => m - (intOf x).toNat)
 case atStart => exact ⟨0, by omega, rfl, rfl⟩
 case round =>
  obtain ⟨j, hj, rfl, hno⟩ := hrel
  by_cases hjm : j < m
  ·have hcj := Hc.out j hjm
   by_cases h128 : 128 < n j
   ·have h128' : (128 : Int) < n j := by omega
    have hfin : Hid (checkCode m n l = 4) := by
     show _ = _
     unfold checkCode
     rw [if_pos (anyTo_hit hjm (by simp [longAt, h128]))]
    clear hno
    go_wp2
    go_ret
    exact ⟨by rw [hfin.out]; rfl, rfl⟩
   have h128' : ¬ (128 : Int) < n j := by omega
   go_wp2
   go_round
   case rel => exact ⟨j + 1, by omega, by go_num, by show _ = _; rw [anyTo, hno.out]; simp [longAt]; omega⟩
   case measure => simp [intOf]; omega
  obtain rfl : j = m := by omega
  go_wp2
  go_loop [6] (fun x => ∃ k : Nat, k ≤ j ∧ x = .int .i64 k ∧ Hid (anyTo (wideList n l) k = false)) (fun x => j - (intOf x).toNat)
  case atStart => exact ⟨0, by omega, rfl, rfl⟩
  case round =>
   obtain ⟨k, hk, rfl, aa⟩ := hrel
   by_cases hkm : k < j
   ·have hck := Hc.out k hkm
    have hsk := Hs.out k hkm
    by_cases hw : anyTo (wideAt (l k)) (n k) = true
    ·have hfin : Hid (checkCode j n l = 17) := by
      show _ = _
      unfold checkCode
      rw [hno.out, if_neg (by simp), if_pos (anyTo_hit (p := wideList n l) hkm hw)]
     have Hw := Lib.hid hw
     clear hw hno aa
     go_wp2_with fail
     refine (Small24 _ _ _ _ _ hsk).mono ?_
     rintro e w1 ⟨rfl, rfl⟩
     rw [outAt_wide, Hw.out]
     go_wp2
     go_ret
     exact ⟨by rw [hfin.out]; rfl, rfl⟩
    have Hw := Lib.hid (show anyTo (wideAt (l k)) (n k) = false by simpa using hw)
    clear hw
    go_wp2_with fail
    refine (Small24 _ _ _ _ _ hsk).mono ?_
    rintro e w1 ⟨rfl, rfl⟩
    rw [outAt_wide, Hw.out]
    go_wp2
    go_round
    case rel => exact ⟨k + 1, by omega, by go_num, by show _ = _; rw [anyTo, aa.out, wideList, Hw.out]; rfl⟩
    case measure => simp [intOf]; omega
   obtain rfl : k = j := by omega
   have hfin : Hid (checkCode k n l = 0) := by
    show _ = _
    unfold checkCode
    rw [hno.out, aa.out]; rfl
   go_wp2
   go_ret
   exact ⟨by rw [hfin.out]; rfl, rfl⟩
namespace Nt
def flr (q : Rat) : Int := q.num / (q.den : Int)
def dnQ (q : Rat) (k : Nat) : Rat := mkRat (flr (q * ((2 ^ k : Nat) : Rat))) (2 ^ k)
theorem flr_mk {z : Int} {D : Nat} (hD : 0 < D) : flr (mkRat z D) = z / (D : Int) := by
 have h1 : mkRat z D = mkRat (mkRat z D).num (mkRat z D).den := (Rat.mkRat_self _).symm
 rw [Rat.mkRat_eq_iff xq (by have := (mkRat z D).den_pos; omega)] at h1
 have hd := (mkRat z D).den_pos
 unfold flr
 generalize (mkRat z D).num = n at *
 generalize (mkRat z D).den = d at *
 have e1 : z / (D : Int) = ((d : Int) * z) / ((d : Int) * (D : Int)) := (Int.mul_ediv_mul_of_pos _ _ xq).symm
 have e2 : n / (d : Int) = ((D : Int) * n) / ((D : Int) * (d : Int)) := (Int.mul_ediv_mul_of_pos _ _ xq).symm
 rw [e1, e2, Int.mul_comm (d : Int) z, h1, Int.mul_comm n, Int.mul_comm (d : Int)]
theorem shl_mk (z : Int) (D m : Nat) : mkRat z D * ((m : Nat) : Rat) = mkRat (z * (m : Int)) D := by
 rw [Rat.mkRat_eq_div, Rat.mkRat_eq_div, Rat.intCast_mul]
 show (z : Rat) / (D : Rat) * (m : Rat) = (z : Rat) * ((m : Int) : Rat) / (D : Rat)
 have : ((m : Int) : Rat) = (m : Rat) := rfl
 rw [this]
 grind
theorem dn_mk {z : Int} {D k : Nat} (hD : 0 < D) : dnQ (mkRat z D) k = mkRat ((z * ((2 ^ k : Nat) : Int)) / (D : Int)) (2 ^ k) := by
 unfold dnQ
 rw [shl_mk, flr_mk hD]
theorem sg_mulN {s : Bool} {N m : Nat} : sg s ((sg s N).natAbs * m) = sg s N * (m : Int) := by
 rw [sg_abs]
 unfold sg
 cases s
 ·simp
 simp [Int.neg_mul]
theorem rdiv0 {s : Bool} {N D : Nat} (hD : 0 < D) (h : ¬ (s = true ∧ 0 < N % D)) : sg s N / (D : Int) = sg (!(s == false)) (N / D) ∧ sg s N % (D : Int) = sg false (N % D) := by
 have hm := Nat.mod_lt N hD
 have hk := Nat.div_add_mod N D
 have hk2 : (N : Int) = (D : Int) * ((N / D : Nat) : Int) + ((N % D : Nat) : Int) := by rw [← Int.natCast_mul, ← Int.natCast_add, hk]
 apply ediv_uniq xq
 ·unfold sg
  cases s
  ·simpa using hk2
  have h0 : N % D = 0 := by simp at h; omega
  rw [h0] at hk2 ⊢
  generalize N / D = Q at *
  simp [Int.mul_neg]
  omega
 ·unfold sg; simp; omega
 unfold sg; simp; omega
theorem rdiv1 {N D : Nat} (hD : 0 < D) (h : 0 < N % D) : sg true N / (D : Int) = sg (!(true == false)) (N / D + 1) ∧ sg true N % (D : Int) = sg false (D - N % D) := by
 have hm := Nat.mod_lt N hD
 have hk := Nat.div_add_mod N D
 have hk2 : (N : Int) = (D : Int) * ((N / D : Nat) : Int) + ((N % D : Nat) : Int) := by rw [← Int.natCast_mul, ← Int.natCast_add, hk]
 apply ediv_uniq xq
 ·unfold sg
  simp
  rw [show ((N : Int) / (D : Int)) = ((N / D : Nat) : Int) from rfl, show ((D - N % D : Nat) : Int) = (D : Int) - ((N % D : Nat) : Int) by omega, Int.mul_neg, Int.mul_add]
  omega
 ·unfold sg; simp
 unfold sg; simp; omega
end Nt
end Go.Proofs.YtcmllhhiekjmaaaGreat
namespace Go.Proofs.YtcmllhhiekjmaaaGreat
open Nt
namespace Nt
def sgn (j : Nat) : Rat := if j % 2 = 0 then 1 else -1
theorem sgn_s (j : Nat) : sgn (j + 1) = -sgn j := by
 unfold sgn
 rcases Nat.mod_two_eq_zero_or_one j with h | h
 ·rw [if_pos h, if_neg (show ¬ (j + 1) % 2 = 0 by omega)]
 rw [if_neg (show ¬ j % 2 = 0 by omega), if_pos (show (j + 1) % 2 = 0 by omega)]; rfl
theorem sgn_or (j : Nat) : sgn j = 1 ∨ sgn j = -1 := by unfold sgn; split <;> simp
def alt (a : Nat → Rat) : Nat → Rat
 | 0 => 0
 | n + 1 => alt a n + sgn n * a n
theorem alt_s (a : Nat → Rat) (n : Nat) : alt a (n + 1) = alt a n + sgn n * a n := rfl
theorem alt_tail {a : Nat → Rat} {j0 : Nat} (h0 : ∀ j, 0 ≤ a j) (hd : ∀ j, j0 ≤ j → a (j + 1) ≤ a j) : ∀ d j, j0 ≤ j → 0 ≤ sgn j * (alt a (j + d) - alt a j) ∧ sgn j * (alt a (j + d) - alt a j) ≤ a j := by
 intro d
 induction d with
 | zero => intro j _; have := h0 j; rw [Nat.add_zero, Rat.sub_self, Rat.mul_zero]; exact ⟨Rat.le_refl, this⟩
 | succ d ih =>
  intro j hj
  have h1 := ih (j + 1) xq
  have h2 := hd j hj
  have h3 := h0 (j + 1)
  rw [show j + 1 + d = j + (d + 1) by omega, sgn_s, alt_s] at h1
  generalize alt a (j + (d + 1)) = x at *
  generalize alt a j = y at *
  rcases sgn_or j with e | e <;> rw [e] at h1 ⊢ <;> grind
theorem alt_near {a : Nat → Rat} {j0 j m : Nat} (h0 : ∀ j, 0 ≤ a j) (hd : ∀ j, j0 ≤ j → a (j + 1) ≤ a j) (hj : j0 ≤ j) (hm : j ≤ m) : alt a j - a j ≤ alt a m ∧ alt a m ≤ alt a j + a j := by
 obtain ⟨d, rfl⟩ : ∃ d, m = j + d := ⟨m - j, by omega⟩
 have h1 := alt_tail h0 hd d j hj
 rcases sgn_or j with e | e <;> rw [e] at h1 <;> grind
theorem div_nn {x y : Rat} (hx : 0 ≤ x) (hy : 0 < y) : 0 ≤ x / y := by
 rw [Rat.div_def]; exact Rat.mul_nonneg hx (Rat.le_of_lt (Rat.inv_pos.2 hy))
theorem div_mul_c {x y : Rat} (hy : 0 < y) : x / y * y = x := by
 rw [Rat.div_def, Rat.mul_assoc, Rat.inv_mul_cancel _ (by grind), Rat.mul_one]
theorem le_dv {x y z : Rat} (hy : 0 < y) (h : x * y ≤ z) : x ≤ z / y := by
 refine Rat.le_of_mul_le_mul_right (c := y) ?_ hy
 rw [div_mul_c hy]; exact h
theorem dv_le {x y z : Rat} (hy : 0 < y) (h : z ≤ x * y) : z / y ≤ x := by
 refine Rat.le_of_mul_le_mul_right (c := y) ?_ hy
 rw [div_mul_c hy]; exact h
theorem div_le_self {x y : Rat} (hx : 0 ≤ x) (hy : 1 ≤ y) : x / y ≤ x := by
 refine dv_le (by grind) ?_
 have := Rat.mul_le_mul_of_nonneg_left (a := 1) (b := y) (c := x) hy hx
 grind
theorem div_mono {x x' y : Rat} (hy : 0 < y) (h : x ≤ x') : x / y ≤ x' / y := by
 refine le_dv hy ?_
 rw [div_mul_c hy]; exact h
theorem mulm {a b c d : Rat} (h1 : a ≤ b) (h2 : c ≤ d) (h3 : 0 ≤ a) (h4 : 0 ≤ c) : a * c ≤ b * d :=
 Rat.le_trans (Rat.mul_le_mul_of_nonneg_right h1 h4) (Rat.mul_le_mul_of_nonneg_left h2 (Rat.le_trans h3 h1))
def atP (n : Nat) : Nat → Rat
 | 0 => 1 / (n : Rat)
 | j + 1 => atP n j / ((n * n : Nat) : Rat)
def atT (n j : Nat) : Rat := atP n j / ((2 * j + 1 : Nat) : Rat)
theorem cast_pos {n : Nat} (h : 0 < n) : (0 : Rat) < (n : Rat) := by
 have : ((0 : Nat) : Rat) < (n : Rat) := Rat.natCast_lt_natCast.2 h
 exact this
theorem cast_one {n : Nat} (h : 0 < n) : (1 : Rat) ≤ (n : Rat) := by
 have : ((1 : Nat) : Rat) ≤ (n : Rat) := Rat.natCast_le_natCast.2 h
 exact this
theorem atP_nn {n : Nat} (hn : 0 < n) : ∀ j, 0 ≤ atP n j
 | 0 => div_nn yq (cast_pos hn)
 | j + 1 => div_nn (atP_nn hn j) (cast_pos (Nat.mul_pos hn hn))
theorem atT_nn {n : Nat} (hn : 0 < n) (j : Nat) : 0 ≤ atT n j := div_nn (atP_nn hn j) (cast_pos xq)
theorem atP_le {n : Nat} (hn : 0 < n) (j : Nat) : atP n (j + 1) ≤ atP n j := div_le_self (atP_nn hn j) (cast_one (Nat.mul_pos hn hn))
theorem atT_le {n : Nat} (hn : 0 < n) (j : Nat) : atT n (j + 1) ≤ atT n j := by
 have h1 := atP_le hn j
 have h2 := atP_nn hn (j + 1)
 refine Rat.le_trans (b := atP n (j + 1) / ((2 * j + 1 : Nat) : Rat)) ?_ (div_mono (cast_pos xq) h1)
 refine dv_le (cast_pos xq) ?_
 have h3 : ((2 * j + 1 : Nat) : Rat) ≤ ((2 * (j + 1) + 1 : Nat) : Rat) := Rat.natCast_le_natCast.2 xq
 have h4 := Rat.mul_le_mul_of_nonneg_left (c := atP n (j + 1) / ((2 * j + 1 : Nat) : Rat)) h3 (div_nn h2 (cast_pos xq))
 rw [div_mul_c (cast_pos xq)] at h4
 exact h4
def piN (m : Nat) : Rat := 16 * alt (atT 5) m - 4 * alt (atT 239) m
theorem atT_b {n : Nat} (hn : 0 < n) {m : Nat} (hm : 1 ≤ m) : atT n 0 - atT n 1 ≤ alt (atT n) m ∧ alt (atT n) m ≤ atT n 0 := by
 obtain ⟨d, rfl⟩ : ∃ d, m = 1 + d := ⟨m - 1, by omega⟩
 have h1 := alt_tail (j0 := 0) (atT_nn hn) (fun j _ => atT_le hn j) d 1 xq
 have h2 : alt (atT n) 1 = atT n 0 := by show 0 + (1 : Rat) * atT n 0 = _; grind
 have h3 : sgn 1 = -1 := rfl
 rw [h2, h3] at h1
 grind
theorem piN_b {m : Nat} (hm : 1 ≤ m) : 157 / 50 ≤ piN m ∧ piN m ≤ 16 / 5 := by
 have h1 := atT_b (n := 5) yq hm
 have h2 := atT_b (n := 239) yq hm
 have e1 : atT 5 0 = 1 / 5 := by decide +kernel
 have e2 : atT 5 1 = 1 / 375 := by decide +kernel
 have e3 : atT 239 0 = 1 / 239 := by decide +kernel
 have e4 : atT 239 0 - atT 239 1 ≥ 0 := by decide +kernel
 unfold piN
 rw [e1, e2] at h1
 rw [e3] at h2 e4
 constructor
 ·have : (157 / 50 : Rat) ≤ 16 * (1 / 5 - 1 / 375) - 4 * (1 / 239) := by decide +kernel
  grind
 have : (16 : Rat) * (1 / 5) ≤ 16 / 5 := by decide +kernel
 grind
def csT (y : Rat) : Nat → Rat
 | 0 => 1
 | j + 1 => csT y j * (y * y) / (((2 * j + 2) * (2 * j + 1) : Nat) : Rat)
theorem csq_nn (y : Rat) : 0 ≤ y * y := by
 rcases Rat.le_total (a := 0) (b := y) with h | h
 ·exact Rat.mul_nonneg h h
 have h1 : 0 ≤ -y := by grind
 have h2 := Rat.mul_nonneg h1 h1
 grind
theorem csT_nn (y : Rat) : ∀ j, 0 ≤ csT y j
 | 0 => by show (0 : Rat) ≤ 1; decide
 | j + 1 => div_nn (Rat.mul_nonneg (csT_nn y j) (csq_nn y)) (cast_pos (Nat.mul_pos xq xq))
theorem csT_le {y : Rat} (hy : y * y ≤ 12) : ∀ j, 1 ≤ j → csT y (j + 1) ≤ csT y j := by
 intro j hj
 refine dv_le (cast_pos (Nat.mul_pos xq xq)) ?_
 refine Rat.mul_le_mul_of_nonneg_left ?_ (csT_nn y j)
 have : ((12 : Nat) : Rat) ≤ (((2 * j + 2) * (2 * j + 1) : Nat) : Rat) := Rat.natCast_le_natCast.2 (by
  have := Nat.mul_le_mul (show 4 ≤ 2 * j + 2 by omega) (show 3 ≤ 2 * j + 1 by omega); omega)
 exact Rat.le_trans hy this
def csY (p q m : Nat) : Rat := piN m * (p : Rat) / (q : Rat)
def coN (p q m : Nat) : Rat := alt (csT (csY p q m)) m
def cdiv (b d : Int) : Int := -((-b) / d)
theorem fl_mul {a d : Int} (hd : 0 < d) : a / d * d ≤ a ∧ a - d + 1 ≤ a / d * d := by
 have h1 := Int.ediv_mul_le a (b := d) xq
 have h2 := Int.lt_ediv_add_one_mul_self a hd
 rw [Int.add_mul, Int.one_mul] at h2
 omega
theorem cd_mul {b d : Int} (hd : 0 < d) : b ≤ cdiv b d * d ∧ cdiv b d * d ≤ b + d - 1 := by
 have h1 := fl_mul (a := -b) hd
 unfold cdiv
 rw [Int.neg_mul]
 omega
theorem cd_eq0 {b d : Int} (hd : 0 < d) (h : b % d = 0) : cdiv b d = b / d := by
 have h1 := Int.emod_add_mul_ediv b d
 unfold cdiv
 have h2 : -b = d * (-(b / d)) := by rw [Int.mul_neg]; omega
 rw [h2, Int.mul_ediv_cancel_left _ xq]; omega
theorem cd_eq1 {b d : Int} (hd : 0 < d) (h : ¬ b % d = 0) : cdiv b d = b / d + 1 := by
 have h1 := Int.emod_add_mul_ediv b d
 have h2 := Int.emod_nonneg b (b := d) xq
 have h3 := Int.emod_lt_of_pos b hd
 have h4 := cd_mul (b := b) hd
 have h5 : b / d * d < cdiv b d * d := by rw [Int.mul_comm]; omega
 have h6 : cdiv b d * d < (b / d + 2) * d := by rw [Int.add_mul, Int.mul_comm (b / d)]; omega
 have h7 := Int.lt_of_mul_lt_mul_right h5 xq
 have h8 := Int.lt_of_mul_lt_mul_right h6 xq
 omega
theorem cd_width {a b d : Int} (hd : 0 < d) : (cdiv b d - a / d) * d ≤ b - a + 2 * d - 2 := by
 have h1 := fl_mul (a := a) hd
 have h2 := cd_mul (b := b) hd
 rw [Int.sub_mul]; omega
theorem cast_mul_le {a b c : Int} (h : a * b ≤ c) : (a : Rat) * (b : Rat) ≤ (c : Rat) := by
 have := Rat.intCast_le_intCast.2 h
 rwa [Rat.intCast_mul] at this
theorem castI_pos {d : Int} (h : 0 < d) : (0 : Rat) < (d : Rat) := by
 have := Rat.intCast_lt_intCast.2 h
 exact this
theorem fl_le {a d : Int} {z : Rat} (hd : 0 < d) (h : (a : Rat) ≤ z) : ((a / d : Int) : Rat) ≤ z / (d : Rat) := by
 refine le_dv (castI_pos hd) (Rat.le_trans (cast_mul_le (fl_mul (a := a) hd).1) h)
theorem le_ce {b d : Int} {z : Rat} (hd : 0 < d) (h : z ≤ (b : Rat)) : z / (d : Rat) ≤ ((cdiv b d : Int) : Rat) := by
 refine dv_le (castI_pos hd) (Rat.le_trans h ?_)
 have := Rat.intCast_le_intCast.2 (cd_mul (b := b) hd).1
 rwa [Rat.intCast_mul] at this
def Enc (U : Int) (lo hi : Int) (x : Rat) : Prop := (lo : Rat) ≤ x * (U : Rat) ∧ x * (U : Rat) ≤ (hi : Rat)
section
variable {U a b a' b' d : Int} {x y : Rat}
theorem Enc.over (h : Enc U a b x) (hd : 0 < d) : Enc U (a / d) (cdiv b d) (x / (d : Rat)) := by
 have h1 := fl_le hd h.1
 have h2 := le_ce hd h.2
 have e : x / (d : Rat) * (U : Rat) = x * (U : Rat) / (d : Rat) := by rw [Rat.div_def, Rat.div_def]; grind
 unfold Enc
 rw [e]
 exact ⟨h1, h2⟩
theorem Enc.add (h : Enc U a b x) (k : Enc U a' b' y) : Enc U (a + a') (b + b') (x + y) := by
 obtain ⟨h1, h2⟩ := h
 obtain ⟨k1, k2⟩ := k
 unfold Enc
 rw [Rat.intCast_add, Rat.intCast_add]
 constructor <;> grind
theorem Enc.sub (h : Enc U a b x) (k : Enc U a' b' y) : Enc U (a - b') (b - a') (x - y) := by
 obtain ⟨h1, h2⟩ := h
 obtain ⟨k1, k2⟩ := k
 unfold Enc
 rw [Rat.intCast_sub, Rat.intCast_sub]
 constructor <;> grind
theorem Enc.times {n : Nat} (h : Enc U a b x) : Enc U (a * (n : Int)) (b * (n : Int)) (x * (n : Rat)) := by
 obtain ⟨h1, h2⟩ := h
 have hn : (0 : Rat) ≤ (n : Rat) := by
  have : ((0 : Nat) : Rat) ≤ (n : Rat) := Rat.natCast_le_natCast.2 (Nat.zero_le n)
  exact this
 have k1 := Rat.mul_le_mul_of_nonneg_right h1 hn
 have k2 := Rat.mul_le_mul_of_nonneg_right h2 hn
 have e : (((n : Nat) : Int) : Rat) = (n : Rat) := rfl
 unfold Enc
 rw [Rat.intCast_mul, Rat.intCast_mul, e]
 constructor <;> grind
theorem Enc.near {r : Rat} (h : Enc U a b x) (h1 : x - r ≤ y) (h2 : y ≤ x + r) (hr : r * (U : Rat) ≤ 1) (hU : 0 < U) : Enc U (a - 1) (b + 1) y := by
 obtain ⟨k1, k2⟩ := h
 have k3 := Rat.mul_le_mul_of_nonneg_right h1 (Rat.le_of_lt (castI_pos hU))
 have k4 := Rat.mul_le_mul_of_nonneg_right h2 (Rat.le_of_lt (castI_pos hU))
 unfold Enc
 rw [Rat.intCast_sub, Rat.intCast_add]
 have e : ((1 : Int) : Rat) = 1 := rfl
 rw [e]
 constructor <;> grind
theorem Enc.prod (h : Enc U a b x) (k : Enc U a' b' y) (ha : 0 ≤ a) (ha' : 0 ≤ a') (hU : 0 < U) : Enc U (a * a' / U) (cdiv (b * b') U) (x * y) := by
 obtain ⟨h1, h2⟩ := h
 obtain ⟨k1, k2⟩ := k
 have za : (0 : Rat) ≤ (a : Rat) := Rat.intCast_le_intCast.2 ha
 have za' : (0 : Rat) ≤ (a' : Rat) := Rat.intCast_le_intCast.2 ha'
 have m1 := mulm h1 k1 za za'
 have m2 := mulm h2 k2 (Rat.le_trans za h1) (Rat.le_trans za' k1)
 rw [← Rat.intCast_mul] at m1 m2
 have r1 := fl_le hU m1
 have r2 := le_ce hU m2
 have e : x * (U : Rat) * (y * (U : Rat)) / (U : Rat) = x * y * (U : Rat) := by
  have := castI_pos hU
  rw [Rat.div_def]
  have e2 : (U : Rat) * (U : Rat)⁻¹ = 1 := Rat.mul_inv_cancel _ (by grind)
  grind
 rw [e] at r1 r2
 exact ⟨r1, r2⟩
theorem Enc.lo_le {c : Int} (h : Enc U a b x) (hx : x * (U : Rat) ≤ (c : Rat)) : a ≤ c := Rat.intCast_le_intCast.1 (Rat.le_trans h.1 hx)
theorem Enc.le_hi {c : Int} (h : Enc U a b x) (hx : (c : Rat) ≤ x * (U : Rat)) : c ≤ b := Rat.intCast_le_intCast.1 (Rat.le_trans hx h.2)
theorem Enc.le (h : Enc U a b x) : a ≤ b := Rat.intCast_le_intCast.1 (Rat.le_trans h.1 h.2)
theorem Enc.nonneg (h : Enc U a b x) (hx : 0 ≤ x) (hU : 0 < U) : 0 ≤ b := h.le_hi (c := 0) (Rat.mul_nonneg hx (Rat.le_of_lt (castI_pos hU)))
theorem Enc.one : Enc U U U 1 := by unfold Enc; rw [Rat.one_mul]; exact ⟨Rat.le_refl, Rat.le_refl⟩
end
theorem fl_nn {a d : Int} (ha : 0 ≤ a) (hd : 0 < d) : 0 ≤ a / d := Int.ediv_nonneg ha xq
theorem cd_le {b d c : Int} (hd : 0 < d) (h : b ≤ c * d) : cdiv b d ≤ c := by
 have h1 := (cd_mul (b := b) hd).2
 have h2 : cdiv b d * d < (c + 1) * d := by rw [Int.add_mul]; omega
 have := Int.lt_of_mul_lt_mul_right h2 xq
 omega
theorem cd_ge {b d c : Int} (hd : 0 < d) (h : c * d < b) : c + 1 ≤ cdiv b d := by
 have h1 := (cd_mul (b := b) hd).1
 have h2 : c * d < cdiv b d * d := by omega
 have := Int.lt_of_mul_lt_mul_right h2 xq
 omega
theorem cd_self {b d : Int} (hb : 0 ≤ b) (hd : 0 < d) : cdiv b d ≤ b := cd_le hd (by
 have := Int.mul_le_mul_of_nonneg_left (show 1 ≤ d by omega) hb; omega)
theorem cd_half {b d : Int} (hb : 2 ≤ b) (hd : 3 ≤ d) : 2 * cdiv b d ≤ b := by
 have h1 := cd_mul (b := b) (show 0 < d by omega)
 rcases Int.lt_or_le b (2 * cdiv b d) with h | h
 ·exfalso
  have h2 : (b + 1) * d ≤ 2 * cdiv b d * d := Int.mul_le_mul_of_nonneg_right xq xq
  have e : 2 * cdiv b d * d = 2 * (cdiv b d * d) := Int.mul_assoc ..
  rw [Int.add_mul, Int.one_mul, e] at h2
  have h3 : b * 3 ≤ b * d := Int.mul_le_mul_of_nonneg_left hd xq
  have h4 : (b - 2) * 3 ≤ (b - 2) * d := Int.mul_le_mul_of_nonneg_left hd xq
  rw [Int.sub_mul, Int.sub_mul] at h4
  omega
 exact h
theorem w3 {a b d : Int} (h : b - a ≤ 3) (hd : 0 < d) : cdiv b d - a / d ≤ 3 := by
 have h1 := cd_width (a := a) (b := b) hd
 rcases Int.lt_or_le 3 (cdiv b d - a / d) with h2 | h2
 ·have h3 := Int.mul_le_mul_of_nonneg_right (show 4 ≤ cdiv b d - a / d by omega) (show 0 ≤ d by omega)
  omega
 exact h2
end Nt
namespace Nt
def u2 (w : Nat) : Int := ((2 ^ w : Nat) : Int)
theorem u2_pos (w : Nat) : 0 < u2 w := by
 have := Nat.pow_pos (n := w) (show 0 < 2 by decide)
 unfold u2; omega
theorem u2_add (a b : Nat) : u2 (a + b) = u2 a * u2 b := by unfold u2; rw [Nat.pow_add]; exact Int.natCast_mul _ _
theorem u2_mono {a b : Nat} (h : a ≤ b) : u2 a ≤ u2 b := Int.ofNat_le.2 (Nat.pow_le_pow_right yq h)
theorem u2_le_iff {a b : Nat} (h : u2 a ≤ u2 b) : a ≤ b := (Nat.pow_le_pow_iff_right yq).1 (Int.ofNat_le.1 h)
theorem lin8 : ∀ w : Nat, 16 ≤ w → 8 * (128 * (w : Int) + 800) ≤ u2 w := by
 intro w hw
 obtain ⟨k, rfl⟩ : ∃ k, w = 16 + k := ⟨w - 16, by omega⟩
 induction k with
 | zero => decide +kernel
 | succ k ih =>
  have h1 := ih xq
  have h2 : u2 (16 + (k + 1)) = u2 (16 + k) * 2 := u2_add (16 + k) 1
  rw [h2]; omega
structure AtI (n w j : Nat) (pl ph sl sh : Int) : Prop where
 p : Enc (u2 w) pl ph (atP n j)
 s : Enc (u2 w) sl sh (alt (atT n) (j + 1))
 p0 : 0 ≤ pl
 p1 : 1 ≤ ph
 pw : ph - pl ≤ 3
 sw : sh - sl ≤ 3 * ((j : Int) + 1)
 fall : ph * u2 j ≤ u2 w
def AtR (n w : Nat) (lo hi : Int) : Prop := (∃ N : Nat, ∀ m, N ≤ m → Enc (u2 w) lo hi (alt (atT n) m)) ∧ hi - lo ≤ 5 * (w : Int) + 8
theorem AtI.start {n w : Nat} (hn : 0 < n) : AtI n w 0 (u2 w / (n : Int)) (cdiv (u2 w) (n : Int)) (u2 w / (n : Int)) (cdiv (u2 w) (n : Int)) := by
 have hn' : (0 : Int) < (n : Int) := by omega
 have hU := u2_pos w
 have h1 : Enc (u2 w) (u2 w / (n : Int)) (cdiv (u2 w) (n : Int)) (atP n 0) := Enc.one.over hn'
 have h2 : alt (atT n) (0 + 1) = atP n 0 := by
  show 0 + (1 : Rat) * (atP n 0 / (((2 * 0 + 1 : Nat)) : Rat)) = _
  have e : (((2 * 0 + 1 : Nat)) : Rat) = 1 := rfl
  rw [e]; grind
 have h3 := w3 (a := u2 w) (b := u2 w) (d := (n : Int)) xq hn'
 refine ⟨h1, by rw [h2]; exact h1, fl_nn xq hn', cd_ge (c := 0) hn' xq, h3, by omega, ?_⟩
 have : u2 0 = 1 := rfl
 rw [this, Int.mul_one]
 exact cd_self xq hn'
section
variable {n w j : Nat} {pl ph sl sh : Int}
theorem AtI.jw (h : AtI n w j pl ph sl sh) : j ≤ w := by
 refine u2_le_iff (Int.le_trans ?_ h.fall)
 have := Int.mul_le_mul_of_nonneg_right h.p1 (Int.le_of_lt (u2_pos j))
 omega
theorem AtI.power (h : AtI n w j pl ph sl sh) (hn : 0 < n) : Enc (u2 w) (pl / ((n * n : Nat) : Int)) (cdiv ph ((n * n : Nat) : Int)) (atP n (j + 1)) := h.p.over (by have := Nat.mul_pos hn hn; omega)
theorem AtI.term (h : AtI n w j pl ph sl sh) (hn : 0 < n) : Enc (u2 w) (pl / ((n * n : Nat) : Int) / ((2 * j + 3 : Nat) : Int)) (cdiv (cdiv ph ((n * n : Nat) : Int)) ((2 * j + 3 : Nat) : Int)) (atT n (j + 1)) :=
 (h.power hn).over (d := ((2 * j + 3 : Nat) : Int)) xq
theorem AtI.pw' (h : AtI n w j pl ph sl sh) (hn : 0 < n) : cdiv ph ((n * n : Nat) : Int) - pl / ((n * n : Nat) : Int) ≤ 3 := w3 h.pw (by have := Nat.mul_pos hn hn; omega)
theorem AtI.tw (h : AtI n w j pl ph sl sh) (hn : 0 < n) : cdiv (cdiv ph ((n * n : Nat) : Int)) ((2 * j + 3 : Nat) : Int) - pl / ((n * n : Nat) : Int) / ((2 * j + 3 : Nat) : Int) ≤ 3 := w3 (h.pw' hn) xq
theorem AtI.sub (h : AtI n w j pl ph sl sh) (hn : 0 < n) (hj : j % 2 = 0) : Enc (u2 w) (sl - cdiv (cdiv ph ((n * n : Nat) : Int)) ((2 * j + 3 : Nat) : Int)) (sh - pl / ((n * n : Nat) : Int) / ((2 * j + 3 : Nat) : Int)) (alt (atT n) (j + 1 + 1)) := by
 have h1 := h.s.sub (h.term hn)
 have e : alt (atT n) (j + 1 + 1) = alt (atT n) (j + 1) - atT n (j + 1) := by
  rw [alt_s]; unfold sgn; rw [if_neg xq]; grind
 rw [e]; exact h1
theorem AtI.add (h : AtI n w j pl ph sl sh) (hn : 0 < n) (hj : ¬ j % 2 = 0) : Enc (u2 w) (sl + pl / ((n * n : Nat) : Int) / ((2 * j + 3 : Nat) : Int)) (sh + cdiv (cdiv ph ((n * n : Nat) : Int)) ((2 * j + 3 : Nat) : Int)) (alt (atT n) (j + 1 + 1)) := by
 have h1 := h.s.add (h.term hn)
 have e : alt (atT n) (j + 1 + 1) = alt (atT n) (j + 1) + atT n (j + 1) := by
  rw [alt_s]; unfold sgn; rw [if_pos xq]; grind
 rw [e]; exact h1
theorem AtI.go {sl' sh' : Int} (h : AtI n w j pl ph sl sh) (hn : 2 ≤ n) (ht : 2 ≤ cdiv (cdiv ph ((n * n : Nat) : Int)) ((2 * j + 3 : Nat) : Int)) (hs : Enc (u2 w) sl' sh' (alt (atT n) (j + 1 + 1))) (hw : sh' - sl' ≤ sh - sl + 3) :
  AtI n w (j + 1) (pl / ((n * n : Nat) : Int)) (cdiv ph ((n * n : Nat) : Int)) sl' sh' ∧ cdiv ph ((n * n : Nat) : Int) < ph := by
 have hnn : 4 ≤ n * n := Nat.mul_le_mul hn hn
 have h0 := h.p1
 have h1 : 1 ≤ cdiv ph ((n * n : Nat) : Int) := cd_ge (c := 0) xq xq
 have h2 := cd_self (b := cdiv ph ((n * n : Nat) : Int)) (d := ((2 * j + 3 : Nat) : Int)) xq xq
 have h3 := cd_self (b := ph) (d := ((n * n : Nat) : Int)) xq xq
 have h4 := cd_half (b := ph) (d := ((n * n : Nat) : Int)) xq xq
 refine ⟨⟨h.power xq, hs, fl_nn h.p0 xq, h1, h.pw' xq, by have := h.sw; omega, ?_⟩, by omega⟩
 have h5 : u2 (j + 1) = u2 j * 2 := u2_add j 1
 have h6 := Int.mul_le_mul_of_nonneg_right h4 (Int.le_of_lt (u2_pos j))
 have h7 := h.fall
 rw [h5]
 have e : cdiv ph ((n * n : Nat) : Int) * (u2 j * 2) = 2 * cdiv ph ((n * n : Nat) : Int) * u2 j := by grind
 rw [e]; omega
theorem AtI.out {sl' sh' : Int} (h : AtI n w j pl ph sl sh) (hn : 0 < n) (ht : cdiv (cdiv ph ((n * n : Nat) : Int)) ((2 * j + 3 : Nat) : Int) ≤ 1) (hs : Enc (u2 w) sl' sh' (alt (atT n) (j + 1 + 1))) (hw : sh' - sl' ≤ sh - sl + 3) : AtR n w (sl' - 1) (sh' + 1) := by
 refine ⟨⟨j + 1 + 1, fun m hm => ?_⟩, by have := h.jw; have := h.sw; omega⟩
 have h1 := alt_near (j0 := 0) (atT_nn hn) (fun j _ => atT_le hn j) (Nat.zero_le _) hm
 refine hs.near h1.1 h1.2 ?_ (u2_pos w)
 have h2 := (h.term hn).2
 have h3 := Rat.mul_le_mul_of_nonneg_right (atT_le hn (j + 1)) (Rat.le_of_lt (castI_pos (u2_pos w)))
 have h4 : ((cdiv (cdiv ph ((n * n : Nat) : Int)) ((2 * j + 3 : Nat) : Int) : Int) : Rat) ≤ ((1 : Int) : Rat) := Rat.intCast_le_intCast.2 ht
 have e : ((1 : Int) : Rat) = 1 := rfl
 rw [e] at h4
 exact Rat.le_trans h3 (Rat.le_trans h2 h4)
theorem AtI.bd (h : AtI n w j pl ph sl sh) (hn : 0 < n) : ph ≤ u2 w ∧ -(3 * ((w : Int) + 1)) ≤ sl ∧ sl ≤ u2 w ∧ 0 ≤ sh ∧ sh ≤ u2 w + 3 * ((w : Int) + 1) := by
 have h1 := atT_b (n := n) hn (m := j + 1) xq
 have h2 := atT_le hn 0
 have hU := castI_pos (u2_pos w)
 have h3 : alt (atT n) (j + 1) ≤ 1 := by
  refine Rat.le_trans h1.2 ?_
  have e : atT n 0 = atP n 0 / ((2 * 0 + 1 : Nat) : Rat) := rfl
  rw [e]
  refine Rat.le_trans (div_le_self (atP_nn hn 0) (cast_one xq)) ?_
  show 1 / (n : Rat) ≤ 1
  exact div_le_self yq (cast_one hn)
 have h4 : alt (atT n) (j + 1) * (u2 w : Rat) ≤ (u2 w : Rat) := by
  have := Rat.mul_le_mul_of_nonneg_right h3 (Rat.le_of_lt hU)
  rwa [Rat.one_mul] at this
 have h5 := h.s.lo_le h4
 have h6 := h.s.nonneg (by grind) (u2_pos w)
 have h7 := h.sw
 have h8 := h.jw
 have h9 := h.fall
 have h10 := Int.mul_le_mul_of_nonneg_left (show 1 ≤ u2 j by have := u2_pos j; omega) (show 0 ≤ ph by have := h.p1; omega)
 refine ⟨by omega, by omega, h5, h6, by omega⟩
end
def PiR (w : Nat) (lo hi : Int) : Prop := (∃ N : Nat, ∀ m, N ≤ m → Enc (u2 w) lo hi (piN m)) ∧ hi - lo ≤ 128 * (w : Int) + 400
theorem PiR.of {w : Nat} {a b c d : Int} (h : AtR 5 w a b) (k : AtR 239 w c d) : PiR w (a * 16 - d * 4) (b * 16 - c * 4) := by
 obtain ⟨⟨N, h1⟩, h2⟩ := h
 obtain ⟨⟨M, k1⟩, k2⟩ := k
 refine ⟨⟨max N M, fun m hm => ?_⟩, by omega⟩
 have e := ((h1 m xq).times (n := 16)).sub ((k1 m xq).times (n := 4))
 have e2 : piN m = alt (atT 5) m * ((16 : Nat) : Rat) - alt (atT 239) m * ((4 : Nat) : Rat) := by
  unfold piN
  rw [Rat.mul_comm, Rat.mul_comm 4]; rfl
 rw [e2]; exact e
theorem PiR.bd {w : Nat} {a b : Int} (h : PiR w a b) (hw : 16 ≤ w) : 0 ≤ a ∧ b ≤ 4 * u2 w ∧ a ≤ b ∧ 1 ≤ b := by
 obtain ⟨⟨N, h1⟩, h2⟩ := h
 have h3 := h1 (N + 1) xq
 have h4 := piN_b (m := N + 1) xq
 have hU := castI_pos (u2_pos w)
 have l8 := lin8 w hw
 have h5 : 3 * u2 w ≤ b := h3.le_hi (by
  rw [Rat.intCast_mul]
  refine Rat.mul_le_mul_of_nonneg_right (Rat.le_trans ?_ h4.1) (Rat.le_of_lt hU)
  decide +kernel)
 have h6 : 5 * a ≤ 16 * u2 w := by
  have h7 := Rat.mul_le_mul_of_nonneg_right h4.2 (Rat.le_of_lt hU)
  have h8 := h3.1
  refine Rat.intCast_le_intCast.1 ?_
  rw [Rat.intCast_mul, Rat.intCast_mul]
  have e5 : ((5 : Int) : Rat) = 5 := rfl
  have e16 : ((16 : Int) : Rat) = 16 := rfl
  rw [e5, e16]
  grind
 have := h3.le
 have := u2_pos w
 omega
end Nt
namespace Nt
theorem cdw {a b d W : Int} (hd : 0 < d) (h : b - a ≤ W * d) : cdiv b d - a / d ≤ W + 1 := by
 have h1 := cd_width (a := a) (b := b) hd
 rcases Int.lt_or_le (W + 1) (cdiv b d - a / d) with h2 | h2
 ·have h3 := Int.mul_le_mul_of_nonneg_right (show W + 2 ≤ cdiv b d - a / d by omega) (show 0 ≤ d by omega)
  rw [Int.add_mul] at h3
  omega
 exact h2
theorem prod_width {U a b c d W V A C : Int} (hU : 0 < U) (ha : 0 ≤ a) (hc : 0 ≤ c) (h1 : b - a ≤ W) (h2 : d - c ≤ V) (h3 : a ≤ A * U) (h4 : d ≤ C * U) (hA : 0 ≤ A) (hC : 0 ≤ C) (hW : 0 ≤ W) (hV : 0 ≤ V) (hab : a ≤ b) (hcd : c ≤ d) : cdiv (b * d) U - a * c / U ≤ W * C + V * A + 1 := by
 refine cdw hU ?_
 have e : b * d - a * c = (b - a) * d + (d - c) * a := by grind
 have k1 : (b - a) * d ≤ W * (C * U) := Int.le_trans (Int.mul_le_mul_of_nonneg_right h1 xq) (Int.mul_le_mul_of_nonneg_left h4 hW)
 have k2 : (d - c) * a ≤ V * (A * U) := Int.le_trans (Int.mul_le_mul_of_nonneg_right h2 ha) (Int.mul_le_mul_of_nonneg_left h3 hV)
 have e2 : (W * C + V * A) * U = W * (C * U) + V * (A * U) := by grind
 rw [e, e2]; omega
def CsY (p q w : Nat) (lo hi : Int) : Prop := (∃ N : Nat, ∀ m, N ≤ m → Enc (u2 w) lo hi (csY p q m)) ∧ hi - lo ≤ 128 * (w : Int) + 402 ∧ 0 ≤ lo ∧ hi ≤ 2 * u2 w ∧ lo ≤ hi ∧ 1 ≤ hi
theorem csY_b {p q m : Nat} (hq : 0 < q) (hp : 2 * p ≤ q) (hm : 1 ≤ m) : 0 ≤ csY p q m ∧ csY p q m ≤ 8 / 5 := by
 have h1 := piN_b hm
 have hq' := cast_pos hq
 have hp0 : (0 : Rat) ≤ (p : Rat) := Rat.natCast_le_natCast.2 (Nat.zero_le p)
 have hpi0 : 0 ≤ piN m := Rat.le_trans (by decide +kernel) h1.1
 unfold csY
 refine ⟨div_nn (Rat.mul_nonneg hpi0 hp0) hq', dv_le hq' ?_⟩
 have h2 : ((2 * p : Nat) : Rat) ≤ (q : Rat) := Rat.natCast_le_natCast.2 hp
 rw [Rat.natCast_mul] at h2
 have e2 : ((2 : Nat) : Rat) = 2 := rfl
 rw [e2] at h2
 have h3 := Rat.mul_le_mul_of_nonneg_right h1.2 hp0
 have h4 := Rat.mul_le_mul_of_nonneg_left (c := (8 / 5 : Rat)) h2 (by decide +kernel)
 have e3 : (8 / 5 : Rat) * (2 * (p : Rat)) = 16 / 5 * (p : Rat) := by grind
 rw [e3] at h4
 exact Rat.le_trans h3 h4
theorem CsY.of {p q w : Nat} {a b : Int} (h : PiR w a b) (hw : 16 ≤ w) (hq : 0 < q) (hp : 2 * p ≤ q) (hp1 : 1 ≤ p) : CsY p q w (a * (p : Int) / (q : Int)) (cdiv (b * (p : Int)) (q : Int)) := by
 obtain ⟨h0, h4, hab, hb1⟩ := h.bd hw
 obtain ⟨⟨N, h1⟩, h2⟩ := h
 have l8 := lin8 w hw
 have hU := u2_pos w
 have E : ∀ m, N ≤ m → Enc (u2 w) (a * (p : Int) / (q : Int)) (cdiv (b * (p : Int)) (q : Int)) (csY p q m) := fun m hm => ((h1 m hm).times (n := p)).over (d := (q : Int)) xq
 have hwd : cdiv (b * (p : Int)) (q : Int) - a * (p : Int) / (q : Int) ≤ 128 * (w : Int) + 402 := by
  have := cdw (a := a * (p : Int)) (b := b * (p : Int)) (d := (q : Int)) (W := 128 * (w : Int) + 400) xq (by
   rw [← Int.sub_mul]
   exact Int.le_trans (Int.mul_le_mul_of_nonneg_right h2 xq) (Int.mul_le_mul_of_nonneg_left (show (p : Int) ≤ (q : Int) by omega) xq))
  omega
 have hlo : 0 ≤ a * (p : Int) / (q : Int) := fl_nn (Int.mul_nonneg h0 xq) xq
 have e1 := E (N + 1) xq
 have h5 : 5 * (a * (p : Int) / (q : Int)) ≤ 8 * u2 w := by
  have h6 := csY_b (m := N + 1) hq hp xq
  have h7 := Rat.mul_le_mul_of_nonneg_right h6.2 (Rat.le_of_lt (castI_pos hU))
  have h8 := e1.1
  refine Rat.intCast_le_intCast.1 ?_
  rw [Rat.intCast_mul, Rat.intCast_mul]
  have e5 : ((5 : Int) : Rat) = 5 := rfl
  have e16 : ((8 : Int) : Rat) = 8 := rfl
  rw [e5, e16]
  grind
 have hbp : 1 ≤ b * (p : Int) := by
  have := Int.mul_le_mul hb1 (show (1 : Int) ≤ (p : Int) by omega) yq xq
  omega
 exact ⟨⟨N, E⟩, hwd, hlo, by omega, e1.le, cd_ge (c := 0) xq xq⟩
def CsQ (p q w : Nat) (lo hi : Int) : Prop := (∃ N : Nat, ∀ m, N ≤ m → Enc (u2 w) lo hi (csY p q m * csY p q m)) ∧ hi - lo ≤ 512 * (w : Int) + 1609 ∧ 0 ≤ lo ∧ hi ≤ 4 * u2 w ∧ lo ≤ hi ∧ 1 ≤ hi
theorem CsQ.of {p q w : Nat} {a b : Int} (h : CsY p q w a b) : CsQ p q w (a * a / u2 w) (cdiv (b * b) (u2 w)) := by
 obtain ⟨⟨N, h1⟩, h2, h3, h4, h5, h51⟩ := h
 have hU := u2_pos w
 have E : ∀ m, N ≤ m → Enc (u2 w) (a * a / u2 w) (cdiv (b * b) (u2 w)) (csY p q m * csY p q m) := fun m hm => (h1 m hm).prod (h1 m hm) h3 h3 hU
 refine ⟨⟨N, E⟩, ?_, fl_nn (Int.mul_nonneg h3 h3) hU, cd_le hU ?_, (E N qyl).le, cd_ge (c := 0) hU (by have := Int.mul_le_mul h51 h51 yq xq; omega)⟩
 ·have := prod_width (A := 2) (C := 2) hU h3 h3 h2 h2 xq h4 xq xq xq xq h5 h5
  omega
 have h6 := Int.mul_le_mul h4 h4 xq xq
 have e : 2 * u2 w * (2 * u2 w) = 4 * u2 w * u2 w := by grind
 rw [e] at h6; exact h6
def csW (w : Nat) : Int := 512 * (w : Int) + 1611
structure CsT (p q w j : Nat) (tl th : Int) : Prop where
 e : ∃ N : Nat, ∀ m, N ≤ m → Enc (u2 w) tl th (csT (csY p q m) j)
 t0 : 0 ≤ tl
 t1 : 1 ≤ th
 tt : tl ≤ th
 t2 : th ≤ 2 * u2 w
 tw : th - tl ≤ csW w
 t00 : j = 0 → tl = th ∧ th = u2 w
 fall : th * u2 j ≤ 4 * u2 w
theorem CsT.start {p q w : Nat} : CsT p q w 0 (u2 w) (u2 w) := by
 have hU := u2_pos w
 refine ⟨⟨0, fun m _ => Enc.one⟩, by omega, by omega, by omega, by omega, ?_, fun _ => ⟨rfl, rfl⟩, ?_⟩
 ·unfold csW; omega
 show u2 w * 1 ≤ _; omega
def coD (j : Nat) : Int := (((2 * j + 2) * (2 * j + 1) : Nat) : Int)
theorem coD_pos (j : Nat) : 2 ≤ coD j := by
 have := Nat.mul_le_mul (show 2 ≤ 2 * j + 2 by omega) (show 1 ≤ 2 * j + 1 by omega)
 unfold coD; omega
theorem coD_12 {j : Nat} (hj : 1 ≤ j) : 12 ≤ coD j := by
 have := Nat.mul_le_mul (show 4 ≤ 2 * j + 2 by omega) (show 3 ≤ 2 * j + 1 by omega)
 unfold coD; omega
def csL (w j : Nat) (tl ql : Int) : Int := tl * ql / u2 w / coD j
def csH (w j : Nat) (th qh : Int) : Int := cdiv (cdiv (th * qh) (u2 w)) (coD j)
section
variable {p q w j : Nat} {tl th ql qh : Int}
theorem CsT.jw (h : CsT p q w j tl th) : j ≤ w + 2 := by
 refine u2_le_iff (Int.le_trans ?_ (Int.le_trans h.fall (by rw [u2_add w 2]; show 4 * u2 w ≤ u2 w * 4; omega)))
 have := Int.mul_le_mul_of_nonneg_right h.t1 (Int.le_of_lt (u2_pos j))
 omega
theorem CsT.term (h : CsT p q w j tl th) (hq : CsQ p q w ql qh) : ∃ N : Nat, ∀ m, N ≤ m → Enc (u2 w) (csL w j tl ql) (csH w j th qh) (csT (csY p q m) (j + 1)) := by
 obtain ⟨N, h1⟩ := h.e
 obtain ⟨⟨M, k1⟩, k2, k3, k4, k5, k6⟩ := hq
 exact ⟨max N M, fun m hm => (((h1 m xq).prod (k1 m xq) h.t0 k3 (u2_pos w)).over (by have := coD_pos j; omega))⟩
theorem CsT.next (h : CsT p q w j tl th) (hq : CsQ p q w ql qh) (ht : j ≤ 1 ∨ 2 ≤ th) : CsT p q w (j + 1) (csL w j tl ql) (csH w j th qh) ∧ (1 ≤ j → csH w j th qh ≤ th) ∧ (1 ≤ j → 2 ≤ th → 2 * csH w j th qh ≤ th) := by
 have hE := h.term hq
 have hU := u2_pos w
 have hd := coD_pos j
 obtain ⟨N, h1⟩ := id hE
 have hle := (h1 N qyl).le
 obtain ⟨_, k2, k3, k4, k5, k6⟩ := hq
 have t0 := h.t0
 have t1 := h.t1
 have t2 := h.t2
 have tt := h.tt
 have tw := h.tw
 have hfl := h.fall
 have g0 : 0 ≤ csL w j tl ql := fl_nn (fl_nn (Int.mul_nonneg t0 k3) hU) xq
 have g1 : cdiv (th * qh) (u2 w) ≤ 4 * th := cd_le hU (by
  have := Int.mul_le_mul_of_nonneg_left k4 (show 0 ≤ th by omega)
  have e : th * (4 * u2 w) = 4 * th * u2 w := by grind
  rw [e] at this; exact this)
 have g2 : csH w j th qh ≤ 2 * th := cd_le xq (by
  have := Int.mul_le_mul_of_nonneg_left hd (show 0 ≤ 2 * th by omega); omega)
 have g3 : 1 ≤ j → csH w j th qh ≤ cdiv th 3 := fun hj => cd_le xq (by
  have h5 := (cd_mul (b := th) (d := 3) yq).1
  have h6 := Int.mul_le_mul_of_nonneg_left (coD_12 hj) (show 0 ≤ cdiv th 3 by omega)
  omega)
 have g4 : cdiv th 3 ≤ th := cd_self xq yq
 have g5 : 1 ≤ th * qh := by
  have := Int.mul_le_mul t1 k6 yq xq
  omega
 have g6 : 1 ≤ cdiv (th * qh) (u2 w) := cd_ge (c := 0) hU xq
 have g7 : 1 ≤ csH w j th qh := cd_ge (c := 0) xq xq
 have g8 : 1 ≤ j → 2 ≤ th → 2 * csH w j th qh ≤ th := fun hj h2 => by
  have h3 := g3 hj
  have h4 := cd_half (b := th) (d := 3) h2 yq
  omega
 have g9 : 1 ≤ j → csH w j th qh ≤ th := fun hj => Int.le_trans (g3 hj) g4
 have aa : csH w j th qh ≤ 2 * u2 w := by
  by_cases hj : j = 0
  ·rw [(h.t00 hj).2] at g2 ⊢
   exact g2
  have := g9 xq; omega
 refine ⟨⟨hE, g0, g7, hle, aa, ?_, by omega, ?_⟩, g9, g8⟩
 ·by_cases hj : j = 0
  ·obtain ⟨e1, e2⟩ := h.t00 hj
   have := prod_width (A := 1) (C := 4) (W := 0) (V := 512 * (w : Int) + 1609) hU t0 k3 xq k2 xq k4 xq xq xq xq tt k5
   have h9 := cdw (a := tl * ql / u2 w) (b := cdiv (th * qh) (u2 w)) (d := coD j) (W := 512 * (w : Int) + 1610) xq (by
    have := Int.mul_le_mul_of_nonneg_left (show 1 ≤ coD j by omega) (show 0 ≤ 512 * (w : Int) + 1610 by omega)
    omega)
   unfold csW csL csH; omega
  have ab : 1 ≤ j := by omega
  have hd12 := coD_12 ab
  have := prod_width (A := 2) (C := 4) (W := csW w) (V := 512 * (w : Int) + 1609) hU t0 k3 tw k2 xq k4 xq xq (by unfold csW; omega) xq tt k5
  have h9 := cdw (a := tl * ql / u2 w) (b := cdiv (th * qh) (u2 w)) (d := coD j) (W := 512 * (w : Int) + 1610) xq (by
   have := Int.mul_le_mul_of_nonneg_left hd12 (show 0 ≤ 512 * (w : Int) + 1610 by omega)
   unfold csW at *
   omega)
  unfold csW csL csH; omega
 have e2 : u2 (j + 1) = u2 j * 2 := u2_add j 1
 rw [e2]
 have e : csH w j th qh * (u2 j * 2) = 2 * csH w j th qh * u2 j := by grind
 rw [e]
 by_cases hj : j = 0
 ·subst hj
  show 2 * csH w 0 th qh * 1 ≤ _
  omega
 by_cases h2 : 2 ≤ th
 ·have h4 := g8 xq h2
  exact Int.le_trans (Int.mul_le_mul_of_nonneg_right h4 (Int.le_of_lt (u2_pos j))) hfl
 have h4 := g9 xq
 obtain rfl : j = 1 := by omega
 show 2 * csH w 1 th qh * 2 ≤ _
 omega
end
structure CsI (p q w j : Nat) (tl th sl sh : Int) : Prop where
 c : CsT p q w j tl th
 s : ∃ N : Nat, ∀ m, N ≤ m → Enc (u2 w) sl sh (alt (csT (csY p q m)) (j + 1))
 sw : sh - sl ≤ csW w * (j : Int)
def CsR (p q w : Nat) (lo hi : Int) : Prop := (∃ N : Nat, ∀ m, N ≤ m → Enc (u2 w) lo hi (coN p q m)) ∧ hi - lo ≤ csW w * ((w : Int) + 4) + 2
theorem CsI.start {p q w : Nat} : CsI p q w 0 (u2 w) (u2 w) (u2 w) (u2 w) := by
 refine ⟨CsT.start, ⟨0, fun m _ => ?_⟩, by omega⟩
 have : alt (csT (csY p q m)) (0 + 1) = 1 := by show 0 + (1 : Rat) * 1 = 1; decide +kernel
 rw [this]; exact Enc.one
def csM (w j : Nat) (th : Int) : Nat := if j = 0 then (4 * u2 w).toNat else th.toNat
def CsS (w j : Nat) (tl th ql qh sl sh sl' sh' : Int) : Prop := j % 2 = 0 ∧ sl' = sl - csH w j th qh ∧ sh' = sh - csL w j tl ql ∨ ¬ j % 2 = 0 ∧ sl' = sl + csL w j tl ql ∧ sh' = sh + csH w j th qh
section
variable {p q w j : Nat} {tl th sl sh ql qh sl' sh' : Int}
theorem CsI.sum (h : CsI p q w j tl th sl sh) (hq : CsQ p q w ql qh) (hs : CsS w j tl th ql qh sl sh sl' sh') : (∃ N : Nat, ∀ m, N ≤ m → Enc (u2 w) sl' sh' (alt (csT (csY p q m)) (j + 1 + 1))) ∧ sh' - sl' = sh - sl + (csH w j th qh - csL w j tl ql) := by
 obtain ⟨N, h1⟩ := h.c.term hq
 obtain ⟨M, h2⟩ := h.s
 rcases hs with ⟨e, rfl, rfl⟩ | ⟨e, rfl, rfl⟩
 ·refine ⟨⟨max N M, fun m hm => ?_⟩, by omega⟩
  have e2 : alt (csT (csY p q m)) (j + 1 + 1) = alt (csT (csY p q m)) (j + 1) - csT (csY p q m) (j + 1) := by
   rw [alt_s]; unfold sgn; rw [if_neg xq]; grind
  rw [e2]; exact (h2 m xq).sub (h1 m xq)
 refine ⟨⟨max N M, fun m hm => ?_⟩, by omega⟩
 have e2 : alt (csT (csY p q m)) (j + 1 + 1) = alt (csT (csY p q m)) (j + 1) + csT (csY p q m) (j + 1) := by
  rw [alt_s]; unfold sgn; rw [if_pos xq]; grind
 rw [e2]; exact (h2 m xq).add (h1 m xq)
theorem CsI.go (h : CsI p q w j tl th sl sh) (hq : CsQ p q w ql qh) (ht : j = 0 ∨ 2 ≤ csH w j th qh) (hs : CsS w j tl th ql qh sl sh sl' sh') :
  CsI p q w (j + 1) (csL w j tl ql) (csH w j th qh) sl' sh' ∧ csM w (j + 1) (csH w j th qh) < csM w j th := by
 have hT : 1 ≤ j → csH w j th qh ≤ th := fun hj => (h.c.next hq (by
  rcases Int.lt_or_le th 2 with h2 | h2
  ·exact .inl (by
    have hd := coD_12 hj
    have hU := u2_pos w
    have t1 := h.c.t1
    have k4 := hq.2.2.2.1
    have k1 : csH w j th qh ≤ 1 := cd_le xq (by
     have : cdiv (th * qh) (u2 w) ≤ 4 := cd_le hU (by
      have e : th = 1 := by omega
      rw [e, Int.one_mul]; exact k4)
     omega)
    omega)
  exact .inr h2)).2.1 hj
 have hN := h.c.next hq (by
  by_cases hj : j = 0
  ·exact .inl xq
  have := hT xq; exact .inr xq)
 obtain ⟨S1, S2⟩ := h.sum hq hs
 have hsw := h.sw
 have hU := u2_pos w
 have htw := hN.1.tw
 have e : csW w * (((j + 1 : Nat)) : Int) = csW w * (j : Int) + csW w := by rw [Int.natCast_add, Int.mul_add]; simp
 refine ⟨⟨hN.1, S1, by rw [e]; omega⟩, ?_⟩
 have ht2 := hN.1.t2
 unfold csM
 rw [if_neg xq]
 by_cases hj : j = 0
 ·rw [if_pos hj]; omega
 rw [if_neg hj]
 have h4 := hN.2.2 xq (by have := hT xq; omega)
 omega
theorem cs_near {x : Nat → Rat} {m : Nat} {y : Rat} {j : Nat} (hy : 0 ≤ y ∧ y ≤ 8 / 5) (hj : 1 ≤ j) (hm : j ≤ m) : alt (csT y) j - csT y j ≤ alt (csT y) m ∧ alt (csT y) m ≤ alt (csT y) j + csT y j := by
 have hyy : y * y ≤ 12 := Rat.le_trans (mulm hy.2 hy.2 hy.1 hy.1) (by decide +kernel)
 exact alt_near (j0 := 1) (csT_nn _) (csT_le hyy) hj hm
theorem CsI.out (h : CsI p q w j tl th sl sh) (hq : CsQ p q w ql qh) (h0 : 0 < q) (hp : 2 * p ≤ q) (hj : 1 ≤ j) (ht : csH w j th qh ≤ 1) (hs : CsS w j tl th ql qh sl sh sl' sh') : CsR p q w (sl' - 1) (sh' + 1) := by
 obtain ⟨S1, S2⟩ := h.sum hq hs
 obtain ⟨M, h2⟩ := S1
 obtain ⟨N, h1⟩ := h.c.term hq
 have hU := u2_pos w
 have hL : 0 ≤ csL w j tl ql := fl_nn (fl_nn (Int.mul_nonneg h.c.t0 hq.2.2.1) hU) (by have := coD_pos j; omega)
 refine ⟨⟨max (max N M) (j + 2), fun m hm => ?_⟩, ?_⟩
 ·have hy := csY_b (m := m) h0 hp xq
  have hyy : csY p q m * csY p q m ≤ 12 := Rat.le_trans (mulm hy.2 hy.2 hy.1 hy.1) (by decide +kernel)
  have h3 := cs_near (x := fun _ => 0) (m := m) (j := j + 1 + 1) hy xq xq
  have h4 := csT_le hyy (j + 1) xq
  refine (h2 m xq).near h3.1 h3.2 ?_ hU
  have h5 := Rat.mul_le_mul_of_nonneg_right h4 (Rat.le_of_lt (castI_pos hU))
  have h6 : ((csH w j th qh : Int) : Rat) ≤ ((1 : Int) : Rat) := Rat.intCast_le_intCast.2 ht
  have e : ((1 : Int) : Rat) = 1 := rfl
  rw [e] at h6
  exact Rat.le_trans h5 (Rat.le_trans (h1 m xq).2 h6)
 have h6 := h.sw
 have h7 := h.c.jw
 have h8 := Int.mul_le_mul_of_nonneg_left (show (j : Int) + 1 ≤ (w : Int) + 4 by omega) (show 0 ≤ csW w by unfold csW; omega)
 rw [Int.mul_add] at h8
 have : 1 ≤ csW w := by unfold csW; omega
 omega
theorem cs_bd {N : Nat} {m : Nat} (h0 : 0 < q) (hp : 2 * p ≤ q) (hm : 1 ≤ m) (hj : 1 ≤ j) (h2 : Enc (u2 w) sl sh (alt (csT (csY p q m)) j)) : sl ≤ 3 * u2 w ∧ -(3 * u2 w) ≤ sh := by
 have hy := csY_b (m := m) h0 hp hm
 have h3 := cs_near (x := fun _ => 0) (j := 1) (m := j) hy xq xq
 have hyy := mulm hy.2 hy.2 hy.1 hy.1
 have e1 : alt (csT (csY p q m)) 1 = 1 := by show 0 + (1 : Rat) * 1 = 1; decide +kernel
 have h4 : csT (csY p q m) 1 ≤ 2 := by
  show 1 * (csY p q m * csY p q m) / (((2 * 0 + 2) * (2 * 0 + 1) : Nat) : Rat) ≤ 2
  refine dv_le (cast_pos yq) ?_
  rw [Rat.one_mul]
  exact Rat.le_trans hyy (by decide +kernel)
 rw [e1] at h3
 have hU := castI_pos (u2_pos w)
 have h5 : alt (csT (csY p q m)) j * (u2 w : Rat) ≤ ((3 * u2 w : Int) : Rat) := by
  rw [Rat.intCast_mul]
  refine Rat.mul_le_mul_of_nonneg_right ?_ (Rat.le_of_lt hU)
  have e : ((3 : Int) : Rat) = 3 := rfl
  rw [e]; grind
 have h6 : ((-(3 * u2 w) : Int) : Rat) ≤ alt (csT (csY p q m)) j * (u2 w : Rat) := by
  have e : -(3 * u2 w) = (-3) * u2 w := by omega
  rw [e, Rat.intCast_mul]
  refine Rat.mul_le_mul_of_nonneg_right ?_ (Rat.le_of_lt hU)
  have e : ((-3 : Int) : Rat) = -3 := rfl
  rw [e]; grind
 exact ⟨h2.lo_le h5, h2.le_hi h6⟩
theorem CsI.bd (h : CsI p q w j tl th sl sh) (h0 : 0 < q) (hp : 2 * p ≤ q) : -(csW w * ((w : Int) + 2)) - 3 * u2 w ≤ sl ∧ sl ≤ 3 * u2 w ∧ -(3 * u2 w) ≤ sh ∧ sh ≤ 3 * u2 w + csW w * ((w : Int) + 2) := by
 obtain ⟨N, h1⟩ := h.s
 have h2 := cs_bd (N := N) (m := N + 1) h0 hp xq xq (h1 (N + 1) xq)
 have h9 := h.sw
 have h10 := h.c.jw
 have h11 := Int.mul_le_mul_of_nonneg_left (show (j : Int) ≤ (w : Int) + 2 by omega) (show 0 ≤ csW w by unfold csW; omega)
 omega
end
def FlO (X : Nat → Rat) (b : Nat) (z : Int) : Prop := ∃ N : Nat, ∀ m, N ≤ m → (z : Rat) ≤ X m * (u2 b : Rat) ∧ X m * (u2 b : Rat) < ((z + 1 : Int) : Rat)
theorem FlO.uniq {X : Nat → Rat} {b : Nat} {y z : Int} (h : FlO X b y) (k : FlO X b z) : y = z := by
 obtain ⟨N, h⟩ := h
 obtain ⟨M, k⟩ := k
 have h1 := h (max N M) xq
 have k1 := k (max N M) xq
 have a := Rat.intCast_lt_intCast.1 (Std.lt_of_le_of_lt h1.1 k1.2)
 have c := Rat.intCast_lt_intCast.1 (Std.lt_of_le_of_lt k1.1 h1.2)
 omega
theorem FlO.of {X : Nat → Rat} {b w : Nat} {lo hi z : Int} (h : ∃ N : Nat, ∀ m, N ≤ m → Enc (u2 w) lo hi (X m)) (hb : b ≤ w) (h1 : lo / u2 (w - b) = z) (h2 : hi / u2 (w - b) = z) : FlO X b z := by
 obtain ⟨N, h⟩ := h
 refine ⟨N, fun m hm => ?_⟩
 have h3 := h m hm
 have hp := u2_pos (w - b)
 have e : u2 w = u2 b * u2 (w - b) := by rw [← u2_add, show b + (w - b) = w by omega]
 have k1 := (fl_mul (a := lo) hp).1
 have k2 := Int.lt_ediv_add_one_mul_self hi hp
 rw [h1] at k1
 rw [h2] at k2
 have r1 := Rat.intCast_le_intCast.2 k1
 have r2 := Rat.intCast_lt_intCast.2 k2
 rw [Rat.intCast_mul] at r1 r2
 obtain ⟨h4, h5⟩ := h3
 rw [e, Rat.intCast_mul, ← Rat.mul_assoc] at h4 h5
 refine ⟨Rat.le_of_mul_le_mul_right (Rat.le_trans r1 h4) (castI_pos hp), ?_⟩
 by_cases h6 : X m * (u2 b : Rat) < ((z + 1 : Int) : Rat)
 ·exact h6
 have h7 := Rat.mul_le_mul_of_nonneg_right (Rat.not_lt.1 h6) (Rat.le_of_lt (castI_pos hp))
 exact absurd (Std.lt_of_le_of_lt (Rat.le_trans h7 h5) r2) (by grind)
def Gap (X : Nat → Rat) (b g : Nat) : Prop := b ≤ g ∧ ∃ (z : Int) (N : Nat), ∀ m, N ≤ m → ((z * u2 (g - b) + 1 : Int) : Rat) ≤ X m * (u2 g : Rat) ∧ X m * (u2 g : Rat) ≤ ((z * u2 (g - b) + u2 (g - b) - 1 : Int) : Rat)
theorem Gap.decides {X : Nat → Rat} {b g w : Nat} {lo hi : Int} (h0 : Gap X b g) (h : ∃ N : Nat, ∀ m, N ≤ m → Enc (u2 w) lo hi (X m)) (hb : g ≤ w) (hw : hi - lo < u2 (w - g)) : lo / u2 (w - b) = hi / u2 (w - b) := by
 obtain ⟨hbg, z, N, g0⟩ := h0
 obtain ⟨M, h⟩ := h
 have g1 := g0 (max N M) xq
 have h1 := h (max N M) xq
 have e : u2 w = u2 g * u2 (w - g) := by rw [← u2_add, show g + (w - g) = w by omega]
 have e2 : u2 (w - b) = u2 (g - b) * u2 (w - g) := by rw [← u2_add, show g - b + (w - g) = w - b by omega]
 have hs := u2_pos (w - g)
 have hB := u2_pos (g - b)
 generalize u2 (w - g) = s at *
 generalize u2 (g - b) = B at *
 obtain ⟨h4, h5⟩ := h1
 rw [e, Rat.intCast_mul, ← Rat.mul_assoc] at h4 h5
 have r1 := Rat.mul_le_mul_of_nonneg_right g1.1 (Rat.le_of_lt (castI_pos hs))
 have r2 := Rat.mul_le_mul_of_nonneg_right g1.2 (Rat.le_of_lt (castI_pos hs))
 rw [← Rat.intCast_mul] at r1 r2
 have k1 := Rat.intCast_le_intCast.1 (Rat.le_trans r1 h5)
 have k2 := Rat.intCast_le_intCast.1 (Rat.le_trans h4 r2)
 have hS : 0 < B * s := Int.mul_pos hB hs
 have e3 : (z * B + 1) * s = z * (B * s) + s := by grind
 have e4 : (z * B + B - 1) * s = z * (B * s) + B * s - s := by grind
 rw [e3] at k1
 rw [e4] at k2
 have f : ∀ y : Int, z * (B * s) ≤ y → y < z * (B * s) + B * s → y / u2 (w - b) = z := fun y h1 h2 => by
  rw [e2]
  have a1 := Int.le_ediv_of_mul_le hS h1
  have a2 : y / (B * s) < z + 1 := Int.ediv_lt_of_lt_mul hS (by rw [Int.add_mul, Int.one_mul]; exact h2)
  omega
 have hle : lo ≤ hi := (h (max N M) xq).le
 rw [f lo xq xq, f hi xq xq]
theorem Gap.lower {X : Nat → Rat} {b c g : Nat} (h : Gap X b g) (hc : c ≤ b) : Gap X c g := by
 obtain ⟨hbg, z, N, h⟩ := h
 have e : u2 (g - c) = u2 (g - b) * u2 (b - c) := by rw [← u2_add, show g - b + (b - c) = g - c by omega]
 have hB := u2_pos (g - b)
 have hC := u2_pos (b - c)
 have h1 := (fl_mul (a := z) hC).1
 have h2 := Int.lt_ediv_add_one_mul_self z hC
 refine ⟨by omega, z / u2 (b - c), N, fun m hm => ?_⟩
 have h3 := h m hm
 rw [e]
 generalize z / u2 (b - c) = y at *
 generalize u2 (b - c) = C at *
 generalize u2 (g - b) = B at *
 refine ⟨Rat.le_trans (Rat.intCast_le_intCast.2 ?_) h3.1, Rat.le_trans h3.2 (Rat.intCast_le_intCast.2 ?_)⟩
 ·have := Int.mul_le_mul_of_nonneg_right h1 (Int.le_of_lt hB)
  have e2 : y * (B * C) = y * C * B := by grind
  omega
 have := Int.mul_le_mul_of_nonneg_right (show z + 1 ≤ (y + 1) * C by omega) (Int.le_of_lt hB)
 have e2 : y * (B * C) + B * C = (y + 1) * C * B := by grind
 rw [Int.add_mul] at this
 omega
theorem Gap.of {X : Nat → Rat} {b g w : Nat} {lo hi : Int} (h : ∃ N : Nat, ∀ m, N ≤ m → Enc (u2 w) lo hi (X m)) (z : Int) (hb : b ≤ g) (hg : g ≤ w) (h1 : (z * u2 (g - b) + 1) * u2 (w - g) ≤ lo) (h2 : hi ≤ (z * u2 (g - b) + u2 (g - b) - 1) * u2 (w - g)) : Gap X b g := by
 obtain ⟨N, h⟩ := h
 have e : u2 w = u2 g * u2 (w - g) := by rw [← u2_add, show g + (w - g) = w by omega]
 have hs := castI_pos (u2_pos (w - g))
 refine ⟨hb, z, N, fun m hm => ?_⟩
 obtain ⟨h4, h5⟩ := h m hm
 rw [e, Rat.intCast_mul, ← Rat.mul_assoc] at h4 h5
 have k1 := Rat.le_trans (Rat.intCast_le_intCast.2 h1) h4
 have k2 := Rat.le_trans h5 (Rat.intCast_le_intCast.2 h2)
 rw [Rat.intCast_mul] at k1 k2
 exact ⟨Rat.le_of_mul_le_mul_right k1 hs, Rat.le_of_mul_le_mul_right k2 hs⟩
end Nt
namespace Nt
def force {α : Type} (n : Nat) (k : Nat → α) : α := Nat.rec (k 0) (fun m _ => k (m + 1)) n
theorem force_eq {α : Type} (n : Nat) (k : Nat → α) : force n k = k n := by cases n <;> rfl
def cdn (a d : Nat) : Nat := (a + d - 1) / d
theorem cdn_cdiv {a d : Nat} (hd : 0 < d) : ((cdn a d : Nat) : Int) = cdiv (a : Int) (d : Int) := by
 have h1 := cd_mul (b := (a : Int)) (d := (d : Int)) xq
 have h2 := Nat.div_mul_le_self (a + d - 1) d
 have h3 := Nat.lt_div_mul_add (a := a + d - 1) hd
 have e : cdn a d = (a + d - 1) / d := rfl
 rw [← e] at h2 h3
 have k1 : ((cdn a d : Nat) : Int) * (d : Int) < (cdiv (a : Int) (d : Int) + 1) * (d : Int) := by
  rw [Int.add_mul, ← Int.natCast_mul]; omega
 have k2 : cdiv (a : Int) (d : Int) * (d : Int) < (((cdn a d : Nat) : Int) + 1) * (d : Int) := by
  rw [Int.add_mul, ← Int.natCast_mul]; omega
 have k3 := Int.lt_of_mul_lt_mul_right k1 xq
 have k4 := Int.lt_of_mul_lt_mul_right k2 xq
 omega
def sumAB (a : Nat → Rat) : Nat → Rat × Rat
 | 0 => (0, 0)
 | n + 1 => ((sumAB a n).2, (sumAB a n).1 + a n)
theorem alt_AB (a : Nat → Rat) (n : Nat) : alt a n = sgn n * ((sumAB a n).1 - (sumAB a n).2) := by
 induction n with
 | zero => show (0 : Rat) = 1 * (0 - 0); decide +kernel
 | succ n ih =>
  rw [alt_s, ih, sgn_s]
  show _ = -sgn n * ((sumAB a n).2 - ((sumAB a n).1 + a n))
  grind
structure EvS where
 (l h el eh ol oh : Nat)
def EvI (U : Int) (a t : Nat → Rat) (k : Nat) (s : EvS) : Prop := Enc U (s.l : Int) (s.h : Int) (t k) ∧ Enc U (s.el : Int) (s.eh : Int) (sumAB a k).1 ∧ Enc U (s.ol : Int) (s.oh : Int) (sumAB a k).2
def atEv (nn : Nat) (r : Nat) : Nat → Nat → Nat → Nat → Nat → Nat → Nat → EvS :=
 Nat.rec (fun _ l h el eh ol oh => ⟨l, h, el, eh, ol, oh⟩)
  (fun _ ih k l h el eh ol oh =>
   force (l / nn) fun l' => force (cdn h nn) fun h' => force (2 * k + 1) fun d => force (l / d) fun tl => force (cdn h d) fun th =>
   force (el + tl) fun el' => force (eh + th) fun eh' => ih (k + 1) l' h' ol oh el' eh') r
theorem Enc.overN {U : Int} {a b d : Nat} {x : Rat} (h : Enc U (a : Int) (b : Int) x) (hd : 0 < d) : Enc U ((a / d : Nat) : Int) ((cdn b d : Nat) : Int) (x / (d : Rat)) := by
 rw [cdn_cdiv hd]
 exact h.over (d := (d : Int)) xq
theorem atEv_ok {n : Nat} (hn : 0 < n) {U : Int} : ∀ r k l h el eh ol oh, EvI U (atT n) (atP n) k ⟨l, h, el, eh, ol, oh⟩ → EvI U (atT n) (atP n) (k + r) (atEv (n * n) r k l h el eh ol oh) := by
 intro r
 induction r with
 | zero => intro k l h el eh ol oh hi; exact hi
 | succ r ih =>
  intro k l h el eh ol oh hi
  obtain ⟨h1, h2, h3⟩ := hi
  have t : Enc U ((l / (2 * k + 1) : Nat) : Int) ((cdn h (2 * k + 1) : Nat) : Int) (atT n k) := h1.overN xq
  have p : Enc U ((l / (n * n) : Nat) : Int) ((cdn h (n * n) : Nat) : Int) (atP n (k + 1)) := h1.overN (Nat.mul_pos hn hn)
  have e0 : atEv (n * n) (r + 1) k l h el eh ol oh = force (l / (n * n)) fun l' => force (cdn h (n * n)) fun h' => force (2 * k + 1) fun d => force (l / d) fun tl => force (cdn h d) fun th => force (el + tl) fun el' => force (eh + th) fun eh' => atEv (n * n) r (k + 1) l' h' ol oh el' eh' := rfl
  have e : atEv (n * n) (r + 1) k l h el eh ol oh = atEv (n * n) r (k + 1) (l / (n * n)) (cdn h (n * n)) ol oh (el + l / (2 * k + 1)) (eh + cdn h (2 * k + 1)) := by
   rw [e0]; simp only [force_eq]
  rw [show k + (r + 1) = k + 1 + r by omega, e]
  exact ih (k + 1) _ _ _ _ _ _ ⟨p, h3, h2.add t⟩
theorem ev_late {U : Int} {a : Nat → Rat} {k j0 e : Nat} {s : EvS} (hU : 0 < U) (h0 : ∀ j, 0 ≤ a j) (hd : ∀ j, j0 ≤ j → a (j + 1) ≤ a j) (hk : j0 ≤ k) (hk2 : k % 2 = 0) (h1 : Enc U (s.el : Int) (s.eh : Int) (sumAB a k).1) (h2 : Enc U (s.ol : Int) (s.oh : Int) (sumAB a k).2) (he : a k * (U : Rat) ≤ (e : Rat)) : ∀ m, k ≤ m → Enc U ((s.el : Int) - (s.oh : Int) - (e : Int)) ((s.eh : Int) - (s.ol : Int) + (e : Int)) (alt a m) := by
 intro m hm
 have h3 := alt_near h0 hd hk hm
 have h4 := h1.sub h2
 have e4 : (sumAB a k).1 - (sumAB a k).2 = alt a k := by
  rw [alt_AB]; unfold sgn; rw [if_pos hk2, Rat.one_mul]
 rw [e4] at h4
 obtain ⟨g1, g2⟩ := h4
 have hUr := Rat.le_of_lt (castI_pos hU)
 have k3 := Rat.mul_le_mul_of_nonneg_right h3.1 hUr
 have k4 := Rat.mul_le_mul_of_nonneg_right h3.2 hUr
 have ee : (((e : Nat) : Int) : Rat) = (e : Rat) := rfl
 unfold Enc
 rw [Rat.intCast_sub ((s.el : Int) - (s.oh : Int)), Rat.intCast_add, ee]
 constructor <;> grind
def atB (n w r : Nat) : Int × Int :=
 let x := atEv (n * n) r 0 (2 ^ w / n) (cdn (2 ^ w) n) 0 0 0 0
 ((x.el : Int) - (x.oh : Int) - (x.h : Int), (x.eh : Int) - (x.ol : Int) + (x.h : Int))
theorem Enc.zero (U : Int) : Enc U ((0 : Nat) : Int) ((0 : Nat) : Int) 0 := by
 show ((0 : Int) : Rat) ≤ 0 * (U : Rat) ∧ (0 : Rat) * (U : Rat) ≤ ((0 : Int) : Rat)
 rw [Rat.zero_mul]
 exact ⟨Rat.le_refl, Rat.le_refl⟩
theorem atB_ok {n w r : Nat} (hn : 0 < n) (hr : r % 2 = 0) : ∀ m, r ≤ m → Enc (u2 w) (atB n w r).1 (atB n w r).2 (alt (atT n) m) := by
 have h1 : Enc (u2 w) ((2 ^ w / n : Nat) : Int) ((cdn (2 ^ w) n : Nat) : Int) (atP n 0) := Enc.overN (a := 2 ^ w) (b := 2 ^ w) Enc.one hn
 obtain ⟨e2, e3, e4⟩ := atEv_ok hn (U := u2 w) r 0 _ _ _ _ _ _ ⟨h1, Enc.zero _, Enc.zero _⟩
 rw [Nat.zero_add] at e2 e3 e4
 intro m hm
 refine ev_late (u2_pos w) (atT_nn hn) (fun j _ => atT_le hn j) (Nat.zero_le _) hr e3 e4 ?_ m hm
 have hle : atT n r ≤ atP n r := div_le_self (atP_nn hn r) (cast_one xq)
 exact Rat.le_trans (Rat.mul_le_mul_of_nonneg_right hle (Rat.le_of_lt (castI_pos (u2_pos w)))) e2.2
def piB (w r s : Nat) : Int × Int :=
 let a := atB 5 w r
 let b := atB 239 w s
 (a.1 * 16 - b.2 * 4, a.2 * 16 - b.1 * 4)
theorem piB_ok {w r s : Nat} (hr : r % 2 = 0) (hs : s % 2 = 0) : ∀ m, r + s ≤ m → Enc (u2 w) (piB w r s).1 (piB w r s).2 (piN m) := by
 intro m hm
 have e := ((atB_ok (n := 5) (w := w) yq hr m xq).times (n := 16)).sub ((atB_ok (n := 239) (w := w) yq hs m xq).times (n := 4))
 have e2 : piN m = alt (atT 5) m * ((16 : Nat) : Rat) - alt (atT 239) m * ((4 : Nat) : Rat) := by
  unfold piN
  rw [Rat.mul_comm, Rat.mul_comm 4]; rfl
 rw [e2]; exact e
def csEv (U ql qh r : Nat) : Nat → Nat → Nat → Nat → Nat → Nat → Nat → EvS :=
 Nat.rec (fun _ l h el eh ol oh => ⟨l, h, el, eh, ol, oh⟩)
  (fun _ ih k l h el eh ol oh =>
   force ((2 * k + 2) * (2 * k + 1)) fun d => force (l * ql / U / d) fun l' => force (cdn (cdn (h * qh) U) d) fun h' =>
   force (el + l) fun el' => force (eh + h) fun eh' => ih (k + 1) l' h' ol oh el' eh') r
theorem Enc.prodN {U a b c d : Nat} {x y : Rat} (hU : 0 < U) (h : Enc (U : Int) (a : Int) (b : Int) x) (k : Enc (U : Int) (c : Int) (d : Int) y) : Enc (U : Int) ((a * c / U : Nat) : Int) ((cdn (b * d) U : Nat) : Int) (x * y) := by
 rw [cdn_cdiv hU]
 exact h.prod k xq xq xq
theorem csEv_ok {U ql qh : Nat} (hU : 0 < U) {y : Rat} (hq : Enc (U : Int) (ql : Int) (qh : Int) (y * y)) : ∀ r k l h el eh ol oh, EvI (U : Int) (csT y) (csT y) k ⟨l, h, el, eh, ol, oh⟩ → EvI (U : Int) (csT y) (csT y) (k + r) (csEv U ql qh r k l h el eh ol oh) := by
 intro r
 induction r with
 | zero => intro k l h el eh ol oh hi; exact hi
 | succ r ih =>
  intro k l h el eh ol oh hi
  obtain ⟨h1, h2, h3⟩ := hi
  have p : Enc (U : Int) ((l * ql / U / ((2 * k + 2) * (2 * k + 1)) : Nat) : Int) ((cdn (cdn (h * qh) U) ((2 * k + 2) * (2 * k + 1)) : Nat) : Int) (csT y (k + 1)) := (Enc.prodN hU h1 hq).overN (Nat.mul_pos xq xq)
  have e0 : csEv U ql qh (r + 1) k l h el eh ol oh = force ((2 * k + 2) * (2 * k + 1)) fun d => force (l * ql / U / d) fun l' => force (cdn (cdn (h * qh) U) d) fun h' => force (el + l) fun el' => force (eh + h) fun eh' => csEv U ql qh r (k + 1) l' h' ol oh el' eh' := rfl
  have e : csEv U ql qh (r + 1) k l h el eh ol oh = csEv U ql qh r (k + 1) (l * ql / U / ((2 * k + 2) * (2 * k + 1))) (cdn (cdn (h * qh) U) ((2 * k + 2) * (2 * k + 1))) ol oh (el + l) (eh + h) := by
   rw [e0]; simp only [force_eq]
  rw [show k + (r + 1) = k + 1 + r by omega, e]
  exact ih (k + 1) _ _ _ _ _ _ ⟨p, h3, h2.add h1⟩
def csX (U pl ph r p q : Nat) : EvS :=
 force (pl * p / q) fun yl => force (cdn (ph * p) q) fun yh => force (yl * yl / U) fun ql => force (cdn (yh * yh) U) fun qh => csEv U ql qh r 0 U U 0 0 0 0
def xLo (x : EvS) : Int := (x.el : Int) - (x.oh : Int) - (x.h : Int)
def xHi (x : EvS) : Int := (x.eh : Int) - (x.ol : Int) + (x.h : Int)
theorem csX_ok {w pl ph r p q N : Nat} (hpi : ∀ m, N ≤ m → Enc (u2 w) (pl : Int) (ph : Int) (piN m)) (hq : 0 < q) (hp : 2 * p ≤ q) (hr : 1 ≤ r) (hr2 : r % 2 = 0) : ∀ m, max N r ≤ m → Enc (u2 w) (xLo (csX (2 ^ w) pl ph r p q)) (xHi (csX (2 ^ w) pl ph r p q)) (coN p q m) := by
 intro m hm
 have hU : 0 < 2 ^ w := Nat.pow_pos yq
 have hy := csY_b (m := m) hq hp xq
 have hyy : csY p q m * csY p q m ≤ 12 := Rat.le_trans (mulm hy.2 hy.2 hy.1 hy.1) (by decide +kernel)
 have y1 : Enc (((2 ^ w : Nat) : Nat) : Int) ((pl * p / q : Nat) : Int) ((cdn (ph * p) q : Nat) : Int) (csY p q m) := by
  have h1 := (hpi m xq).times (n := p)
  rw [← Int.natCast_mul, ← Int.natCast_mul] at h1
  exact h1.overN hq
 have q1 := Enc.prodN hU y1 y1
 have hE := csEv_ok hU q1 r 0 (2 ^ w) (2 ^ w) 0 0 0 0 ⟨Enc.one, Enc.zero _, Enc.zero _⟩
 rw [Nat.zero_add] at hE
 obtain ⟨e1, e2, e3⟩ := hE
 unfold csX
 simp only [force_eq]
 exact ev_late (u2_pos w) (csT_nn _) (csT_le hyy) hr hr2 e2 e3 e1.2 m xq
end Nt
set_option maxRecDepth 20000
namespace Nt
theorem pi_ev : piB 340 84 24 = (7036365627942155232378451105383714118229498621515162138157626346021022039982006998243213719805928137372, 7036365627942155232378451105383714118229498621515162138157626346021022039982006998243213719805928138852) := by decide +kernel
def pl8 : Nat := 1069028584064966747859680373161870783300
def ph8 : Nat := 1069028584064966747859680373161870783301
theorem pi_340 : ∀ m, 110 ≤ m → Enc (u2 340) 7036365627942155232378451105383714118229498621515162138157626346021022039982006998243213719805928137372 7036365627942155232378451105383714118229498621515162138157626346021022039982006998243213719805928138852 (piN m) := fun m hm => by
 have h := piB_ok (w := 340) (r := 84) (s := 24) yq yq m xq
 rw [pi_ev] at h
 exact h
theorem pi_128 : ∀ m, 110 ≤ m → Enc (u2 128) (pl8 : Int) (ph8 : Int) (piN m) := fun m hm => by
 have h := pi_340 m hm
 have hp := castI_pos (u2_pos 212)
 have e : u2 340 = u2 128 * u2 212 := by rw [← u2_add]
 obtain ⟨h1, h2⟩ := h
 rw [e, Rat.intCast_mul, ← Rat.mul_assoc] at h1 h2
 have k1 : ((pl8 : Int) * u2 212 : Int) ≤ 7036365627942155232378451105383714118229498621515162138157626346021022039982006998243213719805928137372 := by decide +kernel
 have k2 : (7036365627942155232378451105383714118229498621515162138157626346021022039982006998243213719805928138852 : Int) ≤ (ph8 : Int) * u2 212 := by decide +kernel
 have r1 := Rat.le_trans (Rat.intCast_le_intCast.2 k1) h1
 have r2 := Rat.le_trans h2 (Rat.intCast_le_intCast.2 k2)
 rw [Rat.intCast_mul] at r1 r2
 exact ⟨Rat.le_of_mul_le_mul_right r1 hp, Rat.le_of_mul_le_mul_right r2 hp⟩
def cs8 (p q : Nat) : EvS := csX (2 ^ 128) pl8 ph8 16 p q
theorem cs8_ok {p q : Nat} (hq : 0 < q) (hp : 2 * p ≤ q) : ∃ N : Nat, ∀ m, N ≤ m → Enc (u2 128) (xLo (cs8 p q)) (xHi (cs8 p q)) (coN p q m) := ⟨_, csX_ok pi_128 hq hp yq yq⟩
def gapX (B S T : Nat) (x : EvS) : Bool :=
 force (x.el - x.oh - x.h) fun lo => force (x.eh + x.h - x.ol) fun hi => force (lo / T) fun z =>
  Nat.ble 1 lo && (Nat.ble ((z * B + 1) * S) lo && Nat.ble hi ((z * B + B - 1) * S))
def gapB (p q b g : Nat) : Bool := gapX (2 ^ (g - b)) (2 ^ (128 - g)) (2 ^ (128 - b)) (cs8 p q)
theorem gapB_ok {p q b g : Nat} (h : gapB p q b g = true) (hq : 0 < q) (hp : 2 * p ≤ q) (hb : b ≤ g) (hg : g ≤ 128) : Gap (coN p q) b g := by
 unfold gapB gapX at h
 simp only [force_eq, Bool.and_eq_true, Nat.ble_eq] at h
 obtain ⟨h1, h2, h3⟩ := h
 have k := cs8_ok hq hp
 generalize cs8 p q = x at *
 have e1 : xLo x = ((x.el - x.oh - x.h : Nat) : Int) := by unfold xLo; omega
 have e2 : xHi x ≤ ((x.eh + x.h - x.ol : Nat) : Int) := by unfold xHi; omega
 generalize x.el - x.oh - x.h = lo at *
 generalize x.eh + x.h - x.ol = hi at *
 have hB := Nat.pow_pos (n := g - b) (show 0 < 2 by decide)
 refine Gap.of k ((lo / 2 ^ (128 - b) : Nat) : Int) hb hg ?_ ?_
 ·rw [e1]
  have := Int.ofNat_le.2 h2
  rw [Int.natCast_mul, Int.natCast_add, Int.natCast_mul] at this
  exact this
 refine Int.le_trans e2 ?_
 have := Int.ofNat_le.2 h3
 rw [Int.natCast_mul, Int.natCast_sub xq, Int.natCast_add, Int.natCast_mul] at this
 exact this
def gapP (b g q n : Nat) : Bool := Nat.rec true (fun p ih => (bif Nat.ble (2 * p + 3) q then bif Nat.beq (3 * p + 3) q then true else gapB (p + 1) q b g else true) && ih) n
def gapN (b g n : Nat) : Bool := Nat.rec true (fun q ih => gapP b g (q + 1) ((q + 1) / 2) && ih) n
theorem gapP_s (b g q n : Nat) : gapP b g q (n + 1) = ((bif Nat.ble (2 * n + 3) q then bif Nat.beq (3 * n + 3) q then true else gapB (n + 1) q b g else true) && gapP b g q n) := rfl
theorem gapN_s (b g n : Nat) : gapN b g (n + 1) = (gapP b g (n + 1) ((n + 1) / 2) && gapN b g n) := rfl
theorem gapP_ok {b g q : Nat} : ∀ n p, gapP b g q n = true → 1 ≤ p → p ≤ n → 2 * p < q → 3 * p ≠ q → gapB p q b g = true := by
 intro n
 induction n with
 | zero => intro p _ h1 h2; omega
 | succ n ih =>
  intro p h h1 h2 h3 h4
  have h' := h
  rw [gapP_s, Bool.and_eq_true] at h'
  by_cases e : p = n + 1
  ·subst e
   have h5 := h'.1
   rw [show Nat.ble (2 * n + 3) q = true by rw [Nat.ble_eq]; omega, show Nat.beq (3 * n + 3) q = false by
    cases hh : Nat.beq (3 * n + 3) q with
    | false => rfl
    | true => exact absurd (Nat.eq_of_beq_eq_true hh) xq, cond_true, cond_false] at h5
   exact h5
  exact ih p h'.2 h1 xq h3 h4
theorem gapN_ok {b g : Nat} : ∀ n q, gapN b g n = true → 1 ≤ q → q ≤ n → gapP b g q (q / 2) = true := by
 intro n
 induction n with
 | zero => intro q _ h1 h2; omega
 | succ n ih =>
  intro q h h1 h2
  have h' := h
  rw [gapN_s, Bool.and_eq_true] at h'
  by_cases e : q = n + 1
  ·subst e; exact h'.1
  exact ih q h'.2 h1 xq
def GapQ (q b : Nat) : Prop := ∃ g, g ≤ 300 ∧ ∀ p, 1 ≤ p → 2 * p < q → 3 * p ≠ q → Gap (coN p q) b g
theorem gapQ_of {b g n q : Nat} (h : gapN b g n = true) (hb : b ≤ g) (hg : g ≤ 128) (h1 : 1 ≤ q) (hq : q ≤ n) : GapQ q b :=
 ⟨g, by omega, fun p hp1 hp h3 => gapB_ok (gapP_ok _ p (gapN_ok n q h xq hq) hp1 xq hp h3) xq xq hb hg⟩
theorem GapQ.lower {q b c : Nat} (h : GapQ q b) (hc : c ≤ b) : GapQ q c := by
 obtain ⟨g, hg, h⟩ := h
 exact ⟨g, hg, fun p h1 h2 h3 => (h p h1 h2 h3).lower hc⟩
theorem gap_all : gapN 59 70 80 = true := by decide +kernel
theorem gapQ_80 {q b : Nat} (h1 : 1 ≤ q) (hq : q ≤ 80) (hb : b ≤ 59) : GapQ q b := (gapQ_of gap_all yq yq h1 hq).lower hb
end Nt
namespace Nt
section
variable {a1 a2 b1 b2 c1 c2 d1 d2 : Rat}
def hl (a b c d : Rat) : Rat := lo (lo a b) (lo c d)
def hh (a b c d : Rat) : Rat := hi (hi a b) (hi c d)
def sql (a b : Rat) : Rat := if sgI a b = 0 then 0 else lo (a * a) (b * b)
def sqh (a b : Rat) : Rat := hi (a * a) (b * b)
end
end Nt
namespace Nt
theorem flr_div {z d : Int} (hd : 0 < d) : flr ((z : Rat) / (d : Rat)) = z / d := by
 obtain ⟨D, rfl⟩ : ∃ D : Nat, d = (D : Int) := ⟨d.toNat, by omega⟩
 rw [mk_div, flr_mk xq]
def flU (w : Nat) (x : Rat) : Int := flr (x * (u2 w : Rat))
def ceU (w : Nat) (x : Rat) : Int := -flr (-(x * (u2 w : Rat)))
theorem flU_eq {w : Nat} {x : Rat} {z d : Int} (hd : 0 < d) (h : x * (u2 w : Rat) = (z : Rat) / (d : Rat)) : flU w x = z / d := by unfold flU; rw [h, flr_div hd]
theorem ceU_eq {w : Nat} {x : Rat} {z d : Int} (hd : 0 < d) (h : x * (u2 w : Rat) = (z : Rat) / (d : Rat)) : ceU w x = cdiv z d := by
 unfold ceU cdiv
 have e : -((z : Rat) / (d : Rat)) = ((-z : Int) : Rat) / (d : Rat) := by rw [Rat.intCast_neg, Rat.div_def, Rat.div_def, Rat.neg_mul]
 rw [h, e, flr_div hd]
theorem flr_b (q : Rat) : ((flr q : Int) : Rat) ≤ q ∧ q < ((flr q + 1 : Int) : Rat) := by
 have hd : (0 : Int) < (q.den : Int) := by have := q.den_pos; omega
 have e : q = (q.num : Rat) / ((q.den : Int) : Rat) := by
  rw [mk_div]; exact (Rat.mkRat_self q).symm
 have h1 := (fl_mul (a := q.num) hd).1
 have h2 := Int.lt_ediv_add_one_mul_self q.num hd
 have hD := castI_pos hd
 have k1 := Rat.intCast_le_intCast.2 h1
 have k2 := Rat.intCast_lt_intCast.2 h2
 rw [Rat.intCast_mul] at k1 k2
 have e2 : (q.num : Rat) = q * ((q.den : Int) : Rat) := by
  have := div_mul_c (x := (q.num : Rat)) hD
  rw [← e] at this
  exact this.symm
 rw [e2] at k1 k2
 refine ⟨Rat.le_of_mul_le_mul_right k1 hD, ?_⟩
 by_cases h6 : q < ((flr q + 1 : Int) : Rat)
 ·exact h6
 have h7 := Rat.mul_le_mul_of_nonneg_right (Rat.not_lt.1 h6) (Rat.le_of_lt hD)
 exact absurd k2 (Rat.not_lt.2 h7)
theorem flU_b (w : Nat) (x : Rat) : ((flU w x : Int) : Rat) ≤ x * (u2 w : Rat) ∧ x * (u2 w : Rat) < ((flU w x + 1 : Int) : Rat) := flr_b _
theorem ceU_b (w : Nat) (x : Rat) : x * (u2 w : Rat) ≤ ((ceU w x : Int) : Rat) ∧ ((ceU w x - 1 : Int) : Rat) < x * (u2 w : Rat) := by
 have h := flr_b (-(x * (u2 w : Rat)))
 unfold ceU
 rw [Rat.intCast_add] at h
 have e : -flr (-(x * (u2 w : Rat))) - 1 = -(flr (-(x * (u2 w : Rat))) + 1) := by omega
 rw [e, Rat.intCast_neg, Rat.intCast_neg, Rat.intCast_add]
 have e1 : ((1 : Int) : Rat) = 1 := rfl
 rw [e1] at h ⊢
 constructor <;> grind
def gr (w : Nat) (a : Int) : Rat := (a : Rat) / (u2 w : Rat)
theorem gr_mul (w : Nat) (a : Int) : gr w a * (u2 w : Rat) = (a : Rat) := div_mul_c (castI_pos (u2_pos w))
theorem gr_mono {w : Nat} {a b : Int} (h : a ≤ b) : gr w a ≤ gr w b := div_mono (castI_pos (u2_pos w)) (Rat.intCast_le_intCast.2 h)
theorem gr_nn {w : Nat} {a : Int} (h : 0 ≤ a) : 0 ≤ gr w a := div_nn (Rat.intCast_le_intCast.2 h) (castI_pos (u2_pos w))
theorem gr_le {w : Nat} {a b : Int} : gr w a ≤ gr w b ↔ a ≤ b := by
 refine ⟨fun h => ?_, gr_mono⟩
 have := Rat.mul_le_mul_of_nonneg_right h (Rat.le_of_lt (castI_pos (u2_pos w)))
 rw [gr_mul, gr_mul] at this
 exact Rat.intCast_le_intCast.1 this
theorem gr_neg (w : Nat) (a : Int) : -gr w a = gr w (-a) := by unfold gr; rw [Rat.intCast_neg, Rat.div_def, Rat.div_def, Rat.neg_mul]
theorem gr_add (w : Nat) (a b : Int) : gr w a + gr w b = gr w (a + b) := by unfold gr; rw [Rat.intCast_add, Rat.div_def, Rat.div_def, Rat.div_def, Rat.add_mul]
theorem gr_sub (w : Nat) (a b : Int) : gr w a - gr w b = gr w (a - b) := by rw [Rat.sub_eq_add_neg, gr_neg, gr_add]; congr 1
theorem gr_int (w : Nat) (a c : Int) : (c : Rat) * gr w a = gr w (c * a) := by unfold gr; rw [Rat.intCast_mul, Rat.div_def, Rat.div_def, Rat.mul_assoc]
theorem gr_zero (w : Nat) : gr w 0 = 0 := by unfold gr; rw [Rat.div_def]; exact Rat.zero_mul _
theorem gr_one (w : Nat) : gr w (u2 w) = 1 := Rat.mul_inv_cancel _ (by have := castI_pos (u2_pos w); grind)
theorem lo4_pt {x y r : Rat} (h : x ≤ y) (hr : 0 ≤ r) : lo4 (x * r) (x * r) (y * r) (y * r) = x * r ∧ hi4 (x * r) (x * r) (y * r) (y * r) = y * r := by
 have h1 := Rat.mul_le_mul_of_nonneg_right h hr
 unfold lo4 hi4 lo hi
 generalize x * r = a at *
 generalize y * r = b at *
 grind
theorem lo4_nn {x y z t : Rat} (h : x ≤ y) (k : z ≤ t) (hx : 0 ≤ x) (hz : 0 ≤ z) : lo4 (x * z) (x * t) (y * z) (y * t) = x * z ∧ hi4 (x * z) (x * t) (y * z) (y * t) = y * t := by
 have h1 := Rat.mul_le_mul_of_nonneg_right h hz
 have h2 := Rat.mul_le_mul_of_nonneg_right h (Rat.le_trans hz k)
 have h3 := Rat.mul_le_mul_of_nonneg_left k hx
 have h4 := Rat.mul_le_mul_of_nonneg_left k (Rat.le_trans hx h)
 unfold lo4 hi4 lo hi
 generalize x * z = a at *
 generalize y * z = b at *
 generalize x * t = c at *
 generalize y * t = d at *
 grind
structure AtF (n w k : Nat) (a b c d : Int) : Prop where
 p : Enc (u2 w) a b (atP n k)
 s : Enc (u2 w) c d (alt (atT n) k)
 p0 : 0 ≤ a
 p1 : 1 ≤ b
 ab : a ≤ b
 pw : b - a ≤ 3
 sw : d - c ≤ 3 * (k : Int)
 cd : c ≤ d
 fall : b * u2 k ≤ u2 w
theorem AtF.start {n w : Nat} (hn : 0 < n) : AtF n w 0 (u2 w / (n : Int)) (cdiv (u2 w) (n : Int)) 0 0 := by
 have h := AtI.start (w := w) hn
 refine ⟨h.p, ?_, h.p0, h.p1, h.p.le, h.pw, by omega, by omega, h.fall⟩
 show ((0 : Int) : Rat) ≤ 0 * (u2 w : Rat) ∧ (0 : Rat) * (u2 w : Rat) ≤ ((0 : Int) : Rat)
 rw [Rat.zero_mul]
 exact ⟨Rat.le_refl, Rat.le_refl⟩
section
variable {n w k : Nat} {a b c d : Int}
theorem AtF.kw (h : AtF n w k a b c d) : k ≤ w := by
 refine u2_le_iff (Int.le_trans ?_ h.fall)
 have := Int.mul_le_mul_of_nonneg_right h.p1 (Int.le_of_lt (u2_pos k))
 omega
theorem AtF.term (h : AtF n w k a b c d) : Enc (u2 w) (a / ((2 * k + 1 : Nat) : Int)) (cdiv b ((2 * k + 1 : Nat) : Int)) (atT n k) := h.p.over (d := ((2 * k + 1 : Nat) : Int)) xq
theorem AtF.go {c' d' : Int} (h : AtF n w k a b c d) (hn : 2 ≤ n) (hb : ((2 * k + 1 : Nat) : Int) < b)
  (hs : k % 2 = 0 ∧ c' = c + a / ((2 * k + 1 : Nat) : Int) ∧ d' = d + cdiv b ((2 * k + 1 : Nat) : Int) ∨ ¬ k % 2 = 0 ∧ c' = c - cdiv b ((2 * k + 1 : Nat) : Int) ∧ d' = d - a / ((2 * k + 1 : Nat) : Int)) :
  AtF n w (k + 1) (a / ((n * n : Nat) : Int)) (cdiv b ((n * n : Nat) : Int)) c' d' ∧ cdiv b ((n * n : Nat) : Int) < b := by
 have hnn : 4 ≤ n * n := Nat.mul_le_mul hn hn
 have h0 := h.p1
 have h1 : 1 ≤ cdiv b ((n * n : Nat) : Int) := cd_ge (c := 0) xq xq
 have h3 := cd_self (b := b) (d := ((n * n : Nat) : Int)) xq xq
 have h4 := cd_half (b := b) (d := ((n * n : Nat) : Int)) xq xq
 have hp : Enc (u2 w) (a / ((n * n : Nat) : Int)) (cdiv b ((n * n : Nat) : Int)) (atP n (k + 1)) := h.p.over xq
 have ht := h.term
 have htw := w3 (a := a) (b := b) (d := ((2 * k + 1 : Nat) : Int)) h.pw xq
 have hsw := h.sw
 have hS : Enc (u2 w) c' d' (alt (atT n) (k + 1)) := by
  rcases hs with ⟨e, rfl, rfl⟩ | ⟨e, rfl, rfl⟩
  ·have e2 : alt (atT n) (k + 1) = alt (atT n) k + atT n k := by rw [alt_s]; unfold sgn; rw [if_pos e]; grind
   rw [e2]; exact h.s.add ht
  have e2 : alt (atT n) (k + 1) = alt (atT n) k - atT n k := by rw [alt_s]; unfold sgn; rw [if_neg e]; grind
  rw [e2]; exact h.s.sub ht
 refine ⟨⟨hp, hS, fl_nn h.p0 xq, h1, hp.le, w3 h.pw xq, by rcases hs with ⟨e, rfl, rfl⟩ | ⟨e, rfl, rfl⟩ <;> omega, hS.le, ?_⟩, by omega⟩
 have h5 : u2 (k + 1) = u2 k * 2 := u2_add k 1
 have h6 := Int.mul_le_mul_of_nonneg_right h4 (Int.le_of_lt (u2_pos k))
 have h7 := h.fall
 rw [h5]
 have e : cdiv b ((n * n : Nat) : Int) * (u2 k * 2) = 2 * cdiv b ((n * n : Nat) : Int) * u2 k := by grind
 rw [e]; omega
theorem AtF.out (h : AtF n w k a b c d) (hn : 0 < n) (hb : b ≤ ((2 * k + 1 : Nat) : Int)) : AtR n w (c - cdiv b ((2 * k + 1 : Nat) : Int)) (d + cdiv b ((2 * k + 1 : Nat) : Int)) := by
 have ht1 : cdiv b ((2 * k + 1 : Nat) : Int) ≤ 1 := cd_le xq xq
 have ht0 : 1 ≤ cdiv b ((2 * k + 1 : Nat) : Int) := cd_ge (c := 0) xq (by have := h.p1; omega)
 have e : cdiv b ((2 * k + 1 : Nat) : Int) = 1 := by omega
 refine ⟨⟨k, fun m hm => ?_⟩, by have := h.kw; have := h.sw; omega⟩
 have h1 := alt_near (j0 := 0) (atT_nn hn) (fun j _ => atT_le hn j) (Nat.zero_le _) hm
 rw [e]
 refine h.s.near h1.1 h1.2 ?_ (u2_pos w)
 have h2 := h.term.2
 rw [e] at h2
 exact h2
theorem AtF.bd (h : AtF n w k a b c d) (hn : 0 < n) : b ≤ u2 w ∧ -(3 * (w : Int)) ≤ c ∧ c ≤ u2 w ∧ 0 ≤ d ∧ d ≤ u2 w + 3 * (w : Int) := by
 have h3 : 0 ≤ alt (atT n) k ∧ alt (atT n) k ≤ 1 := by
  cases k with
  | zero => exact ⟨Rat.le_refl, by show (0 : Rat) ≤ 1; decide⟩
  | succ k =>
   have h1 := atT_b (n := n) hn (m := k + 1) xq
   have h2 := atT_le hn 0
   refine ⟨by grind, Rat.le_trans h1.2 ?_⟩
   refine Rat.le_trans (div_le_self (atP_nn hn 0) (cast_one xq)) ?_
   show 1 / (n : Rat) ≤ 1
   exact div_le_self yq (cast_one hn)
 have hU := castI_pos (u2_pos w)
 have h4 : alt (atT n) k * (u2 w : Rat) ≤ (u2 w : Rat) := by
  have := Rat.mul_le_mul_of_nonneg_right h3.2 (Rat.le_of_lt hU)
  rwa [Rat.one_mul] at this
 have h5 := h.s.lo_le h4
 have h6 := h.s.nonneg h3.1 (u2_pos w)
 have h7 := h.sw
 have h8 := h.kw
 have h9 := h.fall
 have h10 := Int.mul_le_mul_of_nonneg_left (show 1 ≤ u2 k by have := u2_pos k; omega) (show 0 ≤ b by have := h.p1; omega)
 refine ⟨by omega, by omega, h5, h6, by omega⟩
end
theorem CsQ.ofR {p q w : Nat} {a b : Int} (h : PiR w a b) (hw : 16 ≤ w) (hq : 0 < q) (hp : 2 * p ≤ q) (hp1 : 1 ≤ p) :
  CsQ p q w (flU w (gr w a * ((p : Rat) / (q : Rat)) * (gr w a * ((p : Rat) / (q : Rat))))) (ceU w (gr w b * ((p : Rat) / (q : Rat)) * (gr w b * ((p : Rat) / (q : Rat))))) ∧ 0 ≤ gr w a * ((p : Rat) / (q : Rat)) ∧ gr w a * ((p : Rat) / (q : Rat)) ≤ gr w b * ((p : Rat) / (q : Rat)) ∧ 0 < gr w b * ((p : Rat) / (q : Rat)) := by
 obtain ⟨h0, h4, hab, hb1⟩ := h.bd hw
 obtain ⟨⟨N, h1⟩, h2⟩ := h
 have l8 := lin8 w hw
 have hU := u2_pos w
 have hUr := castI_pos hU
 have hq' := cast_pos hq
 have hp' := cast_pos hp1
 have aa : (0 : Rat) < (p : Rat) / (q : Rat) := by
  rw [Rat.div_def]; exact Rat.mul_pos hp' (Rat.inv_pos.2 hq')
 have ac : (p : Rat) / (q : Rat) ≤ 1 / 2 := by
  refine dv_le hq' ?_
  have h2 : ((2 * p : Nat) : Rat) ≤ (q : Rat) := Rat.natCast_le_natCast.2 hp
  rw [Rat.natCast_mul] at h2
  have e2 : ((2 : Nat) : Rat) = 2 := rfl
  rw [e2] at h2
  grind
 have hya : ∀ m, N ≤ m → gr w a * ((p : Rat) / (q : Rat)) ≤ csY p q m ∧ csY p q m ≤ gr w b * ((p : Rat) / (q : Rat)) := fun m hm => by
  have h3 := h1 m hm
  have e : csY p q m = piN m * ((p : Rat) / (q : Rat)) := by unfold csY; rw [Rat.div_def, Rat.div_def, Rat.mul_assoc]
  have f1 : gr w a ≤ piN m := dv_le hUr h3.1
  have f2 : piN m ≤ gr w b := le_dv hUr h3.2
  rw [e]
  exact ⟨Rat.mul_le_mul_of_nonneg_right f1 (Rat.le_of_lt aa), Rat.mul_le_mul_of_nonneg_right f2 (Rat.le_of_lt aa)⟩
 have hgb : gr w b ≤ 4 := by
  refine dv_le hUr ?_
  have := Rat.intCast_le_intCast.2 h4
  rw [Rat.intCast_mul] at this
  exact this
 have hgw : (gr w b - gr w a) * (u2 w : Rat) ≤ ((128 * (w : Int) + 400 : Int) : Rat) := by
  rw [gr_sub, gr_mul]; exact Rat.intCast_le_intCast.2 h2
 have hga := gr_nn (w := w) h0
 have hgab := gr_mono (w := w) hab
 have ab : 0 < gr w b := by
  unfold gr; rw [Rat.div_def]; exact Rat.mul_pos (castI_pos xq) (Rat.inv_pos.2 hUr)
 generalize (p : Rat) / (q : Rat) = r at *
 have x0 : 0 ≤ gr w a * r := Rat.mul_nonneg hga (Rat.le_of_lt aa)
 have xy : gr w a * r ≤ gr w b * r := Rat.mul_le_mul_of_nonneg_right hgab (Rat.le_of_lt aa)
 have y2 : gr w b * r ≤ 2 := by
  have := mulm hgb ac (Rat.le_of_lt ab) (Rat.le_of_lt aa)
  refine Rat.le_trans this (by decide +kernel)
 have yp : 0 < gr w b * r := Rat.mul_pos ab aa
 have hxw : (gr w b * r - gr w a * r) * (u2 w : Rat) ≤ ((128 * (w : Int) + 400 : Int) : Rat) := by
  have e : (gr w b * r - gr w a * r) * (u2 w : Rat) = (gr w b - gr w a) * (u2 w : Rat) * r := by grind
  rw [e]
  have hn : 0 ≤ (gr w b - gr w a) * (u2 w : Rat) := Rat.mul_nonneg (by grind) (Rat.le_of_lt hUr)
  have k1 := Rat.mul_le_mul_of_nonneg_left (c := (gr w b - gr w a) * (u2 w : Rat)) (show r ≤ 1 by
   refine Rat.le_trans ac (by decide +kernel)) hn
  rw [Rat.mul_one] at k1
  exact Rat.le_trans k1 hgw
 refine ⟨?_, x0, xy, yp⟩
 generalize gr w a * r = x at *
 generalize gr w b * r = y at *
 have f1 := flU_b w (x * x)
 have f2 := ceU_b w (y * y)
 have ad : 0 ≤ x * x := Rat.mul_nonneg x0 x0
 have E : ∀ m, N ≤ m → Enc (u2 w) (flU w (x * x)) (ceU w (y * y)) (csY p q m * csY p q m) := fun m hm => by
  obtain ⟨g1, g2⟩ := hya m hm
  have k1 := mulm g1 g1 x0 x0
  have k2 := mulm g2 g2 (Rat.le_trans x0 g1) (Rat.le_trans x0 g1)
  exact ⟨Rat.le_trans f1.1 (Rat.mul_le_mul_of_nonneg_right k1 (Rat.le_of_lt hUr)), Rat.le_trans (Rat.mul_le_mul_of_nonneg_right k2 (Rat.le_of_lt hUr)) f2.1⟩
 have hyy : (y * y - x * x) * (u2 w : Rat) ≤ 4 * ((128 * (w : Int) + 400 : Int) : Rat) := by
  have e : (y * y - x * x) * (u2 w : Rat) = (y - x) * (u2 w : Rat) * (y + x) := by grind
  rw [e]
  have hn : 0 ≤ (y - x) * (u2 w : Rat) := Rat.mul_nonneg (by grind) (Rat.le_of_lt hUr)
  have k1 := Rat.mul_le_mul_of_nonneg_left (c := (y - x) * (u2 w : Rat)) (show y + x ≤ 4 by grind) hn
  grind
 refine ⟨⟨N, E⟩, ?_, ?_, ?_, (E N qyl).le, ?_⟩
 ·have g : ((ceU w (y * y) - 1 - (flU w (x * x) + 1) : Int) : Rat) < ((4 * (128 * (w : Int) + 400) : Int) : Rat) := by
   rw [Rat.intCast_sub, Rat.intCast_mul]
   have e4 : ((4 : Int) : Rat) = 4 := rfl
   rw [e4]
   have := f1.2
   have := f2.2
   grind
  have := Rat.intCast_lt_intCast.1 g
  omega
 ·have g : ((0 : Int) : Rat) < ((flU w (x * x) + 1 : Int) : Rat) := Std.lt_of_le_of_lt (Rat.mul_nonneg ad (Rat.le_of_lt hUr)) f1.2
  have := Rat.intCast_lt_intCast.1 g
  omega
 ·have k1 : y * y ≤ 4 := by
   have := mulm y2 y2 (Rat.le_of_lt yp) (Rat.le_of_lt yp)
   refine Rat.le_trans this (by decide +kernel)
  have k2 := Rat.mul_le_mul_of_nonneg_right k1 (Rat.le_of_lt hUr)
  have g : ((ceU w (y * y) - 1 : Int) : Rat) < ((4 * u2 w : Int) : Rat) := by
   rw [Rat.intCast_mul]
   exact Std.lt_of_lt_of_le f2.2 k2
  have := Rat.intCast_lt_intCast.1 g
  omega
 have g : ((0 : Int) : Rat) < ((ceU w (y * y) : Int) : Rat) := Std.lt_of_lt_of_le (Rat.mul_pos (Rat.mul_pos yp yp) hUr) f2.1
 have := Rat.intCast_lt_intCast.1 g
 omega
theorem cdiv_cdiv {a b d : Int} (hb : 0 < b) (hd : 0 < d) : cdiv (cdiv a b) d = cdiv a (b * d) := by
 unfold cdiv
 rw [Int.neg_neg, Int.ediv_ediv_of_nonneg xq]
structure CsF (p q w k : Nat) (tl th c d : Int) : Prop where
 t : CsT p q w k tl th
 s : ∃ N : Nat, ∀ m, N ≤ m → Enc (u2 w) c d (alt (csT (csY p q m)) k)
 sw : d - c ≤ csW w * (k : Int)
 cd : c ≤ d
theorem CsF.start {p q w : Nat} : CsF p q w 0 (u2 w) (u2 w) 0 0 := by
 refine ⟨CsT.start, ⟨0, fun m _ => ?_⟩, by omega, by omega⟩
 show ((0 : Int) : Rat) ≤ 0 * (u2 w : Rat) ∧ (0 : Rat) * (u2 w : Rat) ≤ ((0 : Int) : Rat)
 rw [Rat.zero_mul]
 exact ⟨Rat.le_refl, Rat.le_refl⟩
def csMF (w k : Nat) (th : Int) : Nat := if k = 0 then (2 * u2 w).toNat + 2 else if k = 1 then (2 * u2 w).toNat + 1 else th.toNat
section
variable {p q w k : Nat} {tl th c d ql qh c' d' : Int}
theorem CsF.go (h : CsF p q w k tl th c d) (hq : CsQ p q w ql qh) (ht : k ≤ 1 ∨ 2 ≤ th)
  (hs : k % 2 = 0 ∧ c' = c + tl ∧ d' = d + th ∨ ¬ k % 2 = 0 ∧ c' = c - th ∧ d' = d - tl) :
  CsF p q w (k + 1) (csL w k tl ql) (csH w k th qh) c' d' ∧ csMF w (k + 1) (csH w k th qh) < csMF w k th := by
 have htw := h.t.tw
 have hsw := h.sw
 have htt := h.t.tt
 have ht2 := h.t.t2
 have hU := u2_pos w
 obtain ⟨N, h1⟩ := h.t.e
 obtain ⟨M, h2⟩ := h.s
 have hS : ∀ m, max N M ≤ m → Enc (u2 w) c' d' (alt (csT (csY p q m)) (k + 1)) := fun m hm => by
  rcases hs with ⟨e, rfl, rfl⟩ | ⟨e, rfl, rfl⟩
  ·have e2 : alt (csT (csY p q m)) (k + 1) = alt (csT (csY p q m)) k + csT (csY p q m) k := by rw [alt_s]; unfold sgn; rw [if_pos e]; grind
   rw [e2]; exact (h2 m xq).add (h1 m xq)
  have e2 : alt (csT (csY p q m)) (k + 1) = alt (csT (csY p q m)) k - csT (csY p q m) k := by rw [alt_s]; unfold sgn; rw [if_neg e]; grind
  rw [e2]; exact (h2 m xq).sub (h1 m xq)
 have e3 : csW w * (((k + 1 : Nat)) : Int) = csW w * (k : Int) + csW w := by rw [Int.natCast_add, Int.mul_add]; simp
 obtain ⟨n1, n2, n3⟩ := h.t.next hq ht
 refine ⟨⟨n1, ⟨_, hS⟩, by rw [e3]; rcases hs with ⟨e, rfl, rfl⟩ | ⟨e, rfl, rfl⟩ <;> omega, (hS _ qyl).le⟩, ?_⟩
 have n1t2 := n1.t2
 have n1t1 := n1.t1
 unfold csMF
 rw [if_neg xq]
 rcases Nat.lt_or_ge k 1 with hk | hk
 ·rw [if_pos (show k + 1 = 1 by omega), if_pos (show k = 0 by omega)]; omega
 rw [if_neg (show ¬ k + 1 = 1 by omega), if_neg (show ¬ k = 0 by omega)]
 have := n2 hk
 by_cases hk1 : k = 1
 ·rw [if_pos hk1]; omega
 rw [if_neg hk1]
 have := n3 hk xq
 omega
theorem CsF.out (h : CsF p q w k tl th c d) (h0 : 0 < q) (hp : 2 * p ≤ q) (hk : 1 < k) (ht : th ≤ 1) : CsR p q w (c - th) (d + th) := by
 obtain ⟨N, h1⟩ := h.t.e
 obtain ⟨M, h2⟩ := h.s
 have hU := u2_pos w
 have e : th = 1 := by have := h.t.t1; omega
 subst e
 refine ⟨⟨max (max N M) (k + 1), fun m hm => ?_⟩, ?_⟩
 ·have hy := csY_b (m := m) h0 hp xq
  have h3 := cs_near (x := fun _ => 0) (m := m) (j := k) hy xq xq
  exact (h2 m xq).near h3.1 h3.2 (h1 m xq).2 hU
 have h6 := h.sw
 have h7 := h.t.jw
 have h8 := Int.mul_le_mul_of_nonneg_left (show (k : Int) ≤ (w : Int) + 4 by omega) (show 0 ≤ csW w by unfold csW; omega)
 omega
theorem CsF.bd (h : CsF p q w k tl th c d) (h0 : 0 < q) (hp : 2 * p ≤ q) : -(csW w * ((w : Int) + 2)) - 3 * u2 w ≤ c ∧ c ≤ 3 * u2 w ∧ -(3 * u2 w) ≤ d ∧ d ≤ 3 * u2 w + csW w * ((w : Int) + 2) := by
 obtain ⟨N, h1⟩ := h.s
 have hU := u2_pos w
 have h9 := h.sw
 have h10 := h.t.jw
 have h11 := Int.mul_le_mul_of_nonneg_left (show (k : Int) ≤ (w : Int) + 2 by omega) (show 0 ≤ csW w by unfold csW; omega)
 by_cases hk : k = 0
 ·subst hk
  have h2 := h1 N qyl
  have e : alt (csT (csY p q N)) 0 = 0 := rfl
  rw [e] at h2
  have a := h2.lo_le (c := 0) (by rw [Rat.zero_mul]; exact Rat.le_refl)
  have b := h2.le_hi (c := 0) (by rw [Rat.zero_mul]; exact Rat.le_refl)
  omega
 have h2 := cs_bd (N := N) (m := N + 1) h0 hp xq xq (h1 (N + 1) xq)
 omega
end
theorem flr_gr {b w : Nat} {a : Int} (h : b ≤ w) : flr (gr w a * (((2 ^ b : Nat) : Int) : Rat)) = a / u2 (w - b) := by
 have e : u2 w = u2 b * u2 (w - b) := by rw [← u2_add, show b + (w - b) = w by omega]
 have hb := castI_pos (u2_pos b)
 have hs := castI_pos (u2_pos (w - b))
 rw [show (((2 ^ b : Nat) : Int) : Rat) = (u2 b : Rat) from rfl, ← flr_div (u2_pos (w - b))]
 congr 1
 unfold gr
 rw [e, Rat.intCast_mul]
 generalize (u2 b : Rat) = x at *
 generalize (u2 (w - b) : Rat) = y at *
 have hx : x ≠ 0 := by grind
 have hy : y ≠ 0 := by grind
 grind
end Nt
namespace Nt
open Classical in
noncomputable def flo (X : Nat → Rat) (b : Nat) : Int := if h : ∃ z, FlO X b z then h.choose else 0
theorem FlO.flo {X : Nat → Rat} {b : Nat} {z : Int} (h : FlO X b z) : flo X b = z := by
 have hz : ∃ z, FlO X b z := ⟨z, h⟩
 unfold Nt.flo
 rw [dif_pos hz]
 exact hz.choose_spec.uniq h
theorem Gap.flO {X : Nat → Rat} {b g : Nat} (h : Gap X b g) : FlO X b (flo X b) := by
 obtain ⟨hbg, z, N, h1⟩ := h
 have hB := u2_pos (g - b)
 have e : u2 g = u2 b * u2 (g - b) := by rw [← u2_add, show b + (g - b) = g by omega]
 have hr := castI_pos hB
 have k : FlO X b z := ⟨N, fun m hm => by
  obtain ⟨a, c⟩ := h1 m hm
  rw [e, Rat.intCast_mul, ← Rat.mul_assoc] at a c
  have a2 := Rat.le_trans (Rat.intCast_le_intCast.2 (show z * u2 (g - b) ≤ z * u2 (g - b) + 1 by omega)) a
  rw [Rat.intCast_mul] at a2
  refine ⟨Rat.le_of_mul_le_mul_right a2 hr, ?_⟩
  by_cases h6 : X m * (u2 b : Rat) < ((z + 1 : Int) : Rat)
  ·exact h6
  have h7 := Rat.mul_le_mul_of_nonneg_right (Rat.not_lt.1 h6) (Rat.le_of_lt hr)
  have h8 := Rat.le_trans h7 c
  rw [← Rat.intCast_mul] at h8
  have := Rat.intCast_le_intCast.1 h8
  rw [Int.add_mul] at this
  omega⟩
 rw [k.flo]; exact k
def fold (p : Int) (q : Nat) : Nat := let r := (Int.tmod p (2 * (q : Int))).natAbs; if q < r then 2 * q - r else r
theorem fold_le (p : Int) (q : Nat) (hq : 0 < q) : fold p q ≤ q := by
 have h : (Int.tmod p (2 * (q : Int))).natAbs < 2 * q := by
  rw [Int.natAbs_tmod]
  have : (2 * (q : Int)).natAbs = 2 * q := by omega
  rw [this]
  exact Nat.mod_lt _ xq
 unfold fold
 dsimp only
 split <;> omega
theorem fold_mod (p : Int) (q : Nat) (hq : 0 < q) : (fold p q : Int) = p % (2 * (q : Int)) ∨ (fold p q : Int) = 2 * (q : Int) - p % (2 * (q : Int)) := by
 have hm : 0 < 2 * (q : Int) := by omega
 have h1 := Int.emod_nonneg p (b := 2 * (q : Int)) xq
 have h2 := Int.emod_lt_of_pos p hm
 have h3 : Int.tmod p (2 * (q : Int)) = p % (2 * (q : Int)) ∨ Int.tmod p (2 * (q : Int)) = p % (2 * (q : Int)) - 2 * (q : Int) := by
  rcases Int.lt_or_le p 0 with h | h
  ·have e1 := Int.tmod_add_mul_tdiv p (2 * (q : Int))
   have e2 := Int.emod_add_mul_ediv p (2 * (q : Int))
   have e3 : Int.tmod p (2 * (q : Int)) ≤ 0 := by
    have h8 := Int.neg_tmod p (2 * (q : Int))
    have h9 : Int.tmod (-p) (2 * (q : Int)) = (-p) % (2 * (q : Int)) := Int.tmod_eq_emod_of_nonneg xq
    have h10 := Int.emod_nonneg (-p) (b := 2 * (q : Int)) xq
    omega
   have e4 : -(2 * (q : Int)) < Int.tmod p (2 * (q : Int)) := Int.lt_tmod_of_pos p hm
   generalize Int.tmod p (2 * (q : Int)) = t at *
   generalize p % (2 * (q : Int)) = s at *
   generalize p.tdiv (2 * (q : Int)) = x at *
   generalize p / (2 * (q : Int)) = y at *
   generalize 2 * (q : Int) = M at *
   have e5 : M * (x - y) = s - t := by rw [Int.mul_sub]; omega
   have e6 : 0 ≤ M * (x - y) := by omega
   have e7 : M * (x - y) < M * 2 := by omega
   have e8 : 0 ≤ x - y := Int.nonneg_of_mul_nonneg_right e6 hm
   have e9 : x - y < 2 := Int.lt_of_mul_lt_mul_left e7 xq
   obtain h | h : x - y = 0 ∨ x - y = 1 := by omega
   ·rw [h] at e5; omega
   rw [h] at e5; omega
  exact .inl (Int.tmod_eq_emod_of_nonneg h)
 unfold fold
 dsimp only
 split <;> omega
theorem fold_of {p p' : Int} {q : Nat} (hq : 0 < q) (h : p % (2 * (q : Int)) = p' % (2 * (q : Int)) ∨ (p + p') % (2 * (q : Int)) = 0) : fold p q = fold p' q := by
 have a := fold_mod p q hq
 have b := fold_mod p' q hq
 have c := fold_le p q hq
 have d := fold_le p' q hq
 have hm : 0 < 2 * (q : Int) := by omega
 have h1 := Int.emod_nonneg p (b := 2 * (q : Int)) xq
 have h2 := Int.emod_lt_of_pos p hm
 have h3 := Int.emod_nonneg p' (b := 2 * (q : Int)) xq
 have h4 := Int.emod_lt_of_pos p' hm
 rcases h with h | h
 ·omega
 rw [Int.add_emod] at h
 have h5 : p % (2 * (q : Int)) + p' % (2 * (q : Int)) = 0 ∨ p % (2 * (q : Int)) + p' % (2 * (q : Int)) = 2 * (q : Int) := by
  generalize p % (2 * (q : Int)) = x at *
  generalize p' % (2 * (q : Int)) = y at *
  generalize 2 * (q : Int) = M at *
  by_cases hx : x + y < M
  ·rw [Int.emod_eq_of_lt xq hx] at h; exact .inl h
  have e : (x + y) % M = x + y - M := by
   rw [← Int.sub_emod_right, Int.emod_eq_of_lt xq xq]
  omega
 omega
noncomputable def cosA (p q b : Nat) : Rat × Rat :=
 if p = 0 then (1, 1) else if 2 * p = q then (0, 0) else if 3 * p = q then (dnQ (1 / 2) b, -dnQ (-(1 / 2)) b)
 else (gr b (flo (coN p q) b), gr b (flo (coN p q) b + 1))
noncomputable def cosF (p q b : Nat) : Rat × Rat := if q < 2 * p then (-(cosA (q - p) q b).2, -(cosA (q - p) q b).1) else cosA p q b
noncomputable def cosV (p : Int) (q b : Nat) : Rat × Rat := cosF (fold p q) q b
theorem cosV_turn {p k : Int} {q b : Nat} (hq : 0 < q) : cosV (p + 2 * (q : Int) * k) q b = cosV p q b := by
 unfold cosV; rw [fold_of hq (.inl (Int.add_mul_emod_self_left ..))]
end Nt
open Go.RowKit
theorem ty3 : TyIs Tryz.prog 3 false 1 := fun w => ⟨by kernel_rfl, by kernel_rfl⟩
theorem ty4 : TyIs Tryz.prog 4 false 1 := fun w => ⟨by kernel_rfl, by kernel_rfl⟩
theorem ty28 : TyIs Tryz.prog 28 false 1 := fun w => ⟨by kernel_rfl, by kernel_rfl⟩
theorem ty30 : TyIs Tryz.prog 30 true 2 := fun w => ⟨by kernel_rfl, by kernel_rfl⟩
theorem ty32 : TyIs Tryz.prog 32 true 3 := fun w => ⟨by kernel_rfl, by kernel_rfl⟩
theorem ty34 : TyIs Tryz.prog 34 true 6 := fun w => ⟨by kernel_rfl, by kernel_rfl⟩
theorem ty132 : TyIs Tryz.prog 132 false 1 := fun w => ⟨by kernel_rfl, by kernel_rfl⟩
theorem ty221 : TyIs Tryz.prog 221 true 3 := fun w => ⟨by kernel_rfl, by kernel_rfl⟩
theorem ty223 : TyIs Tryz.prog 223 true 4 := fun w => ⟨by kernel_rfl, by kernel_rfl⟩
theorem ty271 : TyIs Tryz.prog 271 true 4 := fun w => ⟨by kernel_rfl, by kernel_rfl⟩
theorem sl22 : SlIs Tryz.prog 22 1 := ⟨3, false, by kernel_rfl, ty3⟩
theorem sl28 : SlIs Tryz.prog 28 1 := ⟨132, false, by kernel_rfl, ty132⟩
theorem k_riTrim {u w : World} {i1 : IL} {zN : Int} {K : Nat} (d : Dat u w) (hi1 : IntV u i1 zN K) (hK : K ≤ 500000000) : qyc 172 #[i1.v] w (Post u w fun v u' => ∃ i : IL, v = i.v ∧ IntN u' i zN K) := by
 obtain ⟨N, hN, hzN⟩ := hi1
 refine zzl (args := [i1.v]) Tryz.func172 rfl Tryz.ntmps172 (rs := [.cell 2 30]) Tryz.results172 (le_b rfl) (le_b rfl) d ?_
 refine sq9 (zzj 1 ⟨30, i1.cs⟩ (zzj 2 ⟨30, [.bool false, qyn]⟩ (zzb (sq9 (zza 4 (.adr 1 1) (zzh 5 (.v (i1.m.v)) ty28 zzk (zzg 6 169 _ fun _ _ ae ac => qym (k_rnTrim ac (hN.ext ae) xq) ?_)))))))
 rintro _ u14 g15 ⟨aa, rfl, ab⟩
 refine zza 3 (.v (aa.v)) (zzb (sq9 (zza 7 (.adr 1 0) (zzh 8 (zB i1.s) ty4 zzk ?_))))
 rcases Bool.eq_false_or_eq_true i1.s with hs17 | hs17
 ·refine zyn 9 (x := zB i1.s) (zB true) (by rw [hs17]) (zza 10 (.v (aa.v)) ?_ (hw := w1 2 true 9))
  refine zza 11 (zI aa.n) ?_ (hw := w1 2 true 9)
  refine zza 12 (zB (decide ((0 : Int) < (aa.n : Int)))) ?_ (hw := w1 2 true 9)
  refine zza 13 (zB (decide ((0 : Int) < (aa.n : Int)))) (zza 14 (.v (aa.v)) (zza 15 (.v (.agg #[.bool (decide ((0 : Int) < (aa.n : Int))), aa.v])) (zzi ⟨30, [.bool (decide ((0 : Int) < (aa.n : Int))), aa.v]⟩ ty30 ?_)))
  refine zzb (zzn (ret0 [.agg #[.bool (decide ((0 : Int) < (aa.n : Int))), aa.v]] ⟨zzq ty30 zze, trivial⟩ fun u18 ad => ?_))
  refine ⟨⟨_, aa⟩, rfl, ?_⟩
  rw [hzN, hs17]
  exact signed_int (s := true) (ab.ext ad)
 refine zyn 9 (x := zB i1.s) (zB false) (by rw [hs17]) (zzm 10 (uw 2 true false 9) (zzm 11 (uw 2 true false 9) (zzm 12 (uw 2 true false 9) (zza 13 (zB false) (zza 14 (.v (aa.v)) (zza 15 (.v (.agg #[.bool false, aa.v])) (zzi ⟨30, [.bool false, aa.v]⟩ ty30 ?_)))))))
 refine zzb (zzn (ret0 [.agg #[.bool false, aa.v]] ⟨zzq ty30 zze, trivial⟩ fun u20 af => ?_))
 refine ⟨⟨_, aa⟩, rfl, ?_⟩
 rw [hzN, hs17]
 exact signed_int (s := false) (ab.ext af)
theorem k_riSign {u w : World} {i1 : IL} {zN : Int} {K : Nat} (d : Dat u w) (hi1 : IntV u i1 zN K) (hK : K ≤ 500000000) : qyc 170 #[i1.v] w (Post u w fun v u' => v = .int .i64 (Nt.cmpS zN 0)) := by
 refine zzl (args := [i1.v]) Tryz.func170 rfl Tryz.ntmps170 (rs := [.tmp 2]) Tryz.results170 (le_b rfl) (le_b rfl) d ?_
 refine sq9 (zzj 1 ⟨30, i1.cs⟩ (zza 2 (zI 0) (zzb (sq9 (zzh 3 (.v (i1.v)) ty30 zze (zzg 4 172 _ fun _ _ ag af => qym (k_riTrim af (hi1.ext ag) xq) ?_))))))
 rintro _ u14 g15 ⟨ab, rfl, ae⟩
 refine zzi ⟨30, ab.cs⟩ ty30 ?_
 refine zzb (zzd (zzs (sq9 (zza 6 (.adr 1 1) (zzh 7 (.v (ab.m.v)) ty28 zzk (zza 8 (zI ab.m.n) (zza 9 (zB ((ab.m.n : Int) == 0)) (zza 5 (zB ((ab.m.n : Int) == 0)) (zzb (zzt (b := (ab.m.n : Int) == 0) xj (fun ac => ?_) (fun ac => ?_)))))))))))
 ·have ad : (ab.m.n : Int) = 0 := by simpa using ac
  refine sq9 (zza 2 (zI 0) (zzb (zzn (zyr (zzv (ret0 [.int .i64 0] ⟨zzp, trivial⟩ fun u18 e19 => ?_))))))
  show _ = _
  rw [sign_len ae, if_pos ac]
  rfl
 have ad : ¬ ((ab.m.n : Int) = 0) := by simpa using ac
 refine sq9 (zza 11 (.adr 1 0) (zzh 12 (zB ab.s) ty4 zzk (zza 10 (zB ab.s) (zzb (zzt (b := ab.s) xj (fun aa => ?_) (fun aa => ?_))))))
 ·replace aa : ab.s = true := aa
  refine sq9 (zza 2 (zI (-1)) (zzb (zzn (zyr (zzv (ret0 [.int .i64 (-1)] ⟨zzp, trivial⟩ fun u21 e22 => ?_))))))
  show _ = _
  rw [sign_len ae, if_neg (ne_true_of_eq_false ac), if_pos aa]
  rfl
 replace aa : ab.s = false := aa
 refine zzr (zzo ?_)
 refine sq9 (zza 2 (zI 1) (zzb (zzn (ret0 [.int .i64 1] ⟨zzp, trivial⟩ fun u23 e24 => ?_))))
 show _ = _
 rw [sign_len ae, if_neg (ne_true_of_eq_false ac), if_neg (ne_true_of_eq_false aa)]
 rfl
theorem k_riNeg {u w : World} {i1 : IL} {zN : Int} {K : Nat} (d : Dat u w) (hi1 : IntV u i1 zN K) (hK : K ≤ 500000000) : qyc 193 #[i1.v] w (Post u w fun v u' => ∃ i : IL, v = i.v ∧ IntN u' i (-zN) K) := by
 refine zzl (args := [i1.v]) Tryz.func193 rfl Tryz.ntmps193 (rs := [.cell 2 30]) Tryz.results193 (le_b rfl) (le_b rfl) d ?_
 refine sq9 (zzj 1 ⟨30, i1.cs⟩ (zzj 2 ⟨30, [.bool false, qyn]⟩ (zzb (sq9 (zzh 3 (.v (i1.v)) ty30 zze (zzg 4 172 _ fun _ _ ae ac => qym (k_riTrim ac (hi1.ext ae) xq) ?_))))))
 rintro _ u14 g15 ⟨aa, rfl, ab⟩
 refine zzi ⟨30, aa.cs⟩ ty30 ?_
 refine zzb (sq9 (zza 5 (.adr 1 0) (zzh 6 (zB aa.s) ty4 zzk (zza 7 (zB (!aa.s)) ?_))))
 rcases Bool.eq_false_or_eq_true (!aa.s) with hs17 | hs17
 ·refine zyn 8 (x := zB (!aa.s)) (zB true) (by rw [hs17]) (zza 9 (.adr 1 1) ?_ (hw := w1 3 true 8))
  refine zzh 10 (.v (aa.m.v)) ty28 zzk ?_ (hw := w1 3 true 8)
  refine zza 11 (zI aa.m.n) ?_ (hw := w1 3 true 8)
  refine zza 12 (zB (decide ((0 : Int) < (aa.m.n : Int)))) ?_ (hw := w1 3 true 8)
  refine zza 13 (zB (decide ((0 : Int) < (aa.m.n : Int)))) (zza 14 (.adr 1 0) (zzi ⟨30, [.bool (decide ((0 : Int) < (aa.m.n : Int))), aa.m.v]⟩ ty4 ?_))
  refine zzb (sq9 (zzh 15 (.v (.agg #[.bool (decide ((0 : Int) < (aa.m.n : Int))), aa.m.v])) ty30 zze (zzi ⟨30, [.bool (decide ((0 : Int) < (aa.m.n : Int))), aa.m.v]⟩ ty30 ?_)))
  refine zzb (zzn (ret0 [.agg #[.bool (decide ((0 : Int) < (aa.m.n : Int))), aa.m.v]] ⟨zzq ty30 zze, trivial⟩ fun u18 ad => ?_))
  refine ⟨⟨_, aa.m⟩, rfl, ?_⟩
  have h9 := neg_int (ab.ext ad)
  rw [hs17] at h9
  exact h9
 refine zyn 8 (x := zB (!aa.s)) (zB false) (by rw [hs17]) (zzm 9 (uw 3 true false 8) (zzm 10 (uw 3 true false 8) (zzm 11 (uw 3 true false 8) (zzm 12 (uw 3 true false 8) (zza 13 (zB false) (zza 14 (.adr 1 0) (zzi ⟨30, [.bool false, aa.m.v]⟩ ty4 ?_)))))))
 refine zzb (sq9 (zzh 15 (.v (.agg #[.bool false, aa.m.v])) ty30 zze (zzi ⟨30, [.bool false, aa.m.v]⟩ ty30 ?_)))
 refine zzb (zzn (ret0 [.agg #[.bool false, aa.m.v]] ⟨zzq ty30 zze, trivial⟩ fun u20 af => ?_))
 refine ⟨⟨_, aa.m⟩, rfl, ?_⟩
 have h9 := neg_int (ab.ext af)
 rw [hs17] at h9
 exact h9
theorem k_riAdd {u w : World} {i1 : IL} {zN : Int} {K : Nat} {i2 : IL} {zM : Int} {L : Nat} (d : Dat u w) (hi1 : IntV u i1 zN K) (hi2 : IntV u i2 zM L) (hK : K ≤ 400000000) (hL : L ≤ 400000000) : qyc 120 #[i1.v, i2.v] w (Post u w fun v u' => ∃ i : IL, v = i.v ∧ IntN u' i (zN + zM) (max K L + 1)) := by
 refine zzl (args := [i1.v, i2.v]) Tryz.func120 rfl Tryz.ntmps120 (rs := [.cell 4 30]) Tryz.results120 (le_b rfl) (le_b rfl) d ?_
 refine sq9 (zzj 2 ⟨30, i1.cs⟩ (zzj 3 ⟨30, i2.cs⟩ (zzj 4 ⟨30, [.bool false, qyn]⟩ (zzb (zzd (zzy [0, 1, 0, 7, 15, 31] [(0, []), (2, []), (1, []), (3, []), (4, []), (5, [])] xj xj (zzh 5 (.v (i1.v)) ty30 zze (zzh 7 (.v (i2.v)) ty30 zze (zzg 6 172 _ fun _ _ ao aH => qym (k_riTrim aH (hi1.ext ao) xq) ?_)))))))))
 rintro _ u14 aM ⟨aa, rfl, ae⟩
 refine zzg 8 172 _ fun _ _ ah aJ => qym (k_riTrim aJ (hi2.ext (ao.t (aM.t ah))) xq) ?_
 rintro _ u20 ai ⟨ab, rfl, af⟩
 refine zzi ⟨30, aa.cs⟩ ty30 ?_
 refine zzi ⟨30, ab.cs⟩ ty30 ?_
 refine zzb (zzd (sq9 (zza 9 (.adr 2 0) (zzh 10 (zB aa.s) ty4 zzk (zza 11 (.adr 3 0) (zzh 12 (zB ab.s) ty4 zzk (zza 13 (zB (aa.s == ab.s)) (zzb (zzt (b := aa.s == ab.s) xj (fun ad => ?_) (fun ad => ?_))))))))))
 ·refine zzd (zzy [0, 1, 0, 4, 0, 16, 60, 127, 255, 511] [(0, []), (1, []), (2, []), (3, []), (4, []), (5, []), (6, []), (7, []), (8, []), (9, [])] xj xj (zza 14 (.adr 2 0) (zzh 15 (zB aa.s) ty4 zzk (zza 16 (.adr 2 1) (zzh 17 (.v (aa.m.v)) ty28 zzk (zza 18 (.adr 3 1) (zzh 19 (.v (ab.m.v)) ty28 zzk (zzg 20 232 _ fun _ _ an ar => qym (k_rnAdd ar ((int_mag ae).ext (ah.t (ai.t an))).raw ((int_mag af).ext an).raw xq xq) ?_))))))))
  rintro _ u27 g28 ⟨az, rfl, ay⟩
  refine zza 21 (.v (.agg #[.bool aa.s, az.v])) (zzg 22 172 _ fun _ _ aB aw => qym (k_riTrim aw (IntV.same (s := aa.s) (ay.ext aB).raw) xq) ?_)
  rintro _ u33 g34 ⟨ak, rfl, aI⟩
  refine zzi ⟨30, ak.cs⟩ ty30 ?_
  refine zzb (zzn (zzv (ret0 [ak.v] ⟨zzq ty30 zze, trivial⟩ fun u36 aA => ?_)))
  refine ⟨ak, rfl, IntN.more (K := (max K L + 1)) ?_ xq⟩
  have h9 : zN + zM = (Nt.sg aa.s ((zN : Int).natAbs + (zM : Int).natAbs)) := by
   rw [Nt.sg_add1 _ _ ad]
   rw [← IntN.sg ae, ← IntN.sg af]
  rw [h9]
  exact (aI.ext aA)
 refine zzr (zzo ?_)
 refine zzd (sq9 (zza 23 (.adr 2 1) (zzh 24 (.v (aa.m.v)) ty28 zzk (zza 25 (.adr 3 1) (zzh 26 (.v (ab.m.v)) ty28 zzk (zzg 27 233 _ fun _ _ ag aD => qym (k_rnCompare aD ((int_mag ae).ext (ah.t (ai.t ag))).raw ((int_mag af).ext ag).raw xq xq) ?_))))))
 rintro _ u39 aj rfl
 refine zza 28 (zB (decide ((0 : Int) ≤ (Nt.cmpS ((zN : Int).natAbs) ((zM : Int).natAbs))))) (zzb (zzt (b := decide ((0 : Int) ≤ (Nt.cmpS ((zN : Int).natAbs) ((zM : Int).natAbs)))) xj (fun ac => ?_) (fun ac => ?_)))
 ·have qhb42 := qyt ac
  refine zzd (zzy [0, 1, 0, 4, 0, 16, 60, 127, 255, 511] [(0, []), (1, []), (2, []), (3, []), (4, []), (5, []), (6, []), (7, []), (8, []), (9, [])] xj xj (zza 29 (.adr 2 0) (zzh 30 (zB aa.s) ty4 zzk (zza 31 (.adr 2 1) (zzh 32 (.v (aa.m.v)) ty28 zzk (zza 33 (.adr 3 1) (zzh 34 (.v (ab.m.v)) ty28 zzk (zzg 35 234 _ fun _ _ ap aQ => qym (k_rnSub aQ ((int_mag ae).ext (ah.t (ai.t (ag.t (aj.t ap))))).raw ((int_mag af).ext (ag.t (aj.t ap))).raw xq xq) ?_))))))))
  rintro _ u46 g47 ⟨aF, rfl, aK⟩
  refine zza 36 (.v (.agg #[.bool aa.s, aF.v])) (zzg 37 172 _ fun _ _ aG aE => qym (k_riTrim aE (IntV.same (s := aa.s) (aK.ext aG).raw) xq) ?_)
  rintro _ u52 g53 ⟨am, rfl, aL⟩
  refine zzi ⟨30, am.cs⟩ ty30 ?_
  refine zzb (zzn (zzv (ret0 [am.v] ⟨zzq ty30 zze, trivial⟩ fun u55 au => ?_)))
  refine ⟨am, rfl, IntN.more (K := K) ?_ xq⟩
  have h9 : zN + zM = (Nt.sg aa.s ((zN : Int).natAbs - (zM : Int).natAbs)) := by
   rw [Nt.sg_add4 _ _ ad ac]
   rw [← IntN.sg ae, ← IntN.sg af]
  rw [h9]
  exact (aL.ext au)
 have qhb42 := qyf ac
 refine zzr (zzo ?_)
 refine zzd (zzy [0, 1, 0, 4, 0, 16, 60, 127, 255, 511] [(0, []), (1, []), (2, []), (3, []), (4, []), (5, []), (6, []), (7, []), (8, []), (9, [])] xj xj (zza 38 (.adr 3 0) (zzh 39 (zB ab.s) ty4 zzk (zza 40 (.adr 3 1) (zzh 41 (.v (ab.m.v)) ty28 zzk (zza 42 (.adr 2 1) (zzh 43 (.v (aa.m.v)) ty28 zzk (zzg 44 234 _ fun _ _ aq aN => qym (k_rnSub aN ((int_mag af).ext (ag.t (aj.t aq))).raw ((int_mag ae).ext (ah.t (ai.t (ag.t (aj.t aq))))).raw xq xq) ?_))))))))
 rintro _ u60 g61 ⟨ax, rfl, aC⟩
 refine zza 45 (.v (.agg #[.bool ab.s, ax.v])) (zzg 46 172 _ fun _ _ aR aP => qym (k_riTrim aP (IntV.same (s := ab.s) (aC.ext aR).raw) xq) ?_)
 rintro _ u66 g67 ⟨al, rfl, av⟩
 refine zzi ⟨30, al.cs⟩ ty30 ?_
 refine zzb (zzn (ret0 [al.v] ⟨zzq ty30 zze, trivial⟩ fun u69 aO => ?_))
 refine ⟨al, rfl, IntN.more (K := L) ?_ xq⟩
 have h9 : zN + zM = (Nt.sg ab.s ((zM : Int).natAbs - (zN : Int).natAbs)) := by
  rw [Nt.sg_add5 _ _ ad ac]
  rw [← IntN.sg ae, ← IntN.sg af]
 rw [h9]
 exact (av.ext aO)
theorem k_riSub {u w : World} {i1 : IL} {zN : Int} {K : Nat} {i2 : IL} {zM : Int} {L : Nat} (d : Dat u w) (hi1 : IntV u i1 zN K) (hi2 : IntV u i2 zM L) (hK : K ≤ 400000000) (hL : L ≤ 400000000) : qyc 171 #[i1.v, i2.v] w (Post u w fun v u' => ∃ i : IL, v = i.v ∧ IntN u' i (zN - zM) (max K L + 1)) := by
 refine zzl (args := [i1.v, i2.v]) Tryz.func171 rfl Tryz.ntmps171 (rs := [.cell 4 30]) Tryz.results171 (le_b rfl) (le_b rfl) d ?_
 refine sq9 (zzj 2 ⟨30, i1.cs⟩ (zzj 3 ⟨30, i2.cs⟩ (zzj 4 ⟨30, [.bool false, qyn]⟩ (zzb (zzd (zzy [0, 0, 2, 7, 15] [(0, []), (1, []), (2, []), (3, []), (4, [])] xj xj (zzh 5 (.v (i1.v)) ty30 zze (zzh 6 (.v (i2.v)) ty30 zze (zzg 7 193 _ fun _ _ ab ag => qym (k_riNeg ag (hi2.ext ab) xq) ?_)))))))))
 rintro _ u14 ad ⟨i12, rfl, ah⟩
 refine zzg 8 120 _ fun _ _ ac ai => qym (k_riAdd ai (hi1.ext (ab.t (ad.t ac))) (ah.ext ac).raw xq xq) ?_
 rintro _ u20 g21 ⟨aa, rfl, af⟩
 refine zzi ⟨30, aa.cs⟩ ty30 ?_
 refine zzb (zzn (ret0 [aa.v] ⟨zzq ty30 zze, trivial⟩ fun u23 ae => ?_))
 refine ⟨aa, rfl, ?_⟩
 rw [Int.sub_eq_add_neg]
 exact (af.ext ae)
theorem k_riCompare {u w : World} {i1 : IL} {zN : Int} {K : Nat} {i2 : IL} {zM : Int} {L : Nat} (d : Dat u w) (hi1 : IntV u i1 zN K) (hi2 : IntV u i2 zM L) (hK : K ≤ 400000000) (hL : L ≤ 400000000) : qyc 71 #[i1.v, i2.v] w (Post u w fun v u' => v = .int .i64 (Nt.cmpS zN zM)) := by
 refine zzl (args := [i1.v, i2.v]) Tryz.func71 rfl Tryz.ntmps71 (rs := [.tmp 4]) Tryz.results71 (le_b rfl) (le_b rfl) d ?_
 refine sq9 (zzj 2 ⟨30, i1.cs⟩ (zzj 3 ⟨30, i2.cs⟩ (zza 4 (zI 0) (zzb (sq9 (zzh 5 (.v (i1.v)) ty30 zze (zzh 6 (.v (i2.v)) ty30 zze (zzg 7 171 _ fun _ _ aa ab => qym (k_riSub ab (hi1.ext aa) (hi2.ext aa) xq xq) ?_))))))))
 rintro _ u14 g15 ⟨i12, rfl, ac⟩
 refine zzg 8 170 _ fun _ _ ae ad => qym (k_riSign ad (ac.ext ae).raw xq) ?_
 rintro _ u18 g19 rfl
 refine zza 4 (zI (Nt.cmpS (zN - zM) 0)) (zzb (zzn (ret0 [.int .i64 (Nt.cmpS (zN - zM) 0)] ⟨zzp, trivial⟩ fun u21 e22 => ?_)))
 show Value.int _ _ = Value.int _ _
 rw [Nt.cmp_self_sub]
theorem k_riMul {u w : World} {i1 : IL} {zN : Int} {K : Nat} {i2 : IL} {zM : Int} {L : Nat} (d : Dat u w) (hi1 : IntV u i1 zN K) (hi2 : IntV u i2 zM L) (hK : K ≤ 250000000) (hL : L ≤ 250000000) : qyc 72 #[i1.v, i2.v] w (Post u w fun v u' => ∃ i : IL, v = i.v ∧ IntN u' i (zN * zM) (K + L)) := by
 obtain ⟨N, hN, hzN⟩ := hi1
 obtain ⟨M, hM, hzM⟩ := hi2
 refine zzl (args := [i1.v, i2.v]) Tryz.func72 rfl Tryz.ntmps72 (rs := [.cell 4 30]) Tryz.results72 (le_b rfl) (le_b rfl) d ?_
 refine sq9 (zzj 2 ⟨30, i1.cs⟩ (zzj 3 ⟨30, i2.cs⟩ (zzj 4 ⟨30, [.bool false, qyn]⟩ (zzb (zzd (zzy [0, 1, 0, 4, 15, 0, 32, 0, 128, 480, 1023, 2047, 4095] [(0, []), (1, []), (2, []), (3, []), (4, []), (5, []), (6, []), (7, []), (8, []), (9, []), (10, []), (11, []), (12, [])] xj xj (zza 5 (.adr 2 0) (zzh 6 (zB i1.s) ty4 zzk (zza 7 (.adr 3 0) (zzh 8 (zB i2.s) ty4 zzk (zza 9 (zB (!(i1.s == i2.s))) ?_)))))))))))
 refine zza 10 (.adr 2 1) (zzh 11 (.v (i1.m.v)) ty28 zzk (zza 12 (.adr 3 1) (zzh 13 (.v (i2.m.v)) ty28 zzk (zzg 14 173 _ fun _ _ ab ad => qym (k_rnMul ad (hN.ext ab) (hM.ext ab) xq xq) ?_))))
 rintro _ u14 g15 ⟨ac, rfl, ag⟩
 refine zza 15 (.v (.agg #[.bool (!(i1.s == i2.s)), ac.v])) (zzg 16 172 _ fun _ _ ai ah => qym (k_riTrim ah (IntV.same (s := !(i1.s == i2.s)) (ag.ext ai).raw) xq) ?_)
 rintro _ u20 g21 ⟨aa, rfl, af⟩
 refine zzi ⟨30, aa.cs⟩ ty30 ?_
 refine zzb (zzn (ret0 [aa.v] ⟨zzq ty30 zze, trivial⟩ fun u23 ae => ?_))
 refine ⟨aa, rfl, IntN.more (K := (K + L)) ?_ xq⟩
 rw [hzN, hzM, ← Nt.sg_mul]
 exact (af.ext ae)
theorem k_riGcd {u w : World} {i1 : IL} {zN : Int} {K : Nat} {i2 : IL} {zM : Int} {L : Nat} (d : Dat u w) (hi1 : IntV u i1 zN K) (hi2 : IntV u i2 zM L) (hK : K ≤ 500000000) (hL : L ≤ 500000000) : qyc 191 #[i1.v, i2.v] w (Post u w fun v u' => ∃ i : IL, v = i.v ∧ IntN u' i (Nat.gcd zN.natAbs zM.natAbs : Int) (max K L)) := by
 refine zzl (args := [i1.v, i2.v]) Tryz.func191 rfl Tryz.ntmps191 (rs := [.cell 4 30]) Tryz.results191 (le_b rfl) (le_b rfl) d ?_
 refine sq9 (zzj 2 ⟨30, i1.cs⟩ (zzj 3 ⟨30, i2.cs⟩ (zzj 4 ⟨30, [.bool false, qyn]⟩ (zzb (sq9 (zza 5 (.adr 2 1) (zzh 6 (.v (i1.m.v)) ty28 zzk (zza 7 (.adr 3 1) (zzh 8 (.v (i2.m.v)) ty28 zzk (zzg 9 288 _ fun _ _ ab ad => qym (k_rnGcd ad ((IntV.abs hi1).ext ab) ((IntV.abs hi2).ext ab) xq xq) ?_))))))))))
 rintro _ u14 g15 ⟨aa, rfl, ae⟩
 refine zza 10 (.v (.agg #[.bool false, aa.v])) (zzi ⟨30, [.bool false, aa.v]⟩ ty30 ?_)
 refine zzb (zzn (ret0 [.agg #[.bool false, aa.v]] ⟨zzq ty30 zze, trivial⟩ fun u17 ac => ?_))
 exact ⟨(⟨false, aa⟩ : IL), rfl, (nat_intN (ae.ext ac))⟩
theorem k_riOf {u w : World} {z : Int} (d : Dat u w) (h0 : -9223372036854775808 ≤ z) (h1 : z ≤ 9223372036854775807) : qyc 92 #[.int .i64 z] w (Post u w fun v u' => ∃ i : IL, v = i.v ∧ IntN u' i z 2) := by
 by_cases hneg : z < 0
 ·refine zzl (args := [.int .i64 z]) Tryz.func92 rfl Tryz.ntmps92 (rs := [.cell 2 30]) Tryz.results92 (le_b rfl) (le_b rfl) d ?_
  refine sq9 (zzj 2 ⟨30, [.bool false, qyn]⟩ (zzb (zzd (sq9 (zza 4 (zI z) (zyn 5 (x := zB (decide (z < 0))) (zB true) (by rw [show (decide (z < 0)) = true from yz]) (zzb (zyo xj (sq9 (zza 6 (zI z) (zyn 7 (x := zI (IntKind.i64.wrap (z + 1))) (zI (z + 1)) (by rw [show (IntKind.i64.wrap (z + 1)) = (z + 1) from (IntWalk.i64_in _ xq)]) ?_)))))))))))
  refine zyn 8 (x := zI (IntKind.i64.wrap (0 - (z + 1)))) (zI (-z - 1)) (by rw [show (IntKind.i64.wrap (0 - (z + 1))) = (-z - 1) from xk]) (zyn 9 (x := .v (.int .u64 (IntKind.u64.wrap (-z - 1)))) (.v (.int .u64 (-z - 1))) (by rw [show (IntKind.u64.wrap (-z - 1)) = (-z - 1) from (IntWalk.u64_in _ xq)]) (zyn 10 (x := .v (.int .u64 (IntKind.u64.wrap (-z - 1 + 1)))) (.v (.int .u64 (-z))) (by rw [show (IntKind.u64.wrap (-z - 1 + 1)) = (-z) from (by rw [IntWalk.u64_in _ xq]; omega)]) (zza 3 (.v (.int .u64 (-z))) (zzb (sq9 (zza 11 (.v (.int .u64 (-z))) (zyn 12 (x := .v (.int .u32 (IntKind.u32.wrap (-z)))) (.v (.int .u32 ((-z) % 4294967296))) (by rw [show (IntKind.u32.wrap (-z)) = ((-z) % 4294967296) from (IntKind.wrap_u32 _)]) (zza 13 (.v (.int .u64 (-z))) (zyn 14 (x := .v (.int .u64 (Int.fdiv (-z) (2 ^ 32)))) (.v (.int .u64 ((-z) / 4294967296))) (by rw [show (Int.fdiv (-z) (2 ^ 32)) = ((-z) / 4294967296) from (by rw [Int.fdiv_eq_ediv_of_nonneg _ yq]; rfl)]) (zyn 15 (x := .v (.int .u32 (IntKind.u32.wrap ((-z) / 4294967296)))) (.v (.int .u32 ((-z) / 4294967296))) (by rw [show (IntKind.u32.wrap ((-z) / 4294967296)) = ((-z) / 4294967296) from (IntWalk.u32_in _ xq)]) (zxp 16 ⟨132, [.int .u32 ((-z) % 4294967296), .int .u32 ((-z) / 4294967296)]⟩ 2 (fun ab aj ai ag => ?_))))))))))))
  refine zza 17 (.v (.agg #[.bool true, .slice (some ⟨ab, 0, none⟩) 2 2])) (zzg 18 172 [.agg #[.bool true, .slice (some ⟨ab, 0, none⟩) 2 2]] ?_)
  intro w15 u15 ac af
  have k20 := k_riTrim af (IntV.same (s := true) ((two_data (N := z.natAbs) ag xq xq xq).ext ac)) xq
  with_reducible refine zPm k20 ?_
  rintro _ ak ah ⟨aa, rfl, ae⟩
  refine zzi ⟨30, aa.cs⟩ ty30 ?_
  refine zzb (zzn (zzv (ret0 [aa.v] ⟨zzq ty30 zze, trivial⟩ fun al ad => ?_)))
  refine ⟨aa, rfl, IntN.more (K := 2) ?_ xq⟩
  have e : z = Nt.sg true z.natAbs := by unfold Nt.sg; simp; omega
  rw [e]
  exact (ae.ext ad)
 refine zzl (args := [.int .i64 z]) Tryz.func92 rfl Tryz.ntmps92 (rs := [.cell 2 30]) Tryz.results92 (le_b rfl) (le_b rfl) d ?_
 refine sq9 (zzj 2 ⟨30, [.bool false, qyn]⟩ (zzb (zzd (sq9 (zza 4 (zI z) (zyn 5 (x := zB (decide (z < 0))) (zB false) (by rw [show (decide (z < 0)) = false from yz]) (zzb (zyp xj (zzr (zzo ?_))))))))))
 refine sq9 (zza 19 (zI z) (zyn 20 (x := .v (.int .u32 (IntKind.u32.wrap z))) (.v (.int .u32 (z % 4294967296))) (by rw [show (IntKind.u32.wrap z) = (z % 4294967296) from (IntKind.wrap_u32 _)]) (zza 21 (zI z) (zyn 22 (x := .v (.int .u64 (IntKind.u64.wrap z))) (.v (.int .u64 (z))) (by rw [show (IntKind.u64.wrap z) = z from (IntWalk.u64_in _ xq)]) (zyn 23 (x := .v (.int .u64 (Int.fdiv z (2 ^ 32)))) (.v (.int .u64 (z / 4294967296))) (by rw [show (Int.fdiv z (2 ^ 32)) = (z / 4294967296) from (by rw [Int.fdiv_eq_ediv_of_nonneg _ yq]; rfl)]) (zyn 24 (x := .v (.int .u32 (IntKind.u32.wrap (z / 4294967296)))) (.v (.int .u32 (z / 4294967296))) (by rw [show (IntKind.u32.wrap (z / 4294967296)) = (z / 4294967296) from (IntWalk.u32_in _ xq)]) (zxp 25 ⟨132, [.int .u32 (z % 4294967296), .int .u32 (z / 4294967296)]⟩ 2 (fun ab aj ai ag => ?_))))))))
 refine zza 26 (.v (.agg #[.bool false, .slice (some ⟨ab, 0, none⟩) 2 2])) (zzg 27 172 _ fun _ _ ac af => qym (k_riTrim af (nat_int ((two_data (N := z.natAbs) ag xq xq xq).ext ac)) xq) ?_)
 rintro _ ak ah ⟨aa, rfl, ae⟩
 refine zzi ⟨30, aa.cs⟩ ty30 ?_
 refine zzb (zzn (ret0 [aa.v] ⟨zzq ty30 zze, trivial⟩ fun al ad => ?_))
 refine ⟨aa, rfl, IntN.more (K := 2) ?_ xq⟩
 have e : z = Nt.sg false z.natAbs := by unfold Nt.sg; simp; omega
 rw [e]
 exact (ae.ext ad)
theorem k_riDiv {u w : World} {i1 : IL} {zN : Int} {K : Nat} {i2 : IL} {zM : Int} {L : Nat} (d : Dat u w) (hi1 : IntV u i1 zN K) (hi2 : IntV u i2 zM L) (hM0 : zM ≠ 0) (hK : K ≤ 400000000) (hL : L ≤ 400000000) : qyc 192 #[i1.v, i2.v] w (Post u w fun v u' => ∃ i j : IL, v = .tuple #[i.v, j.v, .int .i64 0] ∧ IntN u' i (zN / zM) (K + 1) ∧ IntN u' j (zN % zM) L) := by
 have hM : 0 < zM.natAbs := Int.natAbs_pos.2 hM0
 have hL1 : 1 ≤ L := by have h2 := hi2.size; have h3 := Nt.dl_mono (x := zM.natAbs) (y := 1) xq; rw [Nt.dl_one] at h3; omega
 refine zzl (args := [i1.v, i2.v]) Tryz.func192 rfl Tryz.ntmps192 (rs := [.cell 4 30, .cell 5 30, .tmp 6]) Tryz.results192 (le_b rfl) (le_b rfl) d ?_
 refine sq9 (zzj 2 ⟨30, i1.cs⟩ (zzj 3 ⟨30, i2.cs⟩ (zzj 4 ⟨30, [.bool false, qyn]⟩ (zzj 5 ⟨30, [.bool false, qyn]⟩ (zza 6 (zI 0) (zzb (zzd (zzy [0, 1, 0, 7, 15, 31] [(0, []), (2, []), (1, []), (3, []), (4, []), (5, [])] xj xj (zzh 10 (.v (i1.v)) ty30 zze (zzh 12 (.v (i2.v)) ty30 zze (zzg 11 172 _ fun _ _ aA aQ => qym (k_riTrim aQ (hi1.ext aA) xq) ?_)))))))))))
 rintro _ u14 aV ⟨ab, rfl, aj⟩
 refine zzg 13 172 _ fun _ _ ay aS => qym (k_riTrim aS (hi2.ext (aA.t (aV.t ay))) xq) ?_
 rintro _ u20 aW ⟨ac, rfl, ai⟩
 refine zzi ⟨30, ab.cs⟩ ty30 ?_
 refine zzi ⟨30, ac.cs⟩ ty30 ?_
 refine zzb (sq9 (zza 15 (.adr 2 1) (zzh 16 (.v (ab.m.v)) ty28 zzk (zza 17 (.adr 3 1) (zzh 18 (.v (ac.m.v)) ty28 zzk (zzg 19 289 _ fun _ _ ar aU => qym (k_rnDivMod aU ((int_mag aj).ext (ay.t (aW.t ar))).raw ((int_mag ai).ext ar).raw hM xq xq) ?_))))))
 rintro _ u28 aP ⟨ae, aa, rfl, al, ah⟩
 refine zza 14 (.v (.tuple #[ae.v, aa.v, .int .i64 0])) (zza 20 (.v (ae.v)) (zza 21 (.v (aa.v)) (zza 22 (zI 0) (zza 7 (.v (ae.v)) (zza 8 (.v (aa.v)) (zza 9 (zI 0) (zzb (zzd (sq9 (zza 23 (zI 0) (zza 24 (zB false) ?_)))))))))))
 refine zzb (zyp xj (zzr (zzo ?_)))
 refine zzd (sq9 (zza 28 (.adr 2 0) (zzh 29 (zB ab.s) ty4 zzk ?_)))
 rcases Bool.eq_false_or_eq_true ab.s with hs31 | hs31
 ·refine zyn 30 (x := zB ab.s) (zB true) (by rw [hs31]) (zza 31 (.v (aa.v)) ?_ (hw := w1 2 true 30))
  refine zza 32 (zI aa.n) ?_ (hw := w1 2 true 30)
  refine zza 33 (zB (decide ((0 : Int) < (aa.n : Int)))) ?_ (hw := w1 2 true 30)
  refine zza 34 (zB (decide ((0 : Int) < (aa.n : Int)))) (zzc 52 [(2, .adr 2 0), (3, .adr 3 0), (4, .adr 4 0), (5, .adr 5 0), (7, .v (ae.v)), (8, .v (aa.v)), (34, zB (decide ((0 : Int) < (aa.n : Int))))] [(2, ⟨30, ab.cs⟩), (3, ⟨30, ac.cs⟩), (4, ⟨30, [.bool false, qyn]⟩), (5, ⟨30, [.bool false, qyn]⟩)] (zzt (b := decide ((0 : Int) < (aa.n : Int))) xj (fun ad => ?_) (fun ad => ?_)))
  ·have qhb32 := qyt ad
   refine zzy [0, 0, 3, 0, 8, 0, 63, 127, 255] [(0, []), (1, []), (3, []), (4, []), (5, []), (2, [36]), (6, []), (7, []), (8, [])] xj xj (zza 35 (.v (ae.v)) (sy_lit 36 ⟨132, [.int .u32 1]⟩ 1 ?_))
   refine zza 38 (.adr 3 1) (zzh 39 (.v (ac.m.v)) ty28 zzk (zza 40 (.v (aa.v)) (zym 37 232 [.v (ae.v), .slc 36 0 1 1] [36] (.inr rfl) (pub_mk xz) (k := ?_))))
   intro aq w33 aH an aE aR
   have au : aH.heap[aq 36]? = some (.cells #[.int .u32 1] 132 (0, 0)) := aR 36 (by simp) _ rfl
   obtain ⟨b34, af⟩ : ∃ b, aq 36 = b := ⟨_, rfl⟩
   rw [af] at au
   show Calls _ _ #[.slice ae.a ae.n ae.c, .slice (some ⟨aq 36, 0, none⟩) 1 1] _ _
   rw [af]
   have k40 := k_rnAdd aE (al.ext an).raw (one_data au).raw xq xq
   with_reducible refine zPm k40 ?_
   rintro _ u38 aw ⟨ap, rfl, aF⟩
   refine zzg 41 234 _ fun _ _ ak aX => qym (k_rnSub aX ((int_mag ai).ext (ar.t (aP.t (an.t (aw.t ak))))).raw (ah.ext (an.t (aw.t ak))).raw xq xq) ?_
   rintro _ u44 aI ⟨ag, rfl, aM⟩
   refine zza 7 (.v (ap.v)) (zza 8 (.v (ag.v)) (zzb (sq9 (zza 42 (.adr 2 0) (zzh 43 (zB ab.s) ty4 zzk (zza 44 (.adr 3 0) (zzh 45 (zB ac.s) ty4 zzk (zza 46 (zB (!(ab.s == ac.s))) (zza 47 (.v (ap.v)) (zza 48 (.v (.agg #[.bool (!(ab.s == ac.s)), ap.v])) (zzg 49 172 _ fun _ _ aB aN => qym (k_riTrim aN (IntV.same (s := !(ab.s == ac.s)) (aF.ext (ak.t (aI.t aB))).raw) xq) ?_)))))))))))
   rintro _ u50 aK ⟨am, rfl, aZ⟩
   refine zza 50 (.v (ag.v)) (zza 51 (.v (.agg #[.bool false, ag.v])) (zzi ⟨30, am.cs⟩ ty30 ?_))
   refine zzi ⟨30, [.bool false, ag.v]⟩ ty30 ?_
   refine zza 6 (zI 0) (zzb (zzn (ret0 [am.v, .agg #[.bool false, ag.v], .int .i64 0] ⟨zzq ty30 zze, zzq ty30 zze, zzp, trivial⟩ fun u53 az => ?_)))
   have hs := aj.1
   have ht := ai.1
   have hr := ah.pos
   have qhs31 := hs31
   have qhb32 := ad
   have key := Nt.ediv_neg' zN zM rfl rfl hM (by rw [hs] at hs31; simpa using hs31) (by simp at ad; omega)
   have hK1 : 1 ≤ K := by have h2 := hi1.size; have h3 := (Nt.dl_pos (x := zN.natAbs)).2 (by rw [hs] at hs31; simp at hs31; omega); omega
   rw [← hs, ← ht] at key
   refine ⟨am, (⟨false, ag⟩ : IL), rfl, IntN.more (K := (max K 1 + 1)) ?_ xq, IntN.more (K := L) ?_ xq⟩
   ·rw [key.1]; exact (aZ.ext az)
   rw [key.2]; exact (nat_intN (aM.ext (aB.t (aK.t az))))
  have qhb32 := qyf ad
  refine zzr (zzo ?_)
  refine sq9 (zza 42 (.adr 2 0) (zzh 43 (zB ab.s) ty4 zzk (zza 44 (.adr 3 0) (zzh 45 (zB ac.s) ty4 zzk (zza 46 (zB (!(ab.s == ac.s))) (zza 47 (.v (ae.v)) (zza 48 (.v (.agg #[.bool (!(ab.s == ac.s)), ae.v])) (zzg 49 172 _ fun _ _ ax aO => qym (k_riTrim aO (IntV.same (s := !(ab.s == ac.s)) (al.ext ax).raw) xq) ?_))))))))
  rintro _ u58 aL ⟨ao, rfl, aG⟩
  refine zza 50 (.v (aa.v)) (zza 51 (.v (.agg #[.bool false, aa.v])) (zzi ⟨30, ao.cs⟩ ty30 ?_))
  refine zzi ⟨30, [.bool false, aa.v]⟩ ty30 ?_
  refine zza 6 (zI 0) (zzb (zzn (ret0 [ao.v, .agg #[.bool false, aa.v], .int .i64 0] ⟨zzq ty30 zze, zzq ty30 zze, zzp, trivial⟩ fun u61 av => ?_)))
  have hs := aj.1
  have ht := ai.1
  have hr := ah.pos
  have qhs31 := hs31
  have qhb32 := ad
  have key := Nt.ediv_pos zN zM rfl rfl hM (fun hc => by simp at ad; omega)
  rw [← hs, ← ht] at key
  refine ⟨ao, (⟨false, aa⟩ : IL), rfl, IntN.more (K := K) ?_ xq, IntN.more (K := L) ?_ xq⟩
  ·rw [key.1]; exact (aG.ext av)
  rw [key.2]; exact (nat_intN (ah.ext (ax.t (aL.t av))))
 refine zyn 30 (x := zB ab.s) (zB false) (by rw [hs31]) (zzm 31 (uw 2 true false 30) (zzm 32 (uw 2 true false 30) (zzm 33 (uw 2 true false 30) (zza 34 (zB false) (zzc 52 [(2, .adr 2 0), (3, .adr 3 0), (4, .adr 4 0), (5, .adr 5 0), (7, .v (ae.v)), (8, .v (aa.v)), (34, zB false)] [(2, ⟨30, ab.cs⟩), (3, ⟨30, ac.cs⟩), (4, ⟨30, [.bool false, qyn]⟩), (5, ⟨30, [.bool false, qyn]⟩)] (zyp xj (zzr (zzo ?_))))))))
 refine sq9 (zza 42 (.adr 2 0) (zzh 43 (zB ab.s) ty4 zzk (zza 44 (.adr 3 0) (zzh 45 (zB ac.s) ty4 zzk (zza 46 (zB (!(ab.s == ac.s))) (zza 47 (.v (ae.v)) (zza 48 (.v (.agg #[.bool (!(ab.s == ac.s)), ae.v])) (zzg 49 172 _ fun _ _ aD aY => qym (k_riTrim aY (IntV.same (s := !(ab.s == ac.s)) (al.ext aD).raw) xq) ?_))))))))
 rintro _ u66 aT ⟨i64, rfl, aJ⟩
 refine zza 50 (.v (aa.v)) (zza 51 (.v (.agg #[.bool false, aa.v])) (zzi ⟨30, i64.cs⟩ ty30 ?_))
 refine zzi ⟨30, [.bool false, aa.v]⟩ ty30 ?_
 refine zza 6 (zI 0) (zzb (zzn (ret0 [i64.v, .agg #[.bool false, aa.v], .int .i64 0] ⟨zzq ty30 zze, zzq ty30 zze, zzp, trivial⟩ fun u69 aC => ?_)))
 have hs := aj.1
 have ht := ai.1
 have hr := ah.pos
 have qhs31 := hs31
 have key := Nt.ediv_pos zN zM rfl rfl hM (fun hc => by rw [hs] at hs31; simp at hs31; omega)
 rw [← hs, ← ht] at key
 refine ⟨i64, (⟨false, aa⟩ : IL), rfl, IntN.more (K := K) ?_ xq, IntN.more (K := L) ?_ xq⟩
 ·rw [key.1]; exact (aJ.ext aC)
 rw [key.2]; exact (nat_intN (ah.ext (aD.t (aT.t aC))))
end Go.Proofs.YtcmllhhiekjmaaaGreat
