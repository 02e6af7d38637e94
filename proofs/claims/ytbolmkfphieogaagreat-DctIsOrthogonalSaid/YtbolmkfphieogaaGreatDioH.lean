/- The rows of the cosine transform's matrix are orthogonal, up to 8 rows: by evaluation over integers. DctIsOrthogonal. Printed by wip/sym/g_do.py. -/
import Derived.Test.YtbolmkfphieogaaGreatDioG
set_option linter.unusedVariables false
namespace Go.Proofs.YtbolmkfphieogaaGreat
open Go.RowKit
namespace Nt
def oTab : List (Nat × Nat × Int) := [(1, 4, 13043817825332782212), (1, 6, 15975348984942515101), (1, 8, 17042569291174129989), (2, 8, 13043817825332782212), (3, 8, 7059263338087549766), (1, 10, 17543896155730475763), (2, 10, 14923729446516375050), (3, 10, 10842724119340052333), (4, 10, 5700357409661599242), (1, 12, 17818186511740872234), (2, 12, 15975348984942515101), (3, 12, 13043817825332782212), (5, 12, 4774368686408090021), (1, 14, 17984245686334080796), (2, 14, 16619942124575753875), (3, 14, 14422245265856682077), (4, 14, 11501356807455935333), (5, 14, 8003742293245756417), (6, 14, 4104786719734957266), (1, 16, 18092295058859852118), (2, 16, 17042569291174129989), (3, 16, 15337907143211554841), (4, 16, 13043817825332782212), (5, 16, 10248461903483781988), (6, 16, 7059263338087549766), (7, 16, 3598781241489102188)]
def oTas : List (Nat × Nat × Nat) := [(1, 1, 8796093022208), (2, 1, 12439554047901), (1, 2, 6219777023950), (2, 2, 8796093022208), (1, 3, 5078426674188), (2, 3, 7181979878155), (1, 4, 4398046511104), (2, 4, 6219777023950), (1, 5, 3933732386813), (2, 5, 5563137692178), (1, 6, 3590989939077), (2, 6, 5078426674188), (1, 7, 3324610663678), (2, 7, 4701709490185), (1, 8, 3109888511975), (2, 8, 4398046511104)]
noncomputable section
def oGet (p q : Nat) : Int := List.rec 0 (fun x _ r => bif Nat.beq x.1 p && Nat.beq x.2.1 q then x.2.2 else r) oTab
def oGes (a n : Nat) : Nat := List.rec 0 (fun x _ r => bif Nat.beq x.1 a && Nat.beq x.2.1 n then x.2.2 else r) oTas
def oEx (a n b : Nat) : Bool := Nat.beq (a * 4 ^ b % n) 0 && Nat.beq ((oGes a n / 2 ^ (43 - b)) ^ 2) (a * 4 ^ b / n)
def oS (a n b : Nat) : Int × Int := ((oGes a n / 2 ^ (43 - b) : Nat), bif oEx a n b then ((oGes a n / 2 ^ (43 - b) : Nat) : Int) else ((oGes a n / 2 ^ (43 - b) + 1 : Nat) : Int))
def oA (p q b : Nat) : Int × Int := if p = 0 then (u2 b, u2 b) else if 2 * p = q then (0, 0) else if 3 * p = q then (u2 (b - 1), u2 (b - 1)) else (oGet p q / u2 (64 - b), oGet p q / u2 (64 - b) + 1)
def oF (p q b : Nat) : Int × Int := if q < 2 * p then (-(oA (q - p) q b).2, -(oA (q - p) q b).1) else oA p q b
def oC (n b p : Nat) : Int × Int := oF (if 2 * n < p % (4 * n) then 4 * n - p % (4 * n) else p % (4 * n)) (2 * n) b
end
theorem oTab_ok : ∀ x ∈ oTab, 0 < x.2.1 ∧ 2 * x.1 ≤ x.2.1 ∧ xLo (cs8 x.1 x.2.1) / u2 64 = x.2.2 ∧ xHi (cs8 x.1 x.2.1) / u2 64 = x.2.2 := by decide +kernel
theorem oTab_all0 : ((List.range 9).all fun n => (List.range n).all fun p => Nat.beq p 0 || (Nat.beq (3 * p) (2 * n) || decide ((p, 2 * n, oGet p (2 * n)) ∈ oTab))) = true := by decide +kernel
theorem oTab_all (n : Nat) (hn : n < 9) (p : Nat) (hp : p < n) : p = 0 ∨ 3 * p = 2 * n ∨ (p, 2 * n, oGet p (2 * n)) ∈ oTab := by
 have h1 := List.all_eq_true.1 (List.all_eq_true.1 oTab_all0 n (List.mem_range.2 hn)) p (List.mem_range.2 hp)
 rcases Bool.or_eq_true_iff.1 h1 with h1 | h1
 ·exact .inl (Nat.eq_of_beq_eq_true h1)
 rcases Bool.or_eq_true_iff.1 h1 with h1 | h1
 ·exact .inr (.inl (Nat.eq_of_beq_eq_true h1))
 exact .inr (.inr (of_decide_eq_true h1))
theorem flo_tab {p n b : Nat} (hn : n < 9) (hp : p < n) (h0 : 0 < p) (h3 : ¬ 3 * p = 2 * n) (hb : b ≤ 64) : flo (coN p (2 * n)) b = oGet p (2 * n) / u2 (64 - b) := by
 obtain ⟨h1, h2, h4, h5⟩ := oTab_ok _ (((oTab_all n hn p hp).resolve_left xq).resolve_left h3)
 have e : u2 (128 - b) = u2 64 * u2 (64 - b) := by rw [← u2_add]; congr 1; omega
 have hpos := u2_pos 64
 refine flo_of2 (w := 128) (cs8_ok h1 h2) xq ?_ ?_
 ·rw [e, ← Int.ediv_ediv_of_nonneg xq, h4]
 rw [e, ← Int.ediv_ediv_of_nonneg xq, h5]
theorem half_ok : ∀ b, b < 44 → 1 ≤ b → dnQ (1 / 2) b = gr b (u2 (b - 1)) ∧ -dnQ (-(1 / 2)) b = gr b (u2 (b - 1)) := by decide +kernel
theorem oA_ok {p n b : Nat} (hn : n < 9) (hn0 : 0 < n) (hp : p ≤ n) (hb0 : 1 ≤ b) (hb : b < 44) : cosA p (2 * n) b = (gr b (oA p (2 * n) b).1, gr b (oA p (2 * n) b).2) := by
 unfold cosA oA
 by_cases h0 : p = 0
 ·rw [if_pos h0, if_pos h0]
  have e : gr b (u2 b) = 1 := by
   have h1 := gr_mul b (u2 b)
   have h2 := castI_pos (u2_pos b)
   generalize gr b (u2 b) = x at *
   generalize ((u2 b : Int) : Rat) = y at *
   have h3 : y ≠ 0 := by intro e; rw [e] at h2; exact absurd h2 xw
   grind
  rw [e]
 rw [if_neg h0, if_neg h0]
 by_cases h2 : 2 * p = 2 * n
 ·rw [if_pos h2, if_pos h2]
  have e : gr b 0 = 0 := by unfold gr; rw [show ((0 : Int) : Rat) = 0 from rfl, Rat.div_def, Rat.zero_mul]
  rw [e]
 rw [if_neg h2, if_neg h2]
 by_cases h3 : 3 * p = 2 * n
 ·rw [if_pos h3, if_pos h3, (half_ok b hb hb0).1, (half_ok b hb hb0).2]
 rw [if_neg h3, if_neg h3, flo_tab hn xq xq h3 xq]
theorem oF_ok {p n b : Nat} (hn : n < 9) (hn0 : 0 < n) (hp : p ≤ 2 * n) (hb0 : 1 ≤ b) (hb : b < 44) : cosF p (2 * n) b = (gr b (oF p (2 * n) b).1, gr b (oF p (2 * n) b).2) := by
 unfold cosF oF
 split
 ·rename_i h
  rw [oA_ok hn hn0 xq hb0 hb]
  have e : ∀ z, -gr b z = gr b (-z) := fun z => by unfold gr; rw [Rat.div_def, Rat.div_def, Rat.intCast_neg, Rat.neg_mul]
  rw [e, e]
 exact oA_ok hn hn0 xq hb0 hb
theorem oC_ok {n b p : Nat} (hn : n < 9) (hn0 : 0 < n) (hb0 : 1 ≤ b) (hb : b < 44) : dmC n b p = (gr b (oC n b p).1, gr b (oC n b p).2) := by
 rw [← dmC_mod hn0]
 have hm := Nat.mod_lt p (show 0 < 4 * n by omega)
 unfold dmC oC cosV
 generalize p % (4 * n) = r at *
 have e : fold (r : Int) (2 * n) = if 2 * n < r then 4 * n - r else r := by
  unfold fold
  dsimp only
  rw [Int.tmod_eq_of_lt xq xq]
  show (if 2 * n < r then 2 * (2 * n) - r else r) = _
  rw [show 2 * (2 * n) = 4 * n by omega]
 rw [e]
 exact oF_ok hn hn0 (by split <;> omega) hb0 hb
theorem oS_chk : ∀ n, n < 9 → ∀ b, b < 44 → n = 0 ∨ ∀ a, a < 3 → a = 0 ∨ ((oGes a n / 2 ^ (43 - b)) ^ 2 ≤ rtD (((a : Int) : Rat) / ((n : Int) : Rat)) 2 b ∧ rtD (((a : Int) : Rat) / ((n : Int) : Rat)) 2 b < (oGes a n / 2 ^ (43 - b) + 1) ^ 2 ∧ decide ((((a : Int) : Rat) / ((n : Int) : Rat)).num.natAbs * 2 ^ (2 * b) % (((a : Int) : Rat) / ((n : Int) : Rat)).den = 0 ∧ (oGes a n / 2 ^ (43 - b)) ^ 2 = rtD (((a : Int) : Rat) / ((n : Int) : Rat)) 2 b) = oEx a n b) := by decide +kernel
theorem oS_ok {n b a : Nat} (hn : n < 9) (hn0 : 0 < n) (hb : b < 44) (ha : 0 < a) (ha3 : a < 3) : ((rtN (((a : Int) : Rat) / ((n : Int) : Rat)) 2 b : Nat) : Int) = (oS a n b).1 ∧ rtH (((a : Int) : Rat) / ((n : Int) : Rat)) 2 b = (oS a n b).2 := by
 obtain ⟨h1, h2, h3⟩ := (((oS_chk n hn b hb).resolve_left xq) a ha3).resolve_left xq
 have e : rtN (((a : Int) : Rat) / ((n : Int) : Rat)) 2 b = oGes a n / 2 ^ (43 - b) := (irt_uniq xw h1 h2).symm
 refine ⟨by rw [e]; rfl, ?_⟩
 unfold rtH oS
 show _ = bif oEx a n b then _ else _
 rw [← h3]
 have e2 : rtX (((a : Int) : Rat) / ((n : Int) : Rat)) 2 b ↔ ((((a : Int) : Rat) / ((n : Int) : Rat)).num.natAbs * 2 ^ (2 * b) % (((a : Int) : Rat) / ((n : Int) : Rat)).den = 0 ∧ (oGes a n / 2 ^ (43 - b)) ^ 2 = rtD (((a : Int) : Rat) / ((n : Int) : Rat)) 2 b) := by unfold rtX; rw [e]
 by_cases h : rtX (((a : Int) : Rat) / ((n : Int) : Rat)) 2 b
 ·rw [if_pos h, decide_eq_true (e2.1 h), e]; rfl
 rw [if_neg h, decide_eq_false (fun x => h (e2.2 x)), e]; rfl
theorem o_gr (v w : Nat) (x y : Int) : gr v x * gr w y = gr (v + w) (x * y) := by
 have h1 := gr_mul v x
 have h2 := gr_mul w y
 have h3 := gr_mul (v + w) (x * y)
 have p1 := castI_pos (u2_pos v)
 have p2 := castI_pos (u2_pos w)
 rw [u2_add, Rat.intCast_mul, Rat.intCast_mul, ← h1, ← h2] at h3
 generalize gr v x = a at *
 generalize gr w y = b at *
 generalize gr (v + w) (x * y) = c at *
 generalize ((u2 v : Int) : Rat) = U at *
 generalize ((u2 w : Int) : Rat) = V at *
 have hU : U ≠ 0 := by intro e; rw [e] at p1; exact absurd p1 xw
 have hV : V ≠ 0 := by intro e; rw [e] at p2; exact absurd p2 xw
 grind
def mnI (a b : Int) : Int := match b - a with | .ofNat _ => a | .negSucc _ => b
def mxI (a b : Int) : Int := match b - a with | .ofNat _ => b | .negSucc _ => a
theorem mnI_eq (a b : Int) : mnI a b = if a ≤ b then a else b := by
 unfold mnI
 cases h : b - a with
 | ofNat m => rw [if_pos (by have h9 : (Int.ofNat m : Int) = (m : Int) := rfl; omega)]
 | negSucc m => rw [if_neg (by have h9 := Int.negSucc_lt_zero m; omega)]
theorem mxI_eq (a b : Int) : mxI a b = if a ≤ b then b else a := by
 unfold mxI
 cases h : b - a with
 | ofNat m => rw [if_pos (by have h9 : (Int.ofNat m : Int) = (m : Int) := rfl; omega)]
 | negSucc m => rw [if_neg (by have h9 := Int.negSucc_lt_zero m; omega)]
theorem gr_mn (w : Nat) (a b : Int) : lo (gr w a) (gr w b) = gr w (mnI a b) := by
 rw [mnI_eq]
 by_cases h : a ≤ b
 ·rw [if_pos h, (lo_of_le (gr_mono h)).1]
 have h2 : gr w b ≤ gr w a := gr_mono xq
 rw [if_neg h]
 have h3 : ¬ gr w a ≤ gr w b := fun e => h (gr_le.1 e)
 unfold lo
 grind
theorem gr_mx (w : Nat) (a b : Int) : hi (gr w a) (gr w b) = gr w (mxI a b) := by
 rw [mxI_eq]
 by_cases h : a ≤ b
 ·rw [if_pos h, (lo_of_le (gr_mono h)).2]
 have h2 : gr w b ≤ gr w a := gr_mono xq
 rw [if_neg h]
 have h3 : ¬ gr w a ≤ gr w b := fun e => h (gr_le.1 e)
 unfold hi
 grind
def mn4 (a b c d : Int) : Int := mnI (mnI (mnI a b) c) d
def mx4 (a b c d : Int) : Int := mxI (mxI (mxI a b) c) d
def oM (x y : Int × Int) : Int × Int := (mn4 (x.1 * y.1) (x.1 * y.2) (x.2 * y.1) (x.2 * y.2), mx4 (x.1 * y.1) (x.1 * y.2) (x.2 * y.1) (x.2 * y.2))
theorem oM_ok (v w : Nat) (x y : Int × Int) : lo4 (gr v x.1 * gr w y.1) (gr v x.1 * gr w y.2) (gr v x.2 * gr w y.1) (gr v x.2 * gr w y.2) = gr (v + w) (oM x y).1 ∧ hi4 (gr v x.1 * gr w y.1) (gr v x.1 * gr w y.2) (gr v x.2 * gr w y.1) (gr v x.2 * gr w y.2) = gr (v + w) (oM x y).2 := by
 simp only [o_gr]
 unfold lo4 hi4
 simp only [gr_mn, gr_mx]
 exact ⟨rfl, rfl⟩
noncomputable section
def oE (n b k j : Nat) : Int × Int := oM (oS (if k = 0 then 1 else 2) n b) (oC n b ((2 * j + 1) * k))
theorem oE_ok {n b k j : Nat} (hn : n < 9) (hn0 : 0 < n) (hb0 : 1 ≤ b) (hb : b < 44) : dmE n b k j = (gr (b + b) (oE n b k j).1, gr (b + b) (oE n b k j).2) := by
 have hs : dmS n b k = (gr b (oS (if k = 0 then 1 else 2) n b).1, gr b (oS (if k = 0 then 1 else 2) n b).2) := by
  unfold dmS
  by_cases h : k = 0
  ·obtain ⟨h1, h2⟩ := oS_ok (a := 1) hn hn0 hb xw xw
   rw [if_pos h, if_pos h, ← h1, ← h2]; rfl
  obtain ⟨h1, h2⟩ := oS_ok (a := 2) hn hn0 hb xw xw
  rw [if_neg h, if_neg h, ← h1, ← h2]; rfl
 unfold dmE oE
 rw [hs, oC_ok hn hn0 hb0 hb]
 obtain ⟨h1, h2⟩ := oM_ok b b (oS (if k = 0 then 1 else 2) n b) (oC n b ((2 * j + 1) * k))
 rw [h1, h2]
def otS (n b i j : Nat) : Nat → Rat × Rat
 | 0 => (0, 0)
 | k + 1 => ((otS n b i j k).1 + lo4 ((dmE n b i k).1 * (dmE n b j k).1) ((dmE n b i k).1 * (dmE n b j k).2) ((dmE n b i k).2 * (dmE n b j k).1) ((dmE n b i k).2 * (dmE n b j k).2), (otS n b i j k).2 + hi4 ((dmE n b i k).1 * (dmE n b j k).1) ((dmE n b i k).1 * (dmE n b j k).2) ((dmE n b i k).2 * (dmE n b j k).1) ((dmE n b i k).2 * (dmE n b j k).2))
def oSu (n b i j : Nat) : Nat → Int × Int
 | 0 => (0, 0)
 | k + 1 => ((oSu n b i j k).1 + (oM (oE n b i k) (oE n b j k)).1, (oSu n b i j k).2 + (oM (oE n b i k) (oE n b j k)).2)
theorem oSu_ok {n b i j : Nat} (hn : n < 9) (hn0 : 0 < n) (hb0 : 1 ≤ b) (hb : b < 44) : ∀ k, otS n b i j k = (gr (b + b + (b + b)) (oSu n b i j k).1, gr (b + b + (b + b)) (oSu n b i j k).2)
 | 0 => by unfold otS oSu; rw [gr_zero]
 | k + 1 => by
  unfold otS oSu
  rw [oSu_ok hn hn0 hb0 hb k, oE_ok hn hn0 hb0 hb, oE_ok hn hn0 hb0 hb]
  obtain ⟨h1, h2⟩ := oM_ok (b + b) (b + b) (oE n b i k) (oE n b j k)
  dsimp only
  rw [h1, h2, gr_add, gr_add]
def forceI {α : Type} (z : Int) (k : Int → α) : α := Int.rec (fun m => force m fun m => k (.ofNat m)) (fun m => force m fun m => k (.negSucc m)) z
theorem forceI_eq {α : Type} (z : Int) (k : Int → α) : forceI z k = k z := by
 cases z with
 | ofNat m => exact force_eq m fun m => k (.ofNat m)
 | negSucc m => exact force_eq m fun m => k (.negSucc m)
def fM {α : Type} (x1 x2 y1 y2 : Int) (K : Int → Int → α) : α :=
 forceI (x1 * y1) fun p => forceI (x1 * y2) fun q => forceI (x2 * y1) fun r => forceI (x2 * y2) fun t => forceI (mn4 p q r t) fun l => forceI (mx4 p q r t) fun h => K l h
theorem fM_eq {α : Type} (x y : Int × Int) (K : Int → Int → α) : fM x.1 x.2 y.1 y.2 K = K (oM x y).1 (oM x y).2 := by unfold fM; simp only [forceI_eq]; rfl
def fE {α : Type} (n b k j : Nat) (K : Int → Int → α) : α :=
 forceI (oS (if k = 0 then 1 else 2) n b).1 fun s1 => forceI (oS (if k = 0 then 1 else 2) n b).2 fun s2 => forceI (oC n b ((2 * j + 1) * k)).1 fun c1 => forceI (oC n b ((2 * j + 1) * k)).2 fun c2 => fM s1 s2 c1 c2 K
theorem fE_eq {α : Type} (n b k j : Nat) (K : Int → Int → α) : fE n b k j K = K (oE n b k j).1 (oE n b k j).2 := by unfold fE; simp only [forceI_eq]; exact fM_eq _ _ K
def fRow {α : Type} (n b k : Nat) (m : Nat) : List (Int × Int) → (List (Int × Int) → α) → α := Nat.rec (fun acc K => K acc) (fun j ih acc K => fE n b k j fun l h => ih ((l, h) :: acc) K) m
theorem fRow_eq {α : Type} (n b k : Nat) : ∀ m acc (K : List (Int × Int) → α), fRow n b k m acc K = K ((List.range m).map (oE n b k) ++ acc)
 | 0, acc, K => rfl
 | m + 1, acc, K => by
  show fE n b k m (fun l h => fRow n b k m ((l, h) :: acc) K) = _
  rw [fE_eq, fRow_eq n b k m, List.range_succ, List.map_append, List.append_assoc]; rfl
def fRows {α : Type} (n b : Nat) (m : Nat) : List (List (Int × Int)) → (List (List (Int × Int)) → α) → α := Nat.rec (fun acc K => K acc) (fun k ih acc K => fRow n b k n [] fun R => ih (R :: acc) K) m
theorem fRows_eq {α : Type} (n b : Nat) : ∀ m acc (K : List (List (Int × Int)) → α), fRows n b m acc K = K ((List.range m).map (fun k => (List.range n).map (oE n b k)) ++ acc)
 | 0, acc, K => rfl
 | m + 1, acc, K => by
  show fRow n b m n [] (fun R => fRows n b m (R :: acc) K) = _
  rw [fRow_eq, fRows_eq n b m, List.range_succ, List.map_append, List.append_assoc, List.append_nil]; rfl
def fDot (w : Int) (X : List (Int × Int)) : List (Int × Int) → Int → Int → Bool := List.rec (fun _ lo hi => decide (lo ≤ w) && decide (w ≤ hi)) (fun x _ ih Y lo hi => List.rec false (fun y Y' _ => fM x.1 x.2 y.1 y.2 fun l h => forceI (lo + l) fun lo => forceI (hi + h) fun hi => ih Y' lo hi) Y) X
def sumO : List (Int × Int) → List (Int × Int) → Int × Int
 | x :: X, y :: Y => ((oM x y).1 + (sumO X Y).1, (oM x y).2 + (sumO X Y).2)
 | _, _ => (0, 0)
theorem fDot_ok (w : Int) : ∀ (X Y : List (Int × Int)) (lo hi : Int), fDot w X Y lo hi = true → lo + (sumO X Y).1 ≤ w ∧ w ≤ hi + (sumO X Y).2
 | [], Y, lo, hi, h => by
  have h1 : (decide (lo ≤ w) && decide (w ≤ hi)) = true := h
  simp at h1
  show lo + 0 ≤ w ∧ w ≤ hi + 0
  omega
 | x :: X, [], lo, hi, h => by cases h
 | x :: X, y :: Y, lo, hi, h => by
  have h1 : fM x.1 x.2 y.1 y.2 (fun l h => forceI (lo + l) fun lo => forceI (hi + h) fun hi => fDot w X Y lo hi) = true := h
  rw [fM_eq, forceI_eq, forceI_eq] at h1
  have h2 := fDot_ok w X Y _ _ h1
  show lo + ((oM x y).1 + (sumO X Y).1) ≤ w ∧ w ≤ hi + ((oM x y).2 + (sumO X Y).2)
  omega
theorem sumL_snoc (x y : Int × Int) : ∀ (X Y : List (Int × Int)), X.length = Y.length → sumO (X ++ [x]) (Y ++ [y]) = ((sumO X Y).1 + (oM x y).1, (sumO X Y).2 + (oM x y).2)
 | [], [], _ => by show ((oM x y).1 + 0, (oM x y).2 + 0) = (0 + (oM x y).1, 0 + (oM x y).2); rw [Int.add_comm, Int.add_comm (oM x y).2]
 | [], _ :: _, h => by cases h
 | _ :: _, [], h => by cases h
 | a :: X, c :: Y, h => by
  show ((oM a c).1 + (sumO (X ++ [x]) (Y ++ [y])).1, (oM a c).2 + (sumO (X ++ [x]) (Y ++ [y])).2) = _
  rw [sumL_snoc x y X Y (by simpa using h)]
  show ((oM a c).1 + ((sumO X Y).1 + (oM x y).1), (oM a c).2 + ((sumO X Y).2 + (oM x y).2)) = ((oM a c).1 + (sumO X Y).1 + (oM x y).1, (oM a c).2 + (sumO X Y).2 + (oM x y).2)
  rw [Int.add_assoc, Int.add_assoc]
theorem sumL_range (n b i j : Nat) : ∀ m, sumO ((List.range m).map (oE n b i)) ((List.range m).map (oE n b j)) = oSu n b i j m
 | 0 => rfl
 | m + 1 => by
  rw [List.range_succ, List.map_append, List.map_append]
  show sumO (_ ++ [oE n b i m]) (_ ++ [oE n b j m]) = _
  rw [sumL_snoc _ _ _ _ (by simp), sumL_range n b i j m]; rfl
def oChk (n b : Nat) : Bool := fRows n b n [] fun R => (List.range n).all fun i => (List.range n).all fun j => fDot (bif Nat.beq i j then u2 (b + b + (b + b)) else 0) (R.getD i []) (R.getD j []) 0 0
theorem oChk_ok {n b i j : Nat} (h : oChk n b = true) (hi : i < n) (hj : j < n) : (oSu n b i j n).1 ≤ (bif Nat.beq i j then u2 (b + b + (b + b)) else 0) ∧ (bif Nat.beq i j then u2 (b + b + (b + b)) else 0) ≤ (oSu n b i j n).2 := by
 unfold oChk at h
 rw [fRows_eq, List.append_nil] at h
 have h1 := List.all_eq_true.1 (List.all_eq_true.1 h i (List.mem_range.2 hi)) j (List.mem_range.2 hj)
 have e : ∀ k, k < n → ((List.range n).map fun k => (List.range n).map (oE n b k)).getD k [] = (List.range n).map (oE n b k) := fun k hk => by
  rw [List.getD_eq_getElem?_getD, List.getElem?_map, List.getElem?_range hk]; rfl
 rw [e i hi, e j hj] at h1
 have h2 := fDot_ok _ _ _ _ _ h1
 rw [sumL_range] at h2
 omega
theorem oChk_1 : ((List.range 40).all fun b => oChk 1 (b + 4)) = true := by decide +kernel
theorem oChk_2 : ((List.range 40).all fun b => oChk 2 (b + 4)) = true := by decide +kernel
theorem oChk_3 : ((List.range 40).all fun b => oChk 3 (b + 4)) = true := by decide +kernel
theorem oChk_4 : ((List.range 40).all fun b => oChk 4 (b + 4)) = true := by decide +kernel
theorem oChk_5 : ((List.range 40).all fun b => oChk 5 (b + 4)) = true := by decide +kernel
theorem oChk_6 : ((List.range 40).all fun b => oChk 6 (b + 4)) = true := by decide +kernel
theorem oChk_7 : ((List.range 40).all fun b => oChk 7 (b + 4)) = true := by decide +kernel
theorem oChk_8a : ((List.range 5).all fun b => oChk 8 (b + 4)) = true := by decide +kernel
theorem oChk_8b : ((List.range 5).all fun b => oChk 8 (b + 9)) = true := by decide +kernel
theorem oChk_8c : ((List.range 5).all fun b => oChk 8 (b + 14)) = true := by decide +kernel
theorem oChk_8d : ((List.range 5).all fun b => oChk 8 (b + 19)) = true := by decide +kernel
theorem oChk_8e : ((List.range 5).all fun b => oChk 8 (b + 24)) = true := by decide +kernel
theorem oChk_8f : ((List.range 5).all fun b => oChk 8 (b + 29)) = true := by decide +kernel
theorem oChk_8g : ((List.range 5).all fun b => oChk 8 (b + 34)) = true := by decide +kernel
theorem oChk_8h : ((List.range 5).all fun b => oChk 8 (b + 39)) = true := by decide +kernel
theorem oChk_8 : ((List.range 40).all fun b => oChk 8 (b + 4)) = true := List.all_eq_true.2 fun b hb => by
 have hb := List.mem_range.1 hb
 have key : ∀ c r, ((List.range 5).all fun b => oChk 8 (b + c)) = true → 4 + 5 * r = c → 5 * r ≤ b → b < 5 * r + 5 → oChk 8 (b + 4) = true := fun c r h h1 h2 h3 => by
  have h4 := List.all_eq_true.1 h (b - 5 * r) (List.mem_range.2 xq)
  rwa [show b - 5 * r + c = b + 4 by omega] at h4
 have h : b < 5 ∨ (5 ≤ b ∧ b < 10) ∨ (10 ≤ b ∧ b < 15) ∨ (15 ≤ b ∧ b < 20) ∨ (20 ≤ b ∧ b < 25) ∨ (25 ≤ b ∧ b < 30) ∨ (30 ≤ b ∧ b < 35) ∨ (35 ≤ b ∧ b < 40) := by omega
 rcases h with h | h | h | h | h | h | h | h
 ·exact key _ 0 oChk_8a rfl xq xq
 ·exact key _ 1 oChk_8b rfl xq xq
 ·exact key _ 2 oChk_8c rfl xq xq
 ·exact key _ 3 oChk_8d rfl xq xq
 ·exact key _ 4 oChk_8e rfl xq xq
 ·exact key _ 5 oChk_8f rfl xq xq
 ·exact key _ 6 oChk_8g rfl xq xq
 exact key _ 7 oChk_8h rfl xq xq
theorem oChk_all {n b : Nat} (hn : n < 9) (hn0 : 0 < n) (hb0 : 4 ≤ b) (hb : b < 44) : oChk n b = true := by
 have key : ((List.range 40).all fun b => oChk n (b + 4)) = true := by
  have h : n = 1 ∨ n = 2 ∨ n = 3 ∨ n = 4 ∨ n = 5 ∨ n = 6 ∨ n = 7 ∨ n = 8 := by omega
  rcases h with rfl | rfl | rfl | rfl | rfl | rfl | rfl | rfl
  ·exact oChk_1
  ·exact oChk_2
  ·exact oChk_3
  ·exact oChk_4
  ·exact oChk_5
  ·exact oChk_6
  ·exact oChk_7
  exact oChk_8
 have h1 := List.all_eq_true.1 key (b - 4) (List.mem_range.2 xq)
 rw [show b - 4 + 4 = b by omega] at h1
 exact h1
theorem ot_in {n b i j : Nat} (hn : n < 9) (hb0 : 4 ≤ b) (hb : b < 44) (hi : i < n) (hj : j < n) : inI (otS n b i j n).1 (otS n b i j n).2 (if i = j then 1 else 0) = true := by
 have h := oChk_ok (oChk_all hn xq hb0 hb) hi hj
 rw [oSu_ok hn xq xq hb]
 have e : (if i = j then (1 : Rat) else 0) = gr (b + b + (b + b)) (bif Nat.beq i j then u2 (b + b + (b + b)) else 0) := by
  by_cases hij : i = j
  ·subst hij
   rw [if_pos rfl, show Nat.beq i i = true from Nat.beq_refl i]
   exact (gr_one _).symm
  rw [if_neg hij, show Nat.beq i j = false from by
   cases h9 : Nat.beq i j with
   | true => exact absurd (Nat.eq_of_beq_eq_true h9) hij
   | false => rfl]
  exact (gr_zero _).symm
 rw [e]
 have h1 := gr_mono (w := b + b + (b + b)) h.1
 have h2 := gr_mono (w := b + b + (b + b)) h.2
 obtain ⟨l1, l2⟩ := lo_of_le (Rat.le_trans h1 h2)
 unfold inI
 rw [l1, l2, decide_eq_true h1, decide_eq_true h2]
 rfl
end
end Nt
end Go.Proofs.YtbolmkfphieogaaGreat
namespace Go.Proofs.YtbolmkfphieogaaGreat
open Go.RowKit
theorem Nt.dm_at1 {n b i k : Nat} (hi : i < n) (hk : k < n) : ((Nt.dmM n b).getD i []).getD (2 * k) 0 = (Nt.dmE n b i k).1 := by rw [Nt.dmM_at hi]; exact (Nt.prs_at hk).1
theorem Nt.dm_at2 {n b i k : Nat} (hi : i < n) (hk : k < n) : ((Nt.dmM n b).getD i []).getD (2 * k + 1) 0 = (Nt.dmE n b i k).2 := by rw [Nt.dmM_at hi]; exact (Nt.prs_at hk).2
theorem Nt.lo_le1Q (x y : Rat) : Nt.lo x y ≤ x ∧ Nt.lo x y ≤ y ∧ x ≤ Nt.hi x y ∧ y ≤ Nt.hi x y := by
 unfold Nt.lo Nt.hi; split <;> grind
theorem Nt.lo4_hi4Q (a b c d : Rat) : Nt.lo4 a b c d ≤ Nt.hi4 a b c d := by
 unfold Nt.lo4 Nt.hi4
 first
 | (have h1 := Nt.lo_le1Q a b; have h2 := Nt.lo_le1Q c d; have h3 := Nt.lo_le1Q (Nt.lo a b) (Nt.lo c d); have h4 := Nt.lo_le1Q (Nt.hi a b) (Nt.hi c d); grind)
 | (have h1 := Nt.lo_le1Q a b; have h2 := Nt.lo_le1Q (Nt.lo a b) c; have h3 := Nt.lo_le1Q (Nt.lo (Nt.lo a b) c) d; have h4 := Nt.lo_le1Q (Nt.hi a b) c; have h5 := Nt.lo_le1Q (Nt.hi (Nt.hi a b) c) d; grind)
theorem Nt.ot_le (n b i j : Nat) : ∀ k, (Nt.otS n b i j k).1 ≤ (Nt.otS n b i j k).2
 | 0 => Rat.le_refl
 | k + 1 => by
  have h1 := Nt.ot_le n b i j k
  have h2 := Nt.lo4_hi4Q ((Nt.dmE n b i k).1 * (Nt.dmE n b j k).1) ((Nt.dmE n b i k).1 * (Nt.dmE n b j k).2) ((Nt.dmE n b i k).2 * (Nt.dmE n b j k).1) ((Nt.dmE n b i k).2 * (Nt.dmE n b j k).2)
  unfold Nt.otS
  show _ + _ ≤ _ + _
  grind
theorem Nt.ot_step (n b i j k : Nat) : Nt.lo (Nt.otS n b i j k).1 (Nt.otS n b i j k).2 + Nt.lo (Nt.lo4 ((Nt.dmE n b i k).1 * (Nt.dmE n b j k).1) ((Nt.dmE n b i k).1 * (Nt.dmE n b j k).2) ((Nt.dmE n b i k).2 * (Nt.dmE n b j k).1) ((Nt.dmE n b i k).2 * (Nt.dmE n b j k).2)) (Nt.hi4 ((Nt.dmE n b i k).1 * (Nt.dmE n b j k).1) ((Nt.dmE n b i k).1 * (Nt.dmE n b j k).2) ((Nt.dmE n b i k).2 * (Nt.dmE n b j k).1) ((Nt.dmE n b i k).2 * (Nt.dmE n b j k).2)) = (Nt.otS n b i j (k + 1)).1 ∧
  Nt.hi (Nt.otS n b i j k).1 (Nt.otS n b i j k).2 + Nt.hi (Nt.lo4 ((Nt.dmE n b i k).1 * (Nt.dmE n b j k).1) ((Nt.dmE n b i k).1 * (Nt.dmE n b j k).2) ((Nt.dmE n b i k).2 * (Nt.dmE n b j k).1) ((Nt.dmE n b i k).2 * (Nt.dmE n b j k).2)) (Nt.hi4 ((Nt.dmE n b i k).1 * (Nt.dmE n b j k).1) ((Nt.dmE n b i k).1 * (Nt.dmE n b j k).2) ((Nt.dmE n b i k).2 * (Nt.dmE n b j k).1) ((Nt.dmE n b i k).2 * (Nt.dmE n b j k).2)) = (Nt.otS n b i j (k + 1)).2 := by
 have h1 := Nt.lo_of_le (Nt.ot_le n b i j k)
 have h2 := Nt.lo_of_le (Nt.lo4_hi4Q ((Nt.dmE n b i k).1 * (Nt.dmE n b j k).1) ((Nt.dmE n b i k).1 * (Nt.dmE n b j k).2) ((Nt.dmE n b i k).2 * (Nt.dmE n b j k).1) ((Nt.dmE n b i k).2 * (Nt.dmE n b j k).2))
 rw [h1.1, h1.2, h2.1, h2.2]
 exact ⟨rfl, rfl⟩
set_option maxHeartbeats 8000000 in
theorem w_orthogonal {u w : World} {a1 a2 a3 a4 : Int} (d : Dat u w) (ha10 : -9223372036854775808 ≤ a1) (ha11 : a1 ≤ 9223372036854775807) (ha20 : -9223372036854775808 ≤ a2) (ha21 : a2 ≤ 9223372036854775807) (ha30 : -9223372036854775808 ≤ a3) (ha31 : a3 ≤ 9223372036854775807) (ha40 : -9223372036854775808 ≤ a4) (ha41 : a4 ≤ 9223372036854775807) : Calls Tryz.prog 13 #[.int .i64 a1, .int .i64 a2, .int .i64 a3, .int .i64 a4] w (Post u w fun v _ => v = .bool true) := by
 refine zzl (args := [.int .i64 a1, .int .i64 a2, .int .i64 a3, .int .i64 a4]) Tryz.func13 rfl Tryz.ntmps13 (rs := [.tmp 8]) Tryz.results13 (le_b rfl) (le_b rfl) d ?_
 refine sq9 (zza 8 (zB false) (zzb (sq9 (zza 16 (zI a1) (zzg 17 45 _ fun _ _ _ cT => Post.mono ((show Calls _ _ #[.int .i64 a1, .int .i64 8] _ _ from k_withinN (n := a1) (m := 8) cT xq xq xq xq)) ?_)))))
 rintro _ u14 g15 ⟨ba, rfl, h13⟩
 refine zyp 18 (x := zI (IntKind.i64.wrap ((1 : Int) + (ba : Int)))) (zI (1 + ba : Nat)) (eqI xk) (zza 19 (zI a2) (zzg 20 45 _ fun _ _ _ c4 => Post.mono ((show Calls _ _ #[.int .i64 a2, .int .i64 40] _ _ from k_withinN (n := a2) (m := 40) c4 xq xq xq xq)) ?_))
 rintro _ u20 g21 ⟨bc, rfl, h19⟩
 refine zyp 21 (x := zI (IntKind.i64.wrap ((4 : Int) + (bc : Int)))) (zI (4 + bc : Nat)) (eqI xk) (zza 0 (zI (1 + ba : Nat)) (zza 1 (zI (4 + bc : Nat)) (zzb (zzd ?_))))
 obtain ⟨n, hn⟩ : ∃ n, 1 + ba = n := ⟨_, rfl⟩
 obtain ⟨b, hb⟩ : ∃ b, 4 + bc = b := ⟨_, rfl⟩
 rw [show ((1 + ba : Nat) : Int) = (n : Int) by rw [hn], show ((4 + bc : Nat) : Int) = (b : Int) by rw [hb]]
 refine zzf (zza 23 (zI n) (zza 24 (zI b) (zzg 25 66 _ fun _ _ _ da => Post.mono (k_dmatrix (n := n) (k := b) da xq xq xq (Nt.gapQ_80 xq xq xq)) ?_)))
 rintro _ u25 g26 ⟨ao, ab, ai, rfl, aj, aq⟩
 have bb : ai.length = n := aq.1.trans (Nt.dmM_len n b)
 have ch : ao.n = n := aj.rows.trans bb
 have hRl24 := aj.len
 refine zza 22 (.v (.tuple #[ao.v, .int .i64 0])) (zza 26 (.v (ao.v)) (zza 27 (zI 0) (zza 9 (.v (ao.v)) (zza 10 (zI 0) (zzb (sq9 (zza 29 (zI n) (zza 30 (zI b) (zzg 31 67 _ fun _ _ aw cN => Post.mono (k_r37matrix (n := n) (k := b) cN xq xq xq (Nt.gapQ_80 xq xq xq)) ?_)))))))))
 rintro _ u30 ax ⟨aE, aA, aC, rfl, aD, aF⟩
 have be : aC.length = n := aF.1.trans (Nt.dmM_len n b)
 have ce : aE.n = n := aD.rows.trans be
 have hRl29 := aD.len
 refine zza 28 (.v (.tuple #[aE.v, .int .i64 0])) (zza 32 (.v (aE.v)) (zza 33 (zI 0) (zza 11 (.v (aE.v)) (zza 12 (zI 0) (zzb (zzd (sq9 (zza 34 (zI 0) (zza 35 (zB false) (zza 36 (zB false) (zza 37 (zI 0) ?_ (hw := w1 2 false 36))))))))))))
 refine zza 38 (zB false) ?_ (hw := w1 2 false 36)
 refine zza 39 (zB false) (zza 40 (zB false) (zza 41 (.v (ao.v)) ?_ (hw := w1 6 false 40)))
 refine zza 42 (zI ao.n) ?_ (hw := w1 6 false 40)
 refine zza 43 (zI n) ?_ (hw := w1 6 false 40)
 refine zza 44 (zB ((ao.n : Int) != (n : Int))) ?_ (hw := w1 6 false 40)
 refine zza 45 (zB ((ao.n : Int) != (n : Int))) (zzc 142 [(0, zI n), (2, zI a3), (3, zI a4), (9, .v (ao.v)), (11, .v (aE.v)), (45, zB ((ao.n : Int) != (n : Int)))] [] (zzt (b := (ao.n : Int) != (n : Int)) xj (fun hb => ?_) (fun hb => ?_)))
 ·exact absurd hb (by rw [show ((ao.n : Int) != (n : Int)) = false from (by rw [bne_eq_false_iff_eq]; omega)]; decide)
 clear hb
 refine zzr (zzo ?_)
 refine sq9 (zza 46 (zI a3) (zza 47 (zI n) (zzg 48 45 _ fun _ _ ae cz => Post.mono ((show Calls _ _ #[.int .i64 a3, .int .i64 n] _ _ from k_withinN (n := a3) (m := (n : Int)) cz xq xq xq xq)) ?_)))
 rintro _ u36 ad ⟨aa, rfl, h35⟩
 refine zza 49 (zI a4) (zza 50 (zI n) (zzg 51 45 _ fun _ _ af c2 => Post.mono ((show Calls _ _ #[.int .i64 a4, .int .i64 n] _ _ from k_withinN (n := a4) (m := (n : Int)) c2 xq xq xq xq)) ?_))
 rintro _ u42 ag ⟨ac, rfl, h41⟩
 refine zza 2 (zI aa) (zza 3 (zI ac) (zzb (zzd (sq9 (zza 52 (.v (ao.v)) (zza 53 (zI aa) ?_))))))
 obtain ⟨b45, bF, bN⟩ := MatQ.cell (i := aa) (aj.ext (aw.t (ax.t (ae.t (ad.t (af.t ag.ext)))))) xq
 refine zzz 54 (0 + aa * 1) (n := ao.n) (off := 0) (sz := 1) (i := (aa : Int)) xq bF xq xq sl81 ?_
 have hrw46 := MatQ.row (aj.ext (aw.t (ax.t (ae.t (ad.t (af.t ag.ext)))))) aa xq
 have cw : (ai.getD aa []).length = 2 * n := by rw [MatN.rowlen (aq.ext (aw.t (ax.t (ae.t (ad.t (af.t ag.ext)))))) yw, Nt.dmM_at xq, Nt.dmRow_len]
 have ct : (ab.getD aa sl0).n = n := by have h9 := hrw46.1; rw [zyx] at h9; omega
 refine zyk 55 (.slice (ab.getD aa sl0).a (ab.getD aa sl0).n (ab.getD aa sl0).c) bN ty84 (zza 56 (zI (((ab.getD aa sl0).n : Nat) : Int)) (zza 57 (zI n) (zza 58 (zB ((((ab.getD aa sl0).n : Nat) : Int) != (n : Int))) (zqB 59 (show ((((ab.getD aa sl0).n : Nat) : Int) != (n : Int)) = false from (by rw [bne_eq_false_iff_eq]; omega)) (zza 60 (.v (ao.v)) ?_ (hw := w1 7 false 59))))))
 refine zza 61 (zI ac) ?_ (hw := w1 7 false 59)
 obtain ⟨b48, bW, bH⟩ := MatQ.cell (i := ac) (aj.ext (aw.t (ax.t (ae.t (ad.t (af.t ag.ext)))))) xq
 refine zzz 62 (0 + ac * 1) (n := ao.n) (off := 0) (sz := 1) (i := (ac : Int)) xq bW xq xq sl81 ?_ (hw := w1 7 false 59)
 have hrw49 := MatQ.row (aj.ext (aw.t (ax.t (ae.t (ad.t (af.t ag.ext)))))) ac xq
 have cl : (ai.getD ac []).length = 2 * n := by rw [MatN.rowlen (aq.ext (aw.t (ax.t (ae.t (ad.t (af.t ag.ext)))))) yw, Nt.dmM_at xq, Nt.dmRow_len]
 have cp : (ab.getD ac sl0).n = n := by have h9 := hrw49.1; rw [zyx] at h9; omega
 refine zyk 63 (.slice (ab.getD ac sl0).a (ab.getD ac sl0).n (ab.getD ac sl0).c) bH ty84 ?_ (hw := w1 7 false 59)
 refine zza 64 (zI (((ab.getD ac sl0).n : Nat) : Int)) ?_ (hw := w1 7 false 59)
 refine zza 65 (zI n) ?_ (hw := w1 7 false 59)
 refine zza 66 (zB ((((ab.getD ac sl0).n : Nat) : Int) != (n : Int))) ?_ (hw := w1 7 false 59)
 refine zza 67 (zB ((((ab.getD ac sl0).n : Nat) : Int) != (n : Int))) (zzb (zzt (b := (((ab.getD ac sl0).n : Nat) : Int) != (n : Int)) xj (fun hb => ?_) (fun hb => ?_)))
 ·exact absurd hb (by rw [show ((((ab.getD ac sl0).n : Nat) : Int) != (n : Int)) = false from (by rw [bne_eq_false_iff_eq]; omega)]; decide)
 clear hb
 refine zzr (zzo ?_)
 refine sq9 (zzg 68 30 _ fun _ _ av c6 => Post.mono (k_rqOf c6 (z := 0) xq xq) ?_)
 rintro _ u53 au ⟨r51, rfl, dd⟩
 refine zzg 69 30 _ fun _ _ al cP => Post.mono (k_rqOf cP (z := 0) xq xq) ?_
 rintro _ u59 ap ⟨r57, rfl, dg⟩
 refine zzg 70 38 _ fun _ _ ak c7 => Post.mono (k_r4Make c7 (dd.ext (al.t (ap.t ak))).raw (dg.ext ak).raw xq) ?_
 rintro _ cI ar ⟨cg, cm, rfl, cM, cL⟩
 refine zzj 13 ⟨32, zw6⟩ (zzi ⟨32, cg.cs ++ cm.cs⟩ ty32 ?_)
 refine zzb (zzd (sq9 (zza 14 (zI 0) (zzb (zzs (zym (I := fun cj S' u' => ∃ (k : Nat) (s1 : RL) (s2 : RL), (cj = n - k) ∧ (k ≤ n) ∧ (S' = St.of 142 [(0, zI n), (2, zI aa), (3, zI ac), (9, .v (ao.v)), (11, .v (aE.v)), (13, .adr 13 0), (14, zI k)] [(13, ⟨32, s1.cs ++ s2.cs⟩)]) ∧ (Ext cI u') ∧ (RatN u' s1 (Nt.otS n b aa ac k).1 (2200 * k + 10)) ∧ (RatN u' s2 (Nt.otS n b aa ac k).2 (2200 * k + 10))) (fun m S u1 u2 e h => by obtain ⟨k, s1, s2, hm, p0, hS, hE, f0, f1⟩ := h; exact ⟨k, s1, s2, hm, p0, hS, hE.trans e, f0.ext e, f1.ext e⟩) _ yz ⟨0, cg, cm, rfl, by omega, rfl, (Ext.refl _), (by have h9 := cM; rewrite [Nt.lo_self] at h9; exact RatN.more h9 xq), (by have h9 := cL; rewrite [Nt.hi_self] at h9; exact RatN.more h9 xq)⟩ ?_))))))
 rintro cj _ ci ⟨k, s1, s2, cV, hk, rfl, an, f0, f1⟩
 refine zzd (sq9 (zza 71 (zI k) (zza 72 (zI n) (zza 73 (zB (decide ((k : Int) < (n : Int)))) (zzc 142 [(0, zI n), (2, zI aa), (3, zI ac), (9, .v (ao.v)), (11, .v (aE.v)), (13, .adr 13 0), (14, zI k), (73, zB (decide ((k : Int) < (n : Int))))] [(13, ⟨32, s1.cs ++ s2.cs⟩)] (zzt (b := decide ((k : Int) < (n : Int))) xj (fun a0 => ?_) (fun a0 => ?_)))))))
 ·have qhb71 := of_decide_eq_true a0
  refine zzr (zzo ?_)
  refine zzd (zzs (zzd (zzd (zzy [0, 0, 3, 7, 0, 31, 63, 127, 0, 0, 768, 1792, 0, 7936, 16128, 32512, 65535, 131071, 262143, 524287, 524287, 2097151, 4194303, 524287, 16777215, 33554431, 67108863, 524287, 524287, 403177471, 940048383, 524287, 4161273855, 8456241151, 17046175743, 34359738367, 68719476735, 137438953471] [(0, []), (1, []), (2, []), (3, []), (4, []), (5, []), (6, []), (7, []), (8, []), (9, []), (10, []), (11, []), (12, []), (13, []), (14, []), (15, []), (16, []), (17, []), (18, []), (19, []), (20, []), (21, []), (22, []), (23, []), (24, []), (25, []), (26, []), (27, []), (28, []), (29, []), (30, []), (31, []), (32, []), (33, []), (34, []), (35, []), (36, []), (37, [])] xj xj (zza 76 (.v (ao.v)) (zza 77 (zI aa) ?_))))))
  obtain ⟨b72, bP, cd⟩ := MatQ.cell (i := aa) (aj.ext (aw.t (ax.t (ae.t (ad.t (af.t (ag.t (av.t (au.t (al.t (ap.t (ak.t (ar.t an))))))))))))) xq
  refine zzz 78 (0 + aa * 1) (n := ao.n) (off := 0) (sz := 1) (i := (aa : Int)) xq bP xq xq sl81 ?_
  have hrw73 := MatQ.row (aj.ext (aw.t (ax.t (ae.t (ad.t (af.t (ag.t (av.t (au.t (al.t (ap.t (ak.t (ar.t an))))))))))))) aa xq
  have cn : (ai.getD aa []).length = 2 * n := by rw [MatN.rowlen (aq.ext (aw.t (ax.t (ae.t (ad.t (af.t (ag.t (av.t (au.t (al.t (ap.t (ak.t (ar.t an))))))))))))) yw, Nt.dmM_at xq, Nt.dmRow_len]
  have cr : (ab.getD aa sl0).n = n := by have h9 := hrw73.1; rw [zyx] at h9; omega
  refine zyk 79 (.slice (ab.getD aa sl0).a (ab.getD aa sl0).n (ab.getD aa sl0).c) cd ty84 (zza 80 (zI k) ?_)
  obtain ⟨cQ, b4, a5⟩ := MutQ.el2 (j := k) hrw73 xq
  refine zzz 81 (0 + k * 6) (n := (ab.getD aa sl0).n) (off := 0) (sz := 6) (i := (k : Int)) xq b4 xq xq sl84 (zza 82 (.v (.pointer (some ⟨cQ, 0 + k * 6, none⟩))) ?_)
  obtain ⟨cY, a8⟩ : ∃ r : RL, (ai.getD aa []).getD (2 * k) rl0 = r := ⟨_, rfl⟩
  rw [a8] at a5
  obtain ⟨r77, b5⟩ : ∃ r : RL, (ai.getD aa []).getD (2 * k + 1) rl0 = r := ⟨_, rfl⟩
  rw [b5] at a5
  have hv79 := (by have h9 := MatN.at (i := aa) (j := 2 * k) (aq.ext (aw.t (ax.t (ae.t (ad.t (af.t (ag.t (av.t (au.t (al.t (ap.t (ak.t (ar.t an))))))))))))) yw yy; rewrite [Nt.dm_at1 xq xq] at h9; exact h9)
  rw [a8] at hv79
  refine zyl 83 (cY.cs) (half0_of a5) ty26 (zza 84 (.v (aE.v)) (zza 85 (zI aa) ?_))
  obtain ⟨b80, bZ, b2⟩ := MatQ.cell (i := aa) (aD.ext (ae.t (ad.t (af.t (ag.t (av.t (au.t (al.t (ap.t (ak.t (ar.t an))))))))))) xq
  refine zzz 86 (0 + aa * 1) (n := aE.n) (off := 0) (sz := 1) (i := (aa : Int)) xq bZ xq xq sl81 ?_
  have hrw81 := MatQ.row (aD.ext (ae.t (ad.t (af.t (ag.t (av.t (au.t (al.t (ap.t (ak.t (ar.t an))))))))))) aa xq
  have cu : (aC.getD aa []).length = 2 * n := by rw [MatN.rowlen (aF.ext (ae.t (ad.t (af.t (ag.t (av.t (au.t (al.t (ap.t (ak.t (ar.t an))))))))))) yw, Nt.dmM_at xq, Nt.dmRow_len]
  have cf : (aA.getD aa sl0).n = n := by have h9 := hrw81.1; rw [zyx] at h9; omega
  refine zyk 87 (.slice (aA.getD aa sl0).a (aA.getD aa sl0).n (aA.getD aa sl0).c) b2 ty84 (zza 88 (zI k) ?_)
  obtain ⟨cX, cb, aW⟩ := MutQ.el2 (j := k) hrw81 xq
  refine zzz 89 (0 + k * 6) (n := (aA.getD aa sl0).n) (off := 0) (sz := 6) (i := (k : Int)) xq cb xq xq sl84 (zza 90 (.v (.pointer (some ⟨cX, 0 + k * 6, none⟩))) ?_)
  obtain ⟨c8, bs⟩ : ∃ r : RL, (aC.getD aa []).getD (2 * k) rl0 = r := ⟨_, rfl⟩
  rw [bs] at aW
  obtain ⟨r85, bV⟩ : ∃ r : RL, (aC.getD aa []).getD (2 * k + 1) rl0 = r := ⟨_, rfl⟩
  rw [bV] at aW
  have hv87 := (by have h9 := MatN.at (i := aa) (j := 2 * k) (aF.ext (ae.t (ad.t (af.t (ag.t (av.t (au.t (al.t (ap.t (ak.t (ar.t an))))))))))) yw yy; rewrite [Nt.dm_at1 xq xq] at h9; exact h9)
  rw [bs] at hv87
  refine zyl 91 (c8.cs) (half0_of aW) ty26 (zzg 92 28 _ fun _ _ ay cO => Post.mono (k_rqCompare cO (hv79.ext ay).raw (hv87.ext ay).raw xq xq) ?_)
  rintro _ u89 az rfl
  refine zza 93 (zB ((Nt.cmpQ ((Nt.dmE n b aa k).1) ((Nt.dmE n b aa k).1)) != 0)) (zqB 94 (show ((Nt.cmpQ ((Nt.dmE n b aa k).1) ((Nt.dmE n b aa k).1)) != 0) = false from (Nt.cmpQ_self _)) (zza 95 (.v (ao.v)) ?_ (hw := w1 18 false 94)))
  refine zza 96 (zI aa) ?_ (hw := w1 18 false 94)
  obtain ⟨b93, b1, bw⟩ := MatQ.cell (i := aa) (aj.ext (aw.t (ax.t (ae.t (ad.t (af.t (ag.t (av.t (au.t (al.t (ap.t (ak.t (ar.t (an.t (ay.t az.ext))))))))))))))) xq
  refine zzz 97 (0 + aa * 1) (n := ao.n) (off := 0) (sz := 1) (i := (aa : Int)) xq b1 xq xq sl81 ?_ (hw := w1 18 false 94)
  have hrw94 := MatQ.row (aj.ext (aw.t (ax.t (ae.t (ad.t (af.t (ag.t (av.t (au.t (al.t (ap.t (ak.t (ar.t (an.t (ay.t az.ext))))))))))))))) aa xq
  have cq : (ai.getD aa []).length = 2 * n := by rw [MatN.rowlen (aq.ext (aw.t (ax.t (ae.t (ad.t (af.t (ag.t (av.t (au.t (al.t (ap.t (ak.t (ar.t (an.t (ay.t az.ext))))))))))))))) yw, Nt.dmM_at xq, Nt.dmRow_len]
  have cx : (ab.getD aa sl0).n = n := by have h9 := hrw94.1; rw [zyx] at h9; omega
  refine zyk 98 (.slice (ab.getD aa sl0).a (ab.getD aa sl0).n (ab.getD aa sl0).c) bw ty84 ?_ (hw := w1 18 false 94)
  refine zza 99 (zI k) ?_ (hw := w1 18 false 94)
  obtain ⟨cW, bx, aV⟩ := MutQ.el2 (j := k) hrw94 xq
  refine zzz 100 (0 + k * 6) (n := (ab.getD aa sl0).n) (off := 0) (sz := 6) (i := (k : Int)) xq bx xq xq sl84 ?_ (hw := w1 18 false 94)
  refine zza 101 (.v (.pointer (some ⟨cW, 0 + k * 6 + 3, none⟩))) ?_ (hw := w1 18 false 94)
  obtain ⟨r96, bX⟩ : ∃ r : RL, (ai.getD aa []).getD (2 * k) rl0 = r := ⟨_, rfl⟩
  rw [bX] at aV
  obtain ⟨dc, bp⟩ : ∃ r : RL, (ai.getD aa []).getD (2 * k + 1) rl0 = r := ⟨_, rfl⟩
  rw [bp] at aV
  have hv100 := (by have h9 := MatN.at (i := aa) (j := 2 * k + 1) (aq.ext (aw.t (ax.t (ae.t (ad.t (af.t (ag.t (av.t (au.t (al.t (ap.t (ak.t (ar.t (an.t (ay.t az.ext))))))))))))))) yw yy; rewrite [Nt.dm_at2 xq xq] at h9; exact h9)
  rw [bp] at hv100
  refine zyl 102 (dc.cs) (half1_of aV) ty26 ?_ (hw := w1 18 false 94)
  refine zza 103 (.v (aE.v)) ?_ (hw := w1 18 false 94)
  refine zza 104 (zI aa) ?_ (hw := w1 18 false 94)
  obtain ⟨cB, bg, bq⟩ := MatQ.cell (i := aa) (aD.ext (ae.t (ad.t (af.t (ag.t (av.t (au.t (al.t (ap.t (ak.t (ar.t (an.t (ay.t az.ext))))))))))))) xq
  refine zzz 105 (0 + aa * 1) (n := aE.n) (off := 0) (sz := 1) (i := (aa : Int)) xq bg xq xq sl81 ?_ (hw := w1 18 false 94)
  have hrw102 := MatQ.row (aD.ext (ae.t (ad.t (af.t (ag.t (av.t (au.t (al.t (ap.t (ak.t (ar.t (an.t (ay.t az.ext))))))))))))) aa xq
  have bO : (aC.getD aa []).length = 2 * n := by rw [MatN.rowlen (aF.ext (ae.t (ad.t (af.t (ag.t (av.t (au.t (al.t (ap.t (ak.t (ar.t (an.t (ay.t az.ext))))))))))))) yw, Nt.dmM_at xq, Nt.dmRow_len]
  have bQ : (aA.getD aa sl0).n = n := by have h9 := hrw102.1; rw [zyx] at h9; omega
  refine zyk 106 (.slice (aA.getD aa sl0).a (aA.getD aa sl0).n (aA.getD aa sl0).c) bq ty84 ?_ (hw := w1 18 false 94)
  refine zza 107 (zI k) ?_ (hw := w1 18 false 94)
  obtain ⟨bI, bo, aH⟩ := MutQ.el2 (j := k) hrw102 xq
  refine zzz 108 (0 + k * 6) (n := (aA.getD aa sl0).n) (off := 0) (sz := 6) (i := (k : Int)) xq bo xq xq sl84 ?_ (hw := w1 18 false 94)
  refine zza 109 (.v (.pointer (some ⟨bI, 0 + k * 6 + 3, none⟩))) ?_ (hw := w1 18 false 94)
  obtain ⟨cK, a7⟩ : ∃ r : RL, (aC.getD aa []).getD (2 * k) rl0 = r := ⟨_, rfl⟩
  rw [a7] at aH
  obtain ⟨bY, aN⟩ : ∃ r : RL, (aC.getD aa []).getD (2 * k + 1) rl0 = r := ⟨_, rfl⟩
  rw [aN] at aH
  have hv108 := (by have h9 := MatN.at (i := aa) (j := 2 * k + 1) (aF.ext (ae.t (ad.t (af.t (ag.t (av.t (au.t (al.t (ap.t (ak.t (ar.t (an.t (ay.t az.ext))))))))))))) yw yy; rewrite [Nt.dm_at2 xq xq] at h9; exact h9)
  rw [aN] at hv108
  refine zyl 110 (bY.cs) (half1_of aH) ty26 ?_ (hw := w1 18 false 94)
  refine zzg 111 28 _ (fun _ _ ah bS => Post.mono (k_rqCompare bS (hv100.ext ah).raw (hv108.ext ah).raw xq xq) ?_) (hw := w1 18 false 94)
  rintro _ df am rfl
  refine zza 112 (zB ((Nt.cmpQ ((Nt.dmE n b aa k).2) ((Nt.dmE n b aa k).2)) != 0)) ?_ (hw := w1 18 false 94)
  refine zza 113 (zB ((Nt.cmpQ ((Nt.dmE n b aa k).2) ((Nt.dmE n b aa k).2)) != 0)) (zzc 142 [(0, zI n), (2, zI aa), (3, zI ac), (9, .v (ao.v)), (11, .v (aE.v)), (13, .adr 13 0), (14, zI k), (113, zB ((Nt.cmpQ ((Nt.dmE n b aa k).2) ((Nt.dmE n b aa k).2)) != 0))] [(13, ⟨32, s1.cs ++ s2.cs⟩)] (zzt (b := (Nt.cmpQ ((Nt.dmE n b aa k).2) ((Nt.dmE n b aa k).2)) != 0) xj (fun hb => ?_) (fun hb => ?_)))
  ·exact absurd hb (by rw [show ((Nt.cmpQ ((Nt.dmE n b aa k).2) ((Nt.dmE n b aa k).2)) != 0) = false from (Nt.cmpQ_self _)]; decide)
  clear hb
  refine zzr (zzo ?_)
  refine zzy [0, 0, 0, 6, 14, 0, 62, 126, 0, 0, 768, 1792, 0, 7936, 16128, 32766, 65535, 131071] [(0, []), (1, []), (2, []), (3, []), (4, []), (5, []), (6, []), (7, []), (8, []), (9, []), (10, []), (11, []), (12, []), (13, []), (14, []), (15, []), (16, []), (17, [])] xj xj (zzh 114 (.v (.agg #[.bool s1.s, s1.m.v, s1.d.v, .bool s2.s, s2.m.v, s2.d.v])) ty32 zze (zza 115 (.v (ao.v)) (zza 116 (zI aa) ?_)))
  obtain ⟨cR, bh, bl⟩ := MatQ.cell (i := aa) (aj.ext (aw.t (ax.t (ae.t (ad.t (af.t (ag.t (av.t (au.t (al.t (ap.t (ak.t (ar.t (an.t (ay.t (az.t (ah.t am.ext))))))))))))))))) xq
  refine zzz 117 (0 + aa * 1) (n := ao.n) (off := 0) (sz := 1) (i := (aa : Int)) xq bh xq xq sl81 ?_
  have hrw114 := MatQ.row (aj.ext (aw.t (ax.t (ae.t (ad.t (af.t (ag.t (av.t (au.t (al.t (ap.t (ak.t (ar.t (an.t (ay.t (az.t (ah.t am.ext))))))))))))))))) aa xq
  have bL : (ai.getD aa []).length = 2 * n := by rw [MatN.rowlen (aq.ext (aw.t (ax.t (ae.t (ad.t (af.t (ag.t (av.t (au.t (al.t (ap.t (ak.t (ar.t (an.t (ay.t (az.t (ah.t am.ext))))))))))))))))) yw, Nt.dmM_at xq, Nt.dmRow_len]
  have bz : (ab.getD aa sl0).n = n := by have h9 := hrw114.1; rw [zyx] at h9; omega
  refine zyk 118 (.slice (ab.getD aa sl0).a (ab.getD aa sl0).n (ab.getD aa sl0).c) bl ty84 (zza 119 (zI k) ?_)
  obtain ⟨cF, bk, aG⟩ := MutQ.el2 (j := k) hrw114 xq
  refine zzz 120 (0 + k * 6) (n := (ab.getD aa sl0).n) (off := 0) (sz := 6) (i := (k : Int)) xq bk xq xq sl84 ?_
  obtain ⟨bU, aP⟩ : ∃ r : RL, (ai.getD aa []).getD (2 * k) rl0 = r := ⟨_, rfl⟩
  rw [aP] at aG
  obtain ⟨bM, aO⟩ : ∃ r : RL, (ai.getD aa []).getD (2 * k + 1) rl0 = r := ⟨_, rfl⟩
  rw [aO] at aG
  have hv120 := (by have h9 := MatN.at (i := aa) (j := 2 * k) (aq.ext (aw.t (ax.t (ae.t (ad.t (af.t (ag.t (av.t (au.t (al.t (ap.t (ak.t (ar.t (an.t (ay.t (az.t (ah.t am.ext))))))))))))))))) yw yy; rewrite [Nt.dm_at1 xq xq] at h9; exact h9)
  rw [aP] at hv120
  have hv121 := (by have h9 := MatN.at (i := aa) (j := 2 * k + 1) (aq.ext (aw.t (ax.t (ae.t (ad.t (af.t (ag.t (av.t (au.t (al.t (ap.t (ak.t (ar.t (an.t (ay.t (az.t (ah.t am.ext))))))))))))))))) yw yy; rewrite [Nt.dm_at2 xq xq] at h9; exact h9)
  rw [aO] at hv121
  refine zyl 121 (bU.cs ++ bM.cs) aG ty32 (zza 122 (.v (ao.v)) (zza 123 (zI ac) ?_))
  obtain ⟨cD, bj, bu⟩ := MatQ.cell (i := ac) (aj.ext (aw.t (ax.t (ae.t (ad.t (af.t (ag.t (av.t (au.t (al.t (ap.t (ak.t (ar.t (an.t (ay.t (az.t (ah.t am.ext))))))))))))))))) xq
  refine zzz 124 (0 + ac * 1) (n := ao.n) (off := 0) (sz := 1) (i := (ac : Int)) xq bj xq xq sl81 ?_
  have hrw123 := MatQ.row (aj.ext (aw.t (ax.t (ae.t (ad.t (af.t (ag.t (av.t (au.t (al.t (ap.t (ak.t (ar.t (an.t (ay.t (az.t (ah.t am.ext))))))))))))))))) ac xq
  have b8 : (ai.getD ac []).length = 2 * n := by rw [MatN.rowlen (aq.ext (aw.t (ax.t (ae.t (ad.t (af.t (ag.t (av.t (au.t (al.t (ap.t (ak.t (ar.t (an.t (ay.t (az.t (ah.t am.ext))))))))))))))))) yw, Nt.dmM_at xq, Nt.dmRow_len]
  have bC : (ab.getD ac sl0).n = n := by have h9 := hrw123.1; rw [zyx] at h9; omega
  refine zyk 125 (.slice (ab.getD ac sl0).a (ab.getD ac sl0).n (ab.getD ac sl0).c) bu ty84 (zza 126 (zI k) ?_)
  obtain ⟨de, bf, aJ⟩ := MutQ.el2 (j := k) hrw123 xq
  refine zzz 127 (0 + k * 6) (n := (ab.getD ac sl0).n) (off := 0) (sz := 6) (i := (k : Int)) xq bf xq xq sl84 ?_
  obtain ⟨bB, aQ⟩ : ∃ r : RL, (ai.getD ac []).getD (2 * k) rl0 = r := ⟨_, rfl⟩
  rw [aQ] at aJ
  obtain ⟨ca, aR⟩ : ∃ r : RL, (ai.getD ac []).getD (2 * k + 1) rl0 = r := ⟨_, rfl⟩
  rw [aR] at aJ
  have hv129 := (by have h9 := MatN.at (i := ac) (j := 2 * k) (aq.ext (aw.t (ax.t (ae.t (ad.t (af.t (ag.t (av.t (au.t (al.t (ap.t (ak.t (ar.t (an.t (ay.t (az.t (ah.t am.ext))))))))))))))))) yw yy; rewrite [Nt.dm_at1 xq xq] at h9; exact h9)
  rw [aQ] at hv129
  have hv130 := (by have h9 := MatN.at (i := ac) (j := 2 * k + 1) (aq.ext (aw.t (ax.t (ae.t (ad.t (af.t (ag.t (av.t (au.t (al.t (ap.t (ak.t (ar.t (an.t (ay.t (az.t (ah.t am.ext))))))))))))))))) yw yy; rewrite [Nt.dm_at2 xq xq] at h9; exact h9)
  rw [aR] at hv130
  refine zyl 128 (bB.cs ++ ca.cs) aJ ty32 (zzg 129 68 _ fun _ _ aB bR => Post.mono (k_r4Mul bR (hv120.ext aB).raw (hv121.ext aB).raw (hv129.ext aB).raw (hv130.ext aB).raw xq xq) ?_)
  rintro _ cC a6 ⟨cG, cJ, rfl, bE, b3⟩
  refine zzg 130 43 _ fun _ _ aK bK => Post.mono (k_r4Add bK (f0.ext (ay.t (az.t (ah.t (am.t (aB.t (a6.t aK))))))).raw (f1.ext (ay.t (az.t (ah.t (am.t (aB.t (a6.t aK))))))).raw (bE.ext aK).raw (b3.ext aK).raw xq xq) ?_
  rintro _ c5 b7 ⟨bm, a9, rfl, bv, bJ⟩
  refine zzi ⟨32, bm.cs ++ a9.cs⟩ ty32 ?_
  refine zzw ?_
  refine zzo (zzf (zza 74 (zI k) (zyp 75 (x := zI (IntKind.i64.wrap ((k : Int) + 1))) (zI (k + 1 : Nat)) (eqI xk) (zza 14 (zI (k + 1 : Nat)) (zzw ?_)))))
  have hst := Nt.ot_step n b aa ac k
  refine ⟨_, ?_, _, by exact zzu _ _ _, k + 1, bm, a9, rfl, by omega, rfl, (an.t (ay.t (az.t (ah.t (am.t (aB.t (a6.t (aK.t b7.ext)))))))), (by have h9 := bv; rewrite [hst.1] at h9; exact RatN.more h9 xq), (by have h9 := bJ; rewrite [hst.2] at h9; exact RatN.more h9 xq)⟩
  omega
 have qhb71 := of_decide_eq_false a0
 refine zyb (zzo (zzd ?_))
 have ck : RatN ci s1 (Nt.otS n b aa ac n).1 20000 := by have h9 := f0; rw [show k = n by omega] at h9; exact RatN.more h9 xq
 have cv : RatN ci s2 (Nt.otS n b aa ac n).2 20000 := by have h9 := f1; rw [show k = n by omega] at h9; exact RatN.more h9 xq
 refine zzf (zzg 131 30 _ fun _ _ aM bA => Post.mono (k_rqOf bA (z := 0) xq xq) ?_)
 rintro _ c0 aL ⟨br, rfl, bT⟩
 refine zzj 15 ⟨26, zw3⟩ (zzi ⟨26, br.cs⟩ ty26 ?_)
 refine zzb (zzd (sq9 (zza 132 (zI aa) (zza 133 (zI ac) (zza 134 (zB ((aa : Int) == (ac : Int))) (zzb (zzt (b := (aa : Int) == (ac : Int)) xj (fun aI => ?_) (fun aI => ?_))))))))
 ·refine zzf (zzg 135 30 _ fun _ _ bi b6 => Post.mono (k_rqOf b6 (z := 1) xq xq) ?_)
  rintro _ db bt ⟨bn, rfl, bG⟩
  refine zzi ⟨26, bn.cs⟩ ty26 ?_
  refine zzb (sq9 (zzg 136 51 _ fun _ _ aU cc => Post.mono (k_known37 cc) ?_))
  rintro _ cZ aZ rfl
  refine zza 137 (zB true) (zzh 138 (.v (.agg #[.bool s1.s, s1.m.v, s1.d.v, .bool s2.s, s2.m.v, s2.d.v])) ty32 zze ?_ (hw := w1 1 true 137))
  refine zzh 139 (.v (bn.v)) ty26 zze ?_ (hw := w1 1 true 137)
  refine zzg 140 41 _ (fun _ _ aS bD => Post.mono (k_r4Contains bD (ck.ext (aM.t (aL.t (bi.t (bt.t (aU.t (aZ.t aS))))))).raw (cv.ext (aM.t (aL.t (bi.t (bt.t (aU.t (aZ.t aS))))))).raw (bG.ext (aU.t (aZ.t aS))).raw xq xq) ?_) (hw := w1 1 true 137)
  rintro _ c9 c1 rfl
  refine zza 141 (zB (Nt.inI (Nt.otS n b aa ac n).1 (Nt.otS n b aa ac n).2 ((1 : Int) : Rat))) (zza 8 (zB (Nt.inI (Nt.otS n b aa ac n).1 (Nt.otS n b aa ac n).2 ((1 : Int) : Rat))) (zzb (zzn (ret0 [.bool (Nt.inI (Nt.otS n b aa ac n).1 (Nt.otS n b aa ac n).2 ((1 : Int) : Rat))] ⟨zzp, trivial⟩ fun cS cA => ?_))))
  show Value.bool _ = Value.bool true
  rw [show (Nt.inI (Nt.otS n b aa ac n).1 (Nt.otS n b aa ac n).2 ((1 : Int) : Rat)) = true from (by have h9 := Nt.ot_in (n := n) (b := b) (i := aa) (j := ac) xq xq xq xq xq; rw [if_pos (show aa = ac by have h9 := aI; simp at h9; omega)] at h9; exact h9)]
 refine zzr (zzo ?_)
 refine sq9 (zzg 136 51 _ fun _ _ aT b9 => Post.mono (k_known37 b9) ?_)
 rintro _ cH aX rfl
 refine zza 137 (zB true) (zzh 138 (.v (.agg #[.bool s1.s, s1.m.v, s1.d.v, .bool s2.s, s2.m.v, s2.d.v])) ty32 zze ?_ (hw := w1 1 true 137))
 refine zzh 139 (.v (br.v)) ty26 zze ?_ (hw := w1 1 true 137)
 refine zzg 140 41 _ (fun _ _ aY b0 => Post.mono (k_r4Contains b0 (ck.ext (aM.t (aL.t (aT.t (aX.t aY))))).raw (cv.ext (aM.t (aL.t (aT.t (aX.t aY))))).raw (bT.ext (aT.t (aX.t aY))).raw xq xq) ?_) (hw := w1 1 true 137)
 rintro _ c3 cy rfl
 refine zza 141 (zB (Nt.inI (Nt.otS n b aa ac n).1 (Nt.otS n b aa ac n).2 ((0 : Int) : Rat))) (zza 8 (zB (Nt.inI (Nt.otS n b aa ac n).1 (Nt.otS n b aa ac n).2 ((0 : Int) : Rat))) (zzb (zzn (ret0 [.bool (Nt.inI (Nt.otS n b aa ac n).1 (Nt.otS n b aa ac n).2 ((0 : Int) : Rat))] ⟨zzp, trivial⟩ fun cU cE => ?_))))
 show Value.bool _ = Value.bool true
 rw [show (Nt.inI (Nt.otS n b aa ac n).1 (Nt.otS n b aa ac n).2 ((0 : Int) : Rat)) = true from (by have h9 := Nt.ot_in (n := n) (b := b) (i := aa) (j := ac) xq xq xq xq xq; rw [if_neg (show ¬ aa = ac by have h9 := aI; simp at h9; omega)] at h9; exact h9)]
end Go.Proofs.YtbolmkfphieogaaGreat
