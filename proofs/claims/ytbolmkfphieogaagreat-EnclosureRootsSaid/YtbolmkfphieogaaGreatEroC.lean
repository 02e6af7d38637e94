/- Parts of the proof: contracts of functions, each walked once, and plain laws. -/
import Derived.Test.YtbolmkfphieogaaGreatEroB
import Derived.Test.YtbolmkfphieogaaGreatProg
import Derived.KernelRfl
import Derived.IntWalk
namespace Go.Proofs.YtbolmkfphieogaaGreat
set_option linter.unusedVariables false
namespace Nt
def force {α : Type} (n : Nat) (k : Nat → α) : α := Nat.rec (k 0) (fun m _ => k (m + 1)) n
theorem force_eq {α : Type} (n : Nat) (k : Nat → α) : force n k = k n := by cases n <;> rfl
def cdn (a d : Nat) : Nat := (a + d - 1) / d
theorem cdn_cdiv {a d : Nat} (hd : 0 < d) : ((cdn a d : Nat) : Int) = cdiv (a : Int) (d : Int) := by
 have h1 := cd_mul (b := (a : Int)) (d := (d : Int)) xq
 have h2 := Nat.div_mul_le_self (a + d - 1) d
 have h3 := Nat.lt_div_mul_add (a := a + d - 1) hd
 have e : cdn a d = (a + d - 1) / d := rfl
 rw [← e] at h2 h3
 have k1 : ((cdn a d : Nat) : Int) * (d : Int) < (cdiv (a : Int) (d : Int) + 1) * (d : Int) := by
  rw [Int.add_mul, ← Int.natCast_mul]; omega
 have k2 : cdiv (a : Int) (d : Int) * (d : Int) < (((cdn a d : Nat) : Int) + 1) * (d : Int) := by
  rw [Int.add_mul, ← Int.natCast_mul]; omega
 have k3 := Int.lt_of_mul_lt_mul_right k1 xq
 have k4 := Int.lt_of_mul_lt_mul_right k2 xq
 omega
def sumAB (a : Nat → Rat) : Nat → Rat × Rat
 | 0 => (0, 0)
 | n + 1 => ((sumAB a n).2, (sumAB a n).1 + a n)
theorem alt_AB (a : Nat → Rat) (n : Nat) : alt a n = sgn n * ((sumAB a n).1 - (sumAB a n).2) := by
 induction n with
 | zero => show (0 : Rat) = 1 * (0 - 0); decide +kernel
 | succ n ih =>
  rw [alt_s, ih, sgn_s]
  show _ = -sgn n * ((sumAB a n).2 - ((sumAB a n).1 + a n))
  grind
structure EvS where
 (l h el eh ol oh : Nat)
def EvI (U : Int) (a t : Nat → Rat) (k : Nat) (s : EvS) : Prop := Enc U (s.l : Int) (s.h : Int) (t k) ∧ Enc U (s.el : Int) (s.eh : Int) (sumAB a k).1 ∧ Enc U (s.ol : Int) (s.oh : Int) (sumAB a k).2
def atEv (nn : Nat) (r : Nat) : Nat → Nat → Nat → Nat → Nat → Nat → Nat → EvS :=
 Nat.rec (fun _ l h el eh ol oh => ⟨l, h, el, eh, ol, oh⟩)
  (fun _ ih k l h el eh ol oh =>
   force (l / nn) fun l' => force (cdn h nn) fun h' => force (2 * k + 1) fun d => force (l / d) fun tl => force (cdn h d) fun th =>
   force (el + tl) fun el' => force (eh + th) fun eh' => ih (k + 1) l' h' ol oh el' eh') r
theorem Enc.overN {U : Int} {a b d : Nat} {x : Rat} (h : Enc U (a : Int) (b : Int) x) (hd : 0 < d) : Enc U ((a / d : Nat) : Int) ((cdn b d : Nat) : Int) (x / (d : Rat)) := by
 rw [cdn_cdiv hd]
 exact h.over (d := (d : Int)) xq
theorem atEv_ok {n : Nat} (hn : 0 < n) {U : Int} : ∀ r k l h el eh ol oh, EvI U (atT n) (atP n) k ⟨l, h, el, eh, ol, oh⟩ → EvI U (atT n) (atP n) (k + r) (atEv (n * n) r k l h el eh ol oh) := by
 intro r
 induction r with
 | zero => intro k l h el eh ol oh hi; exact hi
 | succ r ih =>
  intro k l h el eh ol oh hi
  obtain ⟨h1, h2, h3⟩ := hi
  have t : Enc U ((l / (2 * k + 1) : Nat) : Int) ((cdn h (2 * k + 1) : Nat) : Int) (atT n k) := h1.overN xq
  have p : Enc U ((l / (n * n) : Nat) : Int) ((cdn h (n * n) : Nat) : Int) (atP n (k + 1)) := h1.overN (Nat.mul_pos hn hn)
  have e0 : atEv (n * n) (r + 1) k l h el eh ol oh = force (l / (n * n)) fun l' => force (cdn h (n * n)) fun h' => force (2 * k + 1) fun d => force (l / d) fun tl => force (cdn h d) fun th => force (el + tl) fun el' => force (eh + th) fun eh' => atEv (n * n) r (k + 1) l' h' ol oh el' eh' := rfl
  have e : atEv (n * n) (r + 1) k l h el eh ol oh = atEv (n * n) r (k + 1) (l / (n * n)) (cdn h (n * n)) ol oh (el + l / (2 * k + 1)) (eh + cdn h (2 * k + 1)) := by
   rw [e0]; simp only [force_eq]
  rw [show k + (r + 1) = k + 1 + r by omega, e]
  exact ih (k + 1) _ _ _ _ _ _ ⟨p, h3, h2.add t⟩
theorem ev_late {U : Int} {a : Nat → Rat} {k j0 e : Nat} {s : EvS} (hU : 0 < U) (h0 : ∀ j, 0 ≤ a j) (hd : ∀ j, j0 ≤ j → a (j + 1) ≤ a j) (hk : j0 ≤ k) (hk2 : k % 2 = 0) (h1 : Enc U (s.el : Int) (s.eh : Int) (sumAB a k).1) (h2 : Enc U (s.ol : Int) (s.oh : Int) (sumAB a k).2) (he : a k * (U : Rat) ≤ (e : Rat)) : ∀ m, k ≤ m → Enc U ((s.el : Int) - (s.oh : Int) - (e : Int)) ((s.eh : Int) - (s.ol : Int) + (e : Int)) (alt a m) := by
 intro m hm
 have h3 := alt_near h0 hd hk hm
 have h4 := h1.sub h2
 have e4 : (sumAB a k).1 - (sumAB a k).2 = alt a k := by
  rw [alt_AB]; unfold sgn; rw [if_pos hk2, Rat.one_mul]
 rw [e4] at h4
 obtain ⟨g1, g2⟩ := h4
 have hUr := Rat.le_of_lt (castI_pos hU)
 have k3 := Rat.mul_le_mul_of_nonneg_right h3.1 hUr
 have k4 := Rat.mul_le_mul_of_nonneg_right h3.2 hUr
 have ee : (((e : Nat) : Int) : Rat) = (e : Rat) := rfl
 unfold Enc
 rw [Rat.intCast_sub ((s.el : Int) - (s.oh : Int)), Rat.intCast_add, ee]
 constructor <;> grind
def atB (n w r : Nat) : Int × Int :=
 let x := atEv (n * n) r 0 (2 ^ w / n) (cdn (2 ^ w) n) 0 0 0 0
 ((x.el : Int) - (x.oh : Int) - (x.h : Int), (x.eh : Int) - (x.ol : Int) + (x.h : Int))
theorem Enc.zero (U : Int) : Enc U ((0 : Nat) : Int) ((0 : Nat) : Int) 0 := by
 show ((0 : Int) : Rat) ≤ 0 * (U : Rat) ∧ (0 : Rat) * (U : Rat) ≤ ((0 : Int) : Rat)
 rw [Rat.zero_mul]
 exact ⟨Rat.le_refl, Rat.le_refl⟩
theorem atB_ok {n w r : Nat} (hn : 0 < n) (hr : r % 2 = 0) : ∀ m, r ≤ m → Enc (u2 w) (atB n w r).1 (atB n w r).2 (alt (atT n) m) := by
 have h1 : Enc (u2 w) ((2 ^ w / n : Nat) : Int) ((cdn (2 ^ w) n : Nat) : Int) (atP n 0) := Enc.overN (a := 2 ^ w) (b := 2 ^ w) Enc.one hn
 obtain ⟨e2, e3, e4⟩ := atEv_ok hn (U := u2 w) r 0 _ _ _ _ _ _ ⟨h1, Enc.zero _, Enc.zero _⟩
 rw [Nat.zero_add] at e2 e3 e4
 intro m hm
 refine ev_late (u2_pos w) (atT_nn hn) (fun j _ => atT_le hn j) (Nat.zero_le _) hr e3 e4 ?_ m hm
 have hle : atT n r ≤ atP n r := div_le_self (atP_nn hn r) (cast_one xq)
 exact Rat.le_trans (Rat.mul_le_mul_of_nonneg_right hle (Rat.le_of_lt (castI_pos (u2_pos w)))) e2.2
def piB (w r s : Nat) : Int × Int :=
 let a := atB 5 w r
 let b := atB 239 w s
 (a.1 * 16 - b.2 * 4, a.2 * 16 - b.1 * 4)
theorem piB_ok {w r s : Nat} (hr : r % 2 = 0) (hs : s % 2 = 0) : ∀ m, r + s ≤ m → Enc (u2 w) (piB w r s).1 (piB w r s).2 (piN m) := by
 intro m hm
 have e := ((atB_ok (n := 5) (w := w) xw hr m xq).times (n := 16)).sub ((atB_ok (n := 239) (w := w) xw hs m xq).times (n := 4))
 have e2 : piN m = alt (atT 5) m * ((16 : Nat) : Rat) - alt (atT 239) m * ((4 : Nat) : Rat) := by
  unfold piN
  rw [Rat.mul_comm, Rat.mul_comm 4]; rfl
 rw [e2]; exact e
def csEv (U ql qh r : Nat) : Nat → Nat → Nat → Nat → Nat → Nat → Nat → EvS :=
 Nat.rec (fun _ l h el eh ol oh => ⟨l, h, el, eh, ol, oh⟩)
  (fun _ ih k l h el eh ol oh =>
   force ((2 * k + 2) * (2 * k + 1)) fun d => force (l * ql / U / d) fun l' => force (cdn (cdn (h * qh) U) d) fun h' =>
   force (el + l) fun el' => force (eh + h) fun eh' => ih (k + 1) l' h' ol oh el' eh') r
theorem Enc.prodN {U a b c d : Nat} {x y : Rat} (hU : 0 < U) (h : Enc (U : Int) (a : Int) (b : Int) x) (k : Enc (U : Int) (c : Int) (d : Int) y) : Enc (U : Int) ((a * c / U : Nat) : Int) ((cdn (b * d) U : Nat) : Int) (x * y) := by
 rw [cdn_cdiv hU]
 exact h.prod k xq xq xq
theorem csEv_ok {U ql qh : Nat} (hU : 0 < U) {y : Rat} (hq : Enc (U : Int) (ql : Int) (qh : Int) (y * y)) : ∀ r k l h el eh ol oh, EvI (U : Int) (csT y) (csT y) k ⟨l, h, el, eh, ol, oh⟩ → EvI (U : Int) (csT y) (csT y) (k + r) (csEv U ql qh r k l h el eh ol oh) := by
 intro r
 induction r with
 | zero => intro k l h el eh ol oh hi; exact hi
 | succ r ih =>
  intro k l h el eh ol oh hi
  obtain ⟨h1, h2, h3⟩ := hi
  have p : Enc (U : Int) ((l * ql / U / ((2 * k + 2) * (2 * k + 1)) : Nat) : Int) ((cdn (cdn (h * qh) U) ((2 * k + 2) * (2 * k + 1)) : Nat) : Int) (csT y (k + 1)) := (Enc.prodN hU h1 hq).overN (Nat.mul_pos xq xq)
  have e0 : csEv U ql qh (r + 1) k l h el eh ol oh = force ((2 * k + 2) * (2 * k + 1)) fun d => force (l * ql / U / d) fun l' => force (cdn (cdn (h * qh) U) d) fun h' => force (el + l) fun el' => force (eh + h) fun eh' => csEv U ql qh r (k + 1) l' h' ol oh el' eh' := rfl
  have e : csEv U ql qh (r + 1) k l h el eh ol oh = csEv U ql qh r (k + 1) (l * ql / U / ((2 * k + 2) * (2 * k + 1))) (cdn (cdn (h * qh) U) ((2 * k + 2) * (2 * k + 1))) ol oh (el + l) (eh + h) := by
   rw [e0]; simp only [force_eq]
  rw [show k + (r + 1) = k + 1 + r by omega, e]
  exact ih (k + 1) _ _ _ _ _ _ ⟨p, h3, h2.add h1⟩
def csX (U pl ph r p q : Nat) : EvS :=
 force (pl * p / q) fun yl => force (cdn (ph * p) q) fun yh => force (yl * yl / U) fun ql => force (cdn (yh * yh) U) fun qh => csEv U ql qh r 0 U U 0 0 0 0
def xLo (x : EvS) : Int := (x.el : Int) - (x.oh : Int) - (x.h : Int)
def xHi (x : EvS) : Int := (x.eh : Int) - (x.ol : Int) + (x.h : Int)
theorem csX_ok {w pl ph r p q N : Nat} (hpi : ∀ m, N ≤ m → Enc (u2 w) (pl : Int) (ph : Int) (piN m)) (hq : 0 < q) (hp : 2 * p ≤ q) (hr : 1 ≤ r) (hr2 : r % 2 = 0) : ∀ m, max N r ≤ m → Enc (u2 w) (xLo (csX (2 ^ w) pl ph r p q)) (xHi (csX (2 ^ w) pl ph r p q)) (coN p q m) := by
 intro m hm
 have hU : 0 < 2 ^ w := Nat.pow_pos xw
 have hy := csY_b (m := m) hq hp xq
 have hyy : csY p q m * csY p q m ≤ 12 := Rat.le_trans (mulm hy.2 hy.2 hy.1 hy.1) (by decide +kernel)
 have y1 : Enc (((2 ^ w : Nat) : Nat) : Int) ((pl * p / q : Nat) : Int) ((cdn (ph * p) q : Nat) : Int) (csY p q m) := by
  have h1 := (hpi m xq).times (n := p)
  rw [← Int.natCast_mul, ← Int.natCast_mul] at h1
  exact h1.overN hq
 have q1 := Enc.prodN hU y1 y1
 have hE := csEv_ok hU q1 r 0 (2 ^ w) (2 ^ w) 0 0 0 0 ⟨Enc.one, Enc.zero _, Enc.zero _⟩
 rw [Nat.zero_add] at hE
 obtain ⟨e1, e2, e3⟩ := hE
 unfold csX
 simp only [force_eq]
 exact ev_late (u2_pos w) (csT_nn _) (csT_le hyy) hr hr2 e2 e3 e1.2 m xq
end Nt
end Go.Proofs.YtbolmkfphieogaaGreat
namespace Go.Proofs.YtbolmkfphieogaaGreat
set_option linter.unusedVariables false
set_option maxRecDepth 20000
namespace Nt
theorem pi_ev : piB 340 84 24 = (7036365627942155232378451105383714118229498621515162138157626346021022039982006998243213719805928137372, 7036365627942155232378451105383714118229498621515162138157626346021022039982006998243213719805928138852) := by decide +kernel
def pl8 : Nat := 1069028584064966747859680373161870783300
def ph8 : Nat := 1069028584064966747859680373161870783301
theorem pi_340 : ∀ m, 110 ≤ m → Enc (u2 340) 7036365627942155232378451105383714118229498621515162138157626346021022039982006998243213719805928137372 7036365627942155232378451105383714118229498621515162138157626346021022039982006998243213719805928138852 (piN m) := fun m hm => by
 have h := piB_ok (w := 340) (r := 84) (s := 24) xw xw m xq
 rw [pi_ev] at h
 exact h
theorem pi_128 : ∀ m, 110 ≤ m → Enc (u2 128) (pl8 : Int) (ph8 : Int) (piN m) := fun m hm => by
 have h := pi_340 m hm
 have hp := castI_pos (u2_pos 212)
 have e : u2 340 = u2 128 * u2 212 := by rw [← u2_add]
 obtain ⟨h1, h2⟩ := h
 rw [e, Rat.intCast_mul, ← Rat.mul_assoc] at h1 h2
 have k1 : ((pl8 : Int) * u2 212 : Int) ≤ 7036365627942155232378451105383714118229498621515162138157626346021022039982006998243213719805928137372 := by decide +kernel
 have k2 : (7036365627942155232378451105383714118229498621515162138157626346021022039982006998243213719805928138852 : Int) ≤ (ph8 : Int) * u2 212 := by decide +kernel
 have r1 := Rat.le_trans (Rat.intCast_le_intCast.2 k1) h1
 have r2 := Rat.le_trans h2 (Rat.intCast_le_intCast.2 k2)
 rw [Rat.intCast_mul] at r1 r2
 exact ⟨Rat.le_of_mul_le_mul_right r1 hp, Rat.le_of_mul_le_mul_right r2 hp⟩
theorem gap_pi : Gap piN 256 260 := Gap.of ⟨110, pi_340⟩ 363771576891766324280234942777729862653393377328392429958772151117938894466185 xw xw (by decide +kernel) (by decide +kernel)
def cs8 (p q : Nat) : EvS := csX (2 ^ 128) pl8 ph8 16 p q
theorem cs8_ok {p q : Nat} (hq : 0 < q) (hp : 2 * p ≤ q) : ∃ N : Nat, ∀ m, N ≤ m → Enc (u2 128) (xLo (cs8 p q)) (xHi (cs8 p q)) (coN p q m) := ⟨_, csX_ok pi_128 hq hp xw xw⟩
def gapX (B S T : Nat) (x : EvS) : Bool :=
 force (x.el - x.oh - x.h) fun lo => force (x.eh + x.h - x.ol) fun hi => force (lo / T) fun z =>
  Nat.ble 1 lo && (Nat.ble ((z * B + 1) * S) lo && Nat.ble hi ((z * B + B - 1) * S))
def gapB (p q b g : Nat) : Bool := gapX (2 ^ (g - b)) (2 ^ (128 - g)) (2 ^ (128 - b)) (cs8 p q)
theorem gapB_ok {p q b g : Nat} (h : gapB p q b g = true) (hq : 0 < q) (hp : 2 * p ≤ q) (hb : b ≤ g) (hg : g ≤ 128) : Gap (coN p q) b g := by
 unfold gapB gapX at h
 simp only [force_eq, Bool.and_eq_true, Nat.ble_eq] at h
 obtain ⟨h1, h2, h3⟩ := h
 have k := cs8_ok hq hp
 generalize cs8 p q = x at *
 have e1 : xLo x = ((x.el - x.oh - x.h : Nat) : Int) := by unfold xLo; omega
 have e2 : xHi x ≤ ((x.eh + x.h - x.ol : Nat) : Int) := by unfold xHi; omega
 generalize x.el - x.oh - x.h = lo at *
 generalize x.eh + x.h - x.ol = hi at *
 have hB := Nat.pow_pos (n := g - b) (show 0 < 2 by decide)
 refine Gap.of k ((lo / 2 ^ (128 - b) : Nat) : Int) hb hg ?_ ?_
 ·rw [e1]
  have := Int.ofNat_le.2 h2
  rw [Int.natCast_mul, Int.natCast_add, Int.natCast_mul] at this
  exact this
 ·refine Int.le_trans e2 ?_
  have := Int.ofNat_le.2 h3
  rw [Int.natCast_mul, Int.natCast_sub xq, Int.natCast_add, Int.natCast_mul] at this
  exact this
def gapP (b g q n : Nat) : Bool := Nat.rec true (fun p ih => (bif Nat.ble (2 * p + 3) q then bif Nat.beq (3 * p + 3) q then true else gapB (p + 1) q b g else true) && ih) n
def gapN (b g n : Nat) : Bool := Nat.rec true (fun q ih => gapP b g (q + 1) ((q + 1) / 2) && ih) n
theorem gapP_s (b g q n : Nat) : gapP b g q (n + 1) = ((bif Nat.ble (2 * n + 3) q then bif Nat.beq (3 * n + 3) q then true else gapB (n + 1) q b g else true) && gapP b g q n) := rfl
theorem gapN_s (b g n : Nat) : gapN b g (n + 1) = (gapP b g (n + 1) ((n + 1) / 2) && gapN b g n) := rfl
theorem gapP_ok {b g q : Nat} : ∀ n p, gapP b g q n = true → 1 ≤ p → p ≤ n → 2 * p < q → 3 * p ≠ q → gapB p q b g = true := by
 intro n
 induction n with
 | zero => intro p _ h1 h2; omega
 | succ n ih =>
  intro p h h1 h2 h3 h4
  have h' := h
  rw [gapP_s, Bool.and_eq_true] at h'
  by_cases e : p = n + 1
  ·subst e
   have h5 := h'.1
   rw [show Nat.ble (2 * n + 3) q = true by rw [Nat.ble_eq]; omega, show Nat.beq (3 * n + 3) q = false by
    cases hh : Nat.beq (3 * n + 3) q with
    | false => rfl
    | true => exact absurd (Nat.eq_of_beq_eq_true hh) xq, cond_true, cond_false] at h5
   exact h5
  ·exact ih p h'.2 h1 xq h3 h4
theorem gapN_ok {b g : Nat} : ∀ n q, gapN b g n = true → 1 ≤ q → q ≤ n → gapP b g q (q / 2) = true := by
 intro n
 induction n with
 | zero => intro q _ h1 h2; omega
 | succ n ih =>
  intro q h h1 h2
  have h' := h
  rw [gapN_s, Bool.and_eq_true] at h'
  by_cases e : q = n + 1
  ·subst e; exact h'.1
  ·exact ih q h'.2 h1 xq
def GapQ (q b : Nat) : Prop := ∃ g, g ≤ 300 ∧ ∀ p, 1 ≤ p → 2 * p < q → 3 * p ≠ q → Gap (coN p q) b g
theorem gapQ_of {b g n q : Nat} (h : gapN b g n = true) (hb : b ≤ g) (hg : g ≤ 128) (h1 : 1 ≤ q) (hq : q ≤ n) : GapQ q b :=
 ⟨g, by omega, fun p hp1 hp h3 => gapB_ok (gapP_ok _ p (gapN_ok n q h xq hq) hp1 xq hp h3) xq xq hb hg⟩
theorem GapQ.lower {q b c : Nat} (h : GapQ q b) (hc : c ≤ b) : GapQ q c := by
 obtain ⟨g, hg, h⟩ := h
 exact ⟨g, hg, fun p h1 h2 h3 => (h p h1 h2 h3).lower hc⟩
theorem gap_all : gapN 59 70 80 = true := by decide +kernel
theorem gapQ_80 {q b : Nat} (h1 : 1 ≤ q) (hq : q ≤ 80) (hb : b ≤ 59) : GapQ q b := (gapQ_of gap_all xw xw h1 hq).lower hb
end Nt
end Go.Proofs.YtbolmkfphieogaaGreat
namespace Go.Proofs.YtbolmkfphieogaaGreat
set_option linter.unusedVariables false
namespace Nt
section
variable {a1 a2 b1 b2 c1 c2 d1 d2 : Rat}
def hl (a b c d : Rat) : Rat := lo (lo a b) (lo c d)
def hh (a b c d : Rat) : Rat := hi (hi a b) (hi c d)
end
end Nt
end Go.Proofs.YtbolmkfphieogaaGreat
namespace Go.Proofs.YtbolmkfphieogaaGreat
set_option linter.unusedVariables false
namespace Nt
def gr (w : Nat) (a : Int) : Rat := (a : Rat) / (u2 w : Rat)
theorem gr_mul (w : Nat) (a : Int) : gr w a * (u2 w : Rat) = (a : Rat) := div_mul_c (castI_pos (u2_pos w))
section
variable {n w k : Nat} {a b c d : Int}
end
section
variable {p q w k : Nat} {tl th c d ql qh c' d' : Int}
end
end Nt
end Go.Proofs.YtbolmkfphieogaaGreat
namespace Go.Proofs.YtbolmkfphieogaaGreat
set_option linter.unusedVariables false
namespace Nt
open Classical in
noncomputable def flo (X : Nat → Rat) (b : Nat) : Int := if h : ∃ z, FlO X b z then h.choose else 0
theorem FlO.flo {X : Nat → Rat} {b : Nat} {z : Int} (h : FlO X b z) : flo X b = z := by
 have hz : ∃ z, FlO X b z := ⟨z, h⟩
 unfold Nt.flo
 rw [dif_pos hz]
 exact hz.choose_spec.uniq h
def fold (p : Int) (q : Nat) : Nat := let r := (Int.tmod p (2 * (q : Int))).natAbs; if q < r then 2 * q - r else r
theorem fold_le (p : Int) (q : Nat) (hq : 0 < q) : fold p q ≤ q := by
 have h : (Int.tmod p (2 * (q : Int))).natAbs < 2 * q := by
  rw [Int.natAbs_tmod]
  have : (2 * (q : Int)).natAbs = 2 * q := by omega
  rw [this]
  exact Nat.mod_lt _ xq
 unfold fold
 dsimp only
 split <;> omega
noncomputable def cosA (p q b : Nat) : Rat × Rat :=
 if p = 0 then (1, 1) else if 2 * p = q then (0, 0) else if 3 * p = q then (dnQ (1 / 2) b, -dnQ (-(1 / 2)) b)
 else (gr b (flo (coN p q) b), gr b (flo (coN p q) b + 1))
noncomputable def cosF (p q b : Nat) : Rat × Rat := if q < 2 * p then (-(cosA (q - p) q b).2, -(cosA (q - p) q b).1) else cosA p q b
noncomputable def cosV (p : Int) (q b : Nat) : Rat × Rat := cosF (fold p q) q b
end Nt
end Go.Proofs.YtbolmkfphieogaaGreat
namespace Go.Proofs.YtbolmkfphieogaaGreat
set_option linter.unusedVariables false
open Go.RowKit
theorem ty3 : TyIs Tryz.prog 3 false 1 := fun w => ⟨by kernel_rfl, by kernel_rfl⟩
theorem ty4 : TyIs Tryz.prog 4 false 1 := fun w => ⟨by kernel_rfl, by kernel_rfl⟩
theorem ty22 : TyIs Tryz.prog 22 false 1 := fun w => ⟨by kernel_rfl, by kernel_rfl⟩
theorem ty24 : TyIs Tryz.prog 24 true 2 := fun w => ⟨by kernel_rfl, by kernel_rfl⟩
theorem ty26 : TyIs Tryz.prog 26 true 3 := fun w => ⟨by kernel_rfl, by kernel_rfl⟩
theorem ty32 : TyIs Tryz.prog 32 true 6 := fun w => ⟨by kernel_rfl, by kernel_rfl⟩
theorem ty104 : TyIs Tryz.prog 104 false 1 := fun w => ⟨by kernel_rfl, by kernel_rfl⟩
theorem ty147 : TyIs Tryz.prog 147 true 3 := fun w => ⟨by kernel_rfl, by kernel_rfl⟩
theorem ty149 : TyIs Tryz.prog 149 true 4 := fun w => ⟨by kernel_rfl, by kernel_rfl⟩
theorem ty160 : TyIs Tryz.prog 160 true 4 := fun w => ⟨by kernel_rfl, by kernel_rfl⟩
theorem sl22 : SlIs Tryz.prog 22 1 := ⟨104, false, by kernel_rfl, ty104⟩
end Go.Proofs.YtbolmkfphieogaaGreat
namespace Go.Proofs.YtbolmkfphieogaaGreat
open Go.RowKit
set_option linter.unusedVariables false
theorem k_riTrim {u w : World} {i1 : IL} {zN : Int} {K : Nat} (d : Dat u w) (hi1 : IntV u i1 zN K) (hK : K ≤ 500000000) : Calls Tryz.prog 173 #[i1.v] w (Post u w fun v u' => ∃ i : IL, v = i.v ∧ IntN u' i zN K) := by
 obtain ⟨N, hN, hzN⟩ := hi1
 refine zzl (args := [i1.v]) Tryz.func173 rfl Tryz.ntmps173 (rs := [.cell 2 24]) Tryz.results173 (le_b rfl) (le_b rfl) d ?_
 refine sq9 (zzj 1 ⟨24, i1.cs⟩ (zzj 2 ⟨24, [.bool false, .slice none 0 0]⟩ (zzb (sq9 (zza 4 (.adr 1 1) (zzh 5 (.v i1.m.v) ty22 zzk (zzg 6 171 [i1.m.v] ?_)))))))
 intro w11 u11 e11 d11
 have k16 := k_rnTrim d11 (hN.ext e11) xq
 with_reducible refine zPm k16 ?_
 rintro _ u14 g15 ⟨x12, rfl, h13⟩
 refine zza 3 (.v x12.v) (zzb (sq9 (zza 7 (.adr 1 0) (zzh 8 (zB i1.s) ty4 zzk ?_))))
 rcases Bool.eq_false_or_eq_true i1.s with hs17 | hs17
 ·refine zyn 9 (x := zB i1.s) (zB true) (by rw [hs17]) (zza 10 (.v x12.v) ?_ (hw := w1 2 true 9))
  refine zza 11 (zI x12.n) ?_ (hw := w1 2 true 9)
  refine zza 12 (zB (decide ((0 : Int) < (x12.n : Int)))) ?_ (hw := w1 2 true 9)
  refine zza 13 (zB (decide ((0 : Int) < (x12.n : Int)))) (zza 14 (.v x12.v) (zza 15 (.v (.agg #[.bool (decide ((0 : Int) < (x12.n : Int))), x12.v])) (zzi ⟨24, [.bool (decide ((0 : Int) < (x12.n : Int))), x12.v]⟩ ty24 ?_)))
  refine zzb (zzn (ret0 [.agg #[.bool (decide ((0 : Int) < (x12.n : Int))), .slice x12.a x12.n x12.c]] ⟨zzq ty24 zze, trivial⟩ fun u18 e19 => ?_))
  refine ⟨⟨_, x12⟩, rfl, ?_⟩
  rw [hzN, hs17]
  exact signed_int (s := true) (h13.ext e19)
 ·refine zyn 9 (x := zB i1.s) (zB false) (by rw [hs17]) (zzm 10 (uw 2 true false 9) (zzm 11 (uw 2 true false 9) (zzm 12 (uw 2 true false 9) (zza 13 (zB false) (zza 14 (.v x12.v) (zza 15 (.v (.agg #[.bool false, x12.v])) (zzi ⟨24, [.bool false, x12.v]⟩ ty24 ?_)))))))
  refine zzb (zzn (ret0 [.agg #[.bool false, .slice x12.a x12.n x12.c]] ⟨zzq ty24 zze, trivial⟩ fun u20 e21 => ?_))
  refine ⟨⟨_, x12⟩, rfl, ?_⟩
  rw [hzN, hs17]
  exact signed_int (s := false) (h13.ext e21)
theorem k_riSign {u w : World} {i1 : IL} {zN : Int} {K : Nat} (d : Dat u w) (hi1 : IntV u i1 zN K) (hK : K ≤ 500000000) : Calls Tryz.prog 98 #[i1.v] w (Post u w fun v u' => v = .int .i64 (Nt.cmpS zN 0)) := by
 refine zzl (args := [i1.v]) Tryz.func98 rfl Tryz.ntmps98 (rs := [.tmp 2]) Tryz.results98 (le_b rfl) (le_b rfl) d ?_
 refine sq9 (zzj 1 ⟨24, i1.cs⟩ (zza 2 (zI 0) (zzb (sq9 (zzh 3 (.v (i1.v)) ty24 zze (zzg 4 173 [i1.v] ?_))))))
 intro w11 u11 e11 d11
 have k16 := k_riTrim d11 (hi1.ext e11) xq
 with_reducible refine zPm k16 ?_
 rintro _ u14 g15 ⟨i12, rfl, h13⟩
 refine zzi ⟨24, i12.cs⟩ ty24 ?_
 refine zzb (zzd (zzs (sq9 (zza 6 (.adr 1 1) (zzh 7 (.v i12.m.v) ty22 zzk (zza 8 (zI i12.m.n) (zza 9 (zB ((i12.m.n : Int) == 0)) (zza 5 (zB ((i12.m.n : Int) == 0)) (zzb (zzt (b := (i12.m.n : Int) == 0) xj (fun hb17 => ?_) (fun hb17 => ?_)))))))))))
 ·replace hb17 : ((i12.m.n : Int) == 0) = true := hb17
  have qhb17 : (i12.m.n : Int) = 0 := by simpa using hb17
  refine sq9 (zza 2 (zI 0) (zzb (zzn (zyr (zzv (ret0 [.int .i64 0] ⟨zzp, trivial⟩ fun u18 e19 => ?_))))))
  show _ = _
  rw [sign_len h13, if_pos hb17]
  rfl
 ·replace hb17 : ((i12.m.n : Int) == 0) = false := hb17
  have qhb17 : ¬ ((i12.m.n : Int) = 0) := by simpa using hb17
  refine sq9 (zza 11 (.adr 1 0) (zzh 12 (zB i12.s) ty4 zzk (zza 10 (zB i12.s) (zzb (zzt (b := i12.s) xj (fun hb20 => ?_) (fun hb20 => ?_))))))
  ·replace hb20 : i12.s = true := hb20
   refine sq9 (zza 2 (zI (-1)) (zzb (zzn (zyr (zzv (ret0 [.int .i64 (-1)] ⟨zzp, trivial⟩ fun u21 e22 => ?_))))))
   show _ = _
   rw [sign_len h13, if_neg (ne_true_of_eq_false hb17), if_pos hb20]
   rfl
  ·replace hb20 : i12.s = false := hb20
   refine zzr (zzo ?_)
   refine sq9 (zza 2 (zI 1) (zzb (zzn (ret0 [.int .i64 1] ⟨zzp, trivial⟩ fun u23 e24 => ?_))))
   show _ = _
   rw [sign_len h13, if_neg (ne_true_of_eq_false hb17), if_neg (ne_true_of_eq_false hb20)]
   rfl
theorem k_riNeg {u w : World} {i1 : IL} {zN : Int} {K : Nat} (d : Dat u w) (hi1 : IntV u i1 zN K) (hK : K ≤ 500000000) : Calls Tryz.prog 108 #[i1.v] w (Post u w fun v u' => ∃ i : IL, v = i.v ∧ IntN u' i (-zN) K) := by
 refine zzl (args := [i1.v]) Tryz.func108 rfl Tryz.ntmps108 (rs := [.cell 2 24]) Tryz.results108 (le_b rfl) (le_b rfl) d ?_
 refine sq9 (zzj 1 ⟨24, i1.cs⟩ (zzj 2 ⟨24, [.bool false, .slice none 0 0]⟩ (zzb (sq9 (zzh 3 (.v (i1.v)) ty24 zze (zzg 4 173 [i1.v] ?_))))))
 intro w11 u11 e11 d11
 have k16 := k_riTrim d11 (hi1.ext e11) xq
 with_reducible refine zPm k16 ?_
 rintro _ u14 g15 ⟨i12, rfl, h13⟩
 refine zzi ⟨24, i12.cs⟩ ty24 ?_
 refine zzb (sq9 (zza 5 (.adr 1 0) (zzh 6 (zB i12.s) ty4 zzk (zza 7 (zB (!i12.s)) ?_))))
 rcases Bool.eq_false_or_eq_true (!i12.s) with hs17 | hs17
 ·refine zyn 8 (x := zB (!i12.s)) (zB true) (by rw [hs17]) (zza 9 (.adr 1 1) ?_ (hw := w1 3 true 8))
  refine zzh 10 (.v i12.m.v) ty22 zzk ?_ (hw := w1 3 true 8)
  refine zza 11 (zI i12.m.n) ?_ (hw := w1 3 true 8)
  refine zza 12 (zB (decide ((0 : Int) < (i12.m.n : Int)))) ?_ (hw := w1 3 true 8)
  refine zza 13 (zB (decide ((0 : Int) < (i12.m.n : Int)))) (zza 14 (.adr 1 0) (zzi ⟨24, [.bool (decide ((0 : Int) < (i12.m.n : Int))), i12.m.v]⟩ ty4 ?_))
  refine zzb (sq9 (zzh 15 (.v (.agg #[.bool (decide ((0 : Int) < (i12.m.n : Int))), i12.m.v])) ty24 zze (zzi ⟨24, [.bool (decide ((0 : Int) < (i12.m.n : Int))), i12.m.v]⟩ ty24 ?_)))
  refine zzb (zzn (ret0 [.agg #[.bool (decide ((0 : Int) < (i12.m.n : Int))), .slice i12.m.a i12.m.n i12.m.c]] ⟨zzq ty24 zze, trivial⟩ fun u18 e19 => ?_))
  refine ⟨⟨_, i12.m⟩, rfl, ?_⟩
  have h9 := neg_int (h13.ext e19)
  rw [hs17] at h9
  exact h9
 ·refine zyn 8 (x := zB (!i12.s)) (zB false) (by rw [hs17]) (zzm 9 (uw 3 true false 8) (zzm 10 (uw 3 true false 8) (zzm 11 (uw 3 true false 8) (zzm 12 (uw 3 true false 8) (zza 13 (zB false) (zza 14 (.adr 1 0) (zzi ⟨24, [.bool false, i12.m.v]⟩ ty4 ?_)))))))
  refine zzb (sq9 (zzh 15 (.v (.agg #[.bool false, i12.m.v])) ty24 zze (zzi ⟨24, [.bool false, i12.m.v]⟩ ty24 ?_)))
  refine zzb (zzn (ret0 [.agg #[.bool false, .slice i12.m.a i12.m.n i12.m.c]] ⟨zzq ty24 zze, trivial⟩ fun u20 e21 => ?_))
  refine ⟨⟨_, i12.m⟩, rfl, ?_⟩
  have h9 := neg_int (h13.ext e21)
  rw [hs17] at h9
  exact h9
theorem k_riAbs {u w : World} {i1 : IL} {zN : Int} {K : Nat} (d : Dat u w) (hi1 : IntV u i1 zN K) (hK : K ≤ 500000000) : Calls Tryz.prog 91 #[i1.v] w (Post u w fun v u' => ∃ i : IL, v = i.v ∧ IntN u' i (zN.natAbs : Int) K) := by
 refine zzl (args := [i1.v]) Tryz.func91 rfl Tryz.ntmps91 (rs := [.cell 2 24]) Tryz.results91 (le_b rfl) (le_b rfl) d ?_
 refine sq9 (zzj 1 ⟨24, i1.cs⟩ (zzj 2 ⟨24, [.bool false, .slice none 0 0]⟩ (zzb (sq9 (zza 3 (.adr 1 1) (zzh 4 (.v i1.m.v) ty22 zzk (zzg 5 171 [i1.m.v] ?_)))))))
 intro w11 u11 e11 d11
 have k16 := k_rnTrim d11 ((IntV.abs hi1).ext e11) xq
 with_reducible refine zPm k16 ?_
 rintro _ u14 g15 ⟨x12, rfl, h13⟩
 refine zza 6 (.v (.agg #[.bool false, x12.v])) (zzi ⟨24, [.bool false, x12.v]⟩ ty24 ?_)
 refine zzb (zzn (ret0 [.agg #[.bool false, .slice x12.a x12.n x12.c]] ⟨zzq ty24 zze, trivial⟩ fun u17 e18 => ?_))
 exact ⟨(⟨false, x12⟩ : IL), rfl, (nat_intN (h13.ext e18))⟩
set_option maxHeartbeats 1000000 in
theorem k_riAdd {u w : World} {i1 : IL} {zN : Int} {K : Nat} {i2 : IL} {zM : Int} {L : Nat} (d : Dat u w) (hi1 : IntV u i1 zN K) (hi2 : IntV u i2 zM L) (hK : K ≤ 400000000) (hL : L ≤ 400000000) : Calls Tryz.prog 129 #[i1.v, i2.v] w (Post u w fun v u' => ∃ i : IL, v = i.v ∧ IntN u' i (zN + zM) (max K L + 1)) := by
 refine zzl (args := [i1.v, i2.v]) Tryz.func129 rfl Tryz.ntmps129 (rs := [.cell 4 24]) Tryz.results129 (le_b rfl) (le_b rfl) d ?_
 refine sq9 (zzj 2 ⟨24, i1.cs⟩ (zzj 3 ⟨24, i2.cs⟩ (zzj 4 ⟨24, [.bool false, .slice none 0 0]⟩ (zzb (zzd (zzy [0, 1, 0, 7, 15, 31] [(0, []), (2, []), (1, []), (3, []), (4, []), (5, [])] xj xj (zzh 5 (.v (i1.v)) ty24 zze (zzh 7 (.v (i2.v)) ty24 zze (zzg 6 173 [i1.v] ?_)))))))))
 intro w11 u11 e11 d11
 have k16 := k_riTrim d11 (hi1.ext e11) xq
 with_reducible refine zPm k16 ?_
 rintro _ u14 g15 ⟨i12, rfl, h13⟩
 refine zzg 8 173 [i2.v] ?_
 intro w17 u17 e17 d17
 have k22 := k_riTrim d17 (hi2.ext (e11.trans (g15.ext.trans e17))) xq
 with_reducible refine zPm k22 ?_
 rintro _ u20 g21 ⟨i18, rfl, h19⟩
 refine zzi ⟨24, i12.cs⟩ ty24 ?_
 refine zzi ⟨24, i18.cs⟩ ty24 ?_
 refine zzb (zzd (sq9 (zza 9 (.adr 2 0) (zzh 10 (zB i12.s) ty4 zzk (zza 11 (.adr 3 0) (zzh 12 (zB i18.s) ty4 zzk (zza 13 (zB (i12.s == i18.s)) (zzb (zzt (b := i12.s == i18.s) xj (fun hb23 => ?_) (fun hb23 => ?_))))))))))
 ·replace hb23 : (i12.s == i18.s) = true := hb23
  refine zzd (zzy [0, 1, 0, 4, 0, 16, 60, 127, 255, 511] [(0, []), (1, []), (2, []), (3, []), (4, []), (5, []), (6, []), (7, []), (8, []), (9, [])] xj xj (zza 14 (.adr 2 0) (zzh 15 (zB i12.s) ty4 zzk (zza 16 (.adr 2 1) (zzh 17 (.v i12.m.v) ty22 zzk (zza 18 (.adr 3 1) (zzh 19 (.v i18.m.v) ty22 zzk (zzg 20 164 [i12.m.v, i18.m.v] ?_))))))))
  intro w24 u24 e24 d24
  have k29 := k_rnAdd d24 ((int_mag h13).ext (e17.trans (g21.ext.trans e24))).raw ((int_mag h19).ext e24).raw xq xq
  with_reducible refine zPm k29 ?_
  rintro _ u27 g28 ⟨x25, rfl, h26⟩
  refine zza 21 (.v (.agg #[.bool i12.s, x25.v])) (zzg 22 173 [.agg #[.bool i12.s, x25.v]] ?_)
  intro w30 u30 e30 d30
  have k35 := k_riTrim d30 (IntV.same (s := i12.s) (h26.ext e30).raw) xq
  with_reducible refine zPm k35 ?_
  rintro _ u33 g34 ⟨i31, rfl, h32⟩
  refine zzi ⟨24, i31.cs⟩ ty24 ?_
  refine zzb (zzn (zzv (ret0 [i31.v] ⟨zzq ty24 zze, trivial⟩ fun u36 e37 => ?_)))
  refine ⟨i31, rfl, IntN.more (K := (max K L + 1)) ?_ xq⟩
  have h9 : zN + zM = (Nt.sg i12.s ((zN : Int).natAbs + (zM : Int).natAbs)) := by
   rw [Nt.sg_add1 _ _ hb23]
   rw [← IntN.sg h13, ← IntN.sg h19]
  rw [h9]
  exact (h32.ext e37)
 ·replace hb23 : (i12.s == i18.s) = false := hb23
  refine zzr (zzo ?_)
  refine zzd (sq9 (zza 23 (.adr 2 1) (zzh 24 (.v i12.m.v) ty22 zzk (zza 25 (.adr 3 1) (zzh 26 (.v i18.m.v) ty22 zzk (zzg 27 166 [i12.m.v, i18.m.v] ?_))))))
  intro w38 u38 e38 d38
  have k41 := k_rnCompare d38 ((int_mag h13).ext (e17.trans (g21.ext.trans e38))).raw ((int_mag h19).ext e38).raw xq xq
  with_reducible refine zPm k41 ?_
  rintro _ u39 g40 rfl
  refine zza 28 (zB (decide ((0 : Int) ≤ (Nt.cmpS ((zN : Int).natAbs) ((zM : Int).natAbs))))) (zzb (zzt (b := decide ((0 : Int) ≤ (Nt.cmpS ((zN : Int).natAbs) ((zM : Int).natAbs)))) xj (fun hb42 => ?_) (fun hb42 => ?_)))
  ·replace hb42 : (decide ((0 : Int) ≤ (Nt.cmpS ((zN : Int).natAbs) ((zM : Int).natAbs)))) = true := hb42
   have qhb42 := of_decide_eq_true hb42
   refine zzd (zzy [0, 1, 0, 4, 0, 16, 60, 127, 255, 511] [(0, []), (1, []), (2, []), (3, []), (4, []), (5, []), (6, []), (7, []), (8, []), (9, [])] xj xj (zza 29 (.adr 2 0) (zzh 30 (zB i12.s) ty4 zzk (zza 31 (.adr 2 1) (zzh 32 (.v i12.m.v) ty22 zzk (zza 33 (.adr 3 1) (zzh 34 (.v i18.m.v) ty22 zzk (zzg 35 198 [i12.m.v, i18.m.v] ?_))))))))
   intro w43 u43 e43 d43
   have k48 := k_rnSub d43 ((int_mag h13).ext (e17.trans (g21.ext.trans (e38.trans (g40.ext.trans e43))))).raw ((int_mag h19).ext (e38.trans (g40.ext.trans e43))).raw xq xq
   with_reducible refine zPm k48 ?_
   rintro _ u46 g47 ⟨x44, rfl, h45⟩
   refine zza 36 (.v (.agg #[.bool i12.s, x44.v])) (zzg 37 173 [.agg #[.bool i12.s, x44.v]] ?_)
   intro w49 u49 e49 d49
   have k54 := k_riTrim d49 (IntV.same (s := i12.s) (h45.ext e49).raw) xq
   with_reducible refine zPm k54 ?_
   rintro _ u52 g53 ⟨i50, rfl, h51⟩
   refine zzi ⟨24, i50.cs⟩ ty24 ?_
   refine zzb (zzn (zzv (ret0 [i50.v] ⟨zzq ty24 zze, trivial⟩ fun u55 e56 => ?_)))
   refine ⟨i50, rfl, IntN.more (K := K) ?_ xq⟩
   have h9 : zN + zM = (Nt.sg i12.s ((zN : Int).natAbs - (zM : Int).natAbs)) := by
    rw [Nt.sg_add4 _ _ hb23 hb42]
    rw [← IntN.sg h13, ← IntN.sg h19]
   rw [h9]
   exact (h51.ext e56)
  ·replace hb42 : (decide ((0 : Int) ≤ (Nt.cmpS ((zN : Int).natAbs) ((zM : Int).natAbs)))) = false := hb42
   have qhb42 := of_decide_eq_false hb42
   refine zzr (zzo ?_)
   refine zzd (zzy [0, 1, 0, 4, 0, 16, 60, 127, 255, 511] [(0, []), (1, []), (2, []), (3, []), (4, []), (5, []), (6, []), (7, []), (8, []), (9, [])] xj xj (zza 38 (.adr 3 0) (zzh 39 (zB i18.s) ty4 zzk (zza 40 (.adr 3 1) (zzh 41 (.v i18.m.v) ty22 zzk (zza 42 (.adr 2 1) (zzh 43 (.v i12.m.v) ty22 zzk (zzg 44 198 [i18.m.v, i12.m.v] ?_))))))))
   intro w57 u57 e57 d57
   have k62 := k_rnSub d57 ((int_mag h19).ext (e38.trans (g40.ext.trans e57))).raw ((int_mag h13).ext (e17.trans (g21.ext.trans (e38.trans (g40.ext.trans e57))))).raw xq xq
   with_reducible refine zPm k62 ?_
   rintro _ u60 g61 ⟨x58, rfl, h59⟩
   refine zza 45 (.v (.agg #[.bool i18.s, x58.v])) (zzg 46 173 [.agg #[.bool i18.s, x58.v]] ?_)
   intro w63 u63 e63 d63
   have k68 := k_riTrim d63 (IntV.same (s := i18.s) (h59.ext e63).raw) xq
   with_reducible refine zPm k68 ?_
   rintro _ u66 g67 ⟨i64, rfl, h65⟩
   refine zzi ⟨24, i64.cs⟩ ty24 ?_
   refine zzb (zzn (ret0 [i64.v] ⟨zzq ty24 zze, trivial⟩ fun u69 e70 => ?_))
   refine ⟨i64, rfl, IntN.more (K := L) ?_ xq⟩
   have h9 : zN + zM = (Nt.sg i18.s ((zM : Int).natAbs - (zN : Int).natAbs)) := by
    rw [Nt.sg_add5 _ _ hb23 hb42]
    rw [← IntN.sg h13, ← IntN.sg h19]
   rw [h9]
   exact (h65.ext e70)
theorem k_riSub {u w : World} {i1 : IL} {zN : Int} {K : Nat} {i2 : IL} {zM : Int} {L : Nat} (d : Dat u w) (hi1 : IntV u i1 zN K) (hi2 : IntV u i2 zM L) (hK : K ≤ 400000000) (hL : L ≤ 400000000) : Calls Tryz.prog 175 #[i1.v, i2.v] w (Post u w fun v u' => ∃ i : IL, v = i.v ∧ IntN u' i (zN - zM) (max K L + 1)) := by
 refine zzl (args := [i1.v, i2.v]) Tryz.func175 rfl Tryz.ntmps175 (rs := [.cell 4 24]) Tryz.results175 (le_b rfl) (le_b rfl) d ?_
 refine sq9 (zzj 2 ⟨24, i1.cs⟩ (zzj 3 ⟨24, i2.cs⟩ (zzj 4 ⟨24, [.bool false, .slice none 0 0]⟩ (zzb (zzd (zzy [0, 0, 2, 7, 15] [(0, []), (1, []), (2, []), (3, []), (4, [])] xj xj (zzh 5 (.v (i1.v)) ty24 zze (zzh 6 (.v (i2.v)) ty24 zze (zzg 7 108 [i2.v] ?_)))))))))
 intro w11 u11 e11 d11
 have k16 := k_riNeg d11 (hi2.ext e11) xq
 with_reducible refine zPm k16 ?_
 rintro _ u14 g15 ⟨i12, rfl, h13⟩
 refine zzg 8 129 [i1.v, i12.v] ?_
 intro w17 u17 e17 d17
 have k22 := k_riAdd d17 (hi1.ext (e11.trans (g15.ext.trans e17))) (h13.ext e17).raw xq xq
 with_reducible refine zPm k22 ?_
 rintro _ u20 g21 ⟨i18, rfl, h19⟩
 refine zzi ⟨24, i18.cs⟩ ty24 ?_
 refine zzb (zzn (ret0 [i18.v] ⟨zzq ty24 zze, trivial⟩ fun u23 e24 => ?_))
 refine ⟨i18, rfl, ?_⟩
 rw [Int.sub_eq_add_neg]
 exact (h19.ext e24)
theorem k_riCompare {u w : World} {i1 : IL} {zN : Int} {K : Nat} {i2 : IL} {zM : Int} {L : Nat} (d : Dat u w) (hi1 : IntV u i1 zN K) (hi2 : IntV u i2 zM L) (hK : K ≤ 400000000) (hL : L ≤ 400000000) : Calls Tryz.prog 97 #[i1.v, i2.v] w (Post u w fun v u' => v = .int .i64 (Nt.cmpS zN zM)) := by
 refine zzl (args := [i1.v, i2.v]) Tryz.func97 rfl Tryz.ntmps97 (rs := [.tmp 4]) Tryz.results97 (le_b rfl) (le_b rfl) d ?_
 refine sq9 (zzj 2 ⟨24, i1.cs⟩ (zzj 3 ⟨24, i2.cs⟩ (zza 4 (zI 0) (zzb (sq9 (zzh 5 (.v (i1.v)) ty24 zze (zzh 6 (.v (i2.v)) ty24 zze (zzg 7 175 [i1.v, i2.v] ?_))))))))
 intro w11 u11 e11 d11
 have k16 := k_riSub d11 (hi1.ext e11) (hi2.ext e11) xq xq
 with_reducible refine zPm k16 ?_
 rintro _ u14 g15 ⟨i12, rfl, h13⟩
 refine zzg 8 98 [i12.v] ?_
 intro w17 u17 e17 d17
 have k20 := k_riSign d17 (h13.ext e17).raw xq
 with_reducible refine zPm k20 ?_
 rintro _ u18 g19 rfl
 refine zza 4 (zI (Nt.cmpS (zN - zM) 0)) (zzb (zzn (ret0 [.int .i64 (Nt.cmpS (zN - zM) 0)] ⟨zzp, trivial⟩ fun u21 e22 => ?_)))
 show Value.int _ _ = Value.int _ _
 rw [Nt.cmp_self_sub]
theorem k_riMul {u w : World} {i1 : IL} {zN : Int} {K : Nat} {i2 : IL} {zM : Int} {L : Nat} (d : Dat u w) (hi1 : IntV u i1 zN K) (hi2 : IntV u i2 zM L) (hK : K ≤ 250000000) (hL : L ≤ 250000000) : Calls Tryz.prog 94 #[i1.v, i2.v] w (Post u w fun v u' => ∃ i : IL, v = i.v ∧ IntN u' i (zN * zM) (K + L)) := by
 obtain ⟨N, hN, hzN⟩ := hi1
 obtain ⟨M, hM, hzM⟩ := hi2
 refine zzl (args := [i1.v, i2.v]) Tryz.func94 rfl Tryz.ntmps94 (rs := [.cell 4 24]) Tryz.results94 (le_b rfl) (le_b rfl) d ?_
 refine sq9 (zzj 2 ⟨24, i1.cs⟩ (zzj 3 ⟨24, i2.cs⟩ (zzj 4 ⟨24, [.bool false, .slice none 0 0]⟩ (zzb (zzd (zzy [0, 1, 0, 4, 15, 0, 32, 0, 128, 480, 1023, 2047, 4095] [(0, []), (1, []), (2, []), (3, []), (4, []), (5, []), (6, []), (7, []), (8, []), (9, []), (10, []), (11, []), (12, [])] xj xj (zza 5 (.adr 2 0) (zzh 6 (zB i1.s) ty4 zzk (zza 7 (.adr 3 0) (zzh 8 (zB i2.s) ty4 zzk (zza 9 (zB (!(i1.s == i2.s))) ?_)))))))))))
 refine zza 10 (.adr 2 1) (zzh 11 (.v i1.m.v) ty22 zzk (zza 12 (.adr 3 1) (zzh 13 (.v i2.m.v) ty22 zzk (zzg 14 174 [i1.m.v, i2.m.v] ?_))))
 intro w11 u11 e11 d11
 have k16 := k_rnMul d11 (hN.ext e11) (hM.ext e11) xq xq
 with_reducible refine zPm k16 ?_
 rintro _ u14 g15 ⟨x12, rfl, h13⟩
 refine zza 15 (.v (.agg #[.bool (!(i1.s == i2.s)), x12.v])) (zzg 16 173 [.agg #[.bool (!(i1.s == i2.s)), x12.v]] ?_)
 intro w17 u17 e17 d17
 have k22 := k_riTrim d17 (IntV.same (s := !(i1.s == i2.s)) (h13.ext e17).raw) xq
 with_reducible refine zPm k22 ?_
 rintro _ u20 g21 ⟨i18, rfl, h19⟩
 refine zzi ⟨24, i18.cs⟩ ty24 ?_
 refine zzb (zzn (ret0 [i18.v] ⟨zzq ty24 zze, trivial⟩ fun u23 e24 => ?_))
 refine ⟨i18, rfl, IntN.more (K := (K + L)) ?_ xq⟩
 rw [hzN, hzM, ← Nt.sg_mul]
 exact (h19.ext e24)
theorem k_riGcd {u w : World} {i1 : IL} {zN : Int} {K : Nat} {i2 : IL} {zM : Int} {L : Nat} (d : Dat u w) (hi1 : IntV u i1 zN K) (hi2 : IntV u i2 zM L) (hK : K ≤ 500000000) (hL : L ≤ 500000000) : Calls Tryz.prog 172 #[i1.v, i2.v] w (Post u w fun v u' => ∃ i : IL, v = i.v ∧ IntN u' i (Nat.gcd zN.natAbs zM.natAbs : Int) (max K L)) := by
 refine zzl (args := [i1.v, i2.v]) Tryz.func172 rfl Tryz.ntmps172 (rs := [.cell 4 24]) Tryz.results172 (le_b rfl) (le_b rfl) d ?_
 refine sq9 (zzj 2 ⟨24, i1.cs⟩ (zzj 3 ⟨24, i2.cs⟩ (zzj 4 ⟨24, [.bool false, .slice none 0 0]⟩ (zzb (sq9 (zza 5 (.adr 2 1) (zzh 6 (.v i1.m.v) ty22 zzk (zza 7 (.adr 3 1) (zzh 8 (.v i2.m.v) ty22 zzk (zzg 9 225 [i1.m.v, i2.m.v] ?_))))))))))
 intro w11 u11 e11 d11
 have k16 := k_rnGcd d11 ((IntV.abs hi1).ext e11) ((IntV.abs hi2).ext e11) xq xq
 with_reducible refine zPm k16 ?_
 rintro _ u14 g15 ⟨x12, rfl, h13⟩
 refine zza 10 (.v (.agg #[.bool false, x12.v])) (zzi ⟨24, [.bool false, x12.v]⟩ ty24 ?_)
 refine zzb (zzn (ret0 [.agg #[.bool false, .slice x12.a x12.n x12.c]] ⟨zzq ty24 zze, trivial⟩ fun u17 e18 => ?_))
 exact ⟨(⟨false, x12⟩ : IL), rfl, (nat_intN (h13.ext e18))⟩
theorem k_riSame {u w : World} {i1 i2 : IL} {z z' : Int} {K L : Nat} (d : Dat u w) (hi1 : IntN u i1 z K) (hi2 : IntN u i2 z' L) : Calls Tryz.prog 169 #[i1.v, i2.v] w (Post u w fun v _ => v = .bool (decide (z = z'))) := by
 refine zzl (args := [i1.v, i2.v]) Tryz.func169 rfl Tryz.ntmps169 (rs := [.tmp 4]) Tryz.results169 (le_b rfl) (le_b rfl) d ?_
 refine sq9 (zzj 2 ⟨24, i1.cs⟩ (zzj 3 ⟨24, i2.cs⟩ (zza 4 (zB false) (zzb (sq9 (zza 5 (.adr 2 0) (zzh 6 (zB i1.s) ty4 zzk (zza 7 (.adr 3 0) (zzh 8 (zB i2.s) ty4 zzk (zza 9 (zB (i1.s == i2.s)) ?_))))))))))
 rcases Bool.eq_false_or_eq_true (i1.s == i2.s) with hs11 | hs11
 ·refine zyn 10 (x := zB (i1.s == i2.s)) (zB true) (by rw [hs11]) (zza 11 (.adr 2 1) ?_ (hw := w1 5 true 10))
  refine zzh 12 (.v i1.m.v) ty22 zzk ?_ (hw := w1 5 true 10)
  refine zza 13 (.adr 3 1) ?_ (hw := w1 5 true 10)
  refine zzh 14 (.v i2.m.v) ty22 zzk ?_ (hw := w1 5 true 10)
  refine zzg 15 170 [i1.m.v, i2.m.v] ?_ (hw := w1 5 true 10)
  intro w12 u12 e12 d12
  have k15 := k_rnSame d12 ((int_mag hi1).ext e12) ((int_mag hi2).ext e12)
  with_reducible refine zPm k15 ?_
  rintro _ u13 g14 rfl
  refine zza 16 (zB (decide ((z : Int).natAbs = (z' : Int).natAbs))) (zza 4 (zB (decide ((z : Int).natAbs = (z' : Int).natAbs))) (zzb (zzn (ret0 [.bool (decide ((z : Int).natAbs = (z' : Int).natAbs))] ⟨zzp, trivial⟩ fun u16 e17 => ?_))))
  show _ = _
  rw [← same_int hi1 hi2, hs11]
  rfl
 ·refine zyn 10 (x := zB (i1.s == i2.s)) (zB false) (by rw [hs11]) (zzm 11 (uw 5 true false 10) (zzm 12 (uw 5 true false 10) (zzm 13 (uw 5 true false 10) (zzm 14 (uw 5 true false 10) (zzm 15 (uw 5 true false 10) (zza 16 (zB false) (zza 4 (zB false) (zzb (zzn (ret0 [.bool false] ⟨zzp, trivial⟩ fun u18 e19 => ?_))))))))))
  show _ = _
  rw [← same_int hi1 hi2, hs11]
  rfl
theorem k_riOf {u w : World} {z : Int} (d : Dat u w) (h0 : -9223372036854775808 ≤ z) (h1 : z ≤ 9223372036854775807) : Calls Tryz.prog 99 #[.int .i64 z] w (Post u w fun v u' => ∃ i : IL, v = i.v ∧ IntN u' i z 2) := by
 by_cases hneg : z < 0
 ·refine zzl (args := [.int .i64 z]) Tryz.func99 rfl Tryz.ntmps99 (rs := [.cell 2 24]) Tryz.results99 (le_b rfl) (le_b rfl) d ?_
  refine sq9 (zzj 2 ⟨24, [.bool false, .slice none 0 0]⟩ (zzb (zzd (sq9 (zza 4 (zI z) (zyn 5 (x := zB (decide (z < 0))) (zB true) (by rw [show (decide (z < 0)) = true from yv]) (zzb (zyo xj (sq9 (zza 6 (zI z) (zyn 7 (x := zI (IntKind.i64.wrap (z + 1))) (zI (z + 1)) (by rw [show (IntKind.i64.wrap (z + 1)) = (z + 1) from (IntWalk.i64_in _ xq)]) ?_)))))))))))
  refine zyn 8 (x := zI (IntKind.i64.wrap (0 - (z + 1)))) (zI (-z - 1)) (by rw [show (IntKind.i64.wrap (0 - (z + 1))) = (-z - 1) from xk]) (zyn 9 (x := .v (.int .u64 (IntKind.u64.wrap (-z - 1)))) (.v (.int .u64 (-z - 1))) (by rw [show (IntKind.u64.wrap (-z - 1)) = (-z - 1) from (IntWalk.u64_in _ xq)]) (zyn 10 (x := .v (.int .u64 (IntKind.u64.wrap (-z - 1 + 1)))) (.v (.int .u64 (-z))) (by rw [show (IntKind.u64.wrap (-z - 1 + 1)) = (-z) from (by rw [IntWalk.u64_in _ xq]; omega)]) (zza 3 (.v (.int .u64 (-z))) (zzb (sq9 (zza 11 (.v (.int .u64 (-z))) (zyn 12 (x := .v (.int .u32 (IntKind.u32.wrap (-z)))) (.v (.int .u32 ((-z) % 4294967296))) (by rw [show (IntKind.u32.wrap (-z)) = ((-z) % 4294967296) from (IntKind.wrap_u32 _)]) (zza 13 (.v (.int .u64 (-z))) (zyn 14 (x := .v (.int .u64 (Int.fdiv (-z) (2 ^ 32)))) (.v (.int .u64 ((-z) / 4294967296))) (by rw [show (Int.fdiv (-z) (2 ^ 32)) = ((-z) / 4294967296) from (by rw [Int.fdiv_eq_ediv_of_nonneg _ xw]; rfl)]) (zyn 15 (x := .v (.int .u32 (IntKind.u32.wrap ((-z) / 4294967296)))) (.v (.int .u32 ((-z) / 4294967296))) (by rw [show (IntKind.u32.wrap ((-z) / 4294967296)) = ((-z) / 4294967296) from (IntWalk.u32_in _ xq)]) (zxp 16 ⟨104, [.int .u32 ((-z) % 4294967296), .int .u32 ((-z) / 4294967296)]⟩ 2 (fun b11 u12 e13 h14 => ?_))))))))))))
  refine zza 17 (.v (.agg #[.bool true, .slice (some ⟨b11, 0, none⟩) 2 2])) (zzg 18 173 [.agg #[.bool true, .slice (some ⟨b11, 0, none⟩) 2 2]] ?_)
  intro w15 u15 e15 d15
  have k20 := k_riTrim d15 (IntV.same (s := true) ((two_data (N := z.natAbs) h14 xq xq xq).ext e15)) xq
  with_reducible refine zPm k20 ?_
  rintro _ u18 g19 ⟨i16, rfl, h17⟩
  refine zzi ⟨24, i16.cs⟩ ty24 ?_
  refine zzb (zzn (zzv (ret0 [i16.v] ⟨zzq ty24 zze, trivial⟩ fun u21 e22 => ?_)))
  refine ⟨i16, rfl, IntN.more (K := 2) ?_ xq⟩
  have e : z = Nt.sg true z.natAbs := by unfold Nt.sg; simp; omega
  rw [e]
  exact (h17.ext e22)
 ·refine zzl (args := [.int .i64 z]) Tryz.func99 rfl Tryz.ntmps99 (rs := [.cell 2 24]) Tryz.results99 (le_b rfl) (le_b rfl) d ?_
  refine sq9 (zzj 2 ⟨24, [.bool false, .slice none 0 0]⟩ (zzb (zzd (sq9 (zza 4 (zI z) (zyn 5 (x := zB (decide (z < 0))) (zB false) (by rw [show (decide (z < 0)) = false from yv]) (zzb (zyp xj (zzr (zzo ?_))))))))))
  refine sq9 (zza 19 (zI z) (zyn 20 (x := .v (.int .u32 (IntKind.u32.wrap z))) (.v (.int .u32 (z % 4294967296))) (by rw [show (IntKind.u32.wrap z) = (z % 4294967296) from (IntKind.wrap_u32 _)]) (zza 21 (zI z) (zyn 22 (x := .v (.int .u64 (IntKind.u64.wrap z))) (.v (.int .u64 (z))) (by rw [show (IntKind.u64.wrap z) = z from (IntWalk.u64_in _ xq)]) (zyn 23 (x := .v (.int .u64 (Int.fdiv z (2 ^ 32)))) (.v (.int .u64 (z / 4294967296))) (by rw [show (Int.fdiv z (2 ^ 32)) = (z / 4294967296) from (by rw [Int.fdiv_eq_ediv_of_nonneg _ xw]; rfl)]) (zyn 24 (x := .v (.int .u32 (IntKind.u32.wrap (z / 4294967296)))) (.v (.int .u32 (z / 4294967296))) (by rw [show (IntKind.u32.wrap (z / 4294967296)) = (z / 4294967296) from (IntWalk.u32_in _ xq)]) (zxp 25 ⟨104, [.int .u32 (z % 4294967296), .int .u32 (z / 4294967296)]⟩ 2 (fun b11 u12 e13 h14 => ?_))))))))
  refine zza 26 (.v (.agg #[.bool false, .slice (some ⟨b11, 0, none⟩) 2 2])) (zzg 27 173 [.agg #[.bool false, .slice (some ⟨b11, 0, none⟩) 2 2]] ?_)
  intro w15 u15 e15 d15
  have k20 := k_riTrim d15 (nat_int ((two_data (N := z.natAbs) h14 xq xq xq).ext e15)) xq
  with_reducible refine zPm k20 ?_
  rintro _ u18 g19 ⟨i16, rfl, h17⟩
  refine zzi ⟨24, i16.cs⟩ ty24 ?_
  refine zzb (zzn (ret0 [i16.v] ⟨zzq ty24 zze, trivial⟩ fun u21 e22 => ?_))
  refine ⟨i16, rfl, IntN.more (K := 2) ?_ xq⟩
  have e : z = Nt.sg false z.natAbs := by unfold Nt.sg; simp; omega
  rw [e]
  exact (h17.ext e22)
set_option maxHeartbeats 2000000 in
theorem k_riDiv {u w : World} {i1 : IL} {zN : Int} {K : Nat} {i2 : IL} {zM : Int} {L : Nat} (d : Dat u w) (hi1 : IntV u i1 zN K) (hi2 : IntV u i2 zM L) (hM0 : zM ≠ 0) (hK : K ≤ 400000000) (hL : L ≤ 400000000) : Calls Tryz.prog 167 #[i1.v, i2.v] w (Post u w fun v u' => ∃ i j : IL, v = .tuple #[i.v, j.v, .int .i64 0] ∧ IntN u' i (zN / zM) (K + 1) ∧ IntN u' j (zN % zM) L) := by
 have hM : 0 < zM.natAbs := Int.natAbs_pos.2 hM0
 have hL1 : 1 ≤ L := by have h2 := hi2.size; have h3 := Nt.dl_mono (x := zM.natAbs) (y := 1) xq; rw [Nt.dl_one] at h3; omega
 refine zzl (args := [i1.v, i2.v]) Tryz.func167 rfl Tryz.ntmps167 (rs := [.cell 4 24, .cell 5 24, .tmp 6]) Tryz.results167 (le_b rfl) (le_b rfl) d ?_
 refine sq9 (zzj 2 ⟨24, i1.cs⟩ (zzj 3 ⟨24, i2.cs⟩ (zzj 4 ⟨24, [.bool false, .slice none 0 0]⟩ (zzj 5 ⟨24, [.bool false, .slice none 0 0]⟩ (zza 6 (zI 0) (zzb (zzd (zzy [0, 1, 0, 7, 15, 31] [(0, []), (2, []), (1, []), (3, []), (4, []), (5, [])] xj xj (zzh 10 (.v (i1.v)) ty24 zze (zzh 12 (.v (i2.v)) ty24 zze (zzg 11 173 [i1.v] ?_)))))))))))
 intro w11 u11 e11 d11
 have k16 := k_riTrim d11 (hi1.ext e11) xq
 with_reducible refine zPm k16 ?_
 rintro _ u14 g15 ⟨i12, rfl, h13⟩
 refine zzg 13 173 [i2.v] ?_
 intro w17 u17 e17 d17
 have k22 := k_riTrim d17 (hi2.ext (e11.trans (g15.ext.trans e17))) xq
 with_reducible refine zPm k22 ?_
 rintro _ u20 g21 ⟨i18, rfl, h19⟩
 refine zzi ⟨24, i12.cs⟩ ty24 ?_
 refine zzi ⟨24, i18.cs⟩ ty24 ?_
 refine zzb (sq9 (zza 15 (.adr 2 1) (zzh 16 (.v i12.m.v) ty22 zzk (zza 17 (.adr 3 1) (zzh 18 (.v i18.m.v) ty22 zzk (zzg 19 224 [i12.m.v, i18.m.v] ?_))))))
 intro w23 u23 e23 d23
 have k30 := k_rnDivMod d23 ((int_mag h13).ext (e17.trans (g21.ext.trans e23))).raw ((int_mag h19).ext e23).raw hM xq xq
 with_reducible refine zPm k30 ?_
 rintro _ u28 g29 ⟨x24, x25, rfl, h26, h27⟩
 refine zza 14 (.v (.tuple #[x24.v, x25.v, .int .i64 0])) (zza 20 (.v x24.v) (zza 21 (.v x25.v) (zza 22 (zI 0) (zza 7 (.v x24.v) (zza 8 (.v x25.v) (zza 9 (zI 0) (zzb (zzd (sq9 (zza 23 (zI 0) (zza 24 (zB false) ?_)))))))))))
 refine zzb (zyp xj (zzr (zzo ?_)))
 refine zzd (sq9 (zza 28 (.adr 2 0) (zzh 29 (zB i12.s) ty4 zzk ?_)))
 rcases Bool.eq_false_or_eq_true i12.s with hs31 | hs31
 ·refine zyn 30 (x := zB i12.s) (zB true) (by rw [hs31]) (zza 31 (.v x25.v) ?_ (hw := w1 2 true 30))
  refine zza 32 (zI x25.n) ?_ (hw := w1 2 true 30)
  refine zza 33 (zB (decide ((0 : Int) < (x25.n : Int)))) ?_ (hw := w1 2 true 30)
  refine zza 34 (zB (decide ((0 : Int) < (x25.n : Int)))) (zzc 52 [(2, .adr 2 0), (3, .adr 3 0), (4, .adr 4 0), (5, .adr 5 0), (7, .v x24.v), (8, .v x25.v), (34, zB (decide ((0 : Int) < (x25.n : Int))))] [(2, ⟨24, i12.cs⟩), (3, ⟨24, i18.cs⟩), (4, ⟨24, [.bool false, .slice none 0 0]⟩), (5, ⟨24, [.bool false, .slice none 0 0]⟩)] (zzt (b := decide ((0 : Int) < (x25.n : Int))) xj (fun hb32 => ?_) (fun hb32 => ?_)))
  ·replace hb32 : (decide ((0 : Int) < (x25.n : Int))) = true := hb32
   have qhb32 := of_decide_eq_true hb32
   refine zzy [0, 0, 3, 0, 8, 0, 63, 127, 255] [(0, []), (1, []), (3, []), (4, []), (5, []), (2, [36]), (6, []), (7, []), (8, [])] xj xj (zza 35 (.v x24.v) (sy_lit 36 ⟨104, [.int .u32 1]⟩ 1 ?_))
   refine zza 38 (.adr 3 1) (zzh 39 (.v i18.m.v) ty22 zzk (zza 40 (.v x25.v) (zym 37 164 [.v x24.v, .slc 36 0 1 1] [36] (.inr rfl) (pub_mk xz) (k := ?_))))
   intro B33 w33 u33 e33 d33 v33
   have h35 : u33.heap[B33 36]? = some (.cells #[.int .u32 1] 104 (0, 0)) := v33 36 (by simp) _ rfl
   obtain ⟨b34, hBb34⟩ : ∃ b, B33 36 = b := ⟨_, rfl⟩
   rw [hBb34] at h35
   show Calls _ _ #[.slice x24.a x24.n x24.c, .slice (some ⟨B33 36, 0, none⟩) 1 1] _ _
   rw [hBb34]
   have k40 := k_rnAdd d33 (h26.ext e33).raw (one_data h35).raw xq xq
   with_reducible refine zPm k40 ?_
   rintro _ u38 g39 ⟨x36, rfl, h37⟩
   refine zzg 41 198 [i18.m.v, x25.v] ?_
   intro w41 u41 e41 d41
   have k46 := k_rnSub d41 ((int_mag h19).ext (e23.trans (g29.ext.trans (e33.trans (g39.ext.trans e41))))).raw (h27.ext (e33.trans (g39.ext.trans e41))).raw xq xq
   with_reducible refine zPm k46 ?_
   rintro _ u44 g45 ⟨x42, rfl, h43⟩
   refine zza 7 (.v x36.v) (zza 8 (.v x42.v) (zzb (sq9 (zza 42 (.adr 2 0) (zzh 43 (zB i12.s) ty4 zzk (zza 44 (.adr 3 0) (zzh 45 (zB i18.s) ty4 zzk (zza 46 (zB (!(i12.s == i18.s))) (zza 47 (.v x36.v) (zza 48 (.v (.agg #[.bool (!(i12.s == i18.s)), x36.v])) (zzg 49 173 [.agg #[.bool (!(i12.s == i18.s)), x36.v]] ?_)))))))))))
   intro w47 u47 e47 d47
   have k52 := k_riTrim d47 (IntV.same (s := !(i12.s == i18.s)) (h37.ext (e41.trans (g45.ext.trans e47))).raw) xq
   with_reducible refine zPm k52 ?_
   rintro _ u50 g51 ⟨i48, rfl, h49⟩
   refine zza 50 (.v x42.v) (zza 51 (.v (.agg #[.bool false, x42.v])) (zzi ⟨24, i48.cs⟩ ty24 ?_))
   refine zzi ⟨24, [.bool false, x42.v]⟩ ty24 ?_
   refine zza 6 (zI 0) (zzb (zzn (ret0 [i48.v, .agg #[.bool false, .slice x42.a x42.n x42.c], .int .i64 0] ⟨zzq ty24 zze, zzq ty24 zze, zzp, trivial⟩ fun u53 e54 => ?_)))
   have hs := h13.1
   have ht := h19.1
   have hr := h27.pos
   have qhs31 := hs31
   have qhb32 := hb32
   have key := Nt.ediv_neg' zN zM rfl rfl hM (by rw [hs] at hs31; simpa using hs31) (by simp at hb32; omega)
   have hK1 : 1 ≤ K := by have h2 := hi1.size; have h3 := (Nt.dl_pos (x := zN.natAbs)).2 (by rw [hs] at hs31; simp at hs31; omega); omega
   rw [← hs, ← ht] at key
   refine ⟨i48, (⟨false, x42⟩ : IL), rfl, IntN.more (K := (max K 1 + 1)) ?_ xq, IntN.more (K := L) ?_ xq⟩
   ·rw [key.1]; exact (h49.ext e54)
   ·rw [key.2]; exact (nat_intN (h43.ext (e47.trans (g51.ext.trans e54))))
  ·replace hb32 : (decide ((0 : Int) < (x25.n : Int))) = false := hb32
   have qhb32 := of_decide_eq_false hb32
   refine zzr (zzo ?_)
   refine sq9 (zza 42 (.adr 2 0) (zzh 43 (zB i12.s) ty4 zzk (zza 44 (.adr 3 0) (zzh 45 (zB i18.s) ty4 zzk (zza 46 (zB (!(i12.s == i18.s))) (zza 47 (.v x24.v) (zza 48 (.v (.agg #[.bool (!(i12.s == i18.s)), x24.v])) (zzg 49 173 [.agg #[.bool (!(i12.s == i18.s)), x24.v]] ?_))))))))
   intro w55 u55 e55 d55
   have k60 := k_riTrim d55 (IntV.same (s := !(i12.s == i18.s)) (h26.ext e55).raw) xq
   with_reducible refine zPm k60 ?_
   rintro _ u58 g59 ⟨i56, rfl, h57⟩
   refine zza 50 (.v x25.v) (zza 51 (.v (.agg #[.bool false, x25.v])) (zzi ⟨24, i56.cs⟩ ty24 ?_))
   refine zzi ⟨24, [.bool false, x25.v]⟩ ty24 ?_
   refine zza 6 (zI 0) (zzb (zzn (ret0 [i56.v, .agg #[.bool false, .slice x25.a x25.n x25.c], .int .i64 0] ⟨zzq ty24 zze, zzq ty24 zze, zzp, trivial⟩ fun u61 e62 => ?_)))
   have hs := h13.1
   have ht := h19.1
   have hr := h27.pos
   have qhs31 := hs31
   have qhb32 := hb32
   have key := Nt.ediv_pos zN zM rfl rfl hM (fun hc => by simp at hb32; omega)
   rw [← hs, ← ht] at key
   refine ⟨i56, (⟨false, x25⟩ : IL), rfl, IntN.more (K := K) ?_ xq, IntN.more (K := L) ?_ xq⟩
   ·rw [key.1]; exact (h57.ext e62)
   ·rw [key.2]; exact (nat_intN (h27.ext (e55.trans (g59.ext.trans e62))))
 ·refine zyn 30 (x := zB i12.s) (zB false) (by rw [hs31]) (zzm 31 (uw 2 true false 30) (zzm 32 (uw 2 true false 30) (zzm 33 (uw 2 true false 30) (zza 34 (zB false) (zzc 52 [(2, .adr 2 0), (3, .adr 3 0), (4, .adr 4 0), (5, .adr 5 0), (7, .v x24.v), (8, .v x25.v), (34, zB false)] [(2, ⟨24, i12.cs⟩), (3, ⟨24, i18.cs⟩), (4, ⟨24, [.bool false, .slice none 0 0]⟩), (5, ⟨24, [.bool false, .slice none 0 0]⟩)] (zyp xj (zzr (zzo ?_))))))))
  refine sq9 (zza 42 (.adr 2 0) (zzh 43 (zB i12.s) ty4 zzk (zza 44 (.adr 3 0) (zzh 45 (zB i18.s) ty4 zzk (zza 46 (zB (!(i12.s == i18.s))) (zza 47 (.v x24.v) (zza 48 (.v (.agg #[.bool (!(i12.s == i18.s)), x24.v])) (zzg 49 173 [.agg #[.bool (!(i12.s == i18.s)), x24.v]] ?_))))))))
  intro w63 u63 e63 d63
  have k68 := k_riTrim d63 (IntV.same (s := !(i12.s == i18.s)) (h26.ext e63).raw) xq
  with_reducible refine zPm k68 ?_
  rintro _ u66 g67 ⟨i64, rfl, h65⟩
  refine zza 50 (.v x25.v) (zza 51 (.v (.agg #[.bool false, x25.v])) (zzi ⟨24, i64.cs⟩ ty24 ?_))
  refine zzi ⟨24, [.bool false, x25.v]⟩ ty24 ?_
  refine zza 6 (zI 0) (zzb (zzn (ret0 [i64.v, .agg #[.bool false, .slice x25.a x25.n x25.c], .int .i64 0] ⟨zzq ty24 zze, zzq ty24 zze, zzp, trivial⟩ fun u69 e70 => ?_)))
  have hs := h13.1
  have ht := h19.1
  have hr := h27.pos
  have qhs31 := hs31
  have key := Nt.ediv_pos zN zM rfl rfl hM (fun hc => by rw [hs] at hs31; simp at hs31; omega)
  rw [← hs, ← ht] at key
  refine ⟨i64, (⟨false, x25⟩ : IL), rfl, IntN.more (K := K) ?_ xq, IntN.more (K := L) ?_ xq⟩
  ·rw [key.1]; exact (h65.ext e70)
  ·rw [key.2]; exact (nat_intN (h27.ext (e63.trans (g67.ext.trans e70))))
set_option maxHeartbeats 2000000 in
theorem k_reduce {u w : World} {i1 i2 : IL} {z y : Int} {K L : Nat} (d : Dat u w) (hi1 : IntV u i1 z K) (hi2 : IntV u i2 y L) (hK : K ≤ 400000000) (hL : L ≤ 400000000) : Calls Tryz.prog 93 #[i1.v, i2.v] w (Post u w fun v u' => ∃ r : RL, v = r.v ∧ RatN u' r ((z : Rat) / (y : Rat)) (max K L + 1)) := by
 refine zzl (args := [i1.v, i2.v]) Tryz.func93 rfl Tryz.ntmps93 (rs := [.cell 4 26]) Tryz.results93 (le_b rfl) (le_b rfl) d ?_
 refine sq9 (zzj 2 ⟨24, i1.cs⟩ (zzj 3 ⟨24, i2.cs⟩ (zzj 4 ⟨26, [.bool false, .slice none 0 0, .slice none 0 0]⟩ (zzb (zzd (sq9 (zzh 12 (.v (i1.v)) ty24 zze (zzg 13 98 [i1.v] ?_))))))))
 intro w11 u11 e11 d11
 have k14 := k_riSign d11 (hi1.ext e11) xq
 with_reducible refine zPm k14 ?_
 rintro _ u12 g13 rfl
 refine zza 14 (zB ((Nt.cmpS z 0) == 0)) ?_
 rcases Bool.eq_false_or_eq_true ((Nt.cmpS z 0) == 0) with hs15 | hs15
 ·refine zyn 15 (x := zB ((Nt.cmpS z 0) == 0)) (zB true) (by rw [hs15]) ?_
  have hz0 : z = 0 := Nt.cmp_eq0 hs15
  refine zzm 16 (uw 3 false true 15) (zzm 17 (uw 3 false true 15) (zzm 18 (uw 3 false true 15) (zza 19 (zB true) (zzb (zyo xj (sq9 (zxp 20 ⟨104, [.int .u32 1]⟩ 1 (fun b16 u17 e18 h19 => ?_))))))))
  refine zza 21 (.v (.agg #[.bool false, .slice none 0 0, .slice (some ⟨b16, 0, none⟩) 1 1])) (zzi ⟨26, [.bool false, .slice none 0 0, .slice (some ⟨b16, 0, none⟩) 1 1]⟩ ty26 ?_)
  refine zzb (zzn (zzv (ret0 [.agg #[.bool false, .slice none 0 0, .slice (some ⟨b16, 0, none⟩) 1 1]] ⟨zzq ty26 zze, trivial⟩ fun u20 e21 => ?_)))
  refine ⟨(⟨false, ⟨none, 0, 0⟩, (⟨some ⟨b16, 0, none⟩, 1, 1⟩ : Sl)⟩ : RL), rfl, ?_⟩
  have h9 : (z : Rat) / (y : Rat) = ((0 : Int) : Rat) := by rw [hz0]; simp [Rat.div_def]
  rw [h9]
  exact RatN.more (whole_rat (int_zero _ 1) ((one_data h19).ext e21)) xq
 ·refine zyn 15 (x := zB ((Nt.cmpS z 0) == 0)) (zB false) (by rw [hs15]) ?_
  have hz0 : z ≠ 0 := Nt.cmp_ne0 hs15
  refine zzh 16 (.v (i2.v)) ty24 zze ?_ (hw := w1 3 false 15)
  refine zzg 17 98 [i2.v] ?_ (hw := w1 3 false 15)
  intro w22 u22 e22 d22
  have k25 := k_riSign d22 (hi2.ext (e11.trans (g13.ext.trans e22))) xq
  with_reducible refine zPm k25 ?_
  rintro _ u23 g24 rfl
  refine zza 18 (zB ((Nt.cmpS y 0) == 0)) ?_ (hw := w1 3 false 15)
  refine zza 19 (zB ((Nt.cmpS y 0) == 0)) (zzb (zzt (b := (Nt.cmpS y 0) == 0) xj (fun hb26 => ?_) (fun hb26 => ?_)))
  ·replace hb26 : ((Nt.cmpS y 0) == 0) = true := hb26
   have hy0 : y = 0 := Nt.cmp_eq0 hb26
   refine sq9 (zxp 20 ⟨104, [.int .u32 1]⟩ 1 (fun b27 u28 e29 h30 => ?_))
   refine zza 21 (.v (.agg #[.bool false, .slice none 0 0, .slice (some ⟨b27, 0, none⟩) 1 1])) (zzi ⟨26, [.bool false, .slice none 0 0, .slice (some ⟨b27, 0, none⟩) 1 1]⟩ ty26 ?_)
   refine zzb (zzn (zzv (ret0 [.agg #[.bool false, .slice none 0 0, .slice (some ⟨b27, 0, none⟩) 1 1]] ⟨zzq ty26 zze, trivial⟩ fun u31 e32 => ?_)))
   refine ⟨(⟨false, ⟨none, 0, 0⟩, (⟨some ⟨b27, 0, none⟩, 1, 1⟩ : Sl)⟩ : RL), rfl, ?_⟩
   have h9 : (z : Rat) / (y : Rat) = ((0 : Int) : Rat) := by rw [hy0]; simp [Rat.div_def]
   rw [h9]
   exact RatN.more (whole_rat (int_zero _ 1) ((one_data h30).ext e32)) xq
  ·replace hb26 : ((Nt.cmpS y 0) == 0) = false := hb26
   have hy0 : y ≠ 0 := Nt.cmp_ne0 hb26
   have hg0 : ((Nat.gcd z.natAbs y.natAbs : Nat) : Int) ≠ 0 := by have h9 := Nat.gcd_pos_of_pos_right z.natAbs (Int.natAbs_pos.2 hy0); omega
   refine zzr (zzo ?_)
   refine sq9 (zzh 22 (.v (i1.v)) ty24 zze (zzh 23 (.v (i2.v)) ty24 zze (zzg 24 172 [i1.v, i2.v] ?_)))
   intro w33 u33 e33 d33
   have k38 := k_riGcd d33 (hi1.ext (e11.trans (g13.ext.trans (e22.trans (g24.ext.trans e33))))) (hi2.ext (e11.trans (g13.ext.trans (e22.trans (g24.ext.trans e33))))) xq xq
   with_reducible refine zPm k38 ?_
   rintro _ u36 g37 ⟨i34, rfl, h35⟩
   refine zzj 5 ⟨24, [.bool false, .slice none 0 0]⟩ (zzi ⟨24, i34.cs⟩ ty24 ?_)
   refine zzb (sq9 (zzh 26 (.v (i1.v)) ty24 zze (zzh 27 (.v (i34.v)) ty24 zze (zzg 28 167 [i1.v, i34.v] ?_))))
   intro w39 u39 e39 d39
   have k46 := k_riDiv d39 (hi1.ext (e11.trans (g13.ext.trans (e22.trans (g24.ext.trans (e33.trans (g37.ext.trans e39))))))) (h35.ext e39).raw hg0 xq xq
   with_reducible refine zPm k46 ?_
   rintro _ u44 g45 ⟨i40, i42, rfl, h41, h43⟩
   refine zza 25 (.v (.tuple #[i40.v, i42.v, .int .i64 0])) (zza 29 (.v (i40.v)) (zza 30 (.v (i42.v)) (zza 31 (zI 0) (zzj 6 ⟨24, [.bool false, .slice none 0 0]⟩ (zzj 7 ⟨24, [.bool false, .slice none 0 0]⟩ (zzi ⟨24, i40.cs⟩ ty24 ?_))))))
   refine zzi ⟨24, i42.cs⟩ ty24 ?_
   refine zza 8 (zI 0) (zzb (sq9 (zzh 33 (.v (i2.v)) ty24 zze (zzh 34 (.v (i34.v)) ty24 zze (zzg 35 167 [i2.v, i34.v] ?_)))))
   intro w47 u47 e47 d47
   have k54 := k_riDiv d47 (hi2.ext (e11.trans (g13.ext.trans (e22.trans (g24.ext.trans (e33.trans (g37.ext.trans (e39.trans (g45.ext.trans e47))))))))) (h35.ext (e39.trans (g45.ext.trans e47))).raw hg0 xq xq
   with_reducible refine zPm k54 ?_
   rintro _ u52 g53 ⟨i48, i50, rfl, h49, h51⟩
   refine zza 32 (.v (.tuple #[i48.v, i50.v, .int .i64 0])) (zza 36 (.v (i48.v)) (zza 37 (.v (i50.v)) (zza 38 (zI 0) (zzj 9 ⟨24, [.bool false, .slice none 0 0]⟩ (zzj 10 ⟨24, [.bool false, .slice none 0 0]⟩ (zzi ⟨24, i48.cs⟩ ty24 ?_))))))
   refine zzi ⟨24, i50.cs⟩ ty24 ?_
   refine zza 11 (zI 0) (zzc 47 [(4, .adr 4 0), (6, .adr 6 0), (9, .adr 9 0)] [(4, ⟨26, [.bool false, .slice none 0 0, .slice none 0 0]⟩), (6, ⟨24, i40.cs⟩), (9, ⟨24, i48.cs⟩)] (zzd (sq9 (zza 39 (.adr 9 0) (zzh 40 (zB i48.s) ty4 zzk (zzb (zzt (b := i48.s) xj (fun hb55 => ?_) (fun hb55 => ?_))))))))
   ·replace hb55 : i48.s = true := hb55
    refine zzf (zzh 41 (.v (i40.v)) ty24 zze (zzg 42 108 [i40.v] ?_))
    intro w56 u56 e56 d56
    have k61 := k_riNeg d56 (h41.ext (e47.trans (g53.ext.trans e56))).raw xq
    with_reducible refine zPm k61 ?_
    rintro _ u59 g60 ⟨i57, rfl, h58⟩
    refine zzi ⟨24, i57.cs⟩ ty24 ?_
    refine zzb (sq9 (zzh 43 (.v (i57.v)) ty24 zze (zza 44 (.adr 9 1) (zzh 45 (.v i48.m.v) ty22 zzk (zza 46 (.v (.agg #[.bool i57.s, i57.m.v, i48.m.v])) (zzi ⟨26, i57.cs ++ [i48.m.v]⟩ ty26 ?_))))))
    refine zzb (zzn (ret0 [.agg #[.bool i57.s, .slice i57.m.a i57.m.n i57.m.c, .slice i48.m.a i48.m.n i48.m.c]] ⟨zzq ty26 zze, trivial⟩ fun u62 e63 => ?_))
    refine ⟨(⟨i57.s, i57.m, i48.m⟩ : RL), rfl, RatN.more (red_neg hy0 rfl (h58.ext e63) h49 hb55 ((int_mag h49).ext (e56.trans (g60.ext.trans e63)))) xq⟩
   ·replace hb55 : i48.s = false := hb55
    refine zzr (zzo ?_)
    refine sq9 (zzh 43 (.v (i40.v)) ty24 zze (zza 44 (.adr 9 1) (zzh 45 (.v i48.m.v) ty22 zzk (zza 46 (.v (.agg #[.bool i40.s, i40.m.v, i48.m.v])) (zzi ⟨26, i40.cs ++ [i48.m.v]⟩ ty26 ?_)))))
    refine zzb (zzn (ret0 [.agg #[.bool i40.s, .slice i40.m.a i40.m.n i40.m.c, .slice i48.m.a i48.m.n i48.m.c]] ⟨zzq ty26 zze, trivial⟩ fun u64 e65 => ?_))
    refine ⟨(⟨i40.s, i40.m, i48.m⟩ : RL), rfl, RatN.more (red_pos hy0 rfl (h41.ext (e47.trans (g53.ext.trans e65))) h49 hb55 ((int_mag h49).ext e65)) xq⟩
theorem k_parts {u w : World} {r : RL} {q : Rat} {K : Nat} (d : Dat u w) (h : RatV u r q K) (hKK : K ≤ 400000000) : Calls Tryz.prog 92 #[r.v] w (Post u w (PartV q K)) := by
 obtain ⟨⟨z, D, hi, hd, hq⟩, hK⟩ := h
 change IntV u ⟨r.s, r.m⟩ z K at hi
 change NatV u r.d D K at hd
 refine zzl (args := [r.v]) Tryz.func92 rfl Tryz.ntmps92 (rs := [.cell 2 24, .cell 3 24]) Tryz.results92 (le_b rfl) (le_b rfl) d ?_
 refine sq9 (zzj 1 ⟨26, r.cs⟩ (zzj 2 ⟨24, [.bool false, .slice none 0 0]⟩ (zzj 3 ⟨24, [.bool false, .slice none 0 0]⟩ (zzb (sq9 (zza 5 (.adr 1 2) (zzh 6 (.v r.d.v) ty22 zzk (zzg 7 171 [r.d.v] ?_))))))))
 intro w11 u11 e11 d11
 have k16 := k_rnTrim d11 (hd.ext e11) xq
 with_reducible refine zPm k16 ?_
 rintro _ u14 g15 ⟨x12, rfl, h13⟩
 refine zza 8 (.v (.agg #[.bool false, x12.v])) (zzj 4 ⟨24, [.bool false, .slice none 0 0]⟩ (zzi ⟨24, [.bool false, x12.v]⟩ ty24 ?_))
 refine zzb (zzd (sq9 (zza 9 (.adr 4 1) (zzh 10 (.v x12.v) ty22 zzk (zza 11 (zI x12.n) (zza 12 (zB ((x12.n : Int) == 0)) (zzb (zzt (b := (x12.n : Int) == 0) xj (fun hb17 => ?_) (fun hb17 => ?_)))))))))
 ·replace hb17 : ((x12.n : Int) == 0) = true := hb17
  have qhb17 : (x12.n : Int) = 0 := by simpa using hb17
  refine sq9 (zza 13 (.v (.agg #[.bool false, .slice none 0 0])) (zxp 14 ⟨104, [.int .u32 1]⟩ 1 (fun b18 u19 e20 h21 => ?_)))
  refine zza 15 (.v (.agg #[.bool false, .slice (some ⟨b18, 0, none⟩) 1 1])) (zzi ⟨24, [.bool false, .slice none 0 0]⟩ ty24 ?_)
  refine zzi ⟨24, [.bool false, .slice (some ⟨b18, 0, none⟩) 1 1]⟩ ty24 ?_
  refine zzb (zzn (zzv (ret0 [.agg #[.bool false, .slice none 0 0], .agg #[.bool false, .slice (some ⟨b18, 0, none⟩) 1 1]] ⟨zzq ty24 zze, zzq ty24 zze, trivial⟩ fun u22 e23 => ?_)))
  have hp := h13.pos
  have hD : D = 0 := by simp at hb17; omega
  exact ⟨⟨false, ⟨none, 0, 0⟩⟩, ⟨false, (⟨some ⟨b18, 0, none⟩, 1, 1⟩ : Sl)⟩, 0, 1, rfl, (int_zero _ K).raw, nat_intN (((one_data h21).ext e23).more hK), by omega, by rw [hq, hD]; simp, hK⟩
 ·replace hb17 : ((x12.n : Int) == 0) = false := hb17
  have qhb17 : ¬ ((x12.n : Int) = 0) := by simpa using hb17
  refine zzr (zzo ?_)
  refine zzd (zzy [0, 1, 0, 3, 15] [(0, []), (1, []), (2, []), (3, [4]), (4, [])] xj xj (zza 16 (.adr 1 0) (zzh 17 (.v (.agg #[.bool r.s, r.m.v])) ty24 zze (zzh 18 (.v (.agg #[.bool false, x12.v])) ty24 zze (zzi ⟨24, [.bool r.s, r.m.v]⟩ ty24 ?_)))))
  refine zzi ⟨24, [.bool false, x12.v]⟩ ty24 ?_
  refine zzb (zzn (ret0 [.agg #[.bool r.s, .slice r.m.a r.m.n r.m.c], .agg #[.bool false, .slice x12.a x12.n x12.c]] ⟨zzq ty24 zze, zzq ty24 zze, trivial⟩ fun u24 e25 => ?_))
  have hp := h13.pos
  exact ⟨⟨r.s, r.m⟩, ⟨false, x12⟩, z, D, rfl, (hi.ext (e11.trans (g15.ext.trans e25))), nat_intN (h13.ext e25), by simp at hb17; omega, hq, hK⟩
theorem k_rqTrim {u w : World} {r1 : RL} {x : Rat} {K : Nat} (d : Dat u w) (hr1 : RatV u r1 x K) (hK : K ≤ 100000000) : Calls Tryz.prog 90 #[r1.v] w (Post u w fun v u' => ∃ r : RL, v = r.v ∧ RatN u' r x K) := by
 refine zzl (args := [r1.v]) Tryz.func90 rfl Tryz.ntmps90 (rs := [.cell 2 26]) Tryz.results90 (le_b rfl) (le_b rfl) d ?_
 refine sq9 (zzj 1 ⟨26, r1.cs⟩ (zzj 2 ⟨26, [.bool false, .slice none 0 0, .slice none 0 0]⟩ (zzb (sq9 (zzh 6 (.v (r1.v)) ty26 zze (zzg 7 92 [r1.v] ?_))))))
 intro w11 u11 e11 d11
 have k15 := k_parts d11 (hr1.ext e11) xq
 with_reducible refine zPm k15 ?_
 rintro _ u13 g14 ⟨i12, j12, z12, D12, rfl, hi12, hj12, hp12, hq12, hk12⟩
 refine zza 5 (.v (.tuple #[i12.v, j12.v])) (zza 8 (.v (i12.v)) (zza 9 (.v (j12.v)) (zzj 3 ⟨24, [.bool false, .slice none 0 0]⟩ (zzj 4 ⟨24, [.bool false, .slice none 0 0]⟩ (zzi ⟨24, i12.cs⟩ ty24 ?_)))))
 refine zzi ⟨24, j12.cs⟩ ty24 ?_
 refine zzb (sq9 (zzh 10 (.v (i12.v)) ty24 zze (zzh 11 (.v (j12.v)) ty24 zze (zzg 12 93 [i12.v, j12.v] ?_))))
 intro w16 u16 e16 d16
 have k21 := k_reduce d16 (hi12.ext e16) (hj12.ext e16).raw xq xq
 with_reducible refine zPm k21 ?_
 rintro _ u19 g20 ⟨r17, rfl, h18⟩
 refine zzi ⟨26, r17.cs⟩ ty26 ?_
 refine zzb (zzn (ret0 [r17.v] ⟨zzq ty26 zze, trivial⟩ fun u22 e23 => ?_))
 refine ⟨r17, rfl, RatN.fit (K := (max K K + 1)) ?_ (hr1.rs)⟩
 rw [hq12, ← Nt.mk_div]
 exact (h18.ext e23)
theorem k_rqSame {u w : World} {r1 r2 : RL} {x y : Rat} {K L : Nat} (d : Dat u w) (hr1 : RatN u r1 x K) (hr2 : RatN u r2 y L) : Calls Tryz.prog 89 #[r1.v, r2.v] w (Post u w fun v _ => v = .bool (decide (x = y))) := by
 refine zzl (args := [r1.v, r2.v]) Tryz.func89 rfl Tryz.ntmps89 (rs := [.tmp 4]) Tryz.results89 (le_b rfl) (le_b rfl) d ?_
 refine sq9 (zzj 2 ⟨26, r1.cs⟩ (zzj 3 ⟨26, r2.cs⟩ (zza 4 (zB false) (zzb (sq9 (zza 5 (.adr 2 0) (zzh 6 (.v (.agg #[.bool r1.s, r1.m.v])) ty24 zze (zza 7 (.adr 3 0) (zzh 8 (.v (.agg #[.bool r2.s, r2.m.v])) ty24 zze (zzg 9 169 [.agg #[.bool r1.s, r1.m.v], .agg #[.bool r2.s, r2.m.v]] ?_))))))))))
 intro w11 u11 e11 d11
 have k14 := k_riSame d11 ((RatN.num hr1).ext e11) ((RatN.num hr2).ext e11)
 with_reducible refine zPm k14 ?_
 rintro _ u12 g13 rfl
 rcases Bool.eq_false_or_eq_true (decide (x.num = y.num)) with hs15 | hs15
 ·refine zyn 10 (x := zB (decide (x.num = y.num))) (zB true) (by rw [hs15]) ?_
  have qhs15 := of_decide_eq_true hs15
  refine zza 11 (.adr 2 2) ?_ (hw := w1 5 true 10)
  refine zzh 12 (.v r1.d.v) ty22 zzk ?_ (hw := w1 5 true 10)
  refine zza 13 (.adr 3 2) ?_ (hw := w1 5 true 10)
  refine zzh 14 (.v r2.d.v) ty22 zzk ?_ (hw := w1 5 true 10)
  refine zzg 15 170 [r1.d.v, r2.d.v] ?_ (hw := w1 5 true 10)
  intro w16 u16 e16 d16
  have k19 := k_rnSame d16 ((RatN.den hr1).ext (e11.trans (g13.ext.trans e16))) ((RatN.den hr2).ext (e11.trans (g13.ext.trans e16)))
  with_reducible refine zPm k19 ?_
  rintro _ u17 g18 rfl
  refine zza 16 (zB (decide (x.den = y.den))) (zza 4 (zB (decide (x.den = y.den))) (zzb (zzn (ret0 [.bool (decide (x.den = y.den))] ⟨zzp, trivial⟩ fun u20 e21 => ?_))))
  show _ = _
  rw [← Nt.same_q, hs15]
  rfl
 ·refine zyn 10 (x := zB (decide (x.num = y.num))) (zB false) (by rw [hs15]) ?_
  have qhs15 := of_decide_eq_false hs15
  refine zzm 11 (uw 5 true false 10) (zzm 12 (uw 5 true false 10) (zzm 13 (uw 5 true false 10) (zzm 14 (uw 5 true false 10) (zzm 15 (uw 5 true false 10) (zza 16 (zB false) (zza 4 (zB false) (zzb (zzn (ret0 [.bool false] ⟨zzp, trivial⟩ fun u22 e23 => ?_)))))))))
  show _ = _
  rw [← Nt.same_q, hs15]
  rfl
theorem k_rqOf {u w : World} {z : Int} (d : Dat u w) (h0 : -9223372036854775808 ≤ z) (h1 : z ≤ 9223372036854775807) : Calls Tryz.prog 30 #[.int .i64 z] w (Post u w fun v u' => ∃ r : RL, v = r.v ∧ RatN u' r (z : Rat) 2) := by
 refine zzl (args := [.int .i64 z]) Tryz.func30 rfl Tryz.ntmps30 (rs := [.cell 2 26]) Tryz.results30 (le_b rfl) (le_b rfl) d ?_
 refine sq9 (zzj 2 ⟨26, [.bool false, .slice none 0 0, .slice none 0 0]⟩ (zzb (sq9 (zza 3 (zI z) (zzg 4 99 [.int .i64 z] ?_)))))
 intro w11 u11 e11 d11
 have k16 := k_riOf d11 (z := z) xq xq
 with_reducible refine zPm k16 ?_
 rintro _ u14 g15 ⟨i12, rfl, h13⟩
 refine zxp 5 ⟨104, [.int .u32 1]⟩ 1 (fun b17 u18 e19 h20 => ?_)
 refine zza 6 (.v (.agg #[.bool i12.s, i12.m.v, .slice (some ⟨b17, 0, none⟩) 1 1])) (zzi ⟨26, i12.cs ++ [.slice (some ⟨b17, 0, none⟩) 1 1]⟩ ty26 ?_)
 refine zzb (zzn (ret0 [.agg #[.bool i12.s, .slice i12.m.a i12.m.n i12.m.c, .slice (some ⟨b17, 0, none⟩) 1 1]] ⟨zzq ty26 zze, trivial⟩ fun u21 e22 => ?_))
 refine ⟨(⟨i12.s, i12.m, (⟨some ⟨b17, 0, none⟩, 1, 1⟩ : Sl)⟩ : RL), rfl, ?_⟩
 exact whole_rat (h13.ext (e19.trans e22)) ((one_data h20).ext e22)
theorem k_rqFrac {u w : World} {a b : Int} (d : Dat u w) (ha0 : -9223372036854775808 ≤ a) (ha1 : a ≤ 9223372036854775807) (hb0 : -9223372036854775808 ≤ b) (hb1 : b ≤ 9223372036854775807) : Calls Tryz.prog 75 #[.int .i64 a, .int .i64 b] w (Post u w fun v u' => ∃ r : RL, v = r.v ∧ RatN u' r ((a : Rat) / (b : Rat)) 3) := by
 refine zzl (args := [.int .i64 a, .int .i64 b]) Tryz.func75 rfl Tryz.ntmps75 (rs := [.cell 4 26]) Tryz.results75 (le_b rfl) (le_b rfl) d ?_
 refine sq9 (zzj 4 ⟨26, [.bool false, .slice none 0 0, .slice none 0 0]⟩ (zzb (sq9 (zza 5 (zI a) (zzg 6 99 [.int .i64 a] ?_)))))
 intro w11 u11 e11 d11
 have k16 := k_riOf d11 (z := a) xq xq
 with_reducible refine zPm k16 ?_
 rintro _ u14 g15 ⟨i12, rfl, h13⟩
 refine zza 7 (zI b) (zzg 8 99 [.int .i64 b] ?_)
 intro w17 u17 e17 d17
 have k22 := k_riOf d17 (z := b) xq xq
 with_reducible refine zPm k22 ?_
 rintro _ u20 g21 ⟨i18, rfl, h19⟩
 refine zzg 9 93 [i12.v, i18.v] ?_
 intro w23 u23 e23 d23
 have k28 := k_reduce d23 (h13.ext (e17.trans (g21.ext.trans e23))).raw (h19.ext e23).raw xq xq
 with_reducible refine zPm k28 ?_
 rintro _ u26 g27 ⟨r24, rfl, h25⟩
 refine zzi ⟨26, r24.cs⟩ ty26 ?_
 refine zzb (zzn (ret0 [r24.v] ⟨zzq ty26 zze, trivial⟩ fun u29 e30 => ?_))
 refine ⟨r24, rfl, RatN.more (K := (max 2 2 + 1)) ?_ xq⟩
 exact (h25.ext e30)
theorem k_rqSign {u w : World} {r1 : RL} {x : Rat} {K : Nat} (d : Dat u w) (hr1 : RatV u r1 x K) (hK : K ≤ 100000000) : Calls Tryz.prog 29 #[r1.v] w (Post u w fun v u' => v = .int .i64 (Nt.sgQ x)) := by
 refine zzl (args := [r1.v]) Tryz.func29 rfl Tryz.ntmps29 (rs := [.tmp 2]) Tryz.results29 (le_b rfl) (le_b rfl) d ?_
 refine sq9 (zzj 1 ⟨26, r1.cs⟩ (zza 2 (zI 0) (zzb (sq9 (zzh 6 (.v (r1.v)) ty26 zze (zzg 7 92 [r1.v] ?_))))))
 intro w11 u11 e11 d11
 have k15 := k_parts d11 (hr1.ext e11) xq
 with_reducible refine zPm k15 ?_
 rintro _ u13 g14 ⟨i12, j12, z12, D12, rfl, hi12, hj12, hp12, hq12, hk12⟩
 refine zza 5 (.v (.tuple #[i12.v, j12.v])) (zza 8 (.v (i12.v)) (zza 9 (.v (j12.v)) (zzj 3 ⟨24, [.bool false, .slice none 0 0]⟩ (zzj 4 ⟨24, [.bool false, .slice none 0 0]⟩ (zzi ⟨24, i12.cs⟩ ty24 ?_)))))
 refine zzi ⟨24, j12.cs⟩ ty24 ?_
 refine zzb (sq9 (zzh 10 (.v (i12.v)) ty24 zze (zzg 11 98 [i12.v] ?_)))
 intro w16 u16 e16 d16
 have k19 := k_riSign d16 (hi12.ext e16) xq
 with_reducible refine zPm k19 ?_
 rintro _ u17 g18 rfl
 refine zza 2 (zI (Nt.cmpS z12 0)) (zzb (zzn (ret0 [.int .i64 (Nt.cmpS z12 0)] ⟨zzp, trivial⟩ fun u20 e21 => ?_)))
 show _ = _
 rw [hq12, ← Nt.sg_mk hp12]
 rfl
theorem k_rqCompare {u w : World} {r1 : RL} {x : Rat} {K : Nat} {r2 : RL} {y : Rat} {L : Nat} (d : Dat u w) (hr1 : RatV u r1 x K) (hr2 : RatV u r2 y L) (hK : K ≤ 100000000) (hL : L ≤ 100000000) : Calls Tryz.prog 28 #[r1.v, r2.v] w (Post u w fun v u' => v = .int .i64 (Nt.cmpQ x y)) := by
 refine zzl (args := [r1.v, r2.v]) Tryz.func28 rfl Tryz.ntmps28 (rs := [.tmp 4]) Tryz.results28 (le_b rfl) (le_b rfl) d ?_
 refine sq9 (zzj 2 ⟨26, r1.cs⟩ (zzj 3 ⟨26, r2.cs⟩ (zza 4 (zI 0) (zzb (sq9 (zzh 10 (.v (r1.v)) ty26 zze (zzg 11 92 [r1.v] ?_)))))))
 intro w11 u11 e11 d11
 have k15 := k_parts d11 (hr1.ext e11) xq
 with_reducible refine zPm k15 ?_
 rintro _ u13 g14 ⟨i12, j12, z12, D12, rfl, hi12, hj12, hp12, hq12, hk12⟩
 refine zza 9 (.v (.tuple #[i12.v, j12.v])) (zza 12 (.v (i12.v)) (zza 13 (.v (j12.v)) (zzj 5 ⟨24, [.bool false, .slice none 0 0]⟩ (zzj 6 ⟨24, [.bool false, .slice none 0 0]⟩ (zzi ⟨24, i12.cs⟩ ty24 ?_)))))
 refine zzi ⟨24, j12.cs⟩ ty24 ?_
 refine zzb (sq9 (zzh 15 (.v (r2.v)) ty26 zze (zzg 16 92 [r2.v] ?_)))
 intro w16 u16 e16 d16
 have k20 := k_parts d16 (hr2.ext (e11.trans (g14.ext.trans e16))) xq
 with_reducible refine zPm k20 ?_
 rintro _ u18 g19 ⟨i17, j17, z17, D17, rfl, hi17, hj17, hp17, hq17, hk17⟩
 refine zza 14 (.v (.tuple #[i17.v, j17.v])) (zza 17 (.v (i17.v)) (zza 18 (.v (j17.v)) (zzj 7 ⟨24, [.bool false, .slice none 0 0]⟩ (zzj 8 ⟨24, [.bool false, .slice none 0 0]⟩ (zzi ⟨24, i17.cs⟩ ty24 ?_)))))
 refine zzi ⟨24, j17.cs⟩ ty24 ?_
 refine zzb (zzd (zzy [0, 0, 3, 0, 0, 31, 63, 127] [(0, []), (1, []), (3, []), (4, []), (2, []), (5, []), (6, []), (7, [])] xj xj (zzh 19 (.v (i12.v)) ty24 zze (zzh 20 (.v (j17.v)) ty24 zze (zzh 22 (.v (i17.v)) ty24 zze (zzh 23 (.v (j12.v)) ty24 zze (zzg 21 94 [i12.v, j17.v] ?_)))))))
 intro w21 u21 e21 d21
 have k26 := k_riMul d21 (hi12.ext (e16.trans (g19.ext.trans e21))) (hj17.ext e21).raw xq xq
 with_reducible refine zPm k26 ?_
 rintro _ u24 g25 ⟨i22, rfl, h23⟩
 refine zzg 24 94 [i17.v, j12.v] ?_
 intro w27 u27 e27 d27
 have k32 := k_riMul d27 (hi17.ext (e21.trans (g25.ext.trans e27))) (hj12.ext (e16.trans (g19.ext.trans (e21.trans (g25.ext.trans e27))))).raw xq xq
 with_reducible refine zPm k32 ?_
 rintro _ u30 g31 ⟨i28, rfl, h29⟩
 refine zzg 25 97 [i22.v, i28.v] ?_
 intro w33 u33 e33 d33
 have k36 := k_riCompare d33 (h23.ext (e27.trans (g31.ext.trans e33))).raw (h29.ext e33).raw xq xq
 with_reducible refine zPm k36 ?_
 rintro _ u34 g35 rfl
 refine zza 4 (zI (Nt.cmpS (z12 * (D17 : Int)) (z17 * (D12 : Int)))) (zzb (zzn (ret0 [.int .i64 (Nt.cmpS (z12 * (D17 : Int)) (z17 * (D12 : Int)))] ⟨zzp, trivial⟩ fun u37 e38 => ?_)))
 show _ = _
 rw [hq12, hq17, ← Nt.cmp_mk hp12 hp17]
 rfl
theorem k_rqLess {u w : World} {r1 : RL} {x : Rat} {K : Nat} {r2 : RL} {y : Rat} {L : Nat} (d : Dat u w) (hr1 : RatV u r1 x K) (hr2 : RatV u r2 y L) (hK : K ≤ 100000000) (hL : L ≤ 100000000) : Calls Tryz.prog 110 #[r1.v, r2.v] w (Post u w fun v u' => v = .bool (decide (x < y))) := by
 refine zzl (args := [r1.v, r2.v]) Tryz.func110 rfl Tryz.ntmps110 (rs := [.tmp 4]) Tryz.results110 (le_b rfl) (le_b rfl) d ?_
 refine sq9 (zzj 2 ⟨26, r1.cs⟩ (zzj 3 ⟨26, r2.cs⟩ (zza 4 (zB false) (zzb (sq9 (zzh 5 (.v (r1.v)) ty26 zze (zzh 6 (.v (r2.v)) ty26 zze (zzg 7 28 [r1.v, r2.v] ?_))))))))
 intro w11 u11 e11 d11
 have k14 := k_rqCompare d11 (hr1.ext e11) (hr2.ext e11) xq xq
 with_reducible refine zPm k14 ?_
 rintro _ u12 g13 rfl
 refine zza 8 (zB (decide ((Nt.cmpQ x y) < 0))) (zza 4 (zB (decide ((Nt.cmpQ x y) < 0))) (zzb (zzn (ret0 [.bool (decide ((Nt.cmpQ x y) < 0))] ⟨zzp, trivial⟩ fun u15 e16 => ?_))))
 show _ = _
 rw [← Nt.cmpQ_lt]
 rfl
theorem k_rqAbs {u w : World} {r1 : RL} {x : Rat} {K : Nat} (d : Dat u w) (hr1 : RatV u r1 x K) (hK : K ≤ 100000000) : Calls Tryz.prog 23 #[r1.v] w (Post u w fun v u' => ∃ r : RL, v = r.v ∧ RatN u' r (Nt.absQ x) K) := by
 refine zzl (args := [r1.v]) Tryz.func23 rfl Tryz.ntmps23 (rs := [.cell 2 26]) Tryz.results23 (le_b rfl) (le_b rfl) d ?_
 refine sq9 (zzj 1 ⟨26, r1.cs⟩ (zzj 2 ⟨26, [.bool false, .slice none 0 0, .slice none 0 0]⟩ (zzb (sq9 (zzh 3 (.v (r1.v)) ty26 zze (zzg 4 90 [r1.v] ?_))))))
 intro w11 u11 e11 d11
 have k16 := k_rqTrim d11 (hr1.ext e11) xq
 with_reducible refine zPm k16 ?_
 rintro _ u14 g15 ⟨r12, rfl, h13⟩
 refine zzi ⟨26, r12.cs⟩ ty26 ?_
 refine zzb (sq9 (zza 5 (.adr 1 0) (zzh 6 (.v (.agg #[.bool r12.s, r12.m.v])) ty24 zze (zzg 7 91 [.agg #[.bool r12.s, r12.m.v]] ?_))))
 intro w17 u17 e17 d17
 have k22 := k_riAbs d17 ((RatN.num h13).ext e17).raw xq
 with_reducible refine zPm k22 ?_
 rintro _ u20 g21 ⟨i18, rfl, h19⟩
 refine zza 8 (.adr 1 0) (zzi ⟨26, i18.cs ++ [r12.d.v]⟩ ty24 ?_)
 refine zzb (sq9 (zzh 9 (.v (.agg #[.bool i18.s, i18.m.v, r12.d.v])) ty26 zze (zzi ⟨26, i18.cs ++ [r12.d.v]⟩ ty26 ?_)))
 refine zzb (zzn (ret0 [.agg #[.bool i18.s, .slice i18.m.a i18.m.n i18.m.c, .slice r12.d.a r12.d.n r12.d.c]] ⟨zzq ty26 zze, trivial⟩ fun u23 e24 => ?_))
 exact ⟨(⟨i18.s, i18.m, r12.d⟩ : RL), rfl, abs_rat3 (h13.ext (e17.trans (g21.ext.trans e24))) (h19.ext e24)⟩
theorem k_rqAdd {u w : World} {r1 : RL} {x : Rat} {K : Nat} {r2 : RL} {y : Rat} {L : Nat} (d : Dat u w) (hr1 : RatV u r1 x K) (hr2 : RatV u r2 y L) (hK : K ≤ 100000000) (hL : L ≤ 100000000) : Calls Tryz.prog 57 #[r1.v, r2.v] w (Post u w fun v u' => ∃ r : RL, v = r.v ∧ RatN u' r (x + y) (K + L + 2)) := by
 refine zzl (args := [r1.v, r2.v]) Tryz.func57 rfl Tryz.ntmps57 (rs := [.cell 4 26]) Tryz.results57 (le_b rfl) (le_b rfl) d ?_
 refine sq9 (zzj 2 ⟨26, r1.cs⟩ (zzj 3 ⟨26, r2.cs⟩ (zzj 4 ⟨26, [.bool false, .slice none 0 0, .slice none 0 0]⟩ (zzb (sq9 (zzh 10 (.v (r1.v)) ty26 zze (zzg 11 92 [r1.v] ?_)))))))
 intro w11 u11 e11 d11
 have k15 := k_parts d11 (hr1.ext e11) xq
 with_reducible refine zPm k15 ?_
 rintro _ u13 g14 ⟨i12, j12, z12, D12, rfl, hi12, hj12, hp12, hq12, hk12⟩
 refine zza 9 (.v (.tuple #[i12.v, j12.v])) (zza 12 (.v (i12.v)) (zza 13 (.v (j12.v)) (zzj 5 ⟨24, [.bool false, .slice none 0 0]⟩ (zzj 6 ⟨24, [.bool false, .slice none 0 0]⟩ (zzi ⟨24, i12.cs⟩ ty24 ?_)))))
 refine zzi ⟨24, j12.cs⟩ ty24 ?_
 refine zzb (sq9 (zzh 15 (.v (r2.v)) ty26 zze (zzg 16 92 [r2.v] ?_)))
 intro w16 u16 e16 d16
 have k20 := k_parts d16 (hr2.ext (e11.trans (g14.ext.trans e16))) xq
 with_reducible refine zPm k20 ?_
 rintro _ u18 g19 ⟨i17, j17, z17, D17, rfl, hi17, hj17, hp17, hq17, hk17⟩
 refine zza 14 (.v (.tuple #[i17.v, j17.v])) (zza 17 (.v (i17.v)) (zza 18 (.v (j17.v)) (zzj 7 ⟨24, [.bool false, .slice none 0 0]⟩ (zzj 8 ⟨24, [.bool false, .slice none 0 0]⟩ (zzi ⟨24, i17.cs⟩ ty24 ?_)))))
 refine zzi ⟨24, j17.cs⟩ ty24 ?_
 refine zzb (zzd (zzy [0, 0, 3, 0, 0, 31, 63, 0, 0, 511, 1023, 2047] [(0, []), (1, []), (3, []), (4, []), (7, []), (8, []), (2, []), (5, []), (6, []), (9, []), (10, []), (11, [])] xj xj (zzh 19 (.v (i12.v)) ty24 zze (zzh 20 (.v (j17.v)) ty24 zze (zzh 22 (.v (i17.v)) ty24 zze (zzh 23 (.v (j12.v)) ty24 zze (zzh 26 (.v (j12.v)) ty24 zze (zzh 27 (.v (j17.v)) ty24 zze (zzg 21 94 [i12.v, j17.v] ?_)))))))))
 intro w21 u21 e21 d21
 have k26 := k_riMul d21 (hi12.ext (e16.trans (g19.ext.trans e21))) (hj17.ext e21).raw xq xq
 with_reducible refine zPm k26 ?_
 rintro _ u24 g25 ⟨i22, rfl, h23⟩
 refine zzg 24 94 [i17.v, j12.v] ?_
 intro w27 u27 e27 d27
 have k32 := k_riMul d27 (hi17.ext (e21.trans (g25.ext.trans e27))) (hj12.ext (e16.trans (g19.ext.trans (e21.trans (g25.ext.trans e27))))).raw xq xq
 with_reducible refine zPm k32 ?_
 rintro _ u30 g31 ⟨i28, rfl, h29⟩
 refine zzg 25 129 [i22.v, i28.v] ?_
 intro w33 u33 e33 d33
 have k38 := k_riAdd d33 (h23.ext (e27.trans (g31.ext.trans e33))).raw (h29.ext e33).raw xq xq
 with_reducible refine zPm k38 ?_
 rintro _ u36 g37 ⟨i34, rfl, h35⟩
 refine zzg 28 94 [j12.v, j17.v] ?_
 intro w39 u39 e39 d39
 have k44 := k_riMul d39 (hj12.ext (e16.trans (g19.ext.trans (e21.trans (g25.ext.trans (e27.trans (g31.ext.trans (e33.trans (g37.ext.trans e39))))))))).raw (hj17.ext (e21.trans (g25.ext.trans (e27.trans (g31.ext.trans (e33.trans (g37.ext.trans e39))))))).raw xq xq
 with_reducible refine zPm k44 ?_
 rintro _ u42 g43 ⟨i40, rfl, h41⟩
 refine zzg 29 93 [i34.v, i40.v] ?_
 intro w45 u45 e45 d45
 have k50 := k_reduce d45 (h35.ext (e39.trans (g43.ext.trans e45))).raw (h41.ext e45).raw xq xq
 with_reducible refine zPm k50 ?_
 rintro _ u48 g49 ⟨r46, rfl, h47⟩
 refine zzi ⟨26, r46.cs⟩ ty26 ?_
 refine zzc 30 [(4, .adr 4 0)] [(4, ⟨26, r46.cs⟩)] (zzn (ret0 [r46.v] ⟨zzq ty26 zze, trivial⟩ fun u51 e52 => ?_))
 refine ⟨r46, rfl, RatN.more (K := (max (max (K + L) (L + K) + 1) (K + L) + 1)) ?_ xq⟩
 rw [hq12, hq17, ← Nt.add_div2 hp12 hp17]
 exact (h47.ext e52)
theorem k_rqMul {u w : World} {r1 : RL} {x : Rat} {K : Nat} {r2 : RL} {y : Rat} {L : Nat} (d : Dat u w) (hr1 : RatV u r1 x K) (hr2 : RatV u r2 y L) (hK : K ≤ 100000000) (hL : L ≤ 100000000) : Calls Tryz.prog 25 #[r1.v, r2.v] w (Post u w fun v u' => ∃ r : RL, v = r.v ∧ RatN u' r (x * y) (K + L + 1)) := by
 refine zzl (args := [r1.v, r2.v]) Tryz.func25 rfl Tryz.ntmps25 (rs := [.cell 4 26]) Tryz.results25 (le_b rfl) (le_b rfl) d ?_
 refine sq9 (zzj 2 ⟨26, r1.cs⟩ (zzj 3 ⟨26, r2.cs⟩ (zzj 4 ⟨26, [.bool false, .slice none 0 0, .slice none 0 0]⟩ (zzb (sq9 (zzh 10 (.v (r1.v)) ty26 zze (zzg 11 92 [r1.v] ?_)))))))
 intro w11 u11 e11 d11
 have k15 := k_parts d11 (hr1.ext e11) xq
 with_reducible refine zPm k15 ?_
 rintro _ u13 g14 ⟨i12, j12, z12, D12, rfl, hi12, hj12, hp12, hq12, hk12⟩
 refine zza 9 (.v (.tuple #[i12.v, j12.v])) (zza 12 (.v (i12.v)) (zza 13 (.v (j12.v)) (zzj 5 ⟨24, [.bool false, .slice none 0 0]⟩ (zzj 6 ⟨24, [.bool false, .slice none 0 0]⟩ (zzi ⟨24, i12.cs⟩ ty24 ?_)))))
 refine zzi ⟨24, j12.cs⟩ ty24 ?_
 refine zzb (sq9 (zzh 15 (.v (r2.v)) ty26 zze (zzg 16 92 [r2.v] ?_)))
 intro w16 u16 e16 d16
 have k20 := k_parts d16 (hr2.ext (e11.trans (g14.ext.trans e16))) xq
 with_reducible refine zPm k20 ?_
 rintro _ u18 g19 ⟨i17, j17, z17, D17, rfl, hi17, hj17, hp17, hq17, hk17⟩
 refine zza 14 (.v (.tuple #[i17.v, j17.v])) (zza 17 (.v (i17.v)) (zza 18 (.v (j17.v)) (zzj 7 ⟨24, [.bool false, .slice none 0 0]⟩ (zzj 8 ⟨24, [.bool false, .slice none 0 0]⟩ (zzi ⟨24, i17.cs⟩ ty24 ?_)))))
 refine zzi ⟨24, j17.cs⟩ ty24 ?_
 refine zzb (zzd (zzy [0, 0, 3, 0, 0, 31, 63, 127] [(0, []), (1, []), (3, []), (4, []), (2, []), (5, []), (6, []), (7, [])] xj xj (zzh 19 (.v (i12.v)) ty24 zze (zzh 20 (.v (i17.v)) ty24 zze (zzh 22 (.v (j12.v)) ty24 zze (zzh 23 (.v (j17.v)) ty24 zze (zzg 21 94 [i12.v, i17.v] ?_)))))))
 intro w21 u21 e21 d21
 have k26 := k_riMul d21 (hi12.ext (e16.trans (g19.ext.trans e21))) (hi17.ext e21) xq xq
 with_reducible refine zPm k26 ?_
 rintro _ u24 g25 ⟨i22, rfl, h23⟩
 refine zzg 24 94 [j12.v, j17.v] ?_
 intro w27 u27 e27 d27
 have k32 := k_riMul d27 (hj12.ext (e16.trans (g19.ext.trans (e21.trans (g25.ext.trans e27))))).raw (hj17.ext (e21.trans (g25.ext.trans e27))).raw xq xq
 with_reducible refine zPm k32 ?_
 rintro _ u30 g31 ⟨i28, rfl, h29⟩
 refine zzg 25 93 [i22.v, i28.v] ?_
 intro w33 u33 e33 d33
 have k38 := k_reduce d33 (h23.ext (e27.trans (g31.ext.trans e33))).raw (h29.ext e33).raw xq xq
 with_reducible refine zPm k38 ?_
 rintro _ u36 g37 ⟨r34, rfl, h35⟩
 refine zzi ⟨26, r34.cs⟩ ty26 ?_
 refine zzb (zzn (ret0 [r34.v] ⟨zzq ty26 zze, trivial⟩ fun u39 e40 => ?_))
 refine ⟨r34, rfl, RatN.more (K := (max (K + L) (K + L) + 1)) ?_ xq⟩
 rw [hq12, hq17, ← Nt.mul_div2]
 exact (h35.ext e40)
theorem k_rqMin {u w : World} {r1 : RL} {x : Rat} {K : Nat} {r2 : RL} {y : Rat} {L : Nat} (d : Dat u w) (hr1 : RatV u r1 x K) (hr2 : RatV u r2 y L) (hK : K ≤ 100000000) (hL : L ≤ 100000000) : Calls Tryz.prog 134 #[r1.v, r2.v] w (Post u w fun v u' => ∃ r : RL, v = r.v ∧ RatN u' r (Nt.lo x y) (max K L)) := by
 refine zzl (args := [r1.v, r2.v]) Tryz.func134 rfl Tryz.ntmps134 (rs := [.cell 4 26]) Tryz.results134 (le_b rfl) (le_b rfl) d ?_
 refine sq9 (zzj 2 ⟨26, r1.cs⟩ (zzj 3 ⟨26, r2.cs⟩ (zzj 4 ⟨26, [.bool false, .slice none 0 0, .slice none 0 0]⟩ (zzb (zzd (sq9 (zzh 5 (.v (r2.v)) ty26 zze (zzh 6 (.v (r1.v)) ty26 zze (zzg 7 110 [r2.v, r1.v] ?_)))))))))
 intro w11 u11 e11 d11
 have k14 := k_rqLess d11 (hr2.ext e11) (hr1.ext e11) xq xq
 with_reducible refine zPm k14 ?_
 rintro _ u12 g13 rfl
 refine zzb (zzt (b := decide (y < x)) xj (fun hb15 => ?_) (fun hb15 => ?_))
 ·replace hb15 : (decide (y < x)) = true := hb15
  have qhb15 := of_decide_eq_true hb15
  refine sq9 (zzh 8 (.v (r2.v)) ty26 zze (zzg 9 90 [r2.v] ?_))
  intro w16 u16 e16 d16
  have k21 := k_rqTrim d16 (hr2.ext (e11.trans (g13.ext.trans e16))) xq
  with_reducible refine zPm k21 ?_
  rintro _ u19 g20 ⟨r17, rfl, h18⟩
  refine zzi ⟨26, r17.cs⟩ ty26 ?_
  refine zzb (zzn (zzv (ret0 [r17.v] ⟨zzq ty26 zze, trivial⟩ fun u22 e23 => ?_)))
  refine ⟨r17, rfl, RatN.more (K := L) ?_ xq⟩
  unfold Nt.lo
  rw [if_pos (of_decide_eq_true hb15)]
  exact (h18.ext e23)
 ·replace hb15 : (decide (y < x)) = false := hb15
  have qhb15 := of_decide_eq_false hb15
  refine zzr (zzo ?_)
  refine sq9 (zzh 10 (.v (r1.v)) ty26 zze (zzg 11 90 [r1.v] ?_))
  intro w24 u24 e24 d24
  have k29 := k_rqTrim d24 (hr1.ext (e11.trans (g13.ext.trans e24))) xq
  with_reducible refine zPm k29 ?_
  rintro _ u27 g28 ⟨r25, rfl, h26⟩
  refine zzi ⟨26, r25.cs⟩ ty26 ?_
  refine zzb (zzn (ret0 [r25.v] ⟨zzq ty26 zze, trivial⟩ fun u30 e31 => ?_))
  refine ⟨r25, rfl, RatN.more (K := K) ?_ xq⟩
  unfold Nt.lo
  rw [if_neg (of_decide_eq_false hb15)]
  exact (h26.ext e31)
theorem k_rqMax {u w : World} {r1 : RL} {x : Rat} {K : Nat} {r2 : RL} {y : Rat} {L : Nat} (d : Dat u w) (hr1 : RatV u r1 x K) (hr2 : RatV u r2 y L) (hK : K ≤ 100000000) (hL : L ≤ 100000000) : Calls Tryz.prog 135 #[r1.v, r2.v] w (Post u w fun v u' => ∃ r : RL, v = r.v ∧ RatN u' r (Nt.hi x y) (max K L)) := by
 refine zzl (args := [r1.v, r2.v]) Tryz.func135 rfl Tryz.ntmps135 (rs := [.cell 4 26]) Tryz.results135 (le_b rfl) (le_b rfl) d ?_
 refine sq9 (zzj 2 ⟨26, r1.cs⟩ (zzj 3 ⟨26, r2.cs⟩ (zzj 4 ⟨26, [.bool false, .slice none 0 0, .slice none 0 0]⟩ (zzb (zzd (sq9 (zzh 5 (.v (r1.v)) ty26 zze (zzh 6 (.v (r2.v)) ty26 zze (zzg 7 110 [r1.v, r2.v] ?_)))))))))
 intro w11 u11 e11 d11
 have k14 := k_rqLess d11 (hr1.ext e11) (hr2.ext e11) xq xq
 with_reducible refine zPm k14 ?_
 rintro _ u12 g13 rfl
 refine zzb (zzt (b := decide (x < y)) xj (fun hb15 => ?_) (fun hb15 => ?_))
 ·replace hb15 : (decide (x < y)) = true := hb15
  have qhb15 := of_decide_eq_true hb15
  refine sq9 (zzh 8 (.v (r2.v)) ty26 zze (zzg 9 90 [r2.v] ?_))
  intro w16 u16 e16 d16
  have k21 := k_rqTrim d16 (hr2.ext (e11.trans (g13.ext.trans e16))) xq
  with_reducible refine zPm k21 ?_
  rintro _ u19 g20 ⟨r17, rfl, h18⟩
  refine zzi ⟨26, r17.cs⟩ ty26 ?_
  refine zzb (zzn (zzv (ret0 [r17.v] ⟨zzq ty26 zze, trivial⟩ fun u22 e23 => ?_)))
  refine ⟨r17, rfl, RatN.more (K := L) ?_ xq⟩
  unfold Nt.hi
  rw [if_pos (of_decide_eq_true hb15)]
  exact (h18.ext e23)
 ·replace hb15 : (decide (x < y)) = false := hb15
  have qhb15 := of_decide_eq_false hb15
  refine zzr (zzo ?_)
  refine sq9 (zzh 10 (.v (r1.v)) ty26 zze (zzg 11 90 [r1.v] ?_))
  intro w24 u24 e24 d24
  have k29 := k_rqTrim d24 (hr1.ext (e11.trans (g13.ext.trans e24))) xq
  with_reducible refine zPm k29 ?_
  rintro _ u27 g28 ⟨r25, rfl, h26⟩
  refine zzi ⟨26, r25.cs⟩ ty26 ?_
  refine zzb (zzn (ret0 [r25.v] ⟨zzq ty26 zze, trivial⟩ fun u30 e31 => ?_))
  refine ⟨r25, rfl, RatN.more (K := K) ?_ xq⟩
  unfold Nt.hi
  rw [if_neg (of_decide_eq_false hb15)]
  exact (h26.ext e31)
def DivQ (x y : Rat) (K : Nat) (v : Value) (u : World) : Prop := (v = .tuple #[.agg #[.bool false, .slice none 0 0, .slice none 0 0], .int .i64 3] ∧ y = 0) ∨ (y ≠ 0 ∧ ∃ r : RL, v = .tuple #[r.v, .int .i64 0] ∧ RatN u r (x / y) K)
set_option maxHeartbeats 1000000 in
theorem k_rqDiv {u w : World} {r1 : RL} {x : Rat} {K : Nat} {r2 : RL} {y : Rat} {L : Nat} (d : Dat u w) (hr1 : RatV u r1 x K) (hr2 : RatV u r2 y L) (hK : K ≤ 100000000) (hL : L ≤ 100000000) : Calls Tryz.prog 168 #[r1.v, r2.v] w (Post u w fun v u' => DivQ x y (K + L + 1) v u') := by
 refine zzl (args := [r1.v, r2.v]) Tryz.func168 rfl Tryz.ntmps168 (rs := [.cell 4 26, .tmp 5]) Tryz.results168 (le_b rfl) (le_b rfl) d ?_
 refine sq9 (zzj 2 ⟨26, r1.cs⟩ (zzj 3 ⟨26, r2.cs⟩ (zzj 4 ⟨26, [.bool false, .slice none 0 0, .slice none 0 0]⟩ (zza 5 (zI 0) (zzb (sq9 (zzh 11 (.v (r1.v)) ty26 zze (zzg 12 92 [r1.v] ?_))))))))
 intro w11 u11 e11 d11
 have k15 := k_parts d11 (hr1.ext e11) xq
 with_reducible refine zPm k15 ?_
 rintro _ u13 g14 ⟨i12, j12, z12, D12, rfl, hi12, hj12, hp12, hq12, hk12⟩
 refine zza 10 (.v (.tuple #[i12.v, j12.v])) (zza 13 (.v (i12.v)) (zza 14 (.v (j12.v)) (zzj 6 ⟨24, [.bool false, .slice none 0 0]⟩ (zzj 7 ⟨24, [.bool false, .slice none 0 0]⟩ (zzi ⟨24, i12.cs⟩ ty24 ?_)))))
 refine zzi ⟨24, j12.cs⟩ ty24 ?_
 refine zzb (sq9 (zzh 16 (.v (r2.v)) ty26 zze (zzg 17 92 [r2.v] ?_)))
 intro w16 u16 e16 d16
 have k20 := k_parts d16 (hr2.ext (e11.trans (g14.ext.trans e16))) xq
 with_reducible refine zPm k20 ?_
 rintro _ u18 g19 ⟨i17, j17, z17, D17, rfl, hi17, hj17, hp17, hq17, hk17⟩
 refine zza 15 (.v (.tuple #[i17.v, j17.v])) (zza 18 (.v (i17.v)) (zza 19 (.v (j17.v)) (zzj 8 ⟨24, [.bool false, .slice none 0 0]⟩ (zzj 9 ⟨24, [.bool false, .slice none 0 0]⟩ (zzi ⟨24, i17.cs⟩ ty24 ?_)))))
 refine zzi ⟨24, j17.cs⟩ ty24 ?_
 refine zzb (zzd (sq9 (zzh 20 (.v (i17.v)) ty24 zze (zzg 21 98 [i17.v] ?_))))
 intro w21 u21 e21 d21
 have k24 := k_riSign d21 (hi17.ext e21) xq
 with_reducible refine zPm k24 ?_
 rintro _ u22 g23 rfl
 refine zza 22 (zB ((Nt.cmpS z17 0) == 0)) (zzb (zzt (b := (Nt.cmpS z17 0) == 0) xj (fun hb25 => ?_) (fun hb25 => ?_)))
 ·replace hb25 : ((Nt.cmpS z17 0) == 0) = true := hb25
  refine sq9 (zza 23 (.v (.agg #[.bool false, .slice none 0 0, .slice none 0 0])) (zzi ⟨26, [.bool false, .slice none 0 0, .slice none 0 0]⟩ ty26 ?_))
  refine zza 5 (zI 3) (zzb (zzn (zzv (ret0 [.agg #[.bool false, .slice none 0 0, .slice none 0 0], .int .i64 3] ⟨zzq ty26 zze, zzp, trivial⟩ fun u26 e27 => ?_))))
  left
  exact ⟨rfl, by rw [hq17, Nt.cmp_eq0 hb25, Rat.zero_mkRat]⟩
 ·replace hb25 : ((Nt.cmpS z17 0) == 0) = false := hb25
  have hz0 : z17 ≠ 0 := Nt.cmp_ne0 hb25
  refine zzr (zzo ?_)
  refine zzd (zzy [0, 0, 3, 0, 0, 31, 63, 127, 255] [(0, []), (1, []), (3, []), (4, []), (2, []), (5, []), (6, []), (7, []), (8, [])] xj xj (zzh 24 (.v (i12.v)) ty24 zze (zzh 25 (.v (j17.v)) ty24 zze (zzh 27 (.v (j12.v)) ty24 zze (zzh 28 (.v (i17.v)) ty24 zze (zzg 26 94 [i12.v, j17.v] ?_))))))
  intro w28 u28 e28 d28
  have k33 := k_riMul d28 (hi12.ext (e16.trans (g19.ext.trans (e21.trans (g23.ext.trans e28))))) (hj17.ext (e21.trans (g23.ext.trans e28))).raw xq xq
  with_reducible refine zPm k33 ?_
  rintro _ u31 g32 ⟨i29, rfl, h30⟩
  refine zzg 29 94 [j12.v, i17.v] ?_
  intro w34 u34 e34 d34
  have k39 := k_riMul d34 (hj12.ext (e16.trans (g19.ext.trans (e21.trans (g23.ext.trans (e28.trans (g32.ext.trans e34))))))).raw (hi17.ext (e21.trans (g23.ext.trans (e28.trans (g32.ext.trans e34))))) xq xq
  with_reducible refine zPm k39 ?_
  rintro _ u37 g38 ⟨i35, rfl, h36⟩
  refine zzg 30 93 [i29.v, i35.v] ?_
  intro w40 u40 e40 d40
  have k45 := k_reduce d40 (h30.ext (e34.trans (g38.ext.trans e40))).raw (h36.ext e40).raw xq xq
  with_reducible refine zPm k45 ?_
  rintro _ u43 g44 ⟨r41, rfl, h42⟩
  refine zzi ⟨26, r41.cs⟩ ty26 ?_
  refine zza 5 (zI 0) (zzc 31 [(4, .adr 4 0), (5, zI 0)] [(4, ⟨26, r41.cs⟩)] (zzn (ret0 [r41.v, .int .i64 0] ⟨zzq ty26 zze, zzp, trivial⟩ fun u46 e47 => ?_)))
  right
  refine ⟨?_, r41, rfl, RatN.more (K := (max (K + L) (K + L) + 1)) ?_ xq⟩
  ·rw [hq17]; exact (Rat.mkRat_ne_zero xq).2 hz0
  ·rw [hq12, hq17, ← Nt.quo_mk hp12 hp17 hz0]
   exact (h42.ext e47)
theorem k_rqOver {u w : World} {r1 : RL} {x : Rat} {K : Nat} {r2 : RL} {y : Rat} {L : Nat} (d : Dat u w) (hr1 : RatV u r1 x K) (hr2 : RatV u r2 y L) (hK : K ≤ 100000000) (hL : L ≤ 100000000) : Calls Tryz.prog 88 #[r1.v, r2.v] w (Post u w fun v u' => ∃ r : RL, v = r.v ∧ RatN u' r (x / y) (K + L + 2)) := by
 refine zzl (args := [r1.v, r2.v]) Tryz.func88 rfl Tryz.ntmps88 (rs := [.cell 4 26]) Tryz.results88 (le_b rfl) (le_b rfl) d ?_
 refine sq9 (zzj 2 ⟨26, r1.cs⟩ (zzj 3 ⟨26, r2.cs⟩ (zzj 4 ⟨26, [.bool false, .slice none 0 0, .slice none 0 0]⟩ (zzb (sq9 (zzh 8 (.v (r1.v)) ty26 zze (zzh 9 (.v (r2.v)) ty26 zze (zzg 10 168 [r1.v, r2.v] ?_))))))))
 intro w11 u11 e11 d11
 have k17 := k_rqDiv d11 (hr1.ext e11) (hr2.ext e11) xq xq
 with_reducible refine zPm k17 ?_
 rintro _ u15 g16 (⟨rfl, hz12⟩ | ⟨hz12, r13, rfl, h14⟩)
 ·skip
  refine zza 7 (.v (.tuple #[.agg #[.bool false, .slice none 0 0, .slice none 0 0], .int .i64 3])) (zza 11 (.v (.agg #[.bool false, .slice none 0 0, .slice none 0 0])) (zza 12 (zI 3) (zzj 5 ⟨26, [.bool false, .slice none 0 0, .slice none 0 0]⟩ (zzi ⟨26, [.bool false, .slice none 0 0, .slice none 0 0]⟩ ty26 ?_))))
  refine zza 6 (zI 3) (zzb (zzd (sq9 (zza 13 (zI 3) (zza 14 (zB true) (zzb (zyo xj (sq9 (zzg 15 30 [.int .i64 0] ?_)))))))))
  intro w18 u18 e18 d18
  have k23 := k_rqOf d18 (z := 0) xq xq
  with_reducible refine zPm k23 ?_
  rintro _ u21 g22 ⟨r19, rfl, h20⟩
  refine zzi ⟨26, r19.cs⟩ ty26 ?_
  refine zzb (zzn (zzv (ret0 [r19.v] ⟨zzq ty26 zze, trivial⟩ fun u24 e25 => ?_)))
  refine ⟨r19, rfl, RatN.more (K := 2) ?_ xq⟩
  rw [hz12, Rat.div_def, Rat.inv_zero, Rat.mul_zero]
  exact (h20.ext e25)
 ·skip
  refine zza 7 (.v (.tuple #[r13.v, .int .i64 0])) (zza 11 (.v (r13.v)) (zza 12 (zI 0) (zzj 5 ⟨26, [.bool false, .slice none 0 0, .slice none 0 0]⟩ (zzi ⟨26, r13.cs⟩ ty26 ?_))))
  refine zza 6 (zI 0) (zzb (zzd (sq9 (zza 13 (zI 0) (zza 14 (zB false) (zzb (zyp xj (zzr (zzo ?_)))))))))
  refine sq9 (zzh 16 (.v (r13.v)) ty26 zze (zzi ⟨26, r13.cs⟩ ty26 ?_))
  refine zzb (zzn (ret0 [r13.v] ⟨zzq ty26 zze, trivial⟩ fun u26 e27 => ?_))
  refine ⟨r13, rfl, RatN.more (K := (K + L + 1)) ?_ xq⟩
  exact (h14.ext e27)
theorem k_signed {u w : World} {s : Bool} {x : Sl} {N K : Nat} (d : Dat u w) (h : NatN u x N K) : Calls Tryz.prog 222 #[.bool s, x.v] w (Post u w fun v u' => ∃ i : IL, v = i.v ∧ IntN u' i (Nt.sg s N) K) := by
 refine zzl (args := [.bool s, .slice x.a x.n x.c]) Tryz.func222 rfl Tryz.ntmps222 (rs := [.cell 4 24]) Tryz.results222 (le_b rfl) (le_b rfl) d ?_
 refine sq9 (zzj 4 ⟨24, [.bool false, .slice none 0 0]⟩ (zzb (sq9 (zza 5 (zB s) ?_))))
 rcases Bool.eq_false_or_eq_true s with hs11 | hs11
 ·refine zyn 6 (x := zB s) (zB true) (by rw [hs11]) (zza 7 (.v x.v) ?_ (hw := w1 1 true 6))
  refine zza 8 (zI x.n) ?_ (hw := w1 1 true 6)
  refine zza 9 (zB (decide ((0 : Int) < (x.n : Int)))) ?_ (hw := w1 1 true 6)
  refine zza 10 (zB (decide ((0 : Int) < (x.n : Int)))) (zza 11 (.v x.v) (zza 12 (.v (.agg #[.bool (decide ((0 : Int) < (x.n : Int))), x.v])) (zzi ⟨24, [.bool (decide ((0 : Int) < (x.n : Int))), x.v]⟩ ty24 ?_)))
  refine zzb (zzn (ret0 [.agg #[.bool (decide ((0 : Int) < (x.n : Int))), .slice x.a x.n x.c]] ⟨zzq ty24 zze, trivial⟩ fun u12 e13 => ?_))
  rw [hs11]
  exact ⟨⟨_, x⟩, rfl, signed_int (s := true) (h.ext e13)⟩
 ·refine zyn 6 (x := zB s) (zB false) (by rw [hs11]) (zzm 7 (uw 1 true false 6) (zzm 8 (uw 1 true false 6) (zzm 9 (uw 1 true false 6) (zza 10 (zB false) (zza 11 (.v x.v) (zza 12 (.v (.agg #[.bool false, x.v])) (zzi ⟨24, [.bool false, x.v]⟩ ty24 ?_)))))))
  refine zzb (zzn (ret0 [.agg #[.bool false, .slice x.a x.n x.c]] ⟨zzq ty24 zze, trivial⟩ fun u14 e15 => ?_))
  rw [hs11]
  exact ⟨⟨_, x⟩, rfl, signed_int (s := false) (h.ext e15)⟩
theorem k_intTrim {u w : World} {i1 : IL} {zN : Int} {K : Nat} (d : Dat u w) (hi1 : IntV u i1 zN K) (hK : K ≤ 500000000) : Calls Tryz.prog 211 #[i1.v] w (Post u w fun v u' => ∃ i : IL, v = i.v ∧ IntN u' i zN K) := by
 obtain ⟨N, hN, hzN⟩ := hi1
 refine zzl (args := [i1.v]) Tryz.func211 rfl Tryz.ntmps211 (rs := [.cell 2 24]) Tryz.results211 (le_b rfl) (le_b rfl) d ?_
 refine sq9 (zzj 1 ⟨24, i1.cs⟩ (zzj 2 ⟨24, [.bool false, .slice none 0 0]⟩ (zzb (zzd (zzy [0, 1, 0, 4, 12, 31, 63] [(0, []), (1, []), (2, []), (3, []), (4, []), (5, []), (6, [])] xj xj (zza 3 (.adr 1 0) (zzh 4 (zB i1.s) ty4 zzk (zza 5 (.adr 1 1) (zzh 6 (.v i1.m.v) ty22 zzk (zzg 7 214 [i1.m.v] ?_))))))))))
 intro w11 u11 e11 d11
 have k16 := k_natTrim d11 (hN.ext e11) xq
 with_reducible refine zPm k16 ?_
 rintro _ u14 g15 ⟨x12, rfl, h13⟩
 refine zzg 8 222 [.bool i1.s, x12.v] ?_
 intro w17 u17 e17 d17
 have k22 := k_signed d17 (s := i1.s) (h13.ext e17)
 with_reducible refine zPm k22 ?_
 rintro _ u20 g21 ⟨i18, rfl, h19⟩
 refine zzi ⟨24, i18.cs⟩ ty24 ?_
 refine zzb (zzn (ret0 [i18.v] ⟨zzq ty24 zze, trivial⟩ fun u23 e24 => ?_))
 refine ⟨i18, rfl, IntN.more (K := K) ?_ xq⟩
 rw [hzN]
 exact (h19.ext e24)
theorem k_intMul {u w : World} {i1 : IL} {zN : Int} {K : Nat} {i2 : IL} {zM : Int} {L : Nat} (d : Dat u w) (hi1 : IntV u i1 zN K) (hi2 : IntV u i2 zM L) (hK : K ≤ 500000000) (hL : L ≤ 500000000) : Calls Tryz.prog 194 #[i1.v, i2.v] w (Post u w fun v u' => ∃ i : IL, v = i.v ∧ IntN u' i (zN * zM) (K + L)) := by
 obtain ⟨N, hN, hzN⟩ := hi1
 obtain ⟨M, hM, hzM⟩ := hi2
 refine zzl (args := [i1.v, i2.v]) Tryz.func194 rfl Tryz.ntmps194 (rs := [.cell 4 24]) Tryz.results194 (le_b rfl) (le_b rfl) d ?_
 refine sq9 (zzj 2 ⟨24, i1.cs⟩ (zzj 3 ⟨24, i2.cs⟩ (zzj 4 ⟨24, [.bool false, .slice none 0 0]⟩ (zzb (zzd (zzy [0, 1, 0, 4, 15, 0, 32, 0, 128, 480, 1023, 2047] [(0, []), (1, []), (2, []), (3, []), (4, []), (5, []), (6, []), (7, []), (8, []), (9, []), (10, []), (11, [])] xj xj (zza 5 (.adr 2 0) (zzh 6 (zB i1.s) ty4 zzk (zza 7 (.adr 3 0) (zzh 8 (zB i2.s) ty4 zzk (zza 9 (zB (!(i1.s == i2.s))) ?_)))))))))))
 refine zza 10 (.adr 2 1) (zzh 11 (.v i1.m.v) ty22 zzk (zza 12 (.adr 3 1) (zzh 13 (.v i2.m.v) ty22 zzk (zzg 14 156 [i1.m.v, i2.m.v] ?_))))
 intro w11 u11 e11 d11
 have k16 := k_natMul d11 (hN.ext e11) (hM.ext e11) xq xq
 with_reducible refine zPm k16 ?_
 rintro _ u14 g15 ⟨x12, rfl, h13⟩
 refine zzg 15 222 [.bool (!(i1.s == i2.s)), x12.v] ?_
 intro w17 u17 e17 d17
 have k22 := k_signed d17 (s := !(i1.s == i2.s)) (h13.ext e17)
 with_reducible refine zPm k22 ?_
 rintro _ u20 g21 ⟨i18, rfl, h19⟩
 refine zzi ⟨24, i18.cs⟩ ty24 ?_
 refine zzb (zzn (ret0 [i18.v] ⟨zzq ty24 zze, trivial⟩ fun u23 e24 => ?_))
 refine ⟨i18, rfl, IntN.more (K := (K + L)) ?_ xq⟩
 rw [hzN, hzM, ← Nt.sg_mul]
 exact (h19.ext e24)
theorem k_intAdd {u w : World} {i1 : IL} {zN : Int} {K : Nat} {i2 : IL} {zM : Int} {L : Nat} (d : Dat u w) (hi1 : IntV u i1 zN K) (hi2 : IntV u i2 zM L) (hK : K ≤ 500000000) (hL : L ≤ 500000000) : Calls Tryz.prog 159 #[i1.v, i2.v] w (Post u w fun v u' => ∃ i : IL, v = i.v ∧ IntN u' i (zN + zM) (max K L + 1)) := by
 obtain ⟨N, hN, hzN⟩ := hi1
 obtain ⟨M, hM, hzM⟩ := hi2
 refine zzl (args := [i1.v, i2.v]) Tryz.func159 rfl Tryz.ntmps159 (rs := [.cell 4 24]) Tryz.results159 (le_b rfl) (le_b rfl) d ?_
 refine sq9 (zzj 2 ⟨24, i1.cs⟩ (zzj 3 ⟨24, i2.cs⟩ (zzj 4 ⟨24, [.bool false, .slice none 0 0]⟩ (zzb (zzd (sq9 (zza 5 (.adr 2 0) (zzh 6 (zB i1.s) ty4 zzk (zza 7 (.adr 3 0) (zzh 8 (zB i2.s) ty4 zzk (zza 9 (zB (i1.s == i2.s)) ?_)))))))))))
 refine zzb (zzt (b := i1.s == i2.s) xj (fun hb11 => ?_) (fun hb11 => ?_))
 ·replace hb11 : (i1.s == i2.s) = true := hb11
  refine zzd (zzy [0, 1, 0, 4, 0, 16, 60, 127, 255] [(0, []), (1, []), (2, []), (3, []), (4, []), (5, []), (6, []), (7, []), (8, [])] xj xj (zza 10 (.adr 2 0) (zzh 11 (zB i1.s) ty4 zzk (zza 12 (.adr 2 1) (zzh 13 (.v i1.m.v) ty22 zzk (zza 14 (.adr 3 1) (zzh 15 (.v i2.m.v) ty22 zzk (zzg 16 155 [i1.m.v, i2.m.v] ?_))))))))
  intro w12 u12 e12 d12
  have k17 := k_natAdd d12 (hN.ext e12) (hM.ext e12) xq xq
  with_reducible refine zPm k17 ?_
  rintro _ u15 g16 ⟨x13, rfl, h14⟩
  refine zzg 17 222 [.bool i1.s, x13.v] ?_
  intro w18 u18 e18 d18
  have k23 := k_signed d18 (s := i1.s) (h14.ext e18)
  with_reducible refine zPm k23 ?_
  rintro _ u21 g22 ⟨i19, rfl, h20⟩
  refine zzi ⟨24, i19.cs⟩ ty24 ?_
  refine zzb (zzn (zzv (ret0 [i19.v] ⟨zzq ty24 zze, trivial⟩ fun u24 e25 => ?_)))
  refine ⟨i19, rfl, IntN.more (K := (max K L + 1)) ?_ xq⟩
  rw [hzN, hzM, ← Nt.sg_add1 N M hb11]
  exact (h20.ext e25)
 ·replace hb11 : (i1.s == i2.s) = false := hb11
  refine zzr (zzo ?_)
  refine zzd (sq9 (zza 18 (.adr 2 1) (zzh 19 (.v i1.m.v) ty22 zzk (zza 20 (.adr 3 1) (zzh 21 (.v i2.m.v) ty22 zzk (zzg 22 83 [i1.m.v, i2.m.v] ?_))))))
  intro w26 u26 e26 d26
  have k29 := k_natCompare d26 (hN.ext e26) (hM.ext e26)
  with_reducible refine zPm k29 ?_
  rintro _ u27 g28 rfl
  refine zza 23 (zB ((Nt.cmpS N M) == (-1))) (zzb (zzt (b := (Nt.cmpS N M) == (-1)) xj (fun hb30 => ?_) (fun hb30 => ?_)))
  ·replace hb30 : ((Nt.cmpS N M) == (-1)) = true := hb30
   refine zzd (zzy [0, 1, 0, 4, 0, 16, 60, 127, 255] [(0, []), (1, []), (2, []), (3, []), (4, []), (5, []), (6, []), (7, []), (8, [])] xj xj (zza 24 (.adr 3 0) (zzh 25 (zB i2.s) ty4 zzk (zza 26 (.adr 3 1) (zzh 27 (.v i2.m.v) ty22 zzk (zza 28 (.adr 2 1) (zzh 29 (.v i1.m.v) ty22 zzk (zzg 30 223 [i2.m.v, i1.m.v] ?_))))))))
   intro w31 u31 e31 d31
   have k36 := k_natSub d31 (hM.ext (e26.trans (g28.ext.trans e31))) (hN.ext (e26.trans (g28.ext.trans e31))) xq xq
   with_reducible refine zPm k36 ?_
   rintro _ u34 g35 ⟨x32, rfl, h33⟩
   refine zzg 31 222 [.bool i2.s, x32.v] ?_
   intro w37 u37 e37 d37
   have k42 := k_signed d37 (s := i2.s) (h33.ext e37)
   with_reducible refine zPm k42 ?_
   rintro _ u40 g41 ⟨i38, rfl, h39⟩
   refine zzi ⟨24, i38.cs⟩ ty24 ?_
   refine zzb (zzn (zzv (ret0 [i38.v] ⟨zzq ty24 zze, trivial⟩ fun u43 e44 => ?_)))
   refine ⟨i38, rfl, IntN.more (K := L) ?_ xq⟩
   rw [hzN, hzM, ← Nt.sg_add2 N M hb11 hb30]
   exact (h39.ext e44)
  ·replace hb30 : ((Nt.cmpS N M) == (-1)) = false := hb30
   refine zzr (zzo ?_)
   refine zzd (zzy [0, 1, 0, 4, 0, 16, 60, 127, 255] [(0, []), (1, []), (2, []), (3, []), (4, []), (5, []), (6, []), (7, []), (8, [])] xj xj (zza 32 (.adr 2 0) (zzh 33 (zB i1.s) ty4 zzk (zza 34 (.adr 2 1) (zzh 35 (.v i1.m.v) ty22 zzk (zza 36 (.adr 3 1) (zzh 37 (.v i2.m.v) ty22 zzk (zzg 38 223 [i1.m.v, i2.m.v] ?_))))))))
   intro w45 u45 e45 d45
   have k50 := k_natSub d45 (hN.ext (e26.trans (g28.ext.trans e45))) (hM.ext (e26.trans (g28.ext.trans e45))) xq xq
   with_reducible refine zPm k50 ?_
   rintro _ u48 g49 ⟨x46, rfl, h47⟩
   refine zzg 39 222 [.bool i1.s, x46.v] ?_
   intro w51 u51 e51 d51
   have k56 := k_signed d51 (s := i1.s) (h47.ext e51)
   with_reducible refine zPm k56 ?_
   rintro _ u54 g55 ⟨i52, rfl, h53⟩
   refine zzi ⟨24, i52.cs⟩ ty24 ?_
   refine zzb (zzn (ret0 [i52.v] ⟨zzq ty24 zze, trivial⟩ fun u57 e58 => ?_))
   refine ⟨i52, rfl, IntN.more (K := K) ?_ xq⟩
   rw [hzN, hzM, ← Nt.sg_add3 N M hb11 hb30]
   exact (h53.ext e58)
theorem k_intSign {u w : World} {i1 : IL} {zN : Int} {K : Nat} (d : Dat u w) (hi1 : IntV u i1 zN K)  : Calls Tryz.prog 146 #[i1.v] w (Post u w fun v u' => v = .int .i64 (Nt.cmpS zN 0)) := by
 obtain ⟨N, hN, hzN⟩ := hi1
 refine zzl (args := [i1.v]) Tryz.func146 rfl Tryz.ntmps146 (rs := [.tmp 2]) Tryz.results146 (le_b rfl) (le_b rfl) d ?_
 refine sq9 (zzj 1 ⟨24, i1.cs⟩ (zza 2 (zI 0) (zzb (zzd (zzs (sq9 (zza 4 (.adr 1 1) (zzh 5 (.v i1.m.v) ty22 zzk (zzg 6 83 [i1.m.v, .slice none 0 0] ?_)))))))))
 intro w11 u11 e11 d11
 have k14 := k_natCompare d11 (hN.ext e11) (nat_nil _ 1)
 with_reducible refine zPm k14 ?_
 rintro _ u12 g13 rfl
 refine zza 7 (zB ((Nt.cmpS N 0) == 0)) (zza 3 (zB ((Nt.cmpS N 0) == 0)) (zzb (zzt (b := (Nt.cmpS N 0) == 0) xj (fun hb15 => ?_) (fun hb15 => ?_))))
 ·replace hb15 : ((Nt.cmpS N 0) == 0) = true := hb15
  refine sq9 (zza 2 (zI 0) (zzb (zzn (zyr (zzv (ret0 [.int .i64 0] ⟨zzp, trivial⟩ fun u16 e17 => ?_))))))
  show _ = _
  rw [hzN, Nt.sg_cmp0, if_pos hb15]
  rfl
 ·replace hb15 : ((Nt.cmpS N 0) == 0) = false := hb15
  refine sq9 (zza 9 (.adr 1 0) (zzh 10 (zB i1.s) ty4 zzk (zza 8 (zB i1.s) (zzb (zzt (b := i1.s) xj (fun hb18 => ?_) (fun hb18 => ?_))))))
  ·replace hb18 : i1.s = true := hb18
   refine sq9 (zza 2 (zI (-1)) (zzb (zzn (zyr (zzv (ret0 [.int .i64 (-1)] ⟨zzp, trivial⟩ fun u19 e20 => ?_))))))
   show _ = _
   rw [hzN, Nt.sg_cmp0, if_neg (ne_true_of_eq_false hb15), if_pos hb18]
   rfl
  ·replace hb18 : i1.s = false := hb18
   refine zzr (zzo ?_)
   refine sq9 (zza 2 (zI 1) (zzb (zzn (ret0 [.int .i64 1] ⟨zzp, trivial⟩ fun u21 e22 => ?_))))
   show _ = _
   rw [hzN, Nt.sg_cmp0, if_neg (ne_true_of_eq_false hb15), if_neg (ne_true_of_eq_false hb18)]
   rfl
namespace Nt
theorem cmp_sg (s t : Bool) (N M : Nat) : cmpS (sg s N) (sg t M) = if decide (cmpS (sg s N) 0 < cmpS (sg t M) 0) = true then -1 else if decide (cmpS (sg t M) 0 < cmpS (sg s N) 0) = true then 1 else if (cmpS (sg s N) 0 == -1) = true then cmpS (M : Int) (N : Int) else cmpS (N : Int) (M : Int) := by
 rcases cmp_range (sg s N) 0 with ⟨e, h⟩ | ⟨e, h⟩ | ⟨e, h⟩ <;> rcases cmp_range (sg t M) 0 with ⟨e', h'⟩ | ⟨e', h'⟩ | ⟨e', h'⟩ <;> rw [e, e'] <;> simp
 ·unfold sg at *; cases s <;> cases t <;> simp at h h' ⊢ <;> unfold cmpS <;> (repeat' split) <;> first | rfl | omega
 ·exact cmp_lt xq
 ·exact cmp_lt xq
 ·exact cmp_gt xq
 ·rw [h, h']; unfold sg at *; cases s <;> cases t <;> simp at h h' <;> rw [h, h'] <;> rfl
 ·exact cmp_lt xq
 ·exact cmp_gt xq
 ·exact cmp_gt xq
 ·unfold sg at *; cases s <;> cases t <;> simp at h h' ⊢ <;> first | rfl | omega
end Nt
theorem k_intCompare {u w : World} {i1 : IL} {zN : Int} {K : Nat} {i2 : IL} {zM : Int} {L : Nat} (d : Dat u w) (hi1 : IntV u i1 zN K) (hi2 : IntV u i2 zM L)  : Calls Tryz.prog 181 #[i1.v, i2.v] w (Post u w fun v u' => v = .int .i64 (Nt.cmpS zN zM)) := by
 obtain ⟨N, hN, hzN⟩ := hi1
 obtain ⟨M, hM, hzM⟩ := hi2
 refine zzl (args := [i1.v, i2.v]) Tryz.func181 rfl Tryz.ntmps181 (rs := [.tmp 4]) Tryz.results181 (le_b rfl) (le_b rfl) d ?_
 refine sq9 (zzj 2 ⟨24, i1.cs⟩ (zzj 3 ⟨24, i2.cs⟩ (zza 4 (zI 0) (zzb (zzd (zzy [0, 1, 0, 7, 15, 31] [(0, []), (2, []), (1, []), (3, []), (4, []), (5, [])] xj xj (zzh 7 (.v (i1.v)) ty24 zze (zzh 9 (.v (i2.v)) ty24 zze (zzg 8 146 [i1.v] ?_)))))))))
 intro w11 u11 e11 d11
 have k14 := k_intSign d11 (IntV.same (s := i1.s) (hN.ext e11))
 with_reducible refine zPm k14 ?_
 rintro _ u12 g13 rfl
 refine zzg 10 146 [i2.v] ?_
 intro w15 u15 e15 d15
 have k18 := k_intSign d15 (IntV.same (s := i2.s) (hM.ext (e11.trans (g13.ext.trans e15))))
 with_reducible refine zPm k18 ?_
 rintro _ u16 g17 rfl
 refine zza 5 (zI (Nt.cmpS (Nt.sg i1.s N) 0)) (zza 6 (zI (Nt.cmpS (Nt.sg i2.s M) 0)) (zzb (zzd (zzs (sq9 (zza 12 (zI (Nt.cmpS (Nt.sg i1.s N) 0)) (zza 13 (zI (Nt.cmpS (Nt.sg i2.s M) 0)) (zza 14 (zB (decide ((Nt.cmpS (Nt.sg i1.s N) 0) < (Nt.cmpS (Nt.sg i2.s M) 0)))) (zza 11 (zB (decide ((Nt.cmpS (Nt.sg i1.s N) 0) < (Nt.cmpS (Nt.sg i2.s M) 0)))) (zzb (zzt (b := decide ((Nt.cmpS (Nt.sg i1.s N) 0) < (Nt.cmpS (Nt.sg i2.s M) 0))) xj (fun hb19 => ?_) (fun hb19 => ?_))))))))))))
 ·replace hb19 : (decide ((Nt.cmpS (Nt.sg i1.s N) 0) < (Nt.cmpS (Nt.sg i2.s M) 0))) = true := hb19
  have qhb19 := of_decide_eq_true hb19
  refine sq9 (zza 4 (zI (-1)) (zzb (zzn (zyr (zzv (ret0 [.int .i64 (-1)] ⟨zzp, trivial⟩ fun u20 e21 => ?_))))))
  show _ = _
  rw [hzN, hzM, Nt.cmp_sg, if_pos hb19]
  rfl
 ·replace hb19 : (decide ((Nt.cmpS (Nt.sg i1.s N) 0) < (Nt.cmpS (Nt.sg i2.s M) 0))) = false := hb19
  have qhb19 := of_decide_eq_false hb19
  refine sq9 (zza 16 (zI (Nt.cmpS (Nt.sg i1.s N) 0)) (zza 17 (zI (Nt.cmpS (Nt.sg i2.s M) 0)) (zza 18 (zB (decide ((Nt.cmpS (Nt.sg i2.s M) 0) < (Nt.cmpS (Nt.sg i1.s N) 0)))) (zza 15 (zB (decide ((Nt.cmpS (Nt.sg i2.s M) 0) < (Nt.cmpS (Nt.sg i1.s N) 0)))) (zzb (zzt (b := decide ((Nt.cmpS (Nt.sg i2.s M) 0) < (Nt.cmpS (Nt.sg i1.s N) 0))) xj (fun hb22 => ?_) (fun hb22 => ?_)))))))
  ·replace hb22 : (decide ((Nt.cmpS (Nt.sg i2.s M) 0) < (Nt.cmpS (Nt.sg i1.s N) 0))) = true := hb22
   have qhb22 := of_decide_eq_true hb22
   refine sq9 (zza 4 (zI 1) (zzb (zzn (zyr (zzv (ret0 [.int .i64 1] ⟨zzp, trivial⟩ fun u23 e24 => ?_))))))
   show _ = _
   rw [hzN, hzM, Nt.cmp_sg, if_neg (ne_true_of_eq_false hb19), if_pos hb22]
   rfl
  ·replace hb22 : (decide ((Nt.cmpS (Nt.sg i2.s M) 0) < (Nt.cmpS (Nt.sg i1.s N) 0))) = false := hb22
   have qhb22 := of_decide_eq_false hb22
   refine sq9 (zza 20 (zI (Nt.cmpS (Nt.sg i1.s N) 0)) (zza 21 (zB ((Nt.cmpS (Nt.sg i1.s N) 0) == (-1))) (zza 19 (zB ((Nt.cmpS (Nt.sg i1.s N) 0) == (-1))) (zzb (zzt (b := (Nt.cmpS (Nt.sg i1.s N) 0) == (-1)) xj (fun hb25 => ?_) (fun hb25 => ?_))))))
   ·replace hb25 : ((Nt.cmpS (Nt.sg i1.s N) 0) == (-1)) = true := hb25
    refine sq9 (zza 22 (.adr 3 1) (zzh 23 (.v i2.m.v) ty22 zzk (zza 24 (.adr 2 1) (zzh 25 (.v i1.m.v) ty22 zzk (zzg 26 83 [i2.m.v, i1.m.v] ?_)))))
    intro w26 u26 e26 d26
    have k29 := k_natCompare d26 (hM.ext (e11.trans (g13.ext.trans (e15.trans (g17.ext.trans e26))))) (hN.ext (e11.trans (g13.ext.trans (e15.trans (g17.ext.trans e26)))))
    with_reducible refine zPm k29 ?_
    rintro _ u27 g28 rfl
    refine zza 4 (zI (Nt.cmpS M N)) (zzb (zzn (zyr (zzv (ret0 [.int .i64 (Nt.cmpS M N)] ⟨zzp, trivial⟩ fun u30 e31 => ?_)))))
    show _ = _
    rw [hzN, hzM, Nt.cmp_sg, if_neg (ne_true_of_eq_false hb19), if_neg (ne_true_of_eq_false hb22), if_pos hb25]
    rfl
   ·replace hb25 : ((Nt.cmpS (Nt.sg i1.s N) 0) == (-1)) = false := hb25
    refine zzr (zzo ?_)
    refine sq9 (zza 27 (.adr 2 1) (zzh 28 (.v i1.m.v) ty22 zzk (zza 29 (.adr 3 1) (zzh 30 (.v i2.m.v) ty22 zzk (zzg 31 83 [i1.m.v, i2.m.v] ?_)))))
    intro w32 u32 e32 d32
    have k35 := k_natCompare d32 (hN.ext (e11.trans (g13.ext.trans (e15.trans (g17.ext.trans e32))))) (hM.ext (e11.trans (g13.ext.trans (e15.trans (g17.ext.trans e32)))))
    with_reducible refine zPm k35 ?_
    rintro _ u33 g34 rfl
    refine zza 4 (zI (Nt.cmpS N M)) (zzb (zzn (ret0 [.int .i64 (Nt.cmpS N M)] ⟨zzp, trivial⟩ fun u36 e37 => ?_)))
    show _ = _
    rw [hzN, hzM, Nt.cmp_sg, if_neg (ne_true_of_eq_false hb19), if_neg (ne_true_of_eq_false hb22), if_neg (ne_true_of_eq_false hb25)]
    rfl
theorem k_intOf {u w : World} {z : Int} (d : Dat u w) (h0 : -9223372036854775808 ≤ z) (h1 : z ≤ 9223372036854775807) : Calls Tryz.prog 160 #[.int .i64 z] w (Post u w fun v u' => ∃ i : IL, v = i.v ∧ IntN u' i z 2) := by
 by_cases hneg : z < 0
 ·refine zzl (args := [.int .i64 z]) Tryz.func160 rfl Tryz.ntmps160 (rs := [.cell 2 24]) Tryz.results160 (le_b rfl) (le_b rfl) d ?_
  refine sq9 (zzj 2 ⟨24, [.bool false, .slice none 0 0]⟩ (zzb (sq9 (zza 4 (zI z) (zyn 5 (x := .v (.int .u64 (IntKind.u64.wrap z))) (.v (.int .u64 (z + 18446744073709551616))) (by rw [show (IntKind.u64.wrap z) = (z + 18446744073709551616) from (by simp [IntKind.wrap, IntKind.bits, IntKind.signed]; omega)]) (zza 3 (.v (.int .u64 (z + 18446744073709551616))) (zzb (zzd (sq9 (zza 6 (zI z) (zyn 7 (x := zB (decide (z < 0))) (zB true) (by rw [show (decide (z < 0)) = true from yv]) ?_)))))))))))
  refine zzb (zyo xj (zzf (zza 8 (.v (.int .u64 (z + 18446744073709551616))) (zyn 9 (x := .v (.int .u64 (IntKind.u64.wrap (0 - (z + 18446744073709551616))))) (.v (.int .u64 (-z))) (by rw [show (IntKind.u64.wrap (0 - (z + 18446744073709551616))) = (-z) from (by simp [IntKind.wrap, IntKind.bits, IntKind.signed]; omega)]) (zza 3 (.v (.int .u64 (-z))) (zzb (sq9 (zza 10 (zI z) (zyn 11 (x := zB (decide (z < 0))) (zB true) (by rw [show (decide (z < 0)) = true from yv]) (zza 12 (.v (.int .u64 (-z))) (zyn 13 (x := .v (.int .u32 (IntKind.u32.wrap (-z)))) (.v (.int .u32 ((-z) % 4294967296))) (by rw [show (IntKind.u32.wrap (-z)) = ((-z) % 4294967296) from (IntKind.wrap_u32 _)]) ?_)))))))))))
  refine zza 14 (.v (.int .u64 (-z))) (zyn 15 (x := .v (.int .u64 (Int.fdiv (-z) (2 ^ 32)))) (.v (.int .u64 ((-z) / 4294967296))) (by rw [show (Int.fdiv (-z) (2 ^ 32)) = ((-z) / 4294967296) from (by rw [Int.fdiv_eq_ediv_of_nonneg _ xw]; rfl)]) (zyn 16 (x := .v (.int .u32 (IntKind.u32.wrap ((-z) / 4294967296)))) (.v (.int .u32 ((-z) / 4294967296))) (by rw [show (IntKind.u32.wrap ((-z) / 4294967296)) = ((-z) / 4294967296) from (IntWalk.u32_in _ xq)]) (zxp 17 ⟨104, [.int .u32 ((-z) % 4294967296), .int .u32 ((-z) / 4294967296)]⟩ 2 (fun b11 u12 e13 h14 => ?_))))
  refine zzg 18 214 [.slice (some ⟨b11, 0, none⟩) 2 2] ?_
  intro w15 u15 e15 d15
  have k20 := k_natTrim d15 ((two_data (N := z.natAbs) h14 xq xq xq).ext e15) xq
  with_reducible refine zPm k20 ?_
  rintro _ u18 g19 ⟨x16, rfl, h17⟩
  refine zzg 19 222 [.bool true, x16.v] ?_
  intro w21 u21 e21 d21
  have k26 := k_signed d21 (s := true) (h17.ext e21)
  with_reducible refine zPm k26 ?_
  rintro _ u24 g25 ⟨i22, rfl, h23⟩
  refine zzi ⟨24, i22.cs⟩ ty24 ?_
  refine zzb (zzn (ret0 [i22.v] ⟨zzq ty24 zze, trivial⟩ fun u27 e28 => ?_))
  refine ⟨i22, rfl, IntN.more (K := 2) ?_ xq⟩
  have e : z = Nt.sg true z.natAbs := by unfold Nt.sg; simp; omega
  rw [e]
  exact (h23.ext e28)
 ·refine zzl (args := [.int .i64 z]) Tryz.func160 rfl Tryz.ntmps160 (rs := [.cell 2 24]) Tryz.results160 (le_b rfl) (le_b rfl) d ?_
  refine sq9 (zzj 2 ⟨24, [.bool false, .slice none 0 0]⟩ (zzb (sq9 (zza 4 (zI z) (zyn 5 (x := .v (.int .u64 (IntKind.u64.wrap z))) (.v (.int .u64 (z))) (by rw [show (IntKind.u64.wrap z) = z from (by simp [IntKind.wrap, IntKind.bits, IntKind.signed]; omega)]) (zza 3 (.v (.int .u64 z)) (zzb (zzd (sq9 (zza 6 (zI z) (zyn 7 (x := zB (decide (z < 0))) (zB false) (by rw [show (decide (z < 0)) = false from yv]) ?_)))))))))))
  refine zzb (zyp xj (zzr (zzo ?_)))
  refine sq9 (zza 10 (zI z) (zyn 11 (x := zB (decide (z < 0))) (zB false) (by rw [show (decide (z < 0)) = false from yv]) (zza 12 (.v (.int .u64 z)) (zyn 13 (x := .v (.int .u32 (IntKind.u32.wrap (z)))) (.v (.int .u32 ((z) % 4294967296))) (by rw [show (IntKind.u32.wrap (z)) = ((z) % 4294967296) from (IntKind.wrap_u32 _)]) (zza 14 (.v (.int .u64 z)) (zyn 15 (x := .v (.int .u64 (Int.fdiv (z) (2 ^ 32)))) (.v (.int .u64 ((z) / 4294967296))) (by rw [show (Int.fdiv (z) (2 ^ 32)) = ((z) / 4294967296) from (by rw [Int.fdiv_eq_ediv_of_nonneg _ xw]; rfl)]) (zyn 16 (x := .v (.int .u32 (IntKind.u32.wrap ((z) / 4294967296)))) (.v (.int .u32 ((z) / 4294967296))) (by rw [show (IntKind.u32.wrap ((z) / 4294967296)) = ((z) / 4294967296) from (IntWalk.u32_in _ xq)]) (zxp 17 ⟨104, [.int .u32 ((z) % 4294967296), .int .u32 ((z) / 4294967296)]⟩ 2 (fun b11 u12 e13 h14 => ?_)))))))))
  refine zzg 18 214 [.slice (some ⟨b11, 0, none⟩) 2 2] ?_
  intro w15 u15 e15 d15
  have k20 := k_natTrim d15 ((two_data (N := z.natAbs) h14 xq xq xq).ext e15) xq
  with_reducible refine zPm k20 ?_
  rintro _ u18 g19 ⟨x16, rfl, h17⟩
  refine zzg 19 222 [.bool false, x16.v] ?_
  intro w21 u21 e21 d21
  have k26 := k_signed d21 (s := false) (h17.ext e21)
  with_reducible refine zPm k26 ?_
  rintro _ u24 g25 ⟨i22, rfl, h23⟩
  refine zzi ⟨24, i22.cs⟩ ty24 ?_
  refine zzb (zzn (ret0 [i22.v] ⟨zzq ty24 zze, trivial⟩ fun u27 e28 => ?_))
  refine ⟨i22, rfl, IntN.more (K := 2) ?_ xq⟩
  have e : z = Nt.sg false z.natAbs := by unfold Nt.sg; simp; omega
  rw [e]
  exact (h23.ext e28)
theorem k_natural {u w : World} {x : Sl} (d : Dat u w) : Calls Tryz.prog 195 #[x.v] w (Post u w fun v _ => v = .agg #[.bool false, x.v]) := by
 refine zzl (args := [.slice x.a x.n x.c]) Tryz.func195 rfl Tryz.ntmps195 (rs := [.cell 2 24]) Tryz.results195 (le_b rfl) (le_b rfl) d ?_
 refine sq9 (zzj 2 ⟨24, [.bool false, .slice none 0 0]⟩ (zzb (sq9 (zza 3 (.v x.v) (zza 4 (.v (.agg #[.bool false, x.v])) (zzi ⟨24, [.bool false, x.v]⟩ ty24 ?_))))))
 refine zzb (zzn (ret0 [.agg #[.bool false, .slice x.a x.n x.c]] ⟨zzq ty24 zze, trivial⟩ fun u11 e12 => ?_))
 exact rfl
theorem k_whole {u w : World} {i : IL} (d : Dat u w) : Calls Tryz.prog 193 #[i.v] w (Post u w fun v u' => ∃ y : Sl, v = .agg #[.bool i.s, i.m.v, y.v] ∧ NatN u' y 1 1) := by
 refine zzl (args := [i.v]) Tryz.func193 rfl Tryz.ntmps193 (rs := [.cell 2 26]) Tryz.results193 (le_b rfl) (le_b rfl) d ?_
 refine sq9 (zzj 1 ⟨24, i.cs⟩ (zzj 2 ⟨26, [.bool false, .slice none 0 0, .slice none 0 0]⟩ (zzb (sq9 (zzh 3 (.v (i.v)) ty24 zze (zxp 4 ⟨104, [.int .u32 1]⟩ 1 (fun b11 u12 e13 h14 => ?_)))))))
 refine zza 5 (.v (.agg #[.bool i.s, i.m.v, .slice (some ⟨b11, 0, none⟩) 1 1])) (zzi ⟨26, i.cs ++ [.slice (some ⟨b11, 0, none⟩) 1 1]⟩ ty26 ?_)
 refine zzb (zzn (ret0 [.agg #[.bool i.s, .slice i.m.a i.m.n i.m.c, .slice (some ⟨b11, 0, none⟩) 1 1]] ⟨zzq ty26 zze, trivial⟩ fun u15 e16 => ?_))
 exact ⟨_, rfl, ((one_data h14).ext e16)⟩
theorem k_quotient {u w : World} {i j : IL} (d : Dat u w) : Calls Tryz.prog 196 #[i.v, j.v] w (Post u w fun v _ => v = .agg #[.bool (!(i.s == j.s)), i.m.v, j.m.v]) := by
 refine zzl (args := [i.v, j.v]) Tryz.func196 rfl Tryz.ntmps196 (rs := [.cell 4 147]) Tryz.results196 (le_b rfl) (le_b rfl) d ?_
 refine sq9 (zzj 2 ⟨24, i.cs⟩ (zzj 3 ⟨24, j.cs⟩ (zzj 4 ⟨147, [.bool false, .slice none 0 0, .slice none 0 0]⟩ (zzb (sq9 (zza 5 (.adr 2 0) (zzh 6 (zB i.s) ty4 zzk (zza 7 (.adr 3 0) (zzh 8 (zB j.s) ty4 zzk (zza 9 (zB (!(i.s == j.s))) (zza 10 (.adr 2 1) ?_)))))))))))
 refine zzh 11 (.v i.m.v) ty22 zzk (zza 12 (.v (.agg #[.bool (!(i.s == j.s)), i.m.v])) (zza 13 (.adr 3 1) (zzh 14 (.v j.m.v) ty22 zzk (zza 15 (.v (.agg #[.bool (!(i.s == j.s)), i.m.v, j.m.v])) (zzi ⟨147, [.bool (!(i.s == j.s)), i.m.v, j.m.v]⟩ ty147 ?_)))))
 refine zzb (zzn (ret0 [.agg #[.bool (!(i.s == j.s)), .slice i.m.a i.m.n i.m.c, .slice j.m.a j.m.n j.m.c]] ⟨zzq ty147 zze, trivial⟩ fun u11 e12 => ?_))
 exact rfl
theorem k_flip {u w : World} {r : RL} (d : Dat u w) : Calls Tryz.prog 226 #[r.v] w (Post u w fun v _ => v = .agg #[.bool (!r.s), r.m.v, r.d.v]) := by
 refine zzl (args := [r.v]) Tryz.func226 rfl Tryz.ntmps226 (rs := [.cell 2 26]) Tryz.results226 (le_b rfl) (le_b rfl) d ?_
 refine sq9 (zzj 1 ⟨26, r.cs⟩ (zzj 2 ⟨26, [.bool false, .slice none 0 0, .slice none 0 0]⟩ (zzb (sq9 (zza 3 (.adr 1 0) (zza 4 (.adr 1 0) (zzh 5 (zB r.s) ty4 zzk (zza 6 (zB (!r.s)) (zza 7 (.adr 1 0) (zza 8 (.adr 1 1) (zzh 9 (.v r.m.v) ty22 zzk ?_)))))))))))
 refine zza 10 (.v (.agg #[.bool (!r.s), r.m.v])) (zza 11 (.adr 1 2) (zzh 12 (.v r.d.v) ty22 zzk (zza 13 (.v (.agg #[.bool (!r.s), r.m.v, r.d.v])) (zzi ⟨26, [.bool (!r.s), r.m.v, r.d.v]⟩ ty26 ?_))))
 refine zzb (zzn (ret0 [.agg #[.bool (!r.s), .slice r.m.a r.m.n r.m.c, .slice r.d.a r.d.n r.d.c]] ⟨zzq ty26 zze, trivial⟩ fun u11 e12 => ?_))
 exact rfl
set_option maxHeartbeats 1000000 in
theorem k_read {u w : World} {r : RL} {q : Rat} {K : Nat} (d : Dat u w) (h : RatV u r q K) : Calls Tryz.prog 147 #[r.v] w (Post u w fun v u' => ∃ (r' : RL) (wh : Bool), v = .agg #[.bool r'.s, r'.m.v, r'.d.v, .bool wh] ∧ NumV u' r' wh q K) := by
 obtain ⟨⟨z, D, hi, hd, hq⟩, hK⟩ := h
 change IntV u ⟨r.s, r.m⟩ z K at hi
 change NatV u r.d D K at hd
 by_cases hn : r.d.n = 1
 ·obtain ⟨b, o, ha, hc⟩ := nat_digit hd hn
  by_cases hD : D = 1
  ·refine zzl (args := [r.v]) Tryz.func147 rfl Tryz.ntmps147 (rs := [.cell 2 149]) Tryz.results147 (le_b rfl) (le_b rfl) d ?_
   refine sq9 (zzj 1 ⟨26, r.cs⟩ (zzj 2 ⟨149, [.bool false, .slice none 0 0, .slice none 0 0, .bool false]⟩ (zzb (zzd (sq9 (zza 3 (.adr 1 2) (zzh 4 (.v r.d.v) ty22 zzk (zza 5 (zI r.d.n) (zyn 6 (x := zB ((r.d.n : Int) == 1)) (zB true) (by rw [show ((r.d.n : Int) == 1) = true from (by simp [hn])]) (zza 7 (zB true) (zza 8 (.adr 1 2) ?_ (hw := w1 4 true 7))))))))))))
   refine zzh 9 (.v r.d.v) ty22 zzk ?_ (hw := w1 4 true 7)
   refine zzz 10 o (i := 0) (n := r.d.n) (by simp) ha xq (by rw [hn]; decide) sl22 ?_ (hw := w1 4 true 7)
   refine zyk 11 (.int .u32 D) ((Ext.refl _).cell hc) ty104 ?_ (hw := w1 4 true 7)
   refine zyn 12 (x := zB ((D : Int) == 1)) (zB true) (by rw [show ((D : Int) == 1) = true from (by simp [hD])]) ?_ (hw := w1 4 true 7)
   refine zza 13 (zB true) (zzb (zyo xj (sq9 (zza 14 (.adr 1 0) (zzh 15 (.v (.agg #[.bool r.s, r.m.v])) ty24 zze (zza 16 (.adr 1 2) (zzh 17 (.v r.d.v) ty22 zzk (zza 18 (.v (r.v)) (zza 19 (.v (.agg #[.bool r.s, r.m.v, r.d.v, .bool true])) (zzi ⟨149, r.cs ++ [.bool true]⟩ ty149 ?_))))))))))
   refine zzb (zzn (zzv (ret0 [.agg #[.bool r.s, .slice r.m.a r.m.n r.m.c, .slice r.d.a r.d.n r.d.c, .bool true]] ⟨zzq ty149 zze, trivial⟩ fun u11 e12 => ?_)))
   exact ⟨r, true, rfl, z, D, hi.ext e12, hd.ext e12, by omega, hq, fun _ => hD, hK⟩
  ·refine zzl (args := [r.v]) Tryz.func147 rfl Tryz.ntmps147 (rs := [.cell 2 149]) Tryz.results147 (le_b rfl) (le_b rfl) d ?_
   refine sq9 (zzj 1 ⟨26, r.cs⟩ (zzj 2 ⟨149, [.bool false, .slice none 0 0, .slice none 0 0, .bool false]⟩ (zzb (zzd (sq9 (zza 3 (.adr 1 2) (zzh 4 (.v r.d.v) ty22 zzk (zza 5 (zI r.d.n) (zyn 6 (x := zB ((r.d.n : Int) == 1)) (zB true) (by rw [show ((r.d.n : Int) == 1) = true from (by simp [hn])]) (zza 7 (zB true) (zza 8 (.adr 1 2) ?_ (hw := w1 4 true 7))))))))))))
   refine zzh 9 (.v r.d.v) ty22 zzk ?_ (hw := w1 4 true 7)
   refine zzz 10 o (i := 0) (n := r.d.n) (by simp) ha xq (by rw [hn]; decide) sl22 ?_ (hw := w1 4 true 7)
   refine zyk 11 (.int .u32 D) ((Ext.refl _).cell hc) ty104 ?_ (hw := w1 4 true 7)
   refine zyn 12 (x := zB ((D : Int) == 1)) (zB false) (by rw [show ((D : Int) == 1) = false from yv]) ?_ (hw := w1 4 true 7)
   refine zza 13 (zB false) (zzb (zyp xj (zzr (zzo ?_))))
   refine zzd (sq9 (zza 20 (.adr 1 2) (zzh 21 (.v r.d.v) ty22 zzk (zzg 22 83 [r.d.v, .slice none 0 0] ?_))))
   intro w11 u11 e11 d11
   have k14 := k_natCompare d11 (hd.ext e11) (nat_nil _ 1)
   with_reducible refine zPm k14 ?_
   rintro _ u12 g13 rfl
   refine zza 23 (zB ((Nt.cmpS D 0) == 0)) (zzb (zzt (b := (Nt.cmpS D 0) == 0) xj (fun hb15 => ?_) (fun hb15 => ?_)))
   ·replace hb15 : ((Nt.cmpS D 0) == 0) = true := hb15
    refine sq9 (zza 24 (.v (.agg #[.bool false, .slice none 0 0])) (zxp 25 ⟨104, [.int .u32 1]⟩ 1 (fun b16 u17 e18 h19 => ?_)))
    refine zza 26 (.v (.agg #[.bool false, .slice none 0 0, .slice (some ⟨b16, 0, none⟩) 1 1])) (zza 27 (.v (.agg #[.bool false, .slice none 0 0, .slice (some ⟨b16, 0, none⟩) 1 1, .bool true])) (zzi ⟨149, [.bool false, .slice none 0 0, .slice (some ⟨b16, 0, none⟩) 1 1, .bool true]⟩ ty149 ?_))
    refine zzb (zzn (zzv (ret0 [.agg #[.bool false, .slice none 0 0, .slice (some ⟨b16, 0, none⟩) 1 1, .bool true]] ⟨zzq ty149 zze, trivial⟩ fun u20 e21 => ?_)))
    have hD0 : D = 0 := (Nt.cmp_nat0 hb15).1 rfl
    refine ⟨⟨false, ⟨none, 0, 0⟩, (⟨some ⟨b16, 0, none⟩, 1, 1⟩ : Sl)⟩, true, rfl, 0, 1, (⟨0, nat_nil _ K, rfl⟩ : IntV _ ⟨false, ⟨none, 0, 0⟩⟩ 0 K), ((one_data h19).ext e21).raw.more hK, by omega, ?_, fun _ => rfl, hK⟩
    rw [hq, hD0]; simp
   ·replace hb15 : ((Nt.cmpS D 0) == 0) = false := hb15
    refine zzr (zzo ?_)
    refine sq9 (zza 28 (.adr 1 0) (zzh 29 (.v (.agg #[.bool r.s, r.m.v])) ty24 zze (zza 30 (.adr 1 2) (zzh 31 (.v r.d.v) ty22 zzk (zza 32 (.v (r.v)) (zza 33 (.v (.agg #[.bool r.s, r.m.v, r.d.v, .bool false])) (zzi ⟨149, r.cs ++ [.bool false]⟩ ty149 ?_)))))))
    refine zzb (zzn (ret0 [.agg #[.bool r.s, .slice r.m.a r.m.n r.m.c, .slice r.d.a r.d.n r.d.c, .bool false]] ⟨zzq ty149 zze, trivial⟩ fun u22 e23 => ?_))
    have hD0 : 0 < D := (Nt.cmp_nat0 hb15).2 rfl
    exact ⟨r, false, rfl, z, D, hi.ext (e11.trans (g13.ext.trans e23)), hd.ext (e11.trans (g13.ext.trans e23)), hD0, hq, (fun k => by cases k), hK⟩
 ·refine zzl (args := [r.v]) Tryz.func147 rfl Tryz.ntmps147 (rs := [.cell 2 149]) Tryz.results147 (le_b rfl) (le_b rfl) d ?_
  refine sq9 (zzj 1 ⟨26, r.cs⟩ (zzj 2 ⟨149, [.bool false, .slice none 0 0, .slice none 0 0, .bool false]⟩ (zzb (zzd (sq9 (zza 3 (.adr 1 2) (zzh 4 (.v r.d.v) ty22 zzk (zza 5 (zI r.d.n) (zyn 6 (x := zB ((r.d.n : Int) == 1)) (zB false) (by rw [show ((r.d.n : Int) == 1) = false from yv]) (zza 7 (zB false) (zzm 8 (uw 4 true false 7) ?_)))))))))))
  refine zzm 9 (uw 4 true false 7) (zzm 10 (uw 4 true false 7) (zzm 11 (uw 4 true false 7) (zzm 12 (uw 4 true false 7) (zza 13 (zB false) (zzb (zyp xj (zzr (zzo ?_))))))))
  refine zzd (sq9 (zza 20 (.adr 1 2) (zzh 21 (.v r.d.v) ty22 zzk (zzg 22 83 [r.d.v, .slice none 0 0] ?_))))
  intro w11 u11 e11 d11
  have k14 := k_natCompare d11 (hd.ext e11) (nat_nil _ 1)
  with_reducible refine zPm k14 ?_
  rintro _ u12 g13 rfl
  refine zza 23 (zB ((Nt.cmpS D 0) == 0)) (zzb (zzt (b := (Nt.cmpS D 0) == 0) xj (fun hb15 => ?_) (fun hb15 => ?_)))
  ·replace hb15 : ((Nt.cmpS D 0) == 0) = true := hb15
   refine sq9 (zza 24 (.v (.agg #[.bool false, .slice none 0 0])) (zxp 25 ⟨104, [.int .u32 1]⟩ 1 (fun b16 u17 e18 h19 => ?_)))
   refine zza 26 (.v (.agg #[.bool false, .slice none 0 0, .slice (some ⟨b16, 0, none⟩) 1 1])) (zza 27 (.v (.agg #[.bool false, .slice none 0 0, .slice (some ⟨b16, 0, none⟩) 1 1, .bool true])) (zzi ⟨149, [.bool false, .slice none 0 0, .slice (some ⟨b16, 0, none⟩) 1 1, .bool true]⟩ ty149 ?_))
   refine zzb (zzn (zzv (ret0 [.agg #[.bool false, .slice none 0 0, .slice (some ⟨b16, 0, none⟩) 1 1, .bool true]] ⟨zzq ty149 zze, trivial⟩ fun u20 e21 => ?_)))
   have hD0 : D = 0 := (Nt.cmp_nat0 hb15).1 rfl
   refine ⟨⟨false, ⟨none, 0, 0⟩, (⟨some ⟨b16, 0, none⟩, 1, 1⟩ : Sl)⟩, true, rfl, 0, 1, (⟨0, nat_nil _ K, rfl⟩ : IntV _ ⟨false, ⟨none, 0, 0⟩⟩ 0 K), ((one_data h19).ext e21).raw.more hK, by omega, ?_, fun _ => rfl, hK⟩
   rw [hq, hD0]; simp
  ·replace hb15 : ((Nt.cmpS D 0) == 0) = false := hb15
   refine zzr (zzo ?_)
   refine sq9 (zza 28 (.adr 1 0) (zzh 29 (.v (.agg #[.bool r.s, r.m.v])) ty24 zze (zza 30 (.adr 1 2) (zzh 31 (.v r.d.v) ty22 zzk (zza 32 (.v (r.v)) (zza 33 (.v (.agg #[.bool r.s, r.m.v, r.d.v, .bool false])) (zzi ⟨149, r.cs ++ [.bool false]⟩ ty149 ?_)))))))
   refine zzb (zzn (ret0 [.agg #[.bool r.s, .slice r.m.a r.m.n r.m.c, .slice r.d.a r.d.n r.d.c, .bool false]] ⟨zzq ty149 zze, trivial⟩ fun u22 e23 => ?_))
   have hD0 : 0 < D := (Nt.cmp_nat0 hb15).2 rfl
   exact ⟨r, false, rfl, z, D, hi.ext (e11.trans (g13.ext.trans e23)), hd.ext (e11.trans (g13.ext.trans e23)), hD0, hq, (fun k => by cases k), hK⟩
theorem k_isOne {u w : World} {x : Sl} {N K : Nat} (d : Dat u w) (h : NatN u x N K) : Calls Tryz.prog 213 #[x.v] w (Post u w fun v _ => v = .bool (decide (N = 1))) := by
 by_cases hn : x.n = 1
 ·obtain ⟨b, o, ha, hc⟩ := nat_digit h.raw hn
  refine zzl (args := [.slice x.a x.n x.c]) Tryz.func213 rfl Tryz.ntmps213 (rs := [.tmp 2]) Tryz.results213 (le_b rfl) (le_b rfl) d ?_
  refine sq9 (zza 2 (zB false) (zzb (sq9 (zza 3 (.v x.v) (zza 4 (zI x.n) (zyn 5 (x := zB ((x.n : Int) == 1)) (zB true) (by rw [show ((x.n : Int) == 1) = true from (by simp [hn])]) (zza 6 (zB true) (zza 7 (.v x.v) ?_ (hw := w1 3 true 6)))))))))
  refine zzz 8 o (i := 0) (n := x.n) (by simp) ha xq (by rw [hn]; decide) sl22 ?_ (hw := w1 3 true 6)
  refine zyk 9 (.int .u32 N) ((Ext.refl _).cell hc) ty104 ?_ (hw := w1 3 true 6)
  refine zza 10 (zB ((N : Int) == 1)) ?_ (hw := w1 3 true 6)
  refine zza 11 (zB ((N : Int) == 1)) (zza 2 (zB ((N : Int) == 1)) (zzb (zzn (ret0 [.bool ((N : Int) == 1)] ⟨zzp, trivial⟩ fun u11 e12 => ?_))))
  show Value.bool _ = Value.bool _
  congr 1
  rw [Bool.eq_iff_iff]
  simp <;> omega
 ·have hN : N ≠ 1 := fun e => hn (by rw [h.1, e, Nt.dl_one])
  refine zzl (args := [.slice x.a x.n x.c]) Tryz.func213 rfl Tryz.ntmps213 (rs := [.tmp 2]) Tryz.results213 (le_b rfl) (le_b rfl) d ?_
  refine sq9 (zza 2 (zB false) (zzb (sq9 (zza 3 (.v x.v) (zza 4 (zI x.n) (zyn 5 (x := zB ((x.n : Int) == 1)) (zB false) (by rw [show ((x.n : Int) == 1) = false from yv]) (zza 6 (zB false) (zzm 7 (uw 3 true false 6) (zzm 8 (uw 3 true false 6) (zzm 9 (uw 3 true false 6) (zzm 10 (uw 3 true false 6) ?_)))))))))))
  refine zza 11 (zB false) (zza 2 (zB false) (zzb (zzn (ret0 [.bool false] ⟨zzp, trivial⟩ fun u11 e12 => ?_))))
  show _ = _
  simp [tupV]
  exact hN
set_option maxHeartbeats 1000000 in
theorem k_lowest {u w : World} {i : IL} {z : Int} {y : Sl} {D K L : Nat} (d : Dat u w) (h1 : IntV u i z K) (hD : NatV u y D L) (hp : 0 < D) (hK : K ≤ 500000000) (hL : L ≤ 500000000) : Calls Tryz.prog 148 #[.agg #[.bool i.s, i.m.v, y.v]] w (Post u w fun v u' => ∃ r : RL, v = r.v ∧ RatN u' r (mkRat z D) (max K L)) := by
 obtain ⟨N, hN, hz⟩ := h1
 have hL1 : 1 ≤ L := by have h2 := hD.size; have h3 := Nt.dl_mono (x := D) (y := 1) xq; rw [Nt.dl_one] at h3; omega
 refine zzl (args := [.agg #[.bool i.s, .slice i.m.a i.m.n i.m.c, .slice y.a y.n y.c]]) Tryz.func148 rfl Tryz.ntmps148 (rs := [.cell 2 26]) Tryz.results148 (le_b rfl) (le_b rfl) d ?_
 refine sq9 (zzj 1 ⟨147, i.cs ++ [y.v]⟩ (zzj 2 ⟨26, [.bool false, .slice none 0 0, .slice none 0 0]⟩ (zzb (sq9 (zza 14 (.adr 1 0) (zza 15 (.adr 1 1) (zzh 16 (.v i.m.v) ty22 zzk (zza 17 (.adr 1 2) (zzh 18 (.v y.v) ty22 zzk (zzg 19 80 [i.m.v, y.v] ?_))))))))))
 intro w11 u11 e11 d11
 have k18 := k_natDivMod d11 (hN.ext e11) (hD.ext e11) hp xq xq
 with_reducible refine zPm k18 ?_
 rintro _ u16 g17 ⟨x12, x13, rfl, h14, h15⟩
 refine zza 13 (.v (.tuple #[x12.v, x13.v, .int .i64 0])) (zza 20 (.v x12.v) (zza 21 (.v x13.v) (zza 22 (zI 0) (zza 3 (.v x12.v) (zza 4 (.v x13.v) (zza 5 (zI 0) (zzb (zzd (sq9 (zza 23 (.v x13.v) (zza 24 (zI x13.n) ?_)))))))))))
 refine zza 25 (zB ((x13.n : Int) == 0)) (zzb (zzt (b := (x13.n : Int) == 0) xj (fun hb19 => ?_) (fun hb19 => ?_)))
 ·replace hb19 : ((x13.n : Int) == 0) = true := hb19
  have qhb19 : (x13.n : Int) = 0 := by simpa using hb19
  have hr : N % D = 0 := by have h7 := (h15).pos; simp at hb19; omega
  refine sq9 (zza 26 (.adr 1 0) (zza 27 (.adr 1 0) (zzh 28 (zB i.s) ty4 zzk (zza 29 (.v x12.v) (zza 30 (.v (.agg #[.bool i.s, x12.v])) (zzg 31 211 [.agg #[.bool i.s, x12.v]] ?_))))))
  intro w20 u20 e20 d20
  have k25 := k_intTrim d20 (IntV.same (s := i.s) (h14.ext e20).raw) xq
  with_reducible refine zPm k25 ?_
  rintro _ u23 g24 ⟨i21, rfl, h22⟩
  refine zzg 32 193 [i21.v] ?_
  intro w26 u26 e26 d26
  have k31 := k_whole (i := i21) d26
  with_reducible refine zPm k31 ?_
  rintro _ u29 g30 ⟨y27, rfl, h28⟩
  refine zzi ⟨26, i21.cs ++ [y27.v]⟩ ty26 ?_
  refine zzb (zzn (zzv (ret0 [.agg #[.bool i21.s, .slice i21.m.a i21.m.n i21.m.c, .slice y27.a y27.n y27.c]] ⟨zzq ty26 zze, trivial⟩ fun u32 e33 => ?_)))
  refine ⟨(⟨i21.s, i21.m, y27⟩ : RL), rfl, RatN.more (K := (max K 1)) ?_ xq⟩
  rw [hz, ← low1 hp hr]
  exact ((whole_rat (h22.ext (e26.trans g30.ext)) h28).ext e33)
 ·replace hb19 : ((x13.n : Int) == 0) = false := hb19
  have qhb19 : ¬ ((x13.n : Int) = 0) := by simpa using hb19
  have hr : N % D ≠ 0 := by have h7 := (h15).pos; simp at hb19; omega
  refine zzr (zzo ?_)
  refine sq9 (zza 33 (.adr 1 2) (zzh 34 (.v y.v) ty22 zzk (zza 35 (.v x13.v) (zzg 36 212 [y.v, x13.v] ?_))))
  intro w34 u34 e34 d34
  have k39 := k_natGcd d34 (hD.ext (e11.trans (g17.ext.trans e34))) (h15.ext e34).raw xq xq
  with_reducible refine zPm k39 ?_
  rintro _ u37 g38 ⟨x35, rfl, h36⟩
  refine zza 6 (.v x35.v) (zzb (zzd (sq9 (zza 37 (.v x35.v) (zzg 38 213 [x35.v] ?_)))))
  intro w40 u40 e40 d40
  have k43 := k_isOne d40 (h36.ext e40)
  with_reducible refine zPm k43 ?_
  rintro _ u41 g42 rfl
  refine zzb (zzt (b := decide ((Nat.gcd D (N % D)) = 1)) xj (fun hb44 => ?_) (fun hb44 => ?_))
  ·replace hb44 : (decide ((Nat.gcd D (N % D)) = 1)) = true := hb44
   have qhb44 := of_decide_eq_true hb44
   have hg : Nat.gcd D (N % D) = 1 := by simpa using hb44
   have hgp : 0 < Nat.gcd D (N % D) := Nat.gcd_pos_of_pos_left _ hp
   refine zzd (zzy [0, 1, 3, 0, 8, 31, 63, 127] [(0, []), (1, []), (3, []), (4, []), (2, []), (5, []), (6, []), (7, [])] xj xj (zza 39 (.adr 1 0) (zzh 40 (.v (i.v)) ty24 zze (zza 42 (.adr 1 2) (zzh 43 (.v y.v) ty22 zzk (zzg 41 211 [i.v] ?_))))))
   intro w45 u45 e45 d45
   have k50 := k_intTrim d45 (IntV.same (s := i.s) (hN.ext (e11.trans (g17.ext.trans (e34.trans (g38.ext.trans (e40.trans (g42.ext.trans e45)))))))) xq
   with_reducible refine zPm k50 ?_
   rintro _ u48 g49 ⟨i46, rfl, h47⟩
   refine zzg 44 214 [y.v] ?_
   intro w51 u51 e51 d51
   have k56 := k_natTrim d51 (hD.ext (e11.trans (g17.ext.trans (e34.trans (g38.ext.trans (e40.trans (g42.ext.trans (e45.trans (g49.ext.trans e51))))))))) xq
   with_reducible refine zPm k56 ?_
   rintro _ u54 g55 ⟨x52, rfl, h53⟩
   refine zza 45 (.v (.agg #[.bool i46.s, i46.m.v, x52.v])) (zzi ⟨26, i46.cs ++ [x52.v]⟩ ty26 ?_)
   refine zzc 70 [(2, .adr 2 0)] [(2, ⟨26, i46.cs ++ [x52.v]⟩)] (zzn (zzv (ret0 [.agg #[.bool i46.s, .slice i46.m.a i46.m.n i46.m.c, .slice x52.a x52.n x52.c]] ⟨zzq ty26 zze, trivial⟩ fun u57 e58 => ?_)))
   refine ⟨(⟨i46.s, i46.m, x52⟩ : RL), rfl, ?_⟩
   rw [hz]
   exact low2 hp hg (h47.ext (e51.trans (g55.ext.trans e58))) (h53.ext e58)
  ·replace hb44 : (decide ((Nat.gcd D (N % D)) = 1)) = false := hb44
   have qhb44 := of_decide_eq_false hb44
   have hg : ¬ Nat.gcd D (N % D) = 1 := by simpa using hb44
   have hgp : 0 < Nat.gcd D (N % D) := Nat.gcd_pos_of_pos_left _ hp
   refine zzr (zzo ?_)
   refine sq9 (zza 47 (.adr 1 0) (zza 48 (.adr 1 1) (zzh 49 (.v i.m.v) ty22 zzk (zza 50 (.v x35.v) (zzg 51 80 [i.m.v, x35.v] ?_)))))
   intro w59 u59 e59 d59
   have k66 := k_natDivMod d59 (hN.ext (e11.trans (g17.ext.trans (e34.trans (g38.ext.trans (e40.trans (g42.ext.trans e59))))))) (h36.ext (e40.trans (g42.ext.trans e59))).raw hgp xq xq
   with_reducible refine zPm k66 ?_
   rintro _ u64 g65 ⟨x60, x61, rfl, h62, h63⟩
   refine zza 46 (.v (.tuple #[x60.v, x61.v, .int .i64 0])) (zza 52 (.v x60.v) (zza 53 (.v x61.v) (zza 54 (zI 0) (zza 7 (.v x60.v) (zza 8 (.v x61.v) (zza 9 (zI 0) (zzc 70 [(1, .adr 1 0), (2, .adr 2 0), (6, .v x35.v), (7, .v x60.v)] [(1, ⟨147, i.cs ++ [y.v]⟩), (2, ⟨26, [.bool false, .slice none 0 0, .slice none 0 0]⟩)] (sq9 (zza 56 (.adr 1 2) (zzh 57 (.v y.v) ty22 zzk (zza 58 (.v x35.v) ?_)))))))))))
   refine zzg 59 80 [y.v, x35.v] ?_
   intro w67 u67 e67 d67
   have k74 := k_natDivMod d67 (hD.ext (e11.trans (g17.ext.trans (e34.trans (g38.ext.trans (e40.trans (g42.ext.trans (e59.trans (g65.ext.trans e67))))))))) (h36.ext (e40.trans (g42.ext.trans (e59.trans (g65.ext.trans e67))))).raw hgp xq xq
   with_reducible refine zPm k74 ?_
   rintro _ u72 g73 ⟨x68, x69, rfl, h70, h71⟩
   refine zza 55 (.v (.tuple #[x68.v, x69.v, .int .i64 0])) (zza 60 (.v x68.v) (zza 61 (.v x69.v) (zza 62 (zI 0) (zza 10 (.v x68.v) (zza 11 (.v x69.v) (zza 12 (zI 0) (zzb (sq9 (zza 63 (.adr 1 0) (zza 64 (.adr 1 0) (zzh 65 (zB i.s) ty4 zzk ?_)))))))))))
   refine zza 66 (.v x60.v) (zza 67 (.v (.agg #[.bool i.s, x60.v])) (zza 68 (.v x68.v) (zza 69 (.v (.agg #[.bool i.s, x60.v, x68.v])) (zzi ⟨26, [.bool i.s, x60.v, x68.v]⟩ ty26 ?_))))
   refine zzb (zzn (ret0 [.agg #[.bool i.s, .slice x60.a x60.n x60.c, .slice x68.a x68.n x68.c]] ⟨zzq ty26 zze, trivial⟩ fun u75 e76 => ?_))
   refine ⟨(⟨i.s, x60, x68⟩ : RL), rfl, RatN.more (K := max K L) ?_ xq⟩
   rw [hz]
   exact low3 hp hr (h62.ext (e67.trans (g73.ext.trans e76))) (h70.ext e76)
theorem k_ratTrim {u w : World} {r1 : RL} {x : Rat} {K : Nat} (d : Dat u w) (hr1 : RatV u r1 x K) (hK : K ≤ 200000000) : Calls Tryz.prog 78 #[r1.v] w (Post u w fun v u' => ∃ r : RL, v = r.v ∧ RatN u' r x K) := by
 refine zzl (args := [r1.v]) Tryz.func78 rfl Tryz.ntmps78 (rs := [.cell 2 26]) Tryz.results78 (le_b rfl) (le_b rfl) d ?_
 refine sq9 (zzj 1 ⟨26, r1.cs⟩ (zzj 2 ⟨26, [.bool false, .slice none 0 0, .slice none 0 0]⟩ (zzb (sq9 (zzh 3 (.v (r1.v)) ty26 zze (zzg 4 147 [r1.v] ?_))))))
 intro w11 u11 e11 d11
 have k15 := k_read d11 (hr1.ext e11)
 with_reducible refine zPm k15 ?_
 rintro _ u13 g14 ⟨r12, wh12, rfl, z12, D12, hi12, hd12, hp12, hq12, hw12, hk12⟩
 refine zza 5 (.v (r12.v)) (zzg 6 148 [r12.v] ?_)
 intro w16 u16 e16 d16
 have k21 := k_lowest d16 (hi12.ext e16) (hd12.ext e16) hp12 xq xq
 with_reducible refine zPm k21 ?_
 rintro _ u19 g20 ⟨r17, rfl, h18⟩
 refine zzi ⟨26, r17.cs⟩ ty26 ?_
 refine zzb (zzn (ret0 [r17.v] ⟨zzq ty26 zze, trivial⟩ fun u22 e23 => ?_))
 refine ⟨r17, rfl, RatN.more (K := (max K K)) ?_ xq⟩
 rw [hq12]; exact (h18.ext e23)
theorem k_ratOf {u w : World} {z : Int} (d : Dat u w) (h0 : -9223372036854775808 ≤ z) (h1 : z ≤ 9223372036854775807) : Calls Tryz.prog 118 #[.int .i64 z] w (Post u w fun v u' => ∃ r : RL, v = r.v ∧ RatN u' r (z : Rat) 2) := by
 refine zzl (args := [.int .i64 z]) Tryz.func118 rfl Tryz.ntmps118 (rs := [.cell 2 26]) Tryz.results118 (le_b rfl) (le_b rfl) d ?_
 refine sq9 (zzj 2 ⟨26, [.bool false, .slice none 0 0, .slice none 0 0]⟩ (zzb (sq9 (zza 3 (zI z) (zzg 4 160 [.int .i64 z] ?_)))))
 intro w11 u11 e11 d11
 have k16 := k_intOf d11 (z := z) xq xq
 with_reducible refine zPm k16 ?_
 rintro _ u14 g15 ⟨i12, rfl, h13⟩
 refine zzg 5 193 [i12.v] ?_
 intro w17 u17 e17 d17
 have k22 := k_whole (i := i12) d17
 with_reducible refine zPm k22 ?_
 rintro _ u20 g21 ⟨y18, rfl, h19⟩
 refine zzi ⟨26, i12.cs ++ [y18.v]⟩ ty26 ?_
 refine zzb (zzn (ret0 [.agg #[.bool i12.s, .slice i12.m.a i12.m.n i12.m.c, .slice y18.a y18.n y18.c]] ⟨zzq ty26 zze, trivial⟩ fun u23 e24 => ?_))
 refine ⟨(⟨i12.s, i12.m, y18⟩ : RL), rfl, RatN.more (K := (max 2 1)) ?_ xq⟩
 exact ((whole_rat (h13.ext (e17.trans g21.ext)) h19).ext e24)
theorem k_ratSign {u w : World} {r1 : RL} {x : Rat} {K : Nat} (d : Dat u w) (hr1 : RatV u r1 x K)  : Calls Tryz.prog 76 #[r1.v] w (Post u w fun v u' => v = .int .i64 (Nt.sgQ x)) := by
 refine zzl (args := [r1.v]) Tryz.func76 rfl Tryz.ntmps76 (rs := [.tmp 2]) Tryz.results76 (le_b rfl) (le_b rfl) d ?_
 refine sq9 (zzj 1 ⟨26, r1.cs⟩ (zza 2 (zI 0) (zzb (sq9 (zzh 3 (.v (r1.v)) ty26 zze (zzg 4 147 [r1.v] ?_))))))
 intro w11 u11 e11 d11
 have k15 := k_read d11 (hr1.ext e11)
 with_reducible refine zPm k15 ?_
 rintro _ u13 g14 ⟨r12, wh12, rfl, z12, D12, hi12, hd12, hp12, hq12, hw12, hk12⟩
 refine zza 5 (.v (r12.v)) (zza 6 (.v (.agg #[.bool r12.s, r12.m.v])) (zzg 7 146 [.agg #[.bool r12.s, r12.m.v]] ?_))
 intro w16 u16 e16 d16
 have k19 := k_intSign d16 (hi12.ext e16)
 with_reducible refine zPm k19 ?_
 rintro _ u17 g18 rfl
 refine zza 2 (zI (Nt.cmpS z12 0)) (zzb (zzn (ret0 [.int .i64 (Nt.cmpS z12 0)] ⟨zzp, trivial⟩ fun u20 e21 => ?_)))
 show _ = _
 rw [hq12, ← Nt.sg_mk hp12]
 rfl
theorem k_ratCompare {u w : World} {r1 : RL} {x : Rat} {K : Nat} {r2 : RL} {y : Rat} {L : Nat} (d : Dat u w) (hr1 : RatV u r1 x K) (hr2 : RatV u r2 y L) (hK : K ≤ 200000000) (hL : L ≤ 200000000) : Calls Tryz.prog 197 #[r1.v, r2.v] w (Post u w fun v u' => v = .int .i64 (Nt.cmpQ x y)) := by
 refine zzl (args := [r1.v, r2.v]) Tryz.func197 rfl Tryz.ntmps197 (rs := [.tmp 4]) Tryz.results197 (le_b rfl) (le_b rfl) d ?_
 refine sq9 (zzj 2 ⟨26, r1.cs⟩ (zzj 3 ⟨26, r2.cs⟩ (zza 4 (zI 0) (zzb (zzd (zzy [0, 1, 0, 7, 0, 0, 63, 127] [(0, []), (2, []), (4, []), (5, []), (1, []), (3, []), (6, []), (7, [])] xj xj (zzh 7 (.v (r1.v)) ty26 zze (zzh 9 (.v (r2.v)) ty26 zze (zzj 5 ⟨149, [.bool false, .slice none 0 0, .slice none 0 0, .bool false]⟩ (zzj 6 ⟨149, [.bool false, .slice none 0 0, .slice none 0 0, .bool false]⟩ (zzg 8 147 [r1.v] ?_)))))))))))
 intro w11 u11 e11 d11
 have k15 := k_read d11 (hr1.ext e11)
 with_reducible refine zPm k15 ?_
 rintro _ u13 g14 ⟨r12, wh12, rfl, z12, D12, hi12, hd12, hp12, hq12, hw12, hk12⟩
 refine zzg 10 147 [r2.v] ?_
 intro w16 u16 e16 d16
 have k20 := k_read d16 (hr2.ext (e11.trans (g14.ext.trans e16)))
 with_reducible refine zPm k20 ?_
 rintro _ u18 g19 ⟨r17, wh17, rfl, z17, D17, hi17, hd17, hp17, hq17, hw17, hk17⟩
 refine zzi ⟨149, r12.cs ++ [.bool wh12]⟩ ty149 ?_
 refine zzi ⟨149, r17.cs ++ [.bool wh17]⟩ ty149 ?_
 refine zzb (zzd (sq9 (zza 11 (.adr 5 3) (zzh 12 (zB wh12) ty4 zzk ?_))))
 rcases Bool.eq_false_or_eq_true wh12 with hs21 | hs21
 ·refine zyn 13 (x := zB wh12) (zB true) (by rw [hs21]) (zza 14 (.adr 6 3) ?_ (hw := w1 2 true 13))
  refine zzh 15 (zB wh17) ty4 zzk ?_ (hw := w1 2 true 13)
  refine zza 16 (zB wh17) (zzb (zzt (b := wh17) xj (fun hb22 => ?_) (fun hb22 => ?_)))
  ·replace hb22 : wh17 = true := hb22
   refine sq9 (zza 17 (.adr 5 0) (zza 18 (.adr 5 0) (zzh 19 (.v (.agg #[.bool r12.s, r12.m.v])) ty24 zze (zza 20 (.adr 6 0) (zza 21 (.adr 6 0) (zzh 22 (.v (.agg #[.bool r17.s, r17.m.v])) ty24 zze (zzg 23 181 [.agg #[.bool r12.s, r12.m.v], .agg #[.bool r17.s, r17.m.v]] ?_)))))))
   intro w23 u23 e23 d23
   have k26 := k_intCompare d23 (hi12.ext (e16.trans (g19.ext.trans e23))) (hi17.ext e23)
   with_reducible refine zPm k26 ?_
   rintro _ u24 g25 rfl
   refine zza 4 (zI (Nt.cmpS z12 z17)) (zzb (zzn (zzv (ret0 [.int .i64 (Nt.cmpS z12 z17)] ⟨zzp, trivial⟩ fun u27 e28 => ?_))))
   show _ = _
   rw [hq12, hq17, ← Nt.cmp_mk hp12 hp17]
   rw [hw12 (by assumption), hw17 (by assumption)]
   simp [tupV]
  ·replace hb22 : wh17 = false := hb22
   refine zzr (zzo ?_)
   refine zzd (zzy [0, 1, 3, 0, 8, 24, 56, 127, 0, 256, 768, 0, 2048, 6144, 14591, 32767, 65535, 131071] [(0, []), (1, []), (2, []), (3, []), (4, []), (5, []), (8, []), (9, []), (10, []), (11, []), (12, []), (13, []), (6, []), (7, []), (14, []), (15, []), (16, []), (17, [])] xj xj (zza 24 (.adr 5 0) (zza 25 (.adr 5 0) (zzh 26 (.v (.agg #[.bool r12.s, r12.m.v])) ty24 zze (zza 27 (.adr 6 0) (zza 28 (.adr 6 2) (zzh 29 (.v r17.d.v) ty22 zzk (zza 32 (.adr 6 0) (zza 33 (.adr 6 0) (zzh 34 (.v (.agg #[.bool r17.s, r17.m.v])) ty24 zze (zza 35 (.adr 5 0) ?_)))))))))))
   refine zza 36 (.adr 5 2) (zzh 37 (.v r12.d.v) ty22 zzk (zzg 30 195 [r17.d.v] ?_))
   intro w29 u29 e29 d29
   have k32 := k_natural (x := r17.d) d29
   with_reducible refine zPm k32 ?_
   rintro _ u30 g31 rfl
   refine zzg 31 194 [.agg #[.bool r12.s, r12.m.v], .agg #[.bool false, r17.d.v]] ?_
   intro w33 u33 e33 d33
   have k38 := k_intMul d33 (hi12.ext (e16.trans (g19.ext.trans (e29.trans (g31.ext.trans e33))))) (nat_int (hd17.ext (e29.trans (g31.ext.trans e33)))) xq xq
   with_reducible refine zPm k38 ?_
   rintro _ u36 g37 ⟨i34, rfl, h35⟩
   refine zzg 38 195 [r12.d.v] ?_
   intro w39 u39 e39 d39
   have k42 := k_natural (x := r12.d) d39
   with_reducible refine zPm k42 ?_
   rintro _ u40 g41 rfl
   refine zzg 39 194 [.agg #[.bool r17.s, r17.m.v], .agg #[.bool false, r12.d.v]] ?_
   intro w43 u43 e43 d43
   have k48 := k_intMul d43 (hi17.ext (e29.trans (g31.ext.trans (e33.trans (g37.ext.trans (e39.trans (g41.ext.trans e43))))))) (nat_int (hd12.ext (e16.trans (g19.ext.trans (e29.trans (g31.ext.trans (e33.trans (g37.ext.trans (e39.trans (g41.ext.trans e43)))))))))) xq xq
   with_reducible refine zPm k48 ?_
   rintro _ u46 g47 ⟨i44, rfl, h45⟩
   refine zzg 40 181 [i34.v, i44.v] ?_
   intro w49 u49 e49 d49
   have k52 := k_intCompare d49 (h35.ext (e39.trans (g41.ext.trans (e43.trans (g47.ext.trans e49))))).raw (h45.ext e49).raw
   with_reducible refine zPm k52 ?_
   rintro _ u50 g51 rfl
   refine zza 4 (zI (Nt.cmpS (z12 * (D17 : Int)) (z17 * (D12 : Int)))) (zzc 41 [(4, zI (Nt.cmpS (z12 * (D17 : Int)) (z17 * (D12 : Int))))] [] (zzn (ret0 [.int .i64 (Nt.cmpS (z12 * (D17 : Int)) (z17 * (D12 : Int)))] ⟨zzp, trivial⟩ fun u53 e54 => ?_)))
   show _ = _
   rw [hq12, hq17, ← Nt.cmp_mk hp12 hp17]
   rfl
 ·refine zyn 13 (x := zB wh12) (zB false) (by rw [hs21]) (zzm 14 (uw 2 true false 13) (zzm 15 (uw 2 true false 13) (zza 16 (zB false) (zzb (zyp xj (zzr (zzo ?_)))))))
  refine zzd (zzy [0, 1, 3, 0, 8, 24, 56, 127, 0, 256, 768, 0, 2048, 6144, 14591, 32767, 65535, 131071] [(0, []), (1, []), (2, []), (3, []), (4, []), (5, []), (8, []), (9, []), (10, []), (11, []), (12, []), (13, []), (6, []), (7, []), (14, []), (15, []), (16, []), (17, [])] xj xj (zza 24 (.adr 5 0) (zza 25 (.adr 5 0) (zzh 26 (.v (.agg #[.bool r12.s, r12.m.v])) ty24 zze (zza 27 (.adr 6 0) (zza 28 (.adr 6 2) (zzh 29 (.v r17.d.v) ty22 zzk (zza 32 (.adr 6 0) (zza 33 (.adr 6 0) (zzh 34 (.v (.agg #[.bool r17.s, r17.m.v])) ty24 zze (zza 35 (.adr 5 0) ?_)))))))))))
  refine zza 36 (.adr 5 2) (zzh 37 (.v r12.d.v) ty22 zzk (zzg 30 195 [r17.d.v] ?_))
  intro w55 u55 e55 d55
  have k58 := k_natural (x := r17.d) d55
  with_reducible refine zPm k58 ?_
  rintro _ u56 g57 rfl
  refine zzg 31 194 [.agg #[.bool r12.s, r12.m.v], .agg #[.bool false, r17.d.v]] ?_
  intro w59 u59 e59 d59
  have k64 := k_intMul d59 (hi12.ext (e16.trans (g19.ext.trans (e55.trans (g57.ext.trans e59))))) (nat_int (hd17.ext (e55.trans (g57.ext.trans e59)))) xq xq
  with_reducible refine zPm k64 ?_
  rintro _ u62 g63 ⟨i60, rfl, h61⟩
  refine zzg 38 195 [r12.d.v] ?_
  intro w65 u65 e65 d65
  have k68 := k_natural (x := r12.d) d65
  with_reducible refine zPm k68 ?_
  rintro _ u66 g67 rfl
  refine zzg 39 194 [.agg #[.bool r17.s, r17.m.v], .agg #[.bool false, r12.d.v]] ?_
  intro w69 u69 e69 d69
  have k74 := k_intMul d69 (hi17.ext (e55.trans (g57.ext.trans (e59.trans (g63.ext.trans (e65.trans (g67.ext.trans e69))))))) (nat_int (hd12.ext (e16.trans (g19.ext.trans (e55.trans (g57.ext.trans (e59.trans (g63.ext.trans (e65.trans (g67.ext.trans e69)))))))))) xq xq
  with_reducible refine zPm k74 ?_
  rintro _ u72 g73 ⟨i70, rfl, h71⟩
  refine zzg 40 181 [i60.v, i70.v] ?_
  intro w75 u75 e75 d75
  have k78 := k_intCompare d75 (h61.ext (e65.trans (g67.ext.trans (e69.trans (g73.ext.trans e75))))).raw (h71.ext e75).raw
  with_reducible refine zPm k78 ?_
  rintro _ u76 g77 rfl
  refine zza 4 (zI (Nt.cmpS (z12 * (D17 : Int)) (z17 * (D12 : Int)))) (zzc 41 [(4, zI (Nt.cmpS (z12 * (D17 : Int)) (z17 * (D12 : Int))))] [] (zzn (ret0 [.int .i64 (Nt.cmpS (z12 * (D17 : Int)) (z17 * (D12 : Int)))] ⟨zzp, trivial⟩ fun u79 e80 => ?_)))
  show _ = _
  rw [hq12, hq17, ← Nt.cmp_mk hp12 hp17]
  rfl
theorem k_ratNeg {u w : World} {r1 : RL} {x : Rat} {K : Nat} (d : Dat u w) (hr1 : RatV u r1 x K) (hK : K ≤ 200000000) : Calls Tryz.prog 176 #[r1.v] w (Post u w fun v u' => ∃ r : RL, v = r.v ∧ RatN u' r (-x) K) := by
 refine zzl (args := [r1.v]) Tryz.func176 rfl Tryz.ntmps176 (rs := [.cell 2 26]) Tryz.results176 (le_b rfl) (le_b rfl) d ?_
 refine sq9 (zzj 1 ⟨26, r1.cs⟩ (zzj 2 ⟨26, [.bool false, .slice none 0 0, .slice none 0 0]⟩ (zzb (sq9 (zzh 3 (.v (r1.v)) ty26 zze (zzg 4 226 [r1.v] ?_))))))
 intro w11 u11 e11 d11
 have k14 := k_flip (r := r1) d11
 with_reducible refine zPm k14 ?_
 rintro _ u12 g13 rfl
 refine zzg 5 78 [.agg #[.bool (!r1.s), r1.m.v, r1.d.v]] ?_
 intro w15 u15 e15 d15
 have k20 := k_ratTrim d15 ((flip_rat (hr1.ext (e11.trans g13.ext))).ext e15) xq
 with_reducible refine zPm k20 ?_
 rintro _ u18 g19 ⟨r16, rfl, h17⟩
 refine zzi ⟨26, r16.cs⟩ ty26 ?_
 refine zzb (zzn (ret0 [r16.v] ⟨zzq ty26 zze, trivial⟩ fun u21 e22 => ?_))
 refine ⟨r16, rfl, RatN.more (K := K) ?_ xq⟩
 exact (h17.ext e22)
theorem k_ratFrac {u w : World} {a b : Int} (d : Dat u w) (ha0 : -9223372036854775808 ≤ a) (ha1 : a ≤ 9223372036854775807) (hb0 : -9223372036854775808 ≤ b) (hb1 : b ≤ 9223372036854775807) : Calls Tryz.prog 127 #[.int .i64 a, .int .i64 b] w (Post u w fun v u' => ∃ r : RL, v = r.v ∧ RatN u' r ((a : Rat) / (b : Rat)) 2) := by
 refine zzl (args := [.int .i64 a, .int .i64 b]) Tryz.func127 rfl Tryz.ntmps127 (rs := [.cell 4 26]) Tryz.results127 (le_b rfl) (le_b rfl) d ?_
 refine sq9 (zzj 4 ⟨26, [.bool false, .slice none 0 0, .slice none 0 0]⟩ (zzb (zzd (sq9 (zza 5 (zI b) (zza 6 (zB (b == 0)) (zzb (zzt (b := b == 0) xj (fun hb11 => ?_) (fun hb11 => ?_)))))))))
 ·replace hb11 : (b == 0) = true := hb11
  refine sq9 (zzg 7 118 [.int .i64 0] ?_)
  intro w12 u12 e12 d12
  have k17 := k_ratOf d12 (z := 0) xq xq
  with_reducible refine zPm k17 ?_
  rintro _ u15 g16 ⟨r13, rfl, h14⟩
  refine zzi ⟨26, r13.cs⟩ ty26 ?_
  refine zzb (zzn (zzv (ret0 [r13.v] ⟨zzq ty26 zze, trivial⟩ fun u18 e19 => ?_)))
  refine ⟨r13, rfl, RatN.more (K := 2) ?_ xq⟩
  have hb0 : b = 0 := by simpa using hb11
  rw [hb0]; simp [Rat.div_def]; exact (h14.ext e19)
 ·replace hb11 : (b == 0) = false := hb11
  have hb0 : 0 < b.natAbs := by simp at hb11; omega
  refine zzr (zzo ?_)
  refine sq9 (zza 8 (zI a) (zzg 9 160 [.int .i64 a] ?_))
  intro w20 u20 e20 d20
  have k25 := k_intOf d20 (z := a) xq xq
  with_reducible refine zPm k25 ?_
  rintro _ u23 g24 ⟨i21, rfl, h22⟩
  refine zza 10 (zI b) (zzg 11 160 [.int .i64 b] ?_)
  intro w26 u26 e26 d26
  have k31 := k_intOf d26 (z := b) xq xq
  with_reducible refine zPm k31 ?_
  rintro _ u29 g30 ⟨i27, rfl, h28⟩
  refine zzg 12 196 [i21.v, i27.v] ?_
  intro w32 u32 e32 d32
  have k35 := k_quotient (i := i21) (j := i27) d32
  with_reducible refine zPm k35 ?_
  rintro _ u33 g34 rfl
  refine zzg 13 148 [.agg #[.bool (!(i21.s == i27.s)), i21.m.v, i27.m.v]] ?_
  intro w36 u36 e36 d36
  have k41 := k_lowest d36 ((quot_int (h22.ext (e26.trans (g30.ext.trans (e32.trans g34.ext)))) (h28.ext (e32.trans g34.ext))).ext e36) ((int_mag (h28.ext (e32.trans g34.ext))).ext e36).raw hb0 xq xq
  with_reducible refine zPm k41 ?_
  rintro _ u39 g40 ⟨r37, rfl, h38⟩
  refine zzi ⟨26, r37.cs⟩ ty26 ?_
  refine zzb (zzn (ret0 [r37.v] ⟨zzq ty26 zze, trivial⟩ fun u42 e43 => ?_))
  refine ⟨r37, rfl, RatN.more (K := (max 2 2)) ?_ xq⟩
  rw [← Nt.div_mk2 xq]
  exact (h38.ext e43)
theorem k_ends {u w : World} {a1 a2 : RL} {x1 x2 : Rat} {K : Nat} (d : Dat u w) (ha1 : RatV u a1 x1 K) (ha2 : RatV u a2 x2 K) (hK : K ≤ 200000000) : Calls Tryz.prog 208 #[IV a1 a2] w (Post u w fun v u' => ∃ p q : RL, v = .tuple #[p.v, q.v] ∧ RatV u' p (Nt.lo x1 x2) K ∧ RatV u' q (Nt.hi x1 x2) K) := by
 refine zzl (args := [.agg #[.bool a1.s, .slice a1.m.a a1.m.n a1.m.c, .slice a1.d.a a1.d.n a1.d.c, .bool a2.s, .slice a2.m.a a2.m.n a2.m.c, .slice a2.d.a a2.d.n a2.d.c]]) Tryz.func208 rfl Tryz.ntmps208 (rs := [.cell 2 26, .cell 3 26]) Tryz.results208 (le_b rfl) (le_b rfl) d ?_
 refine sq9 (zzj 1 ⟨32, a1.cs ++ a2.cs⟩ (zzj 2 ⟨26, [.bool false, .slice none 0 0, .slice none 0 0]⟩ (zzj 3 ⟨26, [.bool false, .slice none 0 0, .slice none 0 0]⟩ (zzb (zzd (sq9 (zza 4 (.adr 1 0) (zzh 5 (.v (a1.v)) ty26 zze (zza 6 (.adr 1 3) (zzh 7 (.v (a2.v)) ty26 zze (zzg 8 197 [a1.v, a2.v] ?_)))))))))))
 intro w11 u11 e11 d11
 have k14 := k_ratCompare d11 (ha1.ext e11) (ha2.ext e11) xq xq
 with_reducible refine zPm k14 ?_
 rintro _ u12 g13 rfl
 refine zza 9 (zB (decide ((0 : Int) < (Nt.cmpQ x1 x2)))) (zzb (zzt (b := decide ((0 : Int) < (Nt.cmpQ x1 x2))) xj (fun hb15 => ?_) (fun hb15 => ?_)))
 ·replace hb15 : (decide ((0 : Int) < (Nt.cmpQ x1 x2))) = true := hb15
  have qhb15 := of_decide_eq_true hb15
  refine zzd (zzy [0, 1, 0, 4, 3, 31] [(0, []), (1, []), (2, []), (3, []), (4, [12]), (5, [])] xj xj (zza 10 (.adr 1 3) (zzh 11 (.v (a2.v)) ty26 zze (zza 12 (.adr 1 0) (zzh 13 (.v (a1.v)) ty26 zze (zzi ⟨26, a2.cs⟩ ty26 ?_))))))
  refine zzi ⟨26, a1.cs⟩ ty26 ?_
  refine zzb (zzn (zzv (ret0 [a2.v, a1.v] ⟨zzq ty26 zze, zzq ty26 zze, trivial⟩ fun u16 e17 => ?_)))
  refine ⟨a2, a1, rfl, ?_, ?_⟩
  ·rw [(Nt.ends_gt hb15).1]; exact (ha2.ext (e11.trans (g13.ext.trans e17)))
  ·rw [(Nt.ends_gt hb15).2]; exact (ha1.ext (e11.trans (g13.ext.trans e17)))
 ·replace hb15 : (decide ((0 : Int) < (Nt.cmpQ x1 x2))) = false := hb15
  have qhb15 := of_decide_eq_false hb15
  refine zzr (zzo ?_)
  refine zzd (zzy [0, 1, 0, 4, 3, 31] [(0, []), (1, []), (2, []), (3, []), (4, [16]), (5, [])] xj xj (zza 14 (.adr 1 0) (zzh 15 (.v (a1.v)) ty26 zze (zza 16 (.adr 1 3) (zzh 17 (.v (a2.v)) ty26 zze (zzi ⟨26, a1.cs⟩ ty26 ?_))))))
  refine zzi ⟨26, a2.cs⟩ ty26 ?_
  refine zzb (zzn (ret0 [a1.v, a2.v] ⟨zzq ty26 zze, zzq ty26 zze, trivial⟩ fun u18 e19 => ?_))
  refine ⟨a1, a2, rfl, ?_, ?_⟩
  ·rw [(Nt.ends_le hb15).1]; exact (ha1.ext (e11.trans (g13.ext.trans e19)))
  ·rw [(Nt.ends_le hb15).2]; exact (ha2.ext (e11.trans (g13.ext.trans e19)))
theorem k_ivMake {u w : World} {a : RL} {x : Rat} {b : RL} {y : Rat} {K : Nat} (d : Dat u w) (ha : RatV u a x K) (hb : RatV u b y K) (hK : K ≤ 100000000) : Calls Tryz.prog 144 #[a.v, b.v] w (Post u w fun v u' => ∃ p q : RL, v = IV p q ∧ RatN u' p (Nt.lo x y) K ∧ RatN u' q (Nt.hi x y) K) := by
 refine zzl (args := [a.v, b.v]) Tryz.func144 rfl Tryz.ntmps144 (rs := [.cell 4 32]) Tryz.results144 (le_b rfl) (le_b rfl) d ?_
 refine sq9 (zzj 2 ⟨26, a.cs⟩ (zzj 3 ⟨26, b.cs⟩ (zzj 4 ⟨32, [.bool false, .slice none 0 0, .slice none 0 0, .bool false, .slice none 0 0, .slice none 0 0]⟩ (zzb (sq9 (zzh 8 (.v (a.v)) ty26 zze (zzh 9 (.v (b.v)) ty26 zze (zza 10 (.v (.agg #[.bool a.s, a.m.v, a.d.v, .bool b.s, b.m.v, b.d.v])) (zzg 11 208 [.agg #[.bool a.s, a.m.v, a.d.v, .bool b.s, b.m.v, b.d.v]] ?_)))))))))
 intro w11 u11 e11 d11
 have k18 := k_ends d11 (ha.ext e11) (hb.ext e11) xq
 with_reducible refine zPm k18 ?_
 rintro _ u16 g17 ⟨r12, r14, rfl, h13, h15⟩
 refine zza 7 (.v (.tuple #[r12.v, r14.v])) (zza 12 (.v (r12.v)) (zza 13 (.v (r14.v)) (zzj 5 ⟨26, [.bool false, .slice none 0 0, .slice none 0 0]⟩ (zzj 6 ⟨26, [.bool false, .slice none 0 0, .slice none 0 0]⟩ (zzi ⟨26, r12.cs⟩ ty26 ?_)))))
 refine zzi ⟨26, r14.cs⟩ ty26 ?_
 refine zzb (zzd (zzy [0, 1, 0, 7, 15, 31] [(0, []), (2, []), (1, []), (3, []), (4, []), (5, [])] xj xj (zzh 14 (.v (r12.v)) ty26 zze (zzh 16 (.v (r14.v)) ty26 zze (zzg 15 78 [r12.v] ?_)))))
 intro w19 u19 e19 d19
 have k24 := k_ratTrim d19 (h13.ext e19) xq
 with_reducible refine zPm k24 ?_
 rintro _ u22 g23 ⟨r20, rfl, h21⟩
 refine zzg 17 78 [r14.v] ?_
 intro w25 u25 e25 d25
 have k30 := k_ratTrim d25 (h15.ext (e19.trans (g23.ext.trans e25))) xq
 with_reducible refine zPm k30 ?_
 rintro _ u28 g29 ⟨r26, rfl, h27⟩
 refine zza 18 (.v (.agg #[.bool r20.s, r20.m.v, r20.d.v, .bool r26.s, r26.m.v, r26.d.v])) (zzi ⟨32, r20.cs ++ r26.cs⟩ ty32 ?_)
 refine zzb (zzn (ret0 [.agg #[.bool r20.s, .slice r20.m.a r20.m.n r20.m.c, .slice r20.d.a r20.d.n r20.d.c, .bool r26.s, .slice r26.m.a r26.m.n r26.m.c, .slice r26.d.a r26.d.n r26.d.c]] ⟨zzq ty32 zze, trivial⟩ fun u31 e32 => ?_))
 refine ⟨r20, r26, rfl, RatN.more (K := K) ?_ xq, RatN.more (K := K) ?_ xq⟩
 ·exact (h21.ext (e25.trans (g29.ext.trans e32)))
 ·exact (h27.ext e32)
theorem k_r4Trim {u w : World} {a1 a2 : RL} {x1 x2 : Rat} {K : Nat} (d : Dat u w) (ha1 : RatV u a1 x1 K) (ha2 : RatV u a2 x2 K) (hK : K ≤ 100000000) : Calls Tryz.prog 95 #[IV a1 a2] w (Post u w fun v u' => ∃ p q : RL, v = IV p q ∧ RatN u' p (Nt.lo x1 x2) K ∧ RatN u' q (Nt.hi x1 x2) K) := by
 refine zzl (args := [.agg #[.bool a1.s, .slice a1.m.a a1.m.n a1.m.c, .slice a1.d.a a1.d.n a1.d.c, .bool a2.s, .slice a2.m.a a2.m.n a2.m.c, .slice a2.d.a a2.d.n a2.d.c]]) Tryz.func95 rfl Tryz.ntmps95 (rs := [.cell 2 32]) Tryz.results95 (le_b rfl) (le_b rfl) d ?_
 refine sq9 (zzj 1 ⟨32, a1.cs ++ a2.cs⟩ (zzj 2 ⟨32, [.bool false, .slice none 0 0, .slice none 0 0, .bool false, .slice none 0 0, .slice none 0 0]⟩ (zzb (zzd (zzy [0, 1, 0, 4, 15, 0, 32, 0, 128, 511, 1023, 2047] [(0, []), (1, []), (2, []), (3, []), (5, []), (6, []), (7, []), (8, []), (4, []), (9, []), (10, []), (11, [])] xj xj (zza 3 (.adr 1 0) (zzh 4 (.v (a1.v)) ty26 zze (zza 5 (.adr 1 3) (zzh 6 (.v (a2.v)) ty26 zze (zza 8 (.adr 1 0) (zzh 9 (.v (a1.v)) ty26 zze ?_)))))))))))
 refine zza 10 (.adr 1 3) (zzh 11 (.v (a2.v)) ty26 zze (zzg 7 134 [a1.v, a2.v] ?_))
 intro w11 u11 e11 d11
 have k16 := k_rqMin d11 (ha1.ext e11) (ha2.ext e11) xq xq
 with_reducible refine zPm k16 ?_
 rintro _ u14 g15 ⟨r12, rfl, h13⟩
 refine zzg 12 135 [a1.v, a2.v] ?_
 intro w17 u17 e17 d17
 have k22 := k_rqMax d17 (ha1.ext (e11.trans (g15.ext.trans e17))) (ha2.ext (e11.trans (g15.ext.trans e17))) xq xq
 with_reducible refine zPm k22 ?_
 rintro _ u20 g21 ⟨r18, rfl, h19⟩
 refine zza 13 (.v (.agg #[.bool r12.s, r12.m.v, r12.d.v, .bool r18.s, r18.m.v, r18.d.v])) (zzi ⟨32, r12.cs ++ r18.cs⟩ ty32 ?_)
 refine zzb (zzn (ret0 [.agg #[.bool r12.s, .slice r12.m.a r12.m.n r12.m.c, .slice r12.d.a r12.d.n r12.d.c, .bool r18.s, .slice r18.m.a r18.m.n r18.m.c, .slice r18.d.a r18.d.n r18.d.c]] ⟨zzq ty32 zze, trivial⟩ fun u23 e24 => ?_))
 refine ⟨r12, r18, rfl, RatN.more (K := (max K K)) ?_ xq, RatN.more (K := (max K K)) ?_ xq⟩
 ·exact (h13.ext (e17.trans (g21.ext.trans e24)))
 ·exact (h19.ext e24)
theorem k_r4Same {u w : World} {a1 a2 : RL} {x1 x2 : Rat} {b1 b2 : RL} {y1 y2 : Rat} {K L : Nat} (d : Dat u w) (ha1 : RatN u a1 x1 K) (ha2 : RatN u a2 x2 K) (hb1 : RatN u b1 y1 L) (hb2 : RatN u b2 y2 L) : Calls Tryz.prog 22 #[IV a1 a2, IV b1 b2] w (Post u w fun v u' => v = .bool (decide (x1 = y1) && decide (x2 = y2))) := by
 refine zzl (args := [.agg #[.bool a1.s, .slice a1.m.a a1.m.n a1.m.c, .slice a1.d.a a1.d.n a1.d.c, .bool a2.s, .slice a2.m.a a2.m.n a2.m.c, .slice a2.d.a a2.d.n a2.d.c], .agg #[.bool b1.s, .slice b1.m.a b1.m.n b1.m.c, .slice b1.d.a b1.d.n b1.d.c, .bool b2.s, .slice b2.m.a b2.m.n b2.m.c, .slice b2.d.a b2.d.n b2.d.c]]) Tryz.func22 rfl Tryz.ntmps22 (rs := [.tmp 4]) Tryz.results22 (le_b rfl) (le_b rfl) d ?_
 refine sq9 (zzj 2 ⟨32, a1.cs ++ a2.cs⟩ (zzj 3 ⟨32, b1.cs ++ b2.cs⟩ (zza 4 (zB false) (zzb (sq9 (zza 5 (.adr 2 0) (zzh 6 (.v (a1.v)) ty26 zze (zza 7 (.adr 3 0) (zzh 8 (.v (b1.v)) ty26 zze (zzg 9 89 [a1.v, b1.v] ?_))))))))))
 intro w11 u11 e11 d11
 have k14 := k_rqSame d11 (ha1.ext e11) (hb1.ext e11)
 with_reducible refine zPm k14 ?_
 rintro _ u12 g13 rfl
 rcases Bool.eq_false_or_eq_true (decide (x1 = y1)) with hs15 | hs15
 ·refine zyn 10 (x := zB (decide (x1 = y1))) (zB true) (by rw [hs15]) ?_
  have qhs15 := of_decide_eq_true hs15
  refine zza 11 (.adr 2 3) ?_ (hw := w1 5 true 10)
  refine zzh 12 (.v (a2.v)) ty26 zze ?_ (hw := w1 5 true 10)
  refine zza 13 (.adr 3 3) ?_ (hw := w1 5 true 10)
  refine zzh 14 (.v (b2.v)) ty26 zze ?_ (hw := w1 5 true 10)
  refine zzg 15 89 [a2.v, b2.v] ?_ (hw := w1 5 true 10)
  intro w16 u16 e16 d16
  have k19 := k_rqSame d16 (ha2.ext (e11.trans (g13.ext.trans e16))) (hb2.ext (e11.trans (g13.ext.trans e16)))
  with_reducible refine zPm k19 ?_
  rintro _ u17 g18 rfl
  refine zza 16 (zB (decide (x2 = y2))) (zza 4 (zB (decide (x2 = y2))) (zzb (zzn (ret0 [.bool (decide (x2 = y2))] ⟨zzp, trivial⟩ fun u20 e21 => ?_))))
  show _ = _
  rw [hs15]
  rfl
 ·refine zyn 10 (x := zB (decide (x1 = y1))) (zB false) (by rw [hs15]) ?_
  have qhs15 := of_decide_eq_false hs15
  refine zzm 11 (uw 5 true false 10) (zzm 12 (uw 5 true false 10) (zzm 13 (uw 5 true false 10) (zzm 14 (uw 5 true false 10) (zzm 15 (uw 5 true false 10) (zza 16 (zB false) (zza 4 (zB false) (zzb (zzn (ret0 [.bool false] ⟨zzp, trivial⟩ fun u22 e23 => ?_)))))))))
  show _ = _
  rw [hs15]
  rfl
theorem k_r4Make {u w : World} {a : RL} {x : Rat} {b : RL} {y : Rat} {K : Nat} (d : Dat u w) (ha : RatV u a x K) (hb : RatV u b y K) (hK : K ≤ 100000000) : Calls Tryz.prog 38 #[a.v, b.v] w (Post u w fun v u' => ∃ p q : RL, v = IV p q ∧ RatN u' p (Nt.lo x y) K ∧ RatN u' q (Nt.hi x y) K) := by
 refine zzl (args := [a.v, b.v]) Tryz.func38 rfl Tryz.ntmps38 (rs := [.cell 4 32]) Tryz.results38 (le_b rfl) (le_b rfl) d ?_
 refine sq9 (zzj 2 ⟨26, a.cs⟩ (zzj 3 ⟨26, b.cs⟩ (zzj 4 ⟨32, [.bool false, .slice none 0 0, .slice none 0 0, .bool false, .slice none 0 0, .slice none 0 0]⟩ (zzb (sq9 (zzh 5 (.v (a.v)) ty26 zze (zzh 6 (.v (b.v)) ty26 zze (zza 7 (.v (.agg #[.bool a.s, a.m.v, a.d.v, .bool b.s, b.m.v, b.d.v])) (zzg 8 95 [.agg #[.bool a.s, a.m.v, a.d.v, .bool b.s, b.m.v, b.d.v]] ?_)))))))))
 intro w11 u11 e11 d11
 have k18 := k_r4Trim d11 (ha.ext e11) (hb.ext e11) xq
 with_reducible refine zPm k18 ?_
 rintro _ u16 g17 ⟨r12, r14, rfl, h13, h15⟩
 refine zzi ⟨32, r12.cs ++ r14.cs⟩ ty32 ?_
 refine zzb (zzn (ret0 [.agg #[.bool r12.s, .slice r12.m.a r12.m.n r12.m.c, .slice r12.d.a r12.d.n r12.d.c, .bool r14.s, .slice r14.m.a r14.m.n r14.m.c, .slice r14.d.a r14.d.n r14.d.c]] ⟨zzq ty32 zze, trivial⟩ fun u19 e20 => ?_))
 refine ⟨r12, r14, rfl, RatN.more (K := K) ?_ xq, RatN.more (K := K) ?_ xq⟩
 ·exact (h13.ext e20)
 ·exact (h15.ext e20)
theorem mod_pos (m : Int) (hm : 1 ≤ m) (n : Int) (h : decide (Int.tmod n m < 0) = false) : Int.tmod n m = n % m := by
 have h := of_decide_eq_false h
 rcases Int.lt_or_le n 0 with hn | hn
 ·have e := Int.tmod_add_mul_tdiv n m
  have h2 : -m < Int.tmod n m := Int.lt_tmod_of_pos n xq
  have h3 : Int.tmod n m ≤ 0 := by
   have h8 := Int.neg_tmod n m
   have h9 : Int.tmod (-n) m = (-n) % m := Int.tmod_eq_emod_of_nonneg xq
   have h10 := Int.emod_nonneg (-n) (show m ≠ 0 by omega)
   omega
  have h4 : Int.tmod n m = 0 := by omega
  rw [h4] at e ⊢
  have : m ∣ n := ⟨n.tdiv m, by omega⟩
  exact (Int.emod_eq_zero_of_dvd this).symm
 ·exact Int.tmod_eq_emod_of_nonneg hn
theorem mod_neg (m : Int) (hm : 1 ≤ m) (n : Int) (h : decide (Int.tmod n m < 0) = true) : Int.tmod n m + m = n % m := by
 have h := of_decide_eq_true h
 have e := Int.tmod_add_mul_tdiv n m
 have h2 : -m < Int.tmod n m := Int.lt_tmod_of_pos n xq
 have h5 : n = m * (n.tdiv m - 1) + (Int.tmod n m + m) := by rw [Int.mul_sub, Int.mul_one]; omega
 have := (Nt.ediv_uniq (z := n) (y := m) (q := n.tdiv m - 1) (r := Int.tmod n m + m) xq h5 xq xq).2
 exact this.symm
theorem k_Mod {u w : World} {n m : Int} (d : Dat u w) (hm : 1 ≤ m) (hm2 : m ≤ 4611686018427387904) (hn0 : -9223372036854775808 ≤ n) (hn1 : n ≤ 9223372036854775807) : Calls Tryz.prog 17 #[.int .i64 n, .int .i64 m] w (Post u w fun v _ => v = .int .i64 (n % m)) := by
 refine zzl (args := [.int .i64 n, .int .i64 m]) Tryz.func17 rfl Tryz.ntmps17 (rs := [.tmp 4]) Tryz.results17 (le_b rfl) (le_b rfl) d ?_
 refine sq9 (zza 4 (zI 0) (zzb (zzd (sq9 (zza 5 (zI m) (zyn 6 (x := zB (decide (m < 1))) (zB false) (by rw [show (decide (m < 1)) = false from yv]) (zzb (zyp xj (zzr (zzo ?_))))))))))
 refine sq9 (zza 7 (zI n) (zza 8 (zI m) (sy_rem 9 (Int.tmod n m) xq rfl ?_)))
 refine zza 0 (zI (Int.tmod n m)) (zzb (zzd (sq9 (zza 10 (zI (Int.tmod n m)) (zza 11 (zB (decide ((Int.tmod n m) < 0))) (zzb (zzt (b := decide ((Int.tmod n m) < 0)) xj (fun hb11 => ?_) (fun hb11 => ?_))))))))
 ·replace hb11 : (decide ((Int.tmod n m) < 0)) = true := hb11
  have qhb11 := of_decide_eq_true hb11
  refine zzf (zza 12 (zI (Int.tmod n m)) (zza 13 (zI m) (zyn 14 (x := zI (IntKind.i64.wrap (Int.tmod n m + m))) (zI (Int.tmod n m + m)) (by rw [show (IntKind.i64.wrap (Int.tmod n m + m)) = (Int.tmod n m + m) from (IntWalk.i64_in _ (by have h2 := Int.lt_tmod_of_pos n (show 0 < m by omega); have h3 := Int.tmod_lt_of_pos n (show 0 < m by omega); omega))]) (zza 0 (zI (Int.tmod n m + m)) (zzb (sq9 (zza 15 (zI (Int.tmod n m + m)) (zza 4 (zI (Int.tmod n m + m)) (zzb (zzn (ret0 [.int .i64 (Int.tmod n m + m)] ⟨zzp, trivial⟩ fun u12 e13 => ?_)))))))))))
  show Value.int _ _ = Value.int _ _
  rw [mod_neg m hm n hb11]
 ·replace hb11 : (decide ((Int.tmod n m) < 0)) = false := hb11
  have qhb11 := of_decide_eq_false hb11
  refine zzr (zzo ?_)
  refine sq9 (zza 15 (zI (Int.tmod n m)) (zza 4 (zI (Int.tmod n m)) (zzb (zzn (ret0 [.int .i64 (Int.tmod n m)] ⟨zzp, trivial⟩ fun u14 e15 => ?_)))))
  show Value.int _ _ = Value.int _ _
  rw [mod_pos m hm n hb11]
def smR (r : RL) : Bool := decide ((r.m.n : Int) ≤ 4) && decide ((r.d.n : Int) ≤ 4)
theorem smR_few {u : World} {r : RL} {q : Rat} {K : Nat} (h : RatV u r q K) (hs : smR r = true) : RatV u r q 4 := by
 unfold smR at hs
 simp at hs
 exact h.few xq xq xq
theorem k_smallRat {u w : World} {r : RL} (d : Dat u w) : Calls Tryz.prog 15 #[r.v] w (Post u w fun v _ => v = .bool (smR r)) := by
 refine zzl (args := [r.v]) Tryz.func15 rfl Tryz.ntmps15 (rs := [.tmp 2]) Tryz.results15 (le_b rfl) (le_b rfl) d ?_
 refine sq9 (zzj 1 ⟨26, r.cs⟩ (zza 2 (zB false) (zzb (sq9 (zza 3 (.adr 1 0) (zza 4 (.adr 1 1) (zzh 5 (.v r.m.v) ty22 zzk (zza 6 (zI r.m.n) (zza 7 (zB (decide ((r.m.n : Int) ≤ 4))) ?_)))))))))
 rcases Bool.eq_false_or_eq_true (decide ((r.m.n : Int) ≤ 4)) with hs11 | hs11
 ·refine zyn 8 (x := zB (decide ((r.m.n : Int) ≤ 4))) (zB true) (by rw [hs11]) ?_
  have qhs11 := of_decide_eq_true hs11
  refine zza 9 (.adr 1 2) ?_ (hw := w1 5 true 8)
  refine zzh 10 (.v r.d.v) ty22 zzk ?_ (hw := w1 5 true 8)
  refine zza 11 (zI r.d.n) ?_ (hw := w1 5 true 8)
  refine zza 12 (zB (decide ((r.d.n : Int) ≤ 4))) ?_ (hw := w1 5 true 8)
  refine zza 13 (zB (decide ((r.d.n : Int) ≤ 4))) (zza 2 (zB (decide ((r.d.n : Int) ≤ 4))) (zzb (zzn (ret0 [.bool (decide ((r.d.n : Int) ≤ 4))] ⟨zzp, trivial⟩ fun u12 e13 => ?_))))
  show _ = _
  unfold smR
  rw [hs11]
  rfl
 ·refine zyn 8 (x := zB (decide ((r.m.n : Int) ≤ 4))) (zB false) (by rw [hs11]) ?_
  have qhs11 := of_decide_eq_false hs11
  refine zzm 9 (uw 5 true false 8) (zzm 10 (uw 5 true false 8) (zzm 11 (uw 5 true false 8) (zzm 12 (uw 5 true false 8) (zza 13 (zB false) (zza 2 (zB false) (zzb (zzn (ret0 [.bool false] ⟨zzp, trivial⟩ fun u14 e15 => ?_))))))))
  show _ = _
  unfold smR
  rw [hs11]
  rfl
namespace Nt
end Nt
section
variable {P : Program} (w : World)
theorem wpList_makeKC {ops : Array Oper} {rest : List Oper} {o : Oper} {a : Act} {Q : Exit → Act → World → Prop}
  (hg : o.guard = none) (l c : Operand) (t : TypeId) (hop : o.op = Op.makeSlice t l c) (e : TypeId) (k : IntKind) (bytes : Nat) (h1 : P.underlying t = some (.slice e))
  (h2 : (P.info? e).map (fun i => (i.zero, i.size, i.bytes)) = some (some (.int k 0), 1, bytes))
  (kl kc : IntKind) (L C : Int) (n m : Nat) (hl : a.eval l = .int kl L) (hc : a.eval c = .int kc C) (hL : L = (n : Int)) (hC : C = (m : Int)) (hnm : n ≤ m) (b2 : bytes * m ≤ 281474976710656) (b3 : m ≤ maxLen)
  (hK : ∀ w', OwnK k w' w.heap.size e (some ⟨w.heap.size, 0, none⟩) n m (List.replicate n 0) → Below w.heap.size w w' → w'.heap.size = w.heap.size + 1 → wpList P ops Q rest (a.put o.dst (.slice (some ⟨w.heap.size, 0, none⟩) n m)) w') :
  wpList P ops Q (o :: rest) a w := by
 obtain ⟨i, hi, hz, hs, hb⟩ := info_parts h2
 refine wpList_plain hg fun K hK' => ?_
 subst hL hC hb
 have h63 : (m : Int) ≤ 9223372036854775807 := by have := b3; unfold maxLen at this; omega
 have hb' : (i.bytes : Int) * (m : Int) ≤ 281474976710656 := by
  have h : ((i.bytes * m : Nat) : Int) ≤ 281474976710656 := by omega
  rwa [Int.natCast_mul] at h
 have hrun := run_make (P := P) w t e i _ h1 hi hz kl kc n m xq xq hb' h63
 unfold Oper.wp
 simp [execOp, hop, hl, hc, hrun, Result.andThen]
 have hblk : KBlk k (w.alloc (.cells (madeCells (Value.int k 0).cells (m * i.size)) e)) w.heap.size e (List.replicate m 0) := by
  unfold KBlk
  rw [heap_alloc_new, hs, Nat.mul_one]
  congr 2
  apply Array.ext'
  have h3 := toList_madeCells_one (.int k 0) m
  have h4 : (Value.int k 0).cells = #[Value.int k 0] := rfl
  rw [h4, h3]
  simp
 refine hK' _ _ (hK _ ⟨by simp, by simp, .inr ⟨w.heap.size, m, _, rfl, Nat.le_refl _, hblk, hnm, b3, by simp, by simp [List.take_replicate, Nat.min_eq_left hnm]⟩⟩ ((Below.refl _ _).alloc (Nat.le_refl _) _) (by simp))
end
namespace Nt
theorem bitLen_bitl {t : Nat} (h : t < 4294967296) : Lib.bitLen t = bitl t := by
 rcases Nat.eq_zero_or_pos t with h0 | h0
 ·subst h0; rfl
 ·have hb : 1 ≤ Lib.bitLen t ∧ 2 ^ (Lib.bitLen t - 1) ≤ t ∧ t < 2 ^ Lib.bitLen t := Lib.bitLenAux_bounds 64 t xq xq
  exact (bitl_unique xq hb.2.1 hb.2.2).symm
theorem bitl_le32 {t : Nat} (h : t < 4294967296) : bitl t ≤ 32 := by
 rcases Nat.eq_zero_or_pos t with h0 | h0
 ·subst h0; decide
 ·have h1 := bitl_le h0
  have h3 : 2 ^ (bitl t - 1) < 2 ^ 32 := by omega
  have := (Nat.pow_lt_pow_iff_right (show 1 < 2 by omega)).1 h3
  omega
end Nt
set_option maxHeartbeats 1000000 in
theorem BitLen_any (A : Option Addr) (n c : Nat) (a : List Int) (w : World) (ha : SlR .u32 w A n c a) (da : Nt.Dig a) (hn : n ≤ 1000000000) :
  Calls Tryz.prog 150 #[.slice A n c] w fun e w' => e = .returned (.int .i64 (Nt.bitl (Nt.val a).toNat)) ∧ w' = w := by
 have lx : (Nt.strip a).length ≤ n := by rw [← ha.1]; exact Nt.zyh a
 have hx := ha.upto (m := (Nt.strip a).length) lx
 rw [← Nt.strip_take] at hx
 have hcut := zwa A n c a w ha
 have eN := Nt.zxl da
 rw [eN] at hx lx hcut
 generalize hX : (Nt.val a).toNat = X at *
 obtain ⟨N, hN⟩ : ∃ N, N = (Nt.digits X).length := ⟨_, rfl⟩
 rw [← hN] at hx lx hcut
 clear eN hX
 rcases N with _ | k
 ·have h0 : Hid (Nt.bitl X = 0) := by
   have : X = 0 := by
    rcases Nat.eq_zero_or_pos X with h | h
    ·exact h
    ·have := Nt.zwe h; omega
   show _ = _
   rw [this]; rfl
  clear ha da
  go_enter Tryz.func150, Tryz.ntmps150
  go_wp2_with fail
  refine hcut.mono ?_
  rintro e w1 ⟨rfl, rfl⟩
  go_wp2
  go_ret
  exact ⟨by rw [h0.out]; rfl, rfl⟩
 ·obtain ⟨b, o, rfl, _, hc⟩ := hx.pos (i := k) xq
  have hcm := hx.2.1
  have ht := (Nt.zyj X).at k
  have hne := Nt.norm_last (k := k) (Nt.zxg X) hN.symm
  obtain ⟨t, ht2⟩ : ∃ t : Nat, (Nt.digits X)[k]?.getD 0 = (t : Int) := ⟨((Nt.digits X)[k]?.getD 0).toNat, by omega⟩
  have hfin := Nt.bitl_digits hN.symm ht2 xq
  rw [ht2] at hc hne ht
  have Hfin := Lib.hid hfin
  have HN := Lib.hid hN
  have hkb : ((k : Int) + 1 == 0) = false := by rw [beq_eq_false_iff_ne]; omega
  have hb32 := Nt.bitl_le32 (t := t) xq
  have hbe := Nt.bitLen_bitl (t := t) xq
  clear hfin ht2 hx ha da hN
  go_enter Tryz.func150, Tryz.ntmps150
  go_wp2_with fail
  refine hcut.mono ?_
  rintro e w1 ⟨rfl, rfl⟩
  go_wp2_with fail
  refine (Len32_any (t : Int) _ xq xq).mono ?_
  rintro e w1 ⟨rfl, rfl⟩
  rw [Int.toNat_natCast, hbe]
  generalize Nt.bitl t = bt at *
  go_wp2
  go_ret
  exact ⟨by rw [Hfin.out]; refine congrArg (fun z : Int => Ending.returned (.int .i64 z)) ?_; omega, rfl⟩
section
variable {u u' w w' : World} {x y : Sl} {i j : IL} {r r' : RL} {N M K L S b o n : Nat} {z z' : Int} {q q' : Rat} {l m : List Rat} {cs cs' : List Value}
end
section
variable {u u' w w' : World} {x y : Sl} {i j : IL} {N M K L : Nat}
end
section
variable {P : Program} {ops : Array Oper} {w0 : Base} {u0 : World} {S : St} {u u' w : World} {o : Oper} {p : List Tmp} {seq : Bool} {rest : List (Oper × List Tmp)} {K : St → World → Prop}
theorem sy_conv (d : Tmp) {src dst : TypeId} {x : Operand} {k0 k : IntKind} {n : Int} (v : Int) (hT : ∀ w, (convert src dst (.int k0 n)).run P w = .ok (.int k (k.wrap n)) w) (hv : k.wrap n = v) (kk : sym P ops w0 u0 seq rest (S.set d (.v (.int k v))) u K) (hw : Wants ops o S := by exact zxx xj) (hd : o.dst = some d := by kernel_rfl) (hop : o.op = .convert src dst x := by rfl) (hf : freeB S d = true := by kernel_rfl)
  (hx : evO S x = some (.v (.int k0 n)) := by rfl) : sym P ops w0 u0 seq ((o, p) :: rest) S u K := by
 subst hv
 refine .inl ⟨by rw [hop]; exact (by decide : (0 : Nat) ≠ 2), .set (.v (.int k (k.wrap n))), ⟨zxq hd hf, .inl ⟨(fun t ht => by cases ht), fun B a w u' hr he hdt => ⟨hw B a hr, ?_⟩⟩⟩, ?_⟩
 ·have e1 : (execOp a.eval o).run P w = (do pure (Next.value (← convert src dst (a.eval x))) : Sem Next).run P w := by unfold execOp; rw [hop]
  rw [e1, ev_eval hr hx]
  exact run_val (hT w)
 ·show sym P ops w0 u0 seq rest (S.put o.dst (some _)) u K
  rw [hd]; exact kk
end
section
variable {u u' : World} {A : Option Addr} {n c i : Nat} {l : List Int} {k : IntKind}
end
theorem own_strip {w0 w : World} {B : Nat} {A : Option Addr} {n c : Nat} {l : List Int} (h : OwnK .u32 w B 104 A n c l) (hd : Nt.Dig l) (hB : w0.heap.size ≤ B) : NatF w0 w A (Nt.strip l).length c (Nt.val l).toNat := by
 have e := Nt.zxl hd
 have hl := Nt.zyh l
 have h1 := h.1
 have hx := h.slr.upto (m := (Nt.strip l).length) xq
 rw [← Nt.strip_take, e] at hx
 refine ⟨by rw [e], by rw [e]; exact hx, fun hp => ?_⟩
 obtain ⟨a, ha, hb, ht⟩ := h.ty xq
 exact ⟨a, ha, by omega, ht⟩
theorem Nt.raise_val {q s : Nat} {a S : List Int} (hq : q = s / 32) (h : Nt.val S = Nt.val a * 2 ^ (s % 32)) : Nt.val (List.replicate q 0 ++ S) = Nt.val a * 2 ^ s := by
 rw [Nt.val_append, Nt.val_repl, h, Nt.p2_pw s, ← hq]
 simp
 rw [Int.mul_comm, Int.mul_assoc]
theorem Nt.bitl_le_len (l : List Int) (h : Nt.Dig l) : Nt.bitl (Nt.val l).toNat ≤ 32 * l.length := by
 rcases Nat.eq_zero_or_pos (Nt.val l).toNat with h0 | h0
 ·rw [h0]; exact Nat.zero_le _
 ·have h1 := Nt.val_lt h
  rw [Nt.pw_two] at h1
  have h2 := Nt.bitl_le h0
  have h3 : 2 ^ (Nt.bitl (Nt.val l).toNat - 1) < 2 ^ (32 * l.length) := by omega
  have := (Nat.pow_lt_pow_iff_right (show 1 < 2 by omega)).1 h3
  omega
theorem Nt.dl_shift {N K s : Nat} (h : dl N ≤ K) : dl (N * 2 ^ s) ≤ K + s / 32 + 1 := by
 apply Nt.dl_le
 have h1 := Nt.dl_lt (x := N)
 have h2 := Nt.pw_mono h
 rw [Nt.pw_two] at h1 ⊢
 rw [Nt.pw_two, Nt.pw_two] at h2
 have h3 : N < 2 ^ (32 * K) := by omega
 have h4 : N * 2 ^ s < 2 ^ (32 * K) * 2 ^ s := Nat.mul_lt_mul_of_pos_right h3 (Nat.pow_pos xq)
 rw [← Nat.pow_add] at h4
 have h5 : 2 ^ (32 * K + s) ≤ 2 ^ (32 * (K + s / 32 + 1)) := Nat.pow_le_pow_right xq xq
 have h6 := Nat.lt_of_lt_of_le h4 h5
 exact_mod_cast h6
set_option maxHeartbeats 2000000 in
theorem raise_any (A : Option Addr) (n c s : Nat) (a : List Int) (w : World) (ha : SlR .u32 w A n c a) (da : Nt.Dig a) (hn : n ≤ 1000000000) (hs : s ≤ 65536) :
  Calls Tryz.prog 151 #[.slice A n c, .int .i64 s] w fun e w' => ∃ A' n' c', e = .returned (.slice A' n' c') ∧ NatF w w' A' n' c' (Nt.val a * 2 ^ s).toNat ∧ Below w.heap.size w w' := by
 rcases Nat.eq_zero_or_pos n with h0 | h0
 ·subst h0
  have hz : Hid ((Nt.val a * 2 ^ s).toNat = 0) := by
   have e1 : a = [] := List.eq_nil_of_length_eq_zero ha.1
   show _ = _
   rw [e1]; simp [Nt.val]
  clear da ha
  go_enter Tryz.func151, Tryz.ntmps151
  go_wp2
  go_ret
  refine ⟨none, 0, 0, rfl, ?_, Below.refl _ _⟩
  rw [hz.out]
  exact ⟨by rw [Nt.zyu]; rfl, by rw [Nt.zyu]; exact SlR.nil _ _ _ (Nat.zero_le _), fun h => absurd h xq⟩
 ·have hn0 : ((n : Int) == 0) = false := by rw [beq_eq_false_iff_ne]; omega
  obtain ⟨q, hq1, hq2⟩ : ∃ q, 32 * q ≤ s ∧ s < 32 * q + 32 := ⟨s / 32, by omega, by omega⟩
  have hqs : Hid (q = s / 32) := by show _ = _; omega
  have hr32 : s % 32 < 32 := by omega
  have Hda := Lib.hid da
  clear da
  go_enter Tryz.func151, Tryz.ntmps151
  go_wp2_with (at_make; refine wpList_makeKC _ rfl (.tmp 10) (.tmp 16) _ rfl 104 .u32 4 Tryz.underlying22 zxd _ _ _ _ q (q + n + 1) rfl rfl ?L ?C ?nm ?b2 ?b3 ?_)
  case L => show _ = _; omega
  case C => show _ = _; omega
  case nm => omega
  case b2 => omega
  case b3 => unfold maxLen; omega
  intro w2 hk2 hb2 hz2
  have hx2 := ha.below hb2
  have HB2 := Lib.hid hb2
  clear hz2 hb2 ha
  go_wp2_with fail
  refine (lift_any A n c (s % 32) (n + 1) a w2 hx2 Hda.out hn hr32 (.inr rfl)).mono ?_
  rintro e w3 ⟨g, rfl, ⟨S, lo, hg, hk, hSl, hSd, hlo, hlo0, hv⟩, hb3⟩
  have hlo0 := hlo0 rfl
  rw [hlo0] at hv
  have hval := Nt.raise_val hqs.out (a := a) (S := S) xq
  have hs3 := Lib.hid (hk.slr_all (n := n + 1) (c := n + 1) hSl (Nat.le_refl _) yq)
  have hk3 := Lib.hid (hk2.below hb3)
  have Hval := Lib.hid hval
  have Hd := Lib.hid (Nt.Dig.append (Nt.Dig.repl q) hSd)
  have HB3 : Hid (Below w.heap.size w w3) := HB2.out.trans (hb3.mono HB2.out.size)
  have hw3 := HB3.out.size
  clear hval hv hk hg hk2 hlo hlo0 hSl hSd hx2 hb3
  go_wp2_with (at_builtin; refine zxb _ rfl (.tmp 18) (.tmp 26) _ rfl 104 .u32 4 Tryz.underlying22 zxd w.heap.size (some ⟨w.heap.size, 0, none⟩) q (q + n + 1) (List.replicate q 0) rfl ?own (some ⟨g, 0, none⟩) (n + 1) (n + 1) S rfl ?slr ?h63 ?hby ?hbase ?_)
  case own => exact hk3.out
  case slr => exact hs3.out
  case h63 => unfold maxLen; omega
  case hby => omega
  case hbase => omega
  intro A3 c3 w4 ho hb4
  have HO := Lib.hid ho
  have HB4 : Hid (Below w.heap.size w w4) := HB3.out.trans hb4
  clear hs3 hk3 ho hb4
  go_wp2_with fail
  refine (zwa _ _ _ _ _ HO.out.slr).mono ?_
  rintro e w5 ⟨rfl, rfl⟩
  go_wp2
  go_ret
  have hf := own_strip HO.out Hd.out (Nat.le_refl _)
  rw [Hval.out] at hf
  exact ⟨_, _, _, rfl, hf, HB4.out⟩
set_option maxHeartbeats 1000000 in
theorem Shift_pos (A : Option Addr) (n c s : Nat) (a : List Int) (w : World) (ha : SlR .u32 w A n c a) (da : Nt.Dig a) (hn : n ≤ 1000000000) (hs : s ≤ 65536) :
  Calls Tryz.prog 79 #[.slice A n c, .int .i64 s] w fun e w' => ∃ A' n' c', e = .returned (.slice A' n' c') ∧ NatF w w' A' n' c' (Nt.val a * 2 ^ s).toNat ∧ Below w.heap.size w w' := by
 have lx : (Nt.strip a).length ≤ n := by rw [← ha.1]; exact Nt.zyh a
 have hx := ha.upto (m := (Nt.strip a).length) lx
 rw [← Nt.strip_take] at hx
 have hd := Nt.strip_dig da
 have hv := Nt.zwd a
 have hsd : decide (65536 < (s : Int)) = false := by simp; omega
 have hbl := Nt.bitl_le_len (Nt.strip a) hd
 have hraise := raise_any A (Nt.strip a).length c s (Nt.strip a) w hx hd xq hs
 have hbit := BitLen_any A (Nt.strip a).length c (Nt.strip a) w hx hd xq
 rw [hv] at hraise hbit hbl
 have hz : Nt.bitl (Nt.val a).toNat = 0 → Nt.val a = 0 := fun h => by
  have h1 := Nt.bitl_lt (Nt.val a).toNat
  have h2 := Nt.zyw da
  rw [h] at h1
  simp at h1
  omega
 generalize Nt.bitl (Nt.val a).toNat = B at *
 have hcut := zwa A n c a w ha
 generalize (Nt.strip a).length = m at *
 by_cases h0 : (s : Int) ≤ -(B : Int)
 ·have hz2 : Hid ((Nt.val a * 2 ^ s).toNat = 0) := by
   show _ = _
   rw [hz xq]; simp
  have hle : decide ((s : Int) ≤ -(B : Int)) = true := decide_eq_true h0
  clear hx ha hd hv hraise hz h0
  go_enter Tryz.func79, Tryz.ntmps79
  go_wp2_with fail
  refine hcut.mono ?_
  rintro e w1 ⟨rfl, rfl⟩
  go_wp2_with fail
  refine hbit.mono ?_
  rintro e w1 ⟨rfl, rfl⟩
  go_wp2
  go_ret
  refine ⟨none, 0, 0, rfl, ?_, Below.refl _ _⟩
  rw [hz2.out]
  exact ⟨by rw [Nt.zyu]; rfl, by rw [Nt.zyu]; exact SlR.nil _ _ _ (Nat.zero_le _), fun h => absurd h xq⟩
 ·have hle : decide ((s : Int) ≤ -(B : Int)) = false := decide_eq_false h0
  clear hx ha hd hv hz
  go_enter Tryz.func79, Tryz.ntmps79
  go_wp2_with fail
  refine hcut.mono ?_
  rintro e w1 ⟨rfl, rfl⟩
  go_wp2_with fail
  refine hbit.mono ?_
  rintro e w1 ⟨rfl, rfl⟩
  go_wp2_with fail
  refine hraise.mono ?_
  rintro e w1 ⟨A1, n1, c1, rfl, f1, hb1⟩
  have F1 := Lib.hid f1
  clear f1
  go_wp2
  go_ret
  exact ⟨A1, n1, c1, rfl, F1.out, hb1⟩
theorem k_natShift {u w : World} {x : Sl} {N K s : Nat} (d : Dat u w) (h1 : NatV u x N K) (hK : K ≤ 500000000) (hs : s ≤ 65536) : Calls Tryz.prog 79 #[x.v, .int .i64 (s : Int)] w (Post u w fun v u' => ∃ x : Sl, v = x.v ∧ NatN u' x (N * 2 ^ s) (K + s / 32 + 1)) := by
 have hs1 := h1.size
 obtain ⟨a, a1, a2, a3, a4⟩ := h1
 refine (Shift_pos _ _ _ _ _ _ (a1.ext d.ext) a2 xq hs).mono fun e w' ⟨A', n', c', h⟩ => ?_
 rw [a4] at h
 exact post_nat d (nat_fits h (by simp [Int.natCast_mul, Int.natCast_pow])) (Nt.dl_shift hs1)
theorem k_rnShift {u w : World} {x : Sl} {N K s : Nat} (d : Dat u w) (h1 : NatV u x N K) (hK : K ≤ 500000000) (hs : s ≤ 65536) : Calls Tryz.prog 96 #[x.v, .int .i64 (s : Int)] w (Post u w fun v u' => ∃ x : Sl, v = x.v ∧ NatN u' x (N * 2 ^ s) (K + s / 32 + 1)) := by
 have hs1 := h1.size
 obtain ⟨a, a1, a2, a3, a4⟩ := h1
 refine (rShift_pos _ _ _ _ _ _ (a1.ext d.ext) a2 xq hs).mono fun e w' ⟨A', n', c', h⟩ => ?_
 rw [a4] at h
 exact post_nat d (nat_fits ⟨h.1, h.2.1.nat, h.2.2⟩ (by simp [Int.natCast_mul, Int.natCast_pow])) (Nt.dl_shift hs1)
set_option maxHeartbeats 1000000 in
theorem k_intDivP {u w : World} {i1 : IL} {y : Sl} {zN : Int} {M K L : Nat} (d : Dat u w) (hi : IntV u i1 zN K) (hy : NatV u y M L) (hM : 0 < M) (hK : K ≤ 100000000) (hL : L ≤ 100000000) : Calls Tryz.prog 180 #[i1.v, .agg #[.bool false, y.v]] w (Post u w fun v u' => ∃ i j : IL, v = .tuple #[i.v, j.v, .int .i64 0] ∧ IntN u' i (zN / (M : Int)) (K + 1) ∧ IntN u' j (zN % (M : Int)) L) := by
 have hL1 : 1 ≤ L := by have h2 := hy.size; have h3 := Nt.dl_mono (x := M) (y := 1) xq; rw [Nt.dl_one] at h3; omega
 obtain ⟨N, hN, hzN⟩ := hi
 refine zzl (args := [i1.v, .agg #[.bool false, .slice y.a y.n y.c]]) Tryz.func180 rfl Tryz.ntmps180 (rs := [.cell 4 24, .cell 5 24, .tmp 6]) Tryz.results180 (le_b rfl) (le_b rfl) d ?_
 refine sq9 (zzj 2 ⟨24, i1.cs⟩ (zzj 3 ⟨24, [.bool false, y.v]⟩ (zzj 4 ⟨24, [.bool false, .slice none 0 0]⟩ (zzj 5 ⟨24, [.bool false, .slice none 0 0]⟩ (zza 6 (zI 0) (zzb (sq9 (zza 11 (.adr 2 1) (zzh 12 (.v i1.m.v) ty22 zzk (zza 13 (.adr 3 1) (zzh 14 (.v y.v) ty22 zzk ?_)))))))))))
 refine zzg 15 80 [i1.m.v, y.v] ?_
 intro w11 u11 e11 d11
 have k18 := k_natDivMod d11 (hN.ext e11) (hy.ext e11) hM xq xq
 with_reducible refine zPm k18 ?_
 rintro _ u16 g17 ⟨x12, x13, rfl, h14, h15⟩
 refine zza 10 (.v (.tuple #[x12.v, x13.v, .int .i64 0])) (zza 16 (.v x12.v) (zza 17 (.v x13.v) (zza 18 (zI 0) (zza 7 (.v x12.v) (zza 8 (.v x13.v) (zza 9 (zI 0) (zzb (zzd (sq9 (zza 19 (zI 0) (zza 20 (zB false) ?_)))))))))))
 refine zzb (zyp xj (zzr (zzo ?_)))
 refine zzd (sq9 (zza 24 (.adr 2 0) (zzh 25 (zB i1.s) ty4 zzk ?_)))
 rcases Bool.eq_false_or_eq_true i1.s with hs19 | hs19
 ·refine zyn 26 (x := zB i1.s) (zB true) (by rw [hs19]) (zza 27 (.v x13.v) ?_ (hw := w1 2 true 26))
  refine zza 28 (zI x13.n) ?_ (hw := w1 2 true 26)
  refine zza 29 (zB (decide ((0 : Int) < (x13.n : Int)))) ?_ (hw := w1 2 true 26)
  refine zza 30 (zB (decide ((0 : Int) < (x13.n : Int)))) (zzb (zzt (b := decide ((0 : Int) < (x13.n : Int))) xj (fun hb20 => ?_) (fun hb20 => ?_)))
  ·replace hb20 : (decide ((0 : Int) < (x13.n : Int))) = true := hb20
   have qhb20 := of_decide_eq_true hb20
   refine sq9 (zza 31 (.v x12.v) (zxp 32 ⟨104, [.int .u32 1]⟩ 1 (fun b21 u22 e23 h24 => ?_)))
   refine zzg 33 155 [x12.v, .slice (some ⟨b21, 0, none⟩) 1 1] ?_
   intro w25 u25 e25 d25
   have k30 := k_natAdd d25 (h14.ext (e23.trans e25)).raw ((one_data h24).ext e25).raw xq xq
   with_reducible refine zPm k30 ?_
   rintro _ u28 g29 ⟨x26, rfl, h27⟩
   refine zza 7 (.v x26.v) (zzb (zzf (zza 34 (.adr 3 1) (zzh 35 (.v y.v) ty22 zzk (zza 36 (.v x13.v) (zzg 37 223 [y.v, x13.v] ?_))))))
   intro w31 u31 e31 d31
   have k36 := k_natSub d31 (hy.ext (e11.trans (g17.ext.trans (e23.trans (e25.trans (g29.ext.trans e31)))))) (h15.ext (e23.trans (e25.trans (g29.ext.trans e31)))).raw xq xq
   with_reducible refine zPm k36 ?_
   rintro _ u34 g35 ⟨x32, rfl, h33⟩
   refine zza 8 (.v x32.v) (zzc 47 [(2, .adr 2 0), (3, .adr 3 0), (4, .adr 4 0), (5, .adr 5 0), (7, .v x26.v), (8, .v x32.v)] [(2, ⟨24, i1.cs⟩), (3, ⟨24, [.bool false, y.v]⟩), (4, ⟨24, [.bool false, .slice none 0 0]⟩), (5, ⟨24, [.bool false, .slice none 0 0]⟩)] (sq9 (zza 38 (.adr 2 0) (zzh 39 (zB i1.s) ty4 zzk (zza 40 (.adr 3 0) (zzh 41 (zB false) ty4 zzk (zza 42 (zB (!(i1.s == false))) (zza 43 (.v x26.v) (zzg 44 222 [.bool (!(i1.s == false)), x26.v] ?_)))))))))
   intro w37 u37 e37 d37
   have k42 := k_signed d37 (s := !(i1.s == false)) (h27.ext (e31.trans (g35.ext.trans e37)))
   with_reducible refine zPm k42 ?_
   rintro _ u40 g41 ⟨i38, rfl, h39⟩
   refine zza 45 (.v x32.v) (zzg 46 222 [.bool false, x32.v] ?_)
   intro w43 u43 e43 d43
   have k48 := k_signed d43 (s := false) (h33.ext (e37.trans (g41.ext.trans e43)))
   with_reducible refine zPm k48 ?_
   rintro _ u46 g47 ⟨i44, rfl, h45⟩
   refine zzi ⟨24, i38.cs⟩ ty24 ?_
   refine zzi ⟨24, i44.cs⟩ ty24 ?_
   refine zza 6 (zI 0) (zzb (zzn (ret0 [i38.v, i44.v, .int .i64 0] ⟨zzq ty24 zze, zzq ty24 zze, zzp, trivial⟩ fun u49 e50 => ?_)))
   have hrp := h15.pos
   have e9 := hs19
   have key := Nt.rdiv1 (N := N) hM xq
   have g1 := (h39.ext (e43.trans (g47.ext.trans e50)))
   have g2 := (h45.ext e50)
   rw [e9] at g1
   rw [e9] at hzN
   have hK1 : 1 ≤ K := by have h2 := hN.size; have h3 := (Nt.dl_pos (x := N)).2 (by rcases Nat.eq_zero_or_pos N with e | e; (rw [e, Nat.zero_mod] at hrp; omega); exact e); omega
   rw [hzN]
   refine ⟨i38, i44, rfl, IntN.more (K := (max K 1 + 1)) ?_ xq, IntN.more (K := L) ?_ xq⟩
   ·rw [key.1]; exact g1
   ·rw [key.2]; exact g2
  ·replace hb20 : (decide ((0 : Int) < (x13.n : Int))) = false := hb20
   have qhb20 := of_decide_eq_false hb20
   refine zzr (zzo ?_)
   refine sq9 (zza 38 (.adr 2 0) (zzh 39 (zB i1.s) ty4 zzk (zza 40 (.adr 3 0) (zzh 41 (zB false) ty4 zzk (zza 42 (zB (!(i1.s == false))) (zza 43 (.v x12.v) (zzg 44 222 [.bool (!(i1.s == false)), x12.v] ?_)))))))
   intro w51 u51 e51 d51
   have k56 := k_signed d51 (s := !(i1.s == false)) (h14.ext e51)
   with_reducible refine zPm k56 ?_
   rintro _ u54 g55 ⟨i52, rfl, h53⟩
   refine zza 45 (.v x13.v) (zzg 46 222 [.bool false, x13.v] ?_)
   intro w57 u57 e57 d57
   have k62 := k_signed d57 (s := false) (h15.ext (e51.trans (g55.ext.trans e57)))
   with_reducible refine zPm k62 ?_
   rintro _ u60 g61 ⟨i58, rfl, h59⟩
   refine zzi ⟨24, i52.cs⟩ ty24 ?_
   refine zzi ⟨24, i58.cs⟩ ty24 ?_
   refine zza 6 (zI 0) (zzc 47 [(4, .adr 4 0), (5, .adr 5 0), (6, zI 0)] [(4, ⟨24, i52.cs⟩), (5, ⟨24, i58.cs⟩)] (zzn (ret0 [i52.v, i58.v, .int .i64 0] ⟨zzq ty24 zze, zzq ty24 zze, zzp, trivial⟩ fun u63 e64 => ?_)))
   have hrp := h15.pos
   have key := Nt.rdiv0 (s := i1.s) (N := N) hM (by rintro ⟨k1, k2⟩; omega)
   have g1 := (h53.ext (e57.trans (g61.ext.trans e64)))
   have g2 := (h59.ext e64)
   rw [hzN]
   refine ⟨i52, i58, rfl, IntN.more (K := K) ?_ xq, IntN.more (K := L) ?_ xq⟩
   ·rw [key.1]; exact g1
   ·rw [key.2]; exact g2
 ·refine zyn 26 (x := zB i1.s) (zB false) (by rw [hs19]) (zzm 27 (uw 2 true false 26) (zzm 28 (uw 2 true false 26) (zzm 29 (uw 2 true false 26) (zza 30 (zB false) (zzb (zyp xj (zzr (zzo ?_))))))))
  refine sq9 (zza 38 (.adr 2 0) (zzh 39 (zB i1.s) ty4 zzk (zza 40 (.adr 3 0) (zzh 41 (zB false) ty4 zzk (zza 42 (zB (!(i1.s == false))) (zza 43 (.v x12.v) (zzg 44 222 [.bool (!(i1.s == false)), x12.v] ?_)))))))
  intro w65 u65 e65 d65
  have k70 := k_signed d65 (s := !(i1.s == false)) (h14.ext e65)
  with_reducible refine zPm k70 ?_
  rintro _ u68 g69 ⟨i66, rfl, h67⟩
  refine zza 45 (.v x13.v) (zzg 46 222 [.bool false, x13.v] ?_)
  intro w71 u71 e71 d71
  have k76 := k_signed d71 (s := false) (h15.ext (e65.trans (g69.ext.trans e71)))
  with_reducible refine zPm k76 ?_
  rintro _ u74 g75 ⟨i72, rfl, h73⟩
  refine zzi ⟨24, i66.cs⟩ ty24 ?_
  refine zzi ⟨24, i72.cs⟩ ty24 ?_
  refine zza 6 (zI 0) (zzc 47 [(4, .adr 4 0), (5, .adr 5 0), (6, zI 0)] [(4, ⟨24, i66.cs⟩), (5, ⟨24, i72.cs⟩)] (zzn (ret0 [i66.v, i72.v, .int .i64 0] ⟨zzq ty24 zze, zzq ty24 zze, zzp, trivial⟩ fun u77 e78 => ?_)))
  have hrp := h15.pos
  have key := Nt.rdiv0 (s := i1.s) (N := N) hM (by rintro ⟨k1, k2⟩; rw [k1] at hs19; exact absurd hs19 xw)
  have g1 := (h67.ext (e71.trans (g75.ext.trans e78)))
  have g2 := (h73.ext e78)
  rw [hzN]
  refine ⟨i66, i72, rfl, IntN.more (K := K) ?_ xq, IntN.more (K := L) ?_ xq⟩
  ·rw [key.1]; exact g1
  ·rw [key.2]; exact g2
theorem k_double {u w : World} {i : IL} {z : Int} {K s : Nat} (d : Dat u w) (hi : IntV u i z K) (hK : K ≤ 100000000) (hs : s ≤ 65536) : Calls Tryz.prog 242 #[i.v, .int .i64 (s : Int)] w (Post u w fun v u' => ∃ y : Sl, v = .agg #[.bool i.s, y.v] ∧ IntV u' ⟨i.s, y⟩ (z * ((2 ^ s : Nat) : Int)) (K + s / 32 + 1)) := by
 refine zzl (args := [i.v, .int .i64 s]) Tryz.func242 rfl Tryz.ntmps242 (rs := [.cell 4 24]) Tryz.results242 (le_b rfl) (le_b rfl) d ?_
 refine sq9 (zzj 2 ⟨24, i.cs⟩ (zzj 4 ⟨24, [.bool false, .slice none 0 0]⟩ (zzb (zzd (zzy [0, 1, 0, 4, 0, 28, 63, 127] [(0, []), (1, []), (2, []), (3, []), (4, []), (5, []), (6, []), (7, [])] xj xj (zza 5 (.adr 2 0) (zzh 6 (zB i.s) ty4 zzk (zza 7 (.adr 2 1) (zzh 8 (.v i.m.v) ty22 zzk (zza 9 (zI s) (zzg 10 79 [i.m.v, .int .i64 s] ?_)))))))))))
 intro w11 u11 e11 d11
 have k16 := k_natShift (s := s) d11 ((IntV.abs hi).ext e11) xq xq
 with_reducible refine zPm k16 ?_
 rintro _ u14 g15 ⟨x12, rfl, h13⟩
 refine zza 11 (.v (.agg #[.bool i.s, x12.v])) (zzi ⟨24, [.bool i.s, x12.v]⟩ ty24 ?_)
 refine zzb (zzn (ret0 [.agg #[.bool i.s, .slice x12.a x12.n x12.c]] ⟨zzq ty24 zze, trivial⟩ fun u17 e18 => ?_))
 obtain ⟨N9, hN9, hz9⟩ := hi
 refine ⟨x12, rfl, ?_⟩
 rw [hz9, ← Nt.sg_mulN]
 have h9 := IntV.same (s := i.s) (h13.ext e18).raw
 rw [hz9] at h9
 exact h9
theorem k_onGrid {u w : World} {i : IL} {y : Sl} {z : Int} {D K L s : Nat} (d : Dat u w) (hi : IntV u i z K) (hy : NatV u y D L) (hD : 0 < D) (hK : K ≤ 10000000) (hL : L ≤ 10000000) (hs : s ≤ 65536) : Calls Tryz.prog 243 #[i.v, y.v, .int .i64 (s : Int)] w (Post u w fun v u' => ∃ r : RL, v = r.v ∧ RatN u' r (mkRat (z / (D : Int)) (2 ^ s)) (K + s / 32 + 3)) := by
 have hp2 : 0 < 1 * 2 ^ s := by rw [Nat.one_mul]; exact Nat.pow_pos xw
 refine zzl (args := [i.v, .slice y.a y.n y.c, .int .i64 s]) Tryz.func243 rfl Tryz.ntmps243 (rs := [.cell 6 26]) Tryz.results243 (le_b rfl) (le_b rfl) d ?_
 refine sq9 (zzj 3 ⟨24, i.cs⟩ (zzj 6 ⟨26, [.bool false, .slice none 0 0, .slice none 0 0]⟩ (zzb (zzd (zzy [0, 0, 2, 7, 15, 31, 31, 31, 0, 0, 831, 1919, 4095] [(0, []), (1, []), (8, []), (9, []), (2, []), (3, []), (4, []), (5, []), (6, []), (7, []), (10, []), (11, []), (12, [])] xj xj (zzh 11 (.v (i.v)) ty24 zze (zza 12 (.v y.v) (zzj 7 ⟨24, [.bool false, .slice none 0 0]⟩ (zzj 8 ⟨24, [.bool false, .slice none 0 0]⟩ (zzg 13 195 [y.v] ?_))))))))))
 intro w11 u11 e11 d11
 have k14 := k_natural (x := y) d11
 with_reducible refine zPm k14 ?_
 rintro _ u12 g13 rfl
 refine zzg 14 180 [i.v, .agg #[.bool false, y.v]] ?_
 intro w15 u15 e15 d15
 have k22 := k_intDivP d15 (hi.ext (e11.trans (g13.ext.trans e15))) (hy.ext (e11.trans (g13.ext.trans e15))) hD xq xq
 with_reducible refine zPm k22 ?_
 rintro _ u20 g21 ⟨i16, i18, rfl, h17, h19⟩
 refine zza 10 (.v (.tuple #[i16.v, i18.v, .int .i64 0])) (zza 15 (.v (i16.v)) (zza 16 (.v (i18.v)) (zza 17 (zI 0) (zzi ⟨24, i16.cs⟩ ty24 ?_))))
 refine zzi ⟨24, i18.cs⟩ ty24 ?_
 refine zza 9 (zI 0) (zzb (zzd (zzy [0, 0, 0, 6, 15, 31, 63] [(0, []), (1, []), (2, []), (3, [19]), (4, []), (5, []), (6, [])] xj xj (zzh 18 (.v (i16.v)) ty24 zze (sy_lit 19 ⟨104, [.int .u32 1]⟩ 1 ?_)))))
 refine zza 20 (zI s) (zym 21 79 [.slc 19 0 1 1, zI s] [19] (.inr rfl) (pub_mk xz) (k := ?_))
 intro B23 w23 u23 e23 d23 v23
 have h25 : u23.heap[B23 19]? = some (.cells #[.int .u32 1] 104 (0, 0)) := v23 19 (by simp) _ rfl
 obtain ⟨b24, hBb24⟩ : ∃ b, B23 19 = b := ⟨_, rfl⟩
 rw [hBb24] at h25
 show Calls _ _ #[.slice (some ⟨B23 19, 0, none⟩) 1 1, .int .i64 (s : Int)] _ _
 rw [hBb24]
 have k30 := k_natShift (s := s) d23 (one_data h25).raw xq xq
 with_reducible refine zPm k30 ?_
 rintro _ u28 g29 ⟨x26, rfl, h27⟩
 refine zza 22 (.v (.agg #[.bool i16.s, i16.m.v, x26.v])) (zzg 23 148 [.agg #[.bool i16.s, i16.m.v, x26.v]] ?_)
 intro w31 u31 e31 d31
 have k36 := k_lowest d31 (h17.ext (e23.trans (g29.ext.trans e31))).raw (h27.ext e31).raw hp2 xq xq
 with_reducible refine zPm k36 ?_
 rintro _ u34 g35 ⟨r32, rfl, h33⟩
 refine zzi ⟨26, r32.cs⟩ ty26 ?_
 refine zzb (zzn (ret0 [r32.v] ⟨zzq ty26 zze, trivial⟩ fun u37 e38 => ?_))
 refine ⟨r32, rfl, RatN.more (K := (max (K + 1) (1 + s / 32 + 1))) ?_ xq⟩
 have h9 := (h33.ext e38)
 rw [Nat.one_mul] at h9
 exact h9
set_option maxHeartbeats 1000000 in
theorem k_downG {u w : World} {r : RL} {q : Rat} {K : Nat} {k : Nat} (hk : k ≤ 256) (d : Dat u w) (hr : RatV u r q K) (hK : K ≤ 1000000) : Calls Tryz.prog 252 #[r.v, .int .i64 (k : Int)] w (Post u w fun v u' => ∃ p : RL, v = .tuple #[p.v, .int .i64 0] ∧ RatN u' p (Nt.dnQ q k) (K + 20)) := by
 refine zzl (args := [r.v, .int .i64 k]) Tryz.func252 rfl Tryz.ntmps252 (rs := [.cell 4 26, .tmp 5]) Tryz.results252 (le_b rfl) (le_b rfl) d ?_
 refine sq9 (zzj 2 ⟨26, r.cs⟩ (zzj 4 ⟨26, [.bool false, .slice none 0 0, .slice none 0 0]⟩ (zza 5 (zI 0) (zzb (zzd (sq9 (zza 7 (zI k) (zza 8 (zB (decide ((k : Int) < 0))) (zyn 9 (x := zB (decide ((k : Int) < 0))) (zB false) (by rw [show (decide ((k : Int) < 0)) = false from decide_eq_false xq]) (zza 10 (zI k) ?_ (hw := w1 2 false 9)))))))))))
 refine zza 11 (zB (decide ((256 : Int) < (k : Int)))) ?_ (hw := w1 2 false 9)
 refine zza 12 (zB (decide ((256 : Int) < (k : Int)))) (zzb (zzt (b := decide ((256 : Int) < (k : Int))) xj (fun hb => ?_) (fun hb => ?_)))
 ·exact absurd hb (by rw [show (decide ((256 : Int) < (k : Int))) = false from decide_eq_false xq]; decide)
 ·clear hb
  refine zzr (zzo ?_)
  refine sq9 (zzh 14 (.v (r.v)) ty26 zze (zzg 15 147 [r.v] ?_))
  intro w12 u12 e12 d12
  have k16 := k_read d12 (hr.ext e12)
  with_reducible refine zPm k16 ?_
  rintro _ u14 g15 ⟨r13, wh13, rfl, z13, D13, hi13, hd13, hp13, hq13, hw13, hk13⟩
  refine zzj 6 ⟨149, [.bool false, .slice none 0 0, .slice none 0 0, .bool false]⟩ (zzi ⟨149, r13.cs ++ [.bool wh13]⟩ ty149 ?_)
  refine zzb (zzd (zzy [0, 1, 3, 0, 15, 0, 32, 96, 0, 511, 1023, 2047] [(0, []), (1, []), (2, []), (3, []), (5, []), (6, []), (7, []), (8, []), (4, []), (9, []), (10, []), (11, [])] xj xj (zza 16 (.adr 6 0) (zza 17 (.adr 6 0) (zzh 18 (.v (.agg #[.bool r13.s, r13.m.v])) ty24 zze (zza 19 (zI k) (zza 21 (.adr 6 0) (zza 22 (.adr 6 2) (zzh 23 (.v r13.d.v) ty22 zzk (zza 24 (zI k) (zzg 20 242 [.agg #[.bool r13.s, r13.m.v], .int .i64 k] ?_)))))))))))
  intro w17 u17 e17 d17
  have k22 := k_double (s := k) d17 (hi13.ext e17) xq xq
  with_reducible refine zPm k22 ?_
  rintro _ u20 g21 ⟨y18, rfl, h19⟩
  refine zzg 25 243 [.agg #[.bool r13.s, y18.v], r13.d.v, .int .i64 k] ?_
  intro w23 u23 e23 d23
  have k28 := k_onGrid (s := k) d23 (h19.ext e23) (hd13.ext (e17.trans (g21.ext.trans e23))) hp13 xq xq xq
  with_reducible refine zPm k28 ?_
  rintro _ u26 g27 ⟨r24, rfl, h25⟩
  refine zzi ⟨26, r24.cs⟩ ty26 ?_
  refine zza 5 (zI 0) (zzb (zzn (ret0 [r24.v, .int .i64 0] ⟨zzq ty26 zze, zzp, trivial⟩ fun u29 e30 => ?_)))
  refine ⟨r24, rfl, RatN.more (K := ((K + k / 32 + 1) + k / 32 + 3)) ?_ xq⟩
  rw [hq13, Nt.dn_mk hp13]
  exact (h25.ext e30)
set_option maxHeartbeats 1000000 in
theorem k_upG {u w : World} {r : RL} {q : Rat} {K : Nat} {k : Nat} (hk : k ≤ 256) (d : Dat u w) (hr : RatV u r q K) (hK : K ≤ 1000000) : Calls Tryz.prog 253 #[r.v, .int .i64 (k : Int)] w (Post u w fun v u' => ∃ p : RL, v = .tuple #[p.v, .int .i64 0] ∧ RatN u' p (-Nt.dnQ (-q) k) (K + 20)) := by
 refine zzl (args := [r.v, .int .i64 k]) Tryz.func253 rfl Tryz.ntmps253 (rs := [.cell 4 26, .tmp 5]) Tryz.results253 (le_b rfl) (le_b rfl) d ?_
 refine sq9 (zzj 2 ⟨26, r.cs⟩ (zzj 4 ⟨26, [.bool false, .slice none 0 0, .slice none 0 0]⟩ (zza 5 (zI 0) (zzb (sq9 (zzh 9 (.v (r.v)) ty26 zze (zzg 10 226 [r.v] ?_)))))))
 intro w11 u11 e11 d11
 have k14 := k_flip (r := r) d11
 with_reducible refine zPm k14 ?_
 rintro _ u12 g13 rfl
 refine zza 11 (zI k) (zzg 12 252 [.agg #[.bool (!r.s), r.m.v, r.d.v], .int .i64 k] ?_)
 intro w15 u15 e15 d15
 have k20 := k_downG (k := k) xq d15 ((flip_rat (hr.ext (e11.trans g13.ext))).ext e15) xq
 with_reducible refine zPm k20 ?_
 rintro _ u18 g19 ⟨r16, rfl, h17⟩
 refine zza 8 (.v (.tuple #[r16.v, .int .i64 0])) (zza 13 (.v (r16.v)) (zza 14 (zI 0) (zzj 6 ⟨26, [.bool false, .slice none 0 0, .slice none 0 0]⟩ (zzi ⟨26, r16.cs⟩ ty26 ?_))))
 refine zza 7 (zI 0) (zzb (zzd (sq9 (zza 15 (zI 0) (zza 16 (zB false) (zzb (zyp xj (zzr (zzo ?_)))))))))
 refine sq9 (zzh 19 (.v (r16.v)) ty26 zze (zzg 20 176 [r16.v] ?_))
 intro w21 u21 e21 d21
 have k26 := k_ratNeg d21 (h17.ext e21).raw xq
 with_reducible refine zPm k26 ?_
 rintro _ u24 g25 ⟨r22, rfl, h23⟩
 refine zzi ⟨26, r22.cs⟩ ty26 ?_
 refine zza 5 (zI 0) (zzb (zzn (ret0 [r22.v, .int .i64 0] ⟨zzq ty26 zze, zzp, trivial⟩ fun u27 e28 => ?_)))
 refine ⟨r22, rfl, RatN.more (K := (K + 20)) ?_ xq⟩
 exact (h23.ext e28)
theorem k_unit {u w : World} {k : Nat} (d : Dat u w) (hk : k ≤ 65536) : Calls Tryz.prog 27 #[.int .i64 (k : Int)] w (Post u w fun v u' => ∃ r : RL, v = r.v ∧ RatN u' r (((2 ^ k : Nat) : Int) : Rat) (k / 32 + 2)) := by
 refine zzl (args := [.int .i64 k]) Tryz.func27 rfl Tryz.ntmps27 (rs := [.cell 2 26]) Tryz.results27 (le_b rfl) (le_b rfl) d ?_
 refine sq9 (zzj 2 ⟨26, [.bool false, .slice none 0 0, .slice none 0 0]⟩ (zzb (sq9 (zxp 3 ⟨104, [.int .u32 1]⟩ 1 (fun b11 u12 e13 h14 => ?_)))))
 refine zza 4 (zI k) (zzg 5 96 [.slice (some ⟨b11, 0, none⟩) 1 1, .int .i64 k] ?_)
 intro w15 u15 e15 d15
 have k20 := k_rnShift (s := k) d15 ((one_data h14).ext e15).raw xq xq
 with_reducible refine zPm k20 ?_
 rintro _ u18 g19 ⟨x16, rfl, h17⟩
 refine zza 6 (.v (.agg #[.bool false, x16.v])) (zxp 7 ⟨104, [.int .u32 1]⟩ 1 (fun b21 u22 e23 h24 => ?_))
 refine zza 8 (.v (.agg #[.bool false, x16.v, .slice (some ⟨b21, 0, none⟩) 1 1])) (zzi ⟨26, [.bool false, x16.v, .slice (some ⟨b21, 0, none⟩) 1 1]⟩ ty26 ?_)
 refine zzb (zzn (ret0 [.agg #[.bool false, .slice x16.a x16.n x16.c, .slice (some ⟨b21, 0, none⟩) 1 1]] ⟨zzq ty26 zze, trivial⟩ fun u25 e26 => ?_))
 refine ⟨(⟨false, x16, (⟨some ⟨b21, 0, none⟩, 1, 1⟩ : Sl)⟩ : RL), rfl, ?_⟩
 have h9 := whole_rat (nat_intN (h17.ext (e23.trans e26))) ((one_data h24).ext e26)
 rw [Nat.one_mul] at h9
 exact h9.more xq
theorem k_floor {u w : World} {r : RL} {q : Rat} {K : Nat} (d : Dat u w) (hr : RatV u r q K) (hK : K ≤ 10000000) : Calls Tryz.prog 87 #[r.v] w (Post u w fun v u' => ∃ i : IL, v = i.v ∧ IntN u' i (Nt.flr q) (K + 1)) := by
 refine zzl (args := [r.v]) Tryz.func87 rfl Tryz.ntmps87 (rs := [.cell 2 24]) Tryz.results87 (le_b rfl) (le_b rfl) d ?_
 refine sq9 (zzj 1 ⟨26, r.cs⟩ (zzj 2 ⟨24, [.bool false, .slice none 0 0]⟩ (zzb (sq9 (zzh 9 (.v (r.v)) ty26 zze (zzg 10 92 [r.v] ?_))))))
 intro w11 u11 e11 d11
 have k15 := k_parts d11 (hr.ext e11) xq
 with_reducible refine zPm k15 ?_
 rintro _ u13 g14 ⟨i12, j12, z12, D12, rfl, hi12, hj12, hp12, hq12, hk12⟩
 refine zza 8 (.v (.tuple #[i12.v, j12.v])) (zza 11 (.v (i12.v)) (zza 12 (.v (j12.v)) (zzj 3 ⟨24, [.bool false, .slice none 0 0]⟩ (zzj 4 ⟨24, [.bool false, .slice none 0 0]⟩ (zzi ⟨24, i12.cs⟩ ty24 ?_)))))
 refine zzi ⟨24, j12.cs⟩ ty24 ?_
 refine zzb (sq9 (zzh 14 (.v (i12.v)) ty24 zze (zzh 15 (.v (j12.v)) ty24 zze (zzg 16 167 [i12.v, j12.v] ?_))))
 intro w16 u16 e16 d16
 have k23 := k_riDiv d16 (hi12.ext e16) (hj12.ext e16).raw (show ((D12 : Nat) : Int) ≠ 0 by have h9 := hp12; omega) xq xq
 with_reducible refine zPm k23 ?_
 rintro _ u21 g22 ⟨i17, i19, rfl, h18, h20⟩
 refine zza 13 (.v (.tuple #[i17.v, i19.v, .int .i64 0])) (zza 17 (.v (i17.v)) (zza 18 (.v (i19.v)) (zza 19 (zI 0) (zzj 5 ⟨24, [.bool false, .slice none 0 0]⟩ (zzj 6 ⟨24, [.bool false, .slice none 0 0]⟩ (zzi ⟨24, i17.cs⟩ ty24 ?_))))))
 refine zzi ⟨24, i19.cs⟩ ty24 ?_
 refine zza 7 (zI 0) (zzb (sq9 (zzh 20 (.v (i17.v)) ty24 zze (zzi ⟨24, i17.cs⟩ ty24 ?_))))
 refine zzb (zzn (ret0 [i17.v] ⟨zzq ty24 zze, trivial⟩ fun u24 e25 => ?_))
 refine ⟨i17, rfl, IntN.more (K := (K + 1)) ?_ xq⟩
 rw [hq12, Nt.flr_mk hp12]
 exact (h18.ext e25)
namespace Nt
def rndO (x1 x2 : Rat) (n : Int) : Option (Rat × Rat) := if n < 0 ∨ 256 < n then none else some (dnQ (lo x1 x2) n.toNat, -dnQ (-hi x1 x2) n.toNat)
def rndE (n : Int) : Int := if n < 0 ∨ 256 < n then 1 else 0
end Nt
def OptI (u : World) (a b : RL) (o : Option (Rat × Rat)) (K : Nat) : Prop := match o with | none => a = rl0 ∧ b = rl0 | some (p, q) => RatN u a p K ∧ RatN u b q K
theorem OptI.ext {u u' : World} {a b : RL} {o : Option (Rat × Rat)} {K : Nat} (h : OptI u a b o K) (e : Ext u u') : OptI u' a b o K := by
 cases o with
 | none => exact h
 | some x => exact ⟨h.1.ext e, h.2.ext e⟩
set_option maxHeartbeats 1000000 in
theorem k_ivRoundG {u w : World} {a1 a2 : RL} {x1 x2 : Rat} {K : Nat} {k : Nat} (hk : k ≤ 256) (d : Dat u w) (ha1 : RatV u a1 x1 K) (ha2 : RatV u a2 x2 K) (hK : K ≤ 100000) : Calls Tryz.prog 227 #[IV a1 a2, .int .i64 (k : Int)] w (Post u w fun v u' => ∃ p q : RL, v = .tuple #[IV p q, .int .i64 (Nt.rndE (k : Int))] ∧ OptI u' p q (Nt.rndO x1 x2 (k : Int)) (K + 70)) := by
 refine zzl (args := [.agg #[.bool a1.s, .slice a1.m.a a1.m.n a1.m.c, .slice a1.d.a a1.d.n a1.d.c, .bool a2.s, .slice a2.m.a a2.m.n a2.m.c, .slice a2.d.a a2.d.n a2.d.c], .int .i64 k]) Tryz.func227 rfl Tryz.ntmps227 (rs := [.cell 4 32, .tmp 5]) Tryz.results227 (le_b rfl) (le_b rfl) d ?_
 refine sq9 (zzj 2 ⟨32, a1.cs ++ a2.cs⟩ (zzj 4 ⟨32, [.bool false, .slice none 0 0, .slice none 0 0, .bool false, .slice none 0 0, .slice none 0 0]⟩ (zza 5 (zI 0) (zzb (zzd (sq9 (zza 12 (zI k) (zza 13 (zB (decide ((k : Int) < 0))) (zyn 14 (x := zB (decide ((k : Int) < 0))) (zB false) (by rw [show (decide ((k : Int) < 0)) = false from decide_eq_false xq]) (zza 15 (zI k) ?_ (hw := w1 2 false 14)))))))))))
 refine zza 16 (zB (decide ((256 : Int) < (k : Int)))) ?_ (hw := w1 2 false 14)
 refine zza 17 (zB (decide ((256 : Int) < (k : Int)))) (zzb (zzt (b := decide ((256 : Int) < (k : Int))) xj (fun hb => ?_) (fun hb => ?_)))
 ·exact absurd hb (by rw [show (decide ((256 : Int) < (k : Int))) = false from decide_eq_false xq]; decide)
 ·clear hb
  refine zzr (zzo ?_)
  refine sq9 (zzh 20 (.v (.agg #[.bool a1.s, a1.m.v, a1.d.v, .bool a2.s, a2.m.v, a2.d.v])) ty32 zze (zzg 21 208 [.agg #[.bool a1.s, a1.m.v, a1.d.v, .bool a2.s, a2.m.v, a2.d.v]] ?_))
  intro w12 u12 e12 d12
  have k19 := k_ends d12 (ha1.ext e12) (ha2.ext e12) xq
  with_reducible refine zPm k19 ?_
  rintro _ u17 g18 ⟨r13, r15, rfl, h14, h16⟩
  refine zza 19 (.v (.tuple #[r13.v, r15.v])) (zza 22 (.v (r13.v)) (zza 23 (.v (r15.v)) (zzj 6 ⟨26, [.bool false, .slice none 0 0, .slice none 0 0]⟩ (zzj 7 ⟨26, [.bool false, .slice none 0 0, .slice none 0 0]⟩ (zzi ⟨26, r13.cs⟩ ty26 ?_)))))
  refine zzi ⟨26, r15.cs⟩ ty26 ?_
  refine zzb (sq9 (zzh 25 (.v (r13.v)) ty26 zze (zza 26 (zI k) (zzg 27 252 [r13.v, .int .i64 k] ?_))))
  intro w20 u20 e20 d20
  have k25 := k_downG (k := k) xq d20 (h14.ext e20) xq
  with_reducible refine zPm k25 ?_
  rintro _ u23 g24 ⟨r21, rfl, h22⟩
  refine zza 24 (.v (.tuple #[r21.v, .int .i64 0])) (zza 28 (.v (r21.v)) (zza 29 (zI 0) (zzj 8 ⟨26, [.bool false, .slice none 0 0, .slice none 0 0]⟩ (zzi ⟨26, r21.cs⟩ ty26 ?_))))
  refine zza 9 (zI 0) (zzb (sq9 (zzh 31 (.v (r15.v)) ty26 zze (zza 32 (zI k) (zzg 33 253 [r15.v, .int .i64 k] ?_)))))
  intro w26 u26 e26 d26
  have k31 := k_upG (k := k) xq d26 (h16.ext (e20.trans (g24.ext.trans e26))) xq
  with_reducible refine zPm k31 ?_
  rintro _ u29 g30 ⟨r27, rfl, h28⟩
  refine zza 30 (.v (.tuple #[r27.v, .int .i64 0])) (zza 34 (.v (r27.v)) (zza 35 (zI 0) (zzj 10 ⟨26, [.bool false, .slice none 0 0, .slice none 0 0]⟩ (zzi ⟨26, r27.cs⟩ ty26 ?_))))
  refine zza 11 (zI 0) (zzc 39 [(4, .adr 4 0), (8, .adr 8 0), (10, .adr 10 0)] [(4, ⟨32, [.bool false, .slice none 0 0, .slice none 0 0, .bool false, .slice none 0 0, .slice none 0 0]⟩), (8, ⟨26, r21.cs⟩), (10, ⟨26, r27.cs⟩)] (sq9 (zzh 36 (.v (r21.v)) ty26 zze (zzh 37 (.v (r27.v)) ty26 zze (zza 38 (.v (.agg #[.bool r21.s, r21.m.v, r21.d.v, .bool r27.s, r27.m.v, r27.d.v])) (zzi ⟨32, r21.cs ++ r27.cs⟩ ty32 ?_))))))
  refine zza 5 (zI 0) (zzb (zzn (ret0 [.agg #[.bool r21.s, .slice r21.m.a r21.m.n r21.m.c, .slice r21.d.a r21.d.n r21.d.c, .bool r27.s, .slice r27.m.a r27.m.n r27.m.c, .slice r27.d.a r27.d.n r27.d.c], .int .i64 0] ⟨zzq ty32 zze, zzp, trivial⟩ fun u32 e33 => ?_)))
  have h9 : ¬ ((k : Int) < 0 ∨ 256 < (k : Int)) := by omega
  refine ⟨r21, r27, by unfold Nt.rndE; rw [if_neg h9]; rfl, ?_⟩
  unfold Nt.rndO
  rw [if_neg h9, Int.toNat_natCast]
  exact ⟨RatN.more (K := (K + 20)) (h22.ext (e26.trans (g30.ext.trans e33))) xq, RatN.more (K := (K + 20)) (h28.ext e33) xq⟩
theorem k_rqSameNil {u w : World} (d : Dat u w) : Calls Tryz.prog 89 #[rl0.v, rl0.v] w (Post u w fun v _ => v = .bool true) := by
 refine zzl (args := [.agg #[.bool false, .slice none 0 0, .slice none 0 0], .agg #[.bool false, .slice none 0 0, .slice none 0 0]]) Tryz.func89 rfl Tryz.ntmps89 (rs := [.tmp 4]) Tryz.results89 (le_b rfl) (le_b rfl) d ?_
 refine sq9 (zzj 2 ⟨26, [.bool false, .slice none 0 0, .slice none 0 0]⟩ (zzj 3 ⟨26, [.bool false, .slice none 0 0, .slice none 0 0]⟩ (zza 4 (zB false) (zzb (sq9 (zza 5 (.adr 2 0) (zzh 6 (.v (.agg #[.bool false, .slice none 0 0])) ty24 zze (zza 7 (.adr 3 0) (zzh 8 (.v (.agg #[.bool false, .slice none 0 0])) ty24 zze (zzg 9 169 [.agg #[.bool false, .slice none 0 0], .agg #[.bool false, .slice none 0 0]] ?_))))))))))
 intro w11 u11 e11 d11
 have k14 := k_riSame d11 (int_zero _ 1) (int_zero _ 1)
 with_reducible refine zPm k14 ?_
 rintro _ u12 g13 rfl
 refine zyn 10 (x := zB (decide ((0 : Int) = (0 : Int)))) (zB true) (by rw [show (decide ((0 : Int) = (0 : Int))) = true from xw]) (zza 11 (.adr 2 2) ?_ (hw := w1 5 true 10))
 refine zzh 12 (.v (.slice none 0 0)) ty22 zzk ?_ (hw := w1 5 true 10)
 refine zza 13 (.adr 3 2) ?_ (hw := w1 5 true 10)
 refine zzh 14 (.v (.slice none 0 0)) ty22 zzk ?_ (hw := w1 5 true 10)
 refine zzg 15 170 [.slice none 0 0, .slice none 0 0] ?_ (hw := w1 5 true 10)
 intro w16 u16 e16 d16
 have k19 := k_rnSame d16 (nat_nilN _ 1) (nat_nilN _ 1)
 with_reducible refine zPm k19 ?_
 rintro _ u17 g18 rfl
 refine zza 16 (zB (decide (0 = 0))) (zza 4 (zB (decide (0 = 0))) (zzb (zzn (ret0 [.bool (decide (0 = 0))] ⟨zzp, trivial⟩ fun u20 e21 => ?_))))
 show Value.bool _ = _
 congr 1
theorem k_r4SameNil {u w : World} (d : Dat u w) : Calls Tryz.prog 22 #[IV rl0 rl0, IV rl0 rl0] w (Post u w fun v _ => v = .bool true) := by
 refine zzl (args := [.agg #[.bool false, .slice none 0 0, .slice none 0 0, .bool false, .slice none 0 0, .slice none 0 0], .agg #[.bool false, .slice none 0 0, .slice none 0 0, .bool false, .slice none 0 0, .slice none 0 0]]) Tryz.func22 rfl Tryz.ntmps22 (rs := [.tmp 4]) Tryz.results22 (le_b rfl) (le_b rfl) d ?_
 refine sq9 (zzj 2 ⟨32, [.bool false, .slice none 0 0, .slice none 0 0, .bool false, .slice none 0 0, .slice none 0 0]⟩ (zzj 3 ⟨32, [.bool false, .slice none 0 0, .slice none 0 0, .bool false, .slice none 0 0, .slice none 0 0]⟩ (zza 4 (zB false) (zzb (sq9 (zza 5 (.adr 2 0) (zzh 6 (.v (.agg #[.bool false, .slice none 0 0, .slice none 0 0])) ty26 zze (zza 7 (.adr 3 0) (zzh 8 (.v (.agg #[.bool false, .slice none 0 0, .slice none 0 0])) ty26 zze (zzg 9 89 [.agg #[.bool false, .slice none 0 0, .slice none 0 0], .agg #[.bool false, .slice none 0 0, .slice none 0 0]] ?_))))))))))
 intro w11 u11 e11 d11
 have k14 := (show Calls _ _ #[.agg #[.bool false, .slice none 0 0, .slice none 0 0], .agg #[.bool false, .slice none 0 0, .slice none 0 0]] _ _ from k_rqSameNil d11)
 with_reducible refine zPm k14 ?_
 rintro _ u12 g13 rfl
 refine zza 10 (zB true) (zza 11 (.adr 2 3) ?_ (hw := w1 5 true 10))
 refine zzh 12 (.v (.agg #[.bool false, .slice none 0 0, .slice none 0 0])) ty26 zze ?_ (hw := w1 5 true 10)
 refine zza 13 (.adr 3 3) ?_ (hw := w1 5 true 10)
 refine zzh 14 (.v (.agg #[.bool false, .slice none 0 0, .slice none 0 0])) ty26 zze ?_ (hw := w1 5 true 10)
 refine zzg 15 89 [.agg #[.bool false, .slice none 0 0, .slice none 0 0], .agg #[.bool false, .slice none 0 0, .slice none 0 0]] ?_ (hw := w1 5 true 10)
 intro w15 u15 e15 d15
 have k18 := (show Calls _ _ #[.agg #[.bool false, .slice none 0 0, .slice none 0 0], .agg #[.bool false, .slice none 0 0, .slice none 0 0]] _ _ from k_rqSameNil d15)
 with_reducible refine zPm k18 ?_
 rintro _ u16 g17 rfl
 refine zza 16 (zB true) (zza 4 (zB true) (zzb (zzn (ret0 [.bool true] ⟨zzp, trivial⟩ fun u19 e20 => ?_))))
 rfl
theorem k_r4SameO {u w : World} {a1 a2 b1 b2 : RL} {o : Option (Rat × Rat)} {K L : Nat} (d : Dat u w) (h1 : OptI u a1 a2 o K) (h2 : OptI u b1 b2 o L) : Calls Tryz.prog 22 #[IV a1 a2, IV b1 b2] w (Post u w fun v _ => v = .bool true) := by
 cases o with
 | none =>
  obtain ⟨rfl, rfl⟩ := h1
  obtain ⟨rfl, rfl⟩ := h2
  exact k_r4SameNil d
 | some x =>
  refine Post.mono (k_r4Same d h1.1 h1.2 h2.1 h2.2) fun v u' _ h => ?_
  rw [h]; simp
@[reducible] def SP (a b : IL) : Value := .agg #[.bool a.s, .slice a.m.a a.m.n a.m.c, .bool b.s, .slice b.m.a b.m.n b.m.c]
namespace Nt
theorem pw_u2 (k : Nat) : pw k = u2 (32 * k) := by
 induction k with
 | zero => rfl
 | succ k ih =>
  have h : u2 (32 * (k + 1)) = u2 (32 * k) * u2 32 := by rw [← u2_add]; rfl
  have e : u2 32 = 4294967296 := by decide +kernel
  show 4294967296 * pw k = _
  rw [ih, h, e, Int.mul_comm]
theorem dl_u2 {z : Int} {L b : Nat} (h0 : -(u2 b) ≤ z) (h1 : z ≤ u2 b) (h : b < 32 * L) : dl z.natAbs ≤ L := by
 refine dl_le ?_
 rw [pw_u2]
 have h2 := u2_mono (a := b + 1) (b := 32 * L) xq
 have h3 : u2 (b + 1) = u2 b * 2 := u2_add b 1
 have h4 := u2_pos b
 omega
theorem big {w : Nat} (hw : w ≤ 800) : 8 * u2 w + 1152921504606846976 ≤ u2 1000 := by
 have h1 := u2_mono hw
 have h2 : 8 * u2 800 + 1152921504606846976 ≤ u2 1000 := by decide +kernel
 omega
theorem cmp_le (x y : Int) : decide (cmpS x y ≤ 0) = decide (x ≤ y) := by
 rw [decide_eq_decide]
 rcases cmp_range x y with ⟨e, h⟩ | ⟨e, h⟩ | ⟨e, h⟩ <;> rw [e] <;> omega
theorem cmp_ne (x y : Int) : (cmpS x y != 0) = decide (x ≠ y) := by
 rcases cmp_range x y with ⟨e, h⟩ | ⟨e, h⟩ | ⟨e, h⟩ <;> rw [e] <;> simp <;> omega
theorem csW_le {w : Nat} (hw : w ≤ 800) : csW w * ((w : Int) + 4) + 2 ≤ 1000000000 ∧ 0 ≤ csW w * ((w : Int) + 2) ∧ csW w * ((w : Int) + 2) ≤ 1000000000 := by
 have h0 : 0 ≤ csW w := by unfold csW; omega
 have h1 : csW w ≤ 411211 := by unfold csW; omega
 have h2 := Int.mul_le_mul h1 (show (w : Int) + 4 ≤ 804 by omega) xq xw
 have h3 := Int.mul_le_mul_of_nonneg_left (show (w : Int) + 2 ≤ (w : Int) + 4 by omega) h0
 have h4 := Int.mul_nonneg h0 (show 0 ≤ (w : Int) + 2 by omega)
 omega
theorem width_lt {lo hi : Int} {g w : Nat} (h : hi - lo ≤ 1000000000) (hw : g + 37 ≤ w) : hi - lo < u2 (w - g) := by
 have h1 := u2_mono (a := 37) (b := w - g) xq
 have h2 : u2 37 = 137438953472 := by decide +kernel
 omega
theorem atR_bd {n w : Nat} {a b : Int} (h : AtR n w a b) (hn : 0 < n) : -(5 * (w : Int) + 8) ≤ a ∧ a ≤ u2 w ∧ 0 ≤ b ∧ b ≤ u2 w + 5 * (w : Int) + 8 ∧ a ≤ b := by
 obtain ⟨⟨N, h1⟩, h2⟩ := h
 have h3 := h1 (N + 1) xq
 have k1 := atT_b (n := n) hn (m := N + 1) xq
 have k2 := atT_le hn 0
 have hU := castI_pos (u2_pos w)
 have h4 : alt (atT n) (N + 1) ≤ 1 := by
  refine Rat.le_trans k1.2 ?_
  refine Rat.le_trans (div_le_self (atP_nn hn 0) (cast_one xq)) ?_
  show 1 / (n : Rat) ≤ 1
  exact div_le_self xw (cast_one hn)
 have h5 := h3.lo_le (c := u2 w) (by
  have := Rat.mul_le_mul_of_nonneg_right h4 (Rat.le_of_lt hU)
  rwa [Rat.one_mul] at this)
 have h6 := h3.nonneg (by grind) (u2_pos w)
 have := h3.le
 omega
theorem coD_mul {j : Nat} (h : j ≤ 1000) : IntKind.i64.wrap (((2 * j + 2 : Nat) : Int) * ((2 * j + 2 - 1 : Nat) : Int)) = coD j ∧ coD j ≤ 10000000 := by
 have h1 := Nat.mul_le_mul (show 2 * j + 2 ≤ 2002 by omega) (show 2 * j + 1 ≤ 2001 by omega)
 have e : ((2 * j + 2 : Nat) : Int) * ((2 * j + 2 - 1 : Nat) : Int) = coD j := by
  unfold coD
  rw [Int.natCast_mul, show 2 * j + 2 - 1 = 2 * j + 1 by omega]
 have h2 : coD j ≤ 10000000 := by unfold coD; omega
 have h3 := coD_pos j
 rw [e]
 exact ⟨IntWalk.i64_in _ xq, h2⟩
theorem csR_bd {p q w : Nat} {a b : Int} (h : CsR p q w a b) (h0 : 0 < q) (hp : 2 * p ≤ q) (hw : w ≤ 800) : -(3 * u2 w) - 1000000000 ≤ a ∧ a ≤ 3 * u2 w ∧ -(3 * u2 w) ≤ b ∧ b ≤ 3 * u2 w + 1000000000 ∧ a ≤ b ∧ b - a ≤ 1000000000 := by
 have h9 := csW_le hw
 obtain ⟨⟨N, h1⟩, h2⟩ := h
 have h3 := h1 (N + 1) xq
 have h4 := cs_bd (N := N) (m := N + 1) h0 hp xq xq h3
 have := h3.le
 omega
theorem piR_w {w : Nat} {a b : Int} (h : PiR w a b) (hw : w ≤ 800) : b - a ≤ 1000000000 := by have := h.2; omega
theorem flo_of {X : Nat → Rat} {b w : Nat} {lo hi : Int} (h : ∃ N : Nat, ∀ m, N ≤ m → Enc (u2 w) lo hi (X m)) (hb : b ≤ w) (he : (cmpS (lo / u2 (w - b)) (hi / u2 (w - b)) != 0) = false) : lo / u2 (w - b) = flo X b := by
 rw [cmp_ne] at he
 have h1 : lo / u2 (w - b) = hi / u2 (w - b) := by simpa using he
 exact (FlO.of h hb rfl h1.symm).flo.symm
theorem not_yet {X : Nat → Rat} {b g w : Nat} {lo hi : Int} (hg : Gap X b g) (h : ∃ N : Nat, ∀ m, N ≤ m → Enc (u2 w) lo hi (X m)) (hw : hi - lo ≤ 1000000000) (he : (cmpS (lo / u2 (w - b)) (hi / u2 (w - b)) != 0) = true) : w < g + 37 := by
 rcases Nat.lt_or_ge w (g + 37) with k | k
 ·exact k
 ·have := hg.decides h xq (width_lt hw k)
  rw [cmp_ne] at he
  exact absurd this (by simpa using he)
theorem dnQ_int (z : Int) (b : Nat) : dnQ (z : Rat) b = (z : Rat) := by
 unfold dnQ
 have e : (z : Rat) * ((2 ^ b : Nat) : Rat) = ((z * ((2 ^ b : Nat) : Int) : Int) : Rat) := by rw [Rat.intCast_mul]; rfl
 have f : flr ((z * ((2 ^ b : Nat) : Int) : Int) : Rat) = z * ((2 ^ b : Nat) : Int) := by
  unfold flr
  show (z * ((2 ^ b : Nat) : Int)) / ((1 : Nat) : Int) = _
  exact Int.ediv_one _
 have hp : (2 ^ b : Nat) ≠ 0 := by have := Nat.pow_pos (n := b) (show 0 < 2 by decide); omega
 rw [e, f, Rat.mkRat_eq_div, Rat.intCast_mul]
 show (z : Rat) * ((2 ^ b : Nat) : Rat) / ((2 ^ b : Nat) : Rat) = _
 have : ((2 ^ b : Nat) : Rat) ≠ 0 := by
  have := cast_pos (Nat.pow_pos (n := b) (show 0 < 2 by decide))
  grind
 generalize ((2 ^ b : Nat) : Rat) = x at *
 grind
theorem rnd_pt {q : Rat} {k : Nat} (hk : k ≤ 256) : rndO (lo q q) (hi q q) (k : Int) = some (dnQ q k, -dnQ (-q) k) := by
 unfold rndO
 have e := lo_of_le (Rat.le_refl (a := q))
 rw [if_neg (show ¬ ((k : Int) < 0 ∨ 256 < (k : Int)) by omega), e.1, e.2, e.1, e.2, Int.toNat_natCast]
theorem cosA_0 {r q b : Nat} (h : r = 0) : cosA r q b = (dnQ ((1 : Int) : Rat) b, -dnQ (-((1 : Int) : Rat)) b) := by
 have e : -((1 : Int) : Rat) = ((-1 : Int) : Rat) := rfl
 unfold cosA
 rw [if_pos h, dnQ_int, e, dnQ_int]; rfl
theorem cosA_h {r q b : Nat} (h : ¬ r = 0) (h2 : 2 * r = q) : cosA r q b = (dnQ ((0 : Int) : Rat) b, -dnQ (-((0 : Int) : Rat)) b) := by
 have e : -((0 : Int) : Rat) = ((0 : Int) : Rat) := rfl
 unfold cosA
 rw [if_neg h, if_pos h2, e, dnQ_int]; rfl
theorem cosA_3 {r q b : Nat} (h : ¬ r = 0) (h2 : ¬ 2 * r = q) (h3 : 3 * r = q) : cosA r q b = (dnQ (((1 : Int) : Rat) / ((2 : Int) : Rat)) b, -dnQ (-(((1 : Int) : Rat) / ((2 : Int) : Rat))) b) := by
 unfold cosA
 rw [if_neg h, if_neg h2, if_pos h3]; rfl
theorem cosA_g {r q b : Nat} (h : ¬ r = 0) (h2 : ¬ 2 * r = q) (h3 : ¬ 3 * r = q) : cosA r q b = (gr b (flo (coN r q) b), gr b (flo (coN r q) b + 1)) := by
 unfold cosA
 rw [if_neg h, if_neg h2, if_neg h3]
theorem cosV_lo {p : Int} {q b r : Nat} (h : fold p q = r) (h2 : ¬ q < 2 * r) : cosV p q b = cosA r q b := by
 unfold cosV cosF; rw [h, if_neg h2]
theorem cosV_hi {p : Int} {q b r : Nat} (h : fold p q = r) (h2 : q < 2 * r) : cosV p q b = (-(cosA (q - r) q b).2, -(cosA (q - r) q b).1) := by
 unfold cosV cosF; rw [h, if_pos h2]
theorem fold_id {r q : Nat} (h : r ≤ q) : fold (r : Int) q = r := by
 unfold fold
 dsimp only
 rcases Nat.eq_zero_or_pos q with h0 | h0
 ·have : r = 0 := by omega
  subst this; subst h0; rfl
 ·rw [Int.tmod_eq_of_lt xq xq, if_neg xq]
  omega
theorem tmod_bd (p : Int) {q : Nat} (hq : 0 < q) : -(2 * (q : Int)) < Int.tmod p (2 * (q : Int)) ∧ Int.tmod p (2 * (q : Int)) < 2 * (q : Int) := ⟨Int.lt_tmod_of_pos p xq, Int.tmod_lt_of_pos p xq⟩
end Nt
theorem IntN.fit {u : World} {i : IL} {z : Int} {K L : Nat} (h : IntN u i z K) (k : dl z.natAbs ≤ L) : IntN u i z L := ⟨h.1, h.2.1, h.2.2.1, k⟩
theorem IntN.lim {u : World} {i : IL} {z : Int} {K : Nat} (h : IntN u i z K) (h0 : -(Nt.u2 1000) ≤ z) (h1 : z ≤ Nt.u2 1000) : IntN u i z 40 := h.fit (Nt.dl_u2 h0 h1 xw)
theorem IntN.lim2 {u : World} {i : IL} {z : Int} {K : Nat} (h : IntN u i z K) (h0 : -(Nt.u2 1000) ≤ z) (h1 : z ≤ Nt.u2 1000) : IntN u i z 42 := (h.lim h0 h1).more xw
end Go.Proofs.YtbolmkfphieogaaGreat
