/- Parts of the proof: contracts of functions, each walked once, and plain laws. -/
import Derived.Test.YtgmkhhfbckjaeaaGreatXchJ
set_option linter.unusedVariables false
set_option maxHeartbeats 8000000
namespace Go.Proofs.YtgmkhhfbckjaeaaGreat
open Nt
namespace Nt
open Pol
def rfRow (V : List Rat) (l : List Nat) (n j : Nat) : List Rat := ((List.range n).map fun k => xs V l j ^ k) ++ [sgw V l j]
def rfA (V : List Rat) (l : List Nat) (n : Nat) : List (List Rat) := (List.range (n + 1)).map (rfRow V l n)
def rfY (V : List Rat) (l : List Nat) (n : Nat) : List Rat := (List.range (n + 1)).map (ys V l)
def colM (b : List Rat) : List (List Rat) := b.map fun y => [y]
def besG (M B : List (List Rat)) (i : Nat) : List (List Rat) := (List.range M.length).map fun k => if k < i then M.getD k [] ++ B.getD k [] else M.getD k []
section
variable {A M B : List (List Rat)} {n m i j k : Nat} {d x : Rat} {q b : List Rat}
theorem mapR_atL {α : Type} {f : Nat → List α} (h : k < n) : (((List.range n).map f).getD k []) = f k := by
 rw [qyg, List.getElem?_map, List.getElem?_range h]; rfl
theorem besG_len : (besG M B i).length = M.length := by unfold besG; simp
theorem besG_at (h : k < M.length) : (besG M B i).getD k [] = if k < i then M.getD k [] ++ B.getD k [] else M.getD k [] := by unfold besG; exact mapR_atL h
theorem listD_ext {α : Type} {l l' : List (List α)} (h : l.length = l'.length) (h2 : ∀ i, i < l.length → l.getD i [] = l'.getD i []) : l = l' := by
 refine List.ext_getElem h fun i hi hi' => ?_
 have := h2 i hi
 rw [qyg, qyg, List.getElem?_eq_getElem hi, List.getElem?_eq_getElem hi'] at this
 exact this
theorem besG_0 : besG M B 0 = M := listD_ext besG_len fun i hi => by rw [besG_at (by rw [besG_len] at hi; exact hi), if_neg xq]
theorem besG_set (h : i < M.length) : (besG M B i).set i (M.getD i [] ++ B.getD i []) = besG M B (i + 1) := by
 refine listD_ext (by rw [List.length_set, besG_len, besG_len]) fun k hk => ?_
 have hk2 : k < M.length := by rw [List.length_set, besG_len] at hk; exact hk
 rw [besG_at hk2]
 by_cases e : k = i
 ·subst e
  rw [qyg, List.getElem?_set_self (by rw [besG_len]; exact hk2), if_pos xq]; rfl
 rw [qyg, List.getElem?_set_ne (Ne.symm e), ← qyg, besG_at hk2]
 by_cases h9 : k < i
 ·rw [if_pos h9, if_pos xq]
 rw [if_neg h9, if_neg xq]
theorem colM_len : (colM b).length = b.length := by unfold colM; simp
theorem colM_at (h : i < b.length) : (colM b).getD i [] = [b.getD i 0] := by
 unfold colM
 rw [qyg, qyg, List.getElem?_map, List.getElem?_eq_getElem h]; rfl
theorem bes_old (h : i < n) (hl : M.length = n) (hr : ∀ i, i < n → (M.getD i []).length = n) (hj : j < n) : ent (besG M B n) i j = ent M i j := by
 unfold ent
 rw [besG_at xq, if_pos h, qyg, List.getElem?_append_left (by rw [hr i h]; exact hj), ← qyg]
theorem bes_new (h : i < n) (hl : M.length = n) (hr : ∀ i, i < n → (M.getD i []).length = n) (hb : b.length = n) : ent (besG M (colM b) n) i n = b.getD i 0 := by
 unfold ent
 rw [besG_at xq, if_pos h, qyg, List.getElem?_append_right (by rw [hr i h]; omega), hr i h, Nat.sub_self, colM_at xq]; rfl
theorem bes_row (h : i < n) (hl : M.length = n) (hr : ∀ i, i < n → (M.getD i []).length = n) (hb : b.length = n) : ((besG M (colM b) n).getD i []).length = n + 1 := by
 rw [besG_at xq, if_pos h, List.length_append, hr i h, colM_at xq]; rfl
theorem bes_inj (hl : M.length = n) (hr : ∀ i, i < n → (M.getD i []).length = n) (h : Inj n M) : Inj n (besG M B n) := fun v hv => h v fun i hi => by
 rw [← hv i hi]
 exact (dotV_congr fun j hj => bes_old hi hl hr hj).symm
theorem colM_take {f : Nat → Rat} (h : k < n) : (colM ((List.range n).map f)).take (k + 1) = (colM ((List.range n).map f)).take k ++ [[f k]] := by
 rw [List.take_succ_eq_append_getElem (by rw [colM_len, List.length_map, List.length_range]; exact h)]
 simp [colM]
theorem colM_takeB (h : k < b.length) : (colM b).take (k + 1) = (colM b).take k ++ [[b.getD k 0]] := by
 rw [List.take_succ_eq_append_getElem (by rw [colM_len]; exact h)]
 simp [colM, h]
theorem colM_row (h : i < b.length) : ((colM b).getD i []).length = 1 := by rw [colM_at h]; rfl
theorem colM_v (h : i < b.length) : ((colM b).getD i []).getD 0 0 = b.getD i 0 := by rw [colM_at h]; rfl
theorem drop_last {l : List Rat} (h : l.length = n + 1) : l.drop n = [l.getD n 0] := by
 refine List.ext_getElem yw fun i h1 h2 => ?_
 have : i = 0 := by simp at h2; omega
 subst this
 simp [h]
theorem GI.solve (g : GI n (n + 1) A M n d) (hi : i < n) : su (fun j => ent A i j * ent M j n) n = ent A i n := by
 have h1 : Ker n (n + 1) M (fun j => if j < n then ent M j n else -1) := fun r hr => by
  unfold dotV
  rw [su_s, su_congr (g := fun j => ent M j n * (if r = j then 1 else 0)) (fun j hj => by
   show ent M r j * (if j < n then ent M j n else -1) = _
   rw [g.unit j hj r hr, if_pos hj, Rat.mul_comm]), su_at hr (fun j hj hne => by show ent M j n * (if r = j then 1 else 0) = 0; rw [if_neg (Ne.symm hne), Rat.mul_zero])]
  show ent M r n * (if r = r then 1 else 0) + ent M r n * (if n < n then ent M n n else -1) = 0
  rw [if_neg (Nat.lt_irrefl n), if_pos rfl]; grind
 have h2 := g.ker _ h1 i hi
 unfold dotV at h2
 rw [su_s, su_congr (g := fun j => ent A i j * ent M j n) (fun j hj => by
  show ent A i j * (if j < n then ent M j n else -1) = _
  rw [if_pos hj])] at h2
 have h3 : ent A i n * (if n < n then ent M n n else -1) = -ent A i n := by rw [if_neg (Nat.lt_irrefl n)]; grind
 rw [h3] at h2
 grind
theorem ev_su : ∀ {q : List Rat} {n : Nat}, q.length ≤ n → evL q x = su (fun k => x ^ k * co q k) n
 | [], n, _ => by
  rw [su_0 fun i _ => by rw [co_nil, Rat.mul_zero]]; rfl
 | a :: l, 0, h => by simp at h
 | a :: l, n + 1, h => by
  rw [su_head, su_congr (g := fun k => x * (x ^ k * co l k)) (fun k _ => by
   show x ^ (k + 1) * co l k = _
   rw [Rat.pow_succ]; grind), su_mul, ← ev_su (by simp at h; exact h)]
  show a + x * evL l x = x ^ 0 * a + _
  rw [Rat.pow_zero, Rat.one_mul]
theorem co_list (f : Nat → Rat) (h : k < n) : co ((List.range n).map f) k = f k := by unfold co; exact mapR_at h
end
section
variable {V : List Rat} {N n j k : Nat} {l : List Nat} {v : Nat → Rat}
theorem rfA_len : (rfA V l n).length = n + 1 := by unfold rfA; simp
theorem rfA_at (h : j < n + 1) : (rfA V l n).getD j [] = rfRow V l n j := by unfold rfA; exact mapR_atL h
theorem rfRow_len : (rfRow V l n j).length = n + 1 := by unfold rfRow; simp
theorem rfA_p (h : j < n + 1) (hk : k < n) : ent (rfA V l n) j k = xs V l j ^ k := by
 unfold ent
 rw [rfA_at h]
 unfold rfRow
 rw [qyg, List.getElem?_append_left (by simp; exact hk), ← qyg, mapR_at hk]
theorem rfA_s (h : j < n + 1) : ent (rfA V l n) j n = sgw V l j := by
 unfold ent
 rw [rfA_at h]
 unfold rfRow
 rw [qyg, List.getElem?_append_right zv]; simp
theorem rfY_len : (rfY V l n).length = n + 1 := by unfold rfY; simp
theorem rfY_at (h : j < n + 1) : (rfY V l n).getD j 0 = ys V l j := by unfold rfY; exact mapR_at h
theorem rf_dot (h : j < n + 1) : su (fun k => ent (rfA V l n) j k * v k) (n + 1) = evL ((List.range n).map v) (xs V l j) + v n * sgw V l j := by
 rw [su_s, rfA_s h, ev_su (n := n) zv, su_congr (g := fun k => xs V l j ^ k * co ((List.range n).map v) k) (fun k hk => by
  show ent (rfA V l n) j k * v k = _
  rw [rfA_p h hk, co_list v hk]), Rat.mul_comm (sgw V l j)]
theorem rf_inj (g : GrOK V N) (h : Rf N l n) : Inj (n + 1) (rfA V l n) := fun v hv => by
 have hx := h.ascX g.gr
 have hw : ∀ i, i ≤ n → 0 < ws V l i := fun i hi => g.gr.pos _ (h.lt i hi)
 have h0 : ∀ i, i ≤ n → evL ((List.range n).map v) (xs V l i) + v n * sgw V l i = 0 := fun i hi => by rw [← rf_dot xq]; exact hv i xq
 have hql : ((List.range n).map v).length ≤ n := by simp
 have h1 := lev_dd (x := xs V l) (w := ws V l) (y := fun _ => 0) (c := v n) (e := -1) (q := (List.range n).map v) (n := n) hx hql
 rw [dd_congr (h := fun _ => 0) (fun i _ hi => by
  have := h0 i xq
  show v n * (sg1 i / ws V l i) + -1 * (0 - evL ((List.range n).map v) (xs V l i)) = 0
  unfold sgw at this; grind), dd_null] at h1
 have hvn : v n = 0 := by
  have h9 : v n * lvS (xs V l) (ws V l) n = 0 := by grind
  rcases Rat.mul_eq_zero.1 h9 with h8 | h8
  ·exact h8
  exact absurd h8 (lvS_ne hx hw)
 have hk := known0 (x := xs V l) (N := n) hx n _ hql xq (fun i hi => by
  have := h0 i xq
  rw [hvn] at this; grind)
 intro j hj
 by_cases e : j = n
 ·rw [e]; exact hvn
 have := hk j
 rw [co_list v xq] at this; exact this
theorem rf_sol (g : GrOK V N) (h : Rf N l n) (h1 : 1 ≤ n) (hv : ∀ i, i ≤ n → su (fun k => ent (rfA V l n) i k * v k) (n + 1) = ys V l i) : v n = eL V l ∧ trimQ ((List.range n).map v) = pL V l := by
 have hx := h.ascX g.gr
 have hw : ∀ i, i ≤ n → 0 < ws V l i := fun i hi => g.gr.pos _ (h.lt i hi)
 have h0 : ∀ i, i ≤ n → evL ((List.range n).map v) (xs V l i) + v n * sgw V l i = ys V l i := fun i hi => by rw [← rf_dot xq]; exact hv i hi
 have hql : ((List.range n).map v).length ≤ n := by simp
 have h2 := lev_dd (x := xs V l) (w := ws V l) (y := ys V l) (c := v n) (e := -1) (q := (List.range n).map v) (n := n) hx hql
 rw [dd_congr (h := fun _ => 0) (fun i _ hi => by
  have := h0 i xq
  show v n * (sg1 i / ws V l i) + -1 * (ys V l i - evL ((List.range n).map v) (xs V l i)) = 0
  unfold sgw at this; grind), dd_null, ← lvE_mul (x := xs V l) (w := ws V l) (y := ys V l) hx hw] at h2
 have hvn : v n = eL V l := by
  rw [eL_n h]
  have h9 : (v n - lvE (xs V l) (ws V l) (ys V l) n) * lvS (xs V l) (ws V l) n = 0 := by grind
  rcases Rat.mul_eq_zero.1 h9 with h8 | h8
  ·grind
  exact absurd h8 (lvS_ne hx hw)
 refine ⟨hvn, ?_⟩
 rw [← pL_trim h h1]
 refine trim_ext fun i => ?_
 refine poly_known (x := xs V l) (N := n) hx (n := n) hql (lvl_len h) xq (fun i hi => ?_) i
 have a1 := h0 i xq
 have a2 := lvl_at g h h1 (m := i) xq
 have a3 := hw i xq
 have a4 : gE (gX V) (gW V) (gY V) (pL V l) (l.getD i 0) = ws V l i * (ys V l i - evL (pL V l) (xs V l i)) := rfl
 rw [a4] at a2
 have a5 : sgw V l i * ws V l i = sg1 i := Rat.div_mul_cancel (by grind)
 rw [hvn] at a1
 have a6 : ws V l i * (evL ((List.range n).map v) (xs V l i) - evL (pL V l) (xs V l i)) = 0 := by
  have b1 : ys V l i - evL (pL V l) (xs V l i) = (evL ((List.range n).map v) (xs V l i) - evL (pL V l) (xs V l i)) + eL V l * sgw V l i := by grind
  rw [b1] at a2
  have b2 : ws V l i * ((evL ((List.range n).map v) (xs V l i) - evL (pL V l) (xs V l i)) + eL V l * sgw V l i) = ws V l i * (evL ((List.range n).map v) (xs V l i) - evL (pL V l) (xs V l i)) + eL V l * (sgw V l i * ws V l i) := by grind
  rw [b2, a5] at a2; grind
 rcases Rat.mul_eq_zero.1 a6 with h8 | h8
 ·rw [h8] at a3; exact absurd a3 (by grind)
 grind
end
end Nt
open Go.RowKit
section
variable {lo lo' : Nat} {tO tR ty : TypeId} {u u' : World} {x y : Sl} {Rs : List Sl} {Ls : List (List RL)} {L : List RL} {M : List (List Rat)} {l : List Rat} {K b n c off i k m : Nat}
theorem MutQ.blkM {cs : List Value} (m : MutQ k ty lo u x cs) : ∀ a, x.a = some a → lo ≤ a.block := fun a ha => by
 rcases m.2.2.2 with h1 | ⟨b, all, h1, _, _, _, h5, _⟩
 ·rw [h1] at ha; cases ha
 rw [h1] at ha; injection ha with ha; subst ha; exact h5
theorem MatN.setRow (h : MatN u Ls M K) (hi : i < M.length) (hL : RatsN u L l K) : MatN u (Ls.set i L) (M.set i l) K :=
 ⟨by rw [List.length_set, List.length_set]; exact h.1, fun j hj => by
  rw [List.length_set] at hj
  by_cases e : i = j
  ·subst e; rw [getD_set_same (by rw [h.1]; exact hj), getD_set_same hj]; exact hL
  rw [getD_set_other e, getD_set_other e]; exact h.2 j hj⟩
theorem row_some (m : MutQ (1 * 3) ty lo u y (rcs L)) (h : 0 < L.length) : ∃ b c, y = ⟨some ⟨b, 0, none⟩, L.length, c⟩ ∧ L.length ≤ c := by
 have hn := m.rown
 obtain ⟨b, h1, _⟩ := m.el1 (j := 0) h
 have h2 := m.2.1
 obtain ⟨ya, yn, yc⟩ := y
 have hn : yn = L.length := hn
 have h1 : ya = some ⟨b, 0, none⟩ := h1
 subst hn; subst h1
 exact ⟨b, yc, rfl, h2⟩
theorem row_one (m : MutQ (1 * 3) ty lo u y (rcs L)) (hL : L.length = 1) : ∃ b c, y = ⟨some ⟨b, 0, none⟩, 1, c⟩ ∧ ∀ j v, (L.getD 0 rl0).cs[j]? = some v → u.cell? ⟨b, 0 + j, none⟩ = some v := by
 obtain ⟨b, c, h1, _⟩ := row_some m xq
 obtain ⟨b', h2, h3⟩ := m.el1 (j := 0) xq
 rw [hL] at h1
 have e : b' = b := by rw [h1] at h2; injection h2 with h2; injection h2 with h2; exact h2.symm
 subst e
 refine ⟨b', c, h1, fun j v hv => ?_⟩
 have h9 := h3 j (List.getElem?_eq_some_iff.1 hv).1
 rw [show 0 + 0 * 3 + j = 0 + j by omega] at h9
 rw [h9, hv]
theorem RatsN.drop (h : RatsN u L l K) (m : Nat) : RatsN u (L.drop m) (l.drop m) K := ⟨by rw [List.length_drop, List.length_drop, h.1], fun i hi => by
 rw [List.length_drop] at hi
 have := h.2 (m + i) xq
 rw [qyg, qyg] at this ⊢
 rw [List.getElem?_drop, List.getElem?_drop]; exact this⟩
theorem MutQ.polM {ty : TypeId} (m : MutQ (1 * 3) ty lo u y (rcs L)) (h : RatsN u L l K) : PolN u y l K := by
 obtain ⟨h1, h2, h3, h4⟩ := m
 refine ⟨L, ⟨by rw [h1], h2, h3, fun hp => ?_⟩, h⟩
 rcases h4 with h4 | ⟨b, all, k1, k2, k3, k4, _⟩
 ·rw [h4] at hp; exact absurd hp (Nat.lt_irrefl 0)
 refine ⟨b, 0, k1, fun j hj => ?_⟩
 rw [Nat.zero_add, cells_at k2, ← k4, List.getElem?_take_of_lt (by rw [h1] at hj; exact hj)]; simp
theorem MutQ.up {cs cs' : List Value} {z : Sl} {v : World} {ty' : TypeId} {k' : Nat} (m : MutQ k ty lo u' y cs) (m0 : MutQ k' ty' lo' u z cs') (ho : ∀ a, y.a = some a → (z.a = some a ∨ u.heap.size ≤ a.block)) (h : lo' ≤ u.heap.size) : MutQ k ty lo' u' y cs := by
 obtain ⟨h1, h2, h3, h4⟩ := m
 refine ⟨h1, h2, h3, h4.imp id fun ⟨b, all, k1, k2, k3, k4, k5, k6⟩ => ⟨b, all, k1, k2, k3, k4, ?_, k6⟩⟩
 rcases ho _ k1 with h9 | h9
 ·exact m0.blkM _ h9
 exact Nat.le_trans h h9
theorem pol_drop (h : PolN u ⟨some ⟨b, off, none⟩, n, c⟩ l K) (hm : m ≤ n) : PolN u ⟨some ⟨b, off + m * 3, none⟩, n - m, c - m⟩ (l.drop m) K := by
 obtain ⟨L, ⟨h1, h2, h3, h4⟩, h5⟩ := h
 have h1 : (rcs L).length = n * 3 := h1
 have h2 : n ≤ c := h2
 have h3 : c ≤ maxLen := h3
 have hL : L.length = n := by rw [zyy] at h1; omega
 refine ⟨L.drop m, ⟨by rw [zyy, List.length_drop, hL], by show n - m ≤ c - m; omega, by show c - m ≤ maxLen; omega, fun hp => ⟨b, off + m * 3, rfl, fun j hj => ?_⟩⟩, h5.drop m⟩
 have hp : 0 < n - m := hp
 obtain ⟨b', o', e, hc⟩ := h4 (show 0 < n by omega)
 injection e with e; injection e with e1 e2; subst e1; subst e2
 rw [zyy, List.length_drop] at hj
 rw [← rcs_drop, List.getElem?_drop, ← hc (m * 3 + j) (by rw [zyy]; omega), Nat.add_assoc]
end
theorem k_r9beside {u w : World} {lo lo' : Nat} {x y : Sl} {Rs Rb : List Sl} {Ls Lb : List (List RL)} {M : List (List Rat)} {b : List Rat} {n K : Nat} (d : Dat u w) (hm : MatQ 1 26 32 lo u x Rs Ls) (hN : MatN u Ls M K) (hl0 : M.length = n) (hr0 : ∀ i, i < n → (M.getD i []).length = n) (hy : MatQ 1 26 32 lo' u y Rb Lb) (hNb : MatN u Lb (Nt.colM b) K) (hb : b.length = n) (h1 : 1 ≤ n) (h2 : n ≤ 52) (hI : Nt.Inj n M) (hK : K ≤ 50000000) (hz : (Nt.kz n K) ≤ 100000000) : qyc 160 #[x.v, y.v] w (Post u w fun v u' => ∃ (z : Sl) (Rs' : List Sl) (Ls' : List (List RL)) (M' : List (List Rat)) (D : Rat), v = .tuple #[z.v, .int .i64 0] ∧ MatQ 1 26 32 u.heap.size u' z Rs' Ls' ∧ MatN u' Ls' (Nt.colM ((List.range n).map fun j => Nt.ent M' j n)) (Nt.kz n K) ∧ Nt.GI n (n + 1) (Nt.besG M (Nt.colM b) n) M' n D) := by
 have hLl : Ls.length = n := hN.1.trans hl0
 have hRsl := hm.len
 have hxn : x.n = n := hm.rows.trans hLl
 have hLbl : Lb.length = n := hNb.1.trans (Nt.colM_len.trans hb)
 have hybn : y.n = n := hy.rows.trans hLbl
 have hRbl := hy.len
 refine zzm Tryz.func160 rfl Tryz.ntmps160 Tryz.results160 d ?_
 refine sq9 (zza 4 (.v (qyn)) (zza 5 (zI 0) (zzb (sq9 (zza 15 (.v (x.v)) (zzg 16 205 _ fun _ _ aC bw => qym (k_r9copies (n := n) (m := n) bw (hm.ext aC) (hN.ext aC) (hl0) (fun i hi => (hr0 i xq)) xq xq xq) ?_))))))
 rintro _ u13 bA ⟨aa, a3, aI, rfl, aS, aP⟩
 refine zza 6 (.v (aa.v)) (zzb (zzd (sq9 (zza 17 (.v (aa.v)) (zza 18 (zI aa.n) (zza 19 (zI 0) (zzb (zzt (zyn (I := fun a7 S' u' => ∃ (i : Nat) (R2 : List Sl) (L2 : List (List RL)), (a7 = n - i) ∧ (i ≤ n) ∧ (S' = St.of 75 [(0, .v (x.v)), (1, .v (y.v)), (6, .v (aa.v)), (18, zI aa.n), (19, zI i)] []) ∧ (Ext u u') ∧ (MatQ 1 26 32 u.heap.size u' aa R2 L2) ∧ (MatN u' L2 (Nt.besG M (Nt.colM b) i) K)) (fun m S u1 u2 e h => by obtain ⟨i, R2, L2, hm, p0, hS, hE, f0, f1⟩ := h; exact ⟨i, R2, L2, hm, p0, hS, hE.trans e, f0.ext e, f1.ext e⟩) _ yz ⟨0, a3, aI, rfl, by omega, rfl, (aC.t bA.ext), (MatQ.ext (MatQ.low aS (Ext.size aC)) (Ext.refl _)), (by rw [Nt.besG_0]; exact MatN.ext aP (Ext.refl _))⟩ ?_)))))))))
 rintro a7 _ bB ⟨i, R2, L2, bx, hi, rfl, av, f0, f1⟩
 have hR2 := f0.len
 have bm : L2.length = n := f1.1.trans (Nt.besG_len.trans hl0)
 have br : aa.n = n := f0.rows.trans bm
 refine sq9 (zza 20 (zB (decide ((i : Int) < (aa.n : Int)))) (zzb (zzd (zzu (b := decide ((i : Int) < (aa.n : Int))) xj (fun an => ?_) (fun an => ?_)))))
 ·have qhb17 := qyt an
  refine zzs (zzp ?_)
  refine zzd (zzt (zzd ?_))
  have hrow2 := MatQ.row f0 i xq
  have a2 : (R2.getD i sl0).n = n := (MutQ.rown hrow2).trans ((MatN.rowlen f1 (i := i) (by rw [Nt.besG_len]; omega)).trans (by rw [Nt.besG_at xq, if_neg (Nat.lt_irrefl i)]; exact hr0 i xq))
  have aX : (Lb.getD i []).length = 1 := (hNb.rowlen (by rw [Nt.colM_len]; omega)).trans (by rw [Nt.colM_at xq]; rfl)
  obtain ⟨b0, c0, hrb, hbn⟩ := row_one (MatQ.row hy i xq) aX
  have hrN : RatN u ((Lb.getD i []).getD 0 rl0) (b.getD i 0) K := by have h9 := hNb.at (i := i) (j := 0) (by rw [Nt.colM_len]; omega) (by rw [Nt.colM_at xq]; exact Nat.zero_lt_one); rw [Nt.colM_at xq] at h9; exact h9
  obtain ⟨r0, aK⟩ : ∃ r, (Lb.getD i []).getD 0 rl0 = r := ⟨_, rfl⟩
  rw [aK] at hrN hbn
  refine zzf (zza 21 (zI i) (zza 7 (zI i) (zzb (sw_anyX xj 13 rfl ?_))))
  refine takeX 0 22 12 (.v (aa.v)) #[true, false, false, false, false, false, false, false, false, false, false, false, false] ?_
  refine takeX 1 23 11 (.v (.int .i64 (i : Int))) #[true, true, false, false, false, false, false, false, false, false, false, false, false] ?_
  refine restX [0, 0, 0, 0, 12, 28, 0, 0, 192, 448, 1020, 2047, 4095] [(2, []), (3, []), (4, []), (5, []), (6, []), (7, []), (8, []), (9, [])] [] (10, []) [(11, []), (12, [])] xj ?_
  refine zza 24 (.v (aa.v)) (zza 25 (zI i) ?_)
  obtain ⟨b18, aL, aW⟩ := MatQ.cell (i := i) f0 xq
  refine zya 26 (0 + i * 1) (n := aa.n) (off := 0) (sz := 1) (i := (i : Int)) xq aL xq xq sl75 (zyl 27 (.slice (R2.getD i sl0).a (R2.getD i sl0).n (R2.getD i sl0).c) aW ty26 (zza 28 (.v (y.v)) (zza 29 (zI i) ?_)))
  obtain ⟨b19, a0, az⟩ := MatQ.cell (i := i) (hy.ext av) xq
  refine zya 30 (0 + i * 1) (n := y.n) (off := 0) (sz := 1) (i := (i : Int)) xq a0 xq xq sl75 ?_
  rw [hrb] at az
  refine zyl 31 (.slice (some ⟨b0, 0, none⟩) 1 c0) az ty26 (zzx ?_)
  refine exitsK_last ?_
  have hA20 := f0
  have hB20 := MatQ.row hA20 i xq
  have hN20 := f1
  refine sy_appQ 32 (T := 26) (E := 32) (z := .agg #[.bool false, qyn, qyn]) (size := 3) (bytes := 56) (b2 := b0) (off := 0) (m := 1) (R2.getD i sl0) (rcs (L2.getD i [])) r0.cs hB20 xj xj xj yv rfl (fun j v hv => (av).cell (hbn j v hv)) (rl_one r0) yv yk xq (nu_rl r0) nu_zrat (fun au bu aJ bG ae a5 => ?_)
  have aR : MutQ (1 * 3) 32 u.heap.size bu au (rcs (L2.getD i [] ++ [r0])) := by rw [rcs_app, show rcs [r0] = r0.cs from by simp [rcs]]; exact aJ
  have eR21 := ExtX.root ae (MutQ.mutL hB20) av
  have hO21 := (MatQ.rest yv hA20 (i := i) xq ae).1
  have hP21 := MatN.keep hN20 hB20 ae
  have hR21 := RatsN.snoc (q := b.getD i 0) (by have h9 := hP21.2 i (by rw [Nt.besG_len]; omega); rw [Nt.besG_at xq, if_neg (Nat.lt_irrefl i)] at h9; exact h9) (hrN.ext eR21)
  obtain ⟨b22, ax, _⟩ := MatQ.cell (i := i) hA20 xq
  refine zya 33 (0 + i * 1) (n := aa.n) (off := 0) (sz := 1) (i := (i : Int)) xq ax xq xq sl75 (sy_storeQ (v := au.v) (off := 0 + i * 1) (n := 1) aa hO21 (fun a ha => .inl (MutQ.blkM hO21 a ha)) ax ty26 (by rw [List.length_map, MatQ.len hA20]; omega) (nu_sls [au]) (fun aZ aA ah => ?_))
  have aH : MutQ 1 26 u.heap.size aZ aa ((R2.set i au).map Sl.v) := by rw [← setL_map (y := au) (i := i) (by rw [MatQ.len hA20]; omega)]; exact aA
  have hG21 := MatQ.grown yv yv hA20 (i := i) xq ae aR a5 aH ah
  have eS21 := ExtX.root ah (MutQ.mutL hO21) eR21
  have hP221 := MatN.setRow (i := i) (MatN.keep hP21 hO21 ah) (by rw [Nt.besG_len]; omega) (MutQ.keeps hO21 ah hR21)
  refine zzx ?_
  refine zzp (zzf (qwi 34 ((i : Int) + 1) (i + 1 : Nat) xz (zza 19 (zI (i + 1 : Nat)) (zzx ?_))))
  refine ⟨_, ?_, _, by exact zzv _ _ _, i + 1, (R2.set i au), (L2.set i (L2.getD i [] ++ [r0])), rfl, by omega, rfl, eS21, (MatQ.ext hG21 (Ext.refl _)), (by rw [← Nt.besG_set xq, Nt.colM_at xq]; exact MatN.ext hP221 (Ext.refl _))⟩
  omega
 have qhb17 := qyf an
 refine zyc (zzp (zzd (zzd ?_)))
 have hgn : MatN bB L2 (Nt.besG M (Nt.colM b) n) K := by have h9 := f1; rw [show i = n by omega] at h9; exact h9
 refine zzf (zza 36 (.v (aa.v)) (zza 37 (.v (x.v)) (zza 38 (zI x.n) ?_)))
 have hA23 := f0
 have hB23 := hgn
 refine zwk (mqB aa R2) 39 206 [aa.v, .int .i64 x.n] (MatQ.may hA23 (Ext.size (Ext.refl _))) (fun w23 u23 a4 bq => by rw [show (x.n : Int) = ((n : Nat) : Int) by omega]; exact k_r9reduce (v0 := u) (n := n) (m := (n + 1)) (K := K) bq (Ext.trans av a4) (hA23.ext a4) (hB23.ext a4) ((Nt.besG_len.trans hl0)) (fun i hi => (Nt.bes_row xq hl0 hr0 hb)) xq xq xq (Nt.bes_inj hl0 hr0 hI) hz) (fun v23 ac aV a6 => ?_)
 obtain ⟨aN, bE, bD, aB, ar, rfl, bo, aQ, aF, aO⟩ := a6
 have eR23 := ExtF.rootQ aV hA23 av
 refine zza 35 (.v (.tuple #[.int .i64 n, aN.v])) (zza 40 (zI n) (zza 41 (.v (aN.v)) (zzk 9 ⟨32, zw3⟩ (zza 8 (zI n) (zzj ⟨32, aN.cs⟩ ty32 ?_)))))
 refine zzb (sq9 (zza 42 (zI n) (zza 43 (.v (x.v)) (zza 44 (zI x.n) (zza 45 (zB (decide ((n : Int) < (x.n : Int)))) (zzb (zzu (b := decide ((n : Int) < (x.n : Int))) xj (fun hb => ?_) (fun hb => ?_))))))))
 ·exact absurd hb (by rw [show (decide ((n : Int) < (x.n : Int))) = false from decide_eq_false xq]; decide)
 clear hb
 refine zzs (zzp ?_)
 refine zzd ?_
 have hMf := aQ
 have hNf := aF
 have hGf := aO
 have hLf : aB.length = n := hNf.1.trans hGf.len
 have hRf := hMf.len
 have hyfn : aa.n = n := hMf.rows.trans hLf
 refine zzf (zza 10 (.v (qyn)) (zzb (zzd (sq9 (zza 46 (.v (aa.v)) (zza 47 (zI aa.n) (zza 48 (zI 0) (zzb (zzt (zyn (I := fun ba S' u' => ∃ (p : Nat) (yo : Sl) (Rc : List Sl) (Lc : List (List RL)), (ba = n - p) ∧ (p ≤ n) ∧ (S' = St.of 75 [(0, .v (x.v)), (6, .v (aa.v)), (10, .v (yo.v)), (47, zI aa.n), (48, zI p)] []) ∧ (Ext ac u') ∧ (MatQ 1 26 32 ac.heap.size u' yo Rc Lc) ∧ (MatN u' Lc ((Nt.colM ((List.range n).map fun j => Nt.ent ar j n)).take p) (Nt.kz n K))) (fun m S u1 u2 e h => by obtain ⟨p, yo, Rc, Lc, hm, p0, hS, hE, f0, f1⟩ := h; exact ⟨p, yo, Rc, Lc, hm, p0, hS, hE.trans e, f0.ext e, f1.ext e⟩) _ yz ⟨0, sl0, [], [], rfl, by omega, rfl, (Ext.refl _), MatQ.empty, (by rw [List.take_zero]; exact MatN.empty)⟩ ?_))))))))))
 rintro ba _ u24 ⟨p, yo, Rc, Lc, bC, hp, rfl, bg, g0, g1⟩
 refine sq9 (zza 49 (zB (decide ((p : Int) < (aa.n : Int)))) (zzb (zzd (zzu (b := decide ((p : Int) < (aa.n : Int))) xj (fun aj => ?_) (fun aj => ?_)))))
 ·have qhb25 := qyt aj
  refine zzs (zzp ?_)
  refine zzd (zzt (zzd ?_))
  have hrw := MatQ.row hMf p xq
  have hrL : (aB.getD p []).length = n + 1 := (hNf.rowlen (by rw [hGf.len]; omega)).trans (hGf.row p xq)
  obtain ⟨b3, c3, ak, bp⟩ := row_some hrw xq
  rw [hrL] at ak bp
  have hpol := MutQ.polM hrw (hNf.2 p (by rw [hGf.len]; omega))
  rw [ak] at hpol
  have hpt := pol_drop (m := n) hpol xq
  rw [Nt.drop_last (hGf.row p xq)] at hpt
  refine zzf (zza 50 (zI p) (zza 11 (zI p) (zzb (sq9 (zza 12 (.v (qyn)) (zzc 75 [(0, .v (x.v)), (6, .v (aa.v)), (10, .v (yo.v)), (11, zI p), (12, .v (qyn)), (47, zI aa.n), (48, zI p)] [] (zzd (sq9 (zza 51 (.v (aa.v)) (zza 52 (zI p) ?_))))))))))
  obtain ⟨b26, aE, aw⟩ := MatQ.cell (i := p) (hMf.ext bg) xq
  refine zya 53 (0 + p * 1) (n := aa.n) (off := 0) (sz := 1) (i := (p : Int)) xq aE xq xq sl75 ?_
  rw [ak] at aw
  refine zyl 54 (.slice (some ⟨b3, 0, none⟩) (n + 1) c3) aw ty26 (zza 55 (.v (x.v)) (zza 56 (zI x.n) (sy_tailD 57 (b := b3) (off := 0) (i := (x.n : Int)) (n := n + 1) (c := c3) n sl26 xq xq xq xq ?_)))
  refine zza 58 (zI (n + 1 - n : Nat)) (zza 59 (zI 0) (zzb (zzt (zyn (I := fun bh S' u' => ∃ (j : Nat) (z : Sl) (L : List RL), (bh = 1 - j) ∧ (j ≤ 1) ∧ (∀ k, k < Lc.length → Sep z (Rc.getD k sl0)) ∧ (S' = St.of 75 [(0, .v (x.v)), (6, .v (aa.v)), (10, .v (yo.v)), (12, .v (z.v)), (47, zI aa.n), (48, zI p), (57, .v (.slice (some ⟨b3, 0 + n * 3, none⟩) (n + 1 - n) (c3 - n))), (58, zI (n + 1 - n : Nat)), (59, zI j)] []) ∧ (Ext ac u') ∧ (MatQ 1 26 32 ac.heap.size u' yo Rc Lc) ∧ (MatN u' Lc ((Nt.colM ((List.range n).map fun j => Nt.ent ar j n)).take p) (Nt.kz n K)) ∧ (MutQ (1 * 3) 32 ac.heap.size u' z (rcs L)) ∧ (RatsN u' L ([(ar.getD p []).getD n 0].take j) (Nt.kz n K))) (fun m S u1 u2 e h => by obtain ⟨j, z, L, hm, p0, p1, hS, hE, f0, f1, f2, f3⟩ := h; exact ⟨j, z, L, hm, p0, p1, hS, hE.trans e, f0.ext e, f1.ext e, f2.ext e, f3.ext e⟩) _ yz ⟨0, sl0, [], rfl, by omega, (fun k hk => Sep.nil _), rfl, bg, g0, g1, (MutQ.nil _ _ _ _), (by rw [List.take_zero]; exact ⟨rfl, fun k hk => absurd hk (Nat.not_lt_zero k)⟩)⟩ ?_))))
  rintro bh _ a9 ⟨j, z, L, bn, hj, hsep, rfl, ap, q0, q1, q2, q3⟩
  have hzL := (MutQ.rown (show MutQ (1 * 3) 32 ac.heap.size a9 z (rcs L) from q2))
  have hLj : L.length = j := by rw [q3.1, List.length_take]; show min j 1 = j; omega
  refine sq9 (zza 60 (zB (decide ((j : Int) < ((n + 1 - n : Nat) : Int)))) (zzb (zzd (zzu (b := decide ((j : Int) < ((n + 1 - n : Nat) : Int))) xj (fun am => ?_) (fun am => ?_)))))
  ·have qhb28 := qyt am
   refine zzs (zzp ?_)
   refine zzd (zzt (sq9 ?_))
   have hl29 := (hpt.ext ap).len
   change n + 1 - n = _ at hl29
   obtain ⟨aT, b29, bj, aM, aY, aU⟩ := pol_atN (hpt.ext ap) (i := j) xq
   refine zya 61 (bj + j * 3) (n := n + 1 - n) (off := bj) (sz := 3) (i := (j : Int)) xq aM xq xq sl26 (zym 62 aT.cs aY ty32 (zzk 14 ⟨32, zw3⟩ (zzj ⟨32, aT.cs⟩ ty32 ?_)))
   refine zzb (zzf (zza 63 (.v (z.v)) (zzi 64 (.v (aT.v)) ty32 zze (zzg 65 80 _ fun _ _ ai bF => qym (k_rqTrim bF (aU.ext ai).raw xq) ?_))))
   rintro _ u33 ao ⟨ag, rfl, be⟩
   refine zxx 66 ⟨32, ag.cs⟩ 1 (fun bb bd af bi => ?_)
   have bs : PolN bd (⟨some ⟨bb, 0, none⟩, 1, 1⟩ : Sl) [(([(ar.getD p []).getD n 0]).getD j 0)] (Nt.kz n K) := pol_lit (L := [ag]) bi (rats1 (be.ext af)) rfl yv
   have hz41 := (q2.ext (ai.t (ao.t af)))
   have hz41L := (MutQ.rown (show MutQ (1 * 3) 32 ac.heap.size bd z (rcs L) from hz41))
   refine sy_appQ 67 (T := 26) (E := 32) (z := .agg #[.bool false, qyn, qyn]) (size := 3) (bytes := 56) (b2 := bb) (off := 0) (m := 1) z (rcs L) ag.cs (MutQ.low hz41 (Ext.size eR23)) xj xj xj yv rfl (lit_news ((Ext.refl _).cells bi)) (rl_one ag) yv yk xq (nu_rl ag) nu_zrat (fun aD bt hm42 bk ad ay => ?_)
   replace hm42 := MutQ.up (v := u) hm42 hz41 ay (Ext.size (ap.t (ai.t (ao.t af))))
   have aG : MutQ (1 * 3) 32 ac.heap.size bt aD (rcs (L ++ [ag])) := by rw [rcs_app, show rcs [ag] = ag.cs from by simp [rcs]]; exact hm42
   have eR42 := ExtX.root ad (MutQ.mutL hz41) (ap.t (ai.t (ao.t af)))
   have bz : aD.n = L.length + 1 := by omega
   refine zza 12 (.v (aD.v)) (zzx ?_)
   refine zzp (zzf (qwi 68 ((j : Int) + 1) (j + 1 : Nat) xz (zza 59 (zI (j + 1 : Nat)) (zzx ?_))))
   refine ⟨_, ?_, _, by exact zzv _ _ _, j + 1, aD, (L ++ [ag]), rfl, by omega, (fun k hk => (Sep.step (hsep k hk).symm (MatQ.row (q0.ext (ai.t (ao.t af))) k hk).mutL ay).symm), rfl, eR42, (MatQ.ext (by exact MatQ.far yv (q0.ext (ai.t (ao.t af))) hz41 ad (fun k hk => (hsep k hk))) (Ext.refl _)), ((MatN.keep (q1.ext (ai.t (ao.t af))) hz41 ad).ext (Ext.refl _)), (MutQ.ext aG (Ext.refl _)), ((app_next (MutQ.keeps hz41 ad (q3.ext (ai.t (ao.t af)))) (MutQ.keep hz41 ad (RatN.more (K := (Nt.kz n K)) (be.ext af) xq)) (by show j < 1; omega) rfl).ext (Ext.refl _))⟩
   omega
  have qhb28 := qyf am
  refine zyc (zzp ?_)
  have hfull : RatsN a9 L [(ar.getD p []).getD n 0] (Nt.kz n K) := by have h9 := q3; rw [List.take_of_length_le (by show 1 ≤ j; omega)] at h9; exact h9
  refine zzf (zza 69 (.v (yo.v)) (zza 70 (.v (z.v)) (zxx 71 ⟨26, [z.v]⟩ 1 (fun bH u44 aq bv => ?_))))
  have hx47 := (q0.ext aq)
  have hx47l := hx47.rows
  have hx47n := (q1.ext aq)
  have hx47z := (q2.ext aq)
  have hx47r := (hfull.ext aq)
  have bf : Lc.length = p := by rw [hx47n.1, List.length_take, Nt.colM_len, List.length_map, List.length_range]; omega
  refine sy_appQ 72 (T := 75) (E := 26) (z := qyn) (size := 1) (bytes := 24) (b2 := bH) (off := 0) (m := 1) yo (Rc.map Sl.v) [z.v] (MutQ.low (MatQ.out hx47) (Ext.size eR23)) xj xj xj yv rfl (lit_news ((Ext.refl _).cells bv)) (sl_one z) yv yk xq (nu_sls [z]) nu_zsl (fun a8 u48 hm48 bl al a1 => ?_)
  replace hm48 := MutQ.up (v := u) hm48 (MatQ.out hx47) a1 (Ext.size (ap.trans aq))
  have hS48 := MatQ.snoc yv yv hx47 hx47z (fun j hj => hsep j hj) (by rw [List.map_append]; exact hm48) al
  have hT48 := MatN.keep (MatN.snoc hx47n hx47r) (MatQ.out hx47) al
  have eR48 := ExtX.root al (MutQ.mutL (MatQ.out hx47)) (ap.trans aq)
  refine zza 10 (.v (a8.v)) (zzx ?_)
  refine zzp (zzf (qwi 73 ((p : Int) + 1) (p + 1 : Nat) xz (zza 48 (zI (p + 1 : Nat)) (zzx ?_))))
  refine ⟨_, ?_, _, by exact zzv _ _ _, p + 1, a8, (Rc ++ [z]), (Lc ++ [L]), rfl, by omega, rfl, eR48, (MatQ.ext hS48 (Ext.refl _)), (by rw [Nt.colM_take xq]; exact MatN.ext hT48 (Ext.refl _))⟩
  omega
 have qhb25 := qyf aj
 refine zyc (zzp (sq9 (zza 74 (.v (yo.v)) (zza 4 (.v (yo.v)) (zza 5 (zI 0) (zzc 75 [(4, .v (yo.v)), (5, zI 0)] [] (zzo (ret0 [yo.v, .int .i64 0] ⟨zzq, zzq, trivial⟩ fun u49 bc => ?_))))))))
 exact ⟨yo, Rc, Lc, ar, bE, rfl, MatQ.low (g0.ext bc) (Ext.size eR23), (by have h9 := (g1.ext bc); rw [List.take_of_length_le (by rw [Nt.colM_len, List.length_map, List.length_range]; omega)] at h9; exact h9), hGf⟩
theorem k_r9solve {u w : World} {lo : Nat} {x y : Sl} {Rs : List Sl} {Ls : List (List RL)} {M : List (List Rat)} {b : List Rat} {n K : Nat} (d : Dat u w) (hm : MatQ 1 26 32 lo u x Rs Ls) (hN : MatN u Ls M K) (hl0 : M.length = n) (hr0 : ∀ i, i < n → (M.getD i []).length = n) (hy : PolN u y b K) (hb : b.length = n) (h1 : 1 ≤ n) (h2 : n ≤ 52) (hI : Nt.Inj n M) (hK : K ≤ 50000000) (hz : (Nt.kz n K) ≤ 100000000) : qyc 98 #[x.v, y.v] w (Post u w fun v u' => ∃ (z : Sl) (M' : List (List Rat)) (D : Rat), v = .tuple #[z.v, .int .i64 0] ∧ PolN u' z ((List.range n).map fun j => Nt.ent M' j n) (Nt.kz n K) ∧ Nt.GI n (n + 1) (Nt.besG M (Nt.colM b) n) M' n D) := by
 have hLl : Ls.length = n := hN.1.trans hl0
 have hRsl := hm.len
 have hxn : x.n = n := hm.rows.trans hLl
 have hyn : y.n = n := hy.len.trans hb
 refine zzm Tryz.func98 rfl Tryz.ntmps98 Tryz.results98 d ?_
 refine sq9 (zza 4 (.v (qyn)) (zza 5 (zI 0) (zzb (zzd (zzt (sq9 (zza 15 (.v (x.v)) (zzg 16 159 _ fun _ _ aq bS => qym (k_r9valid (n := n) (m := n) bS (hm.ext aq) (hN.ext aq) (hl0) (fun i hi => (hr0 i xq)) xq xq xq xq) ?_))))))))
 rintro _ u12 aK rfl
 refine zza 17 (zB false) (zza 14 (zB false) (zzb (zys xj (sq9 (zza 19 (.v (x.v)) (zza 20 (zI x.n) (zza 21 (.v (x.v)) ?_)))))))
 obtain ⟨b15, a8, bb⟩ := MatQ.cell (i := 0) (hm.ext (aq.t aK.ext)) xq
 refine zya 22 (0 + 0 * 1) (n := x.n) (off := 0) (sz := 1) (i := 0) xq a8 xq xq sl75 ?_
 have hrw16 := MatQ.row (hm.ext (aq.t aK.ext)) 0 xq
 have aF : (Ls.getD 0 []).length = n := (MatN.rowlen (hN.ext (aq.t aK.ext)) (by rw [hl0]; omega)).trans (hr0 0 xq)
 have bx : (Rs.getD 0 sl0).n = n := (MutQ.rown hrw16).trans aF
 refine zyl 23 (.slice (Rs.getD 0 sl0).a (Rs.getD 0 sl0).n (Rs.getD 0 sl0).c) bb ty26 (zza 24 (zI (((Rs.getD 0 sl0).n : Nat) : Int)) (zza 25 (zB ((x.n : Int) != (((Rs.getD 0 sl0).n : Nat) : Int))) (zyq 26 (x := zB ((x.n : Int) != (((Rs.getD 0 sl0).n : Nat) : Int))) (zB false) (by rw [show ((x.n : Int) != (((Rs.getD 0 sl0).n : Nat) : Int)) = false from (by rw [bne_eq_false_iff_eq]; omega)]) (zza 27 (.v (y.v)) ?_ (hw := w1 7 false 26)))))
 refine zza 28 (zI y.n) ?_ (hw := w1 7 false 26)
 refine zza 29 (.v (x.v)) ?_ (hw := w1 7 false 26)
 refine zza 30 (zI x.n) ?_ (hw := w1 7 false 26)
 refine zza 31 (zB ((y.n : Int) != (x.n : Int))) ?_ (hw := w1 7 false 26)
 refine zza 32 (zB ((y.n : Int) != (x.n : Int))) (zza 18 (zB ((y.n : Int) != (x.n : Int))) (zzb (zzu (b := (y.n : Int) != (x.n : Int)) xj (fun hb => ?_) (fun hb => ?_))))
 ·exact absurd hb (by rw [show ((y.n : Int) != (x.n : Int)) = false from (by rw [bne_eq_false_iff_eq]; omega)]; decide)
 clear hb
 refine zzs (zzp ?_)
 refine sq9 (zza 6 (.v (qyn)) (zzb (zzd (sq9 (zza 33 (.v (y.v)) (zza 34 (zI y.n) (zza 35 (zI 0) (zzb (zzt (zyn (I := fun bB S' u' => ∃ (i : Nat) (yo : Sl) (Rc : List Sl) (Lc : List (List RL)), (bB = n - i) ∧ (i ≤ n) ∧ (S' = St.of 66 [(0, .v (x.v)), (6, .v (yo.v)), (33, .v (y.v)), (34, zI y.n), (35, zI i)] []) ∧ (Ext u u') ∧ (MatQ 1 26 32 u.heap.size u' yo Rc Lc) ∧ (MatN u' Lc ((Nt.colM b).take i) K)) (fun m S u1 u2 e h => by obtain ⟨i, yo, Rc, Lc, hm, p0, hS, hE, f0, f1⟩ := h; exact ⟨i, yo, Rc, Lc, hm, p0, hS, hE.trans e, f0.ext e, f1.ext e⟩) _ yz ⟨0, sl0, [], [], rfl, by omega, rfl, (aq.t aK.ext), MatQ.empty, (by rw [List.take_zero]; exact MatN.empty)⟩ ?_))))))))))
 rintro bB _ bF ⟨i, yo, Rc, Lc, bR, hi, rfl, ax, g0, g1⟩
 refine sq9 (zza 36 (zB (decide ((i : Int) < (y.n : Int)))) (zzb (zzd (zzu (b := decide ((i : Int) < (y.n : Int))) xj (fun ak => ?_) (fun ak => ?_)))))
 ·have qhb19 := qyt ak
  refine zzs (zzp ?_)
  refine zzd (zzt (sq9 ?_))
  have hl20 := (hy.ext ax).len
  obtain ⟨ai, b20, bz, aR, aX, bf⟩ := pol_atN (hy.ext ax) (i := i) xq
  refine zya 37 (bz + i * 3) (n := y.n) (off := bz) (sz := 3) (i := (i : Int)) xq aR xq xq sl26 (zym 38 ai.cs aX ty32 (zzk 8 ⟨32, zw3⟩ (zzj ⟨32, ai.cs⟩ ty32 ?_)))
  refine zzb (zzf (zza 39 (.v (yo.v)) (zzi 40 (.v (ai.v)) ty32 zze ?_)))
  have hym21 := g0
  refine sy_dataF 41 ⟨32, ai.cs⟩ 1 (fun ap bP aM ca bV bN => ?_)
  have aH : MutQ (1 * 3) 32 u.heap.size bP (⟨some ⟨ap, 0, none⟩, 1, 1⟩ : Sl) (rcs [ai]) := MutQ.lit (by rw [show rcs [ai] = ai.cs from by simp [rcs]]; exact ca) rfl yk bV (by rw [show rcs [ai] = ai.cs from by simp [rcs]]; exact nu_rl ai)
  have hsp21 := MatQ.fresh (n := 1) (c := 1) hym21 bN
  refine zxx 42 ⟨26, [.slice (some ⟨ap, 0, none⟩) 1 1]⟩ 1 (fun bW u23 aB b0 => ?_)
  have hx26 := (g0.ext (aM.trans aB))
  have hx26l := hx26.rows
  have hx26n := (g1.ext (aM.trans aB))
  have hx26z := (aH.ext aB)
  have hx26r := rats1 (bf.ext (aM.trans aB))
  have bs : Lc.length = i := by rw [hx26n.1, List.length_take, Nt.colM_len]; omega
  refine sy_appQ 43 (T := 75) (E := 26) (z := qyn) (size := 1) (bytes := 24) (b2 := bW) (off := 0) (m := 1) yo (Rc.map Sl.v) [.slice (some ⟨ap, 0, none⟩) 1 1] (MatQ.out hx26) xj xj xj yv rfl (lit_news ((Ext.refl _).cells b0)) (sl_one (⟨some ⟨ap, 0, none⟩, 1, 1⟩ : Sl)) yv yk xq (nu_sls [(⟨some ⟨ap, 0, none⟩, 1, 1⟩ : Sl)]) nu_zsl (fun bu u27 aS bU al bI => ?_)
  have hS27 := MatQ.snoc yv yv hx26 hx26z (fun j hj => hsp21 j hj) (by rw [List.map_append]; exact aS) al
  have hT27 := MatN.keep (MatN.snoc hx26n hx26r) (MatQ.out hx26) al
  have eR27 := ExtX.root al (MutQ.mutL (MatQ.out hx26)) (ax.trans (aM.trans aB))
  refine zza 6 (.v (bu.v)) (zzx ?_)
  refine zzp (zzf (qwi 44 ((i : Int) + 1) (i + 1 : Nat) xz (zza 35 (zI (i + 1 : Nat)) (zzx ?_))))
  refine ⟨_, ?_, _, by exact zzv _ _ _, i + 1, bu, (Rc ++ [(⟨some ⟨ap, 0, none⟩, 1, 1⟩ : Sl)]), (Lc ++ [[ai]]), rfl, by omega, rfl, eR27, (MatQ.ext hS27 (Ext.refl _)), (by rw [Nt.colM_takeB xq]; exact MatN.ext hT27 (Ext.refl _))⟩
  omega
 have qhb19 := qyf ak
 refine zyc (zzp (zzd ?_))
 have hgn : MatN bF Lc (Nt.colM b) K := by have h9 := g1; rw [List.take_of_length_le (by rw [Nt.colM_len]; omega)] at h9; exact h9
 refine zzf (zza 46 (.v (x.v)) (zza 47 (.v (yo.v)) (zzg 48 160 _ fun _ _ aJ bJ => qym (k_r9beside (b := b) (n := n) bJ (hm.ext (ax.trans aJ)) (hN.ext (ax.trans aJ)) (hl0) (fun i hi => (hr0 i xq)) (g0.ext aJ) (hgn.ext aJ) hb xq xq hI xq hz) ?_)))
 rintro _ bm g31 ⟨ac, aa, ah, ad, bl, rfl, af, ag, aC⟩
 have bn : ac.n = n := af.rows.trans (ag.1.trans (Nt.colM_len.trans (by rw [List.length_map, List.length_range])))
 have bq : ah.length = n := ag.1.trans (Nt.colM_len.trans (by rw [List.length_map, List.length_range]))
 have hzr29 := af.len
 refine zza 45 (.v (.tuple #[ac.v, .int .i64 0])) (zza 49 (.v (ac.v)) (zza 50 (zI 0) (zza 9 (.v (ac.v)) (zza 10 (zI 0) (zzc 66 [(9, .v (ac.v)), (10, zI 0)] [] (sq9 (zza 11 (.v (qyn)) (zzb (zzd (sq9 (zza 51 (.v (ac.v)) ?_)))))))))))
 refine zza 52 (zI ac.n) (zza 53 (zI 0) (zzb (zzt (zyn (I := fun a9 S' u' => (a9 = n ∧ S' = St.of 66 [(10, zI 0), (11, .v (qyn)), (51, .v (ac.v)), (52, zI ac.n), (53, zI 0)] [] ∧ Ext bm u') ∨ (∃ (i2 : Nat) (L2 : List RL) (ar : List Value) (ae : Nat), a9 = n - i2 ∧ i2 ≤ n ∧ 0 < i2 ∧ L2.length = i2 ∧ ar.length = ae * 3 ∧ i2 ≤ ae ∧ ae ≤ maxLen ∧ ar.take (i2 * 3) = rcs L2 ∧ S' = St.of 66 [(10, zI 0), (11, .slc 62 0 i2 ae), (51, .v (ac.v)), (52, zI ac.n), (53, zI i2)] [(62, ⟨32, ar⟩)] ∧ Ext bm u' ∧ RatsN u' L2 (((List.range n).map fun j => Nt.ent ad j n).take i2) (Nt.kz n K))) (fun m S u1 u2 e h => by rcases h with ⟨a, b, c⟩ | ⟨a1, a2, a3, a4, b1, b2, b3, b4, b5, b6, b7, b8, b9, b10, b11⟩; exact .inl ⟨a, b, c.trans e⟩; exact .inr ⟨a1, a2, a3, a4, b1, b2, b3, b4, b5, b6, b7, b8, b9, b10.trans e, b11.ext e⟩) _ yz (.inl ⟨rfl, rfl, Ext.refl _⟩) ?_))))
 rintro a9 _ bK (⟨a7, rfl, aj⟩ | ⟨i2, L2, ar, ae, a7, hi2, hp2, hL2, bT, aO, aZ, bw, rfl, aj, bv⟩)
 ·change SW _ _ _ _ (St.of 66 [(10, .v (.int .i64 0)), (11, .v (qyn)), (51, .v (.slice ac.a ac.n ac.c)), (52, .v (.int .i64 (ac.n : Int))), (53, .v (.int .i64 0))] []) _ _
  refine sq9 (zza 54 (zB (decide ((0 : Int) < (ac.n : Int)))) (zzb (zzd (zzu (b := decide ((0 : Int) < (ac.n : Int))) xj (fun an => ?_) (fun an => ?_)))))
  ·have qhb34 := qyt an
   refine zzs (zzp ?_)
   refine zzd (zzt (sq9 ?_))
   obtain ⟨b35, aW, be⟩ := MatQ.cell (i := 0) (af.ext aj) xq
   refine zya 55 (0 + 0 * 1) (n := ac.n) (off := 0) (sz := 1) (i := 0) xq aW xq xq sl75 ?_
   have hrw36 := MatQ.row (af.ext aj) 0 xq
   have aI : (ah.getD 0 []).length = 1 := (MatN.rowlen (ag.ext aj) (by rw [(Nt.colM_len.trans (by rw [List.length_map, List.length_range]))]; omega)).trans (Nt.colM_row (b := ((List.range n).map fun j => Nt.ent ad j n)) (i := 0) yy)
   have bC : (aa.getD 0 sl0).n = 1 := (MutQ.rown hrw36).trans aI
   refine zyl 56 (.slice (aa.getD 0 sl0).a (aa.getD 0 sl0).n (aa.getD 0 sl0).c) be ty26 (zza 13 (.v (.slice (aa.getD 0 sl0).a (aa.getD 0 sl0).n (aa.getD 0 sl0).c)) (zzb (zzf (zza 57 (.v (qyn)) (zza 58 (.v (.slice (aa.getD 0 sl0).a (aa.getD 0 sl0).n (aa.getD 0 sl0).c)) ?_)))))
   obtain ⟨b37, aV, aD⟩ := MutQ.el1 (j := 0) hrw36 xq
   refine zya 59 (0 + 0 * 3) (n := (aa.getD 0 sl0).n) (off := 0) (sz := 3) (i := 0) xq aV xq xq sl26 ?_
   obtain ⟨au, aw⟩ : ∃ r : RL, (ah.getD 0 []).getD 0 rl0 = r := ⟨_, rfl⟩
   rw [aw] at aD
   have hv40 := (by have h9 := (MatN.at (i := 0) (j := 0) (ag.ext aj) (by rw [(Nt.colM_len.trans (by rw [List.length_map, List.length_range]))]; omega) (by rw [(Nt.colM_row (b := ((List.range n).map fun j => Nt.ent ad j n)) (i := 0) yy)]; omega)); rewrite [Nt.colM_v (b := ((List.range n).map fun j => Nt.ent ad j n)) (i := 0) yy] at h9; exact h9)
   rw [aw] at hv40
   refine zym 60 (au.cs) aD ty32 (zxx 61 ⟨32, au.cs⟩ 1 (fun bp bO aY bo => ?_))
   have bG : PolN bO (⟨some ⟨bp, 0, none⟩, 1, 1⟩ : Sl) [(((List.range n).map fun j => Nt.ent ad j n).getD 0 0)] (Nt.kz n K) := pol_lit (L := [au]) bo (rats1 (hv40.ext aY)) rfl yv
   refine sy_app0 62 (T := 26) (E := 32) (z := .agg #[.bool false, qyn, qyn]) (size := 3) (bytes := 56) (b := bp) (off := 0) (m := 1) au.cs xj xj xj yv rfl (lit_news ((Ext.refl _).cells bo)) (rl_one au) yv yv yv ?_
   intro bA aU bY bd aT ba
   refine zza 11 (.slc 62 0 1 bA) (zzx ?_)
   refine zzp (zzf (zza 63 (zI 1) (zza 53 (zI 1) (zzx ?_))))
   have bg : 0 < ((List.range n).map fun j => Nt.ent ad j n).length := by rw [List.length_map, List.length_range]; omega
   refine ⟨_, ?_, _, by exact zzv _ _ _, .inr ⟨1, [au], aU, bA, rfl, by omega, by omega, by simp, aT, by omega, bd, ba, rfl, (aj.trans aY), (app_first (RatN.more (K := (Nt.kz n K)) (hv40.ext aY) xq) bg rfl)⟩⟩
   omega
  have qhb34 := qyf an
  refine zyc (zzp (zzd ?_))
  have aN : PolN bK ⟨none, 0, 0⟩ ((List.range n).map fun j => Nt.ent ad j n) (Nt.kz n K) := by have h9 : ((List.range n).map fun j => Nt.ent ad j n) = [] := List.eq_nil_of_length_eq_zero yy; rw [h9]; exact pol_nil _ _
  refine zzf (zza 64 (.v (qyn)) (zza 65 (zI 0) (zza 4 (.v (qyn)) (zza 5 (zI 0) (zzb (zzo (ret0 [qyn, .int .i64 0] ⟨zzq, zzq, trivial⟩ fun u49 bQ => ?_)))))))
  exact ⟨⟨none, 0, 0⟩, ad, bl, rfl, (aN.ext bQ), aC⟩
 change SW _ _ _ _ (St.of 66 [(10, .v (.int .i64 0)), (11, .slc 62 0 i2 ae), (51, .v (.slice ac.a ac.n ac.c)), (52, .v (.int .i64 (ac.n : Int))), (53, .v (.int .i64 (i2 : Int)))] [(62, ⟨32, ar⟩)]) _ _
 refine sq9 (zza 54 (zB (decide ((i2 : Int) < (ac.n : Int)))) (zzb (zzd (zzu (b := decide ((i2 : Int) < (ac.n : Int))) xj (fun am => ?_) (fun am => ?_)))))
 ·have qhb51 := qyt am
  refine zzs (zzp ?_)
  refine zzd (zzt (sq9 ?_))
  obtain ⟨b52, a0, a5⟩ := MatQ.cell (i := i2) (af.ext aj) xq
  refine zya 55 (0 + i2 * 1) (n := ac.n) (off := 0) (sz := 1) (i := (i2 : Int)) xq a0 xq xq sl75 ?_
  have hrw53 := MatQ.row (af.ext aj) i2 xq
  have aG : (ah.getD i2 []).length = 1 := (MatN.rowlen (ag.ext aj) (by rw [(Nt.colM_len.trans (by rw [List.length_map, List.length_range]))]; omega)).trans (Nt.colM_row (b := ((List.range n).map fun j => Nt.ent ad j n)) (i := i2) yy)
  have bD : (aa.getD i2 sl0).n = 1 := (MutQ.rown hrw53).trans aG
  refine zyl 56 (.slice (aa.getD i2 sl0).a (aa.getD i2 sl0).n (aa.getD i2 sl0).c) a5 ty26 (zza 13 (.v (.slice (aa.getD i2 sl0).a (aa.getD i2 sl0).n (aa.getD i2 sl0).c)) (zzb (zzf (zza 57 (.slc 62 0 i2 ae) (zza 58 (.v (.slice (aa.getD i2 sl0).a (aa.getD i2 sl0).n (aa.getD i2 sl0).c)) ?_)))))
  obtain ⟨b54, bi, av⟩ := MutQ.el1 (j := 0) hrw53 xq
  refine zya 59 (0 + 0 * 3) (n := (aa.getD i2 sl0).n) (off := 0) (sz := 3) (i := 0) xq bi xq xq sl26 ?_
  obtain ⟨ao, aA⟩ : ∃ r : RL, (ah.getD i2 []).getD 0 rl0 = r := ⟨_, rfl⟩
  rw [aA] at av
  have hv57 := (by have h9 := (MatN.at (i := i2) (j := 0) (ag.ext aj) (by rw [(Nt.colM_len.trans (by rw [List.length_map, List.length_range]))]; omega) (by rw [(Nt.colM_row (b := ((List.range n).map fun j => Nt.ent ad j n)) (i := i2) yy)]; omega)); rewrite [Nt.colM_v (b := ((List.range n).map fun j => Nt.ent ad j n)) (i := i2) yy] at h9; exact h9)
  rw [aA] at hv57
  refine zym 60 (ao.cs) av ty32 (zxx 61 ⟨32, ao.cs⟩ 1 (fun bt bM aL br => ?_))
  have bE : PolN bM (⟨some ⟨bt, 0, none⟩, 1, 1⟩ : Sl) [(((List.range n).map fun j => Nt.ent ad j n).getD i2 0)] (Nt.kz n K) := pol_lit (L := [ao]) br (rats1 (hv57.ext aL)) rfl yv
  refine sy_app1 62 (T := 26) (E := 32) (z := .agg #[.bool false, qyn, qyn]) (size := 3) (bytes := 56) (b := bt) (off := 0) (m := 1) (n := i2) (cap := ae) (t := 62) (cs0 := ar) [11, 57, 62] ao.cs xj xj xj yv rfl (lit_news ((Ext.refl _).cells br)) (rl_one ao) yv yk xq xq xq xq xw ?_
  intro bk ay cb aQ aP bj
  have aE : ay.take ((i2 + 1) * 3) = rcs (L2 ++ [ao]) := by rw [bj, bw, rcs_app]; rfl
  refine zza 11 (.slc 62 0 (i2 + 1) bk) (zzx ?_)
  refine zzp (zzf (qwi 63 ((i2 : Int) + 1) (i2 + 1 : Nat) xz (zza 53 (zI (i2 + 1 : Nat)) (zzx ?_))))
  have bh : i2 < ((List.range n).map fun j => Nt.ent ad j n).length := by rw [List.length_map, List.length_range]; omega
  refine ⟨_, ?_, _, by exact zzv _ _ _, .inr ⟨i2 + 1, L2 ++ [ao], ay, bk, rfl, by omega, by omega, by simp; omega, aP, by omega, aQ, aE, rfl, (aj.trans aL), (app_next (bv.ext aL) (RatN.more (K := (Nt.kz n K)) (hv57.ext aL) xq) bh rfl)⟩⟩
  omega
 have qhb51 := qyf am
 refine zyc (zzp (zzd (zyp (r := 11) (t := 62) [11, 62] xw xj (by rfl) (by rfl) xj (fun az bX bH bL a6 => ?_))))
 have bc : PolN bX ⟨some ⟨az, 0, none⟩, i2, ae⟩ ((List.range n).map fun j => Nt.ent ad j n) (Nt.kz n K) := by have h8 := pol_data a6 bw bT aO aZ (bv.ext bH); rw [List.take_of_length_le (l := ((List.range n).map fun j => Nt.ent ad j n)) yy] at h8; exact h8
 refine zzf (zza 64 (.v (.slice (some ⟨az, 0, none⟩) i2 ae)) (zza 65 (zI 0) (zza 4 (.v (.slice (some ⟨az, 0, none⟩) i2 ae)) (zza 5 (zI 0) (zzb (zzo (ret0 [.slice (some ⟨az, 0, none⟩) i2 ae, .int .i64 0] ⟨zzq, zzq, trivial⟩ fun u71 cc => ?_)))))))
 exact ⟨(⟨some ⟨az, 0, none⟩, i2, ae⟩ : Sl), ad, bl, rfl, (bc.ext cc), aC⟩
namespace Nt
def pwR (V : List Rat) (l : List Nat) (n i : Nat) : List Rat := (List.range n).map fun k => xs V l i ^ k
section
variable {V : List Rat} {N n i j k a : Nat} {l : List Nat} {M : List (List Rat)} {D : Rat} {f : Nat → Rat}
theorem pwR_len : (pwR V l n i).length = n := by unfold pwR; simp
theorem pwR_at (h : j < n) : (pwR V l n i).getD j 0 = xs V l i ^ j := by unfold pwR; exact mapR_at h
theorem pwR_row : pwR V l n i ++ [sgw V l i] = rfRow V l n i := rfl
theorem pwR_1 (h : 1 ≤ n) : (pwR V l n i).take 1 = [1] := by
 obtain ⟨m, rfl⟩ : ∃ m, n = m + 1 := ⟨n - 1, by omega⟩
 unfold pwR
 rw [List.range_succ_eq_map]
 simp
theorem pwR_last (h1 : 1 ≤ j) (h2 : j ≤ n) : ((pwR V l n i).take j).getD (j - 1) 0 = xs V l i ^ (j - 1) := by
 rw [qyg, List.getElem?_take_of_lt xq, ← qyg, pwR_at xq]
theorem pwR_next (h1 : 1 ≤ j) (h2 : j < n) : xs V l i ^ (j - 1) * gX V (l.getD i 0) = (pwR V l n i).getD j 0 := by
 rw [pwR_at h2]
 obtain ⟨m, rfl⟩ : ∃ m, j = m + 1 := ⟨j - 1, by omega⟩
 rw [Nat.add_sub_cancel, Rat.pow_succ]; rfl
theorem pw_Wh (g : GrOK V N) (h : a < N) : ∀ k, Wh (gX V a ^ k * (((12 ^ k : Nat) : Int) : Rat)) (6 * k)
 | 0 => ⟨1, by rw [Rat.pow_zero]; decide +kernel, by decide⟩
 | k + 1 => by
  obtain ⟨z, e, h1'⟩ := pw_Wh g h k
  obtain ⟨y, e', k1, k2⟩ := g.x a h
  refine ⟨z * y, ?_, ?_⟩
  ·rw [Rat.pow_succ, Rat.intCast_mul, ← e, ← e', Nat.pow_succ, Int.natCast_mul, Rat.intCast_mul, show (((12 : Nat) : Int) : Rat) = 12 from rfl]; grind
  rw [Int.natAbs_mul, show 6 * (k + 1) = 6 * k + 6 by omega, Nat.pow_add]
  exact Nat.mul_le_mul h1' (by show _ ≤ 64; omega)
theorem pw_rs (g : GrOK V N) (h : a < N) (hk : k ≤ 11) : rs (gX V a ^ k) ≤ 3 := by
 refine Nat.le_trans (wh_rs (A := 66) (Nat.pow_pos xq) ((pw_Wh g h k).more xq) ?_) yv
 have : (12 : Nat) ^ k ≤ 2 ^ (4 * k) := by rw [Nat.pow_mul]; exact Nat.pow_le_pow_left xq _
 exact Nat.le_trans this (Nat.pow_le_pow_right xq xq)
theorem pwN_rs (g : GrOK V N) (h : Rf N l n) (hi : i ≤ n) (h1 : 1 ≤ j) (h2 : j < n) : rs (xs V l i ^ (j - 1) * gX V (l.getD i 0)) ≤ 3 := by
 have := h.n11 g.n12
 obtain ⟨m, rfl⟩ : ∃ m, j = m + 1 := ⟨j - 1, by omega⟩
 have e : xs V l i ^ (m + 1 - 1) * gX V (l.getD i 0) = gX V (l.getD i 0) ^ (m + 1) := by rw [Nat.add_sub_cancel, Rat.pow_succ]; rfl
 rw [e]; exact pw_rs g (h.lt i hi) xq
theorem sgw_rs (g : GrOK V N) (h : Rf N l n) (hi : i ≤ n) : rs (sg1 i / gW V (l.getD i 0)) ≤ 3 := Nat.le_trans (g.wB (h.lt i hi) i).rs yv
theorem sg1_rs : rs (sg1 i) ≤ 1 := by unfold sg1; split <;> decide +kernel
theorem take_mapR (m : Nat) : (((List.range (n + m)).map f).take n) = (List.range n).map f := by
 refine List.ext_getElem zv fun i h1 h2 => ?_
 simp
theorem rfY_next (h : i < n + 1) : gY V (l.getD i 0) = (rfY V l n).getD i 0 := (rfY_at h).symm
theorem rfA_take (h : i < n + 1) : (rfA V l n).take (i + 1) = (rfA V l n).take i ++ [rfRow V l n i] := by
 rw [List.take_succ_eq_append_getElem (by rw [rfA_len]; exact h)]
 simp [rfA]
theorem kz12 (h : n + 1 ≤ 12) : kz (n + 1) 3 ≤ 100000000 := Nat.le_trans (kz_mono h) yv
theorem rf_fin (g : GrOK V N) (h : Rf N l n) (h1 : 1 ≤ n) (G : GI (n + 1) (n + 1 + 1) (besG (rfA V l n) (colM (rfY V l n)) (n + 1)) M (n + 1) D) : trimQ (((List.range (n + 1)).map fun j => ent M j (n + 1)).take n) = pL V l ∧ ((List.range (n + 1)).map fun j => ent M j (n + 1)).getD n 0 = eL V l := by
 have hr : ∀ i, i < n + 1 → ((rfA V l n).getD i []).length = n + 1 := fun i hi => by rw [rfA_at hi]; exact rfRow_len
 have hs := rf_sol (v := fun j => ent M j (n + 1)) g h h1 fun i hi => by
  have := G.solve (i := i) xq
  rw [bes_new xq rfA_len hr rfY_len, rfY_at xq] at this
  rw [← this]
  exact su_congr fun j hj => by rw [bes_old xq rfA_len hr hj]
 rw [take_mapR 1, mapR_at xq]
 exact ⟨hs.2, hs.1⟩
theorem rf_rs (g : GrOK V N) (h : Rf N l n) (h1 : 1 ≤ n) (G : GI (n + 1) (n + 1 + 1) (besG (rfA V l n) (colM (rfY V l n)) (n + 1)) M (n + 1) D) (i : Nat) : rs (((List.range (n + 1)).map fun j => ent M j (n + 1)).getD i 0) ≤ 60000 := by
 obtain ⟨h2, h3⟩ := rf_fin g h h1 G
 by_cases e : i < n
 ·have h4 : co (((List.range (n + 1)).map fun j => ent M j (n + 1)).take n) i = co (pL V l) i := by rw [← h2, trim_co]
  have h5 : co (((List.range (n + 1)).map fun j => ent M j (n + 1)).take n) i = ((List.range (n + 1)).map fun j => ent M j (n + 1)).getD i 0 := by
   unfold co
   rw [qyg, List.getElem?_take_of_lt e, ← qyg]
  rw [← h5, h4, lvl_pL h]
  exact lvl_rs g h (Nat.le_refl n) i
 by_cases e2 : i = n
 ·rw [e2, h3]; exact Nat.le_trans (eL_B g h) yv
 have h6 : ((List.range (n + 1)).map fun j => ent M j (n + 1)).getD i 0 = 0 := co_ge yw
 rw [h6]; decide +kernel
end
end Nt
section
variable {w lo lo' b n c i k : Nat} {tO tR ty : TypeId} {u u' : World} {x y z : Sl} {Rs : List Sl} {Ls : List (List RL)} {L : List RL}
theorem sep_snoc (h : ∀ k, k < Ls.length → Sep y (Rs.getD k sl0)) (hl : Rs.length = Ls.length) (hz : Sep y z) : ∀ k, k < (Ls ++ [L]).length → Sep y ((Rs ++ [z]).getD k sl0) := fun k hk => by
 rw [List.length_append] at hk
 by_cases e : k < Ls.length
 ·rw [qyg, List.getElem?_append_left xq, ← qyg]; exact h k e
 have : k = Rs.length := by simp at hk; omega
 rw [this, qyg, List.getElem?_append_right qyl, Nat.sub_self]; exact hz
theorem MutQ.newSep {k : Nat} {cs : List Value} (m : MutQ k ty lo u y cs) (hb : u.heap.size ≤ b) : Sep ⟨some ⟨b, 0, none⟩, n, c⟩ y := fun a a' h1 h2 hc => by
 injection h1 with h1; subst h1
 have h3 := m.mutL.lt h2
 have hc : b = a'.block := hc
 omega
end
theorem k_ascendsT {u w : World} {z : Sl} {l : List Nat} {N n : Nat} (d : Dat u w) (hz : SlR .i64 u z.a z.n z.c (Nt.inl l)) (hR : Nt.Rf N l n) (hN : N ≤ 12) : qyc 87 #[z.v, .int .i64 (N : Int)] w (Post u w fun v _ => v = .bool true) := by
 refine qym (k_ascends (N := (N : Int)) d hz (Nt.inl_bd hR.mem xq)) ?_
 rintro v u' _ ⟨b, rfl, hb⟩
 rw [hb.2 hR.up]
theorem k_r15Level {u w : World} {z : Sl} {l : List Nat} {n : Nat} {x : Sl} {N : Nat} {V : List Rat} (d : Dat u w) (hg : GrN u x N V 1) (ho : Nt.GrOK V N) (hz : SlR .i64 u z.a z.n z.c (Nt.inl l)) (hR : Nt.Rf N l n) (hn1 : 1 ≤ n) (hn8 : n + 1 ≤ 12) : qyc 36 #[x.v, z.v] w (Post u w fun v u' => ∃ (y : Sl) (r : RL), v = .tuple #[y.v, r.v, .int .i64 0] ∧ PolN u' y (Nt.pL V l) 60000 ∧ RatN u' r (Nt.eL V l) 2700) := by
 have hxn : x.n = N := hg.len
 have hN12 := ho.n12
 have hN1 := ho.n1
 have hll := hR.len
 have hzl : z.n = n + 1 := by have h9 := hz.1; rw [Nt.inl_len, hll] at h9; exact h9.symm
 have hkz := Nt.kz12 hn8
 refine zzm Tryz.func36 rfl Tryz.ntmps36 Tryz.results36 d ?_
 refine sq9 (zza 4 (.v (qyn)) (zzk 5 ⟨32, zw3⟩ (zza 6 (zI 0) (zzb (zzd (zzt (sq9 (zza 17 (.v (x.v)) (zzg 18 69 _ fun _ _ bf cC => qym (k_r14Valid cC (hg.ext bf) ho) ?_)))))))))
 rintro _ u12 bE rfl
 refine zza 19 (zB false) (zza 16 (zB false) (zzb (zys xj (sq9 (zza 22 (.v (z.v)) (zza 23 (zI z.n) (zza 24 (zB (decide ((z.n : Int) < 2))) (zyq 25 (x := zB (decide ((z.n : Int) < 2))) (zB false) (by rw [show (decide ((z.n : Int) < 2)) = false from decide_eq_false xq]) (zza 26 (.v (z.v)) ?_ (hw := w1 3 false 25))))))))))
 refine zza 27 (zI z.n) ?_ (hw := w1 3 false 25)
 refine zza 28 (zB (decide ((52 : Int) < (z.n : Int)))) ?_ (hw := w1 3 false 25)
 refine zza 29 (zB (decide ((52 : Int) < (z.n : Int)))) (zyq 30 (x := zB (decide ((52 : Int) < (z.n : Int)))) (zB false) (by rw [show (decide ((52 : Int) < (z.n : Int))) = false from decide_eq_false xq]) (zza 31 (.v (z.v)) ?_ (hw := w1 8 false 30)))
 refine zza 32 (.v (x.v)) ?_ (hw := w1 8 false 30)
 refine zza 33 (zI x.n) ?_ (hw := w1 8 false 30)
 refine zzg 34 87 _ (fun _ _ bz ch => qym (by have h9 := k_ascendsT (z := z) ch (hz.ext (bf.t (bE.t bz))) hR (by have := ho.n12; omega); rw [← hxn] at h9; exact h9) ?_) (hw := w1 8 false 30)
 rintro _ u18 cJ rfl
 refine zza 35 (zB false) ?_ (hw := w1 8 false 30)
 refine zza 36 (zB false) (zza 21 (zB false) (zzb (zys xj (zzs (zzp ?_)))))
 refine sq9 (zza 7 (.v (qyn)) (zzb (sq9 (zza 8 (.v (qyn)) (zzb (sq9 (zzg 38 30 _ fun _ _ cT cg => qym (k_rqOf cg (z := 1) xq xq) ?_)))))))
 rintro _ u24 cG ⟨a6, rfl, cK⟩
 refine zzk 9 ⟨32, zw3⟩ (zzj ⟨32, a6.cs⟩ ty32 ?_)
 refine zzb (zzd (sq9 (zza 39 (.v (z.v)) (zza 40 (zI z.n) (zza 41 (zI 0) (zzc 113 [(0, .v (x.v)), (1, .v (z.v)), (5, .adr 5 0), (7, .v (qyn)), (8, .v (qyn)), (9, .adr 9 0), (39, .v (z.v)), (40, zI z.n), (41, zI 0)] [(5, ⟨32, zw3⟩), (9, ⟨32, a6.cs⟩)] (zzt (zyn (I := fun bT S' u' => ∃ (i : Nat) (yo : Sl) (Rc : List Sl) (Lc : List (List RL)) (yb : Sl) (Lb : List RL) (rs : RL), (bT = n + 1 - i) ∧ (i ≤ n + 1) ∧ (∀ k, k < Lc.length → Sep yb (Rc.getD k sl0)) ∧ (S' = St.of 113 [(0, .v (x.v)), (1, .v (z.v)), (5, .adr 5 0), (7, .v (yo.v)), (8, .v (yb.v)), (9, .adr 9 0), (39, .v (z.v)), (40, zI z.n), (41, zI i)] [(5, ⟨32, zw3⟩), (9, ⟨32, rs.cs⟩)]) ∧ (Ext u u') ∧ (MatQ 1 26 32 u.heap.size u' yo Rc Lc) ∧ (MatN u' Lc ((Nt.rfA V l n).take i) 3) ∧ (MutQ (1 * 3) 32 u.heap.size u' yb (rcs Lb)) ∧ (RatsN u' Lb ((Nt.rfY V l n).take i) 3) ∧ (RatN u' rs (Nt.sg1 i) 1)) (fun m S u1 u2 e h => by obtain ⟨i, yo, Rc, Lc, yb, Lb, rs, hm, p0, p1, hS, hE, f0, f1, f2, f3, f4⟩ := h; exact ⟨i, yo, Rc, Lc, yb, Lb, rs, hm, p0, p1, hS, hE.trans e, f0.ext e, f1.ext e, f2.ext e, f3.ext e, f4.ext e⟩) _ yz ⟨0, sl0, [], [], sl0, [], a6, rfl, by omega, (fun k hk => absurd hk (Nat.not_lt_zero k)), rfl, (bf.t (bE.t (bz.t (cJ.t (cT.t cG.ext))))), MatQ.empty, (by rw [List.take_zero]; exact MatN.empty), (MutQ.nil _ _ _ _), (by rw [List.take_zero]; exact ⟨rfl, fun k hk => absurd hk (Nat.not_lt_zero k)⟩), (by have h9 := cK; rw [show ((1 : Int) : Rat) = Nt.sg1 0 from rfl] at h9; exact RatN.fit h9 Nt.sg1_rs)⟩ ?_))))))))
 rintro bT _ bB ⟨i, yo, Rc, Lc, yb, Lb, rs, cd, hi, hsb, rfl, a8, g0, g1, g2, g3, g4⟩
 refine sq9 (zza 42 (zB (decide ((i : Int) < (z.n : Int)))) (zzb (zzd (zzu (b := decide ((i : Int) < (z.n : Int))) xj (fun aC => ?_) (fun aC => ?_)))))
 ·have qhb28 := qyt aC
  refine zzs (zzp ?_)
  refine zzd (zzt (zzd ?_))
  have hki := hR.lt i xq
  refine zzf ?_
  have bp : (Nt.inl l).length = z.n := ((hz.ext a8)).1
  rw [Nt.inl_len] at bp
  obtain ⟨b29, bU, a7, aQ⟩ := ints_at (hz.ext a8) (i := i) (by have h9 : i < l.length := xq; omega)
  rw [Nt.inl_at] at aQ
  refine zya 43 (bU + i * 1) (n := z.n) (off := bU) (sz := 1) (i := (i : Int)) xq a7 xq (by first | omega | (have h9 : i < l.length := xq; omega)) sl22 (zyl 44 (.int .i64 (((l.getD i 0) : Nat) : Int)) aQ ty3 (zza 11 (zI (((l.getD i 0) : Nat) : Int)) (zzb (sq9 (zzg 45 30 _ fun _ _ ar cS => qym (k_rqOf cS (z := 1) xq xq) ?_)))))
  rintro _ u33 aw ⟨aq, rfl, cA⟩
  have hym36 := (g0.ext (ar.t aw.ext))
  have hyb36 := (g2.ext (ar.t aw.ext))
  refine sy_dataF 46 ⟨32, aq.cs⟩ 1 (fun ba cH aE cq cj bY => ?_)
  have aL : MutQ (1 * 3) 32 u.heap.size cH (⟨some ⟨ba, 0, none⟩, 1, 1⟩ : Sl) (rcs [aq]) := MutQ.lit (by rw [show rcs [aq] = aq.cs from by simp [rcs]]; exact cq) rfl yk cj (by rw [show rcs [aq] = aq.cs from by simp [rcs]]; exact nu_rl aq)
  have hsp36 := MatQ.fresh (n := 1) (c := 1) hym36 bY
  have hsb36 := MutQ.newSep (n := 1) (c := 1) hyb36 bY
  refine zza 12 (.v (.slice (some ⟨ba, 0, none⟩) 1 1)) (zzb (zzd (zzt (zyn (I := fun bH S' u' => ∃ (j : Nat) (zr : Sl) (L : List RL), (bH = n - j) ∧ (1 ≤ j) ∧ (j ≤ n) ∧ (∀ k, k < Lc.length → Sep zr (Rc.getD k sl0)) ∧ (Sep zr yb) ∧ (S' = St.of 113 [(0, .v (x.v)), (1, .v (z.v)), (5, .adr 5 0), (7, .v (yo.v)), (8, .v (yb.v)), (9, .adr 9 0), (11, zI (((l.getD i 0) : Nat) : Int)), (12, .v (zr.v)), (39, .v (z.v)), (40, zI z.n), (41, zI i)] [(5, ⟨32, zw3⟩), (9, ⟨32, rs.cs⟩)]) ∧ (Ext u u') ∧ (MatQ 1 26 32 u.heap.size u' yo Rc Lc) ∧ (MatN u' Lc ((Nt.rfA V l n).take i) 3) ∧ (MutQ (1 * 3) 32 u.heap.size u' zr (rcs L)) ∧ (RatsN u' L ((Nt.pwR V l n i).take j) 3) ∧ (MutQ (1 * 3) 32 u.heap.size u' yb (rcs Lb)) ∧ (RatsN u' Lb ((Nt.rfY V l n).take i) 3) ∧ (RatN u' rs (Nt.sg1 i) 1)) (fun m S u1 u2 e h => by obtain ⟨j, zr, L, hm, p0, p1, p2, p3, hS, hE, f0, f1, f2, f3, f4, f5, f6⟩ := h; exact ⟨j, zr, L, hm, p0, p1, p2, p3, hS, hE.trans e, f0.ext e, f1.ext e, f2.ext e, f3.ext e, f4.ext e, f5.ext e, f6.ext e⟩) _ yz ⟨1, (⟨some ⟨ba, 0, none⟩, 1, 1⟩ : Sl), [aq], rfl, qyl, by omega, (fun k hk => hsp36 k hk), hsb36, rfl, (a8.t (ar.t (aw.t aE))), (g0.ext (ar.t (aw.t aE))), (g1.ext (ar.t (aw.t aE))), aL, (by rw [Nt.pwR_1 hn1]; exact rats1 (by have h9 := (cA.ext aE); rw [show ((1 : Int) : Rat) = 1 from rfl] at h9; exact RatN.more (K := 2) h9 xq)), (g2.ext (ar.t (aw.t aE))), (g3.ext (ar.t (aw.t aE))), (g4.ext (ar.t (aw.t aE)))⟩ ?_))))
  rintro bH _ cw ⟨j, zr, L, cy, hj1, hj, hszr, hszb, rfl, aH, q0, q1, q2, q3, q4, q5, q6⟩
  have hLj : L.length = j := by rw [q3.1, List.length_take, Nt.pwR_len]; omega
  have hzrn : zr.n = j := (MutQ.rown (show MutQ (1 * 3) 32 u.heap.size cw zr (rcs L) from q2)).trans hLj
  refine zzd (sq9 (zza 47 (.v (zr.v)) (zza 48 (zI zr.n) (zza 49 (.v (z.v)) (zza 50 (zI z.n) (qwi 51 ((z.n : Int) - 1) (z.n - 1 : Nat) xz (zza 52 (zB (decide ((zr.n : Int) < ((z.n - 1 : Nat) : Int)))) (zzb (zzu (b := decide ((zr.n : Int) < ((z.n - 1 : Nat) : Int))) xj (fun aG => ?_) (fun aG => ?_))))))))))
  ·have qhb38 := qyt aG
   refine zzs (zzp ?_)
   refine zzt (sw_anyC [0, 0, 0, 4, 12, 30, 62, 0, 0, 384, 896, 1920, 4094, 8190, 16383, 32767] [(0, []), (1, []), (2, []), (3, []), (4, []), (5, []), (6, []), (7, []), (8, []), (9, []), (10, []), (11, []), (12, []), (13, [66])] [(14, []), (15, [])] xj xj xj ?_)
   refine zza 53 (.v (zr.v)) (zza 54 (.v (zr.v)) (zza 55 (.v (zr.v)) (zza 56 (zI zr.n) (qwi 57 ((zr.n : Int) - 1) (j - 1 : Nat) xz ?_))))
   obtain ⟨b39, bh, aJ⟩ := MutQ.el1 (j := (j - 1)) q2 xq
   refine zya 58 (0 + (j - 1) * 3) (n := zr.n) (off := 0) (sz := 3) (i := ((j - 1 : Nat) : Int)) xq bh xq xq sl26 ?_
   obtain ⟨b6, aP⟩ : ∃ r : RL, L.getD (j - 1) rl0 = r := ⟨_, rfl⟩
   rw [aP] at aJ
   have hv42 := (by have h9 := (q3).2 (j - 1) (by rw [List.length_take, Nt.pwR_len]; omega); rw [Nt.pwR_last xq xq] at h9; exact h9)
   rw [aP] at hv42
   refine zym 59 (b6.cs) aJ ty32 (zza 60 (.v (x.v)) (zza 61 (zI (((l.getD i 0) : Nat) : Int)) ?_))
   have cI : x.n = N := GrN.len (hg.ext aH)
   obtain ⟨bg, b4, cW, cU, a2, a4, aO, bV, bG, aR, bL, bR⟩ := gr_at (hg.ext aH) (i := (l.getD i 0)) xq
   refine zya 62 (a2 + (l.getD i 0) * 9) (n := x.n) (off := a2) (sz := 9) (i := (((l.getD i 0) : Nat) : Int)) xq a4 xq (by first | omega | (have h9 : (l.getD i 0) < N := xq; omega)) sl23 (zza 63 (.v (.pointer (some ⟨cU, a2 + (l.getD i 0) * 9, none⟩))) (zym 64 (bg.cs) aO ty32 (zzg 65 91 _ fun _ _ ai ce => qym (k_rqMul ce (hv42.ext ai).raw (aR.ext ai).raw xq xq) ?_)))
   rintro _ u47 ax ⟨ao, rfl, ct⟩
   refine sy_dataN 66 ⟨32, ao.cs⟩ 1 (fun b7 cv al cn f50 g50 => ?_)
   refine zzx ?_
   have hA51 := (q0.ext (ai.t (ax.t al)))
   have hN51 := (q1.ext (ai.t (ax.t al)))
   have hZ51 := (q2.ext (ai.t (ax.t al)))
   have hV51 := (q3.ext (ai.t (ax.t al)))
   have hB51 := (q4.ext (ai.t (ax.t al)))
   have hW51 := (q5.ext (ai.t (ax.t al)))
   have hS51 := (q6.ext (ai.t (ax.t al)))
   have hZ51L := (MutQ.rown (show MutQ (1 * 3) 32 u.heap.size cv zr (rcs L) from hZ51))
   refine sy_appQ 67 (T := 26) (E := 32) (z := .agg #[.bool false, qyn, qyn]) (size := 3) (bytes := 56) (b2 := b7) (off := 0) (m := 1) zr (rcs L) ao.cs hZ51 xj xj xj yv rfl (lit_news ((Ext.refl _).cells cn)) (rl_one ao) yv yk xq (nu_rl ao) nu_zrat (fun aT cp bn cN ac aX => ?_)
   have bj : MutQ (1 * 3) 32 u.heap.size cp aT (rcs (L ++ [ao])) := by rw [rcs_app, show rcs [ao] = ao.cs from by simp [rcs]]; exact bn
   have eR52 := ExtX.root ac (MutQ.mutL hZ51) (aH.t (ai.t (ax.t al)))
   have hA52x := MatQ.far yv hA51 hZ51 ac (fun k hk => hszr k hk)
   have hN52x := MatN.keep hN51 hZ51 ac
   have hB52x := MutQ.extS hB51 ac hszb
   have hW52x := MutQ.keeps hZ51 ac hW51
   have hS52x := MutQ.keep hZ51 ac hS51
   have aB : ∀ k, k < Lc.length → Sep aT (Rc.getD k sl0) := fun k hk => (Sep.step (hszr k hk).symm (MatQ.row hA51 k hk).mutL aX).symm
   have aD : Sep aT yb := (Sep.step hszb.symm (MutQ.mutL hB51) aX).symm
   have hT52 := MutQ.keep hZ51 ac (RatN.fit (L := 3) (ct.ext al) (Nt.pwN_rs ho hR xq xq xq))
   have hV52x := MutQ.keeps hZ51 ac hV51
   refine zza 12 (.v (aT.v)) (zzx ?_)
   refine ⟨_, ?_, _, by exact zzv _ _ _, j + 1, aT, (L ++ [ao]), rfl, by omega, by omega, aB, aD, rfl, eR52, hA52x, hN52x, bj, (app_next hV52x hT52 (by rw [Nt.pwR_len]; omega) (Nt.pwR_next xq xq)), hB52x, hW52x, hS52x⟩
   omega
  have qhb38 := qyf aG
  refine zyc (zzp (zzd (sw_anyX xj 14 rfl ?_)))
  refine takeX 0 68 13 (.v (yo.v)) #[true, false, false, false, false, false, false, false, false, false, false, false, false, false] ?_
  refine restX [0, 0, 0, 0, 0, 24, 56, 120, 252, 508, 1022, 2046, 4095, 8191] [(1, []), (2, []), (3, []), (4, []), (5, []), (6, []), (7, []), (8, []), (9, [77])] [] (10, []) [(11, []), (12, []), (13, [])] xj ?_
  refine zza 69 (.v (zr.v)) (zzi 70 (.v (rs.v)) ty32 zze (zza 71 (.v (x.v)) (zza 72 (zI (((l.getD i 0) : Nat) : Int)) ?_)))
  have cB : x.n = N := GrN.len (hg.ext aH)
  obtain ⟨cF, ca, bi, b8, bd, a9, bD, bX, aM, bt, bK, aV⟩ := gr_at (hg.ext aH) (i := (l.getD i 0)) xq
  refine zya 73 (bd + (l.getD i 0) * 9) (n := x.n) (off := bd) (sz := 9) (i := (((l.getD i 0) : Nat) : Int)) xq a9 xq (by first | omega | (have h9 : (l.getD i 0) < N := xq; omega)) sl23 (zza 74 (.v (.pointer (some ⟨b8, bd + (l.getD i 0) * 9 + 6, none⟩))) (zym 75 (bi.cs) aM ty32 (zzg 76 97 _ fun _ _ aj cc => qym (k_rqOver cc (q6.ext aj).raw (aV.ext aj).raw xq xq) ?_)))
  rintro _ u57 ap ⟨ah, rfl, cM⟩
  refine sy_dataN 77 ⟨32, ah.cs⟩ 1 (fun ci b0 ak cQ f60 g60 => ?_)
  refine zzx ?_
  refine exitsK_last ?_
  have hA61 := (q0.ext (aj.t (ap.t ak)))
  have hN61 := (q1.ext (aj.t (ap.t ak)))
  have hZ61 := (q2.ext (aj.t (ap.t ak)))
  have hV61 := (q3.ext (aj.t (ap.t ak)))
  have hB61 := (q4.ext (aj.t (ap.t ak)))
  have hW61 := (q5.ext (aj.t (ap.t ak)))
  have hS61 := (q6.ext (aj.t (ap.t ak)))
  have hZ61L := (MutQ.rown (show MutQ (1 * 3) 32 u.heap.size b0 zr (rcs L) from hZ61))
  refine sy_appQ 78 (T := 26) (E := 32) (z := .agg #[.bool false, qyn, qyn]) (size := 3) (bytes := 56) (b2 := ci) (off := 0) (m := 1) zr (rcs L) ah.cs hZ61 xj xj xj yv rfl (lit_news ((Ext.refl _).cells cQ)) (rl_one ah) yv yk xq (nu_rl ah) nu_zrat (fun am cD a5 cu ad aU => ?_)
  have bc : MutQ (1 * 3) 32 u.heap.size cD am (rcs (L ++ [ah])) := by rw [rcs_app, show rcs [ah] = ah.cs from by simp [rcs]]; exact a5
  have eR62 := ExtX.root ad (MutQ.mutL hZ61) (aH.t (aj.t (ap.t ak)))
  have hA62x := MatQ.far yv hA61 hZ61 ad (fun k hk => hszr k hk)
  have hN62x := MatN.keep hN61 hZ61 ad
  have hB62x := MutQ.extS hB61 ad hszb
  have hW62x := MutQ.keeps hZ61 ad hW61
  have hS62x := MutQ.keep hZ61 ad hS61
  have aA : ∀ k, k < Lc.length → Sep am (Rc.getD k sl0) := fun k hk => (Sep.step (hszr k hk).symm (MatQ.row hA61 k hk).mutL aU).symm
  have ay : Sep am yb := (Sep.step hszb.symm (MutQ.mutL hB61) aU).symm
  have hT62 := MutQ.keep hZ61 ad (RatN.fit (L := 3) (cM.ext ak) (Nt.sgw_rs ho hR xq))
  have hV62x := MutQ.keeps hZ61 ad hV61
  refine sy_dataF 79 ⟨26, [am.v]⟩ 1 (fun cV cz an b3 f63 g63 => ?_)
  have hA64 := (hA62x.ext an)
  have hN64 := (hN62x.ext an)
  have hB64 := (hB62x.ext an)
  have hW64 := (hW62x.ext an)
  have hS64 := (hS62x.ext an)
  have hZ64 := (bc.ext an)
  have hT64 := (hT62.ext an)
  have hV64 := (hV62x.ext an)
  have hA64l := hA64.rows
  have bO : Lc.length = i := by rw [hN64.1, List.length_take, Nt.rfA_len]; omega
  have bk : RatsN cz (L ++ [ah]) (Nt.rfRow V l n i) 3 := by have h9 := hV64; rw [List.take_of_length_le (by rw [Nt.pwR_len]; omega)] at h9; rw [← Nt.pwR_row]; exact RatsN.snoc h9 hT64
  refine sy_appQ 80 (T := 75) (E := 26) (z := qyn) (size := 1) (bytes := 24) (b2 := cV) (off := 0) (m := 1) yo (Rc.map Sl.v) [am.v] (MatQ.out hA64) xj xj xj yv rfl (lit_news ((Ext.refl _).cells b3)) (sl_one am) yv yk xq (nu_sls [am]) nu_zsl (fun bQ u65 bm cR af b5 => ?_)
  have hA65x := MatQ.snoc yv yv hA64 hZ64 (fun j hj => aA j hj) (by rw [List.map_append]; exact bm) af
  have hN65x := MatN.keep (MatN.snoc hN64 bk) (MatQ.out hA64) af
  have hB65x := MutQ.extT hB64 (ExtX.t af (MutQ.mutL (MatQ.out hA64))) yv
  have hW65x := MutQ.keeps (MatQ.out hA64) af hW64
  have hS65x := MutQ.keep (MatQ.out hA64) af hS64
  have hsb65 := sep_snoc (L := (L ++ [ah])) hsb (MatQ.len hA64) ay.symm
  have eR65 := ExtX.root af (MutQ.mutL (MatQ.out hA64)) (eR62.trans an)
  refine zza 7 (.v (bQ.v)) (zzb (sq9 (zza 81 (.v (yb.v)) (zza 82 (.v (x.v)) (zza 83 (zI (((l.getD i 0) : Nat) : Int)) ?_)))))
  have cP : x.n = N := GrN.len (hg.ext eR65)
  obtain ⟨b1, aa, cE, cr, bo, a3, bA, aK, bs, bN, av, bF⟩ := gr_at (hg.ext eR65) (i := (l.getD i 0)) xq
  refine zya 84 (bo + (l.getD i 0) * 9) (n := x.n) (off := bo) (sz := 9) (i := (((l.getD i 0) : Nat) : Int)) xq a3 xq (by first | omega | (have h9 : (l.getD i 0) < N := xq; omega)) sl23 (zza 85 (.v (.pointer (some ⟨cr, bo + (l.getD i 0) * 9 + 3, none⟩))) (zym 86 (aa.cs) aK ty32 (zxx 87 ⟨32, aa.cs⟩ 1 (fun bv bI au bW => ?_))))
  have b9 : PolN bI (⟨some ⟨bv, 0, none⟩, 1, 1⟩ : Sl) [(Nt.gY V (l.getD i 0))] 1 := pol_lit (L := [aa]) bW (rats1 (av.ext au)) rfl yv
  have hA72 := (hA65x.ext au)
  have hN72 := (hN65x.ext au)
  have hB72 := (hB65x.ext au)
  have hW72 := (hW65x.ext au)
  have hS72 := (hS65x.ext au)
  have hB72L := (MutQ.rown (show MutQ (1 * 3) 32 u.heap.size bI yb (rcs Lb) from hB72))
  have bS : Lb.length = i := by rw [hW72.1, List.length_take, Nt.rfY_len]; omega
  refine sy_appQ 88 (T := 26) (E := 32) (z := .agg #[.bool false, qyn, qyn]) (size := 3) (bytes := 56) (b2 := bv) (off := 0) (m := 1) yb (rcs Lb) aa.cs hB72 xj xj xj yv rfl (lit_news ((Ext.refl _).cells bW)) (rl_one aa) yv yk xq (nu_rl aa) nu_zrat (fun aZ cf bq cO ae a1 => ?_)
  have aN : MutQ (1 * 3) 32 u.heap.size cf aZ (rcs (Lb ++ [aa])) := by rw [rcs_app, show rcs [aa] = aa.cs from by simp [rcs]]; exact bq
  have eR73 := ExtX.root ae (MutQ.mutL hB72) (eR65.trans au)
  have hA73x := MatQ.far yv hA72 hB72 ae (fun k hk => hsb65 k hk)
  have hN73x := MatN.keep hN72 hB72 ae
  have hS73x := MutQ.keep hB72 ae hS72
  have hW73x := app_next (MutQ.keeps hB72 ae hW72) (MutQ.keep hB72 ae (RatN.more (K := 1) (av.ext au) xq)) (by rw [Nt.rfY_len]; omega) (Nt.rfY_next xq)
  have az : ∀ k, k < (Lc ++ [(L ++ [ah])]).length → Sep aZ ((Rc ++ [am]).getD k sl0) := fun k hk => (Sep.step (hsb65 k hk).symm (MatQ.row hA72 k hk).mutL a1).symm
  refine zza 8 (.v (aZ.v)) (zzb (zzf (zzi 89 (.v (rs.v)) ty32 zze (zzg 90 21 _ fun _ _ aI cX => qym (k_rqNeg cX (hS73x.ext aI).raw xq) ?_))))
  rintro _ u77 aW ⟨bP, rfl, cl⟩
  refine zzj ⟨32, bP.cs⟩ ty32 ?_
  refine zzx ?_
  refine zzp (zzf (qwi 91 ((i : Int) + 1) (i + 1 : Nat) xz (zza 41 (zI (i + 1 : Nat)) (zzx ?_))))
  refine ⟨_, ?_, _, by exact zzv _ _ _, i + 1, bQ, (Rc ++ [am]), (Lc ++ [(L ++ [ah])]), aZ, (Lb ++ [aa]), bP, rfl, by omega, az, rfl, (eR73.t (aI.t aW.ext)), (hA73x.ext (aI.t aW.ext)), (by rw [Nt.rfA_take xq]; exact (hN73x.ext (aI.t aW.ext))), (aN.ext (aI.t aW.ext)), (hW73x.ext (aI.t aW.ext)), (by rw [Nt.sg1_s]; exact RatN.more (K := 1) cl xq)⟩
  omega
 have qhb28 := qyf aC
 refine zyc (zzp (zzd ?_))
 have hgn : MatN bB Lc (Nt.rfA V l n) 3 := by have h9 := g1; rw [List.take_of_length_le (by rw [Nt.rfA_len]; omega)] at h9; exact h9
 have hbn : PolN bB yb (Nt.rfY V l n) 3 := MutQ.polM g2 (by have h9 := g3; rw [List.take_of_length_le (by rw [Nt.rfY_len]; omega)] at h9; exact h9)
 refine zzf (zza 93 (.v (yo.v)) (zza 94 (.v (yb.v)) (zzg 95 98 _ fun _ _ a0 cb => qym (k_r9solve (n := n + 1) (b := Nt.rfY V l n) cb (g0.ext a0) (hgn.ext a0) Nt.rfA_len (fun i hi => by rw [Nt.rfA_at hi]; exact Nt.rfRow_len) (hbn.ext a0) Nt.rfY_len xq xq (Nt.rf_inj ho hR) xq hkz) ?_)))
 rintro _ u82 g83 ⟨ag, cx, D81, rfl, aF, aS⟩
 have hP81f := PolN.fitR aF (Nt.rf_rs ho hR hn1 aS)
 have bM : ag.n = n + 1 := aF.len.trans (by rw [List.length_map, List.length_range])
 have hcz81 := aF.cap
 have bJ : ((List.range (n + 1)).map fun j => Nt.ent cx j (n + 1)).length = n + 1 := by rw [List.length_map, List.length_range]
 refine zza 92 (.v (.tuple #[ag.v, .int .i64 0])) (zza 96 (.v (ag.v)) (zza 97 (zI 0) (zza 13 (.v (ag.v)) (zza 14 (zI 0) (zzb (zzd (sq9 (zza 98 (zI 0) (zza 99 (zB false) (zzb (zys xj ?_)))))))))))
 refine zzs (zzp ?_)
 refine sq9 (zza 102 (.v (ag.v)) (zza 103 (zI ag.n) (qwi 104 ((ag.n : Int) - 1) (n : Nat) xz (zza 15 (zI (n : Nat)) (zzb (zzd (zzz [0, 0, 3, 7, 0, 0, 48, 112, 15, 511, 1023] [(0, []), (1, []), (2, []), (4, []), (5, []), (6, []), (7, []), (3, []), (8, []), (9, []), (10, [])] xj xj (zza 105 (.v (ag.v)) (zza 106 (zI (n : Nat)) ?_)))))))))
 have hl85 := hP81f.len
 have hc85 := hP81f.cap
 refine sy_front 107 (n := ag.n) (c := ag.c) (n) sl26 rfl xq ?_
 refine zza 109 (.v (ag.v)) (zza 110 (zI (n : Nat)) ?_)
 have hl86 := hP81f.len
 obtain ⟨aY, b86, bu, bl, br, be⟩ := pol_atN hP81f (i := (n)) xq
 refine zya 111 (bu + (n) * 3) (n := ag.n) (off := bu) (sz := 3) (i := ((n : Nat) : Int)) xq bl xq xq sl26 (zym 112 aY.cs br ty32 (zzg 108 83 _ fun _ _ bw ck => qym (k_r5Trim ck ((pol_takeN (n := (n)) hP81f xq).ext bw).raw xq xk) ?_))
 rintro _ u90 cm ⟨bb, rfl, bC⟩
 have hly88 := bC.len
 refine zza 4 (.v (bb.v)) (zzj ⟨32, aY.cs⟩ ty32 ?_)
 refine zza 6 (zI 0) (zzb (zzo (ret0 [bb.v, aY.v, .int .i64 0] ⟨zzq, zzr ty32 zze, zzq, trivial⟩ fun u93 bx => ?_)))
 have hfin := Nt.rf_fin ho hR hn1 aS
 exact ⟨bb, aY, rfl, PolN.fitR (by have h9 := (bC.ext bx); rw [hfin.1] at h9; exact h9) (fun i => by rw [Nt.lvl_pL hR]; exact Nt.lvl_rs ho hR (Nat.le_refl n) i), RatN.fit (by have h9 := (be.ext (bw.t (cm.t bx))); rw [hfin.2] at h9; exact h9) (Nt.eL_B ho hR)⟩
namespace Nt
def Better (V : List Rat) (N n : Nat) (l m : List Nat) : Prop := Rf N m n ∧ exN V N n m < exN V N n l
section
variable {V : List Rat} {N n a pl k i : Nat} {l m : List Nat} {E G : Rat}
theorem sgQ_pm (h : E ≠ 0) : sgQ E = 1 ∧ 0 < E ∨ sgQ E = -1 ∧ E < 0 := by
 by_cases c : E < 0
 ·exact .inr ⟨sgQ_m c, c⟩
 have : 0 < E := by grind
 exact .inl ⟨sgQ_1 this, this⟩
theorem sgQ_sg (h : E ≠ 0) (i : Nat) : sgQ (sg1 i * E) = if i % 2 = 0 then sgQ E else -sgQ E := by
 unfold sg1
 rcases sgQ_pm h with ⟨h1, h2⟩ | ⟨h1, h2⟩
 ·split
  ·rw [Rat.one_mul]
  rw [h1, sgQ_m (by grind)]
 split
 ·rw [Rat.one_mul]
 rw [h1, sgQ_1 (by grind)]; rfl
theorem like_at (hG : G ≠ 0) (hE : E ≠ 0) : sgQ G = sgQ (sg1 i * E) ↔ (sgQ G == fst1 E) = decide (i % 2 = 0) := by
 have hf : fst1 E = sgQ E := by
  unfold fst1
  rcases sgQ_pm hE with ⟨h1, _⟩ | ⟨h1, _⟩ <;> rw [h1] <;> rfl
 rw [sgQ_sg hE, hf]
 rcases sgQ_pm hG with ⟨h1, _⟩ | ⟨h1, _⟩ <;> rcases sgQ_pm hE with ⟨h2, _⟩ | ⟨h2, _⟩ <;> rw [h1, h2] <;> by_cases c : i % 2 = 0 <;> simp [c]
theorem put_all (g : GrOK V N) (hR : Rf N l n) (h1 : 1 ≤ n) (ha : a < N) (hc : absQ (eL V l) < absQ (gE (gX V) (gW V) (gY V) (pL V l) a)) (hp1 : pl ≤ n + 1) (hp2 : ∀ i, i < pl → l.getD i 0 < a) (hp3 : pl < n + 1 → a ≤ l.getD pl 0) : Better V N n l (exL l a (sgQ (gE (gX V) (gW V) (gY V) (pL V l) a) == fst1 (eL V l)) pl) :=
 design_step g hR h1 ha hc hp1 (fun i hi => by rw [inl_at]; have := hp2 i hi; omega) (fun h => by rw [inl_at]; have := hp3 h; omega) rfl
structure PutH (V : List Rat) (N n : Nat) (l : List Nat) (a pl : Nat) : Prop where
 g : GrOK V N
 hR : Rf N l n
 h1 : 1 ≤ n
 ha : a < N
 hc : absQ (eL V l) < absQ (gE (gX V) (gW V) (gY V) (pL V l) a)
 he : eL V l ≠ 0
 p1 : pl ≤ n + 1
 p2 : ∀ i, i < pl → l.getD i 0 < a
 p3 : pl < n + 1 → a ≤ l.getD pl 0
theorem PutH.gne (h : PutH V N n l a pl) : gE (gX V) (gW V) (gY V) (pL V l) a ≠ 0 := fun e => by
 have hc := h.hc
 rw [e] at hc
 have : absQ 0 = 0 := by decide +kernel
 rw [this, ab_eq] at hc
 have := ab_nn (eL V l)
 grind
theorem PutH.like (h : PutH V N n l a pl) {i : Nat} (hi : i ≤ n) : sgQ (gE (gX V) (gW V) (gY V) (pL V l) a) = sgQ (gE (gX V) (gW V) (gY V) (pL V l) (l.getD i 0)) ↔ (sgQ (gE (gX V) (gW V) (gY V) (pL V l) a) == fst1 (eL V l)) = decide (i % 2 = 0) := by
 rw [lvl_at h.g h.hR h.h1 hi]; exact like_at h.gne h.he
theorem PutH.ex (h : PutH V N n l a pl) (e : exL l a (sgQ (gE (gX V) (gW V) (gY V) (pL V l) a) == fst1 (eL V l)) pl = m) : Better V N n l m := by
 rw [← e]; exact put_all h.g h.hR h.h1 h.ha h.hc h.p1 h.p2 h.p3
theorem set_0 (h : l.length = n + 1) : l.set 0 a = a :: l.drop 1 := by
 match l, h with
 | b :: l, _ => rfl
theorem put_1 (h : PutH V N n l a 0) (hs : sgQ (gE (gX V) (gW V) (gY V) (pL V l) a) = sgQ (gE (gX V) (gW V) (gY V) (pL V l) (l.getD 0 0))) : Better V N n l (l.set 0 a) := h.ex (by
 rw [(h.like (Nat.zero_le _)).1 hs, set_0 h.hR.len]; rfl)
theorem put_2 (h : PutH V N n l a 0) (hs : ¬ sgQ (gE (gX V) (gW V) (gY V) (pL V l) a) = sgQ (gE (gX V) (gW V) (gY V) (pL V l) (l.getD 0 0))) : Better V N n l (a :: l.take n) := h.ex (by
 have := mt (h.like (Nat.zero_le _)).2 hs
 rw [show (sgQ (gE (gX V) (gW V) (gY V) (pL V l) a) == fst1 (eL V l)) = false by simpa using this]
 unfold exL
 rw [if_pos rfl, if_neg yv, h.hR.len, Nat.add_sub_cancel])
theorem par_flip {b : Bool} (h : b = decide (n % 2 = 0)) : decide ((n + 1) % 2 = 1) = b := by
 rw [h]; exact decide_eq_decide.2 xq
theorem put_3 (h : PutH V N n l a (n + 1)) (hs : sgQ (gE (gX V) (gW V) (gY V) (pL V l) a) = sgQ (gE (gX V) (gW V) (gY V) (pL V l) (l.getD n 0))) : Better V N n l (l.set n a) := h.ex (by
 unfold exL
 rw [if_neg xq, if_pos (par_flip ((h.like (Nat.le_refl n)).1 hs)), Nat.add_sub_cancel])
theorem put_4 (h : PutH V N n l a (n + 1)) (hs : ¬ sgQ (gE (gX V) (gW V) (gY V) (pL V l) a) = sgQ (gE (gX V) (gW V) (gY V) (pL V l) (l.getD n 0))) : Better V N n l (l.drop 1 ++ [a]) := h.ex (by
 have := mt (h.like (Nat.le_refl n)).2 hs
 unfold exL
 rw [if_neg xq, if_neg (fun e => this (by rw [← e]; exact decide_eq_decide.2 xq)), if_neg (by rw [h.hR.len]; omega)])
theorem put_5 (h : PutH V N n l a pl) (h0 : 0 < pl) (hn : pl ≤ n) (hs : sgQ (gE (gX V) (gW V) (gY V) (pL V l) a) = sgQ (gE (gX V) (gW V) (gY V) (pL V l) (l.getD pl 0))) : Better V N n l (l.set pl a) := h.ex (by
 have := (h.like hn).1 hs
 unfold exL
 rw [if_neg xq, if_neg (fun e => by rw [this] at e; have := decide_eq_decide.1 e; omega), if_pos (by rw [h.hR.len]; omega)])
theorem put_6 (h : PutH V N n l a pl) (h0 : 0 < pl) (hn : pl ≤ n) (hs : ¬ sgQ (gE (gX V) (gW V) (gY V) (pL V l) a) = sgQ (gE (gX V) (gW V) (gY V) (pL V l) (l.getD pl 0))) : Better V N n l (l.set (pl - 1) a) := h.ex (by
 have := mt (h.like hn).2 hs
 unfold exL
 rw [if_neg xq, if_pos]
 cases hb : (sgQ (gE (gX V) (gW V) (gY V) (pL V l) a) == fst1 (eL V l)) <;> rw [hb] at this <;> simp at this ⊢ <;> omega)
theorem swap_ok (g : GrOK V N) (hR : Rf N l n) (h1 : 1 ≤ n) (ha : a < N) (hc : absQ (eL V l) < absQ (gE (gX V) (gW V) (gY V) (pL V l) a)) (he : eL V l = 0) (hk : k ≤ n) (hp2 : ∀ i, i < k → l.getD i 0 < a) (hp3 : k < n → a ≤ l.getD k 0) : Better V N n l (l.set k a) := by
 have hhi : ∀ i, k < i → i ≤ n → a < l.getD i 0 := fun i hi hn => by
  have := hp3 xq
  have := hR.asc k i hi hn
  omega
 have hR' := set_Rf hR ha hk hp2 hhi
 refine ⟨hR', exF_lt hR hR' ?_⟩
 have h9 := set_grow hR g.gr ha hk hp2 hhi (lvl_len (V := V) hR) (fun i hi => by rw [lvl_at g hR h1 hi, he, Rat.mul_zero]) (by
  rw [he] at hc
  have h0 : absQ 0 = 0 := by decide +kernel
  rw [h0, ab_eq] at hc; exact hc)
 unfold exF
 have h8 : rE (gX V) (gW V) (gY V) l = 0 := he
 rw [h8, show ab 0 = 0 from by decide +kernel]; exact h9
end
end Nt
section
variable {u : World} {b o m c k : Nat} {L : List Int} {ty : TypeId} {lo : Nat} {y : Sl}
theorem slr_cells (h : SlR .i64 u (some ⟨b, o, none⟩) m c L) : ∀ j, j < L.length → u.cell? ⟨b, o + j, none⟩ = some (.int .i64 (L.getD j 0)) := fun j hj => by
 obtain ⟨b', o', e, hc⟩ := h.2.2.2 (by have := h.1; omega)
 injection e with e; injection e with e1 e2; subst e1; subst e2
 rw [hc.2 j (by have := h.1; omega), qyg]
theorem ics_news (h : ∀ j, j < L.length → u.cell? ⟨b, o + j, none⟩ = some (.int .i64 (L.getD j 0))) : ∀ (j : Nat) (v : Value), (ics L)[j]? = some v → u.cell? ⟨b, o + j, none⟩ = some v := fun j v hv => by
 have h9 := (List.getElem?_eq_some_iff.1 hv).1
 rw [zwi] at h9
 rw [h j h9, ← hv, ics_at h9, qyg]
theorem cells_take (h : ∀ j, j < L.length → u.cell? ⟨b, o + j, none⟩ = some (.int .i64 (L.getD j 0))) : ∀ j, j < (L.take k).length → u.cell? ⟨b, o + j, none⟩ = some (.int .i64 ((L.take k).getD j 0)) := fun j hj => by
 rw [List.length_take] at hj
 rw [h j xq, qyg, qyg, List.getElem?_take_of_lt xq]
theorem cells_drop (h : ∀ j, j < L.length → u.cell? ⟨b, o + j, none⟩ = some (.int .i64 (L.getD j 0))) : ∀ j, j < (L.drop 1).length → u.cell? ⟨b, o + 1 * 1 + j, none⟩ = some (.int .i64 ((L.drop 1).getD j 0)) := fun j hj => by
 rw [List.length_drop] at hj
 rw [show o + 1 * 1 + j = o + (1 + j) by omega, h (1 + j) xq, qyg, qyg, List.getElem?_drop]
theorem ints_some (m9 : MutQ 1 ty lo u y (ics L)) (h : 0 < L.length) : ∃ b c, y = ⟨some ⟨b, 0, none⟩, L.length, c⟩ ∧ L.length ≤ c := by
 obtain ⟨b, h1, _⟩ := m9.elI (j := 0) h
 have hn := m9.1
 rw [zwi, Nat.mul_one] at hn
 have h2 := m9.2.1
 obtain ⟨ya, yn, yc⟩ := y
 have hn : L.length = yn := hn
 have h1 : ya = some ⟨b, 0, none⟩ := h1
 subst hn; subst h1
 exact ⟨b, yc, rfl, h2⟩
end
end Go.Proofs.YtgmkhhfbckjaeaaGreat
