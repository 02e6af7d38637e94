/- Parts of the proof: contracts of functions, each walked once, and plain laws. -/
import Derived.Test.YtdmpfhhhlhoeiaaCstB
import Derived.Laws.StructEq
import Derived.ChangeKeysEq
import Derived.Test.YtdmpfhhhlhoeiaaProg
import Derived.KernelRfl
namespace Go.Proofs.Ytdmpfhhhlhoeiaa
open Go.RowKit
set_option linter.unusedVariables false
def Rows (k : Nat) (L : List (List Int)) : Prop := ∀ p ∈ L, p.length = k
def kcs (L : List (List Int)) : List Value := L.flatMap ics
def gi (L : List (List Int)) (i j : Nat) : Int := (L.getD i []).getD j 0
section
variable {u u' : World} {L M : List (List Int)} {p : List Int} {k n i j c b off : Nat} {x : Sl} {X : List Value} {a1 a2 a3 a4 a5 : Int}
theorem kcs_cons : kcs (p :: L) = ics p ++ kcs L := rfl
theorem kcs_app : kcs (L ++ M) = kcs L ++ kcs M := by simp [kcs]
theorem Rows.tail (h : Rows k (p :: L)) : Rows k L := fun q hq => h q (List.mem_cons_of_mem _ hq)
theorem Rows.head (h : Rows k (p :: L)) : p.length = k := h p (List.mem_cons_self ..)
theorem kcs_len (h : Rows k L) : (kcs L).length = L.length * k := by
 induction L with
 | nil => simp [kcs]
 | cons p L ih => rw [kcs_cons, List.length_append, ih h.tail, zwj, h.head, List.length_cons, Nat.succ_mul, Nat.add_comm]
theorem Rows.get (h : Rows k L) (hi : i < L.length) : (L.getD i []).length = k := by
 rw [List.getD_eq_getElem?_getD, List.getElem?_eq_getElem hi]
 exact h _ (List.getElem_mem hi)
theorem Rows.set (h : Rows k L) (hp : p.length = k) : Rows k (L.set i p) := fun q hq => by
 rcases List.mem_or_eq_of_mem_set hq with hq | rfl
 ·exact h q hq
 ·exact hp
theorem Rows.drop (h : Rows k L) : Rows k (L.drop n) := fun q hq => h q (List.mem_of_mem_drop hq)
theorem Rows.erase (h : Rows k L) : Rows k (L.eraseIdx n) := fun q hq => h q (List.mem_of_mem_eraseIdx hq)
theorem rows_rep (n : Nat) (hp : p.length = k) : Rows k (List.replicate n p) := fun q hq => by rw [(List.mem_replicate.1 hq).2]; exact hp
theorem kcs_drop (h : Rows k L) : (kcs L).drop (n * k) = kcs (L.drop n) := by
 induction n generalizing L with
 | zero => simp
 | succ n ih =>
  cases L with
  | nil => simp [kcs]
  | cons p L => rw [kcs_cons, show (n + 1) * k = (ics p).length + n * k by rw [zwj, h.head, Nat.succ_mul, Nat.add_comm], List.drop_append, Nat.add_sub_cancel_left, ih h.tail, List.drop_of_length_le xq]; simp
theorem kcs_take (h : Rows k L) : (kcs L).take (n * k) = kcs (L.take n) := by
 induction n generalizing L with
 | zero => simp [kcs]
 | succ n ih =>
  cases L with
  | nil => simp [kcs]
  | cons p L => rw [kcs_cons, show (n + 1) * k = (ics p).length + n * k by rw [zwj, h.head, Nat.succ_mul, Nat.add_comm], List.take_append, Nat.add_sub_cancel_left, ih h.tail, List.take_of_length_le xq]; rfl
theorem kcs_get (h : Rows k L) (hi : i < L.length) : ((kcs L).drop (i * k)).take k = ics (L.getD i []) := by
 have hg := h.get hi
 rw [kcs_drop h, List.drop_eq_getElem_cons hi, kcs_cons]
 have e : L[i] = L.getD i [] := by rw [List.getD_eq_getElem?_getD, List.getElem?_eq_getElem hi]; rfl
 rw [e, List.take_append_of_le_length (by rw [zwj]; omega), List.take_of_length_le (by rw [zwj]; omega)]
theorem ics_one : ∀ v ∈ ics p, v.oneCell' = true := fun v hv => by
 unfold ics at hv
 obtain ⟨z, _, rfl⟩ := List.mem_map.1 hv; rfl
theorem kcs_one : ∀ v ∈ kcs L, v.oneCell' = true := fun v hv => by
 obtain ⟨p, _, hp⟩ := List.mem_flatMap.1 hv
 exact ics_one v hp
theorem part_k (h : Rows k L) (hi : i < L.length) {off : Nat} (ho : off = i * k) : PartIs (kcs L ++ X) off true k (.v (.agg (ics (L.getD i [])).toArray)) := by
 subst ho
 have hl := kcs_len h
 have : (i + 1) * k ≤ L.length * k := Nat.mul_le_mul_right _ hi
 rw [Nat.succ_mul] at this
 refine ⟨by rw [List.length_append, hl]; omega, ?_⟩
 rw [← kcs_get h hi, List.drop_append_of_le_length xq, List.take_append_of_le_length (by rw [List.length_drop]; omega)]
theorem row_eq2 (h : p.length = 2) : p = [p.getD 0 0, p.getD 1 0] := by
 match p, h with
 | [a, b], _ => rfl
theorem row_eq3 (h : p.length = 3) : p = [p.getD 0 0, p.getD 1 0, p.getD 2 0] := by
 match p, h with
 | [a, b, c], _ => rfl
theorem row_eq5 (h : p.length = 5) : p = [p.getD 0 0, p.getD 1 0, p.getD 2 0, p.getD 3 0, p.getD 4 0] := by
 match p, h with
 | [a, b, c, d, e], _ => rfl
theorem ics2 (h : Rows 2 L) (hi : i < L.length) : ics (L.getD i []) = [.int .i64 (gi L i 0), .int .i64 (gi L i 1)] := by rw [row_eq2 (h.get hi)]; rfl
theorem ics3 (h : Rows 3 L) (hi : i < L.length) : ics (L.getD i []) = [.int .i64 (gi L i 0), .int .i64 (gi L i 1), .int .i64 (gi L i 2)] := by rw [row_eq3 (h.get hi)]; rfl
theorem ics5 (h : Rows 5 L) (hi : i < L.length) : ics (L.getD i []) = [.int .i64 (gi L i 0), .int .i64 (gi L i 1), .int .i64 (gi L i 2), .int .i64 (gi L i 3), .int .i64 (gi L i 4)] := by rw [row_eq5 (h.get hi)]; rfl
theorem part_k2 (h : Rows 2 L) (hi : i < L.length) {off : Nat} (ho : off = i * 2) : PartIs (kcs L ++ X) off true 2 (.v (.agg #[.int .i64 (gi L i 0), .int .i64 (gi L i 1)])) := by
 have := part_k (X := X) h hi ho
 rw [ics2 h hi] at this; exact this
theorem part_k3 (h : Rows 3 L) (hi : i < L.length) {off : Nat} (ho : off = i * 3) : PartIs (kcs L ++ X) off true 3 (.v (.agg #[.int .i64 (gi L i 0), .int .i64 (gi L i 1), .int .i64 (gi L i 2)])) := by
 have := part_k (X := X) h hi ho
 rw [ics3 h hi] at this; exact this
theorem setL_k (h : Rows k L) (hp : p.length = k) (hi : i < L.length) {off : Nat} (ho : off = i * k) : setL (kcs L ++ X) off (ics p) = kcs (L.set i p) ++ X := by
 subst ho
 have hl := kcs_len h
 have : (i + 1) * k ≤ L.length * k := Nat.mul_le_mul_right _ hi
 have e : i * k + (ics p).length = (i + 1) * k := by rw [zwj, hp, Nat.succ_mul]
 rw [Nat.succ_mul] at this
 unfold setL
 rw [e, List.take_append_of_le_length xq, List.drop_append_of_le_length (by rw [Nat.succ_mul]; omega), kcs_take h, kcs_drop h, List.set_eq_take_append_cons_drop, if_pos hi, kcs_app, kcs_cons]
 simp
theorem setL_k2 (h : Rows 2 L) (hi : i < L.length) {off : Nat} (ho : off = i * 2) : setL (kcs L ++ X) off (Value.agg #[.int .i64 a1, .int .i64 a2]).cells.toList = kcs (L.set i [a1, a2]) ++ X := setL_k (p := [a1, a2]) h rfl hi ho
theorem setL_k5 (h : Rows 5 L) (hi : i < L.length) {off : Nat} (ho : off = i * 5) : setL (kcs L ++ X) off (Value.agg #[.int .i64 a1, .int .i64 a2, .int .i64 a3, .int .i64 a4, .int .i64 a5]).cells.toList = kcs (L.set i [a1, a2, a3, a4, a5]) ++ X := setL_k (p := [a1, a2, a3, a4, a5]) h rfl hi ho
def IrV (k : Nat) (u : World) (x : Sl) (L : List (List Int)) : Prop :=
 Rows k L ∧ x.n = L.length ∧ x.n ≤ x.c ∧ x.c ≤ maxLen ∧ (0 < x.n → ∃ b o, x.a = some ⟨b, o, none⟩ ∧ b < u.heap.size ∧ ∀ j, j < L.length * k → u.cell? ⟨b, o + j, none⟩ = (kcs L)[j]?)
theorem IrV.ext (h : IrV k u x L) (e : Ext u u') : IrV k u' x L := by
 obtain ⟨h0, h1, h2, h3, h4⟩ := h
 refine ⟨h0, h1, h2, h3, fun hp => ?_⟩
 obtain ⟨b, o, g1, g2, g3⟩ := h4 hp
 refine ⟨b, o, g1, Nat.lt_of_lt_of_le g2 e.size, fun j hj => ?_⟩
 have hk := g3 j hj
 have hj' : j < (kcs L).length := by rw [kcs_len h0]; exact hj
 rw [List.getElem?_eq_getElem hj'] at hk ⊢
 exact e.cell hk
theorem IrV.rows (h : IrV k u x L) : Rows k L := h.1
theorem IrV.len (h : IrV k u x L) : x.n = L.length := h.2.1
theorem ir_at (h : IrV k u x L) (hi : i < L.length) : ∃ b o, x.a = some ⟨b, o, none⟩ ∧ b < u.heap.size ∧ ∀ j, j < (ics (L.getD i [])).length → u.cell? ⟨b, o + i * k + j, none⟩ = (ics (L.getD i []))[j]? := by
 obtain ⟨h0, h1, h2, h3, h4⟩ := h
 obtain ⟨b, o, g1, g2, g3⟩ := h4 xq
 refine ⟨b, o, g1, g2, fun j hj => ?_⟩
 rw [zwj, h0.get hi] at hj
 have : (i + 1) * k ≤ L.length * k := Nat.mul_le_mul_right _ hi
 rw [Nat.succ_mul] at this
 rw [Nat.add_assoc, g3 (i * k + j) xq, ← kcs_get h0 hi, List.getElem?_take_of_lt hj, List.getElem?_drop]
theorem ir_at5 (h : IrV 5 u x L) (hi : i < L.length) : ∃ b o, x.a = some ⟨b, o, none⟩ ∧ ∀ j, j < [Value.int .i64 (gi L i 0), .int .i64 (gi L i 1), .int .i64 (gi L i 2), .int .i64 (gi L i 3), .int .i64 (gi L i 4)].length → u.cell? ⟨b, o + i * 5 + j, none⟩ = [Value.int .i64 (gi L i 0), .int .i64 (gi L i 1), .int .i64 (gi L i 2), .int .i64 (gi L i 3), .int .i64 (gi L i 4)][j]? := by
 obtain ⟨b, o, h1, h2, h3⟩ := ir_at h hi
 rw [ics5 h.rows hi] at h3
 exact ⟨b, o, h1, h3⟩
theorem ir_row (h : IrV k u x L) (hi : i < L.length) (hk : k ≤ maxLen) : ∃ b o, x.a = some ⟨b, o, none⟩ ∧ SlR .i64 u (some ⟨b, o + i * k, none⟩) k k (L.getD i []) := by
 obtain ⟨b, o, h1, h2, h3⟩ := ir_at h hi
 have hg := h.rows.get hi
 refine ⟨b, o, h1, hg, Nat.le_refl _, hk, fun hp => ⟨b, o + i * k, rfl, h2, fun j hj => ?_⟩⟩
 rw [h3 j (by rw [zwj]; omega), ics_at xq]
 rw [List.getD_eq_getElem?_getD]
theorem ir_data {cs : List Value} {t : TypeId} (h : u.heap[b]? = some (.cells cs.toArray t (0, 0))) (hR : Rows k L) (hc : cs.take (n * k) = kcs L) (hn : n = L.length) (hl : cs.length = c * k) (hnc : n ≤ c) (hm : c ≤ maxLen) : IrV k u ⟨some ⟨b, 0, none⟩, n, c⟩ L := by
 refine ⟨hR, hn, hnc, hm, fun _ => ⟨b, 0, rfl, zxa h, fun j hj => ?_⟩⟩
 rw [Nat.zero_add, cells_at h, ← hc, List.getElem?_take_of_lt (by rw [hn]; exact hj)]; simp
theorem made_k {z : List Int} (hz : z.length = k) (hk : 0 < k) (n : Nat) : (madeCells (ics z).toArray (n * k)).toList = kcs (List.replicate n z) := by
 apply List.ext_getElem?
 intro j
 have hl := kcs_len (rows_rep (k := k) n hz)
 rw [List.length_replicate] at hl
 by_cases hj : j < n * k
 ·have hq : j / k < n := Nat.div_lt_of_lt_mul (by rw [Nat.mul_comm]; exact hj)
  have hr := Nat.mod_lt j hk
  have hg := kcs_get (rows_rep (k := k) n hz) (i := j / k) (by simpa using hq)
  have e1 : (kcs (List.replicate n z))[j]? = (((kcs (List.replicate n z)).drop (j / k * k)).take k)[j % k]? := by
   rw [List.getElem?_take_of_lt hr, List.getElem?_drop]
   congr 1
   have := Nat.div_add_mod j k
   rw [Nat.mul_comm] at this; omega
  rw [e1, hg, List.getD_eq_getElem?_getD, List.getElem?_replicate, if_pos hq]
  unfold madeCells
  have hzl : (ics z).length = k := by rw [zwj, hz]
  simp [hj, hzl]
  rw [List.getElem?_eq_getElem (by rw [hzl]; exact hr)]
  simp
 ·rw [List.getElem?_eq_none (by unfold madeCells; simp; omega), List.getElem?_eq_none xq]
end
section
variable {P : Program} {ops : Array Oper} {w0 : Base} {u0 : World} {S : St} {u : World} {o : Oper} {p : List Tmp} {seq : Bool} {rest : List (Oper × List Tmp)} {K : St → World → Prop}
theorem sy_subO3 (d : Tmp) {T : TypeId} {r t : Tmp} {g h q : Operand} {off n c : Nat} {k1 k2 k3 : IntKind} {i1 i2 i3 : Int} (lo hi mx : Nat) {sz : Nat} (hT : SlIs P T sz) (e1 : i1 = lo) (e2 : i2 = hi) (e3 : i3 = mx) (h1 : lo ≤ hi) (h2 : hi ≤ mx) (h3 : mx ≤ c)
  (kk : ∀ off', off' = (if mx = lo then off else off + lo * sz) → sym P ops w0 u0 seq rest (S.set d (.slc t off' (hi - lo) (mx - lo))) u K) (hw : Wants ops o S := by exact zwg xv) (hd : o.dst = some d := by kernel_rfl) (hop : o.op = .slice T (.tmp r) (some g) (some h) (some q) := by rfl) (hf : freeB S d = true := by kernel_rfl)
  (hx : S.reg r = some (.slc t off n c) := by rfl) (hg : evO S g = some (.v (.int k1 i1)) := by rfl) (hh : evO S h = some (.v (.int k2 i2)) := by rfl) (hq : evO S q = some (.v (.int k3 i3)) := by rfl) : sym P ops w0 u0 seq ((o, p) :: rest) S u K := by
 subst e1 e2 e3
 have kk := kk _ rfl
 obtain ⟨E, agg, hu, hE⟩ := hT
 have hl : r ∈ o.looksAt ops := List.mem_append_left _ (List.mem_filterMap.2 ⟨.tmp r, by rw [hop]; simp [Op.operands], rfl⟩)
 refine .inl ⟨by rw [hop]; exact (by decide : (0 : Nat) ≠ 2), .set (.slc t (if mx = lo then off else off + lo * sz) (hi - lo) (mx - lo)), ⟨zxy hd hf, .inl ⟨(fun s hs => ⟨r, hl, _, hx, hs⟩), fun B a w u' hr he hdt => ⟨hw B a hr, ?_⟩⟩⟩, ?_⟩
 ·have e1 : (execOp a.eval o).run P w = (do pure (Next.value (← Instr.sliceAt T (a.eval (.tmp r)) (some (a.eval g)) (some (a.eval h)) (some (a.eval q)))) : Sem Next).run P w := by unfold execOp; rw [hop]; rfl
  rw [e1, hr.eval hx, ev_eval hr hg, ev_eval hr hh, ev_eval hr hq]
  refine run_val ?_
  show (Instr.sliceAt T (.slice (some ⟨B t, off, none⟩) n c) (some (.int k1 lo)) (some (.int k2 hi)) (some (.int k3 mx))).run P w = .ok (.slice (some ⟨B t, if mx = lo then off else off + lo * sz, none⟩) (hi - lo) (mx - lo)) w
  have hs := (hE w).2
  by_cases e : mx = lo
  ·simp [Instr.sliceAt, Instr.slice, Instr.sliceBounds, Instr.sliceBound, asIntOf, run_underlying hu, go_sem, hs, e]
   have : hi = lo := by omega
   subst this
   simp; omega
  ·simp [Instr.sliceAt, Instr.slice, Instr.sliceBounds, Instr.sliceBound, asIntOf, run_underlying hu, go_sem, hs, e, h1, h2, h3, Addr.add]
 ·show sym P ops w0 u0 seq rest (S.put o.dst (some _)) u K
  rw [hd]; exact kk
theorem sy_tailO (d : Tmp) {T : TypeId} {r t : Tmp} {g : Operand} {off n c : Nat} {k1 : IntKind} {i1 : Int} (lo : Nat) {sz : Nat} (hT : SlIs P T sz) (e1 : i1 = lo) (h1 : lo ≤ n) (h2 : n ≤ c)
  (kk : ∀ off', off' = (if c = lo then off else off + lo * sz) → sym P ops w0 u0 seq rest (S.set d (.slc t off' (n - lo) (c - lo))) u K) (hw : Wants ops o S := by exact zwg xv) (hd : o.dst = some d := by kernel_rfl) (hop : o.op = .slice T (.tmp r) (some g) none none := by rfl) (hf : freeB S d = true := by kernel_rfl)
  (hx : S.reg r = some (.slc t off n c) := by rfl) (hg : evO S g = some (.v (.int k1 i1)) := by rfl) : sym P ops w0 u0 seq ((o, p) :: rest) S u K := by
 subst e1
 have kk := kk _ rfl
 obtain ⟨E, agg, hu, hE⟩ := hT
 have hl : r ∈ o.looksAt ops := List.mem_append_left _ (List.mem_filterMap.2 ⟨.tmp r, by rw [hop]; simp [Op.operands], rfl⟩)
 refine .inl ⟨by rw [hop]; exact (by decide : (0 : Nat) ≠ 2), .set (.slc t (if c = lo then off else off + lo * sz) (n - lo) (c - lo)), ⟨zxy hd hf, .inl ⟨(fun s hs => ⟨r, hl, _, hx, hs⟩), fun B a w u' hr he hdt => ⟨hw B a hr, ?_⟩⟩⟩, ?_⟩
 ·have e1 : (execOp a.eval o).run P w = (do pure (Next.value (← Instr.sliceAt T (a.eval (.tmp r)) (some (a.eval g)) none none)) : Sem Next).run P w := by unfold execOp; rw [hop]; rfl
  rw [e1, hr.eval hx, ev_eval hr hg]
  refine run_val ?_
  show (Instr.sliceAt T (.slice (some ⟨B t, off, none⟩) n c) (some (.int k1 lo)) none none).run P w = .ok (.slice (some ⟨B t, if c = lo then off else off + lo * sz, none⟩) (n - lo) (c - lo)) w
  have hs := (hE w).2
  by_cases e : c = lo
  ·simp [Instr.sliceAt, Instr.slice, Instr.sliceBounds, Instr.sliceBound, asIntOf, run_underlying hu, go_sem, hs, e, h1]
  ·simp [Instr.sliceAt, Instr.slice, Instr.sliceBounds, Instr.sliceBound, asIntOf, run_underlying hu, go_sem, hs, e, h1, h2, Addr.add]
 ·show sym P ops w0 u0 seq rest (S.put o.dst (some _)) u K
  rw [hd]; exact kk
theorem sy_subO2 (d : Tmp) {T : TypeId} {r t : Tmp} {g h : Operand} {off n c : Nat} {k1 k2 : IntKind} {i1 i2 : Int} (lo hi : Nat) {sz : Nat} (hT : SlIs P T sz) (e1 : i1 = lo) (e2 : i2 = hi) (h1 : lo ≤ hi) (h2 : hi ≤ c)
  (kk : ∀ off', off' = (if c = lo then off else off + lo * sz) → sym P ops w0 u0 seq rest (S.set d (.slc t off' (hi - lo) (c - lo))) u K) (hw : Wants ops o S := by exact zwg xv) (hd : o.dst = some d := by kernel_rfl) (hop : o.op = .slice T (.tmp r) (some g) (some h) none := by rfl) (hf : freeB S d = true := by kernel_rfl)
  (hx : S.reg r = some (.slc t off n c) := by rfl) (hg : evO S g = some (.v (.int k1 i1)) := by rfl) (hh : evO S h = some (.v (.int k2 i2)) := by rfl) : sym P ops w0 u0 seq ((o, p) :: rest) S u K := by
 subst e1 e2
 have kk := kk _ rfl
 obtain ⟨E, agg, hu, hE⟩ := hT
 have hl : r ∈ o.looksAt ops := List.mem_append_left _ (List.mem_filterMap.2 ⟨.tmp r, by rw [hop]; simp [Op.operands], rfl⟩)
 refine .inl ⟨by rw [hop]; exact (by decide : (0 : Nat) ≠ 2), .set (.slc t (if c = lo then off else off + lo * sz) (hi - lo) (c - lo)), ⟨zxy hd hf, .inl ⟨(fun s hs => ⟨r, hl, _, hx, hs⟩), fun B a w u' hr he hdt => ⟨hw B a hr, ?_⟩⟩⟩, ?_⟩
 ·have e1 : (execOp a.eval o).run P w = (do pure (Next.value (← Instr.sliceAt T (a.eval (.tmp r)) (some (a.eval g)) (some (a.eval h)) none)) : Sem Next).run P w := by unfold execOp; rw [hop]; rfl
  rw [e1, hr.eval hx, ev_eval hr hg, ev_eval hr hh]
  refine run_val ?_
  show (Instr.sliceAt T (.slice (some ⟨B t, off, none⟩) n c) (some (.int k1 lo)) (some (.int k2 hi)) none).run P w = .ok (.slice (some ⟨B t, if c = lo then off else off + lo * sz, none⟩) (hi - lo) (c - lo)) w
  have hs := (hE w).2
  by_cases e : c = lo
  ·subst e
   have : hi = c := by omega
   subst this
   simp [Instr.sliceAt, Instr.slice, Instr.sliceBounds, Instr.sliceBound, asIntOf, run_underlying hu, go_sem, hs]
  ·simp [Instr.sliceAt, Instr.slice, Instr.sliceBounds, Instr.sliceBound, asIntOf, run_underlying hu, go_sem, hs, e, h1, h2, Addr.add]
 ·show sym P ops w0 u0 seq rest (S.put o.dst (some _)) u K
  rw [hd]; exact kk
theorem sy_appT (d : Tmp) {T E : TypeId} {s x : Operand} {z : Value} {size bytes : Nat} {off m c t n cap : Nat} {cs0 : List Value} (hT : P.underlying T = some (.slice E)) (hi : (P.info? E).map (fun i => (i.zero, i.size, i.bytes)) = some (some z, size, bytes))
  (hcl : cs0.length = cap * size) (hoff : off + m * size ≤ cs0.length) (hnm : n + m ≤ cap) {ns : List Value} (hns : (cs0.drop off).take (m * size) = ns) (h1 : ∀ v ∈ ns, v.oneCell' = true)
  (k : sym P ops w0 u0 seq rest ((S.setVar t ⟨E, setL cs0 (n * size) ns⟩).set d (.slc t 0 (n + m) cap)) u K)
  (hw : Wants ops o S := by exact zwg xv) (hd : o.dst = some d := by kernel_rfl) (hop : o.op = .call { callee := .builtin .append, args := #[s, x], argTypes := #[T, T] } := by rfl) (hf : freeB S d = true := by kernel_rfl)
  (hs : evO S s = some (.slc t 0 n cap) := by rfl) (hv : S.var t = some ⟨E, cs0⟩ := by rfl) (hx : evO S x = some (.slc t off m c) := by rfl) : sym P ops w0 u0 seq ((o, p) :: rest) S u K := by
 subst hns
 obtain ⟨inf, hi1, hz, hsz, hby⟩ := info_parts hi
 refine .inr (.inr (.inl ⟨.inr ⟨by rw [hop]; rfl, by rw [hop]; rfl⟩, fun B a w u' he hrep => ⟨hw B a hrep.regs, ?_⟩⟩))
 obtain ⟨v1, v2, v3⟩ := hrep.var t _ hv
 have hnl : n * size + ((cs0.drop off).take (m * size)).length ≤ cs0.length := by
  rw [List.length_take, List.length_drop, hcl]
  have : (n + m) * size ≤ cap * size := Nat.mul_le_mul_right _ hnm
  rw [Nat.add_mul] at this
  omega
 obtain ⟨w', k1, k2, k3⟩ := run_storeCells (P := P) (b := B t) (ty := E) (base := n * size) ((cs0.drop off).take (m * size)) 0 w cs0 v1 (by simpa using hnl) h1
 rw [Nat.add_zero] at k2
 have hld : (loadCells ⟨B t, off, none⟩ (m * size)).run P w = .ok ((cs0.drop off).take (m * size)).toArray w := by
  have := run_loadCells (P := P) (w := w) (b := B t) (l := (cs0.drop off).take (m * size)) (m * size) off #[] 0 (fun j hj => by
   rw [Nat.add_zero, cells_at v1, List.getElem?_take_of_lt xq, List.getElem?_drop]; simp) (by rw [List.length_take, List.length_drop]; omega)
  unfold loadCells
  rw [this]
  simp [List.take_take]
 have hrun : (Builtin.append_ #[T, T] o.type #[.slice (some ⟨B t, 0, none⟩) n cap, .slice (some ⟨B t, off, none⟩) m c]).run P w = .ok (.slice (some ⟨B t, 0, none⟩) (n + m) cap) w' := by
  have ha : (⟨B t, 0, none⟩ : Addr).add (n * size) = ⟨B t, n * size, none⟩ := by
   simp only [Addr.add, Nat.zero_add]; split
   ·rename_i h; rw [h]
   ·rfl
  simp [Builtin.append_, run_underlying hT, sizeOf, typeInfo, hi1, hsz, hnm, Builtin.lenOf, Builtin.firstCells, hld, ha, k1]
 unfold Oper.wp execOp
 simp only [hop, resolve, invoke, builtin, Sem.run_bind, Sem.run_pure, Result.andThen_ok, List.map_toArray, List.map_cons, List.map_nil, ev_of hrep.regs hs, ev_of hrep.regs hx, SV.conc, hrun]
 have hr1 := hrep.store (V' := ⟨E, setL cs0 (n * size) ((cs0.drop off).take (m * size))⟩) hv k2 k3
 have hr2 := hr1.set (d := o.dst) (x := some (.slc t 0 (n + m) cap)) (v := .slice (some ⟨B t, 0, none⟩) (n + m) cap) (fun s hs => (zxy hd hf s hs).1) (fun z e => by injection e with e; rw [← e]; rfl) (fun z t' e ht => by injection e with e; rw [← e] at ht; injection ht with ht; subst ht; exact ⟨_, zxc _ _ _⟩)
 show ∃ S' B' u'' u2, Rep w0 u0 S' B' (a.put o.dst _) w' u'' ∧ _
 refine ⟨_, B, u', u, hr2, fun _ => Ext.refl _, fun _ => Ext.refl _, he, ?_⟩
 rw [hd]; exact k
theorem sy_clear1 {T E : TypeId} {x : Operand} {z : Value} {size bytes : Nat} {off m c t : Nat} {cs0 zs : List Value} (hT : P.underlying T = some (.slice E)) (hi : (P.info? E).map (fun i => (i.zero, i.size, i.bytes)) = some (some z, size, bytes)) (hm : m = 1) (hzs : (Builtin.zeroCells z.cells 1).toList = zs) (hoff : off + zs.length ≤ cs0.length) (h1 : ∀ v ∈ zs, v.oneCell' = true)
  (k : sym P ops w0 u0 true rest (S.setVar t ⟨E, setL cs0 off zs⟩) u K)
  (hw : Wants ops o S := by exact zwg xv) (hd : o.dst = none := by kernel_rfl) (hop : o.op = .call { callee := .builtin .clear, args := #[x], argTypes := #[T] } := by rfl)
  (hv : S.var t = some ⟨E, cs0⟩ := by rfl) (hx : evO S x = some (.slc t off m c) := by rfl) : sym P ops w0 u0 true ((o, p) :: rest) S u K := by
 subst hm
 obtain ⟨inf, hi1, hz, hsz, hby⟩ := info_parts hi
 refine .inr (.inr (.inl ⟨.inl rfl, fun B a w u' he hrep => ⟨hw B a hrep.regs, ?_⟩⟩))
 obtain ⟨v1, v2, v3⟩ := hrep.var t _ hv
 obtain ⟨w', k1, k2, k3⟩ := run_storeCells (P := P) (b := B t) (ty := E) (base := off) zs 0 w cs0 v1 (by simpa using hoff) h1
 rw [Nat.add_zero] at k2
 have hrun : (Builtin.clear_ #[T] o.type #[.slice (some ⟨B t, off, none⟩) 1 c]).run P w = .ok (.tuple #[]) w' := by
  simp [Builtin.clear_, run_underlying hT, zeroValue, typeInfo, hi1, hz, hzs, k1]
 unfold Oper.wp execOp
 simp only [hop, resolve, invoke, builtin, Sem.run_bind, Sem.run_pure, Result.andThen_ok, List.map_toArray, List.map_cons, List.map_nil, ev_of hrep.regs hx, SV.conc, hrun]
 have hr1 := hrep.store (V' := ⟨E, setL cs0 off zs⟩) hv k2 k3
 show ∃ S' B' u'' u2, Rep w0 u0 S' B' (a.put o.dst _) w' u'' ∧ _
 rw [hd]
 exact ⟨_, B, u', u, hr1, (fun h => by cases h), (fun h => by cases h), he, k⟩
end
def OkR (k : Nat) (L : List (List Int)) : Prop := ∀ p ∈ L, p.length = k ∧ ∀ z ∈ p, -16777216 ≤ z ∧ z ≤ 16777216
section
variable {L M : List (List Int)} {p : List Int} {k n i j c : Nat} {X : List Value} {a b : Int}
theorem OkR.rows (h : OkR k L) : Rows k L := fun p hp => (h p hp).1
theorem OkR.mem (h : OkR k L) (hi : i < L.length) : (L.getD i []).length = k ∧ ∀ z ∈ L.getD i [], -16777216 ≤ z ∧ z ≤ 16777216 := by
 have e : L[i] = L.getD i [] := by rw [List.getD_eq_getElem?_getD, List.getElem?_eq_getElem hi]; rfl
 rw [← e]; exact h _ (List.getElem_mem hi)
theorem OkR.bd (h : OkR k L) (hi : i < L.length) (hj : j < k) : -16777216 ≤ gi L i j ∧ gi L i j ≤ 16777216 := by
 obtain ⟨h1, h2⟩ := h.mem hi
 refine h2 _ ?_
 show (L.getD i []).getD j 0 ∈ _
 have hj' : j < (L.getD i []).length := by omega
 generalize L.getD i [] = q at *
 rw [List.getD_eq_getElem?_getD, List.getElem?_eq_getElem hj']
 exact List.getElem_mem hj'
theorem OkR.set (h : OkR k L) (hp : p.length = k) (hz : ∀ z ∈ p, -16777216 ≤ z ∧ z ≤ 16777216) : OkR k (L.set i p) := fun q hq => by
 rcases List.mem_or_eq_of_mem_set hq with hq | rfl
 ·exact h q hq
 ·exact ⟨hp, hz⟩
theorem OkR.set2 (h : OkR 2 L) (ha : -16777216 ≤ a ∧ a ≤ 16777216) (hb : -16777216 ≤ b ∧ b ≤ 16777216) : OkR 2 (L.set i [a, b]) := h.set rfl (fun z hz => by
 simp at hz
 rcases hz with rfl | rfl
 ·exact ha
 ·exact hb)
theorem OkR.erase (h : OkR k L) : OkR k (L.eraseIdx n) := fun q hq => h q (List.mem_of_mem_eraseIdx hq)
theorem OkR.drop (h : OkR k L) : OkR k (L.drop n) := fun q hq => h q (List.mem_of_mem_drop hq)
theorem setL_mid {A B C V : List Value} (hV : V.length = B.length) {m : Nat} (hm : m = A.length) : setL (A ++ (B ++ C)) m V = A ++ (V ++ C) := by
 subst hm
 unfold setL
 rw [List.take_left' rfl, hV, ← List.append_assoc A B C, List.drop_left' zq]
 simp
theorem del_rows {zs : List Value} (h : Rows k L) (hi : i < L.length) (hz : zs.length = k) {off : Nat} (hoff : i + 1 < L.length → off = (i + 1) * k) :
  ((kcs L ++ X).drop off).take ((L.length - (i + 1)) * k) = kcs (L.drop (i + 1)) ∧ setL (setL (kcs L ++ X) (i * k) (kcs (L.drop (i + 1)))) ((L.length - 1) * k) zs = kcs (L.eraseIdx i) ++ (zs ++ X) := by
 have hl := kcs_len h
 have hdl := kcs_len (h.drop (n := i + 1))
 rw [List.length_drop] at hdl
 have htl : (kcs (L.take i)).length = i * k := by rw [← kcs_take h, List.length_take, hl]; exact Nat.min_eq_left (Nat.mul_le_mul_right _ (Nat.le_of_lt hi))
 constructor
 ·by_cases e : i + 1 < L.length
  ·have h1 : (i + 1) * k ≤ L.length * k := Nat.mul_le_mul_right _ hi
   rw [hoff e, List.drop_append_of_le_length xq, kcs_drop h, List.take_append_of_le_length xq, List.take_of_length_le xq]
  ·have e0 : L.length - (i + 1) = 0 := by omega
   rw [e0, Nat.zero_mul, List.take_zero, List.drop_of_length_le xq]; rfl
 ·have e1 : kcs L = kcs (L.take i) ++ (kcs (L.drop i)) := by rw [← kcs_app, List.take_append_drop]
  have hB : kcs (L.drop i) = (kcs (L.drop i)).take ((L.length - (i + 1)) * k) ++ (kcs (L.drop i)).drop ((L.length - (i + 1)) * k) := (List.take_append_drop _ _).symm
  have hdi := kcs_len (h.drop (n := i))
  rw [List.length_drop] at hdi
  have e3 : (L.length - i) * k = (L.length - (i + 1)) * k + k := by rw [← Nat.succ_mul]; congr 1; omega
  have hT : ((kcs (L.drop i)).drop ((L.length - (i + 1)) * k)).length = k := by rw [List.length_drop, hdi, e3]; omega
  have hB1 : ((kcs (L.drop i)).take ((L.length - (i + 1)) * k)).length = (L.length - (i + 1)) * k := by rw [List.length_take, hdi, e3]; omega
  generalize ((kcs (L.drop i)).drop ((L.length - (i + 1)) * k)) = T at *
  generalize ((kcs (L.drop i)).take ((L.length - (i + 1)) * k)) = B at *
  rw [e1, hB, List.append_assoc, List.append_assoc, setL_mid (by rw [hdl, hB1]) htl.symm, ← List.append_assoc, setL_mid (by rw [hz, hT]) (by rw [List.length_append, htl, hdl, ← Nat.add_mul]; congr 1; omega), ← kcs_app, List.eraseIdx_eq_take_drop_succ]
end
namespace Nt
def az (z : Int) : Int := (z.natAbs : Int)
def cmpZ (a0 a1 b0 b1 : Int) : Int := if az a1 = az b1 then az b0 - az a0 else az b1 - az a1
def swapR (L : List (List Int)) (j : Nat) : List (List Int) := (L.set j [gi L (j - 1) 0, gi L (j - 1) 1]).set (j - 1) [gi L j 0, gi L j 1]
def insR (L : List (List Int)) : Nat → List (List Int)
 | 0 => L
 | j + 1 => if cmpZ (gi L (j + 1) 0) (gi L (j + 1) 1) (gi L j 0) (gi L j 1) < 0 then insR (swapR L (j + 1)) j else L
def outR (L : List (List Int)) (i : Nat) : Nat → List (List Int)
 | 0 => L
 | m + 1 => outR (insR L i) (i + 1) m
def sortR (L : List (List Int)) : List (List Int) := outR L 1 (L.length - 1)
def distZ (b1 b2 a0 a1 : Int) : Int := az (b1 - a0) + az (b2 - a1)
def bestR (Z : List (List Int)) (a0 a1 : Int) : Nat → Nat
 | 0 => 0
 | n + 1 => if distZ (gi Z n 1) (gi Z n 2) a0 a1 < distZ (gi Z (bestR Z a0 a1 n) 1) (gi Z (bestR Z a0 a1 n) 2) a0 a1 then n else bestR Z a0 a1 n
def pairR : List (List Int) → List (List Int) → List (List Int) → List (List Int)
 | [], _, acc => acc
 | a :: D, Z, acc => pairR D (Z.eraseIdx (bestR Z (a.getD 0 0) (a.getD 1 0) Z.length)) ([gi Z (bestR Z (a.getD 0 0) (a.getD 1 0) Z.length) 0, gi Z (bestR Z (a.getD 0 0) (a.getD 1 0) Z.length) 1, gi Z (bestR Z (a.getD 0 0) (a.getD 1 0) Z.length) 2, a.getD 0 0, a.getD 1 0] :: acc)
variable {L Z : List (List Int)} {n i j : Nat} {a0 a1 z : Int}
theorem swapR_len : (swapR L j).length = L.length := by simp [swapR]
theorem swapR_ok (h : OkR 2 L) (hj : j < L.length) (h0 : 0 < j) : OkR 2 (swapR L j) := by
 unfold swapR
 exact (h.set2 (h.bd xq xw) (h.bd xq xw)).set2 (h.bd hj xw) (h.bd hj xw)
theorem insR_len : (insR L j).length = L.length := by
 induction j generalizing L with
 | zero => rfl
 | succ j ih =>
  unfold insR
  split
  ·rw [ih, swapR_len]
  ·rfl
theorem insR_ok (h : OkR 2 L) (hj : j < L.length) : OkR 2 (insR L j) := by
 induction j generalizing L with
 | zero => exact h
 | succ j ih =>
  unfold insR
  split
  ·exact ih (swapR_ok h hj xq) (by rw [swapR_len]; omega)
  ·exact h
theorem outR_len {m : Nat} : (outR L i m).length = L.length := by
 induction m generalizing L i with
 | zero => rfl
 | succ m ih => unfold outR; rw [ih, insR_len]
theorem outR_ok {m : Nat} (h : OkR 2 L) (hm : i + m ≤ L.length) : OkR 2 (outR L i m) := by
 induction m generalizing L i with
 | zero => exact h
 | succ m ih => unfold outR; exact ih (insR_ok h xq) (by rw [insR_len]; omega)
theorem sortR_len : (sortR L).length = L.length := outR_len
theorem sortR_ok (h : OkR 2 L) (h0 : 0 < L.length) : OkR 2 (sortR L) := outR_ok h xq
theorem insR_go (h0 : 0 < j) (h : cmpZ (gi L j 0) (gi L j 1) (gi L (j - 1) 0) (gi L (j - 1) 1) < 0) : insR L j = insR (swapR L j) (j - 1) := by
 obtain ⟨k, rfl⟩ : ∃ k, j = k + 1 := ⟨j - 1, by omega⟩
 rw [Nat.add_sub_cancel] at h
 show (if _ then _ else _) = _
 rw [if_pos h, Nat.add_sub_cancel]
theorem insR_stop (h : 0 < j → ¬ cmpZ (gi L j 0) (gi L j 1) (gi L (j - 1) 0) (gi L (j - 1) 1) < 0) : insR L j = L := by
 cases j with
 | zero => rfl
 | succ k =>
  show (if _ then _ else _) = _
  have := h xq
  rw [Nat.add_sub_cancel] at this
  rw [if_neg this]
theorem outR_step (h : i < n) : outR L i (n - i) = outR (insR L i) (i + 1) (n - (i + 1)) := by
 obtain ⟨m, hm⟩ : ∃ m, n - i = m + 1 := ⟨n - i - 1, by omega⟩
 rw [hm, show n - (i + 1) = m by omega]; rfl
theorem bestR_lt (h : 0 < n) : bestR Z a0 a1 n < n := by
 induction n with
 | zero => omega
 | succ n ih =>
  unfold bestR
  split
  ·omega
  ·cases n with
   | zero => show 0 < 1; omega
   | succ n => have := ih xq; omega
theorem best_yes (h : distZ (gi Z n 1) (gi Z n 2) a0 a1 < distZ (gi Z (bestR Z a0 a1 n) 1) (gi Z (bestR Z a0 a1 n) 2) a0 a1) : bestR Z a0 a1 (n + 1) = n := by
 show (if _ then _ else _) = _
 rw [if_pos h]
theorem best_no (h : ¬ distZ (gi Z n 1) (gi Z n 2) a0 a1 < distZ (gi Z (bestR Z a0 a1 n) 1) (gi Z (bestR Z a0 a1 n) 2) a0 a1) : bestR Z a0 a1 (n + 1) = bestR Z a0 a1 n := by
 show (if _ then _ else _) = _
 rw [if_neg h]
theorem az_bd (h0 : -1000000000 ≤ z) (h1 : z ≤ 1000000000) : 0 ≤ az z ∧ az z ≤ 1000000000 := by unfold az; omega
theorem dist_bd {b1 b2 : Int} (h1 : -16777216 ≤ b1 ∧ b1 ≤ 16777216) (h2 : -16777216 ≤ b2 ∧ b2 ≤ 16777216) (h3 : -16777216 ≤ a0 ∧ a0 ≤ 16777216) (h4 : -16777216 ≤ a1 ∧ a1 ≤ 16777216) : 0 ≤ distZ b1 b2 a0 a1 ∧ distZ b1 b2 a0 a1 ≤ 67108864 := by unfold distZ az; omega
theorem fill_back {z : List Int} {acc : List (List Int)} (hi : i < n) (x : List Int) : (List.replicate (n - i) z ++ acc).set (n - 1 - i) x = List.replicate (n - (i + 1)) z ++ (x :: acc) := by
 rw [show n - i = (n - (i + 1)) + 1 by omega, List.replicate_succ', List.append_assoc]
 rw [List.set_append_right _ _ yz, List.length_replicate, show n - 1 - i - (n - (i + 1)) = 0 by omega]
 rfl
theorem pairR_step {D acc : List (List Int)} (hi : i < D.length) : pairR (D.drop i) Z acc = pairR (D.drop (i + 1)) (Z.eraseIdx (bestR Z (gi D i 0) (gi D i 1) Z.length)) ([gi Z (bestR Z (gi D i 0) (gi D i 1) Z.length) 0, gi Z (bestR Z (gi D i 0) (gi D i 1) Z.length) 1, gi Z (bestR Z (gi D i 0) (gi D i 1) Z.length) 2, gi D i 0, gi D i 1] :: acc) := by
 rw [List.drop_eq_getElem_cons hi]
 have e : D[i] = D.getD i [] := by rw [List.getD_eq_getElem?_getD, List.getElem?_eq_getElem hi]; rfl
 show pairR (D.drop (i + 1)) _ _ = _
 rw [e]; rfl
end Nt
namespace Nt
end Nt
section
variable {lo h g : Nat} {u u' : World} {x y z : Sl} {N : List (List TL)} {cs : List Value}
def Sep (x y : Sl) : Prop := ∀ a b, x.a = some a → y.a = some b → a.block ≠ b.block
theorem Sep.symm (h : Sep x y) : Sep y x := fun a b ha hb e => h b a hb ha e.symm
theorem Sep.nil (y : Sl) : Sep ⟨none, 0, 0⟩ y := fun a b ha => by cases ha
theorem Sep.step {k : Nat} {ty : TypeId} (hs : Sep x y) (m : MutL k ty lo u x cs) (ho : ∀ a, z.a = some a → (y.a = some a ∨ u.heap.size ≤ a.block)) : Sep x z := fun a b ha hb e => by
 rcases ho b hb with h1 | h1
 ·exact hs a b ha h1 e
 ·have := m.lt ha
  omega
end
section
variable {P : Program} {ops : Array Oper} {w0 u0 : World} {seq : Bool} {o : Oper} {p : List Tmp} {rest : List (Oper × List Tmp)} {S : St} {u : World} {K : St → World → Prop}
end
variable {k lo lo' h b n c i : Nat} {ty t2 : TypeId} {u u' : World} {x y : Sl}
theorem MutL.slr {l : List Int} (m : MutL 1 ty lo u x (ics l)) : SlR .i64 u x.a x.n x.c l := by
 have h1 := m.1
 rw [zwj] at h1
 refine ⟨by omega, m.2.1, m.2.2.1, fun hp => ?_⟩
 obtain ⟨b, e, _⟩ := MutL.cell (j := 0) m (by rw [zwj]; omega)
 refine ⟨b, 0, e, m.lt e, fun i hi => ?_⟩
 obtain ⟨b2, e2, g⟩ := MutL.cell (j := i) m (by rw [zwj]; omega)
 rw [e] at e2; injection e2 with e2; injection e2 with e2; subst e2
 rw [g, ics_at xq, List.getD_eq_getElem?_getD]
end Go.Proofs.Ytdmpfhhhlhoeiaa
namespace Go.Proofs.Ytdmpfhhhlhoeiaa
open Go.RowKit
set_option linter.unusedVariables false
namespace Nt
namespace Pol
theorem monic_zero : (0 : Pol).monic = 0 := by unfold monic; rw [mul_zero]
theorem IsGcd.mul {p q g : Pol} (h : IsGcd p q g) (r : Pol) : IsGcd (p * r) (q * r) (g * r).monic := by
 obtain ⟨u1, e1⟩ := h.l
 obtain ⟨u2, e2⟩ := h.r
 obtain ⟨s, t, e3⟩ := h.s
 by_cases h0 : g * r = 0
 ·rw [h0, monic_zero]
  exact ⟨.inl rfl, ⟨0, by rw [e1]; grind⟩, ⟨0, by rw [e2]; grind⟩, ⟨0, 0, by grind⟩⟩
 ·have h1 := lead_ne h0
  have h2 := C_inv h1
  refine ⟨.inr (monic_lead h0), ⟨C (g * r).lead * u1, ?_⟩, ⟨C (g * r).lead * u2, ?_⟩, ⟨C (1 / (g * r).lead) * s, C (1 / (g * r).lead) * t, ?_⟩⟩
  ·unfold monic; grind
  ·unfold monic; grind
  ·unfold monic; grind
theorem npow_zero (p : Pol) : npow p 0 = 1 := rfl
theorem npow_succ (p : Pol) (n : Nat) : npow p (n + 1) = npow p n * p := rfl
end Pol
section
variable {l m : List Rat} {D E A B n : Nat}
theorem Sm.npow (h : Sm l D A) (n : Nat) : Sm (Pol.npow (Pol.mk' l) n).l (D ^ n) (n * (A + l.length)) := by
 induction n with
 | zero =>
  rw [Pol.npow_zero, Nat.pow_zero, Nat.zero_mul]
  exact (show Sm (List.map (fun z : Int => (z : Rat)) [1]) 1 0 from Sm.ofInts xw).trim
 | succ n ih =>
  rw [Pol.npow_succ, Nat.pow_succ, Nat.add_mul, Nat.one_mul]
  have h9 := (ih.mulR (h.trim : Sm (Pol.mk' l).l D A)).trim.more (B := n * (A + l.length) + (A + l.length)) (by have h8 := zzh l; change _ + A + (trimQ l).length ≤ _; omega)
  exact h9
theorem len_of_co {a : Nat} (h : ∀ i, a ≤ i → Nt.co l i = 0) : (trimQ l).length ≤ a := Pol.len_le (p := Pol.mk' l) fun i hi => by rw [Pol.mk_c]; exact h i hi
theorem zxt {a b : Nat} (h1 : l.length ≤ a) (h2 : m.length ≤ b) : (trimQ (mulQ l m)).length ≤ a + b - 1 := len_of_co fun i hi => mulQ_far xq
theorem map_lenQ {a : Nat} {f : Rat → Rat} (h1 : l.length ≤ a) : (trimQ (l.map f)).length ≤ a := Nat.le_trans (zzh _) (by rw [List.length_map]; omega)
end
end Nt
namespace Nt
section
variable {p q : List Rat} {u v x y : Pol}
end
end Nt
end Go.Proofs.Ytdmpfhhhlhoeiaa
namespace Go.Proofs.Ytdmpfhhhlhoeiaa.Nt
open Go.RowKit
open Pol
set_option linter.unusedVariables false
def RSz (l : List Rat) (j : Nat) : Prop := l.length ≤ 1 + j ∧ ∃ D, D ≤ 2 ^ (2 + 6 * j) ∧ Sm l D (2 + 6 * j)
theorem RSz.more {l : List Rat} {i j : Nat} (h : RSz l i) (k : i ≤ j) : RSz l j := by
 obtain ⟨h1, D, h2, h3⟩ := h
 exact ⟨by omega, D, Nat.le_trans h2 (Nat.pow_le_pow_right xq xq), h3.more xq⟩
theorem RSz.one {z : Nat} (hz : z < 3) : RSz [(((1 + z : Nat) : Int) : Rat)] 0 :=
 ⟨by simp, 1, by decide, Sm.ofAll xq (fun x hx => by
  rw [List.mem_singleton.1 hx, show ((((1 : Nat) : Int)) : Rat) = 1 from rfl, Rat.mul_one]
  exact whNat xq)⟩
theorem RSz.neg {l : List Rat} {j : Nat} (h : RSz l j) : RSz (trimQ (l.map (· * (((-1) : Int) : Rat)))) j := by
 obtain ⟨h1, D, h2, h3⟩ := h
 refine ⟨map_lenQ h1, D, h2, Sm.trim ⟨h3.1, fun i => ?_⟩⟩
 rw [co_map (fun x => x * (((-1) : Int) : Rat)) (Rat.zero_mul _)]
 obtain ⟨z, hz, hb⟩ := h3.2 i
 refine ⟨-z, ?_, by rw [Int.natAbs_neg]; exact hb⟩
 rw [Rat.intCast_neg (a := z), ← hz]
 have e1 : (((-1) : Int) : Rat) = -1 := by decide +kernel
 rw [e1]; grind
theorem lin_sm {r : Rat} (h : Wh (r * (((12 : Nat) : Int) : Rat)) 4) : Sm [-r, ((1 : Int) : Rat)] 12 4 := Sm.ofAll xq (fun x hx => by
 rcases List.mem_cons.1 hx with rfl | hx
 ·obtain ⟨z, hz, hb⟩ := h
  exact ⟨-z, by rw [Rat.intCast_neg, ← hz]; grind, by rw [Int.natAbs_neg]; exact hb⟩
 ·rw [List.mem_singleton.1 hx]
  exact ⟨12, by decide +kernel, by decide⟩)
theorem RSz.lin {l : List Rat} {j : Nat} {r : Rat} (h : RSz l j) (hr : Wh (r * (((12 : Nat) : Int) : Rat)) 4) : RSz (trimQ (mulQ l [-r, ((1 : Int) : Rat)])) (j + 1) := by
 obtain ⟨h1, D, h2, h3⟩ := h
 refine ⟨Nat.le_trans (zxt h1 (Nat.le_refl _)) yz, D * 12, ?_, ((h3.mulR (lin_sm hr)).trim).more yz⟩
 rw [show 2 + 6 * (j + 1) = (2 + 6 * j) + 6 by omega, Nat.pow_add]
 exact Nat.mul_le_mul h2 xw
def RFin (l : List Rat) : Prop := l.length ≤ 12 ∧ ∃ D, D ≤ 2 ^ 63 ∧ Sm l D 63
theorem RSz.fin {l : List Rat} (h : RSz l 9) : RFin l := by
 obtain ⟨h1, D, h2, h3⟩ := h
 exact ⟨by omega, D, Nat.le_trans h2 xw, h3.more xw⟩
end Go.Proofs.Ytdmpfhhhlhoeiaa.Nt
namespace Go.Proofs.Ytdmpfhhhlhoeiaa.Nt
open Go.RowKit
open Pol
set_option linter.unusedVariables false
section
variable {P q ps qs l m p : List Rat} {A B D E F a b K : Nat} {c x y : Rat}
def nxQ (q ps : List Rat) : List Rat := subN (ps.length - q.length) (ps.getD (ps.length - 1) 0 / q.getD (q.length - 1) 0) q (ps.take (ps.length - 1)) (q.length - 1)
theorem nx_co (hn : q.length ≤ ps.length) (hm : 0 < q.length) (hq : co q (q.length - 1) ≠ 0) (i : Nat) :
  co (nxQ q ps) i = co ps i - (if ps.length - q.length ≤ i then co ps (ps.length - 1) / co q (q.length - 1) * co q (i - (ps.length - q.length)) else 0) := by
 unfold nxQ
 rw [subN_co (by rw [List.length_take]; omega)]
 change _ - (if _ then co ps (ps.length - 1) / co q (q.length - 1) * _ else 0) = _
 obtain ⟨c, hc⟩ : ∃ c, co ps (ps.length - 1) / co q (q.length - 1) = c := ⟨_, rfl⟩
 rw [hc]
 by_cases h1 : i < ps.length - 1
 ·rw [co_take h1]
  change co ps i - _ = _
  by_cases h2 : ps.length - q.length ≤ i
  ·rw [if_pos h2, if_pos xq]
  ·rw [if_neg h2, if_neg xq]
 ·rw [co_ge (l := ps.take _) (by rw [List.length_take]; omega), if_neg xq, if_pos xq]
  by_cases h2 : i = ps.length - 1
  ·rw [h2, show ps.length - 1 - (ps.length - q.length) = q.length - 1 by omega, ← hc]; grind
  ·rw [co_ge xq, co_ge (l := q) xq]; grind
theorem nx_len (hn : q.length ≤ ps.length) (hm : 0 < q.length) : (trimQ (nxQ q ps)).length < ps.length := by
 have h9 := zzh (nxQ q ps)
 unfold nxQ at h9 ⊢
 rw [subN_len, List.length_take] at h9
 omega
structure RefI (P q qs ps : List Rat) : Prop where
 ql : qs.length = P.length + 1 - q.length
 pl : ps.length ≤ P.length
 qz : ∀ j, j + q.length ≤ ps.length → co qs j = 0
 eq : ∀ i, co P i = co (mulQ qs q) i + co ps i
theorem RefI.begin (P q : List Rat) : RefI P q (List.replicate (P.length + 1 - q.length) 0) P := by
 have h0 : ∀ j, co (List.replicate (P.length + 1 - q.length) 0) j = 0 := fun j => by
  unfold co; rw [List.getD_eq_getElem?_getD, List.getElem?_replicate]; split <;> rfl
 exact ⟨by simp, Nat.le_refl _, fun j _ => h0 j, fun i => by rw [mulQ_zero h0]; grind⟩
theorem RefI.step (h : RefI P q qs ps) (hn : q.length ≤ ps.length) (hm : 0 < q.length) (hq : co q (q.length - 1) ≠ 0) :
  RefI P q (qs.set (ps.length - q.length) (ps.getD (ps.length - 1) 0 / q.getD (q.length - 1) 0)) (trimQ (nxQ q ps)) := by
 have hl := nx_len hn hm
 have hp := h.pl
 have hk : ps.length - q.length < qs.length := by rw [h.ql]; omega
 refine ⟨by rw [List.length_set]; exact h.ql, by omega, fun j hj => ?_, fun i => ?_⟩
 ·rw [co_set hk, if_neg xq]
  exact h.qz j xq
 ·rw [mulQ_set hk (h.qz _ xq), trim_co, nx_co hn hm hq, h.eq i]
  change _ = _ + (if _ then co ps (ps.length - 1) / co q (q.length - 1) * _ else 0) + _
  split <;> grind
theorem RefI.done (h : RefI P q qs ps) : Pol.mk' P = Pol.mk' qs * Pol.mk' q + Pol.mk' ps := by
 refine Pol.ext fun i => ?_
 rw [c_add, ← mk_mul, mk_c, mk_c, mk_c]
 exact h.eq i
theorem div_go (hB : WhL q b) (hq : 0 < q.length) (hl : co q (q.length - 1) ≠ 0) : ∀ (n k : Nat) (s t : List Rat) (f : Rat), k + n = p.length → (k = 0 ∨ q.length ≤ n + 1) → DivI p q n s t f → WhL t (a + k * (b + 1)) →
  ∃ s t f, DivR p q s t f ∧ WhL t (a + (p.length - q.length + 1) * (b + 1)) := by
 intro n
 have stop : ∀ (n k : Nat) (s t : List Rat) (f : Rat), k + n = p.length → (k = 0 ∨ q.length ≤ n + 1) → n < q.length → DivI p q n s t f → WhL t (a + k * (b + 1)) → ∃ s t f, DivR p q s t f ∧ WhL t (a + (p.length - q.length + 1) * (b + 1)) := by
  intro n k s t f hk hs h hD hW
  refine ⟨s, _, f, hD.done h, (hW.take _).more (Nat.add_le_add_left (Nat.mul_le_mul_right _ ?_) _)⟩
  omega
 induction n with
 | zero =>
  intro k s t f hk hs hD hW
  exact stop 0 k s t f hk hs hq hD hW
 | succ n ih =>
  intro k s t f hk hs hD hW
  by_cases h : n + 1 < q.length
  ·exact stop (n + 1) k s t f hk hs h hD hW
  ·have h1 := hD.step xq xq hq hl (x := co t n) (d := co q (q.length - 1)) hl rfl
   refine ih (k + 1) _ _ _ xq (.inr xq) h1 ?_
   have hd : Wh (co q (q.length - 1)) b := hB _
   refine WhL.more (WhL.subN (hW.map hd) (fun i => (hW n).mul (hB i)) (by rw [List.length_map, hD.tl]; omega)) ?_
   rw [Nat.add_mul]; omega
theorem div_exists (hA : WhL p a) (hB : WhL q b) (hq : Nrm q) (hq0 : 0 < q.length) : ∃ s t f, DivR p q s t f ∧ WhL t (a + (p.length - q.length + 1) * (b + 1)) :=
 div_go hB hq0 (nrm_last hq (by rintro rfl; simp at hq0)) p.length 0 _ _ _ xq (.inl rfl) (DivI.begin p q) (by rw [Nat.zero_mul]; exact hA)
theorem monic_Cmul {k : Rat} (hk : k ≠ 0) (r : Pol) : (C k * r).monic = r.monic := by
 by_cases h0 : r = 0
 ·rw [h0, mul_zero]
 ·have h1 := lead_ne h0
  have h2 : (C k * r).lead = k * r.lead := by rw [lead_mul (C_ne hk) h0, lead_C hk]
  unfold monic
  rw [h2, ← mul_assoc, ← C_mul]
  congr 2
  grind
theorem C_unit {k : Rat} (hk : k ≠ 0) : C k * C (1 / k) = 1 := C_inv hk
structure GcdI (l m p q pa pb : List Rat) (A H : Nat) : Prop where
 ep : p = (mk' pa).monic.l
 eq : q = (mk' pb).monic.l
 nb : Nrm pb
 wa : WhL pa A
 wb : WhL pb A
 pt : (A + 1) * (A + 1) * 3 ^ pot pa.length pb.length ≤ H * H
 s : Same (mk' l) (mk' m) (mk' pa) (mk' pb)
theorem GcdI.begin {H : Nat} (hA : WhL (prim l) A) (hB : WhL (prim m) A) (hH : (A + 1) * (A + 1) * 3 ^ pot (trimQ l).length (trimQ m).length ≤ H * H) :
  GcdI l m (mk' l).monic.l (mk' m).monic.l (prim l) (prim m) A H := by
 have e : ∀ l, (mk' l).monic.l = (mk' (prim l)).monic.l := fun l => by
  obtain ⟨k, hk, e⟩ := prim_mk' l
  rw [e, monic_Cmul hk]
 exact ⟨e l, e m, prim_nrm m, hA, hB, by rw [prim_len, prim_len]; exact hH, prim_same l m⟩
theorem monic_nz {r : Pol} (h : r ≠ 0) : ∃ k : Rat, k ≠ 0 ∧ r.monic = C k * r := by
 have h1 := lead_ne h
 exact ⟨1 / r.lead, by intro k; have : (1 : Rat) = (1 / r.lead) * r.lead := by grind
                       rw [k] at this; grind, rfl⟩
theorem GcdI.step {pa pb : List Rat} {H : Nat} {u r : Pol} (h : GcdI l m p q pa pb A H) (hq : 0 < q.length) (e : mk' p = u * mk' q + r) (hr : r.len < (mk' q).len) :
  ∃ pc A', GcdI l m q r.monic.l pb pc A' H := by
 have hb0 : mk' pb ≠ 0 := by
  intro e0
  rw [h.eq, e0, monic_zero, zero_l] at hq
  simp at hq
 have hpb : 0 < pb.length := by
  cases hp : pb with
  | nil => exact absurd (by rw [hp]; rfl) hb0
  | cons x y => simp
 obtain ⟨s, t, f, hD, hW⟩ := div_exists h.wa h.wb h.nb hpb
 obtain ⟨β, hβ, eβ⟩ := monic_nz hb0
 have hpol := hD.pol
 have h2 : (prim t).length < pb.length := by rw [prim_len]; exact Nat.lt_of_le_of_lt (zzh t) hD.lt
 have h3 : (prim t).length ≤ pa.length := by rw [prim_len]; exact Nat.le_trans (zzh t) hD.tl
 refine ⟨prim t, A + (pa.length - pb.length + 1) * (A + 1), h.eq, ?_, prim_nrm t, h.wb.more xq, prim_of_wh hW, pot_step h.pt h2 h3, same_step h.s hD⟩
 have hf := C_unit hD.f0
 have hmq : mk' q = C β * mk' pb := by rw [h.eq, mk_l, eβ]
 have hCβ := C_unit hβ
 obtain ⟨α, hα, eα⟩ : ∃ α : Rat, α ≠ 0 ∧ mk' p = C α * mk' pa := by
  rw [h.ep, mk_l]
  by_cases h0 : mk' pa = 0
  ·exact ⟨1, by decide, by rw [h0, monic_zero, mul_zero]⟩
  ·obtain ⟨k, hk, e⟩ := monic_nz h0
   exact ⟨k, hk, e⟩
 have e2 : u * mk' q + r = (C (1 / f) * C α * mk' s * C (1 / β)) * mk' q + C (1 / f * α) * mk' t := by
  rw [← e, eα, hmq, C_mul]; grind
 have hκ : 1 / f * α ≠ 0 := by
  have := hD.f0
  intro k
  have h7 : α = f * (1 / f * α) := by grind
  rw [k] at h7; grind
 have hlt : (C (1 / f * α) * mk' t).len < (mk' q).len := by
  rw [len_Cmul hκ, hmq, len_Cmul hβ, mk_len_nrm h.nb]
  exact Nat.lt_of_le_of_lt (mk_len t) hD.lt
 have h5 := div_unique e2 hr hlt
 obtain ⟨k, hk, e3⟩ := prim_mk' t
 rw [h5.2, monic_Cmul hκ, e3, monic_Cmul hk]
theorem GcdI.done {pa pb : List Rat} {H : Nat} (h : GcdI l m p q pa pb A H) (hq : q.length = 0) : IsGcd (mk' l) (mk' m) (mk' p) ∧ (∃ k : Rat, k ≠ 0 ∧ ∀ i, co p i = k * co pa i) ∧ WhL pa H := by
 have hb0 : mk' pb = 0 := by
  apply Classical.byContradiction
  intro k
  have h1 := monic_lead k
  have h2 : (mk' pb).monic ≠ 0 := by intro e; rw [e] at h1; unfold lead at h1; rw [c_zero] at h1; exact absurd h1 xw
  have h3 := len_pos h2
  rw [h.eq] at hq
  unfold len at h3
  omega
 have hs := h.s
 rw [hb0] at hs
 refine ⟨by rw [h.ep, mk_l]; exact hs.gcd, by rw [h.ep]; exact monic_scaled pa, h.wa.more ?_⟩
 have := pot_le h.pt; omega
theorem GcdI.le {pa pb : List Rat} {H : Nat} (h : GcdI l m p q pa pb A H) : A ≤ H := by have := pot_le h.pt; omega
theorem GcdI.steps {pa pb : List Rat} {H : Nat} (h : GcdI l m p q pa pb A H) (hq : 0 < q.length) : A + ((trimQ p).length - (trimQ q).length + 1) * (A + 1) ≤ H := by
 have h1 := pot_step h.pt (lr := 0)
 have hp : (trimQ p).length ≤ pa.length := by
  refine Nat.le_trans (zzh p) ?_
  rw [h.ep]
  refine Nat.le_trans (?_ : (mk' pa).monic.l.length ≤ (mk' pa).len) (mk_len pa)
  by_cases h0 : mk' pa = 0
  ·rw [h0, monic_zero]; exact Nat.le_refl _
  ·obtain ⟨k, hk, e⟩ := monic_nz h0
   rw [e]; exact Nat.le_of_eq (len_Cmul hk _)
 have hb0 : mk' pb ≠ 0 := by
  intro e0
  rw [h.eq, e0, monic_zero, zero_l] at hq
  simp at hq
 have hq2 : (trimQ q).length = pb.length := by
  rw [show trimQ q = q by rw [h.eq]; exact (mk' pb).monic.h, h.eq]
  obtain ⟨k, hk, e⟩ := monic_nz hb0
  rw [e]
  exact (len_Cmul hk (mk' pb)).trans (mk_len_nrm h.nb)
 have hpb : 0 < pb.length := by
  cases hp : pb with
  | nil => exact absurd (by rw [hp]; rfl) hb0
  | cons x y => simp
 have h2 := pot_le (h1 hpb (Nat.zero_le _))
 have h3 : ((trimQ p).length - (trimQ q).length + 1) * (A + 1) ≤ (pa.length - pb.length + 1) * (A + 1) := Nat.mul_le_mul_right _ xq
 omega
end
end Go.Proofs.Ytdmpfhhhlhoeiaa.Nt
namespace Go.Proofs.Ytdmpfhhhlhoeiaa.Nt
open Go.RowKit
open Pol
set_option linter.unusedVariables false
def lin (r : Rat) : Pol := mk' [-r, ((1 : Int) : Rat)]
def Cop (a b : Pol) : Prop := ∃ u v, u * a + v * b = 1
theorem Cop.symm {a b : Pol} (h : Cop a b) : Cop b a := by obtain ⟨u, v, e⟩ := h; exact ⟨v, u, by grind⟩
theorem Cop.mul {a b c : Pol} (h : Cop a c) (k : Cop b c) : Cop (a * b) c := by
 obtain ⟨u, v, e⟩ := h
 obtain ⟨u', v', e'⟩ := k
 refine ⟨u * u', u * a * v' + v * u' * b + v * v' * c, ?_⟩
 have : (u * a + v * c) * (u' * b + v' * c) = 1 := by rw [e, e', one_mul]
 grind
theorem Cop.mulR {a b c : Pol} (h : Cop c a) (k : Cop c b) : Cop c (a * b) := (h.symm.mul k.symm).symm
theorem Cop.add {a b : Pol} (h : Cop a b) (k : Pol) : Cop a (b + k * a) := by
 obtain ⟨u, v, e⟩ := h
 exact ⟨u - v * k, v, by grind⟩
theorem Cop.one (b : Pol) : Cop 1 b := ⟨1, 0, by grind⟩
def prA : List (Rat × Nat) → Pol
 | [] => 1
 | f :: fs => prA fs * npow (lin f.1) f.2
structure QOK (Q : Pol) (rs : List Rat) : Prop where
 ne : Q ≠ 0
 d : Cop Q Q.D
 r : ∀ r ∈ rs, Q.ev r ≠ 0
structure MadeF (P : Pol) (rs : List Rat) : Prop where
 nd : rs.Nodup
 wh : ∀ r ∈ rs, Wh (r * (((12 : Nat) : Int) : Rat)) 4
 ex : ∃ (c : Rat) (fs : List (Rat × Nat)), c ≠ 0 ∧ (∀ f ∈ fs, 1 ≤ f.2) ∧ fs.map (·.1) = rs.reverse ∧ P = C c * prA fs
theorem MadeF.begin (z : Nat) : MadeF (mk' [(((1 + z : Nat) : Int) : Rat)]) [] :=
 ⟨List.nodup_nil, (fun r hr => by cases hr), _, [], dz (show 0 < 1 + z by omega), (fun f hf => by cases hf), rfl, (mul_one _).symm⟩
theorem MadeF.neg {l : List Rat} (h : MadeF (mk' l) []) : MadeF (mk' (trimQ (l.map (· * (((-1) : Int) : Rat))))) [] := by
 obtain ⟨h1, h2, c, fs, h3, h4, h5, h6⟩ := h
 refine ⟨h1, h2, (((-1) : Int) : Rat) * c, fs, ?_, h4, h5, ?_⟩
 ·intro e
  rcases Rat.mul_eq_zero.1 e with e | e
  ·exact absurd e (by decide +kernel)
  ·exact h3 e
 ·rw [mk_trim, mk_map, h6, C_mul]; grind
theorem MadeF.step {P : Pol} {rs : List Rat} {r : Rat} {k : Nat} (h : MadeF P rs) (hr : r ∉ rs) (hk : 1 ≤ k) (hw : Wh (r * (((12 : Nat) : Int) : Rat)) 4) : MadeF (P * npow (lin r) k) (rs ++ [r]) := by
 obtain ⟨h1, h2, c, fs, h3, h4, h5, h6⟩ := h
 refine ⟨?_, ?_, c, (r, k) :: fs, h3, ?_, ?_, ?_⟩
 ·rw [List.nodup_append]
  refine ⟨h1, by simp, fun a ha b hb e => ?_⟩
  rw [List.mem_singleton.1 hb] at e
  exact hr (e ▸ ha)
 ·intro y hy
  rcases List.mem_append.1 hy with hy | hy
  ·exact h2 y hy
  ·rw [List.mem_singleton.1 hy]; exact hw
 ·intro f hf
  rcases List.mem_cons.1 hf with rfl | hf
  ·exact hk
  ·exact h4 f hf
 ·rw [List.map_cons, h5, List.reverse_append]; rfl
 ·show _ = C c * (prA fs * npow (lin r) k)
  rw [h6]; grind
end Go.Proofs.Ytdmpfhhhlhoeiaa.Nt
namespace Go.Proofs.Ytdmpfhhhlhoeiaa
set_option linter.unusedVariables false
namespace Nt
section
variable {a1 a2 b1 b2 c1 c2 d1 d2 : Rat}
def hl (a b c d : Rat) : Rat := lo (lo a b) (lo c d)
def hh (a b c d : Rat) : Rat := hi (hi a b) (hi c d)
end
end Nt
end Go.Proofs.Ytdmpfhhhlhoeiaa
namespace Go.Proofs.Ytdmpfhhhlhoeiaa.Nt
open Go.RowKit
open Pol
set_option linter.unusedVariables false
section
variable {l : List Rat} {x a b c : Rat} {i n D A B K : Nat} {q : Pol}
theorem evL_trim (l : List Rat) (x : Rat) : evL (trimQ l) x = evL l x := evL_congr (trim_co l) x
end
end Go.Proofs.Ytdmpfhhhlhoeiaa.Nt
namespace Go.Proofs.Ytdmpfhhhlhoeiaa.Nt
open Go.RowKit
open Pol
set_option linter.unusedVariables false
section
variable {l m W : List Rat} {x q : Rat} {i A B C : Nat}
def hp (q : Rat) (i : Nat) : Rat := (((q.den ^ (i - 1) : Nat) : Int) : Rat)
def hs (W : List Rat) (q : Rat) (i : Nat) : Rat := hp q i * evL (W.drop (W.length - i)) q
theorem ev_mulL (l m : List Rat) (x : Rat) : evL (trimQ (mulQ l m)) x = evL l x * evL m x := by
 rw [evL_trim, ← mk_ev, mk_mul, ev_mul, mk_ev, mk_ev]
theorem Sm.mem {D : Nat} (h : Sm l D A) : ∀ y ∈ l, Wh (y * ((D : Int) : Rat)) A := fun y hy => by
 obtain ⟨j, hj, e⟩ := List.getElem_of_mem hy
 have h9 := h.2 j
 unfold Nt.co at h9
 rw [List.getD_eq_getElem?_getD, List.getElem?_eq_getElem hj, Option.getD_some, e] at h9
 exact h9
end
end Go.Proofs.Ytdmpfhhhlhoeiaa.Nt
namespace Go.Proofs.Ytdmpfhhhlhoeiaa.Nt
open Go.RowKit
open Pol
set_option linter.unusedVariables false
def AP (B A : List Rat) : Prop := ∀ z w : Rat, z * w = 1 → evL B z * evL B w = evL A z * evL A w
theorem AP.one : AP [((1 : Int) : Rat)] [((1 : Int) : Rat)] := fun z w _ => rfl
theorem AP.mul {B A B' A' : List Rat} (h : AP B A) (k : AP B' A') : AP (trimQ (mulQ B B')) (trimQ (mulQ A A')) := fun z w e => by
 rw [ev_mulL, ev_mulL, ev_mulL, ev_mulL]
 have h1 := h z w e
 have h2 := k z w e
 grind
theorem AP.trim {B A : List Rat} (h : AP B A) : AP (trimQ B) (trimQ A) := fun z w e => by rw [evL_trim, evL_trim, evL_trim, evL_trim]; exact h z w e
end Go.Proofs.Ytdmpfhhhlhoeiaa.Nt
namespace Go.Proofs.Ytdmpfhhhlhoeiaa
open Go.RowKit
set_option linter.unusedVariables false
namespace Nt
def wq (z f : Int) : Rat := ((z : Int) : Rat) / ((p2i f : Int) : Rat)
end Nt
end Go.Proofs.Ytdmpfhhhlhoeiaa
namespace Go.Proofs.Ytdmpfhhhlhoeiaa
open Go.RowKit Go.ChangeShapes Go.WideShapes
set_option linter.unusedVariables false
theorem wrap64_ex (n : Int) : ∃ z, IntKind.i64.wrap n = z ∧ -9223372036854775808 ≤ z ∧ z ≤ 9223372036854775807 := ⟨_, rfl, by rw [IntKind.wrap_i64]; omega⟩
section
variable {u : World} {k : IntKind} {A A' : Option Addr} {n c m : Nat} {l : List Int}
end
theorem int_one (z : Int) : ∀ v ∈ [Value.int .i64 z], v.oneCell' = true := fun v hv => by
 rcases List.mem_cons.1 hv with rfl | hv
 ·rfl
 ·cases hv
section
variable {H : Type} {enc : TypeId × Value → H} {w : World} {base : Nat} {spare : Nat → Bool} {held : Bool} {r0 : Reach} {b0 : Nat} {v : Value} {d : DataW H} {p : List MemPlace}
end
end Go.Proofs.Ytdmpfhhhlhoeiaa
namespace Go.Proofs.Ytdmpfhhhlhoeiaa
open Go.RowKit
set_option linter.unusedVariables false
section
variable {P : Program} {ops : Array Oper} {w0 : Base} {u0 : World} {S : St} {u : World} {o : Oper} {p : List Tmp} {seq : Bool} {rest : List (Oper × List Tmp)} {K : St → World → Prop}
end
section
variable {P : Program} {ops : Array Oper} {w0 : Base} {u0 : World} {S : St} {u : World}
structure LeftX (ops : Array Oper) (M : List Nat) (L : List (Nat × List Tmp)) (listed : Array Bool) : Prop where
 nodup : (L.map (·.1)).Nodup
 back : L.Pairwise (fun x y => ((ops.getD x.1 default).after.toList.any fun e => Region.binds .any e && e.on == y.1) = false)
 size : listed.size = ops.size
 mem : ∀ i, i < ops.size → (listed.getD i true = false ↔ i ∈ L.map (·.1))
 lt : ∀ x ∈ L, x.1 < ops.size ∧ ∀ e ∈ (ops.getD x.1 default).after, Region.binds .any e = true → e.on ≠ x.1 ∧ e.on < ops.size
 mask : ∀ x ∈ L, M.getD x.1 0 = reachOf M (ops.getD x.1 default)
 closed : ∀ j, j < ops.size → j ∉ L.map (·.1) → ∀ x, (M.getD j 0).testBit x = true → x ∉ L.map (·.1)
theorem LeftX.ready_mem {M : List Nat} {L : List (Nat × List Tmp)} {listed : Array Bool} (h : LeftX ops M L listed) {i : Nat} (hi : i ∈ Region.ready .any ops listed) : i < ops.size ∧ i ∈ L.map (·.1) ∧ ∀ e ∈ (ops.getD i default).after, Region.binds .any e = true → e.on ∉ L.map (·.1) := by
 obtain ⟨h0, o, ho, hall⟩ := mem_ready.1 hi
 have hlt : i < ops.size := (Array.getElem?_eq_some_iff.1 ho).1
 have hm := (h.mem i hlt).1 h0
 refine ⟨hlt, hm, fun e he hb => ?_⟩
 rw [get_op hlt] at ho
 injection ho with ho
 obtain ⟨x, hx, hxi⟩ := List.mem_map.1 hm
 have hl := ((h.lt x hx).2 e (by rw [hxi]; exact he) hb).2
 have := hall e (by rw [← ho]; exact he) hb
 rw [listed_iff (by rw [h.size]; exact hl), h.mem e.on hl] at this
 exact this
theorem LeftX.head_ready {M : List Nat} {x : Nat × List Tmp} {L : List (Nat × List Tmp)} {listed : Array Bool} (h : LeftX ops M (x :: L) listed) : x.1 ∈ Region.ready .any ops listed := by
 obtain ⟨h1, h2⟩ := h.lt x (List.mem_cons_self ..)
 refine mem_ready.2 ⟨(h.mem x.1 h1).2 zq, _, get_op h1, fun e he hb => ?_⟩
 obtain ⟨h3, h4⟩ := h2 e he hb
 rw [listed_iff (by rw [h.size]; exact h4), h.mem e.on h4]
 intro hm
 obtain ⟨y, hy, hye⟩ := List.mem_map.1 hm
 rcases List.mem_cons.1 hy with rfl | hy
 ·exact h3 hye.symm
 ·have := (List.pairwise_cons.1 h.back).1 y hy
  have h5 : ((ops.getD x.1 default).after.toList.any fun e => Region.binds .any e && e.on == y.1) = true := List.any_eq_true.2 ⟨e, by simpa using he, by simp [hb, hye]⟩
  rw [h5] at this; cases this
theorem LeftX.out {M : List Nat} {L : List (Nat × List Tmp)} {listed : Array Bool} (h : LeftX ops M L listed) {x : Nat × List Tmp} (hx : x ∈ L) (hout : ∀ e ∈ (ops.getD x.1 default).after, Region.binds .any e = true → e.on ∉ L.map (·.1)) :
  ∀ j, (M.getD x.1 0).testBit j = true → j ∉ L.map (·.1) := by
 intro j hj
 rw [h.mask x hx] at hj
 rcases foldl_bit M j _ _ hj with h0 | ⟨e, he, hb, h1⟩
 ·simp at h0
 ·have he' : e ∈ (ops.getD x.1 default).after := by simpa using he
  have hn := hout e he' hb
  rcases h1 with rfl | h1
  ·exact hn
  ·exact h.closed e.on ((h.lt x hx).2 e he' hb).2 hn j h1
theorem LeftX.step {M : List Nat} {pre post : List (Nat × List Tmp)} {y : Nat × List Tmp} {listed : Array Bool} (hL : LeftX ops M (pre ++ y :: post) listed) (hro : ∀ j, (M.getD y.1 0).testBit j = true → j ∉ (pre ++ y :: post).map (·.1)) : LeftX ops M (pre ++ post) (listed.setIfInBounds y.1 true) := by
 have hsub : (pre ++ post).Sublist (pre ++ y :: post) := List.Sublist.append_left (List.sublist_cons_self _ _) _
 have hyn : y.1 ∉ (pre ++ post).map (·.1) := by
  have := hL.nodup
  rw [List.map_append, List.map_cons] at this
  have h2 := List.nodup_append.1 this
  have h3 := (List.nodup_cons.1 h2.2.1).1
  intro hm
  rw [List.map_append] at hm
  rcases List.mem_append.1 hm with hm | hm
  ·exact h2.2.2 y.1 hm y.1 (List.mem_cons_self ..) rfl
  ·exact h3 hm
 have hmem : ∀ j, j ≠ y.1 → (j ∈ (pre ++ post).map (·.1) ↔ j ∈ (pre ++ y :: post).map (·.1)) := fun j hj => by simp [hj]
 refine ⟨hL.nodup.sublist (hsub.map _), hL.back.sublist hsub, by simp [hL.size], fun j hj => ?_, fun x hx => hL.lt x (hsub.mem hx), fun x hx => hL.mask x (hsub.mem hx), fun j hj hjn x hx => ?_⟩
 ·by_cases e : j = y.1
  ·subst e
   constructor
   ·intro h
    simp [hL.size, hj] at h
   ·intro h; exact absurd h hyn
  ·rw [getD_set_ne true (Ne.symm e), hmem j e]
   exact hL.mem j hj
 ·intro hmx
  by_cases e : j = y.1
  ·subst e; exact hro x hx ((hsub.map _).mem hmx)
  ·exact hL.closed j hj (fun h => hjn ((hmem j e).2 h)) x hx ((hsub.map _).mem hmx)
end
section
variable {P : Program} {ops : Array Oper} {w0 : Base} {u0 : World} {S : St} {u : World}
end
section
variable {P : Program} {ops : Array Oper} {w0 : Base} {u0 : World} {S : St} {u : World} {Q : MP} {listed : Array Bool}
end
theorem PasV.news {u : World} {x : Sl} {L : List PL} (h : PasV u x L) (hL : 0 < L.length) : ∃ b o, x.a = some ⟨b, o, none⟩ ∧ ∀ j v, (pcs L)[j]? = some v → u.cell? ⟨b, o + j, none⟩ = some v := by
 obtain ⟨h1, h2, h3, h4⟩ := h
 obtain ⟨b, o, e, hc⟩ := h4 (by rw [pcs_len] at h1; omega)
 exact ⟨b, o, e, fun j v hv => by rw [hc j (List.getElem?_eq_some_iff.1 hv).1]; exact hv⟩
end Go.Proofs.Ytdmpfhhhlhoeiaa
namespace Go.Proofs.Ytdmpfhhhlhoeiaa
set_option linter.unusedVariables false
open Go.RowKit
theorem ty2 : TyIs Try.prog 2 false 1 := fun w => ⟨by kernel_rfl, by kernel_rfl⟩
theorem ty3 : TyIs Try.prog 3 false 1 := fun w => ⟨by kernel_rfl, by kernel_rfl⟩
theorem ty4 : TyIs Try.prog 4 false 1 := fun w => ⟨by kernel_rfl, by kernel_rfl⟩
theorem ty22 : TyIs Try.prog 22 false 1 := fun w => ⟨by kernel_rfl, by kernel_rfl⟩
theorem ty24 : TyIs Try.prog 24 true 2 := fun w => ⟨by kernel_rfl, by kernel_rfl⟩
theorem ty27 : TyIs Try.prog 27 true 4 := fun w => ⟨by kernel_rfl, by kernel_rfl⟩
theorem ty42 : TyIs Try.prog 42 false 1 := fun w => ⟨by kernel_rfl, by kernel_rfl⟩
theorem ty43 : TyIs Try.prog 43 false 1 := fun w => ⟨by kernel_rfl, by kernel_rfl⟩
theorem ty45 : TyIs Try.prog 45 true 2 := fun w => ⟨by kernel_rfl, by kernel_rfl⟩
theorem ty54 : TyIs Try.prog 54 true 3 := fun w => ⟨by kernel_rfl, by kernel_rfl⟩
theorem ty56 : TyIs Try.prog 56 true 2 := fun w => ⟨by kernel_rfl, by kernel_rfl⟩
theorem ty59 : TyIs Try.prog 59 true 5 := fun w => ⟨by kernel_rfl, by kernel_rfl⟩
theorem ty78 : TyIs Try.prog 78 false 1 := fun w => ⟨by kernel_rfl, by kernel_rfl⟩
theorem ty80 : TyIs Try.prog 80 true 2 := fun w => ⟨by kernel_rfl, by kernel_rfl⟩
theorem ty82 : TyIs Try.prog 82 true 3 := fun w => ⟨by kernel_rfl, by kernel_rfl⟩
theorem ty84 : TyIs Try.prog 84 true 9 := fun w => ⟨by kernel_rfl, by kernel_rfl⟩
theorem ty119 : TyIs Try.prog 119 false 1 := fun w => ⟨by kernel_rfl, by kernel_rfl⟩
theorem ty124 : TyIs Try.prog 124 true 3 := fun w => ⟨by kernel_rfl, by kernel_rfl⟩
theorem ty128 : TyIs Try.prog 128 true 4 := fun w => ⟨by kernel_rfl, by kernel_rfl⟩
theorem sl22 : SlIs Try.prog 22 1 := ⟨3, false, by kernel_rfl, ty3⟩
theorem sl29 : SlIs Try.prog 29 5 := ⟨59, true, by kernel_rfl, ty59⟩
theorem sl42 : SlIs Try.prog 42 3 := ⟨82, true, by kernel_rfl, ty82⟩
theorem sl43 : SlIs Try.prog 43 3 := ⟨82, true, by kernel_rfl, ty82⟩
theorem sl55 : SlIs Try.prog 55 3 := ⟨54, true, by kernel_rfl, ty54⟩
theorem sl57 : SlIs Try.prog 57 2 := ⟨56, true, by kernel_rfl, ty56⟩
theorem sl78 : SlIs Try.prog 78 1 := ⟨119, false, by kernel_rfl, ty119⟩
end Go.Proofs.Ytdmpfhhhlhoeiaa
namespace Go.Proofs.Ytdmpfhhhlhoeiaa
open Go.RowKit
set_option linter.unusedVariables false
theorem k_signed {u w : World} {s : Bool} {x : Sl} {N K : Nat} (d : Dat u w) (h : NatN u x N K) : Calls Try.prog 69 #[.bool s, x.v] w (Post u w fun v u' => ∃ i : IL, v = i.v ∧ IntN u' i (Nt.sg s N) K) := by
 refine zzm (args := [.bool s, .slice x.a x.n x.c]) Try.func69 rfl Try.ntmps69 (rs := [.cell 4 80]) Try.results69 (le_b rfl) (le_b rfl) d ?_
 refine sq9 (zzk 4 ⟨80, [.bool false, .slice none 0 0]⟩ (zzb (sq9 (zza 5 (zB s) ?_))))
 rcases Bool.eq_false_or_eq_true s with hs11 | hs11
 ·refine zyq 6 (x := zB s) (zB true) (by rw [hs11]) (zza 7 (.v x.v) ?_ (hw := w1 1 true 6))
  refine zza 8 (zI x.n) ?_ (hw := w1 1 true 6)
  refine zza 9 (zB (decide ((0 : Int) < (x.n : Int)))) ?_ (hw := w1 1 true 6)
  refine zza 10 (zB (decide ((0 : Int) < (x.n : Int)))) (zza 11 (.v x.v) (zza 12 (.v (.agg #[.bool (decide ((0 : Int) < (x.n : Int))), x.v])) (zzj ⟨80, [.bool (decide ((0 : Int) < (x.n : Int))), x.v]⟩ ty80 ?_)))
  refine zzb (zzo (ret0 [.agg #[.bool (decide ((0 : Int) < (x.n : Int))), .slice x.a x.n x.c]] ⟨zzr ty80 zze, trivial⟩ fun u12 e13 => ?_))
  rw [hs11]
  exact ⟨⟨_, x⟩, rfl, signed_int (s := true) (h.ext e13)⟩
 ·refine zyq 6 (x := zB s) (zB false) (by rw [hs11]) (zzn 7 (uw 1 true false 6) (zzn 8 (uw 1 true false 6) (zzn 9 (uw 1 true false 6) (zza 10 (zB false) (zza 11 (.v x.v) (zza 12 (.v (.agg #[.bool false, x.v])) (zzj ⟨80, [.bool false, x.v]⟩ ty80 ?_)))))))
  refine zzb (zzo (ret0 [.agg #[.bool false, .slice x.a x.n x.c]] ⟨zzr ty80 zze, trivial⟩ fun u14 e15 => ?_))
  rw [hs11]
  exact ⟨⟨_, x⟩, rfl, signed_int (s := false) (h.ext e15)⟩
theorem k_intTrim {u w : World} {i1 : IL} {zN : Int} {K : Nat} (d : Dat u w) (hi1 : IntV u i1 zN K) (hK : K ≤ 500000000) : Calls Try.prog 92 #[i1.v] w (Post u w fun v u' => ∃ i : IL, v = i.v ∧ IntN u' i zN K) := by
 obtain ⟨N, hN, hzN⟩ := hi1
 refine zzm (args := [i1.v]) Try.func92 rfl Try.ntmps92 (rs := [.cell 2 80]) Try.results92 (le_b rfl) (le_b rfl) d ?_
 refine sq9 (zzk 1 ⟨80, i1.cs⟩ (zzk 2 ⟨80, [.bool false, .slice none 0 0]⟩ (zzb (zzd (zzz [0, 1, 0, 4, 12, 31, 63] [(0, []), (1, []), (2, []), (3, []), (4, []), (5, []), (6, [])] xv xv (zza 3 (.adr 1 0) (zzi 4 (zB i1.s) ty4 zzl (zza 5 (.adr 1 1) (zzi 6 (.v i1.m.v) ty78 zzl (zzg 7 70 [i1.m.v] ?_))))))))))
 intro w11 u11 e11 d11
 have k16 := k_natTrim d11 (hN.ext e11) xq
 with_reducible refine zPm k16 ?_
 rintro _ u14 g15 ⟨x12, rfl, h13⟩
 refine zzg 8 69 [.bool i1.s, x12.v] ?_
 intro w17 u17 e17 d17
 have k22 := k_signed d17 (s := i1.s) (h13.ext e17)
 with_reducible refine zPm k22 ?_
 rintro _ u20 g21 ⟨i18, rfl, h19⟩
 refine zzj ⟨80, i18.cs⟩ ty80 ?_
 refine zzb (zzo (ret0 [i18.v] ⟨zzr ty80 zze, trivial⟩ fun u23 e24 => ?_))
 refine ⟨i18, rfl, IntN.more (K := K) ?_ xq⟩
 rw [hzN]
 exact (h19.ext e24)
theorem k_intMul {u w : World} {i1 : IL} {zN : Int} {K : Nat} {i2 : IL} {zM : Int} {L : Nat} (d : Dat u w) (hi1 : IntV u i1 zN K) (hi2 : IntV u i2 zM L) (hK : K ≤ 500000000) (hL : L ≤ 500000000) : Calls Try.prog 78 #[i1.v, i2.v] w (Post u w fun v u' => ∃ i : IL, v = i.v ∧ IntN u' i (zN * zM) (K + L)) := by
 obtain ⟨N, hN, hzN⟩ := hi1
 obtain ⟨M, hM, hzM⟩ := hi2
 refine zzm (args := [i1.v, i2.v]) Try.func78 rfl Try.ntmps78 (rs := [.cell 4 80]) Try.results78 (le_b rfl) (le_b rfl) d ?_
 refine sq9 (zzk 2 ⟨80, i1.cs⟩ (zzk 3 ⟨80, i2.cs⟩ (zzk 4 ⟨80, [.bool false, .slice none 0 0]⟩ (zzb (zzd (zzz [0, 1, 0, 4, 15, 0, 32, 0, 128, 480, 1023, 2047] [(0, []), (1, []), (2, []), (3, []), (4, []), (5, []), (6, []), (7, []), (8, []), (9, []), (10, []), (11, [])] xv xv (zza 5 (.adr 2 0) (zzi 6 (zB i1.s) ty4 zzl (zza 7 (.adr 3 0) (zzi 8 (zB i2.s) ty4 zzl (zza 9 (zB (!(i1.s == i2.s))) ?_)))))))))))
 refine zza 10 (.adr 2 1) (zzi 11 (.v i1.m.v) ty78 zzl (zza 12 (.adr 3 1) (zzi 13 (.v i2.m.v) ty78 zzl (zzg 14 80 [i1.m.v, i2.m.v] ?_))))
 intro w11 u11 e11 d11
 have k16 := k_natMul d11 (hN.ext e11) (hM.ext e11) xq xq
 with_reducible refine zPm k16 ?_
 rintro _ u14 g15 ⟨x12, rfl, h13⟩
 refine zzg 15 69 [.bool (!(i1.s == i2.s)), x12.v] ?_
 intro w17 u17 e17 d17
 have k22 := k_signed d17 (s := !(i1.s == i2.s)) (h13.ext e17)
 with_reducible refine zPm k22 ?_
 rintro _ u20 g21 ⟨i18, rfl, h19⟩
 refine zzj ⟨80, i18.cs⟩ ty80 ?_
 refine zzb (zzo (ret0 [i18.v] ⟨zzr ty80 zze, trivial⟩ fun u23 e24 => ?_))
 refine ⟨i18, rfl, IntN.more (K := (K + L)) ?_ xq⟩
 rw [hzN, hzM, ← Nt.sg_mul]
 exact (h19.ext e24)
theorem k_intAdd {u w : World} {i1 : IL} {zN : Int} {K : Nat} {i2 : IL} {zM : Int} {L : Nat} (d : Dat u w) (hi1 : IntV u i1 zN K) (hi2 : IntV u i2 zM L) (hK : K ≤ 500000000) (hL : L ≤ 500000000) : Calls Try.prog 76 #[i1.v, i2.v] w (Post u w fun v u' => ∃ i : IL, v = i.v ∧ IntN u' i (zN + zM) (max K L + 1)) := by
 obtain ⟨N, hN, hzN⟩ := hi1
 obtain ⟨M, hM, hzM⟩ := hi2
 refine zzm (args := [i1.v, i2.v]) Try.func76 rfl Try.ntmps76 (rs := [.cell 4 80]) Try.results76 (le_b rfl) (le_b rfl) d ?_
 refine sq9 (zzk 2 ⟨80, i1.cs⟩ (zzk 3 ⟨80, i2.cs⟩ (zzk 4 ⟨80, [.bool false, .slice none 0 0]⟩ (zzb (zzd (sq9 (zza 5 (.adr 2 0) (zzi 6 (zB i1.s) ty4 zzl (zza 7 (.adr 3 0) (zzi 8 (zB i2.s) ty4 zzl (zza 9 (zB (i1.s == i2.s)) ?_)))))))))))
 refine zzb (zzu (b := i1.s == i2.s) xv (fun hb11 => ?_) (fun hb11 => ?_))
 ·replace hb11 : (i1.s == i2.s) = true := hb11
  refine zzd (zzz [0, 1, 0, 4, 0, 16, 60, 127, 255] [(0, []), (1, []), (2, []), (3, []), (4, []), (5, []), (6, []), (7, []), (8, [])] xv xv (zza 10 (.adr 2 0) (zzi 11 (zB i1.s) ty4 zzl (zza 12 (.adr 2 1) (zzi 13 (.v i1.m.v) ty78 zzl (zza 14 (.adr 3 1) (zzi 15 (.v i2.m.v) ty78 zzl (zzg 16 96 [i1.m.v, i2.m.v] ?_))))))))
  intro w12 u12 e12 d12
  have k17 := k_natAdd d12 (hN.ext e12) (hM.ext e12) xq xq
  with_reducible refine zPm k17 ?_
  rintro _ u15 g16 ⟨x13, rfl, h14⟩
  refine zzg 17 69 [.bool i1.s, x13.v] ?_
  intro w18 u18 e18 d18
  have k23 := k_signed d18 (s := i1.s) (h14.ext e18)
  with_reducible refine zPm k23 ?_
  rintro _ u21 g22 ⟨i19, rfl, h20⟩
  refine zzj ⟨80, i19.cs⟩ ty80 ?_
  refine zzb (zzo (zzw (ret0 [i19.v] ⟨zzr ty80 zze, trivial⟩ fun u24 e25 => ?_)))
  refine ⟨i19, rfl, IntN.more (K := (max K L + 1)) ?_ xq⟩
  rw [hzN, hzM, ← Nt.sg_add1 N M hb11]
  exact (h20.ext e25)
 ·replace hb11 : (i1.s == i2.s) = false := hb11
  refine zzs (zzp ?_)
  refine zzd (sq9 (zza 18 (.adr 2 1) (zzi 19 (.v i1.m.v) ty78 zzl (zza 20 (.adr 3 1) (zzi 21 (.v i2.m.v) ty78 zzl (zzg 22 77 [i1.m.v, i2.m.v] ?_))))))
  intro w26 u26 e26 d26
  have k29 := k_natCompare d26 (hN.ext e26) (hM.ext e26)
  with_reducible refine zPm k29 ?_
  rintro _ u27 g28 rfl
  refine zza 23 (zB ((Nt.cmpS N M) == (-1))) (zzb (zzu (b := (Nt.cmpS N M) == (-1)) xv (fun hb30 => ?_) (fun hb30 => ?_)))
  ·replace hb30 : ((Nt.cmpS N M) == (-1)) = true := hb30
   refine zzd (zzz [0, 1, 0, 4, 0, 16, 60, 127, 255] [(0, []), (1, []), (2, []), (3, []), (4, []), (5, []), (6, []), (7, []), (8, [])] xv xv (zza 24 (.adr 3 0) (zzi 25 (zB i2.s) ty4 zzl (zza 26 (.adr 3 1) (zzi 27 (.v i2.m.v) ty78 zzl (zza 28 (.adr 2 1) (zzi 29 (.v i1.m.v) ty78 zzl (zzg 30 97 [i2.m.v, i1.m.v] ?_))))))))
   intro w31 u31 e31 d31
   have k36 := k_natSub d31 (hM.ext (e26.trans (g28.ext.trans e31))) (hN.ext (e26.trans (g28.ext.trans e31))) xq xq
   with_reducible refine zPm k36 ?_
   rintro _ u34 g35 ⟨x32, rfl, h33⟩
   refine zzg 31 69 [.bool i2.s, x32.v] ?_
   intro w37 u37 e37 d37
   have k42 := k_signed d37 (s := i2.s) (h33.ext e37)
   with_reducible refine zPm k42 ?_
   rintro _ u40 g41 ⟨i38, rfl, h39⟩
   refine zzj ⟨80, i38.cs⟩ ty80 ?_
   refine zzb (zzo (zzw (ret0 [i38.v] ⟨zzr ty80 zze, trivial⟩ fun u43 e44 => ?_)))
   refine ⟨i38, rfl, IntN.more (K := L) ?_ xq⟩
   rw [hzN, hzM, ← Nt.sg_add2 N M hb11 hb30]
   exact (h39.ext e44)
  ·replace hb30 : ((Nt.cmpS N M) == (-1)) = false := hb30
   refine zzs (zzp ?_)
   refine zzd (zzz [0, 1, 0, 4, 0, 16, 60, 127, 255] [(0, []), (1, []), (2, []), (3, []), (4, []), (5, []), (6, []), (7, []), (8, [])] xv xv (zza 32 (.adr 2 0) (zzi 33 (zB i1.s) ty4 zzl (zza 34 (.adr 2 1) (zzi 35 (.v i1.m.v) ty78 zzl (zza 36 (.adr 3 1) (zzi 37 (.v i2.m.v) ty78 zzl (zzg 38 97 [i1.m.v, i2.m.v] ?_))))))))
   intro w45 u45 e45 d45
   have k50 := k_natSub d45 (hN.ext (e26.trans (g28.ext.trans e45))) (hM.ext (e26.trans (g28.ext.trans e45))) xq xq
   with_reducible refine zPm k50 ?_
   rintro _ u48 g49 ⟨x46, rfl, h47⟩
   refine zzg 39 69 [.bool i1.s, x46.v] ?_
   intro w51 u51 e51 d51
   have k56 := k_signed d51 (s := i1.s) (h47.ext e51)
   with_reducible refine zPm k56 ?_
   rintro _ u54 g55 ⟨i52, rfl, h53⟩
   refine zzj ⟨80, i52.cs⟩ ty80 ?_
   refine zzb (zzo (ret0 [i52.v] ⟨zzr ty80 zze, trivial⟩ fun u57 e58 => ?_))
   refine ⟨i52, rfl, IntN.more (K := K) ?_ xq⟩
   rw [hzN, hzM, ← Nt.sg_add3 N M hb11 hb30]
   exact (h53.ext e58)
theorem k_intSign {u w : World} {i1 : IL} {zN : Int} {K : Nat} (d : Dat u w) (hi1 : IntV u i1 zN K)  : Calls Try.prog 83 #[i1.v] w (Post u w fun v u' => v = .int .i64 (Nt.cmpS zN 0)) := by
 obtain ⟨N, hN, hzN⟩ := hi1
 refine zzm (args := [i1.v]) Try.func83 rfl Try.ntmps83 (rs := [.tmp 2]) Try.results83 (le_b rfl) (le_b rfl) d ?_
 refine sq9 (zzk 1 ⟨80, i1.cs⟩ (zza 2 (zI 0) (zzb (zzd (zzt (sq9 (zza 4 (.adr 1 1) (zzi 5 (.v i1.m.v) ty78 zzl (zzg 6 77 [i1.m.v, .slice none 0 0] ?_)))))))))
 intro w11 u11 e11 d11
 have k14 := k_natCompare d11 (hN.ext e11) (nat_nil _ 1)
 with_reducible refine zPm k14 ?_
 rintro _ u12 g13 rfl
 refine zza 7 (zB ((Nt.cmpS N 0) == 0)) (zza 3 (zB ((Nt.cmpS N 0) == 0)) (zzb (zzu (b := (Nt.cmpS N 0) == 0) xv (fun hb15 => ?_) (fun hb15 => ?_))))
 ·replace hb15 : ((Nt.cmpS N 0) == 0) = true := hb15
  refine sq9 (zza 2 (zI 0) (zzb (zzo (zyu (zzw (ret0 [.int .i64 0] ⟨zzq, trivial⟩ fun u16 e17 => ?_))))))
  show _ = _
  rw [hzN, Nt.sg_cmp0, if_pos hb15]
  rfl
 ·replace hb15 : ((Nt.cmpS N 0) == 0) = false := hb15
  refine sq9 (zza 9 (.adr 1 0) (zzi 10 (zB i1.s) ty4 zzl (zza 8 (zB i1.s) (zzb (zzu (b := i1.s) xv (fun hb18 => ?_) (fun hb18 => ?_))))))
  ·replace hb18 : i1.s = true := hb18
   refine sq9 (zza 2 (zI (-1)) (zzb (zzo (zyu (zzw (ret0 [.int .i64 (-1)] ⟨zzq, trivial⟩ fun u19 e20 => ?_))))))
   show _ = _
   rw [hzN, Nt.sg_cmp0, if_neg (ne_true_of_eq_false hb15), if_pos hb18]
   rfl
  ·replace hb18 : i1.s = false := hb18
   refine zzs (zzp ?_)
   refine sq9 (zza 2 (zI 1) (zzb (zzo (ret0 [.int .i64 1] ⟨zzq, trivial⟩ fun u21 e22 => ?_))))
   show _ = _
   rw [hzN, Nt.sg_cmp0, if_neg (ne_true_of_eq_false hb15), if_neg (ne_true_of_eq_false hb18)]
   rfl
namespace Nt
theorem cmp_sg (s t : Bool) (N M : Nat) : cmpS (sg s N) (sg t M) = if decide (cmpS (sg s N) 0 < cmpS (sg t M) 0) = true then -1 else if decide (cmpS (sg t M) 0 < cmpS (sg s N) 0) = true then 1 else if (cmpS (sg s N) 0 == -1) = true then cmpS (M : Int) (N : Int) else cmpS (N : Int) (M : Int) := by
 rcases cmp_range (sg s N) 0 with ⟨e, h⟩ | ⟨e, h⟩ | ⟨e, h⟩ <;> rcases cmp_range (sg t M) 0 with ⟨e', h'⟩ | ⟨e', h'⟩ | ⟨e', h'⟩ <;> rw [e, e'] <;> simp
 ·unfold sg at *; cases s <;> cases t <;> simp at h h' ⊢ <;> unfold cmpS <;> (repeat' split) <;> first | rfl | omega
 ·exact cmp_lt xq
 ·exact cmp_lt xq
 ·exact cmp_gt xq
 ·rw [h, h']; unfold sg at *; cases s <;> cases t <;> simp at h h' <;> rw [h, h'] <;> rfl
 ·exact cmp_lt xq
 ·exact cmp_gt xq
 ·exact cmp_gt xq
 ·unfold sg at *; cases s <;> cases t <;> simp at h h' ⊢ <;> first | rfl | omega
end Nt
theorem k_intCompare {u w : World} {i1 : IL} {zN : Int} {K : Nat} {i2 : IL} {zM : Int} {L : Nat} (d : Dat u w) (hi1 : IntV u i1 zN K) (hi2 : IntV u i2 zM L)  : Calls Try.prog 100 #[i1.v, i2.v] w (Post u w fun v u' => v = .int .i64 (Nt.cmpS zN zM)) := by
 obtain ⟨N, hN, hzN⟩ := hi1
 obtain ⟨M, hM, hzM⟩ := hi2
 refine zzm (args := [i1.v, i2.v]) Try.func100 rfl Try.ntmps100 (rs := [.tmp 4]) Try.results100 (le_b rfl) (le_b rfl) d ?_
 refine sq9 (zzk 2 ⟨80, i1.cs⟩ (zzk 3 ⟨80, i2.cs⟩ (zza 4 (zI 0) (zzb (zzd (zzz [0, 1, 0, 7, 15, 31] [(0, []), (2, []), (1, []), (3, []), (4, []), (5, [])] xv xv (zzi 7 (.v (i1.v)) ty80 zze (zzi 9 (.v (i2.v)) ty80 zze (zzg 8 83 [i1.v] ?_)))))))))
 intro w11 u11 e11 d11
 have k14 := k_intSign d11 (IntV.same (s := i1.s) (hN.ext e11))
 with_reducible refine zPm k14 ?_
 rintro _ u12 g13 rfl
 refine zzg 10 83 [i2.v] ?_
 intro w15 u15 e15 d15
 have k18 := k_intSign d15 (IntV.same (s := i2.s) (hM.ext (e11.trans (g13.ext.trans e15))))
 with_reducible refine zPm k18 ?_
 rintro _ u16 g17 rfl
 refine zza 5 (zI (Nt.cmpS (Nt.sg i1.s N) 0)) (zza 6 (zI (Nt.cmpS (Nt.sg i2.s M) 0)) (zzb (zzd (zzt (sq9 (zza 12 (zI (Nt.cmpS (Nt.sg i1.s N) 0)) (zza 13 (zI (Nt.cmpS (Nt.sg i2.s M) 0)) (zza 14 (zB (decide ((Nt.cmpS (Nt.sg i1.s N) 0) < (Nt.cmpS (Nt.sg i2.s M) 0)))) (zza 11 (zB (decide ((Nt.cmpS (Nt.sg i1.s N) 0) < (Nt.cmpS (Nt.sg i2.s M) 0)))) (zzb (zzu (b := decide ((Nt.cmpS (Nt.sg i1.s N) 0) < (Nt.cmpS (Nt.sg i2.s M) 0))) xv (fun hb19 => ?_) (fun hb19 => ?_))))))))))))
 ·replace hb19 : (decide ((Nt.cmpS (Nt.sg i1.s N) 0) < (Nt.cmpS (Nt.sg i2.s M) 0))) = true := hb19
  have qhb19 := of_decide_eq_true hb19
  refine sq9 (zza 4 (zI (-1)) (zzb (zzo (zyu (zzw (ret0 [.int .i64 (-1)] ⟨zzq, trivial⟩ fun u20 e21 => ?_))))))
  show _ = _
  rw [hzN, hzM, Nt.cmp_sg, if_pos hb19]
  rfl
 ·replace hb19 : (decide ((Nt.cmpS (Nt.sg i1.s N) 0) < (Nt.cmpS (Nt.sg i2.s M) 0))) = false := hb19
  have qhb19 := of_decide_eq_false hb19
  refine sq9 (zza 16 (zI (Nt.cmpS (Nt.sg i1.s N) 0)) (zza 17 (zI (Nt.cmpS (Nt.sg i2.s M) 0)) (zza 18 (zB (decide ((Nt.cmpS (Nt.sg i2.s M) 0) < (Nt.cmpS (Nt.sg i1.s N) 0)))) (zza 15 (zB (decide ((Nt.cmpS (Nt.sg i2.s M) 0) < (Nt.cmpS (Nt.sg i1.s N) 0)))) (zzb (zzu (b := decide ((Nt.cmpS (Nt.sg i2.s M) 0) < (Nt.cmpS (Nt.sg i1.s N) 0))) xv (fun hb22 => ?_) (fun hb22 => ?_)))))))
  ·replace hb22 : (decide ((Nt.cmpS (Nt.sg i2.s M) 0) < (Nt.cmpS (Nt.sg i1.s N) 0))) = true := hb22
   have qhb22 := of_decide_eq_true hb22
   refine sq9 (zza 4 (zI 1) (zzb (zzo (zyu (zzw (ret0 [.int .i64 1] ⟨zzq, trivial⟩ fun u23 e24 => ?_))))))
   show _ = _
   rw [hzN, hzM, Nt.cmp_sg, if_neg (ne_true_of_eq_false hb19), if_pos hb22]
   rfl
  ·replace hb22 : (decide ((Nt.cmpS (Nt.sg i2.s M) 0) < (Nt.cmpS (Nt.sg i1.s N) 0))) = false := hb22
   have qhb22 := of_decide_eq_false hb22
   refine sq9 (zza 20 (zI (Nt.cmpS (Nt.sg i1.s N) 0)) (zza 21 (zB ((Nt.cmpS (Nt.sg i1.s N) 0) == (-1))) (zza 19 (zB ((Nt.cmpS (Nt.sg i1.s N) 0) == (-1))) (zzb (zzu (b := (Nt.cmpS (Nt.sg i1.s N) 0) == (-1)) xv (fun hb25 => ?_) (fun hb25 => ?_))))))
   ·replace hb25 : ((Nt.cmpS (Nt.sg i1.s N) 0) == (-1)) = true := hb25
    refine sq9 (zza 22 (.adr 3 1) (zzi 23 (.v i2.m.v) ty78 zzl (zza 24 (.adr 2 1) (zzi 25 (.v i1.m.v) ty78 zzl (zzg 26 77 [i2.m.v, i1.m.v] ?_)))))
    intro w26 u26 e26 d26
    have k29 := k_natCompare d26 (hM.ext (e11.trans (g13.ext.trans (e15.trans (g17.ext.trans e26))))) (hN.ext (e11.trans (g13.ext.trans (e15.trans (g17.ext.trans e26)))))
    with_reducible refine zPm k29 ?_
    rintro _ u27 g28 rfl
    refine zza 4 (zI (Nt.cmpS M N)) (zzb (zzo (zyu (zzw (ret0 [.int .i64 (Nt.cmpS M N)] ⟨zzq, trivial⟩ fun u30 e31 => ?_)))))
    show _ = _
    rw [hzN, hzM, Nt.cmp_sg, if_neg (ne_true_of_eq_false hb19), if_neg (ne_true_of_eq_false hb22), if_pos hb25]
    rfl
   ·replace hb25 : ((Nt.cmpS (Nt.sg i1.s N) 0) == (-1)) = false := hb25
    refine zzs (zzp ?_)
    refine sq9 (zza 27 (.adr 2 1) (zzi 28 (.v i1.m.v) ty78 zzl (zza 29 (.adr 3 1) (zzi 30 (.v i2.m.v) ty78 zzl (zzg 31 77 [i1.m.v, i2.m.v] ?_)))))
    intro w32 u32 e32 d32
    have k35 := k_natCompare d32 (hN.ext (e11.trans (g13.ext.trans (e15.trans (g17.ext.trans e32))))) (hM.ext (e11.trans (g13.ext.trans (e15.trans (g17.ext.trans e32)))))
    with_reducible refine zPm k35 ?_
    rintro _ u33 g34 rfl
    refine zza 4 (zI (Nt.cmpS N M)) (zzb (zzo (ret0 [.int .i64 (Nt.cmpS N M)] ⟨zzq, trivial⟩ fun u36 e37 => ?_)))
    show _ = _
    rw [hzN, hzM, Nt.cmp_sg, if_neg (ne_true_of_eq_false hb19), if_neg (ne_true_of_eq_false hb22), if_neg (ne_true_of_eq_false hb25)]
    rfl
theorem k_intOf {u w : World} {z : Int} (d : Dat u w) (h0 : -9223372036854775808 ≤ z) (h1 : z ≤ 9223372036854775807) : Calls Try.prog 47 #[.int .i64 z] w (Post u w fun v u' => ∃ i : IL, v = i.v ∧ IntN u' i z 2) := by
 by_cases hneg : z < 0
 ·refine zzm (args := [.int .i64 z]) Try.func47 rfl Try.ntmps47 (rs := [.cell 2 80]) Try.results47 (le_b rfl) (le_b rfl) d ?_
  refine sq9 (zzk 2 ⟨80, [.bool false, .slice none 0 0]⟩ (zzb (sq9 (zza 4 (zI z) (zyq 5 (x := .v (.int .u64 (IntKind.u64.wrap z))) (.v (.int .u64 (z + 18446744073709551616))) (by rw [show (IntKind.u64.wrap z) = (z + 18446744073709551616) from (by simp [IntKind.wrap, IntKind.bits, IntKind.signed]; omega)]) (zza 3 (.v (.int .u64 (z + 18446744073709551616))) (zzb (zzd (sq9 (zza 6 (zI z) (zyq 7 (x := zB (decide (z < 0))) (zB true) (by rw [show (decide (z < 0)) = true from yz]) ?_)))))))))))
  refine zzb (zyr xv (zzf (zza 8 (.v (.int .u64 (z + 18446744073709551616))) (zyq 9 (x := .v (.int .u64 (IntKind.u64.wrap (0 - (z + 18446744073709551616))))) (.v (.int .u64 (-z))) (by rw [show (IntKind.u64.wrap (0 - (z + 18446744073709551616))) = (-z) from (by simp [IntKind.wrap, IntKind.bits, IntKind.signed]; omega)]) (zza 3 (.v (.int .u64 (-z))) (zzb (sq9 (zza 10 (zI z) (zyq 11 (x := zB (decide (z < 0))) (zB true) (by rw [show (decide (z < 0)) = true from yz]) (zza 12 (.v (.int .u64 (-z))) (zyq 13 (x := .v (.int .u32 (IntKind.u32.wrap (-z)))) (.v (.int .u32 ((-z) % 4294967296))) (by rw [show (IntKind.u32.wrap (-z)) = ((-z) % 4294967296) from (IntKind.wrap_u32 _)]) ?_)))))))))))
  refine zza 14 (.v (.int .u64 (-z))) (zyq 15 (x := .v (.int .u64 (Int.fdiv (-z) (2 ^ 32)))) (.v (.int .u64 ((-z) / 4294967296))) (by rw [show (Int.fdiv (-z) (2 ^ 32)) = ((-z) / 4294967296) from (by rw [Int.fdiv_eq_ediv_of_nonneg _ xw]; rfl)]) (zyq 16 (x := .v (.int .u32 (IntKind.u32.wrap ((-z) / 4294967296)))) (.v (.int .u32 ((-z) / 4294967296))) (by rw [show (IntKind.u32.wrap ((-z) / 4294967296)) = ((-z) / 4294967296) from (IntWalk.u32_in _ xq)]) (zxx 17 ⟨119, [.int .u32 ((-z) % 4294967296), .int .u32 ((-z) / 4294967296)]⟩ 2 (fun b11 u12 e13 h14 => ?_))))
  refine zzg 18 70 [.slice (some ⟨b11, 0, none⟩) 2 2] ?_
  intro w15 u15 e15 d15
  have k20 := k_natTrim d15 ((two_data (N := z.natAbs) h14 xq xq xq).ext e15) xq
  with_reducible refine zPm k20 ?_
  rintro _ u18 g19 ⟨x16, rfl, h17⟩
  refine zzg 19 69 [.bool true, x16.v] ?_
  intro w21 u21 e21 d21
  have k26 := k_signed d21 (s := true) (h17.ext e21)
  with_reducible refine zPm k26 ?_
  rintro _ u24 g25 ⟨i22, rfl, h23⟩
  refine zzj ⟨80, i22.cs⟩ ty80 ?_
  refine zzb (zzo (ret0 [i22.v] ⟨zzr ty80 zze, trivial⟩ fun u27 e28 => ?_))
  refine ⟨i22, rfl, IntN.more (K := 2) ?_ xq⟩
  have e : z = Nt.sg true z.natAbs := by unfold Nt.sg; simp; omega
  rw [e]
  exact (h23.ext e28)
 ·refine zzm (args := [.int .i64 z]) Try.func47 rfl Try.ntmps47 (rs := [.cell 2 80]) Try.results47 (le_b rfl) (le_b rfl) d ?_
  refine sq9 (zzk 2 ⟨80, [.bool false, .slice none 0 0]⟩ (zzb (sq9 (zza 4 (zI z) (zyq 5 (x := .v (.int .u64 (IntKind.u64.wrap z))) (.v (.int .u64 (z))) (by rw [show (IntKind.u64.wrap z) = z from (by simp [IntKind.wrap, IntKind.bits, IntKind.signed]; omega)]) (zza 3 (.v (.int .u64 z)) (zzb (zzd (sq9 (zza 6 (zI z) (zyq 7 (x := zB (decide (z < 0))) (zB false) (by rw [show (decide (z < 0)) = false from yz]) ?_)))))))))))
  refine zzb (zys xv (zzs (zzp ?_)))
  refine sq9 (zza 10 (zI z) (zyq 11 (x := zB (decide (z < 0))) (zB false) (by rw [show (decide (z < 0)) = false from yz]) (zza 12 (.v (.int .u64 z)) (zyq 13 (x := .v (.int .u32 (IntKind.u32.wrap (z)))) (.v (.int .u32 ((z) % 4294967296))) (by rw [show (IntKind.u32.wrap (z)) = ((z) % 4294967296) from (IntKind.wrap_u32 _)]) (zza 14 (.v (.int .u64 z)) (zyq 15 (x := .v (.int .u64 (Int.fdiv (z) (2 ^ 32)))) (.v (.int .u64 ((z) / 4294967296))) (by rw [show (Int.fdiv (z) (2 ^ 32)) = ((z) / 4294967296) from (by rw [Int.fdiv_eq_ediv_of_nonneg _ xw]; rfl)]) (zyq 16 (x := .v (.int .u32 (IntKind.u32.wrap ((z) / 4294967296)))) (.v (.int .u32 ((z) / 4294967296))) (by rw [show (IntKind.u32.wrap ((z) / 4294967296)) = ((z) / 4294967296) from (IntWalk.u32_in _ xq)]) (zxx 17 ⟨119, [.int .u32 ((z) % 4294967296), .int .u32 ((z) / 4294967296)]⟩ 2 (fun b11 u12 e13 h14 => ?_)))))))))
  refine zzg 18 70 [.slice (some ⟨b11, 0, none⟩) 2 2] ?_
  intro w15 u15 e15 d15
  have k20 := k_natTrim d15 ((two_data (N := z.natAbs) h14 xq xq xq).ext e15) xq
  with_reducible refine zPm k20 ?_
  rintro _ u18 g19 ⟨x16, rfl, h17⟩
  refine zzg 19 69 [.bool false, x16.v] ?_
  intro w21 u21 e21 d21
  have k26 := k_signed d21 (s := false) (h17.ext e21)
  with_reducible refine zPm k26 ?_
  rintro _ u24 g25 ⟨i22, rfl, h23⟩
  refine zzj ⟨80, i22.cs⟩ ty80 ?_
  refine zzb (zzo (ret0 [i22.v] ⟨zzr ty80 zze, trivial⟩ fun u27 e28 => ?_))
  refine ⟨i22, rfl, IntN.more (K := 2) ?_ xq⟩
  have e : z = Nt.sg false z.natAbs := by unfold Nt.sg; simp; omega
  rw [e]
  exact (h23.ext e28)
theorem k_natural {u w : World} {x : Sl} (d : Dat u w) : Calls Try.prog 79 #[x.v] w (Post u w fun v _ => v = .agg #[.bool false, x.v]) := by
 refine zzm (args := [.slice x.a x.n x.c]) Try.func79 rfl Try.ntmps79 (rs := [.cell 2 80]) Try.results79 (le_b rfl) (le_b rfl) d ?_
 refine sq9 (zzk 2 ⟨80, [.bool false, .slice none 0 0]⟩ (zzb (sq9 (zza 3 (.v x.v) (zza 4 (.v (.agg #[.bool false, x.v])) (zzj ⟨80, [.bool false, x.v]⟩ ty80 ?_))))))
 refine zzb (zzo (ret0 [.agg #[.bool false, .slice x.a x.n x.c]] ⟨zzr ty80 zze, trivial⟩ fun u11 e12 => ?_))
 exact rfl
theorem k_whole {u w : World} {i : IL} (d : Dat u w) : Calls Try.prog 46 #[i.v] w (Post u w fun v u' => ∃ y : Sl, v = .agg #[.bool i.s, i.m.v, y.v] ∧ NatN u' y 1 1) := by
 refine zzm (args := [i.v]) Try.func46 rfl Try.ntmps46 (rs := [.cell 2 82]) Try.results46 (le_b rfl) (le_b rfl) d ?_
 refine sq9 (zzk 1 ⟨80, i.cs⟩ (zzk 2 ⟨82, [.bool false, .slice none 0 0, .slice none 0 0]⟩ (zzb (sq9 (zzi 3 (.v (i.v)) ty80 zze (zxx 4 ⟨119, [.int .u32 1]⟩ 1 (fun b11 u12 e13 h14 => ?_)))))))
 refine zza 5 (.v (.agg #[.bool i.s, i.m.v, .slice (some ⟨b11, 0, none⟩) 1 1])) (zzj ⟨82, i.cs ++ [.slice (some ⟨b11, 0, none⟩) 1 1]⟩ ty82 ?_)
 refine zzb (zzo (ret0 [.agg #[.bool i.s, .slice i.m.a i.m.n i.m.c, .slice (some ⟨b11, 0, none⟩) 1 1]] ⟨zzr ty82 zze, trivial⟩ fun u15 e16 => ?_))
 exact ⟨_, rfl, ((one_data h14).ext e16)⟩
theorem k_quotient {u w : World} {i j : IL} (d : Dat u w) : Calls Try.prog 71 #[i.v, j.v] w (Post u w fun v _ => v = .agg #[.bool (!(i.s == j.s)), i.m.v, j.m.v]) := by
 refine zzm (args := [i.v, j.v]) Try.func71 rfl Try.ntmps71 (rs := [.cell 4 124]) Try.results71 (le_b rfl) (le_b rfl) d ?_
 refine sq9 (zzk 2 ⟨80, i.cs⟩ (zzk 3 ⟨80, j.cs⟩ (zzk 4 ⟨124, [.bool false, .slice none 0 0, .slice none 0 0]⟩ (zzb (sq9 (zza 5 (.adr 2 0) (zzi 6 (zB i.s) ty4 zzl (zza 7 (.adr 3 0) (zzi 8 (zB j.s) ty4 zzl (zza 9 (zB (!(i.s == j.s))) (zza 10 (.adr 2 1) ?_)))))))))))
 refine zzi 11 (.v i.m.v) ty78 zzl (zza 12 (.v (.agg #[.bool (!(i.s == j.s)), i.m.v])) (zza 13 (.adr 3 1) (zzi 14 (.v j.m.v) ty78 zzl (zza 15 (.v (.agg #[.bool (!(i.s == j.s)), i.m.v, j.m.v])) (zzj ⟨124, [.bool (!(i.s == j.s)), i.m.v, j.m.v]⟩ ty124 ?_)))))
 refine zzb (zzo (ret0 [.agg #[.bool (!(i.s == j.s)), .slice i.m.a i.m.n i.m.c, .slice j.m.a j.m.n j.m.c]] ⟨zzr ty124 zze, trivial⟩ fun u11 e12 => ?_))
 exact rfl
theorem k_flip {u w : World} {r : RL} (d : Dat u w) : Calls Try.prog 86 #[r.v] w (Post u w fun v _ => v = .agg #[.bool (!r.s), r.m.v, r.d.v]) := by
 refine zzm (args := [r.v]) Try.func86 rfl Try.ntmps86 (rs := [.cell 2 82]) Try.results86 (le_b rfl) (le_b rfl) d ?_
 refine sq9 (zzk 1 ⟨82, r.cs⟩ (zzk 2 ⟨82, [.bool false, .slice none 0 0, .slice none 0 0]⟩ (zzb (sq9 (zza 3 (.adr 1 0) (zza 4 (.adr 1 0) (zzi 5 (zB r.s) ty4 zzl (zza 6 (zB (!r.s)) (zza 7 (.adr 1 0) (zza 8 (.adr 1 1) (zzi 9 (.v r.m.v) ty78 zzl ?_)))))))))))
 refine zza 10 (.v (.agg #[.bool (!r.s), r.m.v])) (zza 11 (.adr 1 2) (zzi 12 (.v r.d.v) ty78 zzl (zza 13 (.v (.agg #[.bool (!r.s), r.m.v, r.d.v])) (zzj ⟨82, [.bool (!r.s), r.m.v, r.d.v]⟩ ty82 ?_))))
 refine zzb (zzo (ret0 [.agg #[.bool (!r.s), .slice r.m.a r.m.n r.m.c, .slice r.d.a r.d.n r.d.c]] ⟨zzr ty82 zze, trivial⟩ fun u11 e12 => ?_))
 exact rfl
set_option maxHeartbeats 1000000 in
theorem k_read {u w : World} {r : RL} {q : Rat} {K : Nat} (d : Dat u w) (h : RatV u r q K) : Calls Try.prog 75 #[r.v] w (Post u w fun v u' => ∃ (r' : RL) (wh : Bool), v = .agg #[.bool r'.s, r'.m.v, r'.d.v, .bool wh] ∧ NumV u' r' wh q K) := by
 obtain ⟨⟨z, D, hi, hd, hq⟩, hK⟩ := h
 change IntV u ⟨r.s, r.m⟩ z K at hi
 change NatV u r.d D K at hd
 by_cases hn : r.d.n = 1
 ·obtain ⟨b, o, ha, hc⟩ := nat_digit hd hn
  by_cases hD : D = 1
  ·refine zzm (args := [r.v]) Try.func75 rfl Try.ntmps75 (rs := [.cell 2 128]) Try.results75 (le_b rfl) (le_b rfl) d ?_
   refine sq9 (zzk 1 ⟨82, r.cs⟩ (zzk 2 ⟨128, [.bool false, .slice none 0 0, .slice none 0 0, .bool false]⟩ (zzb (zzd (sq9 (zza 3 (.adr 1 2) (zzi 4 (.v r.d.v) ty78 zzl (zza 5 (zI r.d.n) (zyq 6 (x := zB ((r.d.n : Int) == 1)) (zB true) (by rw [show ((r.d.n : Int) == 1) = true from (by simp [hn])]) (zza 7 (zB true) (zza 8 (.adr 1 2) ?_ (hw := w1 4 true 7))))))))))))
   refine zzi 9 (.v r.d.v) ty78 zzl ?_ (hw := w1 4 true 7)
   refine zya 10 o (i := 0) (n := r.d.n) zq ha xq (by rw [hn]; decide) sl78 ?_ (hw := w1 4 true 7)
   refine zyl 11 (.int .u32 D) ((Ext.refl _).cell hc) ty119 ?_ (hw := w1 4 true 7)
   refine zyq 12 (x := zB ((D : Int) == 1)) (zB true) (by rw [show ((D : Int) == 1) = true from (by simp [hD])]) ?_ (hw := w1 4 true 7)
   refine zza 13 (zB true) (zzb (zyr xv (sq9 (zza 14 (.adr 1 0) (zzi 15 (.v (.agg #[.bool r.s, r.m.v])) ty80 zze (zza 16 (.adr 1 2) (zzi 17 (.v r.d.v) ty78 zzl (zza 18 (.v (r.v)) (zza 19 (.v (.agg #[.bool r.s, r.m.v, r.d.v, .bool true])) (zzj ⟨128, r.cs ++ [.bool true]⟩ ty128 ?_))))))))))
   refine zzb (zzo (zzw (ret0 [.agg #[.bool r.s, .slice r.m.a r.m.n r.m.c, .slice r.d.a r.d.n r.d.c, .bool true]] ⟨zzr ty128 zze, trivial⟩ fun u11 e12 => ?_)))
   exact ⟨r, true, rfl, z, D, hi.ext e12, hd.ext e12, by omega, hq, fun _ => hD, hK⟩
  ·refine zzm (args := [r.v]) Try.func75 rfl Try.ntmps75 (rs := [.cell 2 128]) Try.results75 (le_b rfl) (le_b rfl) d ?_
   refine sq9 (zzk 1 ⟨82, r.cs⟩ (zzk 2 ⟨128, [.bool false, .slice none 0 0, .slice none 0 0, .bool false]⟩ (zzb (zzd (sq9 (zza 3 (.adr 1 2) (zzi 4 (.v r.d.v) ty78 zzl (zza 5 (zI r.d.n) (zyq 6 (x := zB ((r.d.n : Int) == 1)) (zB true) (by rw [show ((r.d.n : Int) == 1) = true from (by simp [hn])]) (zza 7 (zB true) (zza 8 (.adr 1 2) ?_ (hw := w1 4 true 7))))))))))))
   refine zzi 9 (.v r.d.v) ty78 zzl ?_ (hw := w1 4 true 7)
   refine zya 10 o (i := 0) (n := r.d.n) zq ha xq (by rw [hn]; decide) sl78 ?_ (hw := w1 4 true 7)
   refine zyl 11 (.int .u32 D) ((Ext.refl _).cell hc) ty119 ?_ (hw := w1 4 true 7)
   refine zyq 12 (x := zB ((D : Int) == 1)) (zB false) (by rw [show ((D : Int) == 1) = false from yz]) ?_ (hw := w1 4 true 7)
   refine zza 13 (zB false) (zzb (zys xv (zzs (zzp ?_))))
   refine zzd (sq9 (zza 20 (.adr 1 2) (zzi 21 (.v r.d.v) ty78 zzl (zzg 22 77 [r.d.v, .slice none 0 0] ?_))))
   intro w11 u11 e11 d11
   have k14 := k_natCompare d11 (hd.ext e11) (nat_nil _ 1)
   with_reducible refine zPm k14 ?_
   rintro _ u12 g13 rfl
   refine zza 23 (zB ((Nt.cmpS D 0) == 0)) (zzb (zzu (b := (Nt.cmpS D 0) == 0) xv (fun hb15 => ?_) (fun hb15 => ?_)))
   ·replace hb15 : ((Nt.cmpS D 0) == 0) = true := hb15
    refine sq9 (zza 24 (.v (.agg #[.bool false, .slice none 0 0])) (zxx 25 ⟨119, [.int .u32 1]⟩ 1 (fun b16 u17 e18 h19 => ?_)))
    refine zza 26 (.v (.agg #[.bool false, .slice none 0 0, .slice (some ⟨b16, 0, none⟩) 1 1])) (zza 27 (.v (.agg #[.bool false, .slice none 0 0, .slice (some ⟨b16, 0, none⟩) 1 1, .bool true])) (zzj ⟨128, [.bool false, .slice none 0 0, .slice (some ⟨b16, 0, none⟩) 1 1, .bool true]⟩ ty128 ?_))
    refine zzb (zzo (zzw (ret0 [.agg #[.bool false, .slice none 0 0, .slice (some ⟨b16, 0, none⟩) 1 1, .bool true]] ⟨zzr ty128 zze, trivial⟩ fun u20 e21 => ?_)))
    have hD0 : D = 0 := (Nt.cmp_nat0 hb15).1 rfl
    refine ⟨⟨false, ⟨none, 0, 0⟩, (⟨some ⟨b16, 0, none⟩, 1, 1⟩ : Sl)⟩, true, rfl, 0, 1, (⟨0, nat_nil _ K, rfl⟩ : IntV _ ⟨false, ⟨none, 0, 0⟩⟩ 0 K), ((one_data h19).ext e21).raw.more hK, by omega, ?_, fun _ => rfl, hK⟩
    rw [hq, hD0]; simp
   ·replace hb15 : ((Nt.cmpS D 0) == 0) = false := hb15
    refine zzs (zzp ?_)
    refine sq9 (zza 28 (.adr 1 0) (zzi 29 (.v (.agg #[.bool r.s, r.m.v])) ty80 zze (zza 30 (.adr 1 2) (zzi 31 (.v r.d.v) ty78 zzl (zza 32 (.v (r.v)) (zza 33 (.v (.agg #[.bool r.s, r.m.v, r.d.v, .bool false])) (zzj ⟨128, r.cs ++ [.bool false]⟩ ty128 ?_)))))))
    refine zzb (zzo (ret0 [.agg #[.bool r.s, .slice r.m.a r.m.n r.m.c, .slice r.d.a r.d.n r.d.c, .bool false]] ⟨zzr ty128 zze, trivial⟩ fun u22 e23 => ?_))
    have hD0 : 0 < D := (Nt.cmp_nat0 hb15).2 rfl
    exact ⟨r, false, rfl, z, D, hi.ext (e11.trans (g13.ext.trans e23)), hd.ext (e11.trans (g13.ext.trans e23)), hD0, hq, (fun k => by cases k), hK⟩
 ·refine zzm (args := [r.v]) Try.func75 rfl Try.ntmps75 (rs := [.cell 2 128]) Try.results75 (le_b rfl) (le_b rfl) d ?_
  refine sq9 (zzk 1 ⟨82, r.cs⟩ (zzk 2 ⟨128, [.bool false, .slice none 0 0, .slice none 0 0, .bool false]⟩ (zzb (zzd (sq9 (zza 3 (.adr 1 2) (zzi 4 (.v r.d.v) ty78 zzl (zza 5 (zI r.d.n) (zyq 6 (x := zB ((r.d.n : Int) == 1)) (zB false) (by rw [show ((r.d.n : Int) == 1) = false from yz]) (zza 7 (zB false) (zzn 8 (uw 4 true false 7) ?_)))))))))))
  refine zzn 9 (uw 4 true false 7) (zzn 10 (uw 4 true false 7) (zzn 11 (uw 4 true false 7) (zzn 12 (uw 4 true false 7) (zza 13 (zB false) (zzb (zys xv (zzs (zzp ?_))))))))
  refine zzd (sq9 (zza 20 (.adr 1 2) (zzi 21 (.v r.d.v) ty78 zzl (zzg 22 77 [r.d.v, .slice none 0 0] ?_))))
  intro w11 u11 e11 d11
  have k14 := k_natCompare d11 (hd.ext e11) (nat_nil _ 1)
  with_reducible refine zPm k14 ?_
  rintro _ u12 g13 rfl
  refine zza 23 (zB ((Nt.cmpS D 0) == 0)) (zzb (zzu (b := (Nt.cmpS D 0) == 0) xv (fun hb15 => ?_) (fun hb15 => ?_)))
  ·replace hb15 : ((Nt.cmpS D 0) == 0) = true := hb15
   refine sq9 (zza 24 (.v (.agg #[.bool false, .slice none 0 0])) (zxx 25 ⟨119, [.int .u32 1]⟩ 1 (fun b16 u17 e18 h19 => ?_)))
   refine zza 26 (.v (.agg #[.bool false, .slice none 0 0, .slice (some ⟨b16, 0, none⟩) 1 1])) (zza 27 (.v (.agg #[.bool false, .slice none 0 0, .slice (some ⟨b16, 0, none⟩) 1 1, .bool true])) (zzj ⟨128, [.bool false, .slice none 0 0, .slice (some ⟨b16, 0, none⟩) 1 1, .bool true]⟩ ty128 ?_))
   refine zzb (zzo (zzw (ret0 [.agg #[.bool false, .slice none 0 0, .slice (some ⟨b16, 0, none⟩) 1 1, .bool true]] ⟨zzr ty128 zze, trivial⟩ fun u20 e21 => ?_)))
   have hD0 : D = 0 := (Nt.cmp_nat0 hb15).1 rfl
   refine ⟨⟨false, ⟨none, 0, 0⟩, (⟨some ⟨b16, 0, none⟩, 1, 1⟩ : Sl)⟩, true, rfl, 0, 1, (⟨0, nat_nil _ K, rfl⟩ : IntV _ ⟨false, ⟨none, 0, 0⟩⟩ 0 K), ((one_data h19).ext e21).raw.more hK, by omega, ?_, fun _ => rfl, hK⟩
   rw [hq, hD0]; simp
  ·replace hb15 : ((Nt.cmpS D 0) == 0) = false := hb15
   refine zzs (zzp ?_)
   refine sq9 (zza 28 (.adr 1 0) (zzi 29 (.v (.agg #[.bool r.s, r.m.v])) ty80 zze (zza 30 (.adr 1 2) (zzi 31 (.v r.d.v) ty78 zzl (zza 32 (.v (r.v)) (zza 33 (.v (.agg #[.bool r.s, r.m.v, r.d.v, .bool false])) (zzj ⟨128, r.cs ++ [.bool false]⟩ ty128 ?_)))))))
   refine zzb (zzo (ret0 [.agg #[.bool r.s, .slice r.m.a r.m.n r.m.c, .slice r.d.a r.d.n r.d.c, .bool false]] ⟨zzr ty128 zze, trivial⟩ fun u22 e23 => ?_))
   have hD0 : 0 < D := (Nt.cmp_nat0 hb15).2 rfl
   exact ⟨r, false, rfl, z, D, hi.ext (e11.trans (g13.ext.trans e23)), hd.ext (e11.trans (g13.ext.trans e23)), hD0, hq, (fun k => by cases k), hK⟩
theorem k_isOne {u w : World} {x : Sl} {N K : Nat} (d : Dat u w) (h : NatN u x N K) : Calls Try.prog 94 #[x.v] w (Post u w fun v _ => v = .bool (decide (N = 1))) := by
 by_cases hn : x.n = 1
 ·obtain ⟨b, o, ha, hc⟩ := nat_digit h.raw hn
  refine zzm (args := [.slice x.a x.n x.c]) Try.func94 rfl Try.ntmps94 (rs := [.tmp 2]) Try.results94 (le_b rfl) (le_b rfl) d ?_
  refine sq9 (zza 2 (zB false) (zzb (sq9 (zza 3 (.v x.v) (zza 4 (zI x.n) (zyq 5 (x := zB ((x.n : Int) == 1)) (zB true) (by rw [show ((x.n : Int) == 1) = true from (by simp [hn])]) (zza 6 (zB true) (zza 7 (.v x.v) ?_ (hw := w1 3 true 6)))))))))
  refine zya 8 o (i := 0) (n := x.n) zq ha xq (by rw [hn]; decide) sl78 ?_ (hw := w1 3 true 6)
  refine zyl 9 (.int .u32 N) ((Ext.refl _).cell hc) ty119 ?_ (hw := w1 3 true 6)
  refine zza 10 (zB ((N : Int) == 1)) ?_ (hw := w1 3 true 6)
  refine zza 11 (zB ((N : Int) == 1)) (zza 2 (zB ((N : Int) == 1)) (zzb (zzo (ret0 [.bool ((N : Int) == 1)] ⟨zzq, trivial⟩ fun u11 e12 => ?_))))
  show Value.bool _ = Value.bool _
  congr 1
  rw [Bool.eq_iff_iff]
  simp <;> omega
 ·have hN : N ≠ 1 := fun e => hn (by rw [h.1, e, Nt.dl_one])
  refine zzm (args := [.slice x.a x.n x.c]) Try.func94 rfl Try.ntmps94 (rs := [.tmp 2]) Try.results94 (le_b rfl) (le_b rfl) d ?_
  refine sq9 (zza 2 (zB false) (zzb (sq9 (zza 3 (.v x.v) (zza 4 (zI x.n) (zyq 5 (x := zB ((x.n : Int) == 1)) (zB false) (by rw [show ((x.n : Int) == 1) = false from yz]) (zza 6 (zB false) (zzn 7 (uw 3 true false 6) (zzn 8 (uw 3 true false 6) (zzn 9 (uw 3 true false 6) (zzn 10 (uw 3 true false 6) ?_)))))))))))
  refine zza 11 (zB false) (zza 2 (zB false) (zzb (zzo (ret0 [.bool false] ⟨zzq, trivial⟩ fun u11 e12 => ?_))))
  show _ = _
  simp [tupV]
  exact hN
set_option maxHeartbeats 1000000 in
theorem k_lowest {u w : World} {i : IL} {z : Int} {y : Sl} {D K L : Nat} (d : Dat u w) (h1 : IntV u i z K) (hD : NatV u y D L) (hp : 0 < D) (hK : K ≤ 500000000) (hL : L ≤ 500000000) : Calls Try.prog 72 #[.agg #[.bool i.s, i.m.v, y.v]] w (Post u w fun v u' => ∃ r : RL, v = r.v ∧ RatN u' r (mkRat z D) (max K L)) := by
 obtain ⟨N, hN, hz⟩ := h1
 have hL1 : 1 ≤ L := by have h2 := hD.size; have h3 := Nt.dl_mono (x := D) (y := 1) xq; rw [Nt.dl_one] at h3; omega
 refine zzm (args := [.agg #[.bool i.s, .slice i.m.a i.m.n i.m.c, .slice y.a y.n y.c]]) Try.func72 rfl Try.ntmps72 (rs := [.cell 2 82]) Try.results72 (le_b rfl) (le_b rfl) d ?_
 refine sq9 (zzk 1 ⟨124, i.cs ++ [y.v]⟩ (zzk 2 ⟨82, [.bool false, .slice none 0 0, .slice none 0 0]⟩ (zzb (sq9 (zza 14 (.adr 1 0) (zza 15 (.adr 1 1) (zzi 16 (.v i.m.v) ty78 zzl (zza 17 (.adr 1 2) (zzi 18 (.v y.v) ty78 zzl (zzg 19 91 [i.m.v, y.v] ?_))))))))))
 intro w11 u11 e11 d11
 have k18 := k_natDivMod d11 (hN.ext e11) (hD.ext e11) hp xq xq
 with_reducible refine zPm k18 ?_
 rintro _ u16 g17 ⟨x12, x13, rfl, h14, h15⟩
 refine zza 13 (.v (.tuple #[x12.v, x13.v, .int .i64 0])) (zza 20 (.v x12.v) (zza 21 (.v x13.v) (zza 22 (zI 0) (zza 3 (.v x12.v) (zza 4 (.v x13.v) (zza 5 (zI 0) (zzb (zzd (sq9 (zza 23 (.v x13.v) (zza 24 (zI x13.n) ?_)))))))))))
 refine zza 25 (zB ((x13.n : Int) == 0)) (zzb (zzu (b := (x13.n : Int) == 0) xv (fun hb19 => ?_) (fun hb19 => ?_)))
 ·replace hb19 : ((x13.n : Int) == 0) = true := hb19
  have qhb19 : (x13.n : Int) = 0 := by simpa using hb19
  have hr : N % D = 0 := by have h7 := (h15).pos; simp at hb19; omega
  refine sq9 (zza 26 (.adr 1 0) (zza 27 (.adr 1 0) (zzi 28 (zB i.s) ty4 zzl (zza 29 (.v x12.v) (zza 30 (.v (.agg #[.bool i.s, x12.v])) (zzg 31 92 [.agg #[.bool i.s, x12.v]] ?_))))))
  intro w20 u20 e20 d20
  have k25 := k_intTrim d20 (IntV.same (s := i.s) (h14.ext e20).raw) xq
  with_reducible refine zPm k25 ?_
  rintro _ u23 g24 ⟨i21, rfl, h22⟩
  refine zzg 32 46 [i21.v] ?_
  intro w26 u26 e26 d26
  have k31 := k_whole (i := i21) d26
  with_reducible refine zPm k31 ?_
  rintro _ u29 g30 ⟨y27, rfl, h28⟩
  refine zzj ⟨82, i21.cs ++ [y27.v]⟩ ty82 ?_
  refine zzb (zzo (zzw (ret0 [.agg #[.bool i21.s, .slice i21.m.a i21.m.n i21.m.c, .slice y27.a y27.n y27.c]] ⟨zzr ty82 zze, trivial⟩ fun u32 e33 => ?_)))
  refine ⟨(⟨i21.s, i21.m, y27⟩ : RL), rfl, RatN.more (K := (max K 1)) ?_ xq⟩
  rw [hz, ← low1 hp hr]
  exact ((whole_rat (h22.ext (e26.trans g30.ext)) h28).ext e33)
 ·replace hb19 : ((x13.n : Int) == 0) = false := hb19
  have qhb19 : ¬ ((x13.n : Int) = 0) := by simpa using hb19
  have hr : N % D ≠ 0 := by have h7 := (h15).pos; simp at hb19; omega
  refine zzs (zzp ?_)
  refine sq9 (zza 33 (.adr 1 2) (zzi 34 (.v y.v) ty78 zzl (zza 35 (.v x13.v) (zzg 36 93 [y.v, x13.v] ?_))))
  intro w34 u34 e34 d34
  have k39 := k_natGcd d34 (hD.ext (e11.trans (g17.ext.trans e34))) (h15.ext e34).raw xq xq
  with_reducible refine zPm k39 ?_
  rintro _ u37 g38 ⟨x35, rfl, h36⟩
  refine zza 6 (.v x35.v) (zzb (zzd (sq9 (zza 37 (.v x35.v) (zzg 38 94 [x35.v] ?_)))))
  intro w40 u40 e40 d40
  have k43 := k_isOne d40 (h36.ext e40)
  with_reducible refine zPm k43 ?_
  rintro _ u41 g42 rfl
  refine zzb (zzu (b := decide ((Nat.gcd D (N % D)) = 1)) xv (fun hb44 => ?_) (fun hb44 => ?_))
  ·replace hb44 : (decide ((Nat.gcd D (N % D)) = 1)) = true := hb44
   have qhb44 := of_decide_eq_true hb44
   have hg : Nat.gcd D (N % D) = 1 := by simpa using hb44
   have hgp : 0 < Nat.gcd D (N % D) := Nat.gcd_pos_of_pos_left _ hp
   refine zzd (zzz [0, 1, 3, 0, 8, 31, 63, 127] [(0, []), (1, []), (3, []), (4, []), (2, []), (5, []), (6, []), (7, [])] xv xv (zza 39 (.adr 1 0) (zzi 40 (.v (i.v)) ty80 zze (zza 42 (.adr 1 2) (zzi 43 (.v y.v) ty78 zzl (zzg 41 92 [i.v] ?_))))))
   intro w45 u45 e45 d45
   have k50 := k_intTrim d45 (IntV.same (s := i.s) (hN.ext (e11.trans (g17.ext.trans (e34.trans (g38.ext.trans (e40.trans (g42.ext.trans e45)))))))) xq
   with_reducible refine zPm k50 ?_
   rintro _ u48 g49 ⟨i46, rfl, h47⟩
   refine zzg 44 70 [y.v] ?_
   intro w51 u51 e51 d51
   have k56 := k_natTrim d51 (hD.ext (e11.trans (g17.ext.trans (e34.trans (g38.ext.trans (e40.trans (g42.ext.trans (e45.trans (g49.ext.trans e51))))))))) xq
   with_reducible refine zPm k56 ?_
   rintro _ u54 g55 ⟨x52, rfl, h53⟩
   refine zza 45 (.v (.agg #[.bool i46.s, i46.m.v, x52.v])) (zzj ⟨82, i46.cs ++ [x52.v]⟩ ty82 ?_)
   refine zzc 70 [(2, .adr 2 0)] [(2, ⟨82, i46.cs ++ [x52.v]⟩)] (zzo (zzw (ret0 [.agg #[.bool i46.s, .slice i46.m.a i46.m.n i46.m.c, .slice x52.a x52.n x52.c]] ⟨zzr ty82 zze, trivial⟩ fun u57 e58 => ?_)))
   refine ⟨(⟨i46.s, i46.m, x52⟩ : RL), rfl, ?_⟩
   rw [hz]
   exact low2 hp hg (h47.ext (e51.trans (g55.ext.trans e58))) (h53.ext e58)
  ·replace hb44 : (decide ((Nat.gcd D (N % D)) = 1)) = false := hb44
   have qhb44 := of_decide_eq_false hb44
   have hg : ¬ Nat.gcd D (N % D) = 1 := by simpa using hb44
   have hgp : 0 < Nat.gcd D (N % D) := Nat.gcd_pos_of_pos_left _ hp
   refine zzs (zzp ?_)
   refine sq9 (zza 47 (.adr 1 0) (zza 48 (.adr 1 1) (zzi 49 (.v i.m.v) ty78 zzl (zza 50 (.v x35.v) (zzg 51 91 [i.m.v, x35.v] ?_)))))
   intro w59 u59 e59 d59
   have k66 := k_natDivMod d59 (hN.ext (e11.trans (g17.ext.trans (e34.trans (g38.ext.trans (e40.trans (g42.ext.trans e59))))))) (h36.ext (e40.trans (g42.ext.trans e59))).raw hgp xq xq
   with_reducible refine zPm k66 ?_
   rintro _ u64 g65 ⟨x60, x61, rfl, h62, h63⟩
   refine zza 46 (.v (.tuple #[x60.v, x61.v, .int .i64 0])) (zza 52 (.v x60.v) (zza 53 (.v x61.v) (zza 54 (zI 0) (zza 7 (.v x60.v) (zza 8 (.v x61.v) (zza 9 (zI 0) (zzc 70 [(1, .adr 1 0), (2, .adr 2 0), (6, .v x35.v), (7, .v x60.v)] [(1, ⟨124, i.cs ++ [y.v]⟩), (2, ⟨82, [.bool false, .slice none 0 0, .slice none 0 0]⟩)] (sq9 (zza 56 (.adr 1 2) (zzi 57 (.v y.v) ty78 zzl (zza 58 (.v x35.v) ?_)))))))))))
   refine zzg 59 91 [y.v, x35.v] ?_
   intro w67 u67 e67 d67
   have k74 := k_natDivMod d67 (hD.ext (e11.trans (g17.ext.trans (e34.trans (g38.ext.trans (e40.trans (g42.ext.trans (e59.trans (g65.ext.trans e67))))))))) (h36.ext (e40.trans (g42.ext.trans (e59.trans (g65.ext.trans e67))))).raw hgp xq xq
   with_reducible refine zPm k74 ?_
   rintro _ u72 g73 ⟨x68, x69, rfl, h70, h71⟩
   refine zza 55 (.v (.tuple #[x68.v, x69.v, .int .i64 0])) (zza 60 (.v x68.v) (zza 61 (.v x69.v) (zza 62 (zI 0) (zza 10 (.v x68.v) (zza 11 (.v x69.v) (zza 12 (zI 0) (zzb (sq9 (zza 63 (.adr 1 0) (zza 64 (.adr 1 0) (zzi 65 (zB i.s) ty4 zzl ?_)))))))))))
   refine zza 66 (.v x60.v) (zza 67 (.v (.agg #[.bool i.s, x60.v])) (zza 68 (.v x68.v) (zza 69 (.v (.agg #[.bool i.s, x60.v, x68.v])) (zzj ⟨82, [.bool i.s, x60.v, x68.v]⟩ ty82 ?_))))
   refine zzb (zzo (ret0 [.agg #[.bool i.s, .slice x60.a x60.n x60.c, .slice x68.a x68.n x68.c]] ⟨zzr ty82 zze, trivial⟩ fun u75 e76 => ?_))
   refine ⟨(⟨i.s, x60, x68⟩ : RL), rfl, RatN.more (K := max K L) ?_ xq⟩
   rw [hz]
   exact low3 hp hr (h62.ext (e67.trans (g73.ext.trans e76))) (h70.ext e76)
theorem k_ratTrim {u w : World} {r1 : RL} {x : Rat} {K : Nat} (d : Dat u w) (hr1 : RatV u r1 x K) (hK : K ≤ 200000000) : Calls Try.prog 59 #[r1.v] w (Post u w fun v u' => ∃ r : RL, v = r.v ∧ RatN u' r x K) := by
 refine zzm (args := [r1.v]) Try.func59 rfl Try.ntmps59 (rs := [.cell 2 82]) Try.results59 (le_b rfl) (le_b rfl) d ?_
 refine sq9 (zzk 1 ⟨82, r1.cs⟩ (zzk 2 ⟨82, [.bool false, .slice none 0 0, .slice none 0 0]⟩ (zzb (sq9 (zzi 3 (.v (r1.v)) ty82 zze (zzg 4 75 [r1.v] ?_))))))
 intro w11 u11 e11 d11
 have k15 := k_read d11 (hr1.ext e11)
 with_reducible refine zPm k15 ?_
 rintro _ u13 g14 ⟨r12, wh12, rfl, z12, D12, hi12, hd12, hp12, hq12, hw12, hk12⟩
 refine zza 5 (.v (r12.v)) (zzg 6 72 [r12.v] ?_)
 intro w16 u16 e16 d16
 have k21 := k_lowest d16 (hi12.ext e16) (hd12.ext e16) hp12 xq xq
 with_reducible refine zPm k21 ?_
 rintro _ u19 g20 ⟨r17, rfl, h18⟩
 refine zzj ⟨82, r17.cs⟩ ty82 ?_
 refine zzb (zzo (ret0 [r17.v] ⟨zzr ty82 zze, trivial⟩ fun u22 e23 => ?_))
 refine ⟨r17, rfl, RatN.more (K := (max K K)) ?_ xq⟩
 rw [hq12]; exact (h18.ext e23)
theorem k_ratOf {u w : World} {z : Int} (d : Dat u w) (h0 : -9223372036854775808 ≤ z) (h1 : z ≤ 9223372036854775807) : Calls Try.prog 29 #[.int .i64 z] w (Post u w fun v u' => ∃ r : RL, v = r.v ∧ RatN u' r (z : Rat) 2) := by
 refine zzm (args := [.int .i64 z]) Try.func29 rfl Try.ntmps29 (rs := [.cell 2 82]) Try.results29 (le_b rfl) (le_b rfl) d ?_
 refine sq9 (zzk 2 ⟨82, [.bool false, .slice none 0 0, .slice none 0 0]⟩ (zzb (sq9 (zza 3 (zI z) (zzg 4 47 [.int .i64 z] ?_)))))
 intro w11 u11 e11 d11
 have k16 := k_intOf d11 (z := z) xq xq
 with_reducible refine zPm k16 ?_
 rintro _ u14 g15 ⟨i12, rfl, h13⟩
 refine zzg 5 46 [i12.v] ?_
 intro w17 u17 e17 d17
 have k22 := k_whole (i := i12) d17
 with_reducible refine zPm k22 ?_
 rintro _ u20 g21 ⟨y18, rfl, h19⟩
 refine zzj ⟨82, i12.cs ++ [y18.v]⟩ ty82 ?_
 refine zzb (zzo (ret0 [.agg #[.bool i12.s, .slice i12.m.a i12.m.n i12.m.c, .slice y18.a y18.n y18.c]] ⟨zzr ty82 zze, trivial⟩ fun u23 e24 => ?_))
 refine ⟨(⟨i12.s, i12.m, y18⟩ : RL), rfl, RatN.more (K := (max 2 1)) ?_ xq⟩
 exact ((whole_rat (h13.ext (e17.trans g21.ext)) h19).ext e24)
theorem k_ratSign {u w : World} {r1 : RL} {x : Rat} {K : Nat} (d : Dat u w) (hr1 : RatV u r1 x K)  : Calls Try.prog 82 #[r1.v] w (Post u w fun v u' => v = .int .i64 (Nt.sgQ x)) := by
 refine zzm (args := [r1.v]) Try.func82 rfl Try.ntmps82 (rs := [.tmp 2]) Try.results82 (le_b rfl) (le_b rfl) d ?_
 refine sq9 (zzk 1 ⟨82, r1.cs⟩ (zza 2 (zI 0) (zzb (sq9 (zzi 3 (.v (r1.v)) ty82 zze (zzg 4 75 [r1.v] ?_))))))
 intro w11 u11 e11 d11
 have k15 := k_read d11 (hr1.ext e11)
 with_reducible refine zPm k15 ?_
 rintro _ u13 g14 ⟨r12, wh12, rfl, z12, D12, hi12, hd12, hp12, hq12, hw12, hk12⟩
 refine zza 5 (.v (r12.v)) (zza 6 (.v (.agg #[.bool r12.s, r12.m.v])) (zzg 7 83 [.agg #[.bool r12.s, r12.m.v]] ?_))
 intro w16 u16 e16 d16
 have k19 := k_intSign d16 (hi12.ext e16)
 with_reducible refine zPm k19 ?_
 rintro _ u17 g18 rfl
 refine zza 2 (zI (Nt.cmpS z12 0)) (zzb (zzo (ret0 [.int .i64 (Nt.cmpS z12 0)] ⟨zzq, trivial⟩ fun u20 e21 => ?_)))
 show _ = _
 rw [hq12, ← Nt.sg_mk hp12]
 rfl
theorem k_ratCompare {u w : World} {r1 : RL} {x : Rat} {K : Nat} {r2 : RL} {y : Rat} {L : Nat} (d : Dat u w) (hr1 : RatV u r1 x K) (hr2 : RatV u r2 y L) (hK : K ≤ 200000000) (hL : L ≤ 200000000) : Calls Try.prog 84 #[r1.v, r2.v] w (Post u w fun v u' => v = .int .i64 (Nt.cmpQ x y)) := by
 refine zzm (args := [r1.v, r2.v]) Try.func84 rfl Try.ntmps84 (rs := [.tmp 4]) Try.results84 (le_b rfl) (le_b rfl) d ?_
 refine sq9 (zzk 2 ⟨82, r1.cs⟩ (zzk 3 ⟨82, r2.cs⟩ (zza 4 (zI 0) (zzb (zzd (zzz [0, 1, 0, 7, 0, 0, 63, 127] [(0, []), (2, []), (4, []), (5, []), (1, []), (3, []), (6, []), (7, [])] xv xv (zzi 7 (.v (r1.v)) ty82 zze (zzi 9 (.v (r2.v)) ty82 zze (zzk 5 ⟨128, [.bool false, .slice none 0 0, .slice none 0 0, .bool false]⟩ (zzk 6 ⟨128, [.bool false, .slice none 0 0, .slice none 0 0, .bool false]⟩ (zzg 8 75 [r1.v] ?_)))))))))))
 intro w11 u11 e11 d11
 have k15 := k_read d11 (hr1.ext e11)
 with_reducible refine zPm k15 ?_
 rintro _ u13 g14 ⟨r12, wh12, rfl, z12, D12, hi12, hd12, hp12, hq12, hw12, hk12⟩
 refine zzg 10 75 [r2.v] ?_
 intro w16 u16 e16 d16
 have k20 := k_read d16 (hr2.ext (e11.trans (g14.ext.trans e16)))
 with_reducible refine zPm k20 ?_
 rintro _ u18 g19 ⟨r17, wh17, rfl, z17, D17, hi17, hd17, hp17, hq17, hw17, hk17⟩
 refine zzj ⟨128, r12.cs ++ [.bool wh12]⟩ ty128 ?_
 refine zzj ⟨128, r17.cs ++ [.bool wh17]⟩ ty128 ?_
 refine zzb (zzd (sq9 (zza 11 (.adr 5 3) (zzi 12 (zB wh12) ty4 zzl ?_))))
 rcases Bool.eq_false_or_eq_true wh12 with hs21 | hs21
 ·refine zyq 13 (x := zB wh12) (zB true) (by rw [hs21]) (zza 14 (.adr 6 3) ?_ (hw := w1 2 true 13))
  refine zzi 15 (zB wh17) ty4 zzl ?_ (hw := w1 2 true 13)
  refine zza 16 (zB wh17) (zzb (zzu (b := wh17) xv (fun hb22 => ?_) (fun hb22 => ?_)))
  ·replace hb22 : wh17 = true := hb22
   refine sq9 (zza 17 (.adr 5 0) (zza 18 (.adr 5 0) (zzi 19 (.v (.agg #[.bool r12.s, r12.m.v])) ty80 zze (zza 20 (.adr 6 0) (zza 21 (.adr 6 0) (zzi 22 (.v (.agg #[.bool r17.s, r17.m.v])) ty80 zze (zzg 23 100 [.agg #[.bool r12.s, r12.m.v], .agg #[.bool r17.s, r17.m.v]] ?_)))))))
   intro w23 u23 e23 d23
   have k26 := k_intCompare d23 (hi12.ext (e16.trans (g19.ext.trans e23))) (hi17.ext e23)
   with_reducible refine zPm k26 ?_
   rintro _ u24 g25 rfl
   refine zza 4 (zI (Nt.cmpS z12 z17)) (zzb (zzo (zzw (ret0 [.int .i64 (Nt.cmpS z12 z17)] ⟨zzq, trivial⟩ fun u27 e28 => ?_))))
   show _ = _
   rw [hq12, hq17, ← Nt.cmp_mk hp12 hp17]
   rw [hw12 (by assumption), hw17 (by assumption)]
   simp [tupV]
  ·replace hb22 : wh17 = false := hb22
   refine zzs (zzp ?_)
   refine zzd (zzz [0, 1, 3, 0, 8, 24, 56, 127, 0, 256, 768, 0, 2048, 6144, 14591, 32767, 65535, 131071] [(0, []), (1, []), (2, []), (3, []), (4, []), (5, []), (8, []), (9, []), (10, []), (11, []), (12, []), (13, []), (6, []), (7, []), (14, []), (15, []), (16, []), (17, [])] xv xv (zza 24 (.adr 5 0) (zza 25 (.adr 5 0) (zzi 26 (.v (.agg #[.bool r12.s, r12.m.v])) ty80 zze (zza 27 (.adr 6 0) (zza 28 (.adr 6 2) (zzi 29 (.v r17.d.v) ty78 zzl (zza 32 (.adr 6 0) (zza 33 (.adr 6 0) (zzi 34 (.v (.agg #[.bool r17.s, r17.m.v])) ty80 zze (zza 35 (.adr 5 0) ?_)))))))))))
   refine zza 36 (.adr 5 2) (zzi 37 (.v r12.d.v) ty78 zzl (zzg 30 79 [r17.d.v] ?_))
   intro w29 u29 e29 d29
   have k32 := k_natural (x := r17.d) d29
   with_reducible refine zPm k32 ?_
   rintro _ u30 g31 rfl
   refine zzg 31 78 [.agg #[.bool r12.s, r12.m.v], .agg #[.bool false, r17.d.v]] ?_
   intro w33 u33 e33 d33
   have k38 := k_intMul d33 (hi12.ext (e16.trans (g19.ext.trans (e29.trans (g31.ext.trans e33))))) (nat_int (hd17.ext (e29.trans (g31.ext.trans e33)))) xq xq
   with_reducible refine zPm k38 ?_
   rintro _ u36 g37 ⟨i34, rfl, h35⟩
   refine zzg 38 79 [r12.d.v] ?_
   intro w39 u39 e39 d39
   have k42 := k_natural (x := r12.d) d39
   with_reducible refine zPm k42 ?_
   rintro _ u40 g41 rfl
   refine zzg 39 78 [.agg #[.bool r17.s, r17.m.v], .agg #[.bool false, r12.d.v]] ?_
   intro w43 u43 e43 d43
   have k48 := k_intMul d43 (hi17.ext (e29.trans (g31.ext.trans (e33.trans (g37.ext.trans (e39.trans (g41.ext.trans e43))))))) (nat_int (hd12.ext (e16.trans (g19.ext.trans (e29.trans (g31.ext.trans (e33.trans (g37.ext.trans (e39.trans (g41.ext.trans e43)))))))))) xq xq
   with_reducible refine zPm k48 ?_
   rintro _ u46 g47 ⟨i44, rfl, h45⟩
   refine zzg 40 100 [i34.v, i44.v] ?_
   intro w49 u49 e49 d49
   have k52 := k_intCompare d49 (h35.ext (e39.trans (g41.ext.trans (e43.trans (g47.ext.trans e49))))).raw (h45.ext e49).raw
   with_reducible refine zPm k52 ?_
   rintro _ u50 g51 rfl
   refine zza 4 (zI (Nt.cmpS (z12 * (D17 : Int)) (z17 * (D12 : Int)))) (zzc 41 [(4, zI (Nt.cmpS (z12 * (D17 : Int)) (z17 * (D12 : Int))))] [] (zzo (ret0 [.int .i64 (Nt.cmpS (z12 * (D17 : Int)) (z17 * (D12 : Int)))] ⟨zzq, trivial⟩ fun u53 e54 => ?_)))
   show _ = _
   rw [hq12, hq17, ← Nt.cmp_mk hp12 hp17]
   rfl
 ·refine zyq 13 (x := zB wh12) (zB false) (by rw [hs21]) (zzn 14 (uw 2 true false 13) (zzn 15 (uw 2 true false 13) (zza 16 (zB false) (zzb (zys xv (zzs (zzp ?_)))))))
  refine zzd (zzz [0, 1, 3, 0, 8, 24, 56, 127, 0, 256, 768, 0, 2048, 6144, 14591, 32767, 65535, 131071] [(0, []), (1, []), (2, []), (3, []), (4, []), (5, []), (8, []), (9, []), (10, []), (11, []), (12, []), (13, []), (6, []), (7, []), (14, []), (15, []), (16, []), (17, [])] xv xv (zza 24 (.adr 5 0) (zza 25 (.adr 5 0) (zzi 26 (.v (.agg #[.bool r12.s, r12.m.v])) ty80 zze (zza 27 (.adr 6 0) (zza 28 (.adr 6 2) (zzi 29 (.v r17.d.v) ty78 zzl (zza 32 (.adr 6 0) (zza 33 (.adr 6 0) (zzi 34 (.v (.agg #[.bool r17.s, r17.m.v])) ty80 zze (zza 35 (.adr 5 0) ?_)))))))))))
  refine zza 36 (.adr 5 2) (zzi 37 (.v r12.d.v) ty78 zzl (zzg 30 79 [r17.d.v] ?_))
  intro w55 u55 e55 d55
  have k58 := k_natural (x := r17.d) d55
  with_reducible refine zPm k58 ?_
  rintro _ u56 g57 rfl
  refine zzg 31 78 [.agg #[.bool r12.s, r12.m.v], .agg #[.bool false, r17.d.v]] ?_
  intro w59 u59 e59 d59
  have k64 := k_intMul d59 (hi12.ext (e16.trans (g19.ext.trans (e55.trans (g57.ext.trans e59))))) (nat_int (hd17.ext (e55.trans (g57.ext.trans e59)))) xq xq
  with_reducible refine zPm k64 ?_
  rintro _ u62 g63 ⟨i60, rfl, h61⟩
  refine zzg 38 79 [r12.d.v] ?_
  intro w65 u65 e65 d65
  have k68 := k_natural (x := r12.d) d65
  with_reducible refine zPm k68 ?_
  rintro _ u66 g67 rfl
  refine zzg 39 78 [.agg #[.bool r17.s, r17.m.v], .agg #[.bool false, r12.d.v]] ?_
  intro w69 u69 e69 d69
  have k74 := k_intMul d69 (hi17.ext (e55.trans (g57.ext.trans (e59.trans (g63.ext.trans (e65.trans (g67.ext.trans e69))))))) (nat_int (hd12.ext (e16.trans (g19.ext.trans (e55.trans (g57.ext.trans (e59.trans (g63.ext.trans (e65.trans (g67.ext.trans e69)))))))))) xq xq
  with_reducible refine zPm k74 ?_
  rintro _ u72 g73 ⟨i70, rfl, h71⟩
  refine zzg 40 100 [i60.v, i70.v] ?_
  intro w75 u75 e75 d75
  have k78 := k_intCompare d75 (h61.ext (e65.trans (g67.ext.trans (e69.trans (g73.ext.trans e75))))).raw (h71.ext e75).raw
  with_reducible refine zPm k78 ?_
  rintro _ u76 g77 rfl
  refine zza 4 (zI (Nt.cmpS (z12 * (D17 : Int)) (z17 * (D12 : Int)))) (zzc 41 [(4, zI (Nt.cmpS (z12 * (D17 : Int)) (z17 * (D12 : Int))))] [] (zzo (ret0 [.int .i64 (Nt.cmpS (z12 * (D17 : Int)) (z17 * (D12 : Int)))] ⟨zzq, trivial⟩ fun u79 e80 => ?_)))
  show _ = _
  rw [hq12, hq17, ← Nt.cmp_mk hp12 hp17]
  rfl
theorem k_ratAbs {u w : World} {r1 : RL} {x : Rat} {K : Nat} (d : Dat u w) (hr1 : RatV u r1 x K) (hK : K ≤ 200000000) : Calls Try.prog 85 #[r1.v] w (Post u w fun v u' => ∃ r : RL, v = r.v ∧ RatN u' r (Nt.absQ x) K) := by
 refine zzm (args := [r1.v]) Try.func85 rfl Try.ntmps85 (rs := [.cell 2 82]) Try.results85 (le_b rfl) (le_b rfl) d ?_
 refine sq9 (zzk 1 ⟨82, r1.cs⟩ (zzk 2 ⟨82, [.bool false, .slice none 0 0, .slice none 0 0]⟩ (zzb (sq9 (zza 3 (.adr 1 0) (zza 4 (.adr 1 1) (zzi 5 (.v r1.m.v) ty78 zzl (zza 6 (.v (.agg #[.bool false, r1.m.v])) (zza 7 (.adr 1 2) (zzi 8 (.v r1.d.v) ty78 zzl (zza 9 (.v (.agg #[.bool false, r1.m.v, r1.d.v])) ?_)))))))))))
 refine zzg 10 59 [.agg #[.bool false, r1.m.v, r1.d.v]] ?_
 intro w11 u11 e11 d11
 have k16 := k_ratTrim d11 ((abs_rat hr1).ext e11) xq
 with_reducible refine zPm k16 ?_
 rintro _ u14 g15 ⟨r12, rfl, h13⟩
 refine zzj ⟨82, r12.cs⟩ ty82 ?_
 refine zzb (zzo (ret0 [r12.v] ⟨zzr ty82 zze, trivial⟩ fun u17 e18 => ?_))
 refine ⟨r12, rfl, RatN.more (K := K) ?_ xq⟩
 exact (h13.ext e18)
set_option maxHeartbeats 1000000 in
theorem k_ratAdd {u w : World} {r1 : RL} {x : Rat} {K : Nat} {r2 : RL} {y : Rat} {L : Nat} (d : Dat u w) (hr1 : RatV u r1 x K) (hr2 : RatV u r2 y L) (hK : K ≤ 200000000) (hL : L ≤ 200000000) : Calls Try.prog 51 #[r1.v, r2.v] w (Post u w fun v u' => ∃ r : RL, v = r.v ∧ RatN u' r (x + y) (K + L + 1)) := by
 refine zzm (args := [r1.v, r2.v]) Try.func51 rfl Try.ntmps51 (rs := [.cell 4 82]) Try.results51 (le_b rfl) (le_b rfl) d ?_
 refine sq9 (zzk 2 ⟨82, r1.cs⟩ (zzk 3 ⟨82, r2.cs⟩ (zzk 4 ⟨82, [.bool false, .slice none 0 0, .slice none 0 0]⟩ (zzb (zzd (zzz [0, 1, 0, 7, 0, 0, 63, 127] [(0, []), (2, []), (4, []), (5, []), (1, []), (3, []), (6, []), (7, [])] xv xv (zzi 8 (.v (r1.v)) ty82 zze (zzi 10 (.v (r2.v)) ty82 zze (zzk 5 ⟨128, [.bool false, .slice none 0 0, .slice none 0 0, .bool false]⟩ (zzk 6 ⟨128, [.bool false, .slice none 0 0, .slice none 0 0, .bool false]⟩ (zzg 9 75 [r1.v] ?_)))))))))))
 intro w11 u11 e11 d11
 have k15 := k_read d11 (hr1.ext e11)
 with_reducible refine zPm k15 ?_
 rintro _ u13 g14 ⟨r12, wh12, rfl, z12, D12, hi12, hd12, hp12, hq12, hw12, hk12⟩
 refine zzg 11 75 [r2.v] ?_
 intro w16 u16 e16 d16
 have k20 := k_read d16 (hr2.ext (e11.trans (g14.ext.trans e16)))
 with_reducible refine zPm k20 ?_
 rintro _ u18 g19 ⟨r17, wh17, rfl, z17, D17, hi17, hd17, hp17, hq17, hw17, hk17⟩
 refine zzj ⟨128, r12.cs ++ [.bool wh12]⟩ ty128 ?_
 refine zzj ⟨128, r17.cs ++ [.bool wh17]⟩ ty128 ?_
 refine zzb (zzd (sq9 (zza 12 (.adr 5 3) (zzi 13 (zB wh12) ty4 zzl ?_))))
 rcases Bool.eq_false_or_eq_true wh12 with hs21 | hs21
 ·refine zyq 14 (x := zB wh12) (zB true) (by rw [hs21]) (zza 15 (.adr 6 3) ?_ (hw := w1 2 true 14))
  refine zzi 16 (zB wh17) ty4 zzl ?_ (hw := w1 2 true 14)
  refine zza 17 (zB wh17) (zzb (zzu (b := wh17) xv (fun hb22 => ?_) (fun hb22 => ?_)))
  ·replace hb22 : wh17 = true := hb22
   refine sq9 (zza 18 (.adr 5 0) (zza 19 (.adr 5 0) (zzi 20 (.v (.agg #[.bool r12.s, r12.m.v])) ty80 zze (zza 21 (.adr 6 0) (zza 22 (.adr 6 0) (zzi 23 (.v (.agg #[.bool r17.s, r17.m.v])) ty80 zze (zzg 24 76 [.agg #[.bool r12.s, r12.m.v], .agg #[.bool r17.s, r17.m.v]] ?_)))))))
   intro w23 u23 e23 d23
   have k28 := k_intAdd d23 (hi12.ext (e16.trans (g19.ext.trans e23))) (hi17.ext e23) xq xq
   with_reducible refine zPm k28 ?_
   rintro _ u26 g27 ⟨i24, rfl, h25⟩
   refine zzg 25 46 [i24.v] ?_
   intro w29 u29 e29 d29
   have k34 := k_whole (i := i24) d29
   with_reducible refine zPm k34 ?_
   rintro _ u32 g33 ⟨y30, rfl, h31⟩
   refine zzj ⟨82, i24.cs ++ [y30.v]⟩ ty82 ?_
   refine zzb (zzo (zzw (ret0 [.agg #[.bool i24.s, .slice i24.m.a i24.m.n i24.m.c, .slice y30.a y30.n y30.c]] ⟨zzr ty82 zze, trivial⟩ fun u35 e36 => ?_)))
   refine ⟨(⟨i24.s, i24.m, y30⟩ : RL), rfl, RatN.more (K := (max (max K L + 1) 1)) ?_ xq⟩
   rw [hq12, hq17, hw12 (by assumption), hw17 (by assumption), Nt.mk_one, Nt.mk_one, ← Rat.intCast_add]
   exact ((whole_rat (h25.ext (e29.trans g33.ext)) h31).ext e36)
  ·replace hb22 : wh17 = false := hb22
   refine zzs (zzp ?_)
   refine zzd (sq9 (zza 26 (.adr 5 0) (zza 27 (.adr 5 2) (zzi 28 (.v r12.d.v) ty78 zzl (zza 29 (.adr 6 0) (zza 30 (.adr 6 2) (zzi 31 (.v r17.d.v) ty78 zzl (zzg 32 77 [r12.d.v, r17.d.v] ?_))))))))
   intro w37 u37 e37 d37
   have k40 := k_natCompare d37 (hd12.ext (e16.trans (g19.ext.trans e37))) (hd17.ext e37)
   with_reducible refine zPm k40 ?_
   rintro _ u38 g39 rfl
   refine zza 33 (zB ((Nt.cmpS D12 D17) == 0)) (zzb (zzu (b := (Nt.cmpS D12 D17) == 0) xv (fun hb41 => ?_) (fun hb41 => ?_)))
   ·replace hb41 : ((Nt.cmpS D12 D17) == 0) = true := hb41
    refine zzd (zzz [0, 1, 3, 0, 8, 24, 63, 0, 128, 384, 1023, 2047, 4095] [(0, []), (1, []), (2, []), (3, []), (4, []), (5, []), (7, []), (8, []), (9, []), (6, []), (10, []), (11, []), (12, [])] xv xv (zza 34 (.adr 5 0) (zza 35 (.adr 5 0) (zzi 36 (.v (.agg #[.bool r12.s, r12.m.v])) ty80 zze (zza 37 (.adr 6 0) (zza 38 (.adr 6 0) (zzi 39 (.v (.agg #[.bool r17.s, r17.m.v])) ty80 zze (zza 41 (.adr 5 0) (zza 42 (.adr 5 2) (zzi 43 (.v r12.d.v) ty78 zzl (zzg 40 76 [.agg #[.bool r12.s, r12.m.v], .agg #[.bool r17.s, r17.m.v]] ?_)))))))))))
    intro w42 u42 e42 d42
    have k47 := k_intAdd d42 (hi12.ext (e16.trans (g19.ext.trans (e37.trans (g39.ext.trans e42))))) (hi17.ext (e37.trans (g39.ext.trans e42))) xq xq
    with_reducible refine zPm k47 ?_
    rintro _ u45 g46 ⟨i43, rfl, h44⟩
    refine zza 44 (.v (.agg #[.bool i43.s, i43.m.v, r12.d.v])) (zzg 45 72 [.agg #[.bool i43.s, i43.m.v, r12.d.v]] ?_)
    intro w48 u48 e48 d48
    have k53 := k_lowest d48 (h44.ext e48).raw (hd12.ext (e16.trans (g19.ext.trans (e37.trans (g39.ext.trans (e42.trans (g46.ext.trans e48))))))) hp12 xq xq
    with_reducible refine zPm k53 ?_
    rintro _ u51 g52 ⟨r49, rfl, h50⟩
    refine zzj ⟨82, r49.cs⟩ ty82 ?_
    refine zzc 73 [(4, .adr 4 0)] [(4, ⟨82, r49.cs⟩)] (zzo (zzw (ret0 [r49.v] ⟨zzr ty82 zze, trivial⟩ fun u54 e55 => ?_)))
    refine ⟨r49, rfl, RatN.more (K := (max (max K L + 1) K)) ?_ xq⟩
    have hD : D12 = D17 := Nt.cmp_natE hb41
    rw [hq12, hq17, ← hD, ← Nt.add_same hp12]
    exact (h50.ext e55)
   ·replace hb41 : ((Nt.cmpS D12 D17) == 0) = false := hb41
    refine zzs (zzp ?_)
    refine zzd (zzz [0, 1, 3, 0, 8, 24, 56, 127, 0, 256, 768, 0, 2048, 6144, 14591, 32767, 65535, 0, 262143] [(0, []), (1, []), (2, []), (3, []), (4, []), (5, []), (8, []), (9, []), (10, []), (11, []), (12, []), (13, []), (17, []), (6, []), (7, []), (14, []), (15, []), (16, []), (18, [])] xv xv (zza 46 (.adr 5 0) (zza 47 (.adr 5 0) (zzi 48 (.v (.agg #[.bool r12.s, r12.m.v])) ty80 zze (zza 49 (.adr 6 0) (zza 50 (.adr 6 2) (zzi 51 (.v r17.d.v) ty78 zzl (zza 54 (.adr 6 0) (zza 55 (.adr 6 0) (zzi 56 (.v (.agg #[.bool r17.s, r17.m.v])) ty80 zze (zza 57 (.adr 5 0) ?_)))))))))))
    refine zza 58 (.adr 5 2) (zzi 59 (.v r12.d.v) ty78 zzl (zzk 7 ⟨80, [.bool false, .slice none 0 0]⟩ (zzg 52 79 [r17.d.v] ?_)))
    intro w56 u56 e56 d56
    have k59 := k_natural (x := r17.d) d56
    with_reducible refine zPm k59 ?_
    rintro _ u57 g58 rfl
    refine zzg 53 78 [.agg #[.bool r12.s, r12.m.v], .agg #[.bool false, r17.d.v]] ?_
    intro w60 u60 e60 d60
    have k65 := k_intMul d60 (hi12.ext (e16.trans (g19.ext.trans (e37.trans (g39.ext.trans (e56.trans (g58.ext.trans e60))))))) (nat_int (hd17.ext (e37.trans (g39.ext.trans (e56.trans (g58.ext.trans e60)))))) xq xq
    with_reducible refine zPm k65 ?_
    rintro _ u63 g64 ⟨i61, rfl, h62⟩
    refine zzg 60 79 [r12.d.v] ?_
    intro w66 u66 e66 d66
    have k69 := k_natural (x := r12.d) d66
    with_reducible refine zPm k69 ?_
    rintro _ u67 g68 rfl
    refine zzg 61 78 [.agg #[.bool r17.s, r17.m.v], .agg #[.bool false, r12.d.v]] ?_
    intro w70 u70 e70 d70
    have k75 := k_intMul d70 (hi17.ext (e37.trans (g39.ext.trans (e56.trans (g58.ext.trans (e60.trans (g64.ext.trans (e66.trans (g68.ext.trans e70))))))))) (nat_int (hd12.ext (e16.trans (g19.ext.trans (e37.trans (g39.ext.trans (e56.trans (g58.ext.trans (e60.trans (g64.ext.trans (e66.trans (g68.ext.trans e70)))))))))))) xq xq
    with_reducible refine zPm k75 ?_
    rintro _ u73 g74 ⟨i71, rfl, h72⟩
    refine zzg 62 76 [i61.v, i71.v] ?_
    intro w76 u76 e76 d76
    have k81 := k_intAdd d76 (h62.ext (e66.trans (g68.ext.trans (e70.trans (g74.ext.trans e76))))).raw (h72.ext e76).raw xq xq
    with_reducible refine zPm k81 ?_
    rintro _ u79 g80 ⟨i77, rfl, h78⟩
    refine zzj ⟨80, i77.cs⟩ ty80 ?_
    refine zzc 73 [(4, .adr 4 0), (5, .adr 5 0), (6, .adr 6 0), (7, .adr 7 0)] [(4, ⟨82, [.bool false, .slice none 0 0, .slice none 0 0]⟩), (5, ⟨128, r12.cs ++ [.bool wh12]⟩), (6, ⟨128, r17.cs ++ [.bool wh17]⟩), (7, ⟨80, i77.cs⟩)] (zzd (zzz [0, 0, 2, 6, 0, 16, 48, 126, 255, 511, 1023] [(0, []), (1, []), (2, []), (3, []), (4, []), (5, []), (6, []), (7, []), (8, []), (9, []), (10, [])] xv xv (zzi 63 (.v (i77.v)) ty80 zze (zza 64 (.adr 5 0) (zza 65 (.adr 5 2) (zzi 66 (.v r12.d.v) ty78 zzl (zza 67 (.adr 6 0) (zza 68 (.adr 6 2) (zzi 69 (.v r17.d.v) ty78 zzl (zzg 70 80 [r12.d.v, r17.d.v] ?_))))))))))
    intro w82 u82 e82 d82
    have k87 := k_natMul d82 (hd12.ext (e16.trans (g19.ext.trans (e37.trans (g39.ext.trans (e56.trans (g58.ext.trans (e60.trans (g64.ext.trans (e66.trans (g68.ext.trans (e70.trans (g74.ext.trans (e76.trans (g80.ext.trans e82))))))))))))))) (hd17.ext (e37.trans (g39.ext.trans (e56.trans (g58.ext.trans (e60.trans (g64.ext.trans (e66.trans (g68.ext.trans (e70.trans (g74.ext.trans (e76.trans (g80.ext.trans e82))))))))))))) xq xq
    with_reducible refine zPm k87 ?_
    rintro _ u85 g86 ⟨x83, rfl, h84⟩
    refine zza 71 (.v (.agg #[.bool i77.s, i77.m.v, x83.v])) (zzg 72 72 [.agg #[.bool i77.s, i77.m.v, x83.v]] ?_)
    intro w88 u88 e88 d88
    have k93 := k_lowest d88 (h78.ext (e82.trans (g86.ext.trans e88))).raw (h84.ext e88).raw (Nat.mul_pos hp12 hp17) xq xq
    with_reducible refine zPm k93 ?_
    rintro _ u91 g92 ⟨r89, rfl, h90⟩
    refine zzj ⟨82, r89.cs⟩ ty82 ?_
    refine zzb (zzo (ret0 [r89.v] ⟨zzr ty82 zze, trivial⟩ fun u94 e95 => ?_))
    refine ⟨r89, rfl, RatN.more (K := (max (max (K + L) (L + K) + 1) (K + L))) ?_ xq⟩
    rw [hq12, hq17, ← Nt.add_mk hp12 hp17]
    exact (h90.ext e95)
 ·refine zyq 14 (x := zB wh12) (zB false) (by rw [hs21]) (zzn 15 (uw 2 true false 14) (zzn 16 (uw 2 true false 14) (zza 17 (zB false) (zzb (zys xv (zzs (zzp ?_)))))))
  refine zzd (sq9 (zza 26 (.adr 5 0) (zza 27 (.adr 5 2) (zzi 28 (.v r12.d.v) ty78 zzl (zza 29 (.adr 6 0) (zza 30 (.adr 6 2) (zzi 31 (.v r17.d.v) ty78 zzl (zzg 32 77 [r12.d.v, r17.d.v] ?_))))))))
  intro w96 u96 e96 d96
  have k99 := k_natCompare d96 (hd12.ext (e16.trans (g19.ext.trans e96))) (hd17.ext e96)
  with_reducible refine zPm k99 ?_
  rintro _ u97 g98 rfl
  refine zza 33 (zB ((Nt.cmpS D12 D17) == 0)) (zzb (zzu (b := (Nt.cmpS D12 D17) == 0) xv (fun hb100 => ?_) (fun hb100 => ?_)))
  ·replace hb100 : ((Nt.cmpS D12 D17) == 0) = true := hb100
   refine zzd (zzz [0, 1, 3, 0, 8, 24, 63, 0, 128, 384, 1023, 2047, 4095] [(0, []), (1, []), (2, []), (3, []), (4, []), (5, []), (7, []), (8, []), (9, []), (6, []), (10, []), (11, []), (12, [])] xv xv (zza 34 (.adr 5 0) (zza 35 (.adr 5 0) (zzi 36 (.v (.agg #[.bool r12.s, r12.m.v])) ty80 zze (zza 37 (.adr 6 0) (zza 38 (.adr 6 0) (zzi 39 (.v (.agg #[.bool r17.s, r17.m.v])) ty80 zze (zza 41 (.adr 5 0) (zza 42 (.adr 5 2) (zzi 43 (.v r12.d.v) ty78 zzl (zzg 40 76 [.agg #[.bool r12.s, r12.m.v], .agg #[.bool r17.s, r17.m.v]] ?_)))))))))))
   intro w101 u101 e101 d101
   have k106 := k_intAdd d101 (hi12.ext (e16.trans (g19.ext.trans (e96.trans (g98.ext.trans e101))))) (hi17.ext (e96.trans (g98.ext.trans e101))) xq xq
   with_reducible refine zPm k106 ?_
   rintro _ u104 g105 ⟨i102, rfl, h103⟩
   refine zza 44 (.v (.agg #[.bool i102.s, i102.m.v, r12.d.v])) (zzg 45 72 [.agg #[.bool i102.s, i102.m.v, r12.d.v]] ?_)
   intro w107 u107 e107 d107
   have k112 := k_lowest d107 (h103.ext e107).raw (hd12.ext (e16.trans (g19.ext.trans (e96.trans (g98.ext.trans (e101.trans (g105.ext.trans e107))))))) hp12 xq xq
   with_reducible refine zPm k112 ?_
   rintro _ u110 g111 ⟨r108, rfl, h109⟩
   refine zzj ⟨82, r108.cs⟩ ty82 ?_
   refine zzc 73 [(4, .adr 4 0)] [(4, ⟨82, r108.cs⟩)] (zzo (zzw (ret0 [r108.v] ⟨zzr ty82 zze, trivial⟩ fun u113 e114 => ?_)))
   refine ⟨r108, rfl, RatN.more (K := (max (max K L + 1) K)) ?_ xq⟩
   have hD : D12 = D17 := Nt.cmp_natE hb100
   rw [hq12, hq17, ← hD, ← Nt.add_same hp12]
   exact (h109.ext e114)
  ·replace hb100 : ((Nt.cmpS D12 D17) == 0) = false := hb100
   refine zzs (zzp ?_)
   refine zzd (zzz [0, 1, 3, 0, 8, 24, 56, 127, 0, 256, 768, 0, 2048, 6144, 14591, 32767, 65535, 0, 262143] [(0, []), (1, []), (2, []), (3, []), (4, []), (5, []), (8, []), (9, []), (10, []), (11, []), (12, []), (13, []), (17, []), (6, []), (7, []), (14, []), (15, []), (16, []), (18, [])] xv xv (zza 46 (.adr 5 0) (zza 47 (.adr 5 0) (zzi 48 (.v (.agg #[.bool r12.s, r12.m.v])) ty80 zze (zza 49 (.adr 6 0) (zza 50 (.adr 6 2) (zzi 51 (.v r17.d.v) ty78 zzl (zza 54 (.adr 6 0) (zza 55 (.adr 6 0) (zzi 56 (.v (.agg #[.bool r17.s, r17.m.v])) ty80 zze (zza 57 (.adr 5 0) ?_)))))))))))
   refine zza 58 (.adr 5 2) (zzi 59 (.v r12.d.v) ty78 zzl (zzk 7 ⟨80, [.bool false, .slice none 0 0]⟩ (zzg 52 79 [r17.d.v] ?_)))
   intro w115 u115 e115 d115
   have k118 := k_natural (x := r17.d) d115
   with_reducible refine zPm k118 ?_
   rintro _ u116 g117 rfl
   refine zzg 53 78 [.agg #[.bool r12.s, r12.m.v], .agg #[.bool false, r17.d.v]] ?_
   intro w119 u119 e119 d119
   have k124 := k_intMul d119 (hi12.ext (e16.trans (g19.ext.trans (e96.trans (g98.ext.trans (e115.trans (g117.ext.trans e119))))))) (nat_int (hd17.ext (e96.trans (g98.ext.trans (e115.trans (g117.ext.trans e119)))))) xq xq
   with_reducible refine zPm k124 ?_
   rintro _ u122 g123 ⟨i120, rfl, h121⟩
   refine zzg 60 79 [r12.d.v] ?_
   intro w125 u125 e125 d125
   have k128 := k_natural (x := r12.d) d125
   with_reducible refine zPm k128 ?_
   rintro _ u126 g127 rfl
   refine zzg 61 78 [.agg #[.bool r17.s, r17.m.v], .agg #[.bool false, r12.d.v]] ?_
   intro w129 u129 e129 d129
   have k134 := k_intMul d129 (hi17.ext (e96.trans (g98.ext.trans (e115.trans (g117.ext.trans (e119.trans (g123.ext.trans (e125.trans (g127.ext.trans e129))))))))) (nat_int (hd12.ext (e16.trans (g19.ext.trans (e96.trans (g98.ext.trans (e115.trans (g117.ext.trans (e119.trans (g123.ext.trans (e125.trans (g127.ext.trans e129)))))))))))) xq xq
   with_reducible refine zPm k134 ?_
   rintro _ u132 g133 ⟨i130, rfl, h131⟩
   refine zzg 62 76 [i120.v, i130.v] ?_
   intro w135 u135 e135 d135
   have k140 := k_intAdd d135 (h121.ext (e125.trans (g127.ext.trans (e129.trans (g133.ext.trans e135))))).raw (h131.ext e135).raw xq xq
   with_reducible refine zPm k140 ?_
   rintro _ u138 g139 ⟨i136, rfl, h137⟩
   refine zzj ⟨80, i136.cs⟩ ty80 ?_
   refine zzc 73 [(4, .adr 4 0), (5, .adr 5 0), (6, .adr 6 0), (7, .adr 7 0)] [(4, ⟨82, [.bool false, .slice none 0 0, .slice none 0 0]⟩), (5, ⟨128, r12.cs ++ [.bool wh12]⟩), (6, ⟨128, r17.cs ++ [.bool wh17]⟩), (7, ⟨80, i136.cs⟩)] (zzd (zzz [0, 0, 2, 6, 0, 16, 48, 126, 255, 511, 1023] [(0, []), (1, []), (2, []), (3, []), (4, []), (5, []), (6, []), (7, []), (8, []), (9, []), (10, [])] xv xv (zzi 63 (.v (i136.v)) ty80 zze (zza 64 (.adr 5 0) (zza 65 (.adr 5 2) (zzi 66 (.v r12.d.v) ty78 zzl (zza 67 (.adr 6 0) (zza 68 (.adr 6 2) (zzi 69 (.v r17.d.v) ty78 zzl (zzg 70 80 [r12.d.v, r17.d.v] ?_))))))))))
   intro w141 u141 e141 d141
   have k146 := k_natMul d141 (hd12.ext (e16.trans (g19.ext.trans (e96.trans (g98.ext.trans (e115.trans (g117.ext.trans (e119.trans (g123.ext.trans (e125.trans (g127.ext.trans (e129.trans (g133.ext.trans (e135.trans (g139.ext.trans e141))))))))))))))) (hd17.ext (e96.trans (g98.ext.trans (e115.trans (g117.ext.trans (e119.trans (g123.ext.trans (e125.trans (g127.ext.trans (e129.trans (g133.ext.trans (e135.trans (g139.ext.trans e141))))))))))))) xq xq
   with_reducible refine zPm k146 ?_
   rintro _ u144 g145 ⟨x142, rfl, h143⟩
   refine zza 71 (.v (.agg #[.bool i136.s, i136.m.v, x142.v])) (zzg 72 72 [.agg #[.bool i136.s, i136.m.v, x142.v]] ?_)
   intro w147 u147 e147 d147
   have k152 := k_lowest d147 (h137.ext (e141.trans (g145.ext.trans e147))).raw (h143.ext e147).raw (Nat.mul_pos hp12 hp17) xq xq
   with_reducible refine zPm k152 ?_
   rintro _ u150 g151 ⟨r148, rfl, h149⟩
   refine zzj ⟨82, r148.cs⟩ ty82 ?_
   refine zzb (zzo (ret0 [r148.v] ⟨zzr ty82 zze, trivial⟩ fun u153 e154 => ?_))
   refine ⟨r148, rfl, RatN.more (K := (max (max (K + L) (L + K) + 1) (K + L))) ?_ xq⟩
   rw [hq12, hq17, ← Nt.add_mk hp12 hp17]
   exact (h149.ext e154)
theorem k_ratSub {u w : World} {r1 : RL} {x : Rat} {K : Nat} {r2 : RL} {y : Rat} {L : Nat} (d : Dat u w) (hr1 : RatV u r1 x K) (hr2 : RatV u r2 y L) (hK : K ≤ 200000000) (hL : L ≤ 200000000) : Calls Try.prog 61 #[r1.v, r2.v] w (Post u w fun v u' => ∃ r : RL, v = r.v ∧ RatN u' r (x - y) (K + L + 1)) := by
 refine zzm (args := [r1.v, r2.v]) Try.func61 rfl Try.ntmps61 (rs := [.cell 4 82]) Try.results61 (le_b rfl) (le_b rfl) d ?_
 refine sq9 (zzk 2 ⟨82, r1.cs⟩ (zzk 3 ⟨82, r2.cs⟩ (zzk 4 ⟨82, [.bool false, .slice none 0 0, .slice none 0 0]⟩ (zzb (zzd (zzz [0, 0, 2, 7, 15] [(0, []), (1, []), (2, []), (3, []), (4, [])] xv xv (zzi 5 (.v (r1.v)) ty82 zze (zzi 6 (.v (r2.v)) ty82 zze (zzg 7 86 [r2.v] ?_)))))))))
 intro w11 u11 e11 d11
 have k14 := k_flip (r := r2) d11
 with_reducible refine zPm k14 ?_
 rintro _ u12 g13 rfl
 refine zzg 8 51 [r1.v, .agg #[.bool (!r2.s), r2.m.v, r2.d.v]] ?_
 intro w15 u15 e15 d15
 have k20 := k_ratAdd d15 (hr1.ext (e11.trans (g13.ext.trans e15))) ((flip_rat (hr2.ext (e11.trans g13.ext))).ext e15) xq xq
 with_reducible refine zPm k20 ?_
 rintro _ u18 g19 ⟨r16, rfl, h17⟩
 refine zzj ⟨82, r16.cs⟩ ty82 ?_
 refine zzb (zzo (ret0 [r16.v] ⟨zzr ty82 zze, trivial⟩ fun u21 e22 => ?_))
 refine ⟨r16, rfl, RatN.more (K := (K + L + 1)) ?_ xq⟩
 rw [Rat.sub_eq_add_neg]
 exact (h17.ext e22)
set_option maxHeartbeats 1000000 in
theorem k_ratMul {u w : World} {r1 : RL} {x : Rat} {K : Nat} {r2 : RL} {y : Rat} {L : Nat} (d : Dat u w) (hr1 : RatV u r1 x K) (hr2 : RatV u r2 y L) (hK : K ≤ 200000000) (hL : L ≤ 200000000) : Calls Try.prog 52 #[r1.v, r2.v] w (Post u w fun v u' => ∃ r : RL, v = r.v ∧ RatN u' r (x * y) (K + L)) := by
 refine zzm (args := [r1.v, r2.v]) Try.func52 rfl Try.ntmps52 (rs := [.cell 4 82]) Try.results52 (le_b rfl) (le_b rfl) d ?_
 refine sq9 (zzk 2 ⟨82, r1.cs⟩ (zzk 3 ⟨82, r2.cs⟩ (zzk 4 ⟨82, [.bool false, .slice none 0 0, .slice none 0 0]⟩ (zzb (zzd (zzz [0, 1, 0, 7, 0, 0, 63, 127] [(0, []), (2, []), (4, []), (5, []), (1, []), (3, []), (6, []), (7, [])] xv xv (zzi 8 (.v (r1.v)) ty82 zze (zzi 10 (.v (r2.v)) ty82 zze (zzk 5 ⟨128, [.bool false, .slice none 0 0, .slice none 0 0, .bool false]⟩ (zzk 6 ⟨128, [.bool false, .slice none 0 0, .slice none 0 0, .bool false]⟩ (zzg 9 75 [r1.v] ?_)))))))))))
 intro w11 u11 e11 d11
 have k15 := k_read d11 (hr1.ext e11)
 with_reducible refine zPm k15 ?_
 rintro _ u13 g14 ⟨r12, wh12, rfl, z12, D12, hi12, hd12, hp12, hq12, hw12, hk12⟩
 refine zzg 11 75 [r2.v] ?_
 intro w16 u16 e16 d16
 have k20 := k_read d16 (hr2.ext (e11.trans (g14.ext.trans e16)))
 with_reducible refine zPm k20 ?_
 rintro _ u18 g19 ⟨r17, wh17, rfl, z17, D17, hi17, hd17, hp17, hq17, hw17, hk17⟩
 refine zzj ⟨128, r12.cs ++ [.bool wh12]⟩ ty128 ?_
 refine zzj ⟨128, r17.cs ++ [.bool wh17]⟩ ty128 ?_
 refine zzb (sq9 (zza 12 (.adr 5 0) (zza 13 (.adr 5 0) (zzi 14 (.v (.agg #[.bool r12.s, r12.m.v])) ty80 zze (zza 15 (.adr 6 0) (zza 16 (.adr 6 0) (zzi 17 (.v (.agg #[.bool r17.s, r17.m.v])) ty80 zze (zzg 18 78 [.agg #[.bool r12.s, r12.m.v], .agg #[.bool r17.s, r17.m.v]] ?_))))))))
 intro w21 u21 e21 d21
 have k26 := k_intMul d21 (hi12.ext (e16.trans (g19.ext.trans e21))) (hi17.ext e21) xq xq
 with_reducible refine zPm k26 ?_
 rintro _ u24 g25 ⟨i22, rfl, h23⟩
 refine zzk 7 ⟨80, [.bool false, .slice none 0 0]⟩ (zzj ⟨80, i22.cs⟩ ty80 ?_)
 refine zzb (zzd (sq9 (zza 19 (.adr 5 3) (zzi 20 (zB wh12) ty4 zzl ?_))))
 rcases Bool.eq_false_or_eq_true wh12 with hs27 | hs27
 ·refine zyq 21 (x := zB wh12) (zB true) (by rw [hs27]) (zza 22 (.adr 6 3) ?_ (hw := w1 2 true 21))
  refine zzi 23 (zB wh17) ty4 zzl ?_ (hw := w1 2 true 21)
  refine zza 24 (zB wh17) (zzb (zzu (b := wh17) xv (fun hb28 => ?_) (fun hb28 => ?_)))
  ·replace hb28 : wh17 = true := hb28
   refine sq9 (zzi 25 (.v (i22.v)) ty80 zze (zzg 26 46 [i22.v] ?_))
   intro w29 u29 e29 d29
   have k34 := k_whole (i := i22) d29
   with_reducible refine zPm k34 ?_
   rintro _ u32 g33 ⟨y30, rfl, h31⟩
   refine zzj ⟨82, i22.cs ++ [y30.v]⟩ ty82 ?_
   refine zzb (zzo (zzw (ret0 [.agg #[.bool i22.s, .slice i22.m.a i22.m.n i22.m.c, .slice y30.a y30.n y30.c]] ⟨zzr ty82 zze, trivial⟩ fun u35 e36 => ?_)))
   refine ⟨(⟨i22.s, i22.m, y30⟩ : RL), rfl, RatN.more (K := (max (K + L) 1)) ?_ xq⟩
   rw [hq12, hq17, hw12 (by assumption), hw17 (by assumption), Nt.mk_one, Nt.mk_one, ← Rat.intCast_mul]
   exact ((whole_rat (h23.ext (e29.trans g33.ext)) h31).ext e36)
  ·replace hb28 : wh17 = false := hb28
   refine zzs (zzp ?_)
   refine zzd (zzz [0, 0, 2, 6, 0, 16, 48, 126, 255, 511, 1023] [(0, []), (1, []), (2, []), (3, []), (4, []), (5, []), (6, []), (7, []), (8, []), (9, []), (10, [])] xv xv (zzi 27 (.v (i22.v)) ty80 zze (zza 28 (.adr 5 0) (zza 29 (.adr 5 2) (zzi 30 (.v r12.d.v) ty78 zzl (zza 31 (.adr 6 0) (zza 32 (.adr 6 2) (zzi 33 (.v r17.d.v) ty78 zzl (zzg 34 80 [r12.d.v, r17.d.v] ?_)))))))))
   intro w37 u37 e37 d37
   have k42 := k_natMul d37 (hd12.ext (e16.trans (g19.ext.trans (e21.trans (g25.ext.trans e37))))) (hd17.ext (e21.trans (g25.ext.trans e37))) xq xq
   with_reducible refine zPm k42 ?_
   rintro _ u40 g41 ⟨x38, rfl, h39⟩
   refine zza 35 (.v (.agg #[.bool i22.s, i22.m.v, x38.v])) (zzg 36 72 [.agg #[.bool i22.s, i22.m.v, x38.v]] ?_)
   intro w43 u43 e43 d43
   have k48 := k_lowest d43 (h23.ext (e37.trans (g41.ext.trans e43))).raw (h39.ext e43).raw (Nat.mul_pos hp12 hp17) xq xq
   with_reducible refine zPm k48 ?_
   rintro _ u46 g47 ⟨r44, rfl, h45⟩
   refine zzj ⟨82, r44.cs⟩ ty82 ?_
   refine zzc 37 [(4, .adr 4 0)] [(4, ⟨82, r44.cs⟩)] (zzo (ret0 [r44.v] ⟨zzr ty82 zze, trivial⟩ fun u49 e50 => ?_))
   refine ⟨r44, rfl, RatN.more (K := (max (K + L) (K + L))) ?_ xq⟩
   rw [hq12, hq17, ← Nt.mul_mk]
   exact (h45.ext e50)
 ·refine zyq 21 (x := zB wh12) (zB false) (by rw [hs27]) (zzn 22 (uw 2 true false 21) (zzn 23 (uw 2 true false 21) (zza 24 (zB false) (zzb (zys xv (zzs (zzp ?_)))))))
  refine zzd (zzz [0, 0, 2, 6, 0, 16, 48, 126, 255, 511, 1023] [(0, []), (1, []), (2, []), (3, []), (4, []), (5, []), (6, []), (7, []), (8, []), (9, []), (10, [])] xv xv (zzi 27 (.v (i22.v)) ty80 zze (zza 28 (.adr 5 0) (zza 29 (.adr 5 2) (zzi 30 (.v r12.d.v) ty78 zzl (zza 31 (.adr 6 0) (zza 32 (.adr 6 2) (zzi 33 (.v r17.d.v) ty78 zzl (zzg 34 80 [r12.d.v, r17.d.v] ?_)))))))))
  intro w51 u51 e51 d51
  have k56 := k_natMul d51 (hd12.ext (e16.trans (g19.ext.trans (e21.trans (g25.ext.trans e51))))) (hd17.ext (e21.trans (g25.ext.trans e51))) xq xq
  with_reducible refine zPm k56 ?_
  rintro _ u54 g55 ⟨x52, rfl, h53⟩
  refine zza 35 (.v (.agg #[.bool i22.s, i22.m.v, x52.v])) (zzg 36 72 [.agg #[.bool i22.s, i22.m.v, x52.v]] ?_)
  intro w57 u57 e57 d57
  have k62 := k_lowest d57 (h23.ext (e51.trans (g55.ext.trans e57))).raw (h53.ext e57).raw (Nat.mul_pos hp12 hp17) xq xq
  with_reducible refine zPm k62 ?_
  rintro _ u60 g61 ⟨r58, rfl, h59⟩
  refine zzj ⟨82, r58.cs⟩ ty82 ?_
  refine zzc 37 [(4, .adr 4 0)] [(4, ⟨82, r58.cs⟩)] (zzo (ret0 [r58.v] ⟨zzr ty82 zze, trivial⟩ fun u63 e64 => ?_))
  refine ⟨r58, rfl, RatN.more (K := (max (K + L) (K + L))) ?_ xq⟩
  rw [hq12, hq17, ← Nt.mul_mk]
  exact (h59.ext e64)
theorem k_ratFrac {u w : World} {a b : Int} (d : Dat u w) (ha0 : -9223372036854775808 ≤ a) (ha1 : a ≤ 9223372036854775807) (hb0 : -9223372036854775808 ≤ b) (hb1 : b ≤ 9223372036854775807) : Calls Try.prog 48 #[.int .i64 a, .int .i64 b] w (Post u w fun v u' => ∃ r : RL, v = r.v ∧ RatN u' r ((a : Rat) / (b : Rat)) 2) := by
 refine zzm (args := [.int .i64 a, .int .i64 b]) Try.func48 rfl Try.ntmps48 (rs := [.cell 4 82]) Try.results48 (le_b rfl) (le_b rfl) d ?_
 refine sq9 (zzk 4 ⟨82, [.bool false, .slice none 0 0, .slice none 0 0]⟩ (zzb (zzd (sq9 (zza 5 (zI b) (zza 6 (zB (b == 0)) (zzb (zzu (b := b == 0) xv (fun hb11 => ?_) (fun hb11 => ?_)))))))))
 ·replace hb11 : (b == 0) = true := hb11
  refine sq9 (zzg 7 29 [.int .i64 0] ?_)
  intro w12 u12 e12 d12
  have k17 := k_ratOf d12 (z := 0) xq xq
  with_reducible refine zPm k17 ?_
  rintro _ u15 g16 ⟨r13, rfl, h14⟩
  refine zzj ⟨82, r13.cs⟩ ty82 ?_
  refine zzb (zzo (zzw (ret0 [r13.v] ⟨zzr ty82 zze, trivial⟩ fun u18 e19 => ?_)))
  refine ⟨r13, rfl, RatN.more (K := 2) ?_ xq⟩
  have hb0 : b = 0 := by simpa using hb11
  rw [hb0]; simp [Rat.div_def]; exact (h14.ext e19)
 ·replace hb11 : (b == 0) = false := hb11
  have hb0 : 0 < b.natAbs := by simp at hb11; omega
  refine zzs (zzp ?_)
  refine sq9 (zza 8 (zI a) (zzg 9 47 [.int .i64 a] ?_))
  intro w20 u20 e20 d20
  have k25 := k_intOf d20 (z := a) xq xq
  with_reducible refine zPm k25 ?_
  rintro _ u23 g24 ⟨i21, rfl, h22⟩
  refine zza 10 (zI b) (zzg 11 47 [.int .i64 b] ?_)
  intro w26 u26 e26 d26
  have k31 := k_intOf d26 (z := b) xq xq
  with_reducible refine zPm k31 ?_
  rintro _ u29 g30 ⟨i27, rfl, h28⟩
  refine zzg 12 71 [i21.v, i27.v] ?_
  intro w32 u32 e32 d32
  have k35 := k_quotient (i := i21) (j := i27) d32
  with_reducible refine zPm k35 ?_
  rintro _ u33 g34 rfl
  refine zzg 13 72 [.agg #[.bool (!(i21.s == i27.s)), i21.m.v, i27.m.v]] ?_
  intro w36 u36 e36 d36
  have k41 := k_lowest d36 ((quot_int (h22.ext (e26.trans (g30.ext.trans (e32.trans g34.ext)))) (h28.ext (e32.trans g34.ext))).ext e36) ((int_mag (h28.ext (e32.trans g34.ext))).ext e36).raw hb0 xq xq
  with_reducible refine zPm k41 ?_
  rintro _ u39 g40 ⟨r37, rfl, h38⟩
  refine zzj ⟨82, r37.cs⟩ ty82 ?_
  refine zzb (zzo (ret0 [r37.v] ⟨zzr ty82 zze, trivial⟩ fun u42 e43 => ?_))
  refine ⟨r37, rfl, RatN.more (K := (max 2 2)) ?_ xq⟩
  rw [← Nt.div_mk2 xq]
  exact (h38.ext e43)
def DivR (x y : Rat) (K : Nat) (v : Value) (u : World) : Prop := (v = .tuple #[.agg #[.bool false, .slice none 0 0, .slice none 0 0], .int .i64 3] ∧ y = 0) ∨ (y ≠ 0 ∧ ∃ r : RL, v = .tuple #[r.v, .int .i64 0] ∧ RatN u r (x / y) K)
set_option maxHeartbeats 1000000 in
theorem k_ratDiv {u w : World} {r1 : RL} {x : Rat} {K : Nat} {r2 : RL} {y : Rat} {L : Nat} (d : Dat u w) (hr1 : RatV u r1 x K) (hr2 : RatV u r2 y L) (hK : K ≤ 200000000) (hL : L ≤ 200000000) : Calls Try.prog 58 #[r1.v, r2.v] w (Post u w fun v u' => DivR x y (K + L) v u') := by
 refine zzm (args := [r1.v, r2.v]) Try.func58 rfl Try.ntmps58 (rs := [.cell 4 82, .tmp 5]) Try.results58 (le_b rfl) (le_b rfl) d ?_
 refine sq9 (zzk 2 ⟨82, r1.cs⟩ (zzk 3 ⟨82, r2.cs⟩ (zzk 4 ⟨82, [.bool false, .slice none 0 0, .slice none 0 0]⟩ (zza 5 (zI 0) (zzb (zzd (zzz [0, 1, 0, 7, 0, 0, 63, 127] [(0, []), (2, []), (4, []), (5, []), (1, []), (3, []), (6, []), (7, [])] xv xv (zzi 10 (.v (r1.v)) ty82 zze (zzi 12 (.v (r2.v)) ty82 zze (zzk 6 ⟨128, [.bool false, .slice none 0 0, .slice none 0 0, .bool false]⟩ (zzk 7 ⟨128, [.bool false, .slice none 0 0, .slice none 0 0, .bool false]⟩ ?_)))))))))))
 refine zzg 11 75 [r1.v] ?_
 intro w11 u11 e11 d11
 have k15 := k_read d11 (hr1.ext e11)
 with_reducible refine zPm k15 ?_
 rintro _ u13 g14 ⟨r12, wh12, rfl, z12, D12, hi12, hd12, hp12, hq12, hw12, hk12⟩
 refine zzg 13 75 [r2.v] ?_
 intro w16 u16 e16 d16
 have k20 := k_read d16 (hr2.ext (e11.trans (g14.ext.trans e16)))
 with_reducible refine zPm k20 ?_
 rintro _ u18 g19 ⟨r17, wh17, rfl, z17, D17, hi17, hd17, hp17, hq17, hw17, hk17⟩
 refine zzj ⟨128, r12.cs ++ [.bool wh12]⟩ ty128 ?_
 refine zzj ⟨128, r17.cs ++ [.bool wh17]⟩ ty128 ?_
 refine zzb (zzd (sq9 (zza 14 (.adr 7 0) (zza 15 (.adr 7 0) (zzi 16 (.v (.agg #[.bool r17.s, r17.m.v])) ty80 zze (zzg 17 83 [.agg #[.bool r17.s, r17.m.v]] ?_))))))
 intro w21 u21 e21 d21
 have k24 := k_intSign d21 (hi17.ext e21)
 with_reducible refine zPm k24 ?_
 rintro _ u22 g23 rfl
 refine zza 18 (zB ((Nt.cmpS z17 0) == 0)) (zzb (zzu (b := (Nt.cmpS z17 0) == 0) xv (fun hb25 => ?_) (fun hb25 => ?_)))
 ·replace hb25 : ((Nt.cmpS z17 0) == 0) = true := hb25
  refine sq9 (zza 19 (.v (.agg #[.bool false, .slice none 0 0, .slice none 0 0])) (zzj ⟨82, [.bool false, .slice none 0 0, .slice none 0 0]⟩ ty82 ?_))
  refine zza 5 (zI 3) (zzb (zzo (zzw (ret0 [.agg #[.bool false, .slice none 0 0, .slice none 0 0], .int .i64 3] ⟨zzr ty82 zze, zzq, trivial⟩ fun u26 e27 => ?_))))
  left
  exact ⟨rfl, by rw [hq17, Nt.cmp_eq0 hb25, Rat.zero_mkRat]⟩
 ·replace hb25 : ((Nt.cmpS z17 0) == 0) = false := hb25
  have hz0 : z17 ≠ 0 := Nt.cmp_ne0 hb25
  have hpp : 0 < ((D12 : Int) * z17 : Int).natAbs := Int.natAbs_pos.2 (Int.mul_ne_zero xq hz0)
  refine zzs (zzp ?_)
  refine zzd (zzz [0, 1, 3, 0, 8, 24, 56, 127, 0, 511] [(0, []), (1, []), (2, []), (3, []), (4, []), (5, []), (8, []), (6, []), (7, []), (9, [])] xv xv (zza 20 (.adr 6 0) (zza 21 (.adr 6 0) (zzi 22 (.v (.agg #[.bool r12.s, r12.m.v])) ty80 zze (zza 23 (.adr 7 0) (zza 24 (.adr 7 2) (zzi 25 (.v r17.d.v) ty78 zzl (zzk 8 ⟨80, [.bool false, .slice none 0 0]⟩ (zzg 26 79 [r17.d.v] ?_)))))))))
  intro w28 u28 e28 d28
  have k31 := k_natural (x := r17.d) d28
  with_reducible refine zPm k31 ?_
  rintro _ u29 g30 rfl
  refine zzg 27 78 [.agg #[.bool r12.s, r12.m.v], .agg #[.bool false, r17.d.v]] ?_
  intro w32 u32 e32 d32
  have k37 := k_intMul d32 (hi12.ext (e16.trans (g19.ext.trans (e21.trans (g23.ext.trans (e28.trans (g30.ext.trans e32))))))) (nat_int (hd17.ext (e21.trans (g23.ext.trans (e28.trans (g30.ext.trans e32)))))) xq xq
  with_reducible refine zPm k37 ?_
  rintro _ u35 g36 ⟨i33, rfl, h34⟩
  refine zzj ⟨80, i33.cs⟩ ty80 ?_
  refine zzb (zzd (zzz [0, 1, 3, 7, 0, 16, 48, 127, 0, 511] [(0, []), (1, []), (2, []), (4, []), (5, []), (6, []), (8, []), (3, []), (7, []), (9, [])] xv xv (zza 28 (.adr 6 0) (zza 29 (.adr 6 2) (zzi 30 (.v r12.d.v) ty78 zzl (zza 32 (.adr 7 0) (zza 33 (.adr 7 0) (zzi 34 (.v (.agg #[.bool r17.s, r17.m.v])) ty80 zze (zzk 9 ⟨80, [.bool false, .slice none 0 0]⟩ (zzg 31 79 [r12.d.v] ?_))))))))))
  intro w38 u38 e38 d38
  have k41 := k_natural (x := r12.d) d38
  with_reducible refine zPm k41 ?_
  rintro _ u39 g40 rfl
  refine zzg 35 78 [.agg #[.bool false, r12.d.v], .agg #[.bool r17.s, r17.m.v]] ?_
  intro w42 u42 e42 d42
  have k47 := k_intMul d42 (nat_int (hd12.ext (e16.trans (g19.ext.trans (e21.trans (g23.ext.trans (e28.trans (g30.ext.trans (e32.trans (g36.ext.trans (e38.trans (g40.ext.trans e42)))))))))))) (hi17.ext (e21.trans (g23.ext.trans (e28.trans (g30.ext.trans (e32.trans (g36.ext.trans (e38.trans (g40.ext.trans e42))))))))) xq xq
  with_reducible refine zPm k47 ?_
  rintro _ u45 g46 ⟨i43, rfl, h44⟩
  refine zzj ⟨80, i43.cs⟩ ty80 ?_
  refine zzc 40 [(4, .adr 4 0), (8, .adr 8 0), (9, .adr 9 0)] [(4, ⟨82, [.bool false, .slice none 0 0, .slice none 0 0]⟩), (8, ⟨80, i33.cs⟩), (9, ⟨80, i43.cs⟩)] (sq9 (zzi 36 (.v (i33.v)) ty80 zze (zzi 37 (.v (i43.v)) ty80 zze (zzg 38 71 [i33.v, i43.v] ?_))))
  intro w48 u48 e48 d48
  have k51 := k_quotient (i := i33) (j := i43) d48
  with_reducible refine zPm k51 ?_
  rintro _ u49 g50 rfl
  refine zzg 39 72 [.agg #[.bool (!(i33.s == i43.s)), i33.m.v, i43.m.v]] ?_
  intro w52 u52 e52 d52
  have k57 := k_lowest d52 ((quot_int (h34.ext (e38.trans (g40.ext.trans (e42.trans (g46.ext.trans (e48.trans g50.ext)))))) (h44.ext (e48.trans g50.ext))).ext e52) ((int_mag (h44.ext (e48.trans g50.ext))).ext e52).raw hpp xq xq
  with_reducible refine zPm k57 ?_
  rintro _ u55 g56 ⟨r53, rfl, h54⟩
  refine zzj ⟨82, r53.cs⟩ ty82 ?_
  refine zza 5 (zI 0) (zzb (zzo (ret0 [r53.v, .int .i64 0] ⟨zzr ty82 zze, zzq, trivial⟩ fun u58 e59 => ?_)))
  right
  refine ⟨?_, r53, rfl, RatN.more (K := (max (K + L) (K + L))) ?_ xq⟩
  ·rw [hq17]; exact (Rat.mkRat_ne_zero xq).2 hz0
  ·rw [hq12, hq17, ← Nt.quo_mk hp12 hp17 hz0, ← Nt.div_mk2 xq]
   exact (h54.ext e59)
theorem k_ratDiv1 {u w : World} {r1 r2 : RL} {x y : Rat} {K L : Nat} (d : Dat u w) (hr1 : RatV u r1 x K) (hr2 : RatV u r2 y L) (hy : y ≠ 0) (hK : K ≤ 200000000) (hL : L ≤ 200000000) : Calls Try.prog 58 #[r1.v, r2.v] w (Post u w fun v u' => ∃ r : RL, v = .tuple #[r.v, .int .i64 0] ∧ RatN u' r (x / y) (K + L)) :=
 Post.mono (k_ratDiv d hr1 hr2 hK hL) fun v u' _ h => h.elim (fun h => absurd h.2 hy) (fun h => h.2)
theorem k_cut {u w : World} {x : Sl} {l : List Rat} {K : Nat} (d : Dat u w) (hx : PolV u x l K) (hK : K ≤ 100000000) (hx9 : l.length ≤ 1000000000) : Calls Try.prog 73 #[x.v] w (Post u w fun v u' => v = .slice x.a (Nt.trimQ l).length x.c) := by
 have hlen := hx.len
 refine zzm (args := [.slice x.a x.n x.c]) Try.func73 rfl Try.ntmps73 (rs := [.tmp 2]) Try.results73 (le_b rfl) (le_b rfl) d ?_
 refine sq9 (zza 2 (.v (.slice none 0 0)) (zzb (sq9 (zza 4 (.v x.v) (zza 5 (zI x.n) (zza 3 (zI x.n) (zzb (zzd (zzt (zyn (I := fun m11 S' u' => ∃ (n : Nat), (m11 = n) ∧ (n ≤ l.length) ∧ (∀ i, n ≤ i → Nt.co l i = 0) ∧ (S' = St.of 22 [(0, .v (.slice x.a x.n x.c)), (3, zI n)] []) ∧ (Ext u u')) (fun m S u1 u2 e h => by obtain ⟨n, hm, p0, p1, hS, hE⟩ := h; exact ⟨n, hm, p0, p1, hS, hE.trans e⟩) _ yj ⟨x.n, rfl, by omega, fun i hi => Nt.co_ge xq, rfl, (Ext.refl _)⟩ ?_))))))))))
 rintro m11 _ u11 ⟨n, hm11, hn, hz, rfl, e11⟩
 refine zzd (sq9 (zza 6 (zI n) (zza 7 (zB (decide ((0 : Int) < (n : Int)))) ?_)))
 rcases Bool.eq_false_or_eq_true (decide ((0 : Int) < (n : Int))) with hs12 | hs12
 ·refine zyq 8 (x := zB (decide ((0 : Int) < (n : Int)))) (zB true) (by rw [hs12]) ?_
  have qhs12 := of_decide_eq_true hs12
  refine zza 9 (.v x.v) ?_ (hw := w1 2 true 8)
  refine zza 10 (zI n) ?_ (hw := w1 2 true 8)
  refine zyq 11 (x := zI (IntKind.i64.wrap ((n : Int) - 1))) (zI (n - 1 : Nat)) (eqI xk) ?_ (hw := w1 2 true 8)
  have hl13 := (hx.ext e11).len
  obtain ⟨r13, b13, o13, hA13, hc13, hr13⟩ := pol_at (hx.ext e11) (i := n - 1) xq
  refine zya 12 (o13 + (n - 1) * 3) (n := x.n) (off := o13) (sz := 3) (i := ((n - 1 : Nat) : Int)) xq hA13 xq xq sl43 ?_ (hw := w1 2 true 8)
  refine zym 13 r13.cs hc13 ty82 ?_ (hw := w1 2 true 8)
  refine zzg 14 82 [r13.v] ?_ (hw := w1 2 true 8)
  intro w14 u14 e14 d14
  have k17 := k_ratSign d14 (hr13.ext e14)
  with_reducible refine zPm k17 ?_
  rintro _ u15 g16 rfl
  refine zza 15 (zB ((Nt.sgQ (l.getD (n - 1) 0)) == 0)) ?_ (hw := w1 2 true 8)
  refine zza 16 (zB ((Nt.sgQ (l.getD (n - 1) 0)) == 0)) (zzb (zzu (b := (Nt.sgQ (l.getD (n - 1) 0)) == 0) xv (fun hb18 => ?_) (fun hb18 => ?_)))
  ·replace hb18 : ((Nt.sgQ (l.getD (n - 1) 0)) == 0) = true := hb18
   refine zzs (zzp ?_)
   refine zzt (zzf (zza 17 (zI n) (zyq 18 (x := zI (IntKind.i64.wrap ((n : Int) - 1))) (zI (n - 1 : Nat)) (eqI xk) (zza 3 (zI (n - 1 : Nat)) (zzx ?_)))))
   refine ⟨_, ?_, _, by exact zzv _ _ _, n - 1, rfl, by omega, (fun i hi => by by_cases e : i = n - 1; (rw [e]; have h9 := hb18; rw [Nt.sgQ_eq] at h9; exact of_decide_eq_true h9); exact hz i xq), rfl, (e11.trans (e14.trans g16.ext))⟩
   omega
  ·replace hb18 : ((Nt.sgQ (l.getD (n - 1) 0)) == 0) = false := hb18
   refine zyc (zzp (sq9 (zza 19 (.v x.v) (zza 20 (zI n) ?_))))
   have hl19 := (hx.ext (e11.trans (e14.trans g16.ext))).len
   have hc19 := (hx.ext (e11.trans (e14.trans g16.ext))).cap
   refine sy_front 21 (n := x.n) (c := x.c) n sl43 rfl xq ?_
   refine zza 2 (.v (.slice x.a n x.c)) (zzb (zzo (ret0 [.slice x.a n x.c] ⟨zzq, trivial⟩ fun u20 e21 => ?_)))
   have e := Nt.trim_len_of (l := l) hn hz (fun _ h => by have h9 := hb18; rw [Nt.sgQ_eq] at h9; exact of_decide_eq_false h9 h)
   show Value.slice _ _ _ = Value.slice _ _ _
   rw [e]
 ·refine zyq 8 (x := zB (decide ((0 : Int) < (n : Int)))) (zB false) (by rw [hs12]) ?_
  have qhs12 := of_decide_eq_false hs12
  refine zzn 9 (uw 2 true false 8) (zzn 10 (uw 2 true false 8) (zzn 11 (uw 2 true false 8) (zzn 12 (uw 2 true false 8) (zzn 13 (uw 2 true false 8) (zzn 14 (uw 2 true false 8) (zzn 15 (uw 2 true false 8) (zza 16 (zB false) (zzb (zys xv (zyc (zzp ?_)))))))))))
  refine sq9 (zza 19 (.v x.v) (zza 20 (zI n) ?_))
  have hl22 := (hx.ext e11).len
  have hc22 := (hx.ext e11).cap
  refine sy_front 21 (n := x.n) (c := x.c) n sl43 rfl xq ?_
  refine zza 2 (.v (.slice x.a n x.c)) (zzb (zzo (ret0 [.slice x.a n x.c] ⟨zzq, trivial⟩ fun u23 e24 => ?_)))
  have e := Nt.trim_len_of (l := l) hn hz (fun h => absurd h xq)
  show Value.slice _ _ _ = Value.slice _ _ _
  rw [e]
def NewR (u : World) (n : Nat) (t : List Rat) (K : Nat) (v : Value) (u' : World) : Prop := ∃ (b : Nat) (L : List RL), v = .slice (some ⟨b, 0, none⟩) n n ∧ u.heap.size ≤ b ∧ u'.heap[b]? = some (.cells (rcs L).toArray 82 (0, 0)) ∧ L.length = n ∧ RatsN u' L t K
theorem k_zeros {u w : World} {n : Nat} (d : Dat u w) (hn9 : n ≤ 1000000000) : Calls Try.prog 50 #[.int .i64 (n : Int)] w (Post u w fun v u' => NewR u n (List.replicate n 0) 2 v u') := by
 refine zzm (args := [.int .i64 n]) Try.func50 rfl Try.ntmps50 (rs := [.tmp 2]) Try.results50 (le_b rfl) (le_b rfl) d ?_
 refine sq9 (zza 2 (.v (.slice none 0 0)) (zzb (sq9 (zza 5 (zI n) (sy_make 6 (T := 43) (E := 82) (z := .agg #[.bool false, .slice none 0 0, .slice none 0 0]) (size := 3) (bytes := 56) n (rcs (List.replicate n rl0)) xv xv rfl rfl xq yq (made_rcs _) ?_)))))
 refine zza 3 (.slc 6 0 n n) (zzc 18 [(3, .slc 6 0 n n)] [(6, ⟨82, rcs (List.replicate n rl0)⟩)] (zzd (sq9 (zza 7 (.slc 6 0 n n) (zza 8 (zI n) (zza 9 (zI 0) (zzc 18 [(3, .slc 6 0 n n), (8, zI n), (9, zI 0)] [(6, ⟨82, rcs (List.replicate n rl0)⟩)] (zzt (zyn (I := fun m11 S' u' => ∃ (i : Nat) (L : List RL), (m11 = n - i) ∧ (i ≤ n) ∧ (L.length = n) ∧ (S' = St.of 18 [(3, .slc 6 0 n n), (8, zI n), (9, zI i)] [(6, ⟨82, rcs L⟩)]) ∧ (Ext u u') ∧ (RatsN u' (L.take i) ((List.replicate n (0 : Rat)).take i) 2)) (fun m S u1 u2 e h => by obtain ⟨i, L, hm, p0, p1, hS, hE, f0⟩ := h; exact ⟨i, L, hm, p0, p1, hS, hE.trans e, f0.ext e⟩) _ yj ⟨0, List.replicate n rl0, rfl, by omega, by simp, rfl, (Ext.refl _), RatsN.tnil _ _ _ _⟩ ?_)))))))))
 rintro m11 _ u11 ⟨i, L, hm11, hi, hL, rfl, e11, hR⟩
 refine sq9 (zza 10 (zB (decide ((i : Int) < (n : Int)))) (zzb (zzd (zzu (b := decide ((i : Int) < (n : Int))) xv (fun hb12 => ?_) (fun hb12 => ?_)))))
 ·replace hb12 : (decide ((i : Int) < (n : Int))) = true := hb12
  have qhb12 := of_decide_eq_true hb12
  refine zzs (zzp ?_)
  refine zzd (zzt (sq9 (zza 11 (zI i) (zza 4 (zI i) (zzb (zzf (zza 12 (.slc 6 0 n n) (zza 13 (zI i) (zzg 14 29 [.int .i64 0] ?_)))))))))
  intro w13 u13 e13 d13
  have k18 := k_ratOf d13 (z := 0) xq xq
  with_reducible refine zPm k18 ?_
  rintro _ u16 g17 ⟨r14, rfl, h15⟩
  refine zyw 15 (off' := i * 3) (n := n) (off := 0) (sz := 3) (i := (i : Int)) sl43 xq xq xq ?_
  refine zyv (V := ⟨82, rcs L⟩) (off := i * 3) (rcs ((L).set i r14)) ty82 yy (zyx (r := r14) (i := i) yw rfl) ?_
  refine zzx ?_
  refine zzp (zzf (zyq 16 (x := zI (IntKind.i64.wrap ((i : Int) + 1))) (zI (i + 1 : Nat)) (eqI xk) (zza 9 (zI (i + 1 : Nat)) (zzx ?_))))
  have ht19 : i < (List.replicate n (0 : Rat)).length := by simp; omega
  refine ⟨_, ?_, _, by exact zzv _ _ _, i + 1, (L).set i r14, rfl, by omega, by simpa using hL, rfl, (e11.trans (e13.trans g17.ext)), RatsN.tstep (hR.ext (e13.trans g17.ext)) xq ht19 (RatN.more (K := 2) h15 xq) (by rw [List.getD_eq_getElem?_getD, List.getElem?_replicate]; split <;> rfl)⟩
  omega
 ·replace hb12 : (decide ((i : Int) < (n : Int))) = false := hb12
  have qhb12 := of_decide_eq_false hb12
  refine zyc (zzp (zzd (zyp (r := 3) (t := 6) [3, 6] xj xv zv zv xv (fun b20 u21 e22 hb23 hh24 => ?_))))
  have hp25 : PolN u21 ⟨some ⟨b20, 0, none⟩, n, n⟩ (List.replicate n (0 : Rat)) 2 := pol_data1 hh24 yq (RatsN.tdone (hR.ext e22) xq yz) xq
  refine zzf (zza 17 (.v (.slice (some ⟨b20, 0, none⟩) n n)) (zza 2 (.v (.slice (some ⟨b20, 0, none⟩) n n)) (zzb (zzo (ret0 [.slice (some ⟨b20, 0, none⟩) n n] ⟨zzq, trivial⟩ fun u26 e27 => ?_)))))
  exact ⟨b20, L, rfl, hb23, e27.cells hh24, by omega, (RatsN.tdone (hR.ext (e22.trans e27)) xq yz)⟩
theorem k_poScale {u w : World} {x : Sl} {l : List Rat} {r : RL} {q : Rat} {K M : Nat} (d : Dat u w) (hx : PolV u x l K) (hr : RatV u r q M) (hK : K ≤ 50000000) (hx9 : l.length ≤ 1000000000) (hM : M ≤ 50000000) : Calls Try.prog 53 #[x.v, r.v] w (Post u w fun v u' => ∃ y : Sl, v = y.v ∧ PolN u' y (Nt.trimQ (l.map (· * q))) (K + M)) := by
 have hlen := hx.len
 refine zzm (args := [.slice x.a x.n x.c, r.v]) Try.func53 rfl Try.ntmps53 (rs := [.tmp 4]) Try.results53 (le_b rfl) (le_b rfl) d ?_
 refine sq9 (zzk 3 ⟨82, r.cs⟩ (zza 4 (.v (.slice none 0 0)) (zzb (sq9 (zza 7 (.v x.v) (zza 8 (zI x.n) (sy_make 9 (T := 43) (E := 82) (z := .agg #[.bool false, .slice none 0 0, .slice none 0 0]) (size := 3) (bytes := 56) x.n (rcs (List.replicate x.n rl0)) xv xv rfl rfl xq yq (made_rcs _) ?_)))))))
 refine zza 5 (.slc 9 0 x.n x.n) (zzc 27 [(0, .v x.v), (3, .adr 3 0), (5, .slc 9 0 x.n x.n)] [(3, ⟨82, r.cs⟩), (9, ⟨82, rcs (List.replicate x.n rl0)⟩)] (zzd (sq9 (zza 10 (.slc 9 0 x.n x.n) (zza 11 (zI x.n) (zza 12 (zI 0) (zzc 27 [(0, .v x.v), (3, .adr 3 0), (5, .slc 9 0 x.n x.n), (11, zI x.n), (12, zI 0)] [(3, ⟨82, r.cs⟩), (9, ⟨82, rcs (List.replicate x.n rl0)⟩)] (zzt (zyn (I := fun m11 S' u' => ∃ (i : Nat) (L : List RL), (m11 = x.n - i) ∧ (i ≤ x.n) ∧ (L.length = x.n) ∧ (S' = St.of 27 [(0, .v (.slice x.a x.n x.c)), (3, .adr 3 0), (5, .slc 9 0 x.n x.n), (11, zI x.n), (12, zI i)] [(3, ⟨82, r.cs⟩), (9, ⟨82, rcs L⟩)]) ∧ (Ext u u') ∧ (RatsN u' (L.take i) ((l.map (· * q)).take i) (K + M))) (fun m S u1 u2 e h => by obtain ⟨i, L, hm, p0, p1, hS, hE, f0⟩ := h; exact ⟨i, L, hm, p0, p1, hS, hE.trans e, f0.ext e⟩) _ yj ⟨0, List.replicate x.n rl0, rfl, by omega, by simp, rfl, (Ext.refl _), RatsN.tnil _ _ _ _⟩ ?_)))))))))
 rintro m11 _ u11 ⟨i, L, hm11, hi, hL, rfl, e11, hR⟩
 refine sq9 (zza 13 (zB (decide ((i : Int) < (x.n : Int)))) (zzb (zzd (zzu (b := decide ((i : Int) < (x.n : Int))) xv (fun hb12 => ?_) (fun hb12 => ?_)))))
 ·replace hb12 : (decide ((i : Int) < (x.n : Int))) = true := hb12
  have qhb12 := of_decide_eq_true hb12
  refine zzs (zzp ?_)
  refine zzd (zzt (sq9 (zza 14 (zI i) (zza 6 (zI i) (zzb (zzz [0, 0, 0, 0, 12, 28, 0, 124, 255, 511] [(0, []), (1, []), (2, []), (3, []), (4, []), (5, []), (6, []), (7, []), (8, []), (9, [])] xv xv (zza 15 (.slc 9 0 x.n x.n) (zza 16 (zI i) (zza 17 (.v x.v) (zza 18 (zI i) ?_))))))))))
  have hl13 := (hx.ext e11).len
  obtain ⟨r13, b13, o13, hA13, hc13, hr13⟩ := pol_at (hx.ext e11) (i := i) xq
  refine zya 19 (o13 + i * 3) (n := x.n) (off := o13) (sz := 3) (i := (i : Int)) xq hA13 xq xq sl43 (zym 20 r13.cs hc13 ty82 (zzi 21 (.v (r.v)) ty82 zze (zzg 22 52 [r13.v, r.v] ?_)))
  intro w14 u14 e14 d14
  have k19 := k_ratMul d14 (hr13.ext e14) (hr.ext (e11.trans e14)) xq xq
  with_reducible refine zPm k19 ?_
  rintro _ u17 g18 ⟨r15, rfl, h16⟩
  refine zyw 23 (off' := i * 3) (n := x.n) (off := 0) (sz := 3) (i := (i : Int)) sl43 xq xq xq ?_
  refine zyv (V := ⟨82, rcs L⟩) (off := i * 3) (rcs ((L).set i r15)) ty82 yy (zyx (r := r15) (i := i) yw rfl) ?_
  refine zzx ?_
  refine zzp (zzf (zyq 24 (x := zI (IntKind.i64.wrap ((i : Int) + 1))) (zI (i + 1 : Nat)) (eqI xk) (zza 12 (zI (i + 1 : Nat)) (zzx ?_))))
  have ht20 : i < (l.map (· * q)).length := by simp; omega
  refine ⟨_, ?_, _, by exact zzv _ _ _, i + 1, (L).set i r15, rfl, by omega, by simpa using hL, rfl, (e11.trans (e14.trans g18.ext)), RatsN.tstep (hR.ext (e14.trans g18.ext)) xq ht20 (RatN.more (K := (K + M)) h16 xq) (by simp [List.getElem?_eq_getElem (show i < l.length by omega)])⟩
  omega
 ·replace hb12 : (decide ((i : Int) < (x.n : Int))) = false := hb12
  have qhb12 := of_decide_eq_false hb12
  refine zyc (zzp (zzd (zyp (r := 5) (t := 9) [5, 9] xj xv zv zv xv (fun b21 u22 e23 hb24 hh25 => ?_))))
  have hp26 : PolN u22 ⟨some ⟨b21, 0, none⟩, x.n, x.n⟩ (l.map (· * q)) (K + M) := pol_data1 hh25 yq (RatsN.tdone (hR.ext e23) xq yz) xq
  refine zzf (zza 25 (.v (.slice (some ⟨b21, 0, none⟩) x.n x.n)) (zzg 26 73 [.slice (some ⟨b21, 0, none⟩) x.n x.n] ?_))
  intro w27 u27 e27 d27
  have k30 := k_cut d27 (hp26.ext e27).raw xq xz
  with_reducible refine zPm k30 ?_
  rintro _ u28 g29 rfl
  refine zza 4 (.v (.slice (some ⟨b21, 0, none⟩) (Nt.trimQ (l.map (· * q))).length x.n)) (zzb (zzo (ret0 [.slice (some ⟨b21, 0, none⟩) (Nt.trimQ (l.map (· * q))).length x.n] ⟨zzq, trivial⟩ fun u31 e32 => ?_)))
  refine ⟨(⟨some ⟨b21, 0, none⟩, (Nt.trimQ (l.map (· * q))).length, x.n⟩ : Sl), rfl, ?_⟩
  exact ((cut_N (hp26.ext (e27.trans g29.ext))).ext e32)
theorem k_poTrim {u w : World} {x : Sl} {l : List Rat} {K : Nat} (d : Dat u w) (hx : PolV u x l K) (hK : K ≤ 50000000) (hx9 : l.length ≤ 1000000000) : Calls Try.prog 55 #[x.v] w (Post u w fun v u' => ∃ y : Sl, v = y.v ∧ PolN u' y (Nt.trimQ l) K) := by
 have hlen := hx.len
 have htl := Nt.zzh l
 refine zzm (args := [.slice x.a x.n x.c]) Try.func55 rfl Try.ntmps55 (rs := [.tmp 2]) Try.results55 (le_b rfl) (le_b rfl) d ?_
 refine sq9 (zza 2 (.v (.slice none 0 0)) (zzb (sq9 (zza 5 (.v x.v) (zzg 6 73 [x.v] ?_)))))
 intro w11 u11 e11 d11
 have k14 := k_cut d11 (hx.ext e11) xq xz
 with_reducible refine zPm k14 ?_
 rintro _ u12 g13 rfl
 refine zza 7 (zI (((Nt.trimQ l).length : Nat) : Int)) (sy_make 8 (T := 43) (E := 82) (z := .agg #[.bool false, .slice none 0 0, .slice none 0 0]) (size := 3) (bytes := 56) ((Nt.trimQ l).length) (rcs (List.replicate ((Nt.trimQ l).length) rl0)) xv xv rfl rfl xq yq (made_rcs _) ?_)
 refine zza 3 (.slc 8 0 ((Nt.trimQ l).length) ((Nt.trimQ l).length)) (zzc 24 [(0, .v x.v), (3, .slc 8 0 ((Nt.trimQ l).length) ((Nt.trimQ l).length))] [(8, ⟨82, rcs (List.replicate ((Nt.trimQ l).length) rl0)⟩)] (zzd (sq9 (zza 9 (.slc 8 0 ((Nt.trimQ l).length) ((Nt.trimQ l).length)) (zza 10 (zI (((Nt.trimQ l).length : Nat) : Int)) (zza 11 (zI 0) (zzc 24 [(0, .v x.v), (3, .slc 8 0 ((Nt.trimQ l).length) ((Nt.trimQ l).length)), (10, zI (((Nt.trimQ l).length : Nat) : Int)), (11, zI 0)] [(8, ⟨82, rcs (List.replicate ((Nt.trimQ l).length) rl0)⟩)] (zzt (zyn (I := fun m15 S' u' => ∃ (i : Nat) (L : List RL), (m15 = ((Nt.trimQ l).length) - i) ∧ (i ≤ (Nt.trimQ l).length) ∧ (L.length = (Nt.trimQ l).length) ∧ (S' = St.of 24 [(0, .v (.slice x.a x.n x.c)), (3, .slc 8 0 ((Nt.trimQ l).length) ((Nt.trimQ l).length)), (10, zI (((Nt.trimQ l).length : Nat) : Int)), (11, zI i)] [(8, ⟨82, rcs L⟩)]) ∧ (Ext u12 u') ∧ (RatsN u' (L.take i) ((Nt.trimQ l).take i) K)) (fun m S u1 u2 e h => by obtain ⟨i, L, hm, p0, p1, hS, hE, f0⟩ := h; exact ⟨i, L, hm, p0, p1, hS, hE.trans e, f0.ext e⟩) _ yj ⟨0, List.replicate ((Nt.trimQ l).length) rl0, rfl, by omega, by simp, rfl, (Ext.refl _), RatsN.tnil _ _ _ _⟩ ?_)))))))))
 rintro m15 _ u15 ⟨i, L, hm15, hi, hL, rfl, e15, hR⟩
 refine sq9 (zza 12 (zB (decide ((i : Int) < (((Nt.trimQ l).length : Nat) : Int)))) (zzb (zzd (zzu (b := decide ((i : Int) < (((Nt.trimQ l).length : Nat) : Int))) xv (fun hb16 => ?_) (fun hb16 => ?_)))))
 ·replace hb16 : (decide ((i : Int) < (((Nt.trimQ l).length : Nat) : Int))) = true := hb16
  have qhb16 := of_decide_eq_true hb16
  refine zzs (zzp ?_)
  refine zzd (zzt (sq9 (zza 13 (zI i) (zza 4 (zI i) (zzb (zzf (zza 14 (.slc 8 0 ((Nt.trimQ l).length) ((Nt.trimQ l).length)) (zza 15 (zI i) (zza 16 (.v x.v) (zza 17 (zI i) ?_))))))))))
  have hl17 := (hx.ext (e11.trans (g13.ext.trans e15))).len
  obtain ⟨r17, b17, o17, hA17, hc17, hr17⟩ := pol_at (hx.ext (e11.trans (g13.ext.trans e15))) (i := i) xq
  refine zya 18 (o17 + i * 3) (n := x.n) (off := o17) (sz := 3) (i := (i : Int)) xq hA17 xq xq sl43 (zym 19 r17.cs hc17 ty82 (zzg 20 59 [r17.v] ?_))
  intro w18 u18 e18 d18
  have k23 := k_ratTrim d18 (hr17.ext e18) xq
  with_reducible refine zPm k23 ?_
  rintro _ u21 g22 ⟨r19, rfl, h20⟩
  refine zyw 21 (off' := i * 3) (n := (Nt.trimQ l).length) (off := 0) (sz := 3) (i := (i : Int)) sl43 xq xq xq ?_
  refine zyv (V := ⟨82, rcs L⟩) (off := i * 3) (rcs ((L).set i r19)) ty82 yy (zyx (r := r19) (i := i) yw rfl) ?_
  refine zzx ?_
  refine zzp (zzf (zyq 22 (x := zI (IntKind.i64.wrap ((i : Int) + 1))) (zI (i + 1 : Nat)) (eqI xk) (zza 11 (zI (i + 1 : Nat)) (zzx ?_))))
  have ht24 : i < (Nt.trimQ l).length := by skip; omega
  refine ⟨_, ?_, _, by exact zzv _ _ _, i + 1, (L).set i r19, rfl, by omega, by simpa using hL, rfl, (e15.trans (e18.trans g22.ext)), RatsN.tstep (hR.ext (e18.trans g22.ext)) xq ht24 (RatN.more (K := K) h20 xq) (Nt.trim_co l i).symm⟩
  omega
 ·replace hb16 : (decide ((i : Int) < (((Nt.trimQ l).length : Nat) : Int))) = false := hb16
  have qhb16 := of_decide_eq_false hb16
  refine zyc (zzp (zzd (zyp (r := 3) (t := 8) [3, 8] xj xv zv zv xv (fun b25 u26 e27 hb28 hh29 => ?_))))
  have hp30 : PolN u26 ⟨some ⟨b25, 0, none⟩, (Nt.trimQ l).length, (Nt.trimQ l).length⟩ (Nt.trimQ l) K := pol_data1 hh29 yq (RatsN.tdone (hR.ext e27) xq (by skip; omega)) xq
  refine zzf (zza 23 (.v (.slice (some ⟨b25, 0, none⟩) ((Nt.trimQ l).length) ((Nt.trimQ l).length))) (zza 2 (.v (.slice (some ⟨b25, 0, none⟩) ((Nt.trimQ l).length) ((Nt.trimQ l).length))) (zzb (zzo (ret0 [.slice (some ⟨b25, 0, none⟩) ((Nt.trimQ l).length) ((Nt.trimQ l).length)] ⟨zzq, trivial⟩ fun u31 e32 => ?_)))))
  refine ⟨(⟨some ⟨b25, 0, none⟩, (Nt.trimQ l).length, (Nt.trimQ l).length⟩ : Sl), rfl, ?_⟩
  exact (hp30.ext e32)
theorem k_poParts {u w : World} {r : RL} (d : Dat u w) : Calls Try.prog 95 #[r.v] w (Post u w fun v u' => ∃ y : Sl, v = .tuple #[.agg #[.bool r.s, r.m.v, y.v], .agg #[.bool false, r.d.v, y.v]] ∧ NatN u' y 1 1) := by
 refine zzm (args := [r.v]) Try.func95 rfl Try.ntmps95 (rs := [.cell 2 82, .cell 3 82]) Try.results95 (le_b rfl) (le_b rfl) d ?_
 refine sq9 (zzk 1 ⟨82, r.cs⟩ (zzk 2 ⟨82, [.bool false, .slice none 0 0, .slice none 0 0]⟩ (zzk 3 ⟨82, [.bool false, .slice none 0 0, .slice none 0 0]⟩ (zzb (sq9 (zxx 5 ⟨119, [.int .u32 1]⟩ 1 (fun b11 u12 e13 h14 => ?_)))))))
 refine zza 4 (.v (.slice (some ⟨b11, 0, none⟩) 1 1)) (zzb (zzd (zzz [0, 1, 0, 7, 0, 16, 48, 0, 240, 15, 1023] [(0, []), (1, []), (2, []), (3, []), (4, []), (5, []), (6, []), (7, []), (8, []), (9, [10]), (10, [])] xv xv (zza 6 (.adr 1 0) (zzi 7 (.v (.agg #[.bool r.s, r.m.v])) ty80 zze (zza 8 (.v (.slice (some ⟨b11, 0, none⟩) 1 1)) (zza 9 (.v (.agg #[.bool r.s, r.m.v, .slice (some ⟨b11, 0, none⟩) 1 1])) (zza 10 (.adr 1 2) (zzi 11 (.v r.d.v) ty78 zzl (zza 12 (.v (.agg #[.bool false, r.d.v])) (zza 13 (.v (.slice (some ⟨b11, 0, none⟩) 1 1)) ?_)))))))))))
 refine zza 14 (.v (.agg #[.bool false, r.d.v, .slice (some ⟨b11, 0, none⟩) 1 1])) (zzj ⟨82, [.bool r.s, r.m.v, .slice (some ⟨b11, 0, none⟩) 1 1]⟩ ty82 ?_)
 refine zzj ⟨82, [.bool false, r.d.v, .slice (some ⟨b11, 0, none⟩) 1 1]⟩ ty82 ?_
 refine zzb (zzo (ret0 [.agg #[.bool r.s, .slice r.m.a r.m.n r.m.c, .slice (some ⟨b11, 0, none⟩) 1 1], .agg #[.bool false, .slice r.d.a r.d.n r.d.c, .slice (some ⟨b11, 0, none⟩) 1 1]] ⟨zzr ty82 zze, zzr ty82 zze, trivial⟩ fun u15 e16 => ?_))
 exact ⟨(⟨some ⟨b11, 0, none⟩, 1, 1⟩ : Sl), rfl, ((one_data h14).ext e16)⟩
set_option maxHeartbeats 1000000 in
theorem k_common {u w : World} {r1 r2 : RL} {x y : Rat} {K M : Nat} (d : Dat u w) (h1 : RatN u r1 x K) (h2 : RatV u r2 y M) (hK : K ≤ 40000000) (hM : M ≤ 40000000) : Calls Try.prog 74 #[r1.v, r2.v] w (Post u w fun v u' => ∃ r : RL, v = r.v ∧ RatN u' r (Nt.cmn x y) (K + M)) := by
 refine zzm (args := [r1.v, r2.v]) Try.func74 rfl Try.ntmps74 (rs := [.cell 4 82]) Try.results74 (le_b rfl) (le_b rfl) d ?_
 refine sq9 (zzk 2 ⟨82, r1.cs⟩ (zzk 3 ⟨82, r2.cs⟩ (zzk 4 ⟨82, [.bool false, .slice none 0 0, .slice none 0 0]⟩ (zzb (zzd (sq9 (zzi 11 (.v (r1.v)) ty82 zze (zzg 12 82 [r1.v] ?_))))))))
 intro w11 u11 e11 d11
 have k14 := k_ratSign d11 (h1.ext e11).raw
 with_reducible refine zPm k14 ?_
 rintro _ u12 g13 rfl
 refine zza 13 (zB ((Nt.sgQ x) == 0)) (zzb (zzu (b := (Nt.sgQ x) == 0) xv (fun hb15 => ?_) (fun hb15 => ?_)))
 ·replace hb15 : ((Nt.sgQ x) == 0) = true := hb15
  have hx0 : x = 0 := by have h9 := hb15; rw [Nt.sgQ_eq] at h9; simpa using h9
  refine sq9 (zzi 14 (.v (r2.v)) ty82 zze (zzg 15 85 [r2.v] ?_))
  intro w16 u16 e16 d16
  have k21 := k_ratAbs d16 (h2.ext (e11.trans (g13.ext.trans e16))) xq
  with_reducible refine zPm k21 ?_
  rintro _ u19 g20 ⟨r17, rfl, h18⟩
  refine zzj ⟨82, r17.cs⟩ ty82 ?_
  refine zzb (zzo (zzw (ret0 [r17.v] ⟨zzr ty82 zze, trivial⟩ fun u22 e23 => ?_)))
  have e9 : Nt.cmn x y = (Nt.absQ y) := by unfold Nt.cmn; rw [if_pos hx0]
  have hs := Nt.rs_cmn x y
  have hs1 := h1.rs
  have hs2 := h2.rs
  refine ⟨r17, rfl, RatN.fit (K := M) ?_ xq⟩
  rw [e9]
  exact (h18.ext e23)
 ·replace hb15 : ((Nt.sgQ x) == 0) = false := hb15
  have hx0 : ¬ x = 0 := by have h9 := hb15; rw [Nt.sgQ_eq] at h9; simpa using h9
  refine zzs (zzp ?_)
  refine sq9 (zzi 17 (.v (r1.v)) ty82 zze (zzi 18 (.v (r2.v)) ty82 zze (zzg 19 58 [r1.v, r2.v] ?_)))
  intro w24 u24 e24 d24
  have k30 := k_ratDiv d24 (h1.ext (e11.trans (g13.ext.trans e24))).raw (h2.ext (e11.trans (g13.ext.trans e24))) xq xq
  with_reducible refine zPm k30 ?_
  rintro _ u28 g29 (⟨rfl, hz27⟩ | ⟨hz27, r25, rfl, h26⟩)
  ·skip
   refine zza 16 (.v (.tuple #[.agg #[.bool false, .slice none 0 0, .slice none 0 0], .int .i64 3])) (zza 20 (.v (.agg #[.bool false, .slice none 0 0, .slice none 0 0])) (zza 21 (zI 3) (zzk 5 ⟨82, [.bool false, .slice none 0 0, .slice none 0 0]⟩ (zzj ⟨82, [.bool false, .slice none 0 0, .slice none 0 0]⟩ ty82 ?_))))
   refine zza 6 (zI 3) (zzb (zzd (sq9 (zza 22 (zI 3) (zza 23 (zB true) (zzb (zyr xv (sq9 (zzi 24 (.v (r1.v)) ty82 zze (zzj ⟨82, r1.cs⟩ ty82 ?_))))))))))
   refine zzb (zzo (zzw (ret0 [r1.v] ⟨zzr ty82 zze, trivial⟩ fun u31 e32 => ?_)))
   have e9 : Nt.cmn x y = x := by unfold Nt.cmn; rw [if_neg hx0, if_pos hz27]
   have hs := Nt.rs_cmn x y
   have hs1 := h1.rs
   have hs2 := h2.rs
   refine ⟨r1, rfl, RatN.fit (K := K) ?_ xq⟩
   rw [e9]
   exact (h1.ext (e11.trans (g13.ext.trans (e24.trans (g29.ext.trans e32)))))
  ·skip
   refine zza 16 (.v (.tuple #[r25.v, .int .i64 0])) (zza 20 (.v (r25.v)) (zza 21 (zI 0) (zzk 5 ⟨82, [.bool false, .slice none 0 0, .slice none 0 0]⟩ (zzj ⟨82, r25.cs⟩ ty82 ?_))))
   refine zza 6 (zI 0) (zzb (zzd (sq9 (zza 22 (zI 0) (zza 23 (zB false) (zzb (zys xv (zzs (zzp ?_)))))))))
   refine sq9 (zzi 26 (.v (r25.v)) ty82 zze (zzg 27 95 [r25.v] ?_))
   intro w33 u33 e33 d33
   have k38 := k_poParts (r := r25) d33
   with_reducible refine zPm k38 ?_
   rintro _ u36 g37 ⟨y34, rfl, h35⟩
   refine zza 25 (.v (.tuple #[.agg #[.bool r25.s, r25.m.v, y34.v], .agg #[.bool false, r25.d.v, y34.v]])) (zza 28 (.v (.agg #[.bool r25.s, r25.m.v, y34.v])) (zza 29 (.v (.agg #[.bool false, r25.d.v, y34.v])) (zzk 7 ⟨82, [.bool false, .slice none 0 0, .slice none 0 0]⟩ (zzk 8 ⟨82, [.bool false, .slice none 0 0, .slice none 0 0]⟩ (zzj ⟨82, [.bool r25.s, r25.m.v, y34.v]⟩ ty82 ?_)))))
   refine zzj ⟨82, [.bool false, r25.d.v, y34.v]⟩ ty82 ?_
   refine zzb (sq9 (zzi 31 (.v (r1.v)) ty82 zze (zzi 32 (.v (.agg #[.bool r25.s, r25.m.v, y34.v])) ty82 zze (zzg 33 58 [r1.v, .agg #[.bool r25.s, r25.m.v, y34.v]] ?_))))
   intro w39 u39 e39 d39
   have k44 := k_ratDiv1 d39 (h1.ext (e11.trans (g13.ext.trans (e24.trans (g29.ext.trans (e33.trans (g37.ext.trans e39))))))).raw ((whole_rat (RatN.num (h26.ext (e33.trans g37.ext))) h35).ext e39).raw (Nt.num_ne (Nt.div_ne hx0 hz27)) xq xq
   with_reducible refine zPm k44 ?_
   rintro _ u42 g43 ⟨r40, rfl, h41⟩
   refine zza 30 (.v (.tuple #[r40.v, .int .i64 0])) (zza 34 (.v (r40.v)) (zza 35 (zI 0) (zzk 9 ⟨82, [.bool false, .slice none 0 0, .slice none 0 0]⟩ (zzj ⟨82, r40.cs⟩ ty82 ?_))))
   refine zza 10 (zI 0) (zzc 38 [(4, .adr 4 0), (9, .adr 9 0)] [(4, ⟨82, [.bool false, .slice none 0 0, .slice none 0 0]⟩), (9, ⟨82, r40.cs⟩)] (sq9 (zzi 36 (.v (r40.v)) ty82 zze (zzg 37 85 [r40.v] ?_))))
   intro w45 u45 e45 d45
   have k50 := k_ratAbs d45 (h41.ext e45).raw xq
   with_reducible refine zPm k50 ?_
   rintro _ u48 g49 ⟨r46, rfl, h47⟩
   refine zzj ⟨82, r46.cs⟩ ty82 ?_
   refine zzb (zzo (ret0 [r46.v] ⟨zzr ty82 zze, trivial⟩ fun u51 e52 => ?_))
   have e9 : Nt.cmn x y = (Nt.absQ (x / (((x / y).num : Int) : Rat))) := by unfold Nt.cmn; rw [if_neg hx0, if_neg hz27]
   have hs := Nt.rs_cmn x y
   have hs1 := h1.rs
   have hs2 := h2.rs
   refine ⟨r46, rfl, RatN.fit (K := (K + (max (K + M) 1))) ?_ xq⟩
   rw [e9]
   exact (h47.ext e52)
set_option maxHeartbeats 1000000 in
theorem k_split {u w : World} {x : Sl} {l : List Rat} {K : Nat} (d : Dat u w) (hx : PolV u x l K) (hK : (l.length + 1) * K ≤ 30000000) (hx9 : l.length ≤ 1000000000) : Calls Try.prog 49 #[x.v] w (Post u w fun v u' => ∃ (r : RL) (y : Sl), v = .tuple #[r.v, y.v] ∧ RatN u' r (Nt.msr (Nt.trimQ l)) ((Nt.trimQ l).length * K + 2) ∧ PolN u' y ((Nt.trimQ l).map (· / Nt.msr (Nt.trimQ l))) (K + ((Nt.trimQ l).length * K + 2))) := by
 have hlen := hx.len
 have htl := Nt.zzh l
 have hKK : (Nt.trimQ l).length * K ≤ l.length * K := Nat.mul_le_mul_right _ htl
 rw [Nat.add_mul] at hK
 refine zzm (args := [.slice x.a x.n x.c]) Try.func49 rfl Try.ntmps49 (rs := [.cell 2 82, .tmp 3]) Try.results49 (le_b rfl) (le_b rfl) d ?_
 refine sq9 (zzk 2 ⟨82, [.bool false, .slice none 0 0, .slice none 0 0]⟩ (zza 3 (.v (.slice none 0 0)) (zzb (sq9 (zza 10 (.v x.v) (zzg 11 73 [x.v] ?_))))))
 intro w11 u11 e11 d11
 have k14 := k_cut d11 (hx.ext e11) xq xz
 with_reducible refine zPm k14 ?_
 rintro _ u12 g13 rfl
 refine zza 0 (.v (.slice x.a (Nt.trimQ l).length x.c)) (zzb (sq9 (zzg 12 29 [.int .i64 0] ?_)))
 intro w15 u15 e15 d15
 have k20 := k_ratOf d15 (z := 0) xq xq
 with_reducible refine zPm k20 ?_
 rintro _ u18 g19 ⟨r16, rfl, h17⟩
 refine zzk 4 ⟨82, [.bool false, .slice none 0 0, .slice none 0 0]⟩ (zzj ⟨82, r16.cs⟩ ty82 ?_)
 refine zzb (zzd (sq9 (zza 13 (.v (.slice x.a (Nt.trimQ l).length x.c)) (zza 14 (zI (((Nt.trimQ l).length : Nat) : Int)) (zza 15 (zI 0) (zzb (zzt (zyn (I := fun m21 S' u' => ∃ (i : Nat) (r : RL), (m21 = (Nt.trimQ l).length - i) ∧ (i ≤ (Nt.trimQ l).length) ∧ (S' = St.of 45 [(0, .v (.slice x.a (Nt.trimQ l).length x.c)), (2, .adr 2 0), (4, .adr 4 0), (13, .v (.slice x.a (Nt.trimQ l).length x.c)), (14, zI (((Nt.trimQ l).length : Nat) : Int)), (15, zI i)] [(2, ⟨82, [.bool false, .slice none 0 0, .slice none 0 0]⟩), (4, ⟨82, r.cs⟩)]) ∧ (Ext u18 u') ∧ (RatN u' r (Nt.msr ((Nt.trimQ l).take i)) (i * K + 2))) (fun m S u1 u2 e h => by obtain ⟨i, r, hm, p0, hS, hE, f0⟩ := h; exact ⟨i, r, hm, p0, hS, hE.trans e, f0.ext e⟩) _ yj ⟨0, r16, rfl, by omega, rfl, (Ext.refl _), (RatN.more (K := 2) h17 xq)⟩ ?_))))))))
 rintro m21 _ u21 ⟨i, r, hm21, hi, rfl, e21, hM⟩
 have hiK : i * K ≤ (Nt.trimQ l).length * K := Nat.mul_le_mul_right _ hi
 refine sq9 (zza 16 (zB (decide ((i : Int) < (((Nt.trimQ l).length : Nat) : Int)))) (zzb (zzd (zzu (b := decide ((i : Int) < (((Nt.trimQ l).length : Nat) : Int))) xv (fun hb22 => ?_) (fun hb22 => ?_)))))
 ·replace hb22 : (decide ((i : Int) < (((Nt.trimQ l).length : Nat) : Int))) = true := hb22
  have qhb22 := of_decide_eq_true hb22
  refine zzs (zzp ?_)
  refine zzd (zzt (sq9 ?_))
  have hl23 := ((cut_V (hx.ext (e11.trans g13.ext))).ext (e15.trans (g19.ext.trans e21))).len
  change (Nt.trimQ l).length = _ at hl23
  obtain ⟨r23, b23, o23, hA23, hc23, hr23⟩ := pol_at ((cut_V (hx.ext (e11.trans g13.ext))).ext (e15.trans (g19.ext.trans e21))) (i := i) xq
  refine zya 17 (o23 + i * 3) (n := (Nt.trimQ l).length) (off := o23) (sz := 3) (i := (i : Int)) xq hA23 xq xq sl43 (zym 18 r23.cs hc23 ty82 (zzk 6 ⟨82, [.bool false, .slice none 0 0, .slice none 0 0]⟩ (zzj ⟨82, r23.cs⟩ ty82 ?_)))
  refine zzb (zzf (zzi 19 (.v (r.v)) ty82 zze (zzi 20 (.v (r23.v)) ty82 zze (zzg 21 74 [r.v, r23.v] ?_))))
  intro w24 u24 e24 d24
  have k29 := k_common d24 (hM.ext e24) (hr23.ext e24) xq xq
  with_reducible refine zPm k29 ?_
  rintro _ u27 g28 ⟨r25, rfl, h26⟩
  refine zzj ⟨82, r25.cs⟩ ty82 ?_
  refine zzx ?_
  refine zzp (zzf (zyq 22 (x := zI (IntKind.i64.wrap ((i : Int) + 1))) (zI (i + 1 : Nat)) (eqI xk) (zza 15 (zI (i + 1 : Nat)) (zzx ?_))))
  refine ⟨_, ?_, _, by exact zzv _ _ _, i + 1, r25, rfl, by omega, rfl, (e21.trans (e24.trans g28.ext)), (RatN.more (K := ((i * K + 2) + K)) (by rw [Nt.msr_take xq]; exact h26) (by rw [Nat.add_mul]; omega))⟩
  omega
 ·replace hb22 : (decide ((i : Int) < (((Nt.trimQ l).length : Nat) : Int))) = false := hb22
  have qhb22 := of_decide_eq_false hb22
  refine zyc (zzp (zzd ?_))
  have hi9 : i = (Nt.trimQ l).length := by omega
  have hms : RatN u21 r (Nt.msr (Nt.trimQ l)) ((Nt.trimQ l).length * K + 2) := by have h9 := hM; rw [hi9, List.take_length] at h9; exact h9
  clear hi9
  refine zzf (zza 23 (.v (.slice x.a (Nt.trimQ l).length x.c)) (zza 24 (zI (((Nt.trimQ l).length : Nat) : Int)) (sy_make 25 (T := 43) (E := 82) (z := .agg #[.bool false, .slice none 0 0, .slice none 0 0]) (size := 3) (bytes := 56) ((Nt.trimQ l).length) (rcs (List.replicate ((Nt.trimQ l).length) rl0)) xv xv rfl rfl xq yq (made_rcs _) ?_)))
  refine zza 7 (.slc 25 0 ((Nt.trimQ l).length) ((Nt.trimQ l).length)) (zzc 45 [(0, .v (.slice x.a (Nt.trimQ l).length x.c)), (2, .adr 2 0), (4, .adr 4 0), (7, .slc 25 0 ((Nt.trimQ l).length) ((Nt.trimQ l).length))] [(2, ⟨82, [.bool false, .slice none 0 0, .slice none 0 0]⟩), (4, ⟨82, r.cs⟩), (25, ⟨82, rcs (List.replicate ((Nt.trimQ l).length) rl0)⟩)] (zzd (sq9 (zza 26 (.v (.slice x.a (Nt.trimQ l).length x.c)) (zza 27 (zI (((Nt.trimQ l).length : Nat) : Int)) (zza 28 (zI 0) (zzb (zzt (zyn (I := fun m30 S' u' => ∃ (i2 : Nat) (L2 : List RL), (m30 = ((Nt.trimQ l).length) - i2) ∧ (i2 ≤ (Nt.trimQ l).length) ∧ (L2.length = (Nt.trimQ l).length) ∧ (S' = St.of 45 [(2, .adr 2 0), (4, .adr 4 0), (7, .slc 25 0 ((Nt.trimQ l).length) ((Nt.trimQ l).length)), (26, .v (.slice x.a (Nt.trimQ l).length x.c)), (27, zI (((Nt.trimQ l).length : Nat) : Int)), (28, zI i2)] [(2, ⟨82, [.bool false, .slice none 0 0, .slice none 0 0]⟩), (4, ⟨82, r.cs⟩), (25, ⟨82, rcs L2⟩)]) ∧ (Ext u21 u') ∧ (RatsN u' (L2.take i2) (((Nt.trimQ l).map (· / Nt.msr (Nt.trimQ l))).take i2) (K + ((Nt.trimQ l).length * K + 2)))) (fun m S u1 u2 e h => by obtain ⟨i2, L2, hm, p0, p1, hS, hE, f0⟩ := h; exact ⟨i2, L2, hm, p0, p1, hS, hE.trans e, f0.ext e⟩) _ yj ⟨0, List.replicate ((Nt.trimQ l).length) rl0, rfl, by omega, by simp, rfl, (Ext.refl _), RatsN.tnil _ _ _ _⟩ ?_)))))))))
  rintro m30 _ u30 ⟨i2, L2, hm30, hi2, hL2, rfl, e30, hR2⟩
  refine sq9 (zza 29 (zB (decide ((i2 : Int) < (((Nt.trimQ l).length : Nat) : Int)))) (zzb (zzd (zzu (b := decide ((i2 : Int) < (((Nt.trimQ l).length : Nat) : Int))) xv (fun hb31 => ?_) (fun hb31 => ?_)))))
  ·replace hb31 : (decide ((i2 : Int) < (((Nt.trimQ l).length : Nat) : Int))) = true := hb31
   have qhb31 := of_decide_eq_true hb31
   refine zzs (zzp ?_)
   refine zzd (zzt (sq9 (zza 30 (zI i2) ?_)))
   have hl32 := ((cut_V (hx.ext (e11.trans g13.ext))).ext (e15.trans (g19.ext.trans (e21.trans e30)))).len
   change (Nt.trimQ l).length = _ at hl32
   obtain ⟨r32, b32, o32, hA32, hc32, hr32⟩ := pol_at ((cut_V (hx.ext (e11.trans g13.ext))).ext (e15.trans (g19.ext.trans (e21.trans e30)))) (i := i2) xq
   refine zya 31 (o32 + i2 * 3) (n := (Nt.trimQ l).length) (off := o32) (sz := 3) (i := (i2 : Int)) xq hA32 xq xq sl43 (zym 32 r32.cs hc32 ty82 (zzk 9 ⟨82, [.bool false, .slice none 0 0, .slice none 0 0]⟩ (zza 8 (zI i2) (zzj ⟨82, r32.cs⟩ ty82 ?_))))
   refine zzb (zzf (zza 34 (.slc 25 0 ((Nt.trimQ l).length) ((Nt.trimQ l).length)) (zza 35 (zI i2) (zzi 36 (.v (r32.v)) ty82 zze (zzi 37 (.v (r.v)) ty82 zze (zzg 38 58 [r32.v, r.v] ?_))))))
   intro w33 u33 e33 d33
   have k38 := k_ratDiv1 d33 (hr32.ext e33) (hms.ext (e30.trans e33)).raw (Nt.msr_ne (Nt.trim_nrm l) xq) xq xq
   with_reducible refine zPm k38 ?_
   rintro _ u36 g37 ⟨r34, rfl, h35⟩
   refine zza 33 (.v (.tuple #[r34.v, .int .i64 0])) (zza 39 (.v (r34.v)) (zza 40 (zI 0) (zyw 41 (off' := i2 * 3) (n := (Nt.trimQ l).length) (off := 0) (sz := 3) (i := (i2 : Int)) sl43 xq xq xq ?_)))
   refine zyv (V := ⟨82, rcs L2⟩) (off := i2 * 3) (rcs ((L2).set i2 r34)) ty82 yy (zyx (r := r34) (i := i2) yw rfl) ?_
   refine zzx ?_
   refine zzp (zzf (zyq 42 (x := zI (IntKind.i64.wrap ((i2 : Int) + 1))) (zI (i2 + 1 : Nat)) (eqI xk) (zza 28 (zI (i2 + 1 : Nat)) (zzx ?_))))
   have ht39 : i2 < ((Nt.trimQ l).map (· / Nt.msr (Nt.trimQ l))).length := by simp; omega
   refine ⟨_, ?_, _, by exact zzv _ _ _, i2 + 1, (L2).set i2 r34, rfl, by omega, by simpa using hL2, rfl, (e30.trans (e33.trans g37.ext)), RatsN.tstep (hR2.ext (e33.trans g37.ext)) xq ht39 (RatN.more (K := (K + ((Nt.trimQ l).length * K + 2))) h35 xq) (by simp [List.getElem?_eq_getElem (show i2 < (Nt.trimQ l).length by omega)])⟩
   omega
  ·replace hb31 : (decide ((i2 : Int) < (((Nt.trimQ l).length : Nat) : Int))) = false := hb31
   have qhb31 := of_decide_eq_false hb31
   refine zyc (zzp (zzd (zyp (r := 7) (t := 25) [7, 25] xj xv zv zv xv (fun b40 u41 e42 hb43 hh44 => ?_))))
   have hp45 : PolN u41 ⟨some ⟨b40, 0, none⟩, (Nt.trimQ l).length, (Nt.trimQ l).length⟩ ((Nt.trimQ l).map (· / Nt.msr (Nt.trimQ l))) (K + ((Nt.trimQ l).length * K + 2)) := pol_data1 hh44 yq (RatsN.tdone (hR2.ext e42) xq yz) xq
   refine zzf (zzi 43 (.v (r.v)) ty82 zze (zza 44 (.v (.slice (some ⟨b40, 0, none⟩) ((Nt.trimQ l).length) ((Nt.trimQ l).length))) (zzj ⟨82, r.cs⟩ ty82 ?_)))
   refine zza 3 (.v (.slice (some ⟨b40, 0, none⟩) ((Nt.trimQ l).length) ((Nt.trimQ l).length))) (zzb (zzo (ret0 [r.v, .slice (some ⟨b40, 0, none⟩) ((Nt.trimQ l).length) ((Nt.trimQ l).length)] ⟨zzr ty82 zze, zzq, trivial⟩ fun u46 e47 => ?_)))
   exact ⟨r, (⟨some ⟨b40, 0, none⟩, (Nt.trimQ l).length, (Nt.trimQ l).length⟩ : Sl), rfl, (hms.ext (e30.trans (e42.trans e47))), (hp45.ext e47)⟩
set_option maxHeartbeats 4000000 in
theorem k_poMul {u w : World} {x : Sl} {l : List Rat} {y : Sl} {m : List Rat} {K M : Nat} (d : Dat u w) (hx : PolV u x l K) (hy : PolV u y m M) (hB : Nt.mlK l.length m.length K M ≤ 30000000) (hK1 : (l.length + 1) * K ≤ 20000000) (hM1 : (m.length + 1) * M ≤ 20000000) (hx9 : l.length ≤ 100000000) (hy9 : m.length ≤ 100000000) : Calls Try.prog 31 #[x.v, y.v] w (Post u w fun v u' => ∃ y : Sl, v = y.v ∧ PolN u' y (Nt.trimQ (Nt.mulQ l m)) (Nt.mlK l.length m.length K M)) := by
 have hlen := hx.len
 have hlen2 := hy.len
 have htl := Nt.zzh l
 have htm := Nt.zzh m
 have hB2 := Nat.le_trans (Nt.mlK_mono htl htm (Nat.le_refl K) (Nat.le_refl M)) hB
 have hB3 : Nt.kk ((K + ((Nt.trimQ l).length * K + 2)) + (M + ((Nt.trimQ m).length * M + 2)) + 1) ((Nt.trimQ l).length * (Nt.trimQ m).length) + (((Nt.trimQ l).length * K + 2) + ((Nt.trimQ m).length * M + 2)) ≤ 30000000 := hB2
 have hK2 := hK1
 have hM2 := hM1
 rw [Nat.add_mul] at hK2 hM2
 have hKK : (Nt.trimQ l).length * K ≤ l.length * K := Nat.mul_le_mul_right _ htl
 have hMM : (Nt.trimQ m).length * M ≤ m.length * M := Nat.mul_le_mul_right _ htm
 refine zzm (args := [.slice x.a x.n x.c, .slice y.a y.n y.c]) Try.func31 rfl Try.ntmps31 (rs := [.tmp 4]) Try.results31 (le_b rfl) (le_b rfl) d ?_
 refine sq9 (zza 4 (.v (.slice none 0 0)) (zzb (sq9 (zza 15 (.v x.v) (zzg 16 49 [x.v] ?_)))))
 intro w11 u11 e11 d11
 have k18 := k_split d11 (hx.ext e11) xq xz
 with_reducible refine zPm k18 ?_
 rintro _ u16 g17 ⟨r12, y14, rfl, h13, h15⟩
 have hly14 : y14.n = (Nt.trimQ l).length := by have h9 := h15.len; simpa using h9
 refine zza 14 (.v (.tuple #[r12.v, y14.v])) (zza 17 (.v (r12.v)) (zza 18 (.v y14.v) (zzk 5 ⟨82, [.bool false, .slice none 0 0, .slice none 0 0]⟩ (zzj ⟨82, r12.cs⟩ ty82 ?_))))
 refine zza 6 (.v y14.v) (zzb (sq9 (zza 20 (.v y.v) (zzg 21 49 [y.v] ?_))))
 intro w19 u19 e19 d19
 have k26 := k_split d19 (hy.ext (e11.trans (g17.ext.trans e19))) xq xz
 with_reducible refine zPm k26 ?_
 rintro _ u24 g25 ⟨r20, y22, rfl, h21, h23⟩
 have hly22 : y22.n = (Nt.trimQ m).length := by have h9 := h23.len; simpa using h9
 refine zza 19 (.v (.tuple #[r20.v, y22.v])) (zza 22 (.v (r20.v)) (zza 23 (.v y22.v) (zzk 7 ⟨82, [.bool false, .slice none 0 0, .slice none 0 0]⟩ (zzj ⟨82, r20.cs⟩ ty82 ?_))))
 refine zza 8 (.v y22.v) (zzb (zzd (sq9 (zza 24 (.v y14.v) (zza 25 (zI y14.n) (zza 26 (zB ((y14.n : Int) == 0)) ?_))))))
 rcases Bool.eq_false_or_eq_true ((y14.n : Int) == 0) with hs27 | hs27
 ·refine zyq 27 (x := zB ((y14.n : Int) == 0)) (zB true) (by rw [hs27]) ?_
  have qhs27 : (y14.n : Int) = 0 := by simpa using hs27
  refine zzn 28 (uw 3 false true 27) (zzn 29 (uw 3 false true 27) (zzn 30 (uw 3 false true 27) (zza 31 (zB true) (zzb (zyr xv (sq9 (zza 4 (.v (.slice none 0 0)) (zzb (zzo (zzw (ret0 [.slice none 0 0] ⟨zzq, trivial⟩ fun u28 e29 => ?_)))))))))))
  have e9 : Nt.trimQ l = [] := List.eq_nil_of_length_eq_zero xq
  rw [Nt.mul_nil (.inl e9)]
  exact ⟨⟨none, 0, 0⟩, rfl, pol_nil _ _⟩
 ·refine zyq 27 (x := zB ((y14.n : Int) == 0)) (zB false) (by rw [hs27]) ?_
  have qhs27 : ¬ ((y14.n : Int) = 0) := by simpa using hs27
  refine zza 28 (.v y22.v) ?_ (hw := w1 3 false 27)
  refine zza 29 (zI y22.n) ?_ (hw := w1 3 false 27)
  refine zza 30 (zB ((y22.n : Int) == 0)) ?_ (hw := w1 3 false 27)
  refine zza 31 (zB ((y22.n : Int) == 0)) (zzb (zzu (b := (y22.n : Int) == 0) xv (fun hb30 => ?_) (fun hb30 => ?_)))
  ·replace hb30 : ((y22.n : Int) == 0) = true := hb30
   have qhb30 : (y22.n : Int) = 0 := by simpa using hb30
   refine sq9 (zza 4 (.v (.slice none 0 0)) (zzb (zzo (zzw (ret0 [.slice none 0 0] ⟨zzq, trivial⟩ fun u31 e32 => ?_)))))
   have e9 : Nt.trimQ m = [] := List.eq_nil_of_length_eq_zero xq
   rw [Nt.mul_nil (.inr e9)]
   exact ⟨⟨none, 0, 0⟩, rfl, pol_nil _ _⟩
  ·replace hb30 : ((y22.n : Int) == 0) = false := hb30
   have qhb30 : ¬ ((y22.n : Int) = 0) := by simpa using hb30
   refine zzs (zzp ?_)
   refine sq9 (zza 32 (.v y14.v) (zza 33 (zI y14.n) (zza 34 (.v y22.v) (zza 35 (zI y22.n) (zyq 36 (x := zI (IntKind.i64.wrap ((y14.n : Int) + (y22.n : Int)))) (zI (y14.n + y22.n : Nat)) (eqI xk) (zyq 37 (x := zI (IntKind.i64.wrap (((y14.n + y22.n : Nat) : Int) - 1))) (zI (((y14.n + y22.n) - 1 : Nat) : Int)) (eqI xk) (zzg 38 50 [.int .i64 (((y14.n + y22.n) - 1 : Nat) : Int)] ?_)))))))
   intro w33 u33 e33 d33
   have k42 := k_zeros (n := (y14.n + y22.n) - 1) d33 xq
   with_reducible refine zPm k42 ?_
   rintro _ u40 g41 ⟨b34, L35, rfl, hb36, hh37, hL38, hR39⟩
   refine zza 9 (.v (.slice (some ⟨b34, 0, none⟩) ((y14.n + y22.n) - 1) ((y14.n + y22.n) - 1))) (zzc 75 [(5, .adr 5 0), (6, .v y14.v), (7, .adr 7 0), (8, .v y22.v), (9, .v (.slice (some ⟨b34, 0, none⟩) ((y14.n + y22.n) - 1) ((y14.n + y22.n) - 1)))] [(5, ⟨82, r12.cs⟩), (7, ⟨82, r20.cs⟩)] (zzd (zzd (sw_adopt (r := 9) (k := 9) zv ((Ext.refl _).cells hh37) (Nat.le_trans ((e11.trans (g17.ext.trans (e19.trans (g25.ext.trans e33)))).size) hb36) xv (fun u43 eB44 => ?_)))))
   replace hR39 := (hR39.ext (Ext.refl _)).extB ((Ext.refl _).cells hh37) eB44
   refine zzf (zza 39 (.v y14.v) (zza 40 (zI y14.n) (zza 41 (zI 0) (zzb (zzt (zyn (I := fun m45 S' u' => ∃ (i : Nat) (L : List RL), (m45 = (Nt.trimQ l).length - i) ∧ (i ≤ (Nt.trimQ l).length) ∧ (L.length = ((Nt.trimQ l).length + (Nt.trimQ m).length - 1)) ∧ (S' = St.of 75 [(5, .adr 5 0), (7, .adr 7 0), (8, .v (.slice y22.a y22.n y22.c)), (9, .slc 9 0 ((y14.n + y22.n) - 1) ((y14.n + y22.n) - 1)), (39, .v (.slice y14.a y14.n y14.c)), (40, zI y14.n), (41, zI i)] [(5, ⟨82, r12.cs⟩), (7, ⟨82, r20.cs⟩), (9, ⟨82, rcs L⟩)]) ∧ (Ext u43 u') ∧ (RatsN u' L (Nt.outQ ((Nt.trimQ l).map (· / Nt.msr (Nt.trimQ l))) ((Nt.trimQ m).map (· / Nt.msr (Nt.trimQ m))) ((Nt.trimQ l).length + (Nt.trimQ m).length - 1) i) (Nt.kk ((K + ((Nt.trimQ l).length * K + 2)) + (M + ((Nt.trimQ m).length * M + 2)) + 1) (i * (Nt.trimQ m).length)))) (fun m S u1 u2 e h => by obtain ⟨i, L, hm, p0, p1, hS, hE, f0⟩ := h; exact ⟨i, L, hm, p0, p1, hS, hE.trans e, f0.ext e⟩) _ yj ⟨0, L35, rfl, by omega, by omega, rfl, (Ext.refl _), (RatsN.more (K := 2) (by have h9 := hR39; rw [hly14, hly22] at h9; exact h9) (by unfold Nt.kk; omega))⟩ ?_))))))
   rintro m45 _ u45 ⟨i, L, hm45, hi, hL, rfl, e45, hR⟩
   refine sq9 (zza 42 (zB (decide ((i : Int) < (y14.n : Int)))) (zzb (zzd (zzu (b := decide ((i : Int) < (y14.n : Int))) xv (fun hb46 => ?_) (fun hb46 => ?_)))))
   ·replace hb46 : (decide ((i : Int) < (y14.n : Int))) = true := hb46
    have qhb46 := of_decide_eq_true hb46
    refine zzs (zzp ?_)
    refine zzd (zzt (sq9 (zza 43 (zI i) ?_)))
    have hl47 := (h15.ext (e19.trans (g25.ext.trans (e33.trans ((ExtB.old eB44 g41.ext hb36).trans e45))))).len
    obtain ⟨r47, b47, o47, hA47, hc47, hr47⟩ := pol_atN (h15.ext (e19.trans (g25.ext.trans (e33.trans ((ExtB.old eB44 g41.ext hb36).trans e45))))) (i := i) xq
    refine zya 44 (o47 + i * 3) (n := y14.n) (off := o47) (sz := 3) (i := (i : Int)) xq hA47 xq xq sl43 (zym 45 r47.cs hc47 ty82 (zzk 11 ⟨82, [.bool false, .slice none 0 0, .slice none 0 0]⟩ (zza 10 (zI i) (zzj ⟨82, r47.cs⟩ ty82 ?_))))
    refine zzb (sq9 (zza 46 (.v y22.v) (zza 47 (zI y22.n) (zza 48 (zI 0) (zzb (zzt (zyn (I := fun m48 S' u' => ∃ (j : Nat) (M9 : List RL), (m48 = (Nt.trimQ m).length - j) ∧ (j ≤ (Nt.trimQ m).length) ∧ (M9.length = ((Nt.trimQ l).length + (Nt.trimQ m).length - 1)) ∧ (S' = St.of 75 [(5, .adr 5 0), (7, .adr 7 0), (8, .v (.slice y22.a y22.n y22.c)), (9, .slc 9 0 ((y14.n + y22.n) - 1) ((y14.n + y22.n) - 1)), (10, zI i), (11, .adr 11 0), (39, .v (.slice y14.a y14.n y14.c)), (40, zI y14.n), (41, zI i), (46, .v (.slice y22.a y22.n y22.c)), (47, zI y22.n), (48, zI j)] [(5, ⟨82, r12.cs⟩), (7, ⟨82, r20.cs⟩), (9, ⟨82, rcs M9⟩), (11, ⟨82, r47.cs⟩)]) ∧ (Ext u45 u') ∧ (RatsN u' M9 (Nt.inn (Nt.outQ ((Nt.trimQ l).map (· / Nt.msr (Nt.trimQ l))) ((Nt.trimQ m).map (· / Nt.msr (Nt.trimQ m))) ((Nt.trimQ l).length + (Nt.trimQ m).length - 1) i) i (((Nt.trimQ l).map (· / Nt.msr (Nt.trimQ l))).getD i 0) ((Nt.trimQ m).map (· / Nt.msr (Nt.trimQ m))) j) (Nt.kk ((K + ((Nt.trimQ l).length * K + 2)) + (M + ((Nt.trimQ m).length * M + 2)) + 1) (i * (Nt.trimQ m).length + j)))) (fun m S u1 u2 e h => by obtain ⟨j, M9, hm, p0, p1, hS, hE, f0⟩ := h; exact ⟨j, M9, hm, p0, p1, hS, hE.trans e, f0.ext e⟩) _ yj ⟨0, L, rfl, by omega, by omega, rfl, (Ext.refl _), hR⟩ ?_)))))))
    rintro m48 _ u48 ⟨j, M9, hm48, hj, hM9, rfl, e48, hQ⟩
    have hmm := Nat.mul_le_mul_right (Nt.trimQ m).length (show i + 1 ≤ (Nt.trimQ l).length by omega)
    rw [Nat.add_mul] at hmm
    have hkk := Nt.kk_mono (W := ((K + ((Nt.trimQ l).length * K + 2)) + (M + ((Nt.trimQ m).length * M + 2)) + 1)) (t := i * (Nt.trimQ m).length + j) (t' := (Nt.trimQ l).length * (Nt.trimQ m).length) (Nat.le_refl _) xq
    have hk2 := Nt.kk_succ ((K + ((Nt.trimQ l).length * K + 2)) + (M + ((Nt.trimQ m).length * M + 2)) + 1) (i * (Nt.trimQ m).length + j)
    refine sq9 (zza 49 (zB (decide ((j : Int) < (y22.n : Int)))) (zzb (zzd (zzu (b := decide ((j : Int) < (y22.n : Int))) xv (fun hb49 => ?_) (fun hb49 => ?_)))))
    ·replace hb49 : (decide ((j : Int) < (y22.n : Int))) = true := hb49
     have qhb49 := of_decide_eq_true hb49
     refine zzs (zzp ?_)
     refine zzd (zzt (sq9 (zza 50 (zI j) ?_)))
     have hl50 := (h23.ext (e33.trans ((ExtB.old eB44 g41.ext hb36).trans (e45.trans e48)))).len
     obtain ⟨r50, b50, o50, hA50, hc50, hr50⟩ := pol_atN (h23.ext (e33.trans ((ExtB.old eB44 g41.ext hb36).trans (e45.trans e48)))) (i := j) xq
     refine zya 51 (o50 + j * 3) (n := y22.n) (off := o50) (sz := 3) (i := (j : Int)) xq hA50 xq xq sl43 (zym 52 r50.cs hc50 ty82 (zzk 13 ⟨82, [.bool false, .slice none 0 0, .slice none 0 0]⟩ (zza 12 (zI j) (zzj ⟨82, r50.cs⟩ ty82 ?_))))
     refine zzb (zzz [0, 0, 0, 6, 0, 0, 0, 96, 240, 496, 0, 0, 3072, 8176, 16383, 32767] [(0, []), (1, []), (2, []), (3, []), (4, []), (5, []), (6, []), (7, []), (8, []), (9, []), (10, []), (11, []), (12, []), (13, []), (14, []), (15, [])] xv xv (zza 53 (.slc 9 0 ((y14.n + y22.n) - 1) ((y14.n + y22.n) - 1)) (zza 54 (zI i) (zza 55 (zI j) (zyq 56 (x := zI (IntKind.i64.wrap ((i : Int) + (j : Int)))) (zI (i + j : Nat)) (eqI xk) (zza 57 (.slc 9 0 ((y14.n + y22.n) - 1) ((y14.n + y22.n) - 1)) (zza 58 (zI i) (zza 59 (zI j) (zyq 60 (x := zI (IntKind.i64.wrap ((i : Int) + (j : Int)))) (zI (i + j : Nat)) (eqI xk) (zyw 61 (off' := (i + j) * 3) (n := (y14.n + y22.n) - 1) (off := 0) (sz := 3) (i := ((i + j : Nat) : Int)) sl43 xq xq xq ?_))))))))))
     obtain ⟨r51, hrr51⟩ : ∃ r : RL, (M9).getD (i + j) rl0 = r := ⟨_, rfl⟩
     refine zzi 62 (V := ⟨82, rcs M9⟩) (off := (i + j) * 3) (.v r51.v) ty82 (by have h9 := part_rcs (L := M9) (i := i + j) (off := (i + j) * 3) yw rfl; rw [hrr51] at h9; exact h9) ?_
     have h52 := hQ.2 (i + j) yw
     rw [hrr51] at h52
     refine zzi 63 (.v (r47.v)) ty82 zze (zzi 64 (.v (r50.v)) ty82 zze (zzg 65 52 [r47.v, r50.v] ?_))
     intro w53 u53 e53 d53
     have k58 := k_ratMul d53 (hr47.ext (e48.trans e53)).raw (hr50.ext e53).raw xq xq
     with_reducible refine zPm k58 ?_
     rintro _ u56 g57 ⟨r54, rfl, h55⟩
     refine zzg 66 51 [r51.v, r54.v] ?_
     intro w59 u59 e59 d59
     have k64 := k_ratAdd d59 (h52.ext (e53.trans (g57.ext.trans e59))).raw (h55.ext e59).raw xq xq
     with_reducible refine zPm k64 ?_
     rintro _ u62 g63 ⟨r60, rfl, h61⟩
     refine zyw 67 (off' := (i + j) * 3) (n := (y14.n + y22.n) - 1) (off := 0) (sz := 3) (i := ((i + j : Nat) : Int)) sl43 xq xq xq ?_
     refine zyv (V := ⟨82, rcs M9⟩) (off := (i + j) * 3) (rcs ((M9).set (i + j) r60)) ty82 yy (zyx (r := r60) (i := i + j) yw rfl) ?_
     refine zzx ?_
     refine zzp (zzf (zyq 68 (x := zI (IntKind.i64.wrap ((j : Int) + 1))) (zI (j + 1 : Nat)) (eqI xk) (zza 48 (zI (j + 1 : Nat)) (zzx ?_))))
     refine ⟨_, ?_, _, by exact zzv _ _ _, j + 1, (M9).set (i + j) r60, rfl, by omega, by simp; omega, rfl, (e48.trans (e53.trans (g57.ext.trans (e59.trans g63.ext)))), (RatsN.set (i := i + j) (RatsN.more (K := Nt.kk ((K + ((Nt.trimQ l).length * K + 2)) + (M + ((Nt.trimQ m).length * M + 2)) + 1) (i * (Nt.trimQ m).length + j)) (hQ.ext (e53.trans (g57.ext.trans (e59.trans g63.ext)))) (by show _ ≤ Nt.kk _ (i * (Nt.trimQ m).length + j + 1); omega)) yz (RatN.more (K := ((Nt.kk ((K + ((Nt.trimQ l).length * K + 2)) + (M + ((Nt.trimQ m).length * M + 2)) + 1) (i * (Nt.trimQ m).length + j)) + ((K + ((Nt.trimQ l).length * K + 2)) + (M + ((Nt.trimQ m).length * M + 2))) + 1)) h61 (by show _ ≤ Nt.kk _ (i * (Nt.trimQ m).length + j + 1); omega)))⟩
     omega
    ·replace hb49 : (decide ((j : Int) < (y22.n : Int))) = false := hb49
     have qhb49 := of_decide_eq_false hb49
     refine zyc (zzp (zzf (zyq 69 (x := zI (IntKind.i64.wrap ((i : Int) + 1))) (zI (i + 1 : Nat)) (eqI xk) (zza 41 (zI (i + 1 : Nat)) (zzx ?_)))))
     have hj9 : j = (Nt.trimQ m).length := by omega
     refine ⟨_, ?_, _, by exact zzv _ _ _, i + 1, M9, rfl, by omega, by omega, rfl, (e45.trans e48), (by have h9 := hQ; rw [hj9, ← Nat.succ_mul] at h9; have e9 : ((Nt.trimQ m).map (· / Nt.msr (Nt.trimQ m))).length = (Nt.trimQ m).length := zq; show RatsN _ _ (Nt.inn _ _ _ _ ((Nt.trimQ m).map (· / Nt.msr (Nt.trimQ m))).length) _; rw [e9]; exact h9)⟩
     omega
   ·replace hb46 : (decide ((i : Int) < (y14.n : Int))) = false := hb46
    have qhb46 := of_decide_eq_false hb46
    refine zyc (zzp (zzd ?_))
    have hi9 : i = (Nt.trimQ l).length := by omega
    have hR2 : RatsN u45 L (Nt.outQ ((Nt.trimQ l).map (· / Nt.msr (Nt.trimQ l))) ((Nt.trimQ m).map (· / Nt.msr (Nt.trimQ m))) ((Nt.trimQ l).length + (Nt.trimQ m).length - 1) ((Nt.trimQ l).length)) (Nt.kk ((K + ((Nt.trimQ l).length * K + 2)) + (M + ((Nt.trimQ m).length * M + 2)) + 1) ((Nt.trimQ l).length * (Nt.trimQ m).length)) := by have h9 := hR; rw [hi9] at h9; exact h9
    refine zyp (r := 9) (t := 9) [9] xj xv zv zv xv (fun b65 u66 e67 hb68 hh69 => ?_)
    have hp70 : PolN u66 ⟨some ⟨b65, 0, none⟩, (y14.n + y22.n) - 1, (y14.n + y22.n) - 1⟩ (Nt.outQ ((Nt.trimQ l).map (· / Nt.msr (Nt.trimQ l))) ((Nt.trimQ m).map (· / Nt.msr (Nt.trimQ m))) ((Nt.trimQ l).length + (Nt.trimQ m).length - 1) ((Nt.trimQ l).length)) (Nt.kk ((K + ((Nt.trimQ l).length * K + 2)) + (M + ((Nt.trimQ m).length * M + 2)) + 1) ((Nt.trimQ l).length * (Nt.trimQ m).length)) := pol_data1 hh69 yq (hR2.ext e67) xq
    refine zzf (zza 70 (.v (.slice (some ⟨b65, 0, none⟩) ((y14.n + y22.n) - 1) ((y14.n + y22.n) - 1))) (zzi 71 (.v (r12.v)) ty82 zze (zzi 72 (.v (r20.v)) ty82 zze (zzg 73 52 [r12.v, r20.v] ?_))))
    intro w71 u71 e71 d71
    have k76 := k_ratMul d71 (h13.ext (e19.trans (g25.ext.trans (e33.trans ((ExtB.old eB44 g41.ext hb36).trans (e45.trans (e67.trans e71))))))).raw (h21.ext (e33.trans ((ExtB.old eB44 g41.ext hb36).trans (e45.trans (e67.trans e71))))).raw xq xq
    with_reducible refine zPm k76 ?_
    rintro _ u74 g75 ⟨r72, rfl, h73⟩
    refine zzg 74 53 [.slice (some ⟨b65, 0, none⟩) ((y14.n + y22.n) - 1) ((y14.n + y22.n) - 1), r72.v] ?_
    intro w77 u77 e77 d77
    have k82 := k_poScale d77 (hp70.ext (e71.trans (g75.ext.trans e77))).raw (h73.ext e77).raw xq xz xq
    with_reducible refine zPm k82 ?_
    rintro _ u80 g81 ⟨y78, rfl, h79⟩
    have hly78 := h79.len
    refine zza 4 (.v y78.v) (zzb (zzo (ret0 [.slice y78.a y78.n y78.c] ⟨zzq, trivial⟩ fun u83 e84 => ?_)))
    have h8 := Nt.mul_parts (Nt.msr_ne (Nt.trim_nrm l) xq) (Nt.msr_ne (Nt.trim_nrm m) xq) (l := (Nt.trimQ l)) (m := (Nt.trimQ m)) xq xq
    refine ⟨y78, rfl, PolN.more (K := ((Nt.kk ((K + ((Nt.trimQ l).length * K + 2)) + (M + ((Nt.trimQ m).length * M + 2)) + 1) ((Nt.trimQ l).length * (Nt.trimQ m).length)) + (((Nt.trimQ l).length * K + 2) + ((Nt.trimQ m).length * M + 2)))) ?_ ?_⟩
    ·rw [← Nt.mul_trim, ← h8]
     exact (h79.ext e84)
    ·exact Nat.le_trans (Nat.add_le_add_left (Nat.le_refl _) _) (Nt.mlK_mono (n := (Nt.trimQ l).length) (m := (Nt.trimQ m).length) htl htm (Nat.le_refl K) (Nat.le_refl M))
theorem k_poDegree {u w : World} {x : Sl} {l : List Rat} {K : Nat} (d : Dat u w) (hx : PolV u x l K) (hK : K ≤ 100000000) (hx9 : l.length ≤ 1000000000) : Calls Try.prog 81 #[x.v] w (Post u w fun v u' => v = .int .i64 (((Nt.trimQ l).length : Int) - 1)) := by
 have hlen := hx.len
 have htl := Nt.zzh l
 refine zzm (args := [.slice x.a x.n x.c]) Try.func81 rfl Try.ntmps81 (rs := [.tmp 2]) Try.results81 (le_b rfl) (le_b rfl) d ?_
 refine sq9 (zza 2 (zI 0) (zzb (sq9 (zza 3 (.v x.v) (zzg 4 73 [x.v] ?_)))))
 intro w11 u11 e11 d11
 have k14 := k_cut d11 (hx.ext e11) xq xz
 with_reducible refine zPm k14 ?_
 rintro _ u12 g13 rfl
 refine zza 5 (zI (((Nt.trimQ l).length : Nat) : Int)) (zyq 6 (x := zI (IntKind.i64.wrap (((Nt.trimQ l).length : Int) - 1))) (zI (((Nt.trimQ l).length : Int) - 1)) yv (zza 2 (zI (((Nt.trimQ l).length : Int) - 1)) (zzb (zzo (ret0 [.int .i64 (((Nt.trimQ l).length : Int) - 1)] ⟨zzq, trivial⟩ fun u15 e16 => ?_)))))
 rfl
theorem k_mode {u w : World} {r : Int} (d : Dat u w) (h1 : 1 ≤ r) (h2 : r ≤ 3) : Calls Try.prog 42 #[.int .i64 r] w (Post u w fun v _ => v = .bool true) := by
 refine zzm (args := [.int .i64 r]) Try.func42 rfl Try.ntmps42 (rs := [.tmp 2]) Try.results42 (le_b rfl) (le_b rfl) d ?_
 refine sq9 (zza 2 (zB false) (zzb (sq9 (zza 3 (zI r) (zza 4 (zB (decide ((1 : Int) ≤ r))) (zyq 5 (x := zB (decide ((1 : Int) ≤ r))) (zB true) (by rw [show (decide ((1 : Int) ≤ r)) = true from decide_eq_true xq]) (zza 6 (zI r) ?_ (hw := w1 2 true 5))))))))
 refine zza 7 (zB (decide (r ≤ 3))) ?_ (hw := w1 2 true 5)
 refine zza 8 (zB (decide (r ≤ 3))) (zza 2 (zB (decide (r ≤ 3))) (zzb (zzo (ret0 [.bool (decide (r ≤ 3))] ⟨zzq, trivial⟩ fun u12 e13 => ?_))))
 show Value.bool _ = Value.bool _
 rw [show (decide (r ≤ 3)) = true from decide_eq_true xq]
theorem k_fxValid {u w : World} {W : WL} (d : Dat u w) (hW : WdOK W) : Calls Try.prog 23 #[W.v] w (Post u w fun v _ => v = .bool true) := by
 obtain ⟨hw1, hw2, hw3, hw4, hw5, hw6, hw7, hw8⟩ := id hW
 refine zzm (args := [.agg #[.int .i64 W.b, .int .i64 W.f, .int .i64 W.r, .int .i64 W.o]]) Try.func23 rfl Try.ntmps23 (rs := [.tmp 2]) Try.results23 (le_b rfl) (le_b rfl) d ?_
 refine sq9 (zzk 1 ⟨27, W.cs⟩ (zza 2 (zB false) (zzb (zzd (sq9 (zza 3 (.adr 1 0) (zzi 4 (zI W.b) ty3 zzl (zza 5 (zB (decide (W.b < 4))) (zyq 6 (x := zB (decide (W.b < 4))) (zB false) (by rw [show (decide (W.b < 4)) = false from decide_eq_false xq]) (zza 7 (.adr 1 0) ?_ (hw := w1 3 false 6)))))))))))
 refine zzi 8 (zI W.b) ty3 zzl ?_ (hw := w1 3 false 6)
 refine zza 9 (zB (decide ((24 : Int) < W.b))) ?_ (hw := w1 3 false 6)
 refine zza 10 (zB (decide ((24 : Int) < W.b))) (zyq 11 (x := zB (decide ((24 : Int) < W.b))) (zB false) (by rw [show (decide ((24 : Int) < W.b)) = false from decide_eq_false xq]) (zza 12 (.adr 1 1) ?_ (hw := w1 8 false 11)))
 refine zzi 13 (zI W.f) ty3 zzl ?_ (hw := w1 8 false 11)
 refine zza 14 (zB (decide (W.f < 0))) ?_ (hw := w1 8 false 11)
 refine zza 15 (zB (decide (W.f < 0))) (zyq 16 (x := zB (decide (W.f < 0))) (zB false) (by rw [show (decide (W.f < 0)) = false from decide_eq_false xq]) (zza 17 (.adr 1 1) ?_ (hw := w1 13 false 16)))
 refine zzi 18 (zI W.f) ty3 zzl ?_ (hw := w1 13 false 16)
 refine zza 19 (.adr 1 0) ?_ (hw := w1 13 false 16)
 refine zzi 20 (zI W.b) ty3 zzl ?_ (hw := w1 13 false 16)
 refine zza 21 (zB (decide (W.b ≤ W.f))) ?_ (hw := w1 13 false 16)
 refine zza 22 (zB (decide (W.b ≤ W.f))) (zzb (zzu (b := decide (W.b ≤ W.f)) xv (fun hb => ?_) (fun hb => ?_)))
 ·exact absurd hb (by rw [show (decide (W.b ≤ W.f)) = false from decide_eq_false xq]; decide)
 ·clear hb
  refine zzs (zzp ?_)
  refine sq9 (zza 23 (.adr 1 2) (zzi 24 (zI W.r) ty3 zzl (zzg 25 42 [.int .i64 W.r] ?_)))
  intro w14 u14 e14 d14
  have k17 := k_mode (r := W.r) d14 xq xq
  with_reducible refine zPm k17 ?_
  rintro _ u15 g16 rfl
  refine zza 26 (zB true) (zza 27 (.adr 1 3) ?_ (hw := w1 3 true 26))
  refine zzi 28 (zI W.o) ty3 zzl ?_ (hw := w1 3 true 26)
  refine zza 29 (zB (W.o == 1)) ?_ (hw := w1 3 true 26)
  rcases Bool.eq_false_or_eq_true (W.o == 1) with hs18 | hs18
  ·refine zyq 30 (x := zB (W.o == 1)) (zB true) (by rw [hs18]) ?_ (hw := w1 3 true 26)
   refine zzn 31 (uw 7 false true 30) (zzn 32 (uw 7 false true 30) (zzn 33 (uw 7 false true 30) (zza 34 (zB true) ?_ (hw := w1 3 true 26))))
   refine zza 35 (zB true) (zza 2 (zB true) (zzc 36 [(2, zB true)] [] (zzo (ret0 [.bool true] ⟨zzq, trivial⟩ fun u19 e20 => ?_))))
   rfl
  ·refine zyq 30 (x := zB (W.o == 1)) (zB false) (by rw [hs18]) ?_ (hw := w1 3 true 26)
   refine zza 31 (.adr 1 3) ?_ (hw := w1 7 false 30)
   refine zzi 32 (zI W.o) ty3 zzl ?_ (hw := w1 7 false 30)
   refine zza 33 (zB (W.o == 2)) ?_ (hw := w1 7 false 30)
   refine zza 34 (zB (W.o == 2)) ?_ (hw := w1 3 true 26)
   refine zza 35 (zB (W.o == 2)) (zza 2 (zB (W.o == 2)) (zzc 36 [(2, zB (W.o == 2))] [] (zzo (ret0 [.bool (W.o == 2)] ⟨zzq, trivial⟩ fun u21 e22 => ?_))))
   show Value.bool _ = Value.bool _
   rw [show (W.o == 2) = true from (by have hz := hs18; simp at hz ⊢; omega)]
theorem k_fxLow {u w : World} {W : WL} (d : Dat u w) (hW : WdOK W) : Calls Try.prog 65 #[W.v] w (Post u w fun v _ => v = .int .i64 (-Nt.p2i (W.b - 1))) := by
 obtain ⟨hw1, hw2, hw3, hw4, hw5, hw6, hw7, hw8⟩ := id hW
 have hp1 := Nt.zxo (W.b - 1)
 have hp2 := Nt.p2i_24 (n := W.b - 1) xq
 refine zzm (args := [.agg #[.int .i64 W.b, .int .i64 W.f, .int .i64 W.r, .int .i64 W.o]]) Try.func65 rfl Try.ntmps65 (rs := [.tmp 2]) Try.results65 (le_b rfl) (le_b rfl) d ?_
 refine sq9 (zzk 1 ⟨27, W.cs⟩ (zza 2 (zI 0) (zzb (zzd (sq9 (zzi 3 (.v (W.v)) ty27 zze (zzg 4 23 [W.v] ?_)))))))
 intro w11 u11 e11 d11
 have k14 := k_fxValid (W := W) d11 hW
 with_reducible refine zPm k14 ?_
 rintro _ u12 g13 rfl
 refine zza 5 (zB false) (zzb (zys xv (zzs (zzp ?_))))
 refine sq9 (zza 6 (.adr 1 0) (zzi 7 (zI W.b) ty3 zzl (zyq 8 (x := zI (IntKind.i64.wrap (W.b - 1))) (zI (W.b - 1)) yv (sy_shl 9 (k := .i64) (s := W.b - 1) (Nt.p2i (W.b - 1)) xq (by show _ ≤ (64 : Int); omega) (shl_one xq xq) ?_))))
 refine zyq 10 (x := zI (IntKind.i64.wrap (0 - Nt.p2i (W.b - 1)))) (zI (-Nt.p2i (W.b - 1))) (by rw [show (IntKind.i64.wrap (0 - Nt.p2i (W.b - 1))) = (-Nt.p2i (W.b - 1)) from xk]) (zza 2 (zI (-Nt.p2i (W.b - 1))) (zzb (zzo (ret0 [.int .i64 (-Nt.p2i (W.b - 1))] ⟨zzq, trivial⟩ fun u15 e16 => ?_))))
 rfl
theorem k_fxHigh {u w : World} {W : WL} (d : Dat u w) (hW : WdOK W) : Calls Try.prog 66 #[W.v] w (Post u w fun v _ => v = .int .i64 (Nt.p2i (W.b - 1) - 1)) := by
 obtain ⟨hw1, hw2, hw3, hw4, hw5, hw6, hw7, hw8⟩ := id hW
 have hp1 := Nt.zxo (W.b - 1)
 have hp2 := Nt.p2i_24 (n := W.b - 1) xq
 refine zzm (args := [.agg #[.int .i64 W.b, .int .i64 W.f, .int .i64 W.r, .int .i64 W.o]]) Try.func66 rfl Try.ntmps66 (rs := [.tmp 2]) Try.results66 (le_b rfl) (le_b rfl) d ?_
 refine sq9 (zzk 1 ⟨27, W.cs⟩ (zza 2 (zI 0) (zzb (zzd (sq9 (zzi 3 (.v (W.v)) ty27 zze (zzg 4 23 [W.v] ?_)))))))
 intro w11 u11 e11 d11
 have k14 := k_fxValid (W := W) d11 hW
 with_reducible refine zPm k14 ?_
 rintro _ u12 g13 rfl
 refine zza 5 (zB false) (zzb (zys xv (zzs (zzp ?_))))
 refine sq9 (zza 6 (.adr 1 0) (zzi 7 (zI W.b) ty3 zzl (zyq 8 (x := zI (IntKind.i64.wrap (W.b - 1))) (zI (W.b - 1)) yv (sy_shl 9 (k := .i64) (s := W.b - 1) (Nt.p2i (W.b - 1)) xq (by show _ ≤ (64 : Int); omega) (shl_one xq xq) ?_))))
 refine zyq 10 (x := zI (IntKind.i64.wrap ((Nt.p2i (W.b - 1)) - 1))) (zI ((Nt.p2i (W.b - 1)) - 1)) yv (zza 2 (zI ((Nt.p2i (W.b - 1)) - 1)) (zzb (zzo (ret0 [.int .i64 ((Nt.p2i (W.b - 1)) - 1)] ⟨zzq, trivial⟩ fun u15 e16 => ?_))))
 rfl
theorem k_fxValue {u w : World} {W : WL} {z : Int} (d : Dat u w) (hW : WdOK W) (h0 : -16777216 ≤ z) (h1 : z ≤ 16777216) : Calls Try.prog 30 #[W.v, .int .i64 z] w (Post u w fun v u' => ∃ r : RL, v = r.v ∧ RatN u' r (((z : Int) : Rat) / ((Nt.p2i W.f : Int) : Rat)) 2) := by
 obtain ⟨hw1, hw2, hw3, hw4, hw5, hw6, hw7, hw8⟩ := id hW
 have hp1 := Nt.zxo W.f
 have hp2 := Nt.p2i_24 (n := W.f) xq
 refine zzm (args := [.agg #[.int .i64 W.b, .int .i64 W.f, .int .i64 W.r, .int .i64 W.o], .int .i64 z]) Try.func30 rfl Try.ntmps30 (rs := [.cell 4 82]) Try.results30 (le_b rfl) (le_b rfl) d ?_
 refine sq9 (zzk 2 ⟨27, W.cs⟩ (zzk 4 ⟨82, [.bool false, .slice none 0 0, .slice none 0 0]⟩ (zzb (zzd (sq9 (zzi 5 (.v (W.v)) ty27 zze (zzg 6 23 [W.v] ?_)))))))
 intro w11 u11 e11 d11
 have k14 := k_fxValid (W := W) d11 hW
 with_reducible refine zPm k14 ?_
 rintro _ u12 g13 rfl
 refine zza 7 (zB false) (zzb (zys xv (zzs (zzp ?_))))
 refine sq9 (zza 9 (zI z) (zza 10 (.adr 2 1) (zzi 11 (zI W.f) ty3 zzl (sy_shl 12 (k := .i64) (s := W.f) (Nt.p2i W.f) xq (by show _ ≤ (64 : Int); omega) (shl_one xq xq) ?_))))
 refine zzg 13 48 [.int .i64 z, .int .i64 (Nt.p2i W.f)] ?_
 intro w15 u15 e15 d15
 have k20 := k_ratFrac d15 (a := z) (b := Nt.p2i W.f) xq xq xq xq
 with_reducible refine zPm k20 ?_
 rintro _ u18 g19 ⟨r16, rfl, h17⟩
 refine zzj ⟨82, r16.cs⟩ ty82 ?_
 refine zzb (zzo (ret0 [r16.v] ⟨zzr ty82 zze, trivial⟩ fun u21 e22 => ?_))
 exact ⟨r16, rfl, (h17.ext e22)⟩
theorem k_within {u w : World} {n m : Int} (d : Dat u w) (hm : 1 ≤ m) (hm2 : m ≤ 4611686018427387904) (hn0 : -9223372036854775808 ≤ n) (hn1 : n ≤ 9223372036854775807) : Calls Try.prog 18 #[.int .i64 n, .int .i64 m] w (Post u w fun v _ => v = .int .i64 (n % m)) := by
 refine zzm (args := [.int .i64 n, .int .i64 m]) Try.func18 rfl Try.ntmps18 (rs := [.tmp 4]) Try.results18 (le_b rfl) (le_b rfl) d ?_
 refine sq9 (zza 4 (zI 0) (zzb (zzd (sq9 (zza 5 (zI m) (zyq 6 (x := zB (decide (m < 1))) (zB false) (by rw [show (decide (m < 1)) = false from yz]) (zzb (zys xv (zzs (zzp ?_))))))))))
 refine sq9 (zza 7 (zI n) (zza 8 (zI m) (sy_rem 9 (Int.tmod n m) xq rfl ?_)))
 refine zza 0 (zI (Int.tmod n m)) (zzb (zzd (sq9 (zza 10 (zI (Int.tmod n m)) (zza 11 (zB (decide ((Int.tmod n m) < 0))) (zzb (zzu (b := decide ((Int.tmod n m) < 0)) xv (fun hb11 => ?_) (fun hb11 => ?_))))))))
 ·replace hb11 : (decide ((Int.tmod n m) < 0)) = true := hb11
  have qhb11 := of_decide_eq_true hb11
  refine zzf (zza 12 (zI (Int.tmod n m)) (zza 13 (zI m) (zyq 14 (x := zI (IntKind.i64.wrap (Int.tmod n m + m))) (zI (Int.tmod n m + m)) (by rw [show (IntKind.i64.wrap (Int.tmod n m + m)) = (Int.tmod n m + m) from (IntWalk.i64_in _ (by have h2 := Int.lt_tmod_of_pos n (show 0 < m by omega); have h3 := Int.tmod_lt_of_pos n (show 0 < m by omega); omega))]) (zza 0 (zI (Int.tmod n m + m)) (zzb (sq9 (zza 15 (zI (Int.tmod n m + m)) (zza 4 (zI (Int.tmod n m + m)) (zzb (zzo (ret0 [.int .i64 (Int.tmod n m + m)] ⟨zzq, trivial⟩ fun u12 e13 => ?_)))))))))))
  show Value.int _ _ = Value.int _ _
  rw [mod_neg9 m hm n hb11]
 ·replace hb11 : (decide ((Int.tmod n m) < 0)) = false := hb11
  have qhb11 := of_decide_eq_false hb11
  refine zzs (zzp ?_)
  refine sq9 (zza 15 (zI (Int.tmod n m)) (zza 4 (zI (Int.tmod n m)) (zzb (zzo (ret0 [.int .i64 (Int.tmod n m)] ⟨zzq, trivial⟩ fun u14 e15 => ?_)))))
  show Value.int _ _ = Value.int _ _
  rw [mod_pos9 m hm n hb11]
namespace Nt
end Nt
namespace Nt
def smallQ (q : Rat) : Bool := decide (absQ q < ((1 : Int) : Rat))
end Nt
theorem k_small {u w : World} {r : RL} {q : Rat} {K : Nat} (d : Dat u w) (hr : RatV u r q K) (hK : K ≤ 10000000) : Calls Try.prog 60 #[r.v] w (Post u w fun v u' => v = .bool (Nt.smallQ q)) := by
 refine zzm (args := [r.v]) Try.func60 rfl Try.ntmps60 (rs := [.tmp 2]) Try.results60 (le_b rfl) (le_b rfl) d ?_
 refine sq9 (zzk 1 ⟨82, r.cs⟩ (zza 2 (zB false) (zzb (sq9 (zzi 3 (.v (r.v)) ty82 zze (zzg 4 85 [r.v] ?_))))))
 intro w11 u11 e11 d11
 have k16 := k_ratAbs d11 (hr.ext e11) xq
 with_reducible refine zPm k16 ?_
 rintro _ u14 g15 ⟨r12, rfl, h13⟩
 refine zzg 5 29 [.int .i64 1] ?_
 intro w17 u17 e17 d17
 have k22 := k_ratOf d17 (z := 1) xq xq
 with_reducible refine zPm k22 ?_
 rintro _ u20 g21 ⟨r18, rfl, h19⟩
 refine zzg 6 84 [r12.v, r18.v] ?_
 intro w23 u23 e23 d23
 have k26 := k_ratCompare d23 (h13.ext (e17.trans (g21.ext.trans e23))).raw (h19.ext e23).raw xq xq
 with_reducible refine zPm k26 ?_
 rintro _ u24 g25 rfl
 refine zza 7 (zB (decide ((Nt.cmpQ (Nt.absQ q) ((1 : Int) : Rat)) < 0))) (zza 2 (zB (decide ((Nt.cmpQ (Nt.absQ q) ((1 : Int) : Rat)) < 0))) (zzb (zzo (ret0 [.bool (decide ((Nt.cmpQ (Nt.absQ q) ((1 : Int) : Rat)) < 0))] ⟨zzq, trivial⟩ fun u27 e28 => ?_))))
 show Value.bool (decide (Nt.cmpQ _ _ < 0)) = Value.bool (Nt.smallQ q)
 unfold Nt.smallQ
 rw [← Nt.cmpQ_lt]
namespace Nt
def divS (l : List Rat) (q : Rat) : List Rat := l.map (· / q)
theorem divS_len (l : List Rat) (q : Rat) : (divS l q).length = l.length := by unfold divS; simp
theorem divS_at (l : List Rat) (q : Rat) {j : Nat} (h : j < l.length) : (divS l q).getD j 0 = l.getD j 0 / q := by
 unfold divS
 rw [List.getD_eq_getElem?_getD, List.getElem?_map, List.getD_eq_getElem?_getD, List.getElem?_eq_getElem h]; rfl
def dnS (l : List Rat) (m : Nat) : List Rat := (List.range m).map fun j => (l.getD j 0 - l.getD m 0 * l.getD (m - j) 0) / (((1 : Int) : Rat) - l.getD m 0 * l.getD m 0)
theorem dnS_len (l : List Rat) (m : Nat) : (dnS l m).length = m := by unfold dnS; simp
theorem dnS_at (l : List Rat) {m j : Nat} (h : j < m) : (dnS l m).getD j 0 = (l.getD j 0 - l.getD m 0 * l.getD (m - j) 0) / (((1 : Int) : Rat) - l.getD m 0 * l.getD m 0) := by
 unfold dnS
 rw [List.getD_eq_getElem?_getD, List.getElem?_map, List.getElem?_range h]; rfl
def refL (D : Nat → List Rat) (n : Nat) : List Rat := (List.range n).map fun i => (D (i + 1)).getD (i + 1) 0
theorem refL_len (D : Nat → List Rat) (n : Nat) : (refL D n).length = n := by unfold refL; simp
theorem refL_at (D : Nat → List Rat) {n i : Nat} (h : i < n) : (refL D n).getD i 0 = (D (i + 1)).getD (i + 1) 0 := by
 unfold refL
 rw [List.getD_eq_getElem?_getD, List.getElem?_map, List.getElem?_range h]; rfl
theorem small_iff {q : Rat} : smallQ q = true ↔ -1 < q ∧ q < 1 := by
 have e1 : ((1 : Int) : Rat) = 1 := rfl
 unfold smallQ absQ
 rw [e1]
 split <;> rw [decide_eq_true_iff] <;> grind
theorem small_nz {q : Rat} (h : smallQ q = true) : ((1 : Int) : Rat) - q * q ≠ 0 := by
 have h := small_iff.1 h
 have e1 : ((1 : Int) : Rat) = 1 := rfl
 rw [e1]
 intro e
 have e2 : (1 - q) * (1 + q) = 0 := by grind
 rcases Rat.mul_eq_zero.1 e2 with h3 | h3 <;> grind
structure Down (l : List Rat) (D : Nat → List Rat) (n S : Nat) : Prop where
 len : l.length = n + 1
 nz : l.getD 0 0 ≠ 0
 top : D n = divS l (l.getD 0 0)
 dlen : ∀ m, m ≤ n → (D m).length = m + 1
 step : ∀ m, m < n → D m = dnS (D (m + 1)) (m + 1)
 small : ∀ m, 1 ≤ m → m ≤ n → smallQ ((D m).getD m 0) = true
 sm : ∀ m, m ≤ n → ∃ E A, Sm (D m) E A ∧ E ≤ 2 ^ A ∧ dg A ≤ S
end Nt
theorem Nt.Down.fit {l : List Rat} {D : Nat → List Rat} {n S m K : Nat} {u : World} {x : Sl} (h : Nt.Down l D n S) (hm : m ≤ n) (hx : PolN u x (D m) K) : PolN u x (D m) S := by
 obtain ⟨E, A, h1, h2, h3⟩ := h.sm m hm
 exact (hx.fitS h1 h2).more h3
theorem Nt.Down.fitE {l : List Rat} {D : Nat → List Rat} {n S m i K : Nat} {u : World} {r : RL} (h : Nt.Down l D n S) (hm : m ≤ n) (hx : RatN u r ((D m).getD i 0) K) : RatN u r ((D m).getD i 0) S := by
 obtain ⟨E, A, h1, h2, h3⟩ := h.sm m hm
 exact (hx.fit (Nat.le_trans (h1.rs h2 i) (Nat.le_refl _))).more h3
theorem getD_drop {α : Type} (l : List α) (m i : Nat) (z : α) : (l.drop m).getD i z = l.getD (m + i) z := by
 rw [List.getD_eq_getElem?_getD, List.getD_eq_getElem?_getD, List.getElem?_drop]
theorem RatsN.dstep {u : World} {L : List RL} {T : List Rat} {r : RL} {m K : Nat} (h : RatsN u (L.drop m) (T.drop m) K) (hm : 1 ≤ m) (hL : m ≤ L.length) (ht : L.length = T.length) (hr : RatN u r (T.getD (m - 1) 0) K) : RatsN u ((L.set (m - 1) r).drop (m - 1)) (T.drop (m - 1)) K := by
 refine ⟨by simp [ht], fun i hi => ?_⟩
 rw [getD_drop, getD_drop]
 simp at hi
 cases i with
 | zero =>
  rw [Nat.add_zero]
  have e : (L.set (m - 1) r).getD (m - 1) rl0 = r := by
   rw [List.getD_eq_getElem?_getD, List.getElem?_set_self xq]; rfl
  rw [e]; exact hr
 | succ i =>
  have e : (L.set (m - 1) r).getD (m - 1 + (i + 1)) rl0 = L.getD (m + i) rl0 := by
   rw [show m - 1 + (i + 1) = m + i by omega, List.getD_eq_getElem?_getD, List.getD_eq_getElem?_getD, List.getElem?_set_ne xq]
  have h9 := h.2 i yz
  rw [getD_drop, getD_drop] at h9
  rw [e, show m - 1 + (i + 1) = m + i by omega]
  exact h9
theorem RatsN.dnil {u : World} {L : List RL} {T : List Rat} {m K : Nat} (hL : L.length = m) (ht : T.length = m) : RatsN u (L.drop m) (T.drop m) K := by
 rw [List.drop_of_length_le xq, List.drop_of_length_le xq]; exact RatsN.nil u K
theorem RatsN.dall {u : World} {L : List RL} {T : List Rat} {m K : Nat} (h : RatsN u (L.drop m) (T.drop m) K) (hm : m = 0) : RatsN u L T K := by subst hm; exact h
namespace Nt
end Nt
namespace Nt
end Nt
namespace Nt
end Nt
def RatsTop (u : World) (L : List RL) (l : List Rat) (s K : Nat) : Prop := ∀ j, s ≤ j → j < l.length → RatN u (L.getD j rl0) (l.getD j 0) K
theorem RatsTop.ext {u u' : World} {L : List RL} {l : List Rat} {s K : Nat} (h : RatsTop u L l s K) (e : Ext u u') : RatsTop u' L l s K := fun j h1 h2 => (h j h1 h2).ext e
theorem RatsTop.set {u : World} {L : List RL} {l : List Rat} {s s2 s3 K : Nat} {r : RL} (h : RatsTop u L l s2 K) (hs : s2 = s + 1) (hs3 : s3 = s) (hl : s < L.length) (hr : RatN u r (l.getD s 0) K) : RatsTop u (L.set s r) l s3 K := fun j h1 h2 => by
 subst hs3
 by_cases e : j = s3
 ·subst e; rw [rl_set_same hl]; exact hr
 ·have h9 := h j xq h2
  rw [List.getD_eq_getElem?_getD, List.getElem?_set_ne xq, ← List.getD_eq_getElem?_getD]
  exact h9
theorem RatsTop.none {u : World} {L : List RL} {l : List Rat} {s K : Nat} (h : l.length ≤ s) : RatsTop u L l s K := fun j h1 h2 => by omega
theorem RatsTop.done {u : World} {L : List RL} {l : List Rat} {s K : Nat} (h : RatsTop u L l s K) (hs : s = 0) (hL : L.length = l.length) : RatsN u L l K := ⟨hL, fun i hi => by
 first
 | exact h i xq hi
 | exact h i xq xq⟩
namespace Nt
end Nt
namespace Nt
end Nt
theorem ints_nil {u : World} : SlR .i64 u none 0 0 [] := ⟨rfl, Nat.le_refl _, Nat.zero_le _, fun h => absurd h (Nat.lt_irrefl 0)⟩
theorem all_nil {b : Int} : ∀ z ∈ ([] : List Int), -b ≤ z ∧ z ≤ b := fun z hz => by cases hz
theorem all_snoc {b : Int} {L : List Int} {z : Int} (h : ∀ z ∈ L, -b ≤ z ∧ z ≤ b) (h1 : -b ≤ z) (h2 : z ≤ b) : ∀ y ∈ L ++ [z], -b ≤ y ∧ y ≤ b := fun y hy => by
 rcases List.mem_append.1 hy with hy | hy
 ·exact h y hy
 ·simp at hy; subst hy; exact ⟨h1, h2⟩
namespace Nt
end Nt
theorem k_withinB {u w : World} {n m : Int} (d : Dat u w) (hm : 1 ≤ m) (hm2 : m ≤ 4611686018427387904) (hn0 : -9223372036854775808 ≤ n) (hn1 : n ≤ 9223372036854775807) : Calls Try.prog 18 #[.int .i64 n, .int .i64 m] w (Post u w fun v _ => ∃ z : Int, v = .int .i64 z ∧ 0 ≤ z ∧ z < m) :=
 Post.mono (k_within d hm hm2 hn0 hn1) fun v u' _ h => ⟨n % m, h, Int.emod_nonneg _ xq, Int.emod_lt_of_pos _ xq⟩
set_option maxHeartbeats 1000000 in
theorem k_word {u w : World} {k : Int} (d : Dat u w) (hk0 : -9223372036854775808 ≤ k) (hk1 : k ≤ 9223372036854775807) : Calls Try.prog 17 #[.int .i64 k, .int .i64 6, .int .i64 9, .int .i64 1] w (Post u w fun v _ => ∃ W : WL, v = W.v ∧ CoefOK W) := by
 refine zzm (args := [.int .i64 k, .int .i64 6, .int .i64 9, .int .i64 1]) Try.func17 rfl Try.ntmps17 (rs := [.cell 8 27]) Try.results17 (le_b rfl) (le_b rfl) d ?_
 refine sq9 (zzk 8 ⟨27, [.int .i64 0, .int .i64 0, .int .i64 0, .int .i64 0]⟩ (zzb (sq9 (zza 10 (zI k) (zzg 11 18 [.int .i64 k, .int .i64 1099511627776] ?_)))))
 intro w11 u11 e11 d11
 have k17 := (show Calls _ _ #[.int .i64 k, .int .i64 1099511627776] _ _ from k_withinB (n := k) (m := 1099511627776) d11 xq xq xq xq)
 with_reducible refine zPm k17 ?_
 rintro _ u15 g16 ⟨z12, rfl, h13, h14⟩
 refine zza 0 (zI z12) (zzb (sq9 (zza 12 (zI 6) (zza 13 (zI z12) (zza 14 (zI 9) (zza 15 (zI 6) (zza 16 (zI 3) (zza 17 (zI 4) (sy_rem 18 (n := z12) (m := 4) (z12 % 4) xw (Int.tmod_eq_emod_of_nonneg xq) ?_)))))))))
 refine zyq 19 (x := zI (IntKind.i64.wrap ((6 : Int) + (z12 % 4)))) (zI ((6 : Int) + (z12 % 4))) yv (zza 20 (.v (.agg #[.int .i64 ((6 : Int) + (z12 % 4)), .int .i64 0, .int .i64 0, .int .i64 0])) (zzk 9 ⟨27, [.int .i64 0, .int .i64 0, .int .i64 0, .int .i64 0]⟩ (zzj ⟨27, [.int .i64 ((6 : Int) + (z12 % 4)), .int .i64 0, .int .i64 0, .int .i64 0]⟩ ty27 ?_)))
 refine zzb (sq9 (zza 21 (zI z12) (zza 22 (zI 9) (zza 23 (zI 6) (zza 24 (zI 3) (zza 25 (zI 4) (sy_quo 26 (n := z12) (m := 4) (z12 / 4) xw (by rw [Int.tdiv_eq_ediv_of_nonneg xq]; exact IntWalk.i64_in _ xq) ?_)))))))
 refine zza 0 (zI (z12 / 4)) (zzb (sq9 (zza 27 (.adr 9 0) (zzi 28 (zI ((6 : Int) + (z12 % 4))) ty3 zzl (zyq 29 (x := zI (IntKind.i64.wrap (((6 : Int) + (z12 % 4)) - 1))) (zI (((6 : Int) + (z12 % 4)) - 1)) yv (zza 30 (zI 1) (zyq 31 (x := zI (IntKind.i64.wrap ((((6 : Int) + (z12 % 4)) - 1) - 1))) (zI ((((6 : Int) + (z12 % 4)) - 1) - 1)) yv (zza 32 (zI (z12 / 4)) (sy_rem 33 (n := z12 / 4) (m := 2) ((z12 / 4) % 2) xw (Int.tmod_eq_emod_of_nonneg xq) ?_)))))))))
 refine zyq 34 (x := zI (IntKind.i64.wrap (((((6 : Int) + (z12 % 4)) - 1) - 1) - ((z12 / 4) % 2)))) (zI (((((6 : Int) + (z12 % 4)) - 1) - 1) - ((z12 / 4) % 2))) yv (zza 35 (.adr 9 1) (zzj ⟨27, [.int .i64 ((6 : Int) + (z12 % 4)), .int .i64 (((((6 : Int) + (z12 % 4)) - 1) - 1) - ((z12 / 4) % 2)), .int .i64 0, .int .i64 0]⟩ ty3 ?_))
 refine zzc 52 [(0, zI (z12 / 4)), (8, .adr 8 0), (9, .adr 9 0)] [(8, ⟨27, [.int .i64 0, .int .i64 0, .int .i64 0, .int .i64 0]⟩), (9, ⟨27, [.int .i64 ((6 : Int) + (z12 % 4)), .int .i64 (((((6 : Int) + (z12 % 4)) - 1) - 1) - ((z12 / 4) % 2)), .int .i64 0, .int .i64 0]⟩)] (sq9 (zza 36 (zI (z12 / 4)) (sy_quo 37 (n := z12 / 4) (m := 2) ((z12 / 4) / 2) xw (by rw [Int.tdiv_eq_ediv_of_nonneg xq]; exact IntWalk.i64_in _ xq) ?_)))
 refine zza 0 (zI ((z12 / 4) / 2)) (zzb (sq9 (zza 38 (.adr 9 1) (zzi 39 (zI (((((6 : Int) + (z12 % 4)) - 1) - 1) - ((z12 / 4) % 2))) ty3 zzl (sy_max0 40 (n := ((((6 : Int) + (z12 % 4)) - 1) - 1) - ((z12 / 4) % 2)) (v := ((((6 : Int) + (z12 % 4)) - 1) - 1) - ((z12 / 4) % 2)) (by split <;> omega) ?_)))))
 refine zza 41 (.adr 9 1) (zzj ⟨27, [.int .i64 ((6 : Int) + (z12 % 4)), .int .i64 (((((6 : Int) + (z12 % 4)) - 1) - 1) - ((z12 / 4) % 2)), .int .i64 0, .int .i64 0]⟩ ty3 ?_)
 refine zzb (sq9 (zza 42 (zI ((z12 / 4) / 2)) (sy_rem 43 (n := (z12 / 4) / 2) (m := 3) (((z12 / 4) / 2) % 3) xw (Int.tmod_eq_emod_of_nonneg xq) ?_)))
 refine zyq 44 (x := zI (IntKind.i64.wrap ((1 : Int) + (((z12 / 4) / 2) % 3)))) (zI ((1 : Int) + (((z12 / 4) / 2) % 3))) yv (zza 45 (zI ((z12 / 4) / 2)) (sy_quo 46 (n := (z12 / 4) / 2) (m := 3) (((z12 / 4) / 2) / 3) xw (by rw [Int.tdiv_eq_ediv_of_nonneg xq]; exact IntWalk.i64_in _ xq) ?_))
 refine sy_rem 47 (n := ((z12 / 4) / 2) / 3) (m := 2) ((((z12 / 4) / 2) / 3) % 2) xw (Int.tmod_eq_emod_of_nonneg xq) ?_
 refine zyq 48 (x := zI (IntKind.i64.wrap ((1 : Int) + ((((z12 / 4) / 2) / 3) % 2)))) (zI ((1 : Int) + ((((z12 / 4) / 2) / 3) % 2))) yv (zza 49 (.adr 9 2) (zzj ⟨27, [.int .i64 ((6 : Int) + (z12 % 4)), .int .i64 (((((6 : Int) + (z12 % 4)) - 1) - 1) - ((z12 / 4) % 2)), .int .i64 ((1 : Int) + (((z12 / 4) / 2) % 3)), .int .i64 0]⟩ ty3 ?_))
 refine zza 50 (.adr 9 3) (zzj ⟨27, [.int .i64 ((6 : Int) + (z12 % 4)), .int .i64 (((((6 : Int) + (z12 % 4)) - 1) - 1) - ((z12 / 4) % 2)), .int .i64 ((1 : Int) + (((z12 / 4) / 2) % 3)), .int .i64 ((1 : Int) + ((((z12 / 4) / 2) / 3) % 2))]⟩ ty3 ?_)
 refine zzb (sq9 (zzi 51 (.v (.agg #[.int .i64 ((6 : Int) + (z12 % 4)), .int .i64 (((((6 : Int) + (z12 % 4)) - 1) - 1) - ((z12 / 4) % 2)), .int .i64 ((1 : Int) + (((z12 / 4) / 2) % 3)), .int .i64 ((1 : Int) + ((((z12 / 4) / 2) / 3) % 2))])) ty27 zze (zzj ⟨27, [.int .i64 ((6 : Int) + (z12 % 4)), .int .i64 (((((6 : Int) + (z12 % 4)) - 1) - 1) - ((z12 / 4) % 2)), .int .i64 ((1 : Int) + (((z12 / 4) / 2) % 3)), .int .i64 ((1 : Int) + ((((z12 / 4) / 2) / 3) % 2))]⟩ ty27 ?_)))
 refine zzb (zzo (ret0 [.agg #[.int .i64 ((6 : Int) + (z12 % 4)), .int .i64 (((((6 : Int) + (z12 % 4)) - 1) - 1) - ((z12 / 4) % 2)), .int .i64 ((1 : Int) + (((z12 / 4) / 2) % 3)), .int .i64 ((1 : Int) + ((((z12 / 4) / 2) / 3) % 2))]] ⟨zzr ty27 zze, trivial⟩ fun u18 e19 => ?_))
 exact ⟨⟨(6 : Int) + (z12 % 4), ((((6 : Int) + (z12 % 4)) - 1) - 1) - ((z12 / 4) % 2), (1 : Int) + (((z12 / 4) / 2) % 3), (1 : Int) + ((((z12 / 4) / 2) / 3) % 2)⟩, rfl, by unfold CoefOK; dsimp only; omega⟩
theorem k_coef {u w : World} {k : Int} (d : Dat u w) (hk0 : -9223372036854775808 ≤ k) (hk1 : k ≤ 9223372036854775807) : Calls Try.prog 7 #[.int .i64 k] w (Post u w fun v _ => ∃ W : WL, v = W.v ∧ CoefOK W) := by
 refine zzm (args := [.int .i64 k]) Try.func7 rfl Try.ntmps7 (rs := [.cell 2 27]) Try.results7 (le_b rfl) (le_b rfl) d ?_
 refine sq9 (zzk 2 ⟨27, [.int .i64 0, .int .i64 0, .int .i64 0, .int .i64 0]⟩ (zzb (sq9 (zza 3 (zI k) (zzg 4 17 [.int .i64 k, .int .i64 6, .int .i64 9, .int .i64 1] ?_)))))
 intro w11 u11 e11 d11
 have k16 := k_word (k := k) d11 xq xq
 with_reducible refine zPm k16 ?_
 rintro _ u14 g15 ⟨W12, rfl, hW13⟩
 have hw17 := hW13.ok
 have hw17f : 1 ≤ W12.f := by have h9 := hW13; unfold CoefOK at h9; omega
 have hw17g : W12.f ≤ 24 := by have h9 := hW13; unfold CoefOK at h9; omega
 refine zzj ⟨27, W12.cs⟩ ty27 ?_
 refine zzb (zzo (ret0 [.agg #[.int .i64 W12.b, .int .i64 W12.f, .int .i64 W12.r, .int .i64 W12.o]] ⟨zzr ty27 zze, trivial⟩ fun u18 e19 => ?_))
 exact ⟨W12, rfl, by assumption⟩
theorem k_wat {u w : World} {x : Sl} {l : List Int} {i : Nat} (d : Dat u w) (hx : SlR .i64 u x.a x.n x.c l) (hb : ∀ z ∈ l, -9223372036854775808 ≤ z ∧ z ≤ 9223372036854775807) (hi9 : i ≤ 1000000000) : Calls Try.prog 20 #[x.v, .int .i64 (i : Int)] w (Post u w fun v _ => v = .int .i64 (l.getD i 0)) := by
 have hlen : l.length = x.n := hx.1
 refine zzm (args := [.slice x.a x.n x.c, .int .i64 i]) Try.func20 rfl Try.ntmps20 (rs := [.tmp 4]) Try.results20 (le_b rfl) (le_b rfl) d ?_
 refine sq9 (zza 4 (zI 0) (zzb (zzd (sq9 (zza 5 (zI i) (zza 6 (zB (decide ((0 : Int) ≤ (i : Int)))) (zyq 7 (x := zB (decide ((0 : Int) ≤ (i : Int)))) (zB true) (by rw [show (decide ((0 : Int) ≤ (i : Int))) = true from decide_eq_true xq]) (zza 8 (zI i) ?_ (hw := w1 2 true 7)))))))))
 refine zza 9 (.v x.v) ?_ (hw := w1 2 true 7)
 refine zza 10 (zI x.n) ?_ (hw := w1 2 true 7)
 refine zza 11 (zB (decide ((i : Int) < (x.n : Int)))) ?_ (hw := w1 2 true 7)
 refine zza 12 (zB (decide ((i : Int) < (x.n : Int)))) (zzb (zzu (b := decide ((i : Int) < (x.n : Int))) xv (fun hb12 => ?_) (fun hb12 => ?_)))
 ·replace hb12 : (decide ((i : Int) < (x.n : Int))) = true := hb12
  have qhb12 := of_decide_eq_true hb12
  refine sq9 (zza 13 (.v x.v) (zza 14 (zI i) ?_))
  have hl13 := (hx).1
  obtain ⟨b13, o13, hA13, hc13⟩ := ints_at hx (i := i) xq
  have hz13 := ints_bd hb xq i
  refine zya 15 (o13 + i * 1) (n := x.n) (off := o13) (sz := 1) (i := (i : Int)) xq hA13 xq xq sl22 (zyl 16 (.int .i64 (l.getD i 0)) hc13 ty3 (zza 4 (zI (l.getD i 0)) (zzb (zzo (zzw (ret0 [.int .i64 (l.getD i 0)] ⟨zzq, trivial⟩ fun u14 e15 => ?_))))))
  rfl
 ·replace hb12 : (decide ((i : Int) < (x.n : Int))) = false := hb12
  have qhb12 := of_decide_eq_false hb12
  refine zzs (zzp ?_)
  refine sq9 (zza 4 (zI 0) (zzb (zzo (ret0 [.int .i64 0] ⟨zzq, trivial⟩ fun u16 e17 => ?_))))
  show Value.int _ _ = Value.int _ _
  rw [show l.getD i 0 = 0 by rw [List.getD_eq_getElem?_getD, List.getElem?_eq_none xq]; rfl]
end Go.Proofs.Ytdmpfhhhlhoeiaa
