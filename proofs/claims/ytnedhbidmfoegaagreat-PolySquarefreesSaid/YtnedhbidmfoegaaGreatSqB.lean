/- The contract of make.Rooted. Printed by wip/sym/g_rt.py. Plain laws: larger intervals have larger results; common numbers. Values, without programs: Horner's rule, compositions, enclosures. Horner's rule with whole numbers, without programs; values of sums, products, compositions. Contracts of values of polynomials. Printed by wip/sym/g_ev.py. The laws on common divisors and enclosures, in the words of lists. PolySquarefrees, walked. Printed by wip/sym/g_l5w.py. -/
import Derived.Test.YtnedhbidmfoegaaGreatSqA
namespace Go.Proofs.YtnedhbidmfoegaaGreat
open Go.RowKit
set_option linter.unusedVariables false
theorem PolN.fitRS {u : World} {x : Sl} {l : List Rat} {K j : Nat} (h : PolN u x l K) (s : Nt.RSz l j) (hj : j ≤ 9) : PolN u x l 2 := by
  obtain ⟨h1, D, h2, h3⟩ := s
  exact (h.fitS h3 h2).more (Nat.le_trans (Nt.dg_mono (show 2 + 6 * j ≤ 56 by omega)) (by decide))
theorem PolN.fitRF {u : World} {x : Sl} {l : List Rat} {K : Nat} (h : PolN u x l K) (s : Nt.RFin l) : PolN u x l 2 := by
  obtain ⟨h1, D, h2, h3⟩ := s
  exact h.fitS h3 h2
set_option maxHeartbeats 16000000 in
theorem k_rooted {u w : World} {x : Sl} {l : List Int} (d : Dat u w) (hx : SlR .i64 u x.a x.n x.c l) (hb : ∀ z ∈ l, -9223372036854775808 ≤ z ∧ z ≤ 9223372036854775807) : Calls Tryz.prog 38 #[x.v] w (Post u w fun v u' => ∃ (y1 y2 : Sl) (pl rs : List Rat), v = .tuple #[y1.v, y2.v] ∧ PolN u' y1 pl 2 ∧ PolN u' y2 rs 1 ∧ Nt.RFin pl ∧ Nt.RootsP pl rs) := by
  have hlen : l.length = x.n := hx.1
  refine calls_sym (args := [.slice x.a x.n x.c]) Tryz.func38 rfl Tryz.ntmps38 (rs := [.tmp 2, .tmp 3]) Tryz.results38 (le_b rfl) (le_b rfl) d ?_
  refine sw_seq ?_
  refine sw_reg ?_
  refine sy_pure 2 (.v (.slice none 0 0)) ?_
  refine sy_pure 3 (.v (.slice none 0 0)) ?_
  refine sy_next 81 [(0, .v (.slice x.a x.n x.c))] [] ?_
  refine sw_seq ?_
  refine sw_reg ?_
  refine sy_pure 13 (.v (.slice x.a x.n x.c)) ?_
  refine sy_pure 14 (.v (.agg #[.slice x.a x.n x.c, .int .i64 0])) ?_
  refine sy_new 15 ⟨100, [.slice x.a x.n x.c, .int .i64 0]⟩ ?_
  refine sy_pure 4 (.adr 15 0) ?_
  refine sy_next 81 [(4, .adr 15 0)] [(15, ⟨100, [.slice x.a x.n x.c, .int .i64 0]⟩)] ?_
  refine sw_seq ?_
  refine sw_reg ?_
  refine sy_pure 16 (.adr 15 0) ?_
  have kc12 := fun (g : Nat) (w u1 : World) (e : Ext u u1) (d : Dat u1 w) (hg : w.heap[g]? = some (.cells (tpc x 0).toArray 100 (0, 0))) (hu : u1.heap[g]? = some hidO) => (show Calls Tryz.prog 119 (Value.pointer (some ⟨g, 0, none⟩) :: [.int .i64 3]).toArray w _ from k_tapeNext (m := 3) d hg hu (SlR.ext hx e) hb (Nat.zero_le _) (by decide) (by decide))
  refine sy_lendP 17 119 (t := 15) (V := ⟨100, [.slice x.a x.n x.c, .int .i64 0]⟩) [.int .i64 3] (by kernel_rfl) kc12 ?_
  clear kc12
  rintro v11 V11 u11 e11 ⟨z11, a11, rfl, hz11, rfl, ha11⟩
  refine sy_eq 18 (x := .v (.int .i64 (IntKind.i64.wrap ((1 : Int) + (z11 : Int))))) (.v (.int .i64 ((1 + z11 : Nat) : Int))) (eqI (by rw [IntWalk.i64_in _ (by omega)]; omega)) ?_
  refine sy_call 19 41 [.int .i64 ((1 + z11 : Nat) : Int)] ?_
  intro w13 u13 e13 d13
  have k18 := k_rqOf d13 (z := ((1 + z11 : Nat) : Int)) (by omega) (by omega)
  with_reducible refine Post.mono k18 ?_
  clear k18
  rintro _ u16 g17 ⟨r14, rfl, h15⟩
  refine sy_data 20 ⟨26, r14.cs⟩ 1 (fun b19 u20 e21 h22 => ?_)
  have hp23 : PolN u20 (⟨some ⟨b19, 0, none⟩, 1, 1⟩ : Sl) [((((1 + z11 : Nat) : Int) : Int) : Rat)] 2 := pol_lit (L := [r14]) h22 (rats1 (h15.ext e21)) rfl (by decide)
  refine sy_pure 5 (.v (.slice (some ⟨b19, 0, none⟩) 1 1)) ?_
  refine sy_next 81 [(4, .adr 15 0), (5, .v (.slice (some ⟨b19, 0, none⟩) 1 1))] [(15, ⟨100, [.slice x.a x.n x.c, .int .i64 (a11 : Int)]⟩)] ?_
  refine sw_seq ?_
  refine sw_seq ?_
  have hr0 : Nt.RSz [((((1 + z11 : Nat) : Int) : Int) : Rat)] 0 := Nt.RSz.one hz11
  have hm0 : Nt.MadeF (Nt.Pol.mk' [((((1 + z11 : Nat) : Int) : Int) : Rat)]) [] := Nt.MadeF.begin z11
  refine sw_reg ?_
  refine sy_pure 21 (.adr 15 0) ?_
  have kc25 := fun (g : Nat) (w u1 : World) (e : Ext u20 u1) (d : Dat u1 w) (hg : w.heap[g]? = some (.cells (tpc x a11).toArray 100 (0, 0))) (hu : u1.heap[g]? = some hidO) => (show Calls Tryz.prog 119 (Value.pointer (some ⟨g, 0, none⟩) :: [.int .i64 2]).toArray w _ from k_tapeNext (m := 2) d hg hu (SlR.ext (hx.ext (e11.trans (e13.trans (g17.ext.trans e21)))) e) hb ha11 (by decide) (by decide))
  refine sy_lendP 22 119 (t := 15) (V := ⟨100, [.slice x.a x.n x.c, .int .i64 (a11 : Int)]⟩) [.int .i64 2] (by kernel_rfl) kc25 ?_
  clear kc25
  rintro v24 V24 u24 e24 ⟨z24, a24, rfl, hz24, rfl, ha24⟩
  refine sy_pure 23 (.v (.bool ((z24 : Int) == 1))) ?_
  refine sy_next 81 [(4, .adr 15 0), (5, .v (.slice (some ⟨b19, 0, none⟩) 1 1)), (23, .v (.bool ((z24 : Int) == 1)))] [(15, ⟨100, [.slice x.a x.n x.c, .int .i64 (a24 : Int)]⟩)] ?_
  refine sw_cond (b := (z24 : Int) == 1) (by kernel_rfl) (fun hb26 => ?_) (fun hb26 => ?_)
  · replace hb26 : ((z24 : Int) == 1) = true := hb26
    have qhb26 : (z24 : Int) = 1 := by simpa using hb26
    refine sw_reg ?_
    refine sy_pure 24 (.v (.slice (some ⟨b19, 0, none⟩) 1 1)) ?_
    refine sy_call 25 41 [.int .i64 (-1)] ?_
    intro w27 u27 e27 d27
    have k32 := k_rqOf d27 (z := (-1)) (by omega) (by omega)
    with_reducible refine Post.mono k32 ?_
    clear k32
    rintro _ u30 g31 ⟨r28, rfl, h29⟩
    refine sy_call 26 98 [.slice (some ⟨b19, 0, none⟩) 1 1, r28.v] ?_
    intro w33 u33 e33 d33
    have k38 := k_r5Scale d33 (hp23.ext (e24.trans (e27.trans (g31.ext.trans e33)))).raw (h29.ext e33).raw (by omega) (by simp) (by omega)
    with_reducible refine Post.mono k38 ?_
    clear k38
    rintro _ u36 g37 ⟨y34, rfl, h35⟩
    have hly34 := h35.len
    refine sy_pure 5 (.v (.slice y34.a y34.n y34.c)) ?_
    refine sy_next 81 [(4, .adr 15 0), (5, .v (.slice y34.a y34.n y34.c))] [(15, ⟨100, [.slice x.a x.n x.c, .int .i64 (a24 : Int)]⟩)] ?_
    refine sw_seq ?_
    have hr1 : Nt.RSz (Nt.trimQ ([((((1 + z11 : Nat) : Int) : Int) : Rat)].map (· * (((-1) : Int) : Rat)))) 0 := Nt.RSz.neg hr0
    refine sw_reg ?_
    refine sy_pure 6 (.v (.slice none 0 0)) ?_
    refine sy_next 81 [(4, .adr 15 0), (5, .v (.slice y34.a y34.n y34.c)), (6, .v (.slice none 0 0))] [(15, ⟨100, [.slice x.a x.n x.c, .int .i64 (a24 : Int)]⟩)] ?_
    refine sw_seq ?_
    refine sw_seq ?_
    refine sw_reg ?_
    refine sy_pure 27 (.adr 15 0) ?_
    have kc40 := fun (g : Nat) (w u1 : World) (e : Ext u36 u1) (d : Dat u1 w) (hg : w.heap[g]? = some (.cells (tpc x a24).toArray 100 (0, 0))) (hu : u1.heap[g]? = some hidO) => (show Calls Tryz.prog 119 (Value.pointer (some ⟨g, 0, none⟩) :: [.int .i64 4]).toArray w _ from k_tapeNext (m := 4) d hg hu (SlR.ext (hx.ext (e11.trans (e13.trans (g17.ext.trans (e21.trans (e24.trans (e27.trans (g31.ext.trans (e33.trans g37.ext))))))))) e) hb ha24 (by decide) (by decide))
    refine sy_lendP 28 119 (t := 15) (V := ⟨100, [.slice x.a x.n x.c, .int .i64 (a24 : Int)]⟩) [.int .i64 4] (by kernel_rfl) kc40 ?_
    clear kc40
    rintro v39 V39 u39 e39 ⟨z39, a39, rfl, hz39, rfl, ha39⟩
    refine sy_pure 7 (.v (.int .i64 (z39 : Int))) ?_
    refine sy_next 81 [(4, .adr 15 0), (5, .v (.slice y34.a y34.n y34.c)), (6, .v (.slice none 0 0)), (7, .v (.int .i64 (z39 : Int)))] [(15, ⟨100, [.slice x.a x.n x.c, .int .i64 (a39 : Int)]⟩)] ?_
    refine sw_block ?_
    refine sw_loop (I := fun m41 S' u' => (∃ (k : Nat) (xp : Sl) (pl : List Rat) (a9 : Nat), m41 = k ∧ k ≤ 3 ∧ a9 ≤ x.n ∧ Nt.RSz pl (3 * (3 - k)) ∧ Nt.MadeF (Nt.Pol.mk' pl) [] ∧ S' = St.of 81 [(4, .adr 15 0), (5, .v (.slice xp.a xp.n xp.c)), (6, .v (.slice none 0 0)), (7, .v (.int .i64 (k : Int)))] [(15, ⟨100, [.slice x.a x.n x.c, .int .i64 (a9 : Int)]⟩)] ∧ Ext u39 u' ∧ PolN u' xp pl 2) ∨ (∃ (k : Nat) (xp : Sl) (pl : List Rat) (a9 : Nat) (L : List RL) (X : List Value) (n9 cp : Nat) (rs : List Rat), m41 = k ∧ k ≤ 3 ∧ a9 ≤ x.n ∧ Nt.RSz pl (3 * (3 - k)) ∧ Nt.MadeF (Nt.Pol.mk' pl) rs ∧ L.length = n9 ∧ 0 < n9 ∧ n9 ≤ 3 - k ∧ (rcs L ++ X).length = cp * 3 ∧ n9 ≤ cp ∧ cp ≤ maxLen ∧ S' = St.of 81 [(4, .adr 15 0), (5, .v (.slice xp.a xp.n xp.c)), (6, .slc 54 0 n9 cp), (7, .v (.int .i64 (k : Int)))] [(15, ⟨100, [.slice x.a x.n x.c, .int .i64 (a9 : Int)]⟩), (54, ⟨26, rcs L ++ X⟩)] ∧ Ext u39 u' ∧ PolN u' xp pl 2 ∧ RatsN u' L rs 1)) (fun m S u1 u2 e h => by rcases h with ⟨a1, a2, a3, a4, b1, b2, b3, b4, b8, b5, b6, b7⟩ | ⟨a1, a2, a3, a4, a5, a6, a7, a8, a9, b1, b2, b3, b4, c6, b5, b6, b7, b8, b9, c1, c2, c3, c4, c5⟩; exact .inl ⟨a1, a2, a3, a4, b1, b2, b3, b4, b8, b5, b6.trans e, b7.ext e⟩; exact .inr ⟨a1, a2, a3, a4, a5, a6, a7, a8, a9, b1, b2, b3, b4, c6, b5, b6, b7, b8, b9, c1, c2, c3.trans e, c4.ext e, c5.ext e⟩) _ (T := St.of 81 [(4, .adr 15 0), (5, .v (.slice y34.a y34.n y34.c)), (6, .v (.slice none 0 0)), (7, .v (.int .i64 (z39 : Int)))] [(15, ⟨100, [.slice x.a x.n x.c, .int .i64 (a39 : Int)]⟩)]) (by exact weak_mk _ _ _) (.inl ⟨z39, y34, _, a39, rfl, by omega, by omega, (Nt.RSz.more hr1 (Nat.zero_le _)), (Nt.MadeF.neg hm0), rfl, Ext.refl _, (PolN.fitRS (h35.ext e39) hr1 (by decide))⟩) ?_
    rintro m41 _ u41 (⟨k, xp, pl, a9, hm9, hk3, ha9, hRz, hM, rfl, e41, hP9⟩ | ⟨k, xp, pl, a9, L, X, n9, cp, rs, hm9, hk3, ha9, hRz, hM, hL9, hn0, hn3, hc9, hle9, hmx9, rfl, e41, hP9, hRo⟩)
    · change SW _ _ _ _ (St.of 81 [(4, .adr 15 0), (5, .v (.slice xp.a xp.n xp.c)), (6, .v (.slice none 0 0)), (7, .v (.int .i64 (k : Int)))] [(15, ⟨100, [.slice x.a x.n x.c, .int .i64 (a9 : Int)]⟩)]) _ _
      have hlp := hP9.len
      refine sw_seq ?_
      refine sw_seq ?_
      refine sw_reg ?_
      refine sy_pure 29 (.v (.int .i64 (k : Int))) ?_
      refine sy_pure 30 (.v (.bool (decide ((0 : Int) < (k : Int))))) ?_
      refine sy_next 81 [(4, .adr 15 0), (5, .v (.slice xp.a xp.n xp.c)), (6, .v (.slice none 0 0)), (7, .v (.int .i64 (k : Int))), (30, .v (.bool (decide ((0 : Int) < (k : Int)))))] [(15, ⟨100, [.slice x.a x.n x.c, .int .i64 (a9 : Int)]⟩)] ?_
      refine sw_cond (b := decide ((0 : Int) < (k : Int))) (by kernel_rfl) (fun hb42 => ?_) (fun hb42 => ?_)
      · replace hb42 : (decide ((0 : Int) < (k : Int))) = true := hb42
        have qhb42 := of_decide_eq_true hb42
        refine sw_skip (mp_seq ?_)
        refine sw_seq ?_
        refine sw_block ?_
        refine sw_seq ?_
        refine sw_reg ?_
        refine sy_pure 33 (.adr 15 0) ?_
        have kc44 := fun (g : Nat) (w u1 : World) (e : Ext u41 u1) (d : Dat u1 w) (hg : w.heap[g]? = some (.cells (tpc x a9).toArray 100 (0, 0))) (hu : u1.heap[g]? = some hidO) => (show Calls Tryz.prog 119 (Value.pointer (some ⟨g, 0, none⟩) :: [.int .i64 25]).toArray w _ from k_tapeNext (m := 25) d hg hu (SlR.ext (hx.ext (e11.trans (e13.trans (g17.ext.trans (e21.trans (e24.trans (e27.trans (g31.ext.trans (e33.trans (g37.ext.trans (e39.trans e41))))))))))) e) hb ha9 (by decide) (by decide))
        refine sy_lendP 34 119 (t := 15) (V := ⟨100, [.slice x.a x.n x.c, .int .i64 (a9 : Int)]⟩) [.int .i64 25] (by kernel_rfl) kc44 ?_
        clear kc44
        rintro v43 V43 u43 e43 ⟨z43, a43, rfl, hz43, rfl, ha43⟩
        refine sy_call 35 120 [.int .i64 (z43 : Int)] ?_
        intro w45 u45 e45 d45
        have k50 := k_cos d45 (n := (z43 : Int)) (by omega) (by omega)
        with_reducible refine Post.mono k50 ?_
        clear k50
        rintro _ u48 g49 ⟨r46, rfl, h47⟩
        refine sy_new 8 ⟨26, [.bool false, .slice none 0 0, .slice none 0 0]⟩ ?_
        refine sy_store ⟨26, r46.cs⟩ ty26 ?_
        refine sy_next 81 [(4, .adr 15 0), (5, .v (.slice xp.a xp.n xp.c)), (6, .v (.slice none 0 0)), (7, .v (.int .i64 (k : Int))), (8, .adr 8 0)] [(8, ⟨26, r46.cs⟩), (15, ⟨100, [.slice x.a x.n x.c, .int .i64 (a43 : Int)]⟩)] ?_
        refine sw_seq ?_
        refine sw_reg ?_
        refine sy_pure 9 (.v (.bool false)) ?_
        refine sy_next 81 [(4, .adr 15 0), (5, .v (.slice xp.a xp.n xp.c)), (6, .v (.slice none 0 0)), (7, .v (.int .i64 (k : Int))), (8, .adr 8 0), (9, .v (.bool false))] [(8, ⟨26, r46.cs⟩), (15, ⟨100, [.slice x.a x.n x.c, .int .i64 (a43 : Int)]⟩)] ?_
        refine sw_seq ?_
        refine sw_seq ?_
        refine sw_reg ?_
        refine sy_pure 36 (.v (.slice none 0 0)) ?_
        refine sy_pure 37 (.v (.int .i64 0)) ?_
        refine sy_pure 38 (.v (.int .i64 0)) ?_
        refine sy_next 81 [(4, .adr 15 0), (5, .v (.slice xp.a xp.n xp.c)), (6, .v (.slice none 0 0)), (7, .v (.int .i64 (k : Int))), (8, .adr 8 0), (9, .v (.bool false)), (36, .v (.slice none 0 0)), (37, .v (.int .i64 0)), (38, .v (.int .i64 0))] [(8, ⟨26, r46.cs⟩), (15, ⟨100, [.slice x.a x.n x.c, .int .i64 (a43 : Int)]⟩)] ?_
        refine sw_block ?_
        refine sw_rounds 0 ?_
        refine sw_seq ?_
        refine sw_reg ?_
        refine sy_pure 39 (.v (.bool false)) ?_
        refine sy_next 81 [(4, .adr 15 0), (5, .v (.slice xp.a xp.n xp.c)), (6, .v (.slice none 0 0)), (7, .v (.int .i64 (k : Int))), (8, .adr 8 0), (9, .v (.bool false)), (36, .v (.slice none 0 0)), (37, .v (.int .i64 0)), (38, .v (.int .i64 0)), (39, .v (.bool false))] [(8, ⟨26, r46.cs⟩), (15, ⟨100, [.slice x.a x.n x.c, .int .i64 (a43 : Int)]⟩)] ?_
        refine sw_seq ?_
        refine sw_false (by kernel_rfl) ?_
        refine sw_exit ?_
        refine mp_seq ?_
        refine sw_seq ?_
        refine sw_seq ?_
        refine sw_reg ?_
        refine sy_pure 50 (.v (.bool false)) ?_
        refine sy_next 81 [(4, .adr 15 0), (5, .v (.slice xp.a xp.n xp.c)), (6, .v (.slice none 0 0)), (7, .v (.int .i64 (k : Int))), (8, .adr 8 0), (50, .v (.bool false))] [(8, ⟨26, r46.cs⟩), (15, ⟨100, [.slice x.a x.n x.c, .int .i64 (a43 : Int)]⟩)] ?_
        refine sw_false (by kernel_rfl) ?_
        refine sw_skip (mp_seq ?_)
        refine sw_seq ?_
        have hnin : (Nt.cosQ (z43 : Int)) ∉ ([] : List Rat) := by simp
        refine sw_reg ?_
        refine sy_pure 51 (.v (.slice none 0 0)) ?_
        refine sy_ldv 52 (.v (r46.v)) ty26 part_agg ?_
        refine sy_data 53 ⟨26, r46.cs⟩ 1 (fun b51 u52 e53 h54 => ?_)
        have hp55 : PolN u52 (⟨some ⟨b51, 0, none⟩, 1, 1⟩ : Sl) [(Nt.cosQ (z43 : Int))] 1 := pol_lit (L := [r46]) h54 (rats1 (h47.ext e53)) rfl (by decide)
        refine sy_app0 54 (T := 40) (E := 26) (z := .agg #[.bool false, .slice none 0 0, .slice none 0 0]) (size := 3) (bytes := 56) (b := b51) (off := 0) (m := 1) r46.cs (by kernel_rfl) (by kernel_rfl) (by kernel_rfl) (by decide) rfl (lit_news ((Ext.refl _).cells h54)) (rl_one r46) (by decide) (by decide) (by decide) ?_
        intro c56 cs56 ha56 hb56 hc56 hd56
        refine sy_pure 6 (.slc 54 0 1 c56) ?_
        refine sy_next 81 [(4, .adr 15 0), (5, .v (.slice xp.a xp.n xp.c)), (6, .slc 54 0 1 c56), (7, .v (.int .i64 (k : Int))), (8, .adr 8 0)] [(8, ⟨26, r46.cs⟩), (15, ⟨100, [.slice x.a x.n x.c, .int .i64 (a43 : Int)]⟩), (54, ⟨26, cs56⟩)] ?_
        refine sw_seq ?_
        obtain ⟨X57, hX57⟩ := spare_of (n := 1) (L := [r46]) hd56
        subst hX57
        have hRo57 : RatsN u52 ([r46]) [(Nt.cosQ (z43 : Int))] 1 := rats1 (h47.ext e53)
        refine sw_reg ?_
        refine sy_pure 55 (.adr 15 0) ?_
        have kc59 := fun (g : Nat) (w u1 : World) (e : Ext u52 u1) (d : Dat u1 w) (hg : w.heap[g]? = some (.cells (tpc x a43).toArray 100 (0, 0))) (hu : u1.heap[g]? = some hidO) => (show Calls Tryz.prog 119 (Value.pointer (some ⟨g, 0, none⟩) :: [.int .i64 3]).toArray w _ from k_tapeNext (m := 3) d hg hu (SlR.ext (hx.ext (e11.trans (e13.trans (g17.ext.trans (e21.trans (e24.trans (e27.trans (g31.ext.trans (e33.trans (g37.ext.trans (e39.trans (e41.trans (e43.trans (e45.trans (g49.ext.trans e53))))))))))))))) e) hb ha43 (by decide) (by decide))
        refine sy_lendP 56 119 (t := 15) (V := ⟨100, [.slice x.a x.n x.c, .int .i64 (a43 : Int)]⟩) [.int .i64 3] (by kernel_rfl) kc59 ?_
        clear kc59
        rintro v58 V58 u58 e58 ⟨z58, a58, rfl, hz58, rfl, ha58⟩
        refine sy_eq 12 (x := .v (.int .i64 ((z58 : Int)))) (.v (.int .i64 (((z58 + 1 : Nat) : Int) - 1))) (eqI (by omega)) ?_
        refine sy_next 81 [(4, .adr 15 0), (5, .v (.slice xp.a xp.n xp.c)), (6, .slc 54 0 1 c56), (7, .v (.int .i64 (k : Int))), (8, .adr 8 0), (12, .v (.int .i64 (((z58 + 1 : Nat) : Int) - 1)))] [(8, ⟨26, r46.cs⟩), (15, ⟨100, [.slice x.a x.n x.c, .int .i64 (a58 : Int)]⟩), (54, ⟨26, rcs ([r46]) ++ X57⟩)] ?_
        refine sw_block ?_
        refine sw_loop (I := fun m60 S' u' => ∃ (kk : Nat) (xq : Sl) (pm : List Rat), (m60 = kk) ∧ (kk ≤ z58 + 1) ∧ (Nt.RSz pm (3 * (3 - k) + (z58 + 1 - kk))) ∧ (Nt.Pol.mk' pm = Nt.Pol.mk' pl * Nt.Pol.npow (Nt.lin (Nt.cosQ (z43 : Int))) (z58 + 1 - kk)) ∧ (S' = St.of 81 [(4, .adr 15 0), (5, .v (.slice xq.a xq.n xq.c)), (6, .slc 54 0 1 c56), (7, .v (.int .i64 (k : Int))), (8, .adr 8 0), (12, .v (.int .i64 ((kk : Int) - 1)))] [(8, ⟨26, r46.cs⟩), (15, ⟨100, [.slice x.a x.n x.c, .int .i64 (a58 : Int)]⟩), (54, ⟨26, rcs ([r46]) ++ X57⟩)]) ∧ (Ext u58 u') ∧ (PolN u' xq pm 2)) (fun m S u1 u2 e h => by obtain ⟨kk, xq, pm, hm, p0, p1, p2, hS, hE, f0⟩ := h; exact ⟨kk, xq, pm, hm, p0, p1, p2, hS, hE.trans e, f0.ext e⟩) _ (T := St.of 81 [(4, .adr 15 0), (5, .v (.slice xp.a xp.n xp.c)), (6, .slc 54 0 1 c56), (7, .v (.int .i64 (k : Int))), (8, .adr 8 0), (12, .v (.int .i64 (((z58 + 1 : Nat) : Int) - 1)))] [(8, ⟨26, r46.cs⟩), (15, ⟨100, [.slice x.a x.n x.c, .int .i64 (a58 : Int)]⟩), (54, ⟨26, rcs ([r46]) ++ X57⟩)]) (by exact weak_mk _ _ _) ⟨z58 + 1, xp, pl, rfl, by omega, (by rw [Nat.sub_self]; exact hRz), (by rw [Nat.sub_self, Nt.Pol.npow_zero, Nt.Pol.mul_one]), rfl, Ext.refl _, (hP9.ext (e43.trans (e45.trans (g49.ext.trans (e53.trans e58)))))⟩ ?_
        rintro m60 _ u60 ⟨kk, xq, pm, hm60, hkk, hRm, hMm, rfl, e60, hPq⟩
        have hlq := hPq.len
        have hzz := hz58
        refine sw_seq ?_
        refine sw_seq ?_
        refine sw_reg ?_
        refine sy_pure 57 (.v (.int .i64 ((kk : Int) - 1))) ?_
        refine sy_pure 58 (.v (.bool (decide ((0 : Int) ≤ ((kk : Int) - 1))))) ?_
        refine sy_next 81 [(4, .adr 15 0), (5, .v (.slice xq.a xq.n xq.c)), (6, .slc 54 0 1 c56), (7, .v (.int .i64 (k : Int))), (8, .adr 8 0), (12, .v (.int .i64 ((kk : Int) - 1))), (58, .v (.bool (decide ((0 : Int) ≤ ((kk : Int) - 1)))))] [(8, ⟨26, r46.cs⟩), (15, ⟨100, [.slice x.a x.n x.c, .int .i64 (a58 : Int)]⟩), (54, ⟨26, rcs ([r46]) ++ X57⟩)] ?_
        refine sw_cond (b := decide ((0 : Int) ≤ ((kk : Int) - 1))) (by kernel_rfl) (fun hb61 => ?_) (fun hb61 => ?_)
        · replace hb61 : (decide ((0 : Int) ≤ ((kk : Int) - 1))) = true := hb61
          have qhb61 := of_decide_eq_true hb61
          refine sw_skip (mp_seq ?_)
          refine sw_seq ?_
          refine sw_block ?_
          refine sw_reg ?_
          refine sy_pure 61 (.v (.slice xq.a xq.n xq.c)) ?_
          refine sy_ldv 62 (.v (r46.v)) ty26 part_agg ?_
          refine sy_call 63 110 [r46.v] ?_
          intro w62 u62 e62 d62
          have k67 := k_rqNeg d62 (h47.ext (e53.trans (e58.trans (e60.trans e62)))).raw (by omega)
          with_reducible refine Post.mono k67 ?_
          clear k67
          rintro _ u65 g66 ⟨r63, rfl, h64⟩
          refine sy_call 64 41 [.int .i64 1] ?_
          intro w68 u68 e68 d68
          have k73 := k_rqOf d68 (z := 1) (by omega) (by omega)
          with_reducible refine Post.mono k73 ?_
          clear k73
          rintro _ u71 g72 ⟨r69, rfl, h70⟩
          refine sy_data 65 ⟨26, r63.cs ++ r69.cs⟩ 2 (fun b74 u75 e76 h77 => ?_)
          have hp78 : PolN u75 (⟨some ⟨b74, 0, none⟩, 2, 2⟩ : Sl) [(-(Nt.cosQ (z43 : Int))), ((1 : Int) : Rat)] (max 1 2) := pol_lit (L := [r63, r69]) h77 (rats2 (RatN.more (L := (max 1 2)) (h64.ext (e68.trans (g72.ext.trans e76))) (by omega)) (RatN.more (L := (max 1 2)) (h70.ext e76) (by omega))) rfl (by decide)
          refine sy_call 66 96 [.slice xq.a xq.n xq.c, .slice (some ⟨b74, 0, none⟩) 2 2] ?_
          intro w79 u79 e79 d79
          have k84 := k_r5Mul d79 (PolV.more (K' := 5) (hPq.ext (e62.trans (g66.ext.trans (e68.trans (g72.ext.trans (e76.trans e79)))))).raw (by omega)) (PolV.more (K' := 5) (hp78.ext e79).raw (by omega)) (Nat.le_trans (Nt.kk_mono (Nat.le_refl _) (Nat.mul_le_mul (show _ ≤ 12 by have h9 := hRm.1; omega) (Nat.le_refl _))) (show Nt.kk (5 + 5 + 3) (12 * 2) ≤ 20000000 by decide)) (by decide) (by decide) (by have h9 := hRm.1; omega) (show 2 ≤ 100000000 by decide)
          with_reducible refine Post.mono k84 ?_
          clear k84
          rintro _ u82 g83 ⟨y80, rfl, h81⟩
          refine sy_pure 5 (.v (.slice y80.a y80.n y80.c)) ?_
          refine sy_end ?_
          refine mp_seq ?_
          refine sw_reg ?_
          refine sy_pure 59 (.v (.int .i64 ((kk : Int) - 1))) ?_
          refine sy_eq 60 (x := .v (.int .i64 (IntKind.i64.wrap (((kk : Int) - 1) - 1)))) (.v (.int .i64 (((kk - 1 : Nat) : Int) - 1))) (eqI (by rw [IntWalk.i64_in _ (by omega)]; omega)) ?_
          refine sy_pure 12 (.v (.int .i64 (((kk - 1 : Nat) : Int) - 1))) ?_
          refine sy_end ?_
          have hRn : Nt.RSz (Nt.trimQ (Nt.mulQ pm [(-(Nt.cosQ (z43 : Int))), ((1 : Int) : Rat)])) (3 * (3 - k) + (z58 + 1 - (kk - 1))) := (Nt.RSz.lin hRm (Nt.cosQ_wh _)).more (by omega)
          refine ⟨_, ?_, St.of 81 [(4, .adr 15 0), (5, .v (.slice y80.a y80.n y80.c)), (6, .slc 54 0 1 c56), (7, .v (.int .i64 (k : Int))), (8, .adr 8 0), (12, .v (.int .i64 (((kk - 1 : Nat) : Int) - 1)))] [(8, ⟨26, r46.cs⟩), (15, ⟨100, [.slice x.a x.n x.c, .int .i64 (a58 : Int)]⟩), (54, ⟨26, rcs ([r46]) ++ X57⟩)], by exact weak_mk _ _ _, kk - 1, y80, (Nt.trimQ (Nt.mulQ pm [(-(Nt.cosQ (z43 : Int))), ((1 : Int) : Rat)])), rfl, by omega, hRn, (by rw [Nt.mk_lin, hMm, Nt.Pol.mul_assoc, ← Nt.Pol.npow_succ, show z58 + 1 - (kk - 1) = z58 + 1 - kk + 1 by omega]), rfl, (e60.trans (e62.trans (g66.ext.trans (e68.trans (g72.ext.trans (e76.trans (e79.trans g83.ext))))))), (PolN.fitRS h81 hRn (by omega))⟩
          omega
        · replace hb61 : (decide ((0 : Int) ≤ ((kk : Int) - 1))) = false := hb61
          have qhb61 := of_decide_eq_false hb61
          refine sw_exit ?_
          refine mp_seq ?_
          refine sw_reg ?_
          refine sy_pure 31 (.v (.int .i64 (k : Int))) ?_
          refine sy_eq 32 (x := .v (.int .i64 (IntKind.i64.wrap ((k : Int) - 1)))) (.v (.int .i64 ((k - 1 : Nat) : Int))) (eqI (by rw [IntWalk.i64_in _ (by omega)]; omega)) ?_
          refine sy_pure 7 (.v (.int .i64 ((k - 1 : Nat) : Int))) ?_
          refine sy_end ?_
          have hkk0 : kk = 0 := by omega
          have hMn : Nt.MadeF (Nt.Pol.mk' pm) [(Nt.cosQ (z43 : Int))] := by rw [hMm, hkk0, Nat.sub_zero]; exact Nt.MadeF.step hM hnin (by omega) (Nt.cosQ_wh _)
          refine ⟨_, ?_, St.of 81 [(4, .adr 15 0), (5, .v (.slice xq.a xq.n xq.c)), (6, .slc 54 0 1 c56), (7, .v (.int .i64 ((k - 1 : Nat) : Int)))] [(15, ⟨100, [.slice x.a x.n x.c, .int .i64 (a58 : Int)]⟩), (54, ⟨26, rcs ([r46]) ++ X57⟩)], by exact weak_mk _ _ _, .inr ⟨k - 1, xq, _, a58, ([r46]), X57, (1), c56, [(Nt.cosQ (z43 : Int))], rfl, by omega, ha58, (Nt.RSz.more hRm (by omega)), hMn, by simp, by omega, by omega, hc56, ha56, hb56, rfl, (e41.trans (e43.trans (e45.trans (g49.ext.trans (e53.trans (e58.trans e60)))))), hPq, (hRo57.ext (e58.trans e60))⟩⟩
          omega
      · replace hb42 : (decide ((0 : Int) < (k : Int))) = false := hb42
        have qhb42 := of_decide_eq_false hb42
        refine sw_exit ?_
        refine mp_seq ?_
        refine sw_seq ?_
        refine sw_seq ?_
        have hk0 : k = 0 := by omega
        refine sw_reg ?_
        refine sy_pure 67 (.adr 15 0) ?_
        have kc86 := fun (g : Nat) (w u1 : World) (e : Ext u41 u1) (d : Dat u1 w) (hg : w.heap[g]? = some (.cells (tpc x a9).toArray 100 (0, 0))) (hu : u1.heap[g]? = some hidO) => (show Calls Tryz.prog 119 (Value.pointer (some ⟨g, 0, none⟩) :: [.int .i64 2]).toArray w _ from k_tapeNext (m := 2) d hg hu (SlR.ext (hx.ext (e11.trans (e13.trans (g17.ext.trans (e21.trans (e24.trans (e27.trans (g31.ext.trans (e33.trans (g37.ext.trans (e39.trans e41))))))))))) e) hb ha9 (by decide) (by decide))
        refine sy_lendP 68 119 (t := 15) (V := ⟨100, [.slice x.a x.n x.c, .int .i64 (a9 : Int)]⟩) [.int .i64 2] (by kernel_rfl) kc86 ?_
        clear kc86
        rintro v85 V85 u85 e85 ⟨z85, a85, rfl, hz85, rfl, ha85⟩
        refine sy_pure 69 (.v (.bool ((z85 : Int) == 1))) ?_
        refine sy_next 81 [(4, .adr 15 0), (5, .v (.slice xp.a xp.n xp.c)), (6, .v (.slice none 0 0)), (69, .v (.bool ((z85 : Int) == 1)))] [(15, ⟨100, [.slice x.a x.n x.c, .int .i64 (a85 : Int)]⟩)] ?_
        refine sw_cond (b := (z85 : Int) == 1) (by kernel_rfl) (fun hb87 => ?_) (fun hb87 => ?_)
        · replace hb87 : ((z85 : Int) == 1) = true := hb87
          have qhb87 : (z85 : Int) = 1 := by simpa using hb87
          refine sw_reg ?_
          refine sy_pure 70 (.v (.slice xp.a xp.n xp.c)) ?_
          refine sy_pure 71 (.adr 15 0) ?_
          have kc89 := fun (g : Nat) (w u1 : World) (e : Ext u85 u1) (d : Dat u1 w) (hg : w.heap[g]? = some (.cells (tpc x a85).toArray 100 (0, 0))) (hu : u1.heap[g]? = some hidO) => (show Calls Tryz.prog 119 (Value.pointer (some ⟨g, 0, none⟩) :: [.int .i64 4]).toArray w _ from k_tapeNext (m := 4) d hg hu (SlR.ext (hx.ext (e11.trans (e13.trans (g17.ext.trans (e21.trans (e24.trans (e27.trans (g31.ext.trans (e33.trans (g37.ext.trans (e39.trans (e41.trans e85)))))))))))) e) hb ha85 (by decide) (by decide))
          refine sy_lendP 72 119 (t := 15) (V := ⟨100, [.slice x.a x.n x.c, .int .i64 (a85 : Int)]⟩) [.int .i64 4] (by kernel_rfl) kc89 ?_
          clear kc89
          rintro v88 V88 u88 e88 ⟨z88, a88, rfl, hz88, rfl, ha88⟩
          refine sy_eq 73 (x := .v (.int .i64 (IntKind.i64.wrap ((1 : Int) + (z88 : Int))))) (.v (.int .i64 ((1 + z88 : Nat) : Int))) (eqI (by rw [IntWalk.i64_in _ (by omega)]; omega)) ?_
          refine sy_call 74 49 [.int .i64 ((1 + z88 : Nat) : Int), .int .i64 16] ?_
          intro w90 u90 e90 d90
          have k95 := k_rqFrac d90 (a := ((1 + z88 : Nat) : Int)) (b := 16) (by omega) (by omega) (by omega) (by omega)
          with_reducible refine Post.mono k95 ?_
          clear k95
          rintro _ u93 g94 ⟨r91, rfl, h92⟩
          refine sy_call 75 41 [.int .i64 0] ?_
          intro w96 u96 e96 d96
          have k101 := k_rqOf d96 (z := 0) (by omega) (by omega)
          with_reducible refine Post.mono k101 ?_
          clear k101
          rintro _ u99 g100 ⟨r97, rfl, h98⟩
          refine sy_call 76 41 [.int .i64 1] ?_
          intro w102 u102 e102 d102
          have k107 := k_rqOf d102 (z := 1) (by omega) (by omega)
          with_reducible refine Post.mono k107 ?_
          clear k107
          rintro _ u105 g106 ⟨r103, rfl, h104⟩
          refine sy_data 77 ⟨26, r91.cs ++ r97.cs ++ r103.cs⟩ 3 (fun b108 u109 e110 h111 => ?_)
          have hp112 : PolN u109 (⟨some ⟨b108, 0, none⟩, 3, 3⟩ : Sl) [(((((1 + z88 : Nat) : Int) : Int) : Rat) / ((16 : Int) : Rat)), ((0 : Int) : Rat), ((1 : Int) : Rat)] (max (max 3 2) 2) := pol_lit (L := [r91, r97, r103]) h111 (rats3 (RatN.more (L := (max (max 3 2) 2)) (h92.ext (e96.trans (g100.ext.trans (e102.trans (g106.ext.trans e110))))) (by omega)) (RatN.more (L := (max (max 3 2) 2)) (h98.ext (e102.trans (g106.ext.trans e110))) (by omega)) (RatN.more (L := (max (max 3 2) 2)) (h104.ext e110) (by omega))) rfl (by decide)
          refine sy_call 78 96 [.slice xp.a xp.n xp.c, .slice (some ⟨b108, 0, none⟩) 3 3] ?_
          intro w113 u113 e113 d113
          have k118 := k_r5Mul d113 (PolV.more (K' := 5) (hP9.ext (e85.trans (e88.trans (e90.trans (g94.ext.trans (e96.trans (g100.ext.trans (e102.trans (g106.ext.trans (e110.trans e113)))))))))).raw (by omega)) (PolV.more (K' := 5) (hp112.ext e113).raw (by omega)) (Nat.le_trans (Nt.kk_mono (Nat.le_refl _) (Nat.mul_le_mul (show _ ≤ 12 by have h9 := hRz.1; omega) (Nat.le_refl _))) (show Nt.kk (5 + 5 + 3) (12 * 3) ≤ 20000000 by decide)) (by decide) (by decide) (by have h9 := hRz.1; omega) (show 3 ≤ 100000000 by decide)
          with_reducible refine Post.mono k118 ?_
          clear k118
          rintro _ u116 g117 ⟨y114, rfl, h115⟩
          refine sy_pure 5 (.v (.slice y114.a y114.n y114.c)) ?_
          refine sy_next 81 [(5, .v (.slice y114.a y114.n y114.c)), (6, .v (.slice none 0 0))] [] ?_
          refine sw_seq ?_
          refine sw_reg ?_
          refine sy_pure 79 (.v (.slice y114.a y114.n y114.c)) ?_
          refine sy_pure 80 (.v (.slice none 0 0)) ?_
          refine sy_pure 2 (.v (.slice y114.a y114.n y114.c)) ?_
          refine sy_pure 3 (.v (.slice none 0 0)) ?_
          refine sy_next 81 [(2, .v (.slice y114.a y114.n y114.c)), (3, .v (.slice none 0 0))] [] ?_
          refine sw_ret (ret0 [.slice y114.a y114.n y114.c, .slice none 0 0] ⟨res_tmp, res_tmp, trivial⟩ fun u119 e120 => ?_)
          have hfin : Nt.RFin (Nt.trimQ (Nt.mulQ pl [(((((1 + z88 : Nat) : Int) : Int) : Rat) / ((16 : Int) : Rat)), ((0 : Int) : Rat), ((1 : Int) : Rat)])) := (Nt.RSz.quad (hRz.more (by omega)) (Nt.quad_wh hz88))
          have hro : Nt.RootsP (Nt.trimQ (Nt.mulQ pl [(((((1 + z88 : Nat) : Int) : Int) : Rat) / ((16 : Int) : Rat)), ((0 : Int) : Rat), ((1 : Int) : Rat)])) [] := ⟨_, _, hM, by rw [Nt.mk_trim, Nt.Pol.mk_mul], (by decide), .inr ⟨_, Nt.quad_pos z88, Nt.quad_wh hz88, rfl⟩⟩
          exact ⟨y114, ⟨none, 0, 0⟩, _, [], rfl, PolN.fitRF (h115.ext e120) hfin, (pol_nil _ 1), hfin, hro⟩
        · replace hb87 : ((z85 : Int) == 1) = false := hb87
          have qhb87 : ¬ ((z85 : Int) = 1) := by simpa using hb87
          refine sw_skip (mp_seq ?_)
          refine sw_seq ?_
          refine sw_reg ?_
          refine sy_pure 79 (.v (.slice xp.a xp.n xp.c)) ?_
          refine sy_pure 80 (.v (.slice none 0 0)) ?_
          refine sy_pure 2 (.v (.slice xp.a xp.n xp.c)) ?_
          refine sy_pure 3 (.v (.slice none 0 0)) ?_
          refine sy_next 81 [(2, .v (.slice xp.a xp.n xp.c)), (3, .v (.slice none 0 0))] [] ?_
          refine sw_ret (ret0 [.slice xp.a xp.n xp.c, .slice none 0 0] ⟨res_tmp, res_tmp, trivial⟩ fun u121 e122 => ?_)
          have hfin : Nt.RFin pl := (Nt.RSz.fin (hRz.more (by omega)))
          have hro : Nt.RootsP pl [] := ⟨_, 1, hM, (Nt.Pol.mul_one _).symm, (by decide), .inl rfl⟩
          exact ⟨xp, ⟨none, 0, 0⟩, _, [], rfl, PolN.fitRF (hP9.ext (e85.trans e122)) hfin, (pol_nil _ 1), hfin, hro⟩
    · change SW _ _ _ _ (St.of 81 [(4, .adr 15 0), (5, .v (.slice xp.a xp.n xp.c)), (6, .slc 54 0 n9 cp), (7, .v (.int .i64 (k : Int)))] [(15, ⟨100, [.slice x.a x.n x.c, .int .i64 (a9 : Int)]⟩), (54, ⟨26, rcs L ++ X⟩)]) _ _
      have hmx8 := hmx9
      unfold maxLen at hmx8
      have hrl := hRo.1
      have hlp := hP9.len
      refine sw_seq ?_
      refine sw_seq ?_
      refine sw_reg ?_
      refine sy_pure 29 (.v (.int .i64 (k : Int))) ?_
      refine sy_pure 30 (.v (.bool (decide ((0 : Int) < (k : Int))))) ?_
      refine sy_next 81 [(4, .adr 15 0), (5, .v (.slice xp.a xp.n xp.c)), (6, .slc 54 0 n9 cp), (7, .v (.int .i64 (k : Int))), (30, .v (.bool (decide ((0 : Int) < (k : Int)))))] [(15, ⟨100, [.slice x.a x.n x.c, .int .i64 (a9 : Int)]⟩), (54, ⟨26, rcs L ++ X⟩)] ?_
      refine sw_cond (b := decide ((0 : Int) < (k : Int))) (by kernel_rfl) (fun hb123 => ?_) (fun hb123 => ?_)
      · replace hb123 : (decide ((0 : Int) < (k : Int))) = true := hb123
        have qhb123 := of_decide_eq_true hb123
        refine sw_skip (mp_seq ?_)
        refine sw_seq ?_
        refine sw_block ?_
        refine sw_seq ?_
        refine sw_reg ?_
        refine sy_pure 33 (.adr 15 0) ?_
        have kc125 := fun (g : Nat) (w u1 : World) (e : Ext u41 u1) (d : Dat u1 w) (hg : w.heap[g]? = some (.cells (tpc x a9).toArray 100 (0, 0))) (hu : u1.heap[g]? = some hidO) => (show Calls Tryz.prog 119 (Value.pointer (some ⟨g, 0, none⟩) :: [.int .i64 25]).toArray w _ from k_tapeNext (m := 25) d hg hu (SlR.ext (hx.ext (e11.trans (e13.trans (g17.ext.trans (e21.trans (e24.trans (e27.trans (g31.ext.trans (e33.trans (g37.ext.trans (e39.trans e41))))))))))) e) hb ha9 (by decide) (by decide))
        refine sy_lendP 34 119 (t := 15) (V := ⟨100, [.slice x.a x.n x.c, .int .i64 (a9 : Int)]⟩) [.int .i64 25] (by kernel_rfl) kc125 ?_
        clear kc125
        rintro v124 V124 u124 e124 ⟨z124, a124, rfl, hz124, rfl, ha124⟩
        refine sy_call 35 120 [.int .i64 (z124 : Int)] ?_
        intro w126 u126 e126 d126
        have k131 := k_cos d126 (n := (z124 : Int)) (by omega) (by omega)
        with_reducible refine Post.mono k131 ?_
        clear k131
        rintro _ u129 g130 ⟨r127, rfl, h128⟩
        refine sy_new 8 ⟨26, [.bool false, .slice none 0 0, .slice none 0 0]⟩ ?_
        refine sy_store ⟨26, r127.cs⟩ ty26 ?_
        refine sy_next 81 [(4, .adr 15 0), (5, .v (.slice xp.a xp.n xp.c)), (6, .slc 54 0 n9 cp), (7, .v (.int .i64 (k : Int))), (8, .adr 8 0)] [(8, ⟨26, r127.cs⟩), (15, ⟨100, [.slice x.a x.n x.c, .int .i64 (a124 : Int)]⟩), (54, ⟨26, rcs L ++ X⟩)] ?_
        refine sw_seq ?_
        refine sw_reg ?_
        refine sy_pure 9 (.v (.bool false)) ?_
        refine sy_next 81 [(4, .adr 15 0), (5, .v (.slice xp.a xp.n xp.c)), (6, .slc 54 0 n9 cp), (7, .v (.int .i64 (k : Int))), (8, .adr 8 0), (9, .v (.bool false))] [(8, ⟨26, r127.cs⟩), (15, ⟨100, [.slice x.a x.n x.c, .int .i64 (a124 : Int)]⟩), (54, ⟨26, rcs L ++ X⟩)] ?_
        refine sw_seq ?_
        refine sw_seq ?_
        refine sw_reg ?_
        refine sy_pure 36 (.slc 54 0 n9 cp) ?_
        refine sy_pure 37 (.v (.int .i64 (n9 : Int))) ?_
        refine sy_pure 38 (.v (.int .i64 0)) ?_
        refine sy_next 81 [(4, .adr 15 0), (5, .v (.slice xp.a xp.n xp.c)), (6, .slc 54 0 n9 cp), (7, .v (.int .i64 (k : Int))), (8, .adr 8 0), (9, .v (.bool false)), (36, .slc 54 0 n9 cp), (37, .v (.int .i64 (n9 : Int))), (38, .v (.int .i64 0))] [(8, ⟨26, r127.cs⟩), (15, ⟨100, [.slice x.a x.n x.c, .int .i64 (a124 : Int)]⟩), (54, ⟨26, rcs L ++ X⟩)] ?_
        refine sw_block ?_
        refine sw_loop (I := fun m132 S' u' => ∃ (q : Nat) (bb : Bool), (m132 = n9 - q) ∧ (q ≤ n9) ∧ (bb = false → ∀ j, j < q → rs.getD j 0 ≠ (Nt.cosQ (z124 : Int))) ∧ (S' = St.of 81 [(4, .adr 15 0), (5, .v (.slice xp.a xp.n xp.c)), (6, .slc 54 0 n9 cp), (7, .v (.int .i64 (k : Int))), (8, .adr 8 0), (9, .v (.bool bb)), (36, .slc 54 0 n9 cp), (37, .v (.int .i64 (n9 : Int))), (38, .v (.int .i64 (q : Int)))] [(8, ⟨26, r127.cs⟩), (15, ⟨100, [.slice x.a x.n x.c, .int .i64 (a124 : Int)]⟩), (54, ⟨26, rcs L ++ X⟩)]) ∧ (Ext u129 u')) (fun m S u1 u2 e h => by obtain ⟨q, bb, hm, p0, p1, hS, hE⟩ := h; exact ⟨q, bb, hm, p0, p1, hS, hE.trans e⟩) _ (T := St.of 81 [(4, .adr 15 0), (5, .v (.slice xp.a xp.n xp.c)), (6, .slc 54 0 n9 cp), (7, .v (.int .i64 (k : Int))), (8, .adr 8 0), (9, .v (.bool false)), (36, .slc 54 0 n9 cp), (37, .v (.int .i64 (n9 : Int))), (38, .v (.int .i64 0))] [(8, ⟨26, r127.cs⟩), (15, ⟨100, [.slice x.a x.n x.c, .int .i64 (a124 : Int)]⟩), (54, ⟨26, rcs L ++ X⟩)]) (by exact weak_mk _ _ _) ⟨0, false, rfl, by omega, (fun _ j hj => absurd hj (Nat.not_lt_zero j)), rfl, Ext.refl _⟩ ?_
        rintro m132 _ u132 ⟨q, bb, hm132, hq, hbb, rfl, e132⟩
        refine sw_seq ?_
        refine sw_reg ?_
        refine sy_pure 39 (.v (.bool (decide ((q : Int) < (n9 : Int))))) ?_
        refine sy_next 81 [(4, .adr 15 0), (5, .v (.slice xp.a xp.n xp.c)), (6, .slc 54 0 n9 cp), (7, .v (.int .i64 (k : Int))), (8, .adr 8 0), (9, .v (.bool bb)), (36, .slc 54 0 n9 cp), (37, .v (.int .i64 (n9 : Int))), (38, .v (.int .i64 (q : Int))), (39, .v (.bool (decide ((q : Int) < (n9 : Int)))))] [(8, ⟨26, r127.cs⟩), (15, ⟨100, [.slice x.a x.n x.c, .int .i64 (a124 : Int)]⟩), (54, ⟨26, rcs L ++ X⟩)] ?_
        refine sw_seq ?_
        refine sw_cond (b := decide ((q : Int) < (n9 : Int))) (by kernel_rfl) (fun hb133 => ?_) (fun hb133 => ?_)
        · replace hb133 : (decide ((q : Int) < (n9 : Int))) = true := hb133
          have qhb133 := of_decide_eq_true hb133
          refine sw_skip (mp_seq ?_)
          refine sw_seq ?_
          refine sw_block ?_
          refine sw_seq ?_
          refine sw_reg ?_
          refine sy_idxO 40 (off' := q * 3) (n := n9) (off := 0) (sz := 3) (i := (q : Int)) sl40 (by omega) (by omega) (by omega) ?_
          obtain ⟨r134, hrr134⟩ : ∃ r : RL, (L).getD q rl0 = r := ⟨_, rfl⟩
          refine sy_ldv 41 (V := ⟨26, rcs L ++ X⟩) (off := q * 3) (.v r134.v) ty26 (by have h9 := part_rcsX (X := X) (L := L) (i := q) (off := q * 3) (by first | omega | (simp; omega)) rfl; rw [hrr134] at h9; exact h9) ?_
          have h135 := (hRo.ext (e124.trans (e126.trans (g130.ext.trans e132)))).2 q (by first | omega | (simp; omega))
          rw [hrr134] at h135
          refine sy_new 11 ⟨26, [.bool false, .slice none 0 0, .slice none 0 0]⟩ ?_
          refine sy_store ⟨26, r134.cs⟩ ty26 ?_
          refine sy_next 81 [(4, .adr 15 0), (5, .v (.slice xp.a xp.n xp.c)), (6, .slc 54 0 n9 cp), (7, .v (.int .i64 (k : Int))), (8, .adr 8 0), (9, .v (.bool bb)), (11, .adr 11 0), (36, .slc 54 0 n9 cp), (37, .v (.int .i64 (n9 : Int))), (38, .v (.int .i64 (q : Int)))] [(8, ⟨26, r127.cs⟩), (11, ⟨26, r134.cs⟩), (15, ⟨100, [.slice x.a x.n x.c, .int .i64 (a124 : Int)]⟩), (54, ⟨26, rcs L ++ X⟩)] ?_
          refine sw_reg ?_
          refine sy_pure 42 (.v (.bool bb)) ?_
          rcases Bool.eq_false_or_eq_true bb with hs136 | hs136
          · refine sy_eq 43 (x := .v (.bool bb)) (.v (.bool true)) (by rw [hs136]) ?_
            refine sy_drop 44 (unwanted (g := 1) (b := false) (c := true) (t := 43) (by kernel_rfl) (by kernel_rfl) (by kernel_rfl) (by kernel_rfl)) ?_
            refine sy_drop 45 (unwanted (g := 1) (b := false) (c := true) (t := 43) (by kernel_rfl) (by kernel_rfl) (by kernel_rfl) (by kernel_rfl)) ?_
            refine sy_drop 46 (unwanted (g := 1) (b := false) (c := true) (t := 43) (by kernel_rfl) (by kernel_rfl) (by kernel_rfl) (by kernel_rfl)) ?_
            refine sy_drop 47 (unwanted (g := 1) (b := false) (c := true) (t := 43) (by kernel_rfl) (by kernel_rfl) (by kernel_rfl) (by kernel_rfl)) ?_
            refine sy_pure 48 (.v (.bool true)) ?_
            refine sy_pure 9 (.v (.bool true)) ?_
            refine sy_end ?_
            refine mp_seq ?_
            refine sw_reg ?_
            refine sy_eq 49 (x := .v (.int .i64 (IntKind.i64.wrap ((q : Int) + 1)))) (.v (.int .i64 ((q + 1 : Nat) : Int))) (eqI (by rw [IntWalk.i64_in _ (by omega)]; omega)) ?_
            refine sy_pure 38 (.v (.int .i64 ((q + 1 : Nat) : Int))) ?_
            refine sy_end ?_
            refine ⟨_, ?_, St.of 81 [(4, .adr 15 0), (5, .v (.slice xp.a xp.n xp.c)), (6, .slc 54 0 n9 cp), (7, .v (.int .i64 (k : Int))), (8, .adr 8 0), (9, .v (.bool true)), (36, .slc 54 0 n9 cp), (37, .v (.int .i64 (n9 : Int))), (38, .v (.int .i64 ((q + 1 : Nat) : Int)))] [(8, ⟨26, r127.cs⟩), (15, ⟨100, [.slice x.a x.n x.c, .int .i64 (a124 : Int)]⟩), (54, ⟨26, rcs L ++ X⟩)], by exact weak_mk _ _ _, q + 1, true, rfl, by omega, (fun h => absurd h (by decide)), rfl, e132⟩
            omega
          · refine sy_eq 43 (x := .v (.bool bb)) (.v (.bool false)) (by rw [hs136]) ?_
            refine sy_ldv 44 (.v (r127.v)) ty26 part_agg ?_ (hw := wants1 (g := 1) (b := false) (t := 43) (by kernel_rfl) (by kernel_rfl) (by kernel_rfl))
            refine sy_ldv 45 (.v (r134.v)) ty26 part_agg ?_ (hw := wants1 (g := 1) (b := false) (t := 43) (by kernel_rfl) (by kernel_rfl) (by kernel_rfl))
            refine sy_call 46 40 [r127.v, r134.v] ?_ (hw := wants1 (g := 1) (b := false) (t := 43) (by kernel_rfl) (by kernel_rfl) (by kernel_rfl))
            intro w137 u137 e137 d137
            have k140 := k_rqCompare d137 (h128.ext (e132.trans e137)).raw (h135.ext e137).raw (by omega) (by omega)
            with_reducible refine Post.mono k140 ?_
            clear k140
            rintro _ u138 g139 rfl
            refine sy_pure 47 (.v (.bool ((Nt.cmpQ (Nt.cosQ (z124 : Int)) (rs.getD q 0)) == 0))) ?_ (hw := wants1 (g := 1) (b := false) (t := 43) (by kernel_rfl) (by kernel_rfl) (by kernel_rfl))
            refine sy_pure 48 (.v (.bool ((Nt.cmpQ (Nt.cosQ (z124 : Int)) (rs.getD q 0)) == 0))) ?_
            refine sy_pure 9 (.v (.bool ((Nt.cmpQ (Nt.cosQ (z124 : Int)) (rs.getD q 0)) == 0))) ?_
            refine sy_end ?_
            refine mp_seq ?_
            refine sw_reg ?_
            refine sy_eq 49 (x := .v (.int .i64 (IntKind.i64.wrap ((q : Int) + 1)))) (.v (.int .i64 ((q + 1 : Nat) : Int))) (eqI (by rw [IntWalk.i64_in _ (by omega)]; omega)) ?_
            refine sy_pure 38 (.v (.int .i64 ((q + 1 : Nat) : Int))) ?_
            refine sy_end ?_
            refine ⟨_, ?_, St.of 81 [(4, .adr 15 0), (5, .v (.slice xp.a xp.n xp.c)), (6, .slc 54 0 n9 cp), (7, .v (.int .i64 (k : Int))), (8, .adr 8 0), (9, .v (.bool ((Nt.cmpQ (Nt.cosQ (z124 : Int)) (rs.getD q 0)) == 0))), (36, .slc 54 0 n9 cp), (37, .v (.int .i64 (n9 : Int))), (38, .v (.int .i64 ((q + 1 : Nat) : Int)))] [(8, ⟨26, r127.cs⟩), (15, ⟨100, [.slice x.a x.n x.c, .int .i64 (a124 : Int)]⟩), (54, ⟨26, rcs L ++ X⟩)], by exact weak_mk _ _ _, q + 1, (Nt.cmpQ (Nt.cosQ (z124 : Int)) (rs.getD q 0)) == 0, rfl, by omega, (fun h j hj => by by_cases e : j = q; (rw [e]; intro e2; rw [Nt.cmpQ_eq] at h; exact absurd e2.symm (of_decide_eq_false h)); exact hbb hs136 j (by omega)), rfl, (e132.trans (e137.trans g139.ext))⟩
            omega
        · replace hb133 : (decide ((q : Int) < (n9 : Int))) = false := hb133
          have qhb133 := of_decide_eq_false hb133
          refine sw_exit ?_
          refine mp_seq ?_
          refine sw_seq ?_
          refine sw_seq ?_
          refine sw_reg ?_
          refine sy_pure 50 (.v (.bool bb)) ?_
          refine sy_next 81 [(4, .adr 15 0), (5, .v (.slice xp.a xp.n xp.c)), (6, .slc 54 0 n9 cp), (7, .v (.int .i64 (k : Int))), (8, .adr 8 0), (50, .v (.bool bb))] [(8, ⟨26, r127.cs⟩), (15, ⟨100, [.slice x.a x.n x.c, .int .i64 (a124 : Int)]⟩), (54, ⟨26, rcs L ++ X⟩)] ?_
          refine sw_cond (b := bb) (by kernel_rfl) (fun hb141 => ?_) (fun hb141 => ?_)
          · replace hb141 : bb = true := hb141
            refine sw_exit ?_
            refine mp_seq ?_
            refine sw_reg ?_
            refine sy_pure 31 (.v (.int .i64 (k : Int))) ?_
            refine sy_eq 32 (x := .v (.int .i64 (IntKind.i64.wrap ((k : Int) - 1)))) (.v (.int .i64 ((k - 1 : Nat) : Int))) (eqI (by rw [IntWalk.i64_in _ (by omega)]; omega)) ?_
            refine sy_pure 7 (.v (.int .i64 ((k - 1 : Nat) : Int))) ?_
            refine sy_end ?_
            refine ⟨_, ?_, St.of 81 [(4, .adr 15 0), (5, .v (.slice xp.a xp.n xp.c)), (6, .slc 54 0 n9 cp), (7, .v (.int .i64 ((k - 1 : Nat) : Int)))] [(15, ⟨100, [.slice x.a x.n x.c, .int .i64 (a124 : Int)]⟩), (54, ⟨26, rcs L ++ X⟩)], by exact weak_mk _ _ _, .inr ⟨k - 1, xp, _, a124, L, X, n9, cp, rs, rfl, by omega, ha124, (Nt.RSz.more hRz (by omega)), hM, hL9, hn0, by omega, hc9, hle9, hmx9, rfl, (e41.trans (e124.trans (e126.trans (g130.ext.trans e132)))), (hP9.ext (e124.trans (e126.trans (g130.ext.trans e132)))), (hRo.ext (e124.trans (e126.trans (g130.ext.trans e132))))⟩⟩
            omega
          · replace hb141 : bb = false := hb141
            refine sw_skip (mp_seq ?_)
            refine sw_seq ?_
            have hnin : (Nt.cosQ (z124 : Int)) ∉ rs := Nt.notin_of (fun j hj => hbb hb141 j (by omega))
            have ht9 : (rcs L ++ X).take (n9 * 3) = rcs L := by rw [← hL9, ← rcs_len, List.take_left]
            refine sw_reg ?_
            refine sy_pure 51 (.slc 54 0 n9 cp) ?_
            refine sy_ldv 52 (.v (r127.v)) ty26 part_agg ?_
            refine sy_data 53 ⟨26, r127.cs⟩ 1 (fun b142 u143 e144 h145 => ?_)
            have hp146 : PolN u143 (⟨some ⟨b142, 0, none⟩, 1, 1⟩ : Sl) [(Nt.cosQ (z124 : Int))] 1 := pol_lit (L := [r127]) h145 (rats1 (h128.ext (e132.trans e144))) rfl (by decide)
            refine sy_app1 54 (T := 40) (E := 26) (z := .agg #[.bool false, .slice none 0 0, .slice none 0 0]) (size := 3) (bytes := 56) (b := b142) (off := 0) (m := 1) (n := n9) (cap := cp) (t := 54) (cs0 := (rcs L ++ X)) [6, 51, 54] r127.cs (by kernel_rfl) (by kernel_rfl) (by kernel_rfl) (by decide) rfl (lit_news ((Ext.refl _).cells h145)) (rl_one r127) (by decide) (by unfold maxLen; omega) (by omega) (by omega) (by omega) (by omega) (by repeat first | exact noAt_of | refine noAt_set ?_ | refine noAt_lit ?_ | refine noAt_new ?_ | refine noAt_setVar ?_ | refine noAt_unpub ?_) ?_
            intro c147 cs147 ha147 hb147 hc147 hd147
            have hd147r : cs147.take ((n9 + 1) * 3) = rcs (L ++ [r127]) := by rw [hd147, ht9, rcs_app]; rfl
            refine sy_pure 6 (.slc 54 0 (n9 + 1) c147) ?_
            refine sy_next 81 [(4, .adr 15 0), (5, .v (.slice xp.a xp.n xp.c)), (6, .slc 54 0 (n9 + 1) c147), (7, .v (.int .i64 (k : Int))), (8, .adr 8 0)] [(8, ⟨26, r127.cs⟩), (15, ⟨100, [.slice x.a x.n x.c, .int .i64 (a124 : Int)]⟩), (54, ⟨26, cs147⟩)] ?_
            refine sw_seq ?_
            obtain ⟨X148, hX148⟩ := spare_of (n := n9 + 1) (L := L ++ [r127]) hd147r
            subst hX148
            have hRo148 : RatsN u143 (L ++ [r127]) (rs ++ [(Nt.cosQ (z124 : Int))]) 1 := RatsN.snoc (hRo.ext (e124.trans (e126.trans (g130.ext.trans (e132.trans e144))))) (h128.ext (e132.trans e144))
            refine sw_reg ?_
            refine sy_pure 55 (.adr 15 0) ?_
            have kc150 := fun (g : Nat) (w u1 : World) (e : Ext u143 u1) (d : Dat u1 w) (hg : w.heap[g]? = some (.cells (tpc x a124).toArray 100 (0, 0))) (hu : u1.heap[g]? = some hidO) => (show Calls Tryz.prog 119 (Value.pointer (some ⟨g, 0, none⟩) :: [.int .i64 3]).toArray w _ from k_tapeNext (m := 3) d hg hu (SlR.ext (hx.ext (e11.trans (e13.trans (g17.ext.trans (e21.trans (e24.trans (e27.trans (g31.ext.trans (e33.trans (g37.ext.trans (e39.trans (e41.trans (e124.trans (e126.trans (g130.ext.trans (e132.trans e144)))))))))))))))) e) hb ha124 (by decide) (by decide))
            refine sy_lendP 56 119 (t := 15) (V := ⟨100, [.slice x.a x.n x.c, .int .i64 (a124 : Int)]⟩) [.int .i64 3] (by kernel_rfl) kc150 ?_
            clear kc150
            rintro v149 V149 u149 e149 ⟨z149, a149, rfl, hz149, rfl, ha149⟩
            refine sy_eq 12 (x := .v (.int .i64 ((z149 : Int)))) (.v (.int .i64 (((z149 + 1 : Nat) : Int) - 1))) (eqI (by omega)) ?_
            refine sy_next 81 [(4, .adr 15 0), (5, .v (.slice xp.a xp.n xp.c)), (6, .slc 54 0 (n9 + 1) c147), (7, .v (.int .i64 (k : Int))), (8, .adr 8 0), (12, .v (.int .i64 (((z149 + 1 : Nat) : Int) - 1)))] [(8, ⟨26, r127.cs⟩), (15, ⟨100, [.slice x.a x.n x.c, .int .i64 (a149 : Int)]⟩), (54, ⟨26, rcs (L ++ [r127]) ++ X148⟩)] ?_
            refine sw_block ?_
            refine sw_loop (I := fun m151 S' u' => ∃ (kk : Nat) (xq : Sl) (pm : List Rat), (m151 = kk) ∧ (kk ≤ z149 + 1) ∧ (Nt.RSz pm (3 * (3 - k) + (z149 + 1 - kk))) ∧ (Nt.Pol.mk' pm = Nt.Pol.mk' pl * Nt.Pol.npow (Nt.lin (Nt.cosQ (z124 : Int))) (z149 + 1 - kk)) ∧ (S' = St.of 81 [(4, .adr 15 0), (5, .v (.slice xq.a xq.n xq.c)), (6, .slc 54 0 (n9 + 1) c147), (7, .v (.int .i64 (k : Int))), (8, .adr 8 0), (12, .v (.int .i64 ((kk : Int) - 1)))] [(8, ⟨26, r127.cs⟩), (15, ⟨100, [.slice x.a x.n x.c, .int .i64 (a149 : Int)]⟩), (54, ⟨26, rcs (L ++ [r127]) ++ X148⟩)]) ∧ (Ext u149 u') ∧ (PolN u' xq pm 2)) (fun m S u1 u2 e h => by obtain ⟨kk, xq, pm, hm, p0, p1, p2, hS, hE, f0⟩ := h; exact ⟨kk, xq, pm, hm, p0, p1, p2, hS, hE.trans e, f0.ext e⟩) _ (T := St.of 81 [(4, .adr 15 0), (5, .v (.slice xp.a xp.n xp.c)), (6, .slc 54 0 (n9 + 1) c147), (7, .v (.int .i64 (k : Int))), (8, .adr 8 0), (12, .v (.int .i64 (((z149 + 1 : Nat) : Int) - 1)))] [(8, ⟨26, r127.cs⟩), (15, ⟨100, [.slice x.a x.n x.c, .int .i64 (a149 : Int)]⟩), (54, ⟨26, rcs (L ++ [r127]) ++ X148⟩)]) (by exact weak_mk _ _ _) ⟨z149 + 1, xp, pl, rfl, by omega, (by rw [Nat.sub_self]; exact hRz), (by rw [Nat.sub_self, Nt.Pol.npow_zero, Nt.Pol.mul_one]), rfl, Ext.refl _, (hP9.ext (e124.trans (e126.trans (g130.ext.trans (e132.trans (e144.trans e149))))))⟩ ?_
            rintro m151 _ u151 ⟨kk, xq, pm, hm151, hkk, hRm, hMm, rfl, e151, hPq⟩
            have hlq := hPq.len
            have hzz := hz149
            refine sw_seq ?_
            refine sw_seq ?_
            refine sw_reg ?_
            refine sy_pure 57 (.v (.int .i64 ((kk : Int) - 1))) ?_
            refine sy_pure 58 (.v (.bool (decide ((0 : Int) ≤ ((kk : Int) - 1))))) ?_
            refine sy_next 81 [(4, .adr 15 0), (5, .v (.slice xq.a xq.n xq.c)), (6, .slc 54 0 (n9 + 1) c147), (7, .v (.int .i64 (k : Int))), (8, .adr 8 0), (12, .v (.int .i64 ((kk : Int) - 1))), (58, .v (.bool (decide ((0 : Int) ≤ ((kk : Int) - 1)))))] [(8, ⟨26, r127.cs⟩), (15, ⟨100, [.slice x.a x.n x.c, .int .i64 (a149 : Int)]⟩), (54, ⟨26, rcs (L ++ [r127]) ++ X148⟩)] ?_
            refine sw_cond (b := decide ((0 : Int) ≤ ((kk : Int) - 1))) (by kernel_rfl) (fun hb152 => ?_) (fun hb152 => ?_)
            · replace hb152 : (decide ((0 : Int) ≤ ((kk : Int) - 1))) = true := hb152
              have qhb152 := of_decide_eq_true hb152
              refine sw_skip (mp_seq ?_)
              refine sw_seq ?_
              refine sw_block ?_
              refine sw_reg ?_
              refine sy_pure 61 (.v (.slice xq.a xq.n xq.c)) ?_
              refine sy_ldv 62 (.v (r127.v)) ty26 part_agg ?_
              refine sy_call 63 110 [r127.v] ?_
              intro w153 u153 e153 d153
              have k158 := k_rqNeg d153 (h128.ext (e132.trans (e144.trans (e149.trans (e151.trans e153))))).raw (by omega)
              with_reducible refine Post.mono k158 ?_
              clear k158
              rintro _ u156 g157 ⟨r154, rfl, h155⟩
              refine sy_call 64 41 [.int .i64 1] ?_
              intro w159 u159 e159 d159
              have k164 := k_rqOf d159 (z := 1) (by omega) (by omega)
              with_reducible refine Post.mono k164 ?_
              clear k164
              rintro _ u162 g163 ⟨r160, rfl, h161⟩
              refine sy_data 65 ⟨26, r154.cs ++ r160.cs⟩ 2 (fun b165 u166 e167 h168 => ?_)
              have hp169 : PolN u166 (⟨some ⟨b165, 0, none⟩, 2, 2⟩ : Sl) [(-(Nt.cosQ (z124 : Int))), ((1 : Int) : Rat)] (max 1 2) := pol_lit (L := [r154, r160]) h168 (rats2 (RatN.more (L := (max 1 2)) (h155.ext (e159.trans (g163.ext.trans e167))) (by omega)) (RatN.more (L := (max 1 2)) (h161.ext e167) (by omega))) rfl (by decide)
              refine sy_call 66 96 [.slice xq.a xq.n xq.c, .slice (some ⟨b165, 0, none⟩) 2 2] ?_
              intro w170 u170 e170 d170
              have k175 := k_r5Mul d170 (PolV.more (K' := 5) (hPq.ext (e153.trans (g157.ext.trans (e159.trans (g163.ext.trans (e167.trans e170)))))).raw (by omega)) (PolV.more (K' := 5) (hp169.ext e170).raw (by omega)) (Nat.le_trans (Nt.kk_mono (Nat.le_refl _) (Nat.mul_le_mul (show _ ≤ 12 by have h9 := hRm.1; omega) (Nat.le_refl _))) (show Nt.kk (5 + 5 + 3) (12 * 2) ≤ 20000000 by decide)) (by decide) (by decide) (by have h9 := hRm.1; omega) (show 2 ≤ 100000000 by decide)
              with_reducible refine Post.mono k175 ?_
              clear k175
              rintro _ u173 g174 ⟨y171, rfl, h172⟩
              refine sy_pure 5 (.v (.slice y171.a y171.n y171.c)) ?_
              refine sy_end ?_
              refine mp_seq ?_
              refine sw_reg ?_
              refine sy_pure 59 (.v (.int .i64 ((kk : Int) - 1))) ?_
              refine sy_eq 60 (x := .v (.int .i64 (IntKind.i64.wrap (((kk : Int) - 1) - 1)))) (.v (.int .i64 (((kk - 1 : Nat) : Int) - 1))) (eqI (by rw [IntWalk.i64_in _ (by omega)]; omega)) ?_
              refine sy_pure 12 (.v (.int .i64 (((kk - 1 : Nat) : Int) - 1))) ?_
              refine sy_end ?_
              have hRn : Nt.RSz (Nt.trimQ (Nt.mulQ pm [(-(Nt.cosQ (z124 : Int))), ((1 : Int) : Rat)])) (3 * (3 - k) + (z149 + 1 - (kk - 1))) := (Nt.RSz.lin hRm (Nt.cosQ_wh _)).more (by omega)
              refine ⟨_, ?_, St.of 81 [(4, .adr 15 0), (5, .v (.slice y171.a y171.n y171.c)), (6, .slc 54 0 (n9 + 1) c147), (7, .v (.int .i64 (k : Int))), (8, .adr 8 0), (12, .v (.int .i64 (((kk - 1 : Nat) : Int) - 1)))] [(8, ⟨26, r127.cs⟩), (15, ⟨100, [.slice x.a x.n x.c, .int .i64 (a149 : Int)]⟩), (54, ⟨26, rcs (L ++ [r127]) ++ X148⟩)], by exact weak_mk _ _ _, kk - 1, y171, (Nt.trimQ (Nt.mulQ pm [(-(Nt.cosQ (z124 : Int))), ((1 : Int) : Rat)])), rfl, by omega, hRn, (by rw [Nt.mk_lin, hMm, Nt.Pol.mul_assoc, ← Nt.Pol.npow_succ, show z149 + 1 - (kk - 1) = z149 + 1 - kk + 1 by omega]), rfl, (e151.trans (e153.trans (g157.ext.trans (e159.trans (g163.ext.trans (e167.trans (e170.trans g174.ext))))))), (PolN.fitRS h172 hRn (by omega))⟩
              omega
            · replace hb152 : (decide ((0 : Int) ≤ ((kk : Int) - 1))) = false := hb152
              have qhb152 := of_decide_eq_false hb152
              refine sw_exit ?_
              refine mp_seq ?_
              refine sw_reg ?_
              refine sy_pure 31 (.v (.int .i64 (k : Int))) ?_
              refine sy_eq 32 (x := .v (.int .i64 (IntKind.i64.wrap ((k : Int) - 1)))) (.v (.int .i64 ((k - 1 : Nat) : Int))) (eqI (by rw [IntWalk.i64_in _ (by omega)]; omega)) ?_
              refine sy_pure 7 (.v (.int .i64 ((k - 1 : Nat) : Int))) ?_
              refine sy_end ?_
              have hkk0 : kk = 0 := by omega
              have hMn : Nt.MadeF (Nt.Pol.mk' pm) (rs ++ [(Nt.cosQ (z124 : Int))]) := by rw [hMm, hkk0, Nat.sub_zero]; exact Nt.MadeF.step hM hnin (by omega) (Nt.cosQ_wh _)
              refine ⟨_, ?_, St.of 81 [(4, .adr 15 0), (5, .v (.slice xq.a xq.n xq.c)), (6, .slc 54 0 (n9 + 1) c147), (7, .v (.int .i64 ((k - 1 : Nat) : Int)))] [(15, ⟨100, [.slice x.a x.n x.c, .int .i64 (a149 : Int)]⟩), (54, ⟨26, rcs (L ++ [r127]) ++ X148⟩)], by exact weak_mk _ _ _, .inr ⟨k - 1, xq, _, a149, (L ++ [r127]), X148, (n9 + 1), c147, (rs ++ [(Nt.cosQ (z124 : Int))]), rfl, by omega, ha149, (Nt.RSz.more hRm (by omega)), hMn, by simp; omega, by omega, by omega, hc147, ha147, hb147, rfl, (e41.trans (e124.trans (e126.trans (g130.ext.trans (e132.trans (e144.trans (e149.trans e151))))))), hPq, (hRo148.ext (e149.trans e151))⟩⟩
              omega
      · replace hb123 : (decide ((0 : Int) < (k : Int))) = false := hb123
        have qhb123 := of_decide_eq_false hb123
        refine sw_exit ?_
        refine mp_seq ?_
        refine sw_seq ?_
        refine sw_seq ?_
        have hk0 : k = 0 := by omega
        refine sw_reg ?_
        refine sy_pure 67 (.adr 15 0) ?_
        have kc177 := fun (g : Nat) (w u1 : World) (e : Ext u41 u1) (d : Dat u1 w) (hg : w.heap[g]? = some (.cells (tpc x a9).toArray 100 (0, 0))) (hu : u1.heap[g]? = some hidO) => (show Calls Tryz.prog 119 (Value.pointer (some ⟨g, 0, none⟩) :: [.int .i64 2]).toArray w _ from k_tapeNext (m := 2) d hg hu (SlR.ext (hx.ext (e11.trans (e13.trans (g17.ext.trans (e21.trans (e24.trans (e27.trans (g31.ext.trans (e33.trans (g37.ext.trans (e39.trans e41))))))))))) e) hb ha9 (by decide) (by decide))
        refine sy_lendP 68 119 (t := 15) (V := ⟨100, [.slice x.a x.n x.c, .int .i64 (a9 : Int)]⟩) [.int .i64 2] (by kernel_rfl) kc177 ?_
        clear kc177
        rintro v176 V176 u176 e176 ⟨z176, a176, rfl, hz176, rfl, ha176⟩
        refine sy_pure 69 (.v (.bool ((z176 : Int) == 1))) ?_
        refine sy_next 81 [(4, .adr 15 0), (5, .v (.slice xp.a xp.n xp.c)), (6, .slc 54 0 n9 cp), (69, .v (.bool ((z176 : Int) == 1)))] [(15, ⟨100, [.slice x.a x.n x.c, .int .i64 (a176 : Int)]⟩), (54, ⟨26, rcs L ++ X⟩)] ?_
        refine sw_cond (b := (z176 : Int) == 1) (by kernel_rfl) (fun hb178 => ?_) (fun hb178 => ?_)
        · replace hb178 : ((z176 : Int) == 1) = true := hb178
          have qhb178 : (z176 : Int) = 1 := by simpa using hb178
          refine sw_reg ?_
          refine sy_pure 70 (.v (.slice xp.a xp.n xp.c)) ?_
          refine sy_pure 71 (.adr 15 0) ?_
          have kc180 := fun (g : Nat) (w u1 : World) (e : Ext u176 u1) (d : Dat u1 w) (hg : w.heap[g]? = some (.cells (tpc x a176).toArray 100 (0, 0))) (hu : u1.heap[g]? = some hidO) => (show Calls Tryz.prog 119 (Value.pointer (some ⟨g, 0, none⟩) :: [.int .i64 4]).toArray w _ from k_tapeNext (m := 4) d hg hu (SlR.ext (hx.ext (e11.trans (e13.trans (g17.ext.trans (e21.trans (e24.trans (e27.trans (g31.ext.trans (e33.trans (g37.ext.trans (e39.trans (e41.trans e176)))))))))))) e) hb ha176 (by decide) (by decide))
          refine sy_lendP 72 119 (t := 15) (V := ⟨100, [.slice x.a x.n x.c, .int .i64 (a176 : Int)]⟩) [.int .i64 4] (by kernel_rfl) kc180 ?_
          clear kc180
          rintro v179 V179 u179 e179 ⟨z179, a179, rfl, hz179, rfl, ha179⟩
          refine sy_eq 73 (x := .v (.int .i64 (IntKind.i64.wrap ((1 : Int) + (z179 : Int))))) (.v (.int .i64 ((1 + z179 : Nat) : Int))) (eqI (by rw [IntWalk.i64_in _ (by omega)]; omega)) ?_
          refine sy_call 74 49 [.int .i64 ((1 + z179 : Nat) : Int), .int .i64 16] ?_
          intro w181 u181 e181 d181
          have k186 := k_rqFrac d181 (a := ((1 + z179 : Nat) : Int)) (b := 16) (by omega) (by omega) (by omega) (by omega)
          with_reducible refine Post.mono k186 ?_
          clear k186
          rintro _ u184 g185 ⟨r182, rfl, h183⟩
          refine sy_call 75 41 [.int .i64 0] ?_
          intro w187 u187 e187 d187
          have k192 := k_rqOf d187 (z := 0) (by omega) (by omega)
          with_reducible refine Post.mono k192 ?_
          clear k192
          rintro _ u190 g191 ⟨r188, rfl, h189⟩
          refine sy_call 76 41 [.int .i64 1] ?_
          intro w193 u193 e193 d193
          have k198 := k_rqOf d193 (z := 1) (by omega) (by omega)
          with_reducible refine Post.mono k198 ?_
          clear k198
          rintro _ u196 g197 ⟨r194, rfl, h195⟩
          refine sy_data 77 ⟨26, r182.cs ++ r188.cs ++ r194.cs⟩ 3 (fun b199 u200 e201 h202 => ?_)
          have hp203 : PolN u200 (⟨some ⟨b199, 0, none⟩, 3, 3⟩ : Sl) [(((((1 + z179 : Nat) : Int) : Int) : Rat) / ((16 : Int) : Rat)), ((0 : Int) : Rat), ((1 : Int) : Rat)] (max (max 3 2) 2) := pol_lit (L := [r182, r188, r194]) h202 (rats3 (RatN.more (L := (max (max 3 2) 2)) (h183.ext (e187.trans (g191.ext.trans (e193.trans (g197.ext.trans e201))))) (by omega)) (RatN.more (L := (max (max 3 2) 2)) (h189.ext (e193.trans (g197.ext.trans e201))) (by omega)) (RatN.more (L := (max (max 3 2) 2)) (h195.ext e201) (by omega))) rfl (by decide)
          refine sy_call 78 96 [.slice xp.a xp.n xp.c, .slice (some ⟨b199, 0, none⟩) 3 3] ?_
          intro w204 u204 e204 d204
          have k209 := k_r5Mul d204 (PolV.more (K' := 5) (hP9.ext (e176.trans (e179.trans (e181.trans (g185.ext.trans (e187.trans (g191.ext.trans (e193.trans (g197.ext.trans (e201.trans e204)))))))))).raw (by omega)) (PolV.more (K' := 5) (hp203.ext e204).raw (by omega)) (Nat.le_trans (Nt.kk_mono (Nat.le_refl _) (Nat.mul_le_mul (show _ ≤ 12 by have h9 := hRz.1; omega) (Nat.le_refl _))) (show Nt.kk (5 + 5 + 3) (12 * 3) ≤ 20000000 by decide)) (by decide) (by decide) (by have h9 := hRz.1; omega) (show 3 ≤ 100000000 by decide)
          with_reducible refine Post.mono k209 ?_
          clear k209
          rintro _ u207 g208 ⟨y205, rfl, h206⟩
          refine sy_pure 5 (.v (.slice y205.a y205.n y205.c)) ?_
          refine sy_next 81 [(5, .v (.slice y205.a y205.n y205.c)), (6, .slc 54 0 n9 cp)] [(54, ⟨26, rcs L ++ X⟩)] ?_
          refine sw_seq ?_
          refine sw_pub (r := 6) (t := 54) [6, 54] (by repeat first | exact noAt_of | refine noAt_set ?_ | refine noAt_lit ?_ | refine noAt_new ?_ | refine noAt_setVar ?_ | refine noAt_unpub ?_) (by kernel_rfl) (by rfl) (by rfl) (by kernel_rfl) (fun b210 u211 e212 hb213 hh214 => ?_)
          have hp215 : PolN u211 ⟨some ⟨b210, 0, none⟩, n9, cp⟩ rs 1 := pol_data (cs := rcs L ++ X) (n := n9) (c := cp) hh214 (by rw [← hL9, ← rcs_len, List.take_left]) hc9 hle9 hmx9 (hRo.ext (e176.trans (e179.trans (e181.trans (g185.ext.trans (e187.trans (g191.ext.trans (e193.trans (g197.ext.trans (e201.trans (e204.trans (g208.ext.trans e212))))))))))))
          refine sw_reg ?_
          refine sy_pure 79 (.v (.slice y205.a y205.n y205.c)) ?_
          refine sy_pure 80 (.v (.slice (some ⟨b210, 0, none⟩) n9 cp)) ?_
          refine sy_pure 2 (.v (.slice y205.a y205.n y205.c)) ?_
          refine sy_pure 3 (.v (.slice (some ⟨b210, 0, none⟩) n9 cp)) ?_
          refine sy_next 81 [(2, .v (.slice y205.a y205.n y205.c)), (3, .v (.slice (some ⟨b210, 0, none⟩) n9 cp))] [] ?_
          refine sw_ret (ret0 [.slice y205.a y205.n y205.c, .slice (some ⟨b210, 0, none⟩) n9 cp] ⟨res_tmp, res_tmp, trivial⟩ fun u216 e217 => ?_)
          have hfin : Nt.RFin (Nt.trimQ (Nt.mulQ pl [(((((1 + z179 : Nat) : Int) : Int) : Rat) / ((16 : Int) : Rat)), ((0 : Int) : Rat), ((1 : Int) : Rat)])) := (Nt.RSz.quad (hRz.more (by omega)) (Nt.quad_wh hz179))
          have hro : Nt.RootsP (Nt.trimQ (Nt.mulQ pl [(((((1 + z179 : Nat) : Int) : Int) : Rat) / ((16 : Int) : Rat)), ((0 : Int) : Rat), ((1 : Int) : Rat)])) rs := ⟨_, _, hM, by rw [Nt.mk_trim, Nt.Pol.mk_mul], (by have h9 := hrl; omega), .inr ⟨_, Nt.quad_pos z179, Nt.quad_wh hz179, rfl⟩⟩
          exact ⟨y205, (⟨some ⟨b210, 0, none⟩, n9, cp⟩ : Sl), _, rs, rfl, PolN.fitRF (h206.ext (e212.trans e217)) hfin, (hp215.ext e217), hfin, hro⟩
        · replace hb178 : ((z176 : Int) == 1) = false := hb178
          have qhb178 : ¬ ((z176 : Int) = 1) := by simpa using hb178
          refine sw_skip (mp_seq ?_)
          refine sw_seq ?_
          refine sw_pub (r := 6) (t := 54) [6, 54] (by repeat first | exact noAt_of | refine noAt_set ?_ | refine noAt_lit ?_ | refine noAt_new ?_ | refine noAt_setVar ?_ | refine noAt_unpub ?_) (by kernel_rfl) (by rfl) (by rfl) (by kernel_rfl) (fun b218 u219 e220 hb221 hh222 => ?_)
          have hp223 : PolN u219 ⟨some ⟨b218, 0, none⟩, n9, cp⟩ rs 1 := pol_data (cs := rcs L ++ X) (n := n9) (c := cp) hh222 (by rw [← hL9, ← rcs_len, List.take_left]) hc9 hle9 hmx9 (hRo.ext (e176.trans e220))
          refine sw_reg ?_
          refine sy_pure 79 (.v (.slice xp.a xp.n xp.c)) ?_
          refine sy_pure 80 (.v (.slice (some ⟨b218, 0, none⟩) n9 cp)) ?_
          refine sy_pure 2 (.v (.slice xp.a xp.n xp.c)) ?_
          refine sy_pure 3 (.v (.slice (some ⟨b218, 0, none⟩) n9 cp)) ?_
          refine sy_next 81 [(2, .v (.slice xp.a xp.n xp.c)), (3, .v (.slice (some ⟨b218, 0, none⟩) n9 cp))] [] ?_
          refine sw_ret (ret0 [.slice xp.a xp.n xp.c, .slice (some ⟨b218, 0, none⟩) n9 cp] ⟨res_tmp, res_tmp, trivial⟩ fun u224 e225 => ?_)
          have hfin : Nt.RFin pl := (Nt.RSz.fin (hRz.more (by omega)))
          have hro : Nt.RootsP pl rs := ⟨_, 1, hM, (Nt.Pol.mul_one _).symm, (by have h9 := hrl; omega), .inl rfl⟩
          exact ⟨xp, (⟨some ⟨b218, 0, none⟩, n9, cp⟩ : Sl), _, rs, rfl, PolN.fitRF (hP9.ext (e176.trans (e220.trans e225))) hfin, (hp223.ext e225), hfin, hro⟩
  · replace hb26 : ((z24 : Int) == 1) = false := hb26
    have qhb26 : ¬ ((z24 : Int) = 1) := by simpa using hb26
    refine sw_skip (mp_seq ?_)
    refine sw_seq ?_
    refine sw_reg ?_
    refine sy_pure 6 (.v (.slice none 0 0)) ?_
    refine sy_next 81 [(4, .adr 15 0), (5, .v (.slice (some ⟨b19, 0, none⟩) 1 1)), (6, .v (.slice none 0 0))] [(15, ⟨100, [.slice x.a x.n x.c, .int .i64 (a24 : Int)]⟩)] ?_
    refine sw_seq ?_
    refine sw_seq ?_
    refine sw_reg ?_
    refine sy_pure 27 (.adr 15 0) ?_
    have kc227 := fun (g : Nat) (w u1 : World) (e : Ext u24 u1) (d : Dat u1 w) (hg : w.heap[g]? = some (.cells (tpc x a24).toArray 100 (0, 0))) (hu : u1.heap[g]? = some hidO) => (show Calls Tryz.prog 119 (Value.pointer (some ⟨g, 0, none⟩) :: [.int .i64 4]).toArray w _ from k_tapeNext (m := 4) d hg hu (SlR.ext (hx.ext (e11.trans (e13.trans (g17.ext.trans (e21.trans e24))))) e) hb ha24 (by decide) (by decide))
    refine sy_lendP 28 119 (t := 15) (V := ⟨100, [.slice x.a x.n x.c, .int .i64 (a24 : Int)]⟩) [.int .i64 4] (by kernel_rfl) kc227 ?_
    clear kc227
    rintro v226 V226 u226 e226 ⟨z226, a226, rfl, hz226, rfl, ha226⟩
    refine sy_pure 7 (.v (.int .i64 (z226 : Int))) ?_
    refine sy_next 81 [(4, .adr 15 0), (5, .v (.slice (some ⟨b19, 0, none⟩) 1 1)), (6, .v (.slice none 0 0)), (7, .v (.int .i64 (z226 : Int)))] [(15, ⟨100, [.slice x.a x.n x.c, .int .i64 (a226 : Int)]⟩)] ?_
    refine sw_block ?_
    refine sw_loop (I := fun m228 S' u' => (∃ (k : Nat) (xp : Sl) (pl : List Rat) (a9 : Nat), m228 = k ∧ k ≤ 3 ∧ a9 ≤ x.n ∧ Nt.RSz pl (3 * (3 - k)) ∧ Nt.MadeF (Nt.Pol.mk' pl) [] ∧ S' = St.of 81 [(4, .adr 15 0), (5, .v (.slice xp.a xp.n xp.c)), (6, .v (.slice none 0 0)), (7, .v (.int .i64 (k : Int)))] [(15, ⟨100, [.slice x.a x.n x.c, .int .i64 (a9 : Int)]⟩)] ∧ Ext u226 u' ∧ PolN u' xp pl 2) ∨ (∃ (k : Nat) (xp : Sl) (pl : List Rat) (a9 : Nat) (L : List RL) (X : List Value) (n9 cp : Nat) (rs : List Rat), m228 = k ∧ k ≤ 3 ∧ a9 ≤ x.n ∧ Nt.RSz pl (3 * (3 - k)) ∧ Nt.MadeF (Nt.Pol.mk' pl) rs ∧ L.length = n9 ∧ 0 < n9 ∧ n9 ≤ 3 - k ∧ (rcs L ++ X).length = cp * 3 ∧ n9 ≤ cp ∧ cp ≤ maxLen ∧ S' = St.of 81 [(4, .adr 15 0), (5, .v (.slice xp.a xp.n xp.c)), (6, .slc 54 0 n9 cp), (7, .v (.int .i64 (k : Int)))] [(15, ⟨100, [.slice x.a x.n x.c, .int .i64 (a9 : Int)]⟩), (54, ⟨26, rcs L ++ X⟩)] ∧ Ext u226 u' ∧ PolN u' xp pl 2 ∧ RatsN u' L rs 1)) (fun m S u1 u2 e h => by rcases h with ⟨a1, a2, a3, a4, b1, b2, b3, b4, b8, b5, b6, b7⟩ | ⟨a1, a2, a3, a4, a5, a6, a7, a8, a9, b1, b2, b3, b4, c6, b5, b6, b7, b8, b9, c1, c2, c3, c4, c5⟩; exact .inl ⟨a1, a2, a3, a4, b1, b2, b3, b4, b8, b5, b6.trans e, b7.ext e⟩; exact .inr ⟨a1, a2, a3, a4, a5, a6, a7, a8, a9, b1, b2, b3, b4, c6, b5, b6, b7, b8, b9, c1, c2, c3.trans e, c4.ext e, c5.ext e⟩) _ (T := St.of 81 [(4, .adr 15 0), (5, .v (.slice (some ⟨b19, 0, none⟩) 1 1)), (6, .v (.slice none 0 0)), (7, .v (.int .i64 (z226 : Int)))] [(15, ⟨100, [.slice x.a x.n x.c, .int .i64 (a226 : Int)]⟩)]) (by exact weak_mk _ _ _) (.inl ⟨z226, (⟨some ⟨b19, 0, none⟩, 1, 1⟩ : Sl), _, a226, rfl, by omega, by omega, (Nt.RSz.more hr0 (Nat.zero_le _)), hm0, rfl, Ext.refl _, (PolN.fitRS (hp23.ext (e24.trans e226)) hr0 (by decide))⟩) ?_
    rintro m228 _ u228 (⟨k, xp, pl, a9, hm9, hk3, ha9, hRz, hM, rfl, e228, hP9⟩ | ⟨k, xp, pl, a9, L, X, n9, cp, rs, hm9, hk3, ha9, hRz, hM, hL9, hn0, hn3, hc9, hle9, hmx9, rfl, e228, hP9, hRo⟩)
    · change SW _ _ _ _ (St.of 81 [(4, .adr 15 0), (5, .v (.slice xp.a xp.n xp.c)), (6, .v (.slice none 0 0)), (7, .v (.int .i64 (k : Int)))] [(15, ⟨100, [.slice x.a x.n x.c, .int .i64 (a9 : Int)]⟩)]) _ _
      have hlp := hP9.len
      refine sw_seq ?_
      refine sw_seq ?_
      refine sw_reg ?_
      refine sy_pure 29 (.v (.int .i64 (k : Int))) ?_
      refine sy_pure 30 (.v (.bool (decide ((0 : Int) < (k : Int))))) ?_
      refine sy_next 81 [(4, .adr 15 0), (5, .v (.slice xp.a xp.n xp.c)), (6, .v (.slice none 0 0)), (7, .v (.int .i64 (k : Int))), (30, .v (.bool (decide ((0 : Int) < (k : Int)))))] [(15, ⟨100, [.slice x.a x.n x.c, .int .i64 (a9 : Int)]⟩)] ?_
      refine sw_cond (b := decide ((0 : Int) < (k : Int))) (by kernel_rfl) (fun hb229 => ?_) (fun hb229 => ?_)
      · replace hb229 : (decide ((0 : Int) < (k : Int))) = true := hb229
        have qhb229 := of_decide_eq_true hb229
        refine sw_skip (mp_seq ?_)
        refine sw_seq ?_
        refine sw_block ?_
        refine sw_seq ?_
        refine sw_reg ?_
        refine sy_pure 33 (.adr 15 0) ?_
        have kc231 := fun (g : Nat) (w u1 : World) (e : Ext u228 u1) (d : Dat u1 w) (hg : w.heap[g]? = some (.cells (tpc x a9).toArray 100 (0, 0))) (hu : u1.heap[g]? = some hidO) => (show Calls Tryz.prog 119 (Value.pointer (some ⟨g, 0, none⟩) :: [.int .i64 25]).toArray w _ from k_tapeNext (m := 25) d hg hu (SlR.ext (hx.ext (e11.trans (e13.trans (g17.ext.trans (e21.trans (e24.trans (e226.trans e228))))))) e) hb ha9 (by decide) (by decide))
        refine sy_lendP 34 119 (t := 15) (V := ⟨100, [.slice x.a x.n x.c, .int .i64 (a9 : Int)]⟩) [.int .i64 25] (by kernel_rfl) kc231 ?_
        clear kc231
        rintro v230 V230 u230 e230 ⟨z230, a230, rfl, hz230, rfl, ha230⟩
        refine sy_call 35 120 [.int .i64 (z230 : Int)] ?_
        intro w232 u232 e232 d232
        have k237 := k_cos d232 (n := (z230 : Int)) (by omega) (by omega)
        with_reducible refine Post.mono k237 ?_
        clear k237
        rintro _ u235 g236 ⟨r233, rfl, h234⟩
        refine sy_new 8 ⟨26, [.bool false, .slice none 0 0, .slice none 0 0]⟩ ?_
        refine sy_store ⟨26, r233.cs⟩ ty26 ?_
        refine sy_next 81 [(4, .adr 15 0), (5, .v (.slice xp.a xp.n xp.c)), (6, .v (.slice none 0 0)), (7, .v (.int .i64 (k : Int))), (8, .adr 8 0)] [(8, ⟨26, r233.cs⟩), (15, ⟨100, [.slice x.a x.n x.c, .int .i64 (a230 : Int)]⟩)] ?_
        refine sw_seq ?_
        refine sw_reg ?_
        refine sy_pure 9 (.v (.bool false)) ?_
        refine sy_next 81 [(4, .adr 15 0), (5, .v (.slice xp.a xp.n xp.c)), (6, .v (.slice none 0 0)), (7, .v (.int .i64 (k : Int))), (8, .adr 8 0), (9, .v (.bool false))] [(8, ⟨26, r233.cs⟩), (15, ⟨100, [.slice x.a x.n x.c, .int .i64 (a230 : Int)]⟩)] ?_
        refine sw_seq ?_
        refine sw_seq ?_
        refine sw_reg ?_
        refine sy_pure 36 (.v (.slice none 0 0)) ?_
        refine sy_pure 37 (.v (.int .i64 0)) ?_
        refine sy_pure 38 (.v (.int .i64 0)) ?_
        refine sy_next 81 [(4, .adr 15 0), (5, .v (.slice xp.a xp.n xp.c)), (6, .v (.slice none 0 0)), (7, .v (.int .i64 (k : Int))), (8, .adr 8 0), (9, .v (.bool false)), (36, .v (.slice none 0 0)), (37, .v (.int .i64 0)), (38, .v (.int .i64 0))] [(8, ⟨26, r233.cs⟩), (15, ⟨100, [.slice x.a x.n x.c, .int .i64 (a230 : Int)]⟩)] ?_
        refine sw_block ?_
        refine sw_rounds 0 ?_
        refine sw_seq ?_
        refine sw_reg ?_
        refine sy_pure 39 (.v (.bool false)) ?_
        refine sy_next 81 [(4, .adr 15 0), (5, .v (.slice xp.a xp.n xp.c)), (6, .v (.slice none 0 0)), (7, .v (.int .i64 (k : Int))), (8, .adr 8 0), (9, .v (.bool false)), (36, .v (.slice none 0 0)), (37, .v (.int .i64 0)), (38, .v (.int .i64 0)), (39, .v (.bool false))] [(8, ⟨26, r233.cs⟩), (15, ⟨100, [.slice x.a x.n x.c, .int .i64 (a230 : Int)]⟩)] ?_
        refine sw_seq ?_
        refine sw_false (by kernel_rfl) ?_
        refine sw_exit ?_
        refine mp_seq ?_
        refine sw_seq ?_
        refine sw_seq ?_
        refine sw_reg ?_
        refine sy_pure 50 (.v (.bool false)) ?_
        refine sy_next 81 [(4, .adr 15 0), (5, .v (.slice xp.a xp.n xp.c)), (6, .v (.slice none 0 0)), (7, .v (.int .i64 (k : Int))), (8, .adr 8 0), (50, .v (.bool false))] [(8, ⟨26, r233.cs⟩), (15, ⟨100, [.slice x.a x.n x.c, .int .i64 (a230 : Int)]⟩)] ?_
        refine sw_false (by kernel_rfl) ?_
        refine sw_skip (mp_seq ?_)
        refine sw_seq ?_
        have hnin : (Nt.cosQ (z230 : Int)) ∉ ([] : List Rat) := by simp
        refine sw_reg ?_
        refine sy_pure 51 (.v (.slice none 0 0)) ?_
        refine sy_ldv 52 (.v (r233.v)) ty26 part_agg ?_
        refine sy_data 53 ⟨26, r233.cs⟩ 1 (fun b238 u239 e240 h241 => ?_)
        have hp242 : PolN u239 (⟨some ⟨b238, 0, none⟩, 1, 1⟩ : Sl) [(Nt.cosQ (z230 : Int))] 1 := pol_lit (L := [r233]) h241 (rats1 (h234.ext e240)) rfl (by decide)
        refine sy_app0 54 (T := 40) (E := 26) (z := .agg #[.bool false, .slice none 0 0, .slice none 0 0]) (size := 3) (bytes := 56) (b := b238) (off := 0) (m := 1) r233.cs (by kernel_rfl) (by kernel_rfl) (by kernel_rfl) (by decide) rfl (lit_news ((Ext.refl _).cells h241)) (rl_one r233) (by decide) (by decide) (by decide) ?_
        intro c243 cs243 ha243 hb243 hc243 hd243
        refine sy_pure 6 (.slc 54 0 1 c243) ?_
        refine sy_next 81 [(4, .adr 15 0), (5, .v (.slice xp.a xp.n xp.c)), (6, .slc 54 0 1 c243), (7, .v (.int .i64 (k : Int))), (8, .adr 8 0)] [(8, ⟨26, r233.cs⟩), (15, ⟨100, [.slice x.a x.n x.c, .int .i64 (a230 : Int)]⟩), (54, ⟨26, cs243⟩)] ?_
        refine sw_seq ?_
        obtain ⟨X244, hX244⟩ := spare_of (n := 1) (L := [r233]) hd243
        subst hX244
        have hRo244 : RatsN u239 ([r233]) [(Nt.cosQ (z230 : Int))] 1 := rats1 (h234.ext e240)
        refine sw_reg ?_
        refine sy_pure 55 (.adr 15 0) ?_
        have kc246 := fun (g : Nat) (w u1 : World) (e : Ext u239 u1) (d : Dat u1 w) (hg : w.heap[g]? = some (.cells (tpc x a230).toArray 100 (0, 0))) (hu : u1.heap[g]? = some hidO) => (show Calls Tryz.prog 119 (Value.pointer (some ⟨g, 0, none⟩) :: [.int .i64 3]).toArray w _ from k_tapeNext (m := 3) d hg hu (SlR.ext (hx.ext (e11.trans (e13.trans (g17.ext.trans (e21.trans (e24.trans (e226.trans (e228.trans (e230.trans (e232.trans (g236.ext.trans e240))))))))))) e) hb ha230 (by decide) (by decide))
        refine sy_lendP 56 119 (t := 15) (V := ⟨100, [.slice x.a x.n x.c, .int .i64 (a230 : Int)]⟩) [.int .i64 3] (by kernel_rfl) kc246 ?_
        clear kc246
        rintro v245 V245 u245 e245 ⟨z245, a245, rfl, hz245, rfl, ha245⟩
        refine sy_eq 12 (x := .v (.int .i64 ((z245 : Int)))) (.v (.int .i64 (((z245 + 1 : Nat) : Int) - 1))) (eqI (by omega)) ?_
        refine sy_next 81 [(4, .adr 15 0), (5, .v (.slice xp.a xp.n xp.c)), (6, .slc 54 0 1 c243), (7, .v (.int .i64 (k : Int))), (8, .adr 8 0), (12, .v (.int .i64 (((z245 + 1 : Nat) : Int) - 1)))] [(8, ⟨26, r233.cs⟩), (15, ⟨100, [.slice x.a x.n x.c, .int .i64 (a245 : Int)]⟩), (54, ⟨26, rcs ([r233]) ++ X244⟩)] ?_
        refine sw_block ?_
        refine sw_loop (I := fun m247 S' u' => ∃ (kk : Nat) (xq : Sl) (pm : List Rat), (m247 = kk) ∧ (kk ≤ z245 + 1) ∧ (Nt.RSz pm (3 * (3 - k) + (z245 + 1 - kk))) ∧ (Nt.Pol.mk' pm = Nt.Pol.mk' pl * Nt.Pol.npow (Nt.lin (Nt.cosQ (z230 : Int))) (z245 + 1 - kk)) ∧ (S' = St.of 81 [(4, .adr 15 0), (5, .v (.slice xq.a xq.n xq.c)), (6, .slc 54 0 1 c243), (7, .v (.int .i64 (k : Int))), (8, .adr 8 0), (12, .v (.int .i64 ((kk : Int) - 1)))] [(8, ⟨26, r233.cs⟩), (15, ⟨100, [.slice x.a x.n x.c, .int .i64 (a245 : Int)]⟩), (54, ⟨26, rcs ([r233]) ++ X244⟩)]) ∧ (Ext u245 u') ∧ (PolN u' xq pm 2)) (fun m S u1 u2 e h => by obtain ⟨kk, xq, pm, hm, p0, p1, p2, hS, hE, f0⟩ := h; exact ⟨kk, xq, pm, hm, p0, p1, p2, hS, hE.trans e, f0.ext e⟩) _ (T := St.of 81 [(4, .adr 15 0), (5, .v (.slice xp.a xp.n xp.c)), (6, .slc 54 0 1 c243), (7, .v (.int .i64 (k : Int))), (8, .adr 8 0), (12, .v (.int .i64 (((z245 + 1 : Nat) : Int) - 1)))] [(8, ⟨26, r233.cs⟩), (15, ⟨100, [.slice x.a x.n x.c, .int .i64 (a245 : Int)]⟩), (54, ⟨26, rcs ([r233]) ++ X244⟩)]) (by exact weak_mk _ _ _) ⟨z245 + 1, xp, pl, rfl, by omega, (by rw [Nat.sub_self]; exact hRz), (by rw [Nat.sub_self, Nt.Pol.npow_zero, Nt.Pol.mul_one]), rfl, Ext.refl _, (hP9.ext (e230.trans (e232.trans (g236.ext.trans (e240.trans e245)))))⟩ ?_
        rintro m247 _ u247 ⟨kk, xq, pm, hm247, hkk, hRm, hMm, rfl, e247, hPq⟩
        have hlq := hPq.len
        have hzz := hz245
        refine sw_seq ?_
        refine sw_seq ?_
        refine sw_reg ?_
        refine sy_pure 57 (.v (.int .i64 ((kk : Int) - 1))) ?_
        refine sy_pure 58 (.v (.bool (decide ((0 : Int) ≤ ((kk : Int) - 1))))) ?_
        refine sy_next 81 [(4, .adr 15 0), (5, .v (.slice xq.a xq.n xq.c)), (6, .slc 54 0 1 c243), (7, .v (.int .i64 (k : Int))), (8, .adr 8 0), (12, .v (.int .i64 ((kk : Int) - 1))), (58, .v (.bool (decide ((0 : Int) ≤ ((kk : Int) - 1)))))] [(8, ⟨26, r233.cs⟩), (15, ⟨100, [.slice x.a x.n x.c, .int .i64 (a245 : Int)]⟩), (54, ⟨26, rcs ([r233]) ++ X244⟩)] ?_
        refine sw_cond (b := decide ((0 : Int) ≤ ((kk : Int) - 1))) (by kernel_rfl) (fun hb248 => ?_) (fun hb248 => ?_)
        · replace hb248 : (decide ((0 : Int) ≤ ((kk : Int) - 1))) = true := hb248
          have qhb248 := of_decide_eq_true hb248
          refine sw_skip (mp_seq ?_)
          refine sw_seq ?_
          refine sw_block ?_
          refine sw_reg ?_
          refine sy_pure 61 (.v (.slice xq.a xq.n xq.c)) ?_
          refine sy_ldv 62 (.v (r233.v)) ty26 part_agg ?_
          refine sy_call 63 110 [r233.v] ?_
          intro w249 u249 e249 d249
          have k254 := k_rqNeg d249 (h234.ext (e240.trans (e245.trans (e247.trans e249)))).raw (by omega)
          with_reducible refine Post.mono k254 ?_
          clear k254
          rintro _ u252 g253 ⟨r250, rfl, h251⟩
          refine sy_call 64 41 [.int .i64 1] ?_
          intro w255 u255 e255 d255
          have k260 := k_rqOf d255 (z := 1) (by omega) (by omega)
          with_reducible refine Post.mono k260 ?_
          clear k260
          rintro _ u258 g259 ⟨r256, rfl, h257⟩
          refine sy_data 65 ⟨26, r250.cs ++ r256.cs⟩ 2 (fun b261 u262 e263 h264 => ?_)
          have hp265 : PolN u262 (⟨some ⟨b261, 0, none⟩, 2, 2⟩ : Sl) [(-(Nt.cosQ (z230 : Int))), ((1 : Int) : Rat)] (max 1 2) := pol_lit (L := [r250, r256]) h264 (rats2 (RatN.more (L := (max 1 2)) (h251.ext (e255.trans (g259.ext.trans e263))) (by omega)) (RatN.more (L := (max 1 2)) (h257.ext e263) (by omega))) rfl (by decide)
          refine sy_call 66 96 [.slice xq.a xq.n xq.c, .slice (some ⟨b261, 0, none⟩) 2 2] ?_
          intro w266 u266 e266 d266
          have k271 := k_r5Mul d266 (PolV.more (K' := 5) (hPq.ext (e249.trans (g253.ext.trans (e255.trans (g259.ext.trans (e263.trans e266)))))).raw (by omega)) (PolV.more (K' := 5) (hp265.ext e266).raw (by omega)) (Nat.le_trans (Nt.kk_mono (Nat.le_refl _) (Nat.mul_le_mul (show _ ≤ 12 by have h9 := hRm.1; omega) (Nat.le_refl _))) (show Nt.kk (5 + 5 + 3) (12 * 2) ≤ 20000000 by decide)) (by decide) (by decide) (by have h9 := hRm.1; omega) (show 2 ≤ 100000000 by decide)
          with_reducible refine Post.mono k271 ?_
          clear k271
          rintro _ u269 g270 ⟨y267, rfl, h268⟩
          refine sy_pure 5 (.v (.slice y267.a y267.n y267.c)) ?_
          refine sy_end ?_
          refine mp_seq ?_
          refine sw_reg ?_
          refine sy_pure 59 (.v (.int .i64 ((kk : Int) - 1))) ?_
          refine sy_eq 60 (x := .v (.int .i64 (IntKind.i64.wrap (((kk : Int) - 1) - 1)))) (.v (.int .i64 (((kk - 1 : Nat) : Int) - 1))) (eqI (by rw [IntWalk.i64_in _ (by omega)]; omega)) ?_
          refine sy_pure 12 (.v (.int .i64 (((kk - 1 : Nat) : Int) - 1))) ?_
          refine sy_end ?_
          have hRn : Nt.RSz (Nt.trimQ (Nt.mulQ pm [(-(Nt.cosQ (z230 : Int))), ((1 : Int) : Rat)])) (3 * (3 - k) + (z245 + 1 - (kk - 1))) := (Nt.RSz.lin hRm (Nt.cosQ_wh _)).more (by omega)
          refine ⟨_, ?_, St.of 81 [(4, .adr 15 0), (5, .v (.slice y267.a y267.n y267.c)), (6, .slc 54 0 1 c243), (7, .v (.int .i64 (k : Int))), (8, .adr 8 0), (12, .v (.int .i64 (((kk - 1 : Nat) : Int) - 1)))] [(8, ⟨26, r233.cs⟩), (15, ⟨100, [.slice x.a x.n x.c, .int .i64 (a245 : Int)]⟩), (54, ⟨26, rcs ([r233]) ++ X244⟩)], by exact weak_mk _ _ _, kk - 1, y267, (Nt.trimQ (Nt.mulQ pm [(-(Nt.cosQ (z230 : Int))), ((1 : Int) : Rat)])), rfl, by omega, hRn, (by rw [Nt.mk_lin, hMm, Nt.Pol.mul_assoc, ← Nt.Pol.npow_succ, show z245 + 1 - (kk - 1) = z245 + 1 - kk + 1 by omega]), rfl, (e247.trans (e249.trans (g253.ext.trans (e255.trans (g259.ext.trans (e263.trans (e266.trans g270.ext))))))), (PolN.fitRS h268 hRn (by omega))⟩
          omega
        · replace hb248 : (decide ((0 : Int) ≤ ((kk : Int) - 1))) = false := hb248
          have qhb248 := of_decide_eq_false hb248
          refine sw_exit ?_
          refine mp_seq ?_
          refine sw_reg ?_
          refine sy_pure 31 (.v (.int .i64 (k : Int))) ?_
          refine sy_eq 32 (x := .v (.int .i64 (IntKind.i64.wrap ((k : Int) - 1)))) (.v (.int .i64 ((k - 1 : Nat) : Int))) (eqI (by rw [IntWalk.i64_in _ (by omega)]; omega)) ?_
          refine sy_pure 7 (.v (.int .i64 ((k - 1 : Nat) : Int))) ?_
          refine sy_end ?_
          have hkk0 : kk = 0 := by omega
          have hMn : Nt.MadeF (Nt.Pol.mk' pm) [(Nt.cosQ (z230 : Int))] := by rw [hMm, hkk0, Nat.sub_zero]; exact Nt.MadeF.step hM hnin (by omega) (Nt.cosQ_wh _)
          refine ⟨_, ?_, St.of 81 [(4, .adr 15 0), (5, .v (.slice xq.a xq.n xq.c)), (6, .slc 54 0 1 c243), (7, .v (.int .i64 ((k - 1 : Nat) : Int)))] [(15, ⟨100, [.slice x.a x.n x.c, .int .i64 (a245 : Int)]⟩), (54, ⟨26, rcs ([r233]) ++ X244⟩)], by exact weak_mk _ _ _, .inr ⟨k - 1, xq, _, a245, ([r233]), X244, (1), c243, [(Nt.cosQ (z230 : Int))], rfl, by omega, ha245, (Nt.RSz.more hRm (by omega)), hMn, by simp, by omega, by omega, hc243, ha243, hb243, rfl, (e228.trans (e230.trans (e232.trans (g236.ext.trans (e240.trans (e245.trans e247)))))), hPq, (hRo244.ext (e245.trans e247))⟩⟩
          omega
      · replace hb229 : (decide ((0 : Int) < (k : Int))) = false := hb229
        have qhb229 := of_decide_eq_false hb229
        refine sw_exit ?_
        refine mp_seq ?_
        refine sw_seq ?_
        refine sw_seq ?_
        have hk0 : k = 0 := by omega
        refine sw_reg ?_
        refine sy_pure 67 (.adr 15 0) ?_
        have kc273 := fun (g : Nat) (w u1 : World) (e : Ext u228 u1) (d : Dat u1 w) (hg : w.heap[g]? = some (.cells (tpc x a9).toArray 100 (0, 0))) (hu : u1.heap[g]? = some hidO) => (show Calls Tryz.prog 119 (Value.pointer (some ⟨g, 0, none⟩) :: [.int .i64 2]).toArray w _ from k_tapeNext (m := 2) d hg hu (SlR.ext (hx.ext (e11.trans (e13.trans (g17.ext.trans (e21.trans (e24.trans (e226.trans e228))))))) e) hb ha9 (by decide) (by decide))
        refine sy_lendP 68 119 (t := 15) (V := ⟨100, [.slice x.a x.n x.c, .int .i64 (a9 : Int)]⟩) [.int .i64 2] (by kernel_rfl) kc273 ?_
        clear kc273
        rintro v272 V272 u272 e272 ⟨z272, a272, rfl, hz272, rfl, ha272⟩
        refine sy_pure 69 (.v (.bool ((z272 : Int) == 1))) ?_
        refine sy_next 81 [(4, .adr 15 0), (5, .v (.slice xp.a xp.n xp.c)), (6, .v (.slice none 0 0)), (69, .v (.bool ((z272 : Int) == 1)))] [(15, ⟨100, [.slice x.a x.n x.c, .int .i64 (a272 : Int)]⟩)] ?_
        refine sw_cond (b := (z272 : Int) == 1) (by kernel_rfl) (fun hb274 => ?_) (fun hb274 => ?_)
        · replace hb274 : ((z272 : Int) == 1) = true := hb274
          have qhb274 : (z272 : Int) = 1 := by simpa using hb274
          refine sw_reg ?_
          refine sy_pure 70 (.v (.slice xp.a xp.n xp.c)) ?_
          refine sy_pure 71 (.adr 15 0) ?_
          have kc276 := fun (g : Nat) (w u1 : World) (e : Ext u272 u1) (d : Dat u1 w) (hg : w.heap[g]? = some (.cells (tpc x a272).toArray 100 (0, 0))) (hu : u1.heap[g]? = some hidO) => (show Calls Tryz.prog 119 (Value.pointer (some ⟨g, 0, none⟩) :: [.int .i64 4]).toArray w _ from k_tapeNext (m := 4) d hg hu (SlR.ext (hx.ext (e11.trans (e13.trans (g17.ext.trans (e21.trans (e24.trans (e226.trans (e228.trans e272)))))))) e) hb ha272 (by decide) (by decide))
          refine sy_lendP 72 119 (t := 15) (V := ⟨100, [.slice x.a x.n x.c, .int .i64 (a272 : Int)]⟩) [.int .i64 4] (by kernel_rfl) kc276 ?_
          clear kc276
          rintro v275 V275 u275 e275 ⟨z275, a275, rfl, hz275, rfl, ha275⟩
          refine sy_eq 73 (x := .v (.int .i64 (IntKind.i64.wrap ((1 : Int) + (z275 : Int))))) (.v (.int .i64 ((1 + z275 : Nat) : Int))) (eqI (by rw [IntWalk.i64_in _ (by omega)]; omega)) ?_
          refine sy_call 74 49 [.int .i64 ((1 + z275 : Nat) : Int), .int .i64 16] ?_
          intro w277 u277 e277 d277
          have k282 := k_rqFrac d277 (a := ((1 + z275 : Nat) : Int)) (b := 16) (by omega) (by omega) (by omega) (by omega)
          with_reducible refine Post.mono k282 ?_
          clear k282
          rintro _ u280 g281 ⟨r278, rfl, h279⟩
          refine sy_call 75 41 [.int .i64 0] ?_
          intro w283 u283 e283 d283
          have k288 := k_rqOf d283 (z := 0) (by omega) (by omega)
          with_reducible refine Post.mono k288 ?_
          clear k288
          rintro _ u286 g287 ⟨r284, rfl, h285⟩
          refine sy_call 76 41 [.int .i64 1] ?_
          intro w289 u289 e289 d289
          have k294 := k_rqOf d289 (z := 1) (by omega) (by omega)
          with_reducible refine Post.mono k294 ?_
          clear k294
          rintro _ u292 g293 ⟨r290, rfl, h291⟩
          refine sy_data 77 ⟨26, r278.cs ++ r284.cs ++ r290.cs⟩ 3 (fun b295 u296 e297 h298 => ?_)
          have hp299 : PolN u296 (⟨some ⟨b295, 0, none⟩, 3, 3⟩ : Sl) [(((((1 + z275 : Nat) : Int) : Int) : Rat) / ((16 : Int) : Rat)), ((0 : Int) : Rat), ((1 : Int) : Rat)] (max (max 3 2) 2) := pol_lit (L := [r278, r284, r290]) h298 (rats3 (RatN.more (L := (max (max 3 2) 2)) (h279.ext (e283.trans (g287.ext.trans (e289.trans (g293.ext.trans e297))))) (by omega)) (RatN.more (L := (max (max 3 2) 2)) (h285.ext (e289.trans (g293.ext.trans e297))) (by omega)) (RatN.more (L := (max (max 3 2) 2)) (h291.ext e297) (by omega))) rfl (by decide)
          refine sy_call 78 96 [.slice xp.a xp.n xp.c, .slice (some ⟨b295, 0, none⟩) 3 3] ?_
          intro w300 u300 e300 d300
          have k305 := k_r5Mul d300 (PolV.more (K' := 5) (hP9.ext (e272.trans (e275.trans (e277.trans (g281.ext.trans (e283.trans (g287.ext.trans (e289.trans (g293.ext.trans (e297.trans e300)))))))))).raw (by omega)) (PolV.more (K' := 5) (hp299.ext e300).raw (by omega)) (Nat.le_trans (Nt.kk_mono (Nat.le_refl _) (Nat.mul_le_mul (show _ ≤ 12 by have h9 := hRz.1; omega) (Nat.le_refl _))) (show Nt.kk (5 + 5 + 3) (12 * 3) ≤ 20000000 by decide)) (by decide) (by decide) (by have h9 := hRz.1; omega) (show 3 ≤ 100000000 by decide)
          with_reducible refine Post.mono k305 ?_
          clear k305
          rintro _ u303 g304 ⟨y301, rfl, h302⟩
          refine sy_pure 5 (.v (.slice y301.a y301.n y301.c)) ?_
          refine sy_next 81 [(5, .v (.slice y301.a y301.n y301.c)), (6, .v (.slice none 0 0))] [] ?_
          refine sw_seq ?_
          refine sw_reg ?_
          refine sy_pure 79 (.v (.slice y301.a y301.n y301.c)) ?_
          refine sy_pure 80 (.v (.slice none 0 0)) ?_
          refine sy_pure 2 (.v (.slice y301.a y301.n y301.c)) ?_
          refine sy_pure 3 (.v (.slice none 0 0)) ?_
          refine sy_next 81 [(2, .v (.slice y301.a y301.n y301.c)), (3, .v (.slice none 0 0))] [] ?_
          refine sw_ret (ret0 [.slice y301.a y301.n y301.c, .slice none 0 0] ⟨res_tmp, res_tmp, trivial⟩ fun u306 e307 => ?_)
          have hfin : Nt.RFin (Nt.trimQ (Nt.mulQ pl [(((((1 + z275 : Nat) : Int) : Int) : Rat) / ((16 : Int) : Rat)), ((0 : Int) : Rat), ((1 : Int) : Rat)])) := (Nt.RSz.quad (hRz.more (by omega)) (Nt.quad_wh hz275))
          have hro : Nt.RootsP (Nt.trimQ (Nt.mulQ pl [(((((1 + z275 : Nat) : Int) : Int) : Rat) / ((16 : Int) : Rat)), ((0 : Int) : Rat), ((1 : Int) : Rat)])) [] := ⟨_, _, hM, by rw [Nt.mk_trim, Nt.Pol.mk_mul], (by decide), .inr ⟨_, Nt.quad_pos z275, Nt.quad_wh hz275, rfl⟩⟩
          exact ⟨y301, ⟨none, 0, 0⟩, _, [], rfl, PolN.fitRF (h302.ext e307) hfin, (pol_nil _ 1), hfin, hro⟩
        · replace hb274 : ((z272 : Int) == 1) = false := hb274
          have qhb274 : ¬ ((z272 : Int) = 1) := by simpa using hb274
          refine sw_skip (mp_seq ?_)
          refine sw_seq ?_
          refine sw_reg ?_
          refine sy_pure 79 (.v (.slice xp.a xp.n xp.c)) ?_
          refine sy_pure 80 (.v (.slice none 0 0)) ?_
          refine sy_pure 2 (.v (.slice xp.a xp.n xp.c)) ?_
          refine sy_pure 3 (.v (.slice none 0 0)) ?_
          refine sy_next 81 [(2, .v (.slice xp.a xp.n xp.c)), (3, .v (.slice none 0 0))] [] ?_
          refine sw_ret (ret0 [.slice xp.a xp.n xp.c, .slice none 0 0] ⟨res_tmp, res_tmp, trivial⟩ fun u308 e309 => ?_)
          have hfin : Nt.RFin pl := (Nt.RSz.fin (hRz.more (by omega)))
          have hro : Nt.RootsP pl [] := ⟨_, 1, hM, (Nt.Pol.mul_one _).symm, (by decide), .inl rfl⟩
          exact ⟨xp, ⟨none, 0, 0⟩, _, [], rfl, PolN.fitRF (hP9.ext (e272.trans e309)) hfin, (pol_nil _ 1), hfin, hro⟩
    · change SW _ _ _ _ (St.of 81 [(4, .adr 15 0), (5, .v (.slice xp.a xp.n xp.c)), (6, .slc 54 0 n9 cp), (7, .v (.int .i64 (k : Int)))] [(15, ⟨100, [.slice x.a x.n x.c, .int .i64 (a9 : Int)]⟩), (54, ⟨26, rcs L ++ X⟩)]) _ _
      have hmx8 := hmx9
      unfold maxLen at hmx8
      have hrl := hRo.1
      have hlp := hP9.len
      refine sw_seq ?_
      refine sw_seq ?_
      refine sw_reg ?_
      refine sy_pure 29 (.v (.int .i64 (k : Int))) ?_
      refine sy_pure 30 (.v (.bool (decide ((0 : Int) < (k : Int))))) ?_
      refine sy_next 81 [(4, .adr 15 0), (5, .v (.slice xp.a xp.n xp.c)), (6, .slc 54 0 n9 cp), (7, .v (.int .i64 (k : Int))), (30, .v (.bool (decide ((0 : Int) < (k : Int)))))] [(15, ⟨100, [.slice x.a x.n x.c, .int .i64 (a9 : Int)]⟩), (54, ⟨26, rcs L ++ X⟩)] ?_
      refine sw_cond (b := decide ((0 : Int) < (k : Int))) (by kernel_rfl) (fun hb310 => ?_) (fun hb310 => ?_)
      · replace hb310 : (decide ((0 : Int) < (k : Int))) = true := hb310
        have qhb310 := of_decide_eq_true hb310
        refine sw_skip (mp_seq ?_)
        refine sw_seq ?_
        refine sw_block ?_
        refine sw_seq ?_
        refine sw_reg ?_
        refine sy_pure 33 (.adr 15 0) ?_
        have kc312 := fun (g : Nat) (w u1 : World) (e : Ext u228 u1) (d : Dat u1 w) (hg : w.heap[g]? = some (.cells (tpc x a9).toArray 100 (0, 0))) (hu : u1.heap[g]? = some hidO) => (show Calls Tryz.prog 119 (Value.pointer (some ⟨g, 0, none⟩) :: [.int .i64 25]).toArray w _ from k_tapeNext (m := 25) d hg hu (SlR.ext (hx.ext (e11.trans (e13.trans (g17.ext.trans (e21.trans (e24.trans (e226.trans e228))))))) e) hb ha9 (by decide) (by decide))
        refine sy_lendP 34 119 (t := 15) (V := ⟨100, [.slice x.a x.n x.c, .int .i64 (a9 : Int)]⟩) [.int .i64 25] (by kernel_rfl) kc312 ?_
        clear kc312
        rintro v311 V311 u311 e311 ⟨z311, a311, rfl, hz311, rfl, ha311⟩
        refine sy_call 35 120 [.int .i64 (z311 : Int)] ?_
        intro w313 u313 e313 d313
        have k318 := k_cos d313 (n := (z311 : Int)) (by omega) (by omega)
        with_reducible refine Post.mono k318 ?_
        clear k318
        rintro _ u316 g317 ⟨r314, rfl, h315⟩
        refine sy_new 8 ⟨26, [.bool false, .slice none 0 0, .slice none 0 0]⟩ ?_
        refine sy_store ⟨26, r314.cs⟩ ty26 ?_
        refine sy_next 81 [(4, .adr 15 0), (5, .v (.slice xp.a xp.n xp.c)), (6, .slc 54 0 n9 cp), (7, .v (.int .i64 (k : Int))), (8, .adr 8 0)] [(8, ⟨26, r314.cs⟩), (15, ⟨100, [.slice x.a x.n x.c, .int .i64 (a311 : Int)]⟩), (54, ⟨26, rcs L ++ X⟩)] ?_
        refine sw_seq ?_
        refine sw_reg ?_
        refine sy_pure 9 (.v (.bool false)) ?_
        refine sy_next 81 [(4, .adr 15 0), (5, .v (.slice xp.a xp.n xp.c)), (6, .slc 54 0 n9 cp), (7, .v (.int .i64 (k : Int))), (8, .adr 8 0), (9, .v (.bool false))] [(8, ⟨26, r314.cs⟩), (15, ⟨100, [.slice x.a x.n x.c, .int .i64 (a311 : Int)]⟩), (54, ⟨26, rcs L ++ X⟩)] ?_
        refine sw_seq ?_
        refine sw_seq ?_
        refine sw_reg ?_
        refine sy_pure 36 (.slc 54 0 n9 cp) ?_
        refine sy_pure 37 (.v (.int .i64 (n9 : Int))) ?_
        refine sy_pure 38 (.v (.int .i64 0)) ?_
        refine sy_next 81 [(4, .adr 15 0), (5, .v (.slice xp.a xp.n xp.c)), (6, .slc 54 0 n9 cp), (7, .v (.int .i64 (k : Int))), (8, .adr 8 0), (9, .v (.bool false)), (36, .slc 54 0 n9 cp), (37, .v (.int .i64 (n9 : Int))), (38, .v (.int .i64 0))] [(8, ⟨26, r314.cs⟩), (15, ⟨100, [.slice x.a x.n x.c, .int .i64 (a311 : Int)]⟩), (54, ⟨26, rcs L ++ X⟩)] ?_
        refine sw_block ?_
        refine sw_loop (I := fun m319 S' u' => ∃ (q : Nat) (bb : Bool), (m319 = n9 - q) ∧ (q ≤ n9) ∧ (bb = false → ∀ j, j < q → rs.getD j 0 ≠ (Nt.cosQ (z311 : Int))) ∧ (S' = St.of 81 [(4, .adr 15 0), (5, .v (.slice xp.a xp.n xp.c)), (6, .slc 54 0 n9 cp), (7, .v (.int .i64 (k : Int))), (8, .adr 8 0), (9, .v (.bool bb)), (36, .slc 54 0 n9 cp), (37, .v (.int .i64 (n9 : Int))), (38, .v (.int .i64 (q : Int)))] [(8, ⟨26, r314.cs⟩), (15, ⟨100, [.slice x.a x.n x.c, .int .i64 (a311 : Int)]⟩), (54, ⟨26, rcs L ++ X⟩)]) ∧ (Ext u316 u')) (fun m S u1 u2 e h => by obtain ⟨q, bb, hm, p0, p1, hS, hE⟩ := h; exact ⟨q, bb, hm, p0, p1, hS, hE.trans e⟩) _ (T := St.of 81 [(4, .adr 15 0), (5, .v (.slice xp.a xp.n xp.c)), (6, .slc 54 0 n9 cp), (7, .v (.int .i64 (k : Int))), (8, .adr 8 0), (9, .v (.bool false)), (36, .slc 54 0 n9 cp), (37, .v (.int .i64 (n9 : Int))), (38, .v (.int .i64 0))] [(8, ⟨26, r314.cs⟩), (15, ⟨100, [.slice x.a x.n x.c, .int .i64 (a311 : Int)]⟩), (54, ⟨26, rcs L ++ X⟩)]) (by exact weak_mk _ _ _) ⟨0, false, rfl, by omega, (fun _ j hj => absurd hj (Nat.not_lt_zero j)), rfl, Ext.refl _⟩ ?_
        rintro m319 _ u319 ⟨q, bb, hm319, hq, hbb, rfl, e319⟩
        refine sw_seq ?_
        refine sw_reg ?_
        refine sy_pure 39 (.v (.bool (decide ((q : Int) < (n9 : Int))))) ?_
        refine sy_next 81 [(4, .adr 15 0), (5, .v (.slice xp.a xp.n xp.c)), (6, .slc 54 0 n9 cp), (7, .v (.int .i64 (k : Int))), (8, .adr 8 0), (9, .v (.bool bb)), (36, .slc 54 0 n9 cp), (37, .v (.int .i64 (n9 : Int))), (38, .v (.int .i64 (q : Int))), (39, .v (.bool (decide ((q : Int) < (n9 : Int)))))] [(8, ⟨26, r314.cs⟩), (15, ⟨100, [.slice x.a x.n x.c, .int .i64 (a311 : Int)]⟩), (54, ⟨26, rcs L ++ X⟩)] ?_
        refine sw_seq ?_
        refine sw_cond (b := decide ((q : Int) < (n9 : Int))) (by kernel_rfl) (fun hb320 => ?_) (fun hb320 => ?_)
        · replace hb320 : (decide ((q : Int) < (n9 : Int))) = true := hb320
          have qhb320 := of_decide_eq_true hb320
          refine sw_skip (mp_seq ?_)
          refine sw_seq ?_
          refine sw_block ?_
          refine sw_seq ?_
          refine sw_reg ?_
          refine sy_idxO 40 (off' := q * 3) (n := n9) (off := 0) (sz := 3) (i := (q : Int)) sl40 (by omega) (by omega) (by omega) ?_
          obtain ⟨r321, hrr321⟩ : ∃ r : RL, (L).getD q rl0 = r := ⟨_, rfl⟩
          refine sy_ldv 41 (V := ⟨26, rcs L ++ X⟩) (off := q * 3) (.v r321.v) ty26 (by have h9 := part_rcsX (X := X) (L := L) (i := q) (off := q * 3) (by first | omega | (simp; omega)) rfl; rw [hrr321] at h9; exact h9) ?_
          have h322 := (hRo.ext (e311.trans (e313.trans (g317.ext.trans e319)))).2 q (by first | omega | (simp; omega))
          rw [hrr321] at h322
          refine sy_new 11 ⟨26, [.bool false, .slice none 0 0, .slice none 0 0]⟩ ?_
          refine sy_store ⟨26, r321.cs⟩ ty26 ?_
          refine sy_next 81 [(4, .adr 15 0), (5, .v (.slice xp.a xp.n xp.c)), (6, .slc 54 0 n9 cp), (7, .v (.int .i64 (k : Int))), (8, .adr 8 0), (9, .v (.bool bb)), (11, .adr 11 0), (36, .slc 54 0 n9 cp), (37, .v (.int .i64 (n9 : Int))), (38, .v (.int .i64 (q : Int)))] [(8, ⟨26, r314.cs⟩), (11, ⟨26, r321.cs⟩), (15, ⟨100, [.slice x.a x.n x.c, .int .i64 (a311 : Int)]⟩), (54, ⟨26, rcs L ++ X⟩)] ?_
          refine sw_reg ?_
          refine sy_pure 42 (.v (.bool bb)) ?_
          rcases Bool.eq_false_or_eq_true bb with hs323 | hs323
          · refine sy_eq 43 (x := .v (.bool bb)) (.v (.bool true)) (by rw [hs323]) ?_
            refine sy_drop 44 (unwanted (g := 1) (b := false) (c := true) (t := 43) (by kernel_rfl) (by kernel_rfl) (by kernel_rfl) (by kernel_rfl)) ?_
            refine sy_drop 45 (unwanted (g := 1) (b := false) (c := true) (t := 43) (by kernel_rfl) (by kernel_rfl) (by kernel_rfl) (by kernel_rfl)) ?_
            refine sy_drop 46 (unwanted (g := 1) (b := false) (c := true) (t := 43) (by kernel_rfl) (by kernel_rfl) (by kernel_rfl) (by kernel_rfl)) ?_
            refine sy_drop 47 (unwanted (g := 1) (b := false) (c := true) (t := 43) (by kernel_rfl) (by kernel_rfl) (by kernel_rfl) (by kernel_rfl)) ?_
            refine sy_pure 48 (.v (.bool true)) ?_
            refine sy_pure 9 (.v (.bool true)) ?_
            refine sy_end ?_
            refine mp_seq ?_
            refine sw_reg ?_
            refine sy_eq 49 (x := .v (.int .i64 (IntKind.i64.wrap ((q : Int) + 1)))) (.v (.int .i64 ((q + 1 : Nat) : Int))) (eqI (by rw [IntWalk.i64_in _ (by omega)]; omega)) ?_
            refine sy_pure 38 (.v (.int .i64 ((q + 1 : Nat) : Int))) ?_
            refine sy_end ?_
            refine ⟨_, ?_, St.of 81 [(4, .adr 15 0), (5, .v (.slice xp.a xp.n xp.c)), (6, .slc 54 0 n9 cp), (7, .v (.int .i64 (k : Int))), (8, .adr 8 0), (9, .v (.bool true)), (36, .slc 54 0 n9 cp), (37, .v (.int .i64 (n9 : Int))), (38, .v (.int .i64 ((q + 1 : Nat) : Int)))] [(8, ⟨26, r314.cs⟩), (15, ⟨100, [.slice x.a x.n x.c, .int .i64 (a311 : Int)]⟩), (54, ⟨26, rcs L ++ X⟩)], by exact weak_mk _ _ _, q + 1, true, rfl, by omega, (fun h => absurd h (by decide)), rfl, e319⟩
            omega
          · refine sy_eq 43 (x := .v (.bool bb)) (.v (.bool false)) (by rw [hs323]) ?_
            refine sy_ldv 44 (.v (r314.v)) ty26 part_agg ?_ (hw := wants1 (g := 1) (b := false) (t := 43) (by kernel_rfl) (by kernel_rfl) (by kernel_rfl))
            refine sy_ldv 45 (.v (r321.v)) ty26 part_agg ?_ (hw := wants1 (g := 1) (b := false) (t := 43) (by kernel_rfl) (by kernel_rfl) (by kernel_rfl))
            refine sy_call 46 40 [r314.v, r321.v] ?_ (hw := wants1 (g := 1) (b := false) (t := 43) (by kernel_rfl) (by kernel_rfl) (by kernel_rfl))
            intro w324 u324 e324 d324
            have k327 := k_rqCompare d324 (h315.ext (e319.trans e324)).raw (h322.ext e324).raw (by omega) (by omega)
            with_reducible refine Post.mono k327 ?_
            clear k327
            rintro _ u325 g326 rfl
            refine sy_pure 47 (.v (.bool ((Nt.cmpQ (Nt.cosQ (z311 : Int)) (rs.getD q 0)) == 0))) ?_ (hw := wants1 (g := 1) (b := false) (t := 43) (by kernel_rfl) (by kernel_rfl) (by kernel_rfl))
            refine sy_pure 48 (.v (.bool ((Nt.cmpQ (Nt.cosQ (z311 : Int)) (rs.getD q 0)) == 0))) ?_
            refine sy_pure 9 (.v (.bool ((Nt.cmpQ (Nt.cosQ (z311 : Int)) (rs.getD q 0)) == 0))) ?_
            refine sy_end ?_
            refine mp_seq ?_
            refine sw_reg ?_
            refine sy_eq 49 (x := .v (.int .i64 (IntKind.i64.wrap ((q : Int) + 1)))) (.v (.int .i64 ((q + 1 : Nat) : Int))) (eqI (by rw [IntWalk.i64_in _ (by omega)]; omega)) ?_
            refine sy_pure 38 (.v (.int .i64 ((q + 1 : Nat) : Int))) ?_
            refine sy_end ?_
            refine ⟨_, ?_, St.of 81 [(4, .adr 15 0), (5, .v (.slice xp.a xp.n xp.c)), (6, .slc 54 0 n9 cp), (7, .v (.int .i64 (k : Int))), (8, .adr 8 0), (9, .v (.bool ((Nt.cmpQ (Nt.cosQ (z311 : Int)) (rs.getD q 0)) == 0))), (36, .slc 54 0 n9 cp), (37, .v (.int .i64 (n9 : Int))), (38, .v (.int .i64 ((q + 1 : Nat) : Int)))] [(8, ⟨26, r314.cs⟩), (15, ⟨100, [.slice x.a x.n x.c, .int .i64 (a311 : Int)]⟩), (54, ⟨26, rcs L ++ X⟩)], by exact weak_mk _ _ _, q + 1, (Nt.cmpQ (Nt.cosQ (z311 : Int)) (rs.getD q 0)) == 0, rfl, by omega, (fun h j hj => by by_cases e : j = q; (rw [e]; intro e2; rw [Nt.cmpQ_eq] at h; exact absurd e2.symm (of_decide_eq_false h)); exact hbb hs323 j (by omega)), rfl, (e319.trans (e324.trans g326.ext))⟩
            omega
        · replace hb320 : (decide ((q : Int) < (n9 : Int))) = false := hb320
          have qhb320 := of_decide_eq_false hb320
          refine sw_exit ?_
          refine mp_seq ?_
          refine sw_seq ?_
          refine sw_seq ?_
          refine sw_reg ?_
          refine sy_pure 50 (.v (.bool bb)) ?_
          refine sy_next 81 [(4, .adr 15 0), (5, .v (.slice xp.a xp.n xp.c)), (6, .slc 54 0 n9 cp), (7, .v (.int .i64 (k : Int))), (8, .adr 8 0), (50, .v (.bool bb))] [(8, ⟨26, r314.cs⟩), (15, ⟨100, [.slice x.a x.n x.c, .int .i64 (a311 : Int)]⟩), (54, ⟨26, rcs L ++ X⟩)] ?_
          refine sw_cond (b := bb) (by kernel_rfl) (fun hb328 => ?_) (fun hb328 => ?_)
          · replace hb328 : bb = true := hb328
            refine sw_exit ?_
            refine mp_seq ?_
            refine sw_reg ?_
            refine sy_pure 31 (.v (.int .i64 (k : Int))) ?_
            refine sy_eq 32 (x := .v (.int .i64 (IntKind.i64.wrap ((k : Int) - 1)))) (.v (.int .i64 ((k - 1 : Nat) : Int))) (eqI (by rw [IntWalk.i64_in _ (by omega)]; omega)) ?_
            refine sy_pure 7 (.v (.int .i64 ((k - 1 : Nat) : Int))) ?_
            refine sy_end ?_
            refine ⟨_, ?_, St.of 81 [(4, .adr 15 0), (5, .v (.slice xp.a xp.n xp.c)), (6, .slc 54 0 n9 cp), (7, .v (.int .i64 ((k - 1 : Nat) : Int)))] [(15, ⟨100, [.slice x.a x.n x.c, .int .i64 (a311 : Int)]⟩), (54, ⟨26, rcs L ++ X⟩)], by exact weak_mk _ _ _, .inr ⟨k - 1, xp, _, a311, L, X, n9, cp, rs, rfl, by omega, ha311, (Nt.RSz.more hRz (by omega)), hM, hL9, hn0, by omega, hc9, hle9, hmx9, rfl, (e228.trans (e311.trans (e313.trans (g317.ext.trans e319)))), (hP9.ext (e311.trans (e313.trans (g317.ext.trans e319)))), (hRo.ext (e311.trans (e313.trans (g317.ext.trans e319))))⟩⟩
            omega
          · replace hb328 : bb = false := hb328
            refine sw_skip (mp_seq ?_)
            refine sw_seq ?_
            have hnin : (Nt.cosQ (z311 : Int)) ∉ rs := Nt.notin_of (fun j hj => hbb hb328 j (by omega))
            have ht9 : (rcs L ++ X).take (n9 * 3) = rcs L := by rw [← hL9, ← rcs_len, List.take_left]
            refine sw_reg ?_
            refine sy_pure 51 (.slc 54 0 n9 cp) ?_
            refine sy_ldv 52 (.v (r314.v)) ty26 part_agg ?_
            refine sy_data 53 ⟨26, r314.cs⟩ 1 (fun b329 u330 e331 h332 => ?_)
            have hp333 : PolN u330 (⟨some ⟨b329, 0, none⟩, 1, 1⟩ : Sl) [(Nt.cosQ (z311 : Int))] 1 := pol_lit (L := [r314]) h332 (rats1 (h315.ext (e319.trans e331))) rfl (by decide)
            refine sy_app1 54 (T := 40) (E := 26) (z := .agg #[.bool false, .slice none 0 0, .slice none 0 0]) (size := 3) (bytes := 56) (b := b329) (off := 0) (m := 1) (n := n9) (cap := cp) (t := 54) (cs0 := (rcs L ++ X)) [6, 51, 54] r314.cs (by kernel_rfl) (by kernel_rfl) (by kernel_rfl) (by decide) rfl (lit_news ((Ext.refl _).cells h332)) (rl_one r314) (by decide) (by unfold maxLen; omega) (by omega) (by omega) (by omega) (by omega) (by repeat first | exact noAt_of | refine noAt_set ?_ | refine noAt_lit ?_ | refine noAt_new ?_ | refine noAt_setVar ?_ | refine noAt_unpub ?_) ?_
            intro c334 cs334 ha334 hb334 hc334 hd334
            have hd334r : cs334.take ((n9 + 1) * 3) = rcs (L ++ [r314]) := by rw [hd334, ht9, rcs_app]; rfl
            refine sy_pure 6 (.slc 54 0 (n9 + 1) c334) ?_
            refine sy_next 81 [(4, .adr 15 0), (5, .v (.slice xp.a xp.n xp.c)), (6, .slc 54 0 (n9 + 1) c334), (7, .v (.int .i64 (k : Int))), (8, .adr 8 0)] [(8, ⟨26, r314.cs⟩), (15, ⟨100, [.slice x.a x.n x.c, .int .i64 (a311 : Int)]⟩), (54, ⟨26, cs334⟩)] ?_
            refine sw_seq ?_
            obtain ⟨X335, hX335⟩ := spare_of (n := n9 + 1) (L := L ++ [r314]) hd334r
            subst hX335
            have hRo335 : RatsN u330 (L ++ [r314]) (rs ++ [(Nt.cosQ (z311 : Int))]) 1 := RatsN.snoc (hRo.ext (e311.trans (e313.trans (g317.ext.trans (e319.trans e331))))) (h315.ext (e319.trans e331))
            refine sw_reg ?_
            refine sy_pure 55 (.adr 15 0) ?_
            have kc337 := fun (g : Nat) (w u1 : World) (e : Ext u330 u1) (d : Dat u1 w) (hg : w.heap[g]? = some (.cells (tpc x a311).toArray 100 (0, 0))) (hu : u1.heap[g]? = some hidO) => (show Calls Tryz.prog 119 (Value.pointer (some ⟨g, 0, none⟩) :: [.int .i64 3]).toArray w _ from k_tapeNext (m := 3) d hg hu (SlR.ext (hx.ext (e11.trans (e13.trans (g17.ext.trans (e21.trans (e24.trans (e226.trans (e228.trans (e311.trans (e313.trans (g317.ext.trans (e319.trans e331)))))))))))) e) hb ha311 (by decide) (by decide))
            refine sy_lendP 56 119 (t := 15) (V := ⟨100, [.slice x.a x.n x.c, .int .i64 (a311 : Int)]⟩) [.int .i64 3] (by kernel_rfl) kc337 ?_
            clear kc337
            rintro v336 V336 u336 e336 ⟨z336, a336, rfl, hz336, rfl, ha336⟩
            refine sy_eq 12 (x := .v (.int .i64 ((z336 : Int)))) (.v (.int .i64 (((z336 + 1 : Nat) : Int) - 1))) (eqI (by omega)) ?_
            refine sy_next 81 [(4, .adr 15 0), (5, .v (.slice xp.a xp.n xp.c)), (6, .slc 54 0 (n9 + 1) c334), (7, .v (.int .i64 (k : Int))), (8, .adr 8 0), (12, .v (.int .i64 (((z336 + 1 : Nat) : Int) - 1)))] [(8, ⟨26, r314.cs⟩), (15, ⟨100, [.slice x.a x.n x.c, .int .i64 (a336 : Int)]⟩), (54, ⟨26, rcs (L ++ [r314]) ++ X335⟩)] ?_
            refine sw_block ?_
            refine sw_loop (I := fun m338 S' u' => ∃ (kk : Nat) (xq : Sl) (pm : List Rat), (m338 = kk) ∧ (kk ≤ z336 + 1) ∧ (Nt.RSz pm (3 * (3 - k) + (z336 + 1 - kk))) ∧ (Nt.Pol.mk' pm = Nt.Pol.mk' pl * Nt.Pol.npow (Nt.lin (Nt.cosQ (z311 : Int))) (z336 + 1 - kk)) ∧ (S' = St.of 81 [(4, .adr 15 0), (5, .v (.slice xq.a xq.n xq.c)), (6, .slc 54 0 (n9 + 1) c334), (7, .v (.int .i64 (k : Int))), (8, .adr 8 0), (12, .v (.int .i64 ((kk : Int) - 1)))] [(8, ⟨26, r314.cs⟩), (15, ⟨100, [.slice x.a x.n x.c, .int .i64 (a336 : Int)]⟩), (54, ⟨26, rcs (L ++ [r314]) ++ X335⟩)]) ∧ (Ext u336 u') ∧ (PolN u' xq pm 2)) (fun m S u1 u2 e h => by obtain ⟨kk, xq, pm, hm, p0, p1, p2, hS, hE, f0⟩ := h; exact ⟨kk, xq, pm, hm, p0, p1, p2, hS, hE.trans e, f0.ext e⟩) _ (T := St.of 81 [(4, .adr 15 0), (5, .v (.slice xp.a xp.n xp.c)), (6, .slc 54 0 (n9 + 1) c334), (7, .v (.int .i64 (k : Int))), (8, .adr 8 0), (12, .v (.int .i64 (((z336 + 1 : Nat) : Int) - 1)))] [(8, ⟨26, r314.cs⟩), (15, ⟨100, [.slice x.a x.n x.c, .int .i64 (a336 : Int)]⟩), (54, ⟨26, rcs (L ++ [r314]) ++ X335⟩)]) (by exact weak_mk _ _ _) ⟨z336 + 1, xp, pl, rfl, by omega, (by rw [Nat.sub_self]; exact hRz), (by rw [Nat.sub_self, Nt.Pol.npow_zero, Nt.Pol.mul_one]), rfl, Ext.refl _, (hP9.ext (e311.trans (e313.trans (g317.ext.trans (e319.trans (e331.trans e336))))))⟩ ?_
            rintro m338 _ u338 ⟨kk, xq, pm, hm338, hkk, hRm, hMm, rfl, e338, hPq⟩
            have hlq := hPq.len
            have hzz := hz336
            refine sw_seq ?_
            refine sw_seq ?_
            refine sw_reg ?_
            refine sy_pure 57 (.v (.int .i64 ((kk : Int) - 1))) ?_
            refine sy_pure 58 (.v (.bool (decide ((0 : Int) ≤ ((kk : Int) - 1))))) ?_
            refine sy_next 81 [(4, .adr 15 0), (5, .v (.slice xq.a xq.n xq.c)), (6, .slc 54 0 (n9 + 1) c334), (7, .v (.int .i64 (k : Int))), (8, .adr 8 0), (12, .v (.int .i64 ((kk : Int) - 1))), (58, .v (.bool (decide ((0 : Int) ≤ ((kk : Int) - 1)))))] [(8, ⟨26, r314.cs⟩), (15, ⟨100, [.slice x.a x.n x.c, .int .i64 (a336 : Int)]⟩), (54, ⟨26, rcs (L ++ [r314]) ++ X335⟩)] ?_
            refine sw_cond (b := decide ((0 : Int) ≤ ((kk : Int) - 1))) (by kernel_rfl) (fun hb339 => ?_) (fun hb339 => ?_)
            · replace hb339 : (decide ((0 : Int) ≤ ((kk : Int) - 1))) = true := hb339
              have qhb339 := of_decide_eq_true hb339
              refine sw_skip (mp_seq ?_)
              refine sw_seq ?_
              refine sw_block ?_
              refine sw_reg ?_
              refine sy_pure 61 (.v (.slice xq.a xq.n xq.c)) ?_
              refine sy_ldv 62 (.v (r314.v)) ty26 part_agg ?_
              refine sy_call 63 110 [r314.v] ?_
              intro w340 u340 e340 d340
              have k345 := k_rqNeg d340 (h315.ext (e319.trans (e331.trans (e336.trans (e338.trans e340))))).raw (by omega)
              with_reducible refine Post.mono k345 ?_
              clear k345
              rintro _ u343 g344 ⟨r341, rfl, h342⟩
              refine sy_call 64 41 [.int .i64 1] ?_
              intro w346 u346 e346 d346
              have k351 := k_rqOf d346 (z := 1) (by omega) (by omega)
              with_reducible refine Post.mono k351 ?_
              clear k351
              rintro _ u349 g350 ⟨r347, rfl, h348⟩
              refine sy_data 65 ⟨26, r341.cs ++ r347.cs⟩ 2 (fun b352 u353 e354 h355 => ?_)
              have hp356 : PolN u353 (⟨some ⟨b352, 0, none⟩, 2, 2⟩ : Sl) [(-(Nt.cosQ (z311 : Int))), ((1 : Int) : Rat)] (max 1 2) := pol_lit (L := [r341, r347]) h355 (rats2 (RatN.more (L := (max 1 2)) (h342.ext (e346.trans (g350.ext.trans e354))) (by omega)) (RatN.more (L := (max 1 2)) (h348.ext e354) (by omega))) rfl (by decide)
              refine sy_call 66 96 [.slice xq.a xq.n xq.c, .slice (some ⟨b352, 0, none⟩) 2 2] ?_
              intro w357 u357 e357 d357
              have k362 := k_r5Mul d357 (PolV.more (K' := 5) (hPq.ext (e340.trans (g344.ext.trans (e346.trans (g350.ext.trans (e354.trans e357)))))).raw (by omega)) (PolV.more (K' := 5) (hp356.ext e357).raw (by omega)) (Nat.le_trans (Nt.kk_mono (Nat.le_refl _) (Nat.mul_le_mul (show _ ≤ 12 by have h9 := hRm.1; omega) (Nat.le_refl _))) (show Nt.kk (5 + 5 + 3) (12 * 2) ≤ 20000000 by decide)) (by decide) (by decide) (by have h9 := hRm.1; omega) (show 2 ≤ 100000000 by decide)
              with_reducible refine Post.mono k362 ?_
              clear k362
              rintro _ u360 g361 ⟨y358, rfl, h359⟩
              refine sy_pure 5 (.v (.slice y358.a y358.n y358.c)) ?_
              refine sy_end ?_
              refine mp_seq ?_
              refine sw_reg ?_
              refine sy_pure 59 (.v (.int .i64 ((kk : Int) - 1))) ?_
              refine sy_eq 60 (x := .v (.int .i64 (IntKind.i64.wrap (((kk : Int) - 1) - 1)))) (.v (.int .i64 (((kk - 1 : Nat) : Int) - 1))) (eqI (by rw [IntWalk.i64_in _ (by omega)]; omega)) ?_
              refine sy_pure 12 (.v (.int .i64 (((kk - 1 : Nat) : Int) - 1))) ?_
              refine sy_end ?_
              have hRn : Nt.RSz (Nt.trimQ (Nt.mulQ pm [(-(Nt.cosQ (z311 : Int))), ((1 : Int) : Rat)])) (3 * (3 - k) + (z336 + 1 - (kk - 1))) := (Nt.RSz.lin hRm (Nt.cosQ_wh _)).more (by omega)
              refine ⟨_, ?_, St.of 81 [(4, .adr 15 0), (5, .v (.slice y358.a y358.n y358.c)), (6, .slc 54 0 (n9 + 1) c334), (7, .v (.int .i64 (k : Int))), (8, .adr 8 0), (12, .v (.int .i64 (((kk - 1 : Nat) : Int) - 1)))] [(8, ⟨26, r314.cs⟩), (15, ⟨100, [.slice x.a x.n x.c, .int .i64 (a336 : Int)]⟩), (54, ⟨26, rcs (L ++ [r314]) ++ X335⟩)], by exact weak_mk _ _ _, kk - 1, y358, (Nt.trimQ (Nt.mulQ pm [(-(Nt.cosQ (z311 : Int))), ((1 : Int) : Rat)])), rfl, by omega, hRn, (by rw [Nt.mk_lin, hMm, Nt.Pol.mul_assoc, ← Nt.Pol.npow_succ, show z336 + 1 - (kk - 1) = z336 + 1 - kk + 1 by omega]), rfl, (e338.trans (e340.trans (g344.ext.trans (e346.trans (g350.ext.trans (e354.trans (e357.trans g361.ext))))))), (PolN.fitRS h359 hRn (by omega))⟩
              omega
            · replace hb339 : (decide ((0 : Int) ≤ ((kk : Int) - 1))) = false := hb339
              have qhb339 := of_decide_eq_false hb339
              refine sw_exit ?_
              refine mp_seq ?_
              refine sw_reg ?_
              refine sy_pure 31 (.v (.int .i64 (k : Int))) ?_
              refine sy_eq 32 (x := .v (.int .i64 (IntKind.i64.wrap ((k : Int) - 1)))) (.v (.int .i64 ((k - 1 : Nat) : Int))) (eqI (by rw [IntWalk.i64_in _ (by omega)]; omega)) ?_
              refine sy_pure 7 (.v (.int .i64 ((k - 1 : Nat) : Int))) ?_
              refine sy_end ?_
              have hkk0 : kk = 0 := by omega
              have hMn : Nt.MadeF (Nt.Pol.mk' pm) (rs ++ [(Nt.cosQ (z311 : Int))]) := by rw [hMm, hkk0, Nat.sub_zero]; exact Nt.MadeF.step hM hnin (by omega) (Nt.cosQ_wh _)
              refine ⟨_, ?_, St.of 81 [(4, .adr 15 0), (5, .v (.slice xq.a xq.n xq.c)), (6, .slc 54 0 (n9 + 1) c334), (7, .v (.int .i64 ((k - 1 : Nat) : Int)))] [(15, ⟨100, [.slice x.a x.n x.c, .int .i64 (a336 : Int)]⟩), (54, ⟨26, rcs (L ++ [r314]) ++ X335⟩)], by exact weak_mk _ _ _, .inr ⟨k - 1, xq, _, a336, (L ++ [r314]), X335, (n9 + 1), c334, (rs ++ [(Nt.cosQ (z311 : Int))]), rfl, by omega, ha336, (Nt.RSz.more hRm (by omega)), hMn, by simp; omega, by omega, by omega, hc334, ha334, hb334, rfl, (e228.trans (e311.trans (e313.trans (g317.ext.trans (e319.trans (e331.trans (e336.trans e338))))))), hPq, (hRo335.ext (e336.trans e338))⟩⟩
              omega
      · replace hb310 : (decide ((0 : Int) < (k : Int))) = false := hb310
        have qhb310 := of_decide_eq_false hb310
        refine sw_exit ?_
        refine mp_seq ?_
        refine sw_seq ?_
        refine sw_seq ?_
        have hk0 : k = 0 := by omega
        refine sw_reg ?_
        refine sy_pure 67 (.adr 15 0) ?_
        have kc364 := fun (g : Nat) (w u1 : World) (e : Ext u228 u1) (d : Dat u1 w) (hg : w.heap[g]? = some (.cells (tpc x a9).toArray 100 (0, 0))) (hu : u1.heap[g]? = some hidO) => (show Calls Tryz.prog 119 (Value.pointer (some ⟨g, 0, none⟩) :: [.int .i64 2]).toArray w _ from k_tapeNext (m := 2) d hg hu (SlR.ext (hx.ext (e11.trans (e13.trans (g17.ext.trans (e21.trans (e24.trans (e226.trans e228))))))) e) hb ha9 (by decide) (by decide))
        refine sy_lendP 68 119 (t := 15) (V := ⟨100, [.slice x.a x.n x.c, .int .i64 (a9 : Int)]⟩) [.int .i64 2] (by kernel_rfl) kc364 ?_
        clear kc364
        rintro v363 V363 u363 e363 ⟨z363, a363, rfl, hz363, rfl, ha363⟩
        refine sy_pure 69 (.v (.bool ((z363 : Int) == 1))) ?_
        refine sy_next 81 [(4, .adr 15 0), (5, .v (.slice xp.a xp.n xp.c)), (6, .slc 54 0 n9 cp), (69, .v (.bool ((z363 : Int) == 1)))] [(15, ⟨100, [.slice x.a x.n x.c, .int .i64 (a363 : Int)]⟩), (54, ⟨26, rcs L ++ X⟩)] ?_
        refine sw_cond (b := (z363 : Int) == 1) (by kernel_rfl) (fun hb365 => ?_) (fun hb365 => ?_)
        · replace hb365 : ((z363 : Int) == 1) = true := hb365
          have qhb365 : (z363 : Int) = 1 := by simpa using hb365
          refine sw_reg ?_
          refine sy_pure 70 (.v (.slice xp.a xp.n xp.c)) ?_
          refine sy_pure 71 (.adr 15 0) ?_
          have kc367 := fun (g : Nat) (w u1 : World) (e : Ext u363 u1) (d : Dat u1 w) (hg : w.heap[g]? = some (.cells (tpc x a363).toArray 100 (0, 0))) (hu : u1.heap[g]? = some hidO) => (show Calls Tryz.prog 119 (Value.pointer (some ⟨g, 0, none⟩) :: [.int .i64 4]).toArray w _ from k_tapeNext (m := 4) d hg hu (SlR.ext (hx.ext (e11.trans (e13.trans (g17.ext.trans (e21.trans (e24.trans (e226.trans (e228.trans e363)))))))) e) hb ha363 (by decide) (by decide))
          refine sy_lendP 72 119 (t := 15) (V := ⟨100, [.slice x.a x.n x.c, .int .i64 (a363 : Int)]⟩) [.int .i64 4] (by kernel_rfl) kc367 ?_
          clear kc367
          rintro v366 V366 u366 e366 ⟨z366, a366, rfl, hz366, rfl, ha366⟩
          refine sy_eq 73 (x := .v (.int .i64 (IntKind.i64.wrap ((1 : Int) + (z366 : Int))))) (.v (.int .i64 ((1 + z366 : Nat) : Int))) (eqI (by rw [IntWalk.i64_in _ (by omega)]; omega)) ?_
          refine sy_call 74 49 [.int .i64 ((1 + z366 : Nat) : Int), .int .i64 16] ?_
          intro w368 u368 e368 d368
          have k373 := k_rqFrac d368 (a := ((1 + z366 : Nat) : Int)) (b := 16) (by omega) (by omega) (by omega) (by omega)
          with_reducible refine Post.mono k373 ?_
          clear k373
          rintro _ u371 g372 ⟨r369, rfl, h370⟩
          refine sy_call 75 41 [.int .i64 0] ?_
          intro w374 u374 e374 d374
          have k379 := k_rqOf d374 (z := 0) (by omega) (by omega)
          with_reducible refine Post.mono k379 ?_
          clear k379
          rintro _ u377 g378 ⟨r375, rfl, h376⟩
          refine sy_call 76 41 [.int .i64 1] ?_
          intro w380 u380 e380 d380
          have k385 := k_rqOf d380 (z := 1) (by omega) (by omega)
          with_reducible refine Post.mono k385 ?_
          clear k385
          rintro _ u383 g384 ⟨r381, rfl, h382⟩
          refine sy_data 77 ⟨26, r369.cs ++ r375.cs ++ r381.cs⟩ 3 (fun b386 u387 e388 h389 => ?_)
          have hp390 : PolN u387 (⟨some ⟨b386, 0, none⟩, 3, 3⟩ : Sl) [(((((1 + z366 : Nat) : Int) : Int) : Rat) / ((16 : Int) : Rat)), ((0 : Int) : Rat), ((1 : Int) : Rat)] (max (max 3 2) 2) := pol_lit (L := [r369, r375, r381]) h389 (rats3 (RatN.more (L := (max (max 3 2) 2)) (h370.ext (e374.trans (g378.ext.trans (e380.trans (g384.ext.trans e388))))) (by omega)) (RatN.more (L := (max (max 3 2) 2)) (h376.ext (e380.trans (g384.ext.trans e388))) (by omega)) (RatN.more (L := (max (max 3 2) 2)) (h382.ext e388) (by omega))) rfl (by decide)
          refine sy_call 78 96 [.slice xp.a xp.n xp.c, .slice (some ⟨b386, 0, none⟩) 3 3] ?_
          intro w391 u391 e391 d391
          have k396 := k_r5Mul d391 (PolV.more (K' := 5) (hP9.ext (e363.trans (e366.trans (e368.trans (g372.ext.trans (e374.trans (g378.ext.trans (e380.trans (g384.ext.trans (e388.trans e391)))))))))).raw (by omega)) (PolV.more (K' := 5) (hp390.ext e391).raw (by omega)) (Nat.le_trans (Nt.kk_mono (Nat.le_refl _) (Nat.mul_le_mul (show _ ≤ 12 by have h9 := hRz.1; omega) (Nat.le_refl _))) (show Nt.kk (5 + 5 + 3) (12 * 3) ≤ 20000000 by decide)) (by decide) (by decide) (by have h9 := hRz.1; omega) (show 3 ≤ 100000000 by decide)
          with_reducible refine Post.mono k396 ?_
          clear k396
          rintro _ u394 g395 ⟨y392, rfl, h393⟩
          refine sy_pure 5 (.v (.slice y392.a y392.n y392.c)) ?_
          refine sy_next 81 [(5, .v (.slice y392.a y392.n y392.c)), (6, .slc 54 0 n9 cp)] [(54, ⟨26, rcs L ++ X⟩)] ?_
          refine sw_seq ?_
          refine sw_pub (r := 6) (t := 54) [6, 54] (by repeat first | exact noAt_of | refine noAt_set ?_ | refine noAt_lit ?_ | refine noAt_new ?_ | refine noAt_setVar ?_ | refine noAt_unpub ?_) (by kernel_rfl) (by rfl) (by rfl) (by kernel_rfl) (fun b397 u398 e399 hb400 hh401 => ?_)
          have hp402 : PolN u398 ⟨some ⟨b397, 0, none⟩, n9, cp⟩ rs 1 := pol_data (cs := rcs L ++ X) (n := n9) (c := cp) hh401 (by rw [← hL9, ← rcs_len, List.take_left]) hc9 hle9 hmx9 (hRo.ext (e363.trans (e366.trans (e368.trans (g372.ext.trans (e374.trans (g378.ext.trans (e380.trans (g384.ext.trans (e388.trans (e391.trans (g395.ext.trans e399))))))))))))
          refine sw_reg ?_
          refine sy_pure 79 (.v (.slice y392.a y392.n y392.c)) ?_
          refine sy_pure 80 (.v (.slice (some ⟨b397, 0, none⟩) n9 cp)) ?_
          refine sy_pure 2 (.v (.slice y392.a y392.n y392.c)) ?_
          refine sy_pure 3 (.v (.slice (some ⟨b397, 0, none⟩) n9 cp)) ?_
          refine sy_next 81 [(2, .v (.slice y392.a y392.n y392.c)), (3, .v (.slice (some ⟨b397, 0, none⟩) n9 cp))] [] ?_
          refine sw_ret (ret0 [.slice y392.a y392.n y392.c, .slice (some ⟨b397, 0, none⟩) n9 cp] ⟨res_tmp, res_tmp, trivial⟩ fun u403 e404 => ?_)
          have hfin : Nt.RFin (Nt.trimQ (Nt.mulQ pl [(((((1 + z366 : Nat) : Int) : Int) : Rat) / ((16 : Int) : Rat)), ((0 : Int) : Rat), ((1 : Int) : Rat)])) := (Nt.RSz.quad (hRz.more (by omega)) (Nt.quad_wh hz366))
          have hro : Nt.RootsP (Nt.trimQ (Nt.mulQ pl [(((((1 + z366 : Nat) : Int) : Int) : Rat) / ((16 : Int) : Rat)), ((0 : Int) : Rat), ((1 : Int) : Rat)])) rs := ⟨_, _, hM, by rw [Nt.mk_trim, Nt.Pol.mk_mul], (by have h9 := hrl; omega), .inr ⟨_, Nt.quad_pos z366, Nt.quad_wh hz366, rfl⟩⟩
          exact ⟨y392, (⟨some ⟨b397, 0, none⟩, n9, cp⟩ : Sl), _, rs, rfl, PolN.fitRF (h393.ext (e399.trans e404)) hfin, (hp402.ext e404), hfin, hro⟩
        · replace hb365 : ((z363 : Int) == 1) = false := hb365
          have qhb365 : ¬ ((z363 : Int) = 1) := by simpa using hb365
          refine sw_skip (mp_seq ?_)
          refine sw_seq ?_
          refine sw_pub (r := 6) (t := 54) [6, 54] (by repeat first | exact noAt_of | refine noAt_set ?_ | refine noAt_lit ?_ | refine noAt_new ?_ | refine noAt_setVar ?_ | refine noAt_unpub ?_) (by kernel_rfl) (by rfl) (by rfl) (by kernel_rfl) (fun b405 u406 e407 hb408 hh409 => ?_)
          have hp410 : PolN u406 ⟨some ⟨b405, 0, none⟩, n9, cp⟩ rs 1 := pol_data (cs := rcs L ++ X) (n := n9) (c := cp) hh409 (by rw [← hL9, ← rcs_len, List.take_left]) hc9 hle9 hmx9 (hRo.ext (e363.trans e407))
          refine sw_reg ?_
          refine sy_pure 79 (.v (.slice xp.a xp.n xp.c)) ?_
          refine sy_pure 80 (.v (.slice (some ⟨b405, 0, none⟩) n9 cp)) ?_
          refine sy_pure 2 (.v (.slice xp.a xp.n xp.c)) ?_
          refine sy_pure 3 (.v (.slice (some ⟨b405, 0, none⟩) n9 cp)) ?_
          refine sy_next 81 [(2, .v (.slice xp.a xp.n xp.c)), (3, .v (.slice (some ⟨b405, 0, none⟩) n9 cp))] [] ?_
          refine sw_ret (ret0 [.slice xp.a xp.n xp.c, .slice (some ⟨b405, 0, none⟩) n9 cp] ⟨res_tmp, res_tmp, trivial⟩ fun u411 e412 => ?_)
          have hfin : Nt.RFin pl := (Nt.RSz.fin (hRz.more (by omega)))
          have hro : Nt.RootsP pl rs := ⟨_, 1, hM, (Nt.Pol.mul_one _).symm, (by have h9 := hrl; omega), .inl rfl⟩
          exact ⟨xp, (⟨some ⟨b405, 0, none⟩, n9, cp⟩ : Sl), _, rs, rfl, PolN.fitRF (hP9.ext (e363.trans (e407.trans e412))) hfin, (hp410.ext e412), hfin, hro⟩
end Go.Proofs.YtnedhbidmfoegaaGreat
namespace Go.Proofs.YtnedhbidmfoegaaGreat
set_option linter.unusedVariables false
namespace Nt
section
variable {a1 a2 b1 b2 c1 c2 d1 d2 : Rat}
def hl (a b c d : Rat) : Rat := lo (lo a b) (lo c d)
def hh (a b c d : Rat) : Rat := hi (hi a b) (hi c d)
end
end Nt
end Go.Proofs.YtnedhbidmfoegaaGreat
namespace Go.Proofs.YtnedhbidmfoegaaGreat.Nt
open Go.RowKit
open Pol
set_option linter.unusedVariables false
section
variable {l : List Rat} {x a b c : Rat} {i n D A B K : Nat} {q : Pol}
theorem drop_top {α : Type} {l : List α} (d : α) (h : i < l.length) : l.drop (l.length - (i + 1)) = l.getD (l.length - 1 - i) d :: l.drop (l.length - i) := by
  rw [show l.length - (i + 1) = l.length - 1 - i by omega, List.drop_eq_getElem_cons (by omega), show l.length - 1 - i + 1 = l.length - i by omega]
  congr 1
  rw [List.getD_eq_getElem?_getD, List.getElem?_eq_getElem (by omega), Option.getD_some]
theorem ev_top (h : i < l.length) : evL (l.drop (l.length - (i + 1))) x = l.getD (l.length - 1 - i) 0 + x * evL (l.drop (l.length - i)) x := by
  rw [drop_top 0 h]; rfl
theorem ev_top0 : evL (l.drop (l.length - 0)) x = 0 := by rw [Nat.sub_zero, List.drop_length]; rfl
theorem ev_topn : evL (l.drop (l.length - l.length)) x = evL l x := by rw [Nat.sub_self]; rfl
theorem evL_trim (l : List Rat) (x : Rat) : evL (trimQ l) x = evL l x := evL_congr (trim_co l) x
theorem evL_scale (c : Rat) (l : List Rat) (x : Rat) : c * evL (l.map (· / c)) x = if c = 0 then 0 else evL l x := by
  split
  · rename_i h; rw [h, Rat.zero_mul]
  · rename_i h
    induction l with
    | nil => show c * 0 = 0; grind
    | cons y l ih =>
      show c * (y / c + x * evL (l.map (· / c)) x) = y + x * evL l x
      rw [← ih]; grind
theorem ev_parts (l : List Rat) (x : Rat) : msr (trimQ l) * evL (prim l) x = evL l x := by
  unfold prim
  rw [evL_scale]
  split
  · rename_i h
    by_cases ht : trimQ l = []
    · rw [← evL_trim, ht]; rfl
    · exact absurd h (msr_ne' ht)
  · exact evL_trim l x
end
end Go.Proofs.YtnedhbidmfoegaaGreat.Nt
namespace Go.Proofs.YtnedhbidmfoegaaGreat.Nt
open Go.RowKit
open Pol
set_option linter.unusedVariables false
section
variable {l m W : List Rat} {x q : Rat} {i A B C : Nat}
def hp (q : Rat) (i : Nat) : Rat := (((q.den ^ (i - 1) : Nat) : Int) : Rat)
def hs (W : List Rat) (q : Rat) (i : Nat) : Rat := hp q i * evL (W.drop (W.length - i)) q
theorem hp_zero (q : Rat) : hp q 0 = ((1 : Int) : Rat) := rfl
theorem hs_zero (W : List Rat) (q : Rat) : hs W q 0 = ((0 : Int) : Rat) := by unfold hs; rw [ev_top0, Rat.mul_zero]; rfl
theorem hp_succ (h : 0 < i) : hp q (i + 1) = hp q i * (((q.den : Nat) : Int) : Rat) := by
  unfold hp
  rw [show i + 1 - 1 = (i - 1) + 1 by omega, Nat.pow_succ, ← Rat.intCast_mul]
  simp
theorem num_den (q : Rat) : ((q.num : Int) : Rat) = q * (((q.den : Nat) : Int) : Rat) := by
  have h1 := dz (den_pos q)
  have h2 : mkRat q.num q.den = q := Rat.mkRat_self q
  rw [← mk_div] at h2
  grind
theorem hs_succ (h : i < W.length) : hs W q (i + 1) = hs W q i * ((q.num : Int) : Rat) + W.getD (W.length - 1 - i) 0 * hp q (i + 1) := by
  unfold hs
  rw [ev_top h]
  by_cases hi : i = 0
  · subst hi
    rw [ev_top0]; grind
  · rw [hp_succ (by omega), num_den q]; grind
theorem hp_ne (q : Rat) (i : Nat) : hp q i ≠ 0 := dz (Nat.pow_pos (den_pos q))
theorem hs_end (W : List Rat) (q : Rat) : hs W q W.length / hp q W.length = evL W q := by
  unfold hs
  rw [ev_topn]
  have := hp_ne q W.length
  grind
theorem rat_wh {K : Nat} (h : rs q ≤ K) : q.num.natAbs ≤ 2 ^ (32 * K) ∧ q.den ≤ 2 ^ (32 * K) := by
  unfold rs at h
  exact ⟨dl_bits (by omega), dl_bits (by omega)⟩
theorem hp_wh (hd : q.den ≤ 2 ^ B) (i : Nat) : Wh (hp q i) (i * B) := by
  refine (whNat (b := (i - 1) * B) ?_).more (Nat.mul_le_mul_right _ (by omega))
  rw [Nat.mul_comm, Nat.pow_mul]
  exact Nat.pow_le_pow_left hd _
theorem hs_wh (hW : WhL W A) (hn : q.num.natAbs ≤ 2 ^ B) (hd : q.den ≤ 2 ^ B) : ∀ i, i ≤ W.length → Wh (hs W q i) (A + i * (B + 1)) := by
  intro i
  induction i with
  | zero => intro _; rw [hs_zero]; exact Wh.zero _
  | succ i ih =>
    intro h
    rw [hs_succ (by omega)]
    have h1 := (ih (by omega)).mul (whInt hn)
    have h2 : Wh (hp q (i + 1)) (i * B) := by
      refine (whNat (b := (i + 1 - 1) * B) ?_)
      rw [Nat.mul_comm, Nat.pow_mul]
      exact Nat.pow_le_pow_left hd _
    have h3 := (hW (W.length - 1 - i)).mul h2
    have e : A + (i + 1) * (B + 1) = A + i * (B + 1) + B + 1 := by rw [Nat.add_mul]; omega
    rw [e]
    refine h1.add (h3.more ?_)
    have : i * B ≤ i * (B + 1) := Nat.mul_le_mul_left _ (by omega)
    omega
theorem bits_in {n : Nat} (h : i ≤ n) (hC : A + n * (B + 1) ≤ C) : A + i * (B + 1) ≤ C ∧ i * B ≤ C := by
  have h1 : i * (B + 1) ≤ n * (B + 1) := Nat.mul_le_mul_right _ h
  have h2 : i * B ≤ i * (B + 1) := Nat.mul_le_mul_left _ (by omega)
  omega
theorem Sm.mem {D : Nat} (h : Sm l D A) : ∀ y ∈ l, Wh (y * ((D : Int) : Rat)) A := fun y hy => by
  obtain ⟨j, hj, e⟩ := List.getElem_of_mem hy
  have h9 := h.2 j
  unfold Nt.co at h9
  rw [List.getD_eq_getElem?_getD, List.getElem?_eq_getElem hj, Option.getD_some, e] at h9
  exact h9
end
end Go.Proofs.YtnedhbidmfoegaaGreat.Nt
namespace Go.Proofs.YtnedhbidmfoegaaGreat
open Go.RowKit
set_option linter.unusedVariables false
set_option maxHeartbeats 2000000 in
theorem k_poEval {u w : World} {x : Sl} {l : List Rat} {r : RL} {q : Rat} {K M A C : Nat} (d : Dat u w) (hx : PolV u x l K) (hr : RatV u r q M) (hA : Nt.WhL (Nt.prim l) A) (hC : A + l.length * (32 * M + 1) ≤ C) (hC9 : C ≤ 300000000) (hK : (l.length + 1) * K ≤ 20000000) (hM : M ≤ 10000000) (hl9 : l.length ≤ 1000000) : Calls Tryz.prog 44 #[x.v, r.v] w (Post u w fun v u' => ∃ p : RL, v = p.v ∧ RatN u' p (Nt.Pol.evL l q) (l.length * K + 2 * Nt.dg C + 6)) := by
  have hlen := hx.len
  have htl := Nt.trim_len l
  have hK2 := hK
  rw [Nat.add_mul] at hK2
  have hKK : (Nt.trimQ l).length * K ≤ l.length * K := Nat.mul_le_mul_right _ htl
  have hWl : ((Nt.trimQ l).map (· / Nt.msr (Nt.trimQ l))).length = (Nt.trimQ l).length := by simp
  have hqr := hr.rs
  obtain ⟨hqn, hqd⟩ := Nt.rat_wh hqr
  have hdg : Nt.dg C ≤ 10000000 := by unfold Nt.dg; omega
  have hdg1 : 1 ≤ Nt.dg C := by unfold Nt.dg; omega
  refine calls_sym (args := [.slice x.a x.n x.c, r.v]) Tryz.func44 rfl Tryz.ntmps44 (rs := [.cell 4 26]) Tryz.results44 (le_b rfl) (le_b rfl) d ?_
  refine sw_seq ?_
  refine sw_reg ?_
  refine sy_new 3 ⟨26, r.cs⟩ ?_
  refine sy_new 4 ⟨26, [.bool false, .slice none 0 0, .slice none 0 0]⟩ ?_
  refine sy_next 64 [(0, .v (.slice x.a x.n x.c)), (3, .adr 3 0), (4, .adr 4 0)] [(3, ⟨26, r.cs⟩), (4, ⟨26, [.bool false, .slice none 0 0, .slice none 0 0]⟩)] ?_
  refine sw_seq ?_
  refine sw_reg ?_
  refine sy_pure 16 (.v (.slice x.a x.n x.c)) ?_
  refine sy_call 17 115 [.slice x.a x.n x.c] ?_
  intro w11 u11 e11 d11
  have k18 := k_split d11 (hx.ext e11) (by omega) (by first | omega | (simp; omega) | (refine Nat.le_trans (Nt.trim_len _) ?_; first | omega | (simp; omega)) | (refine Nat.le_trans (Nt.trim_len _) ?_; simp only [List.length_map]; refine Nat.le_trans (Nt.trim_len _) ?_; first | omega | (simp; omega)))
  with_reducible refine Post.mono k18 ?_
  clear k18
  rintro _ u16 g17 ⟨r12, y14, rfl, h13, h15⟩
  have hly14 : y14.n = (Nt.trimQ l).length := by have h9 := h15.len; simpa using h9
  refine sy_pure 15 (.v (.tuple #[r12.v, .slice y14.a y14.n y14.c])) ?_
  refine sy_pure 18 (.v (r12.v)) ?_
  refine sy_pure 19 (.v (.slice y14.a y14.n y14.c)) ?_
  refine sy_new 5 ⟨26, [.bool false, .slice none 0 0, .slice none 0 0]⟩ ?_
  refine sy_store ⟨26, r12.cs⟩ ty26 ?_
  refine sy_pure 6 (.v (.slice y14.a y14.n y14.c)) ?_
  refine sy_next 64 [(3, .adr 3 0), (4, .adr 4 0), (5, .adr 5 0), (6, .v (.slice y14.a y14.n y14.c))] [(3, ⟨26, r.cs⟩), (4, ⟨26, [.bool false, .slice none 0 0, .slice none 0 0]⟩), (5, ⟨26, r12.cs⟩)] ?_
  refine sw_seq ?_
  have hyn : y14.n = (Nt.trimQ l).length := hly14
  refine sw_reg ?_
  refine sy_ldv 20 (.v (r.v)) ty26 part_agg ?_
  refine sy_call 21 126 [r.v] ?_
  intro w19 u19 e19 d19
  have k24 := k_ratTrim d19 (hr.ext (e11.trans (g17.ext.trans e19))) (by omega)
  with_reducible refine Post.mono k24 ?_
  clear k24
  rintro _ u22 g23 ⟨r20, rfl, h21⟩
  refine sy_store ⟨26, r20.cs⟩ ty26 ?_
  refine sy_next 64 [(3, .adr 3 0), (4, .adr 4 0), (5, .adr 5 0), (6, .v (.slice y14.a y14.n y14.c))] [(3, ⟨26, r20.cs⟩), (4, ⟨26, [.bool false, .slice none 0 0, .slice none 0 0]⟩), (5, ⟨26, r12.cs⟩)] ?_
  refine sw_seq ?_
  refine sw_reg ?_
  refine sy_ldv 23 (.v (r20.v)) ty26 part_agg ?_
  refine sy_call 24 127 [r20.v] ?_
  intro w25 u25 e25 d25
  have k30 := k_poParts (r := r20) d25
  with_reducible refine Post.mono k30 ?_
  clear k30
  rintro _ u28 g29 ⟨y26, rfl, h27⟩
  refine sy_pure 22 (.v (.tuple #[.agg #[.bool r20.s, .slice r20.m.a r20.m.n r20.m.c, .slice y26.a y26.n y26.c], .agg #[.bool false, .slice r20.d.a r20.d.n r20.d.c, .slice y26.a y26.n y26.c]])) ?_
  refine sy_pure 25 (.v (.agg #[.bool r20.s, .slice r20.m.a r20.m.n r20.m.c, .slice y26.a y26.n y26.c])) ?_
  refine sy_pure 26 (.v (.agg #[.bool false, .slice r20.d.a r20.d.n r20.d.c, .slice y26.a y26.n y26.c])) ?_
  refine sy_new 7 ⟨26, [.bool false, .slice none 0 0, .slice none 0 0]⟩ ?_
  refine sy_new 8 ⟨26, [.bool false, .slice none 0 0, .slice none 0 0]⟩ ?_
  refine sy_store ⟨26, [.bool r20.s, .slice r20.m.a r20.m.n r20.m.c, .slice y26.a y26.n y26.c]⟩ ty26 ?_
  refine sy_store ⟨26, [.bool false, .slice r20.d.a r20.d.n r20.d.c, .slice y26.a y26.n y26.c]⟩ ty26 ?_
  refine sy_next 64 [(4, .adr 4 0), (5, .adr 5 0), (6, .v (.slice y14.a y14.n y14.c)), (7, .adr 7 0), (8, .adr 8 0)] [(4, ⟨26, [.bool false, .slice none 0 0, .slice none 0 0]⟩), (5, ⟨26, r12.cs⟩), (7, ⟨26, [.bool r20.s, .slice r20.m.a r20.m.n r20.m.c, .slice y26.a y26.n y26.c]⟩), (8, ⟨26, [.bool false, .slice r20.d.a r20.d.n r20.d.c, .slice y26.a y26.n y26.c]⟩)] ?_
  refine sw_seq ?_
  refine sw_reg ?_
  refine sy_call 27 112 [.int .i64 0] ?_
  intro w31 u31 e31 d31
  have k36 := k_ratOf d31 (z := 0) (by omega) (by omega)
  with_reducible refine Post.mono k36 ?_
  clear k36
  rintro _ u34 g35 ⟨r32, rfl, h33⟩
  refine sy_call 28 112 [.int .i64 1] ?_
  intro w37 u37 e37 d37
  have k42 := k_ratOf d37 (z := 1) (by omega) (by omega)
  with_reducible refine Post.mono k42 ?_
  clear k42
  rintro _ u40 g41 ⟨r38, rfl, h39⟩
  refine sy_new 9 ⟨26, [.bool false, .slice none 0 0, .slice none 0 0]⟩ ?_
  refine sy_new 10 ⟨26, [.bool false, .slice none 0 0, .slice none 0 0]⟩ ?_
  refine sy_store ⟨26, r32.cs⟩ ty26 ?_
  refine sy_store ⟨26, r38.cs⟩ ty26 ?_
  refine sy_next 64 [(4, .adr 4 0), (5, .adr 5 0), (6, .v (.slice y14.a y14.n y14.c)), (7, .adr 7 0), (8, .adr 8 0), (9, .adr 9 0), (10, .adr 10 0)] [(4, ⟨26, [.bool false, .slice none 0 0, .slice none 0 0]⟩), (5, ⟨26, r12.cs⟩), (7, ⟨26, [.bool r20.s, .slice r20.m.a r20.m.n r20.m.c, .slice y26.a y26.n y26.c]⟩), (8, ⟨26, [.bool false, .slice r20.d.a r20.d.n r20.d.c, .slice y26.a y26.n y26.c]⟩), (9, ⟨26, r32.cs⟩), (10, ⟨26, r38.cs⟩)] ?_
  refine sw_seq ?_
  refine sw_seq ?_
  refine sw_reg ?_
  refine sy_pure 29 (.v (.slice y14.a y14.n y14.c)) ?_
  refine sy_pure 30 (.v (.int .i64 (y14.n : Int))) ?_
  refine sy_pure 31 (.v (.int .i64 0)) ?_
  refine sy_next 64 [(4, .adr 4 0), (5, .adr 5 0), (6, .v (.slice y14.a y14.n y14.c)), (7, .adr 7 0), (8, .adr 8 0), (9, .adr 9 0), (10, .adr 10 0), (30, .v (.int .i64 (y14.n : Int))), (31, .v (.int .i64 0))] [(4, ⟨26, [.bool false, .slice none 0 0, .slice none 0 0]⟩), (5, ⟨26, r12.cs⟩), (7, ⟨26, [.bool r20.s, .slice r20.m.a r20.m.n r20.m.c, .slice y26.a y26.n y26.c]⟩), (8, ⟨26, [.bool false, .slice r20.d.a r20.d.n r20.d.c, .slice y26.a y26.n y26.c]⟩), (9, ⟨26, r32.cs⟩), (10, ⟨26, r38.cs⟩)] ?_
  refine sw_block ?_
  refine sw_loop (I := fun m43 S' u' => ∃ (i : Nat) (rs : RL) (rp : RL), (m43 = (Nt.trimQ l).length - i) ∧ (i ≤ (Nt.trimQ l).length) ∧ (S' = St.of 64 [(4, .adr 4 0), (5, .adr 5 0), (6, .v (.slice y14.a y14.n y14.c)), (7, .adr 7 0), (8, .adr 8 0), (9, .adr 9 0), (10, .adr 10 0), (30, .v (.int .i64 (y14.n : Int))), (31, .v (.int .i64 (i : Int)))] [(4, ⟨26, [.bool false, .slice none 0 0, .slice none 0 0]⟩), (5, ⟨26, r12.cs⟩), (7, ⟨26, [.bool r20.s, .slice r20.m.a r20.m.n r20.m.c, .slice y26.a y26.n y26.c]⟩), (8, ⟨26, [.bool false, .slice r20.d.a r20.d.n r20.d.c, .slice y26.a y26.n y26.c]⟩), (9, ⟨26, rs.cs⟩), (10, ⟨26, rp.cs⟩)]) ∧ (Ext u40 u') ∧ (RatN u' rs (Nt.hs ((Nt.trimQ l).map (· / Nt.msr (Nt.trimQ l))) q i) (Nt.dg C)) ∧ (RatN u' rp (Nt.hp q i) (Nt.dg C))) (fun m S u1 u2 e h => by obtain ⟨i, rs, rp, hm, p0, hS, hE, f0, f1⟩ := h; exact ⟨i, rs, rp, hm, p0, hS, hE.trans e, f0.ext e, f1.ext e⟩) _ (T := St.of 64 [(4, .adr 4 0), (5, .adr 5 0), (6, .v (.slice y14.a y14.n y14.c)), (7, .adr 7 0), (8, .adr 8 0), (9, .adr 9 0), (10, .adr 10 0), (30, .v (.int .i64 (y14.n : Int))), (31, .v (.int .i64 0))] [(4, ⟨26, [.bool false, .slice none 0 0, .slice none 0 0]⟩), (5, ⟨26, r12.cs⟩), (7, ⟨26, [.bool r20.s, .slice r20.m.a r20.m.n r20.m.c, .slice y26.a y26.n y26.c]⟩), (8, ⟨26, [.bool false, .slice r20.d.a r20.d.n r20.d.c, .slice y26.a y26.n y26.c]⟩), (9, ⟨26, r32.cs⟩), (10, ⟨26, r38.cs⟩)]) (by exact weak_mk _ _ _) ⟨0, r32, r38, rfl, Nat.zero_le _, rfl, Ext.refl _, (by rw [Nt.hs_zero]; exact RatN.fit (K := 2) (h33.ext (e37.trans g41.ext)) (Nt.whInt (z := 0) (Nat.zero_le _) : Nt.Wh ((0 : Int) : Rat) C).rs), (by rw [Nt.hp_zero]; exact RatN.fit (K := 2) h39 (Nt.whInt (z := 1) Nat.one_le_two_pow : Nt.Wh ((1 : Int) : Rat) C).rs)⟩ ?_
  rintro m43 _ u43 ⟨i, rs, rp, hm43, hi, rfl, e43, hS, hP⟩
  refine sw_seq ?_
  refine sw_reg ?_
  refine sy_pure 32 (.v (.bool (decide ((i : Int) < (y14.n : Int))))) ?_
  refine sy_next 64 [(4, .adr 4 0), (5, .adr 5 0), (6, .v (.slice y14.a y14.n y14.c)), (7, .adr 7 0), (8, .adr 8 0), (9, .adr 9 0), (10, .adr 10 0), (30, .v (.int .i64 (y14.n : Int))), (31, .v (.int .i64 (i : Int))), (32, .v (.bool (decide ((i : Int) < (y14.n : Int)))))] [(4, ⟨26, [.bool false, .slice none 0 0, .slice none 0 0]⟩), (5, ⟨26, r12.cs⟩), (7, ⟨26, [.bool r20.s, .slice r20.m.a r20.m.n r20.m.c, .slice y26.a y26.n y26.c]⟩), (8, ⟨26, [.bool false, .slice r20.d.a r20.d.n r20.d.c, .slice y26.a y26.n y26.c]⟩), (9, ⟨26, rs.cs⟩), (10, ⟨26, rp.cs⟩)] ?_
  refine sw_seq ?_
  refine sw_cond (b := decide ((i : Int) < (y14.n : Int))) (by kernel_rfl) (fun hb44 => ?_) (fun hb44 => ?_)
  · replace hb44 : (decide ((i : Int) < (y14.n : Int))) = true := hb44
    have qhb44 := of_decide_eq_true hb44
    refine sw_skip (mp_seq ?_)
    refine sw_seq ?_
    refine sw_block ?_
    refine sw_seq ?_
    refine sw_reg ?_
    refine sy_pure 33 (.v (.int .i64 (i : Int))) ?_
    refine sy_pure 11 (.v (.int .i64 (i : Int))) ?_
    refine sy_next 64 [(4, .adr 4 0), (5, .adr 5 0), (6, .v (.slice y14.a y14.n y14.c)), (7, .adr 7 0), (8, .adr 8 0), (9, .adr 9 0), (10, .adr 10 0), (11, .v (.int .i64 (i : Int))), (30, .v (.int .i64 (y14.n : Int))), (31, .v (.int .i64 (i : Int)))] [(4, ⟨26, [.bool false, .slice none 0 0, .slice none 0 0]⟩), (5, ⟨26, r12.cs⟩), (7, ⟨26, [.bool r20.s, .slice r20.m.a r20.m.n r20.m.c, .slice y26.a y26.n y26.c]⟩), (8, ⟨26, [.bool false, .slice r20.d.a r20.d.n r20.d.c, .slice y26.a y26.n y26.c]⟩), (9, ⟨26, rs.cs⟩), (10, ⟨26, rp.cs⟩)] ?_
    refine sw_seq ?_
    refine sw_seq ?_
    refine sw_reg ?_
    refine sy_pure 34 (.v (.int .i64 (i : Int))) ?_
    refine sy_pure 35 (.v (.bool (decide ((0 : Int) < (i : Int))))) ?_
    refine sy_next 64 [(4, .adr 4 0), (5, .adr 5 0), (6, .v (.slice y14.a y14.n y14.c)), (7, .adr 7 0), (8, .adr 8 0), (9, .adr 9 0), (10, .adr 10 0), (11, .v (.int .i64 (i : Int))), (30, .v (.int .i64 (y14.n : Int))), (31, .v (.int .i64 (i : Int))), (35, .v (.bool (decide ((0 : Int) < (i : Int)))))] [(4, ⟨26, [.bool false, .slice none 0 0, .slice none 0 0]⟩), (5, ⟨26, r12.cs⟩), (7, ⟨26, [.bool r20.s, .slice r20.m.a r20.m.n r20.m.c, .slice y26.a y26.n y26.c]⟩), (8, ⟨26, [.bool false, .slice r20.d.a r20.d.n r20.d.c, .slice y26.a y26.n y26.c]⟩), (9, ⟨26, rs.cs⟩), (10, ⟨26, rp.cs⟩)] ?_
    refine sw_cond (b := decide ((0 : Int) < (i : Int))) (by kernel_rfl) (fun hb45 => ?_) (fun hb45 => ?_)
    · replace hb45 : (decide ((0 : Int) < (i : Int))) = true := hb45
      have qhb45 := of_decide_eq_true hb45
      refine sw_reg ?_
      refine sy_ldv 36 (.v (rp.v)) ty26 part_agg ?_
      refine sy_ldv 37 (.v (.agg #[.bool false, .slice r20.d.a r20.d.n r20.d.c, .slice y26.a y26.n y26.c])) ty26 part_agg ?_
      refine sy_call 38 111 [rp.v, .agg #[.bool false, .slice r20.d.a r20.d.n r20.d.c, .slice y26.a y26.n y26.c]] ?_
      intro w46 u46 e46 d46
      have k51 := k_ratMul d46 (hP.ext e46).raw ((whole_rat (nat_intN (RatN.den (h21.ext (e25.trans g29.ext)))) h27).ext (e31.trans (g35.ext.trans (e37.trans (g41.ext.trans (e43.trans e46)))))).raw (by omega) (by omega)
      with_reducible refine Post.mono k51 ?_
      clear k51
      rintro _ u49 g50 ⟨r47, rfl, h48⟩
      refine sy_store ⟨26, r47.cs⟩ ty26 ?_
      refine sy_next 64 [(4, .adr 4 0), (5, .adr 5 0), (6, .v (.slice y14.a y14.n y14.c)), (7, .adr 7 0), (8, .adr 8 0), (9, .adr 9 0), (10, .adr 10 0), (11, .v (.int .i64 (i : Int))), (30, .v (.int .i64 (y14.n : Int))), (31, .v (.int .i64 (i : Int)))] [(4, ⟨26, [.bool false, .slice none 0 0, .slice none 0 0]⟩), (5, ⟨26, r12.cs⟩), (7, ⟨26, [.bool r20.s, .slice r20.m.a r20.m.n r20.m.c, .slice y26.a y26.n y26.c]⟩), (8, ⟨26, [.bool false, .slice r20.d.a r20.d.n r20.d.c, .slice y26.a y26.n y26.c]⟩), (9, ⟨26, rs.cs⟩), (10, ⟨26, r47.cs⟩)] ?_
      refine sw_seq ?_
      refine sw_reg ?_
      refine sy_pure 39 (.v (.slice y14.a y14.n y14.c)) ?_
      refine sy_pure 40 (.v (.slice y14.a y14.n y14.c)) ?_
      refine sy_pure 41 (.v (.int .i64 (y14.n : Int))) ?_
      refine sy_eq 42 (x := .v (.int .i64 (IntKind.i64.wrap ((y14.n : Int) - 1)))) (.v (.int .i64 ((y14.n - 1 : Nat) : Int))) (eqI (by rw [IntWalk.i64_in _ (by omega)]; omega)) ?_
      refine sy_pure 43 (.v (.int .i64 (i : Int))) ?_
      refine sy_eq 44 (x := .v (.int .i64 (IntKind.i64.wrap (((y14.n - 1 : Nat) : Int) - (i : Int))))) (.v (.int .i64 (((y14.n - 1) - i : Nat) : Int))) (eqI (by rw [IntWalk.i64_in _ (by omega)]; omega)) ?_
      have hl52 := (h15.ext (e19.trans (g23.ext.trans (e25.trans (g29.ext.trans (e31.trans (g35.ext.trans (e37.trans (g41.ext.trans (e43.trans (e46.trans g50.ext))))))))))).len
      obtain ⟨r52, b52, o52, hA52, hc52, hr52⟩ := pol_atN (h15.ext (e19.trans (g23.ext.trans (e25.trans (g29.ext.trans (e31.trans (g35.ext.trans (e37.trans (g41.ext.trans (e43.trans (e46.trans g50.ext))))))))))) (i := (y14.n - 1) - i) (by omega)
      refine sy_index 45 (o52 + ((y14.n - 1) - i) * 3) (n := y14.n) (off := o52) (sz := 3) (i := (((y14.n - 1) - i : Nat) : Int)) (by omega) hA52 (by omega) (by omega) sl41 ?_
      refine sy_ldn 46 r52.cs hc52 ty26 ?_
      refine sy_new 12 ⟨26, [.bool false, .slice none 0 0, .slice none 0 0]⟩ ?_
      refine sy_store ⟨26, r52.cs⟩ ty26 ?_
      refine sy_next 64 [(4, .adr 4 0), (5, .adr 5 0), (6, .v (.slice y14.a y14.n y14.c)), (7, .adr 7 0), (8, .adr 8 0), (9, .adr 9 0), (10, .adr 10 0), (12, .adr 12 0), (30, .v (.int .i64 (y14.n : Int))), (31, .v (.int .i64 (i : Int)))] [(4, ⟨26, [.bool false, .slice none 0 0, .slice none 0 0]⟩), (5, ⟨26, r12.cs⟩), (7, ⟨26, [.bool r20.s, .slice r20.m.a r20.m.n r20.m.c, .slice y26.a y26.n y26.c]⟩), (8, ⟨26, [.bool false, .slice r20.d.a r20.d.n r20.d.c, .slice y26.a y26.n y26.c]⟩), (9, ⟨26, rs.cs⟩), (10, ⟨26, r47.cs⟩), (12, ⟨26, r52.cs⟩)] ?_
      refine sw_any [0, 0, 3, 0, 0, 31, 63, 127] [(0, []), (1, []), (3, []), (4, []), (2, []), (5, []), (6, []), (7, [])] (by kernel_rfl) (by kernel_rfl) ?_
      refine sy_ldv 47 (.v (rs.v)) ty26 part_agg ?_
      refine sy_ldv 48 (.v (.agg #[.bool r20.s, .slice r20.m.a r20.m.n r20.m.c, .slice y26.a y26.n y26.c])) ty26 part_agg ?_
      refine sy_ldv 50 (.v (r52.v)) ty26 part_agg ?_
      refine sy_ldv 51 (.v (r47.v)) ty26 part_agg ?_
      refine sy_call 49 111 [rs.v, .agg #[.bool r20.s, .slice r20.m.a r20.m.n r20.m.c, .slice y26.a y26.n y26.c]] ?_
      intro w53 u53 e53 d53
      have k58 := k_ratMul d53 (hS.ext (e46.trans (g50.ext.trans e53))).raw ((whole_rat (RatN.num (h21.ext (e25.trans g29.ext))) h27).ext (e31.trans (g35.ext.trans (e37.trans (g41.ext.trans (e43.trans (e46.trans (g50.ext.trans e53)))))))).raw (by omega) (by omega)
      with_reducible refine Post.mono k58 ?_
      clear k58
      rintro _ u56 g57 ⟨r54, rfl, h55⟩
      refine sy_call 52 111 [r52.v, r47.v] ?_
      intro w59 u59 e59 d59
      have k64 := k_ratMul d59 (hr52.ext (e53.trans (g57.ext.trans e59))).raw (h48.ext (e53.trans (g57.ext.trans e59))).raw (by omega) (by omega)
      with_reducible refine Post.mono k64 ?_
      clear k64
      rintro _ u62 g63 ⟨r60, rfl, h61⟩
      refine sy_call 53 104 [r54.v, r60.v] ?_
      intro w65 u65 e65 d65
      have k70 := k_ratAdd d65 (h55.ext (e59.trans (g63.ext.trans e65))).raw (h61.ext e65).raw (by omega) (by omega)
      with_reducible refine Post.mono k70 ?_
      clear k70
      rintro _ u68 g69 ⟨r66, rfl, h67⟩
      refine sy_store ⟨26, r66.cs⟩ ty26 ?_
      refine sy_end ?_
      refine mp_seq ?_
      refine sw_reg ?_
      refine sy_eq 54 (x := .v (.int .i64 (IntKind.i64.wrap ((i : Int) + 1)))) (.v (.int .i64 ((i + 1 : Nat) : Int))) (eqI (by rw [IntWalk.i64_in _ (by omega)]; omega)) ?_
      refine sy_pure 31 (.v (.int .i64 ((i + 1 : Nat) : Int))) ?_
      refine sy_end ?_
      have hi1 : i < ((Nt.trimQ l).map (· / Nt.msr (Nt.trimQ l))).length := by rw [hWl]; omega
      have hb9 := Nt.bits_in (i := i + 1) (n := l.length) (B := 32 * M) (by omega) hC
      have hw9 := ((Nt.hs_wh (W := ((Nt.trimQ l).map (· / Nt.msr (Nt.trimQ l)))) (q := q) hA hqn hqd (i + 1) hi1).more hb9.1).rs
      have hw8 := ((Nt.hp_wh hqd (i + 1)).more hb9.2).rs
      have hps : Nt.hp q (i + 1) = ((Nt.hp q i) * (((q.den : Nat) : Int) : Rat)) := Nt.hp_succ (by omega)
      have hss : Nt.hs ((Nt.trimQ l).map (· / Nt.msr (Nt.trimQ l))) q (i + 1) = (((Nt.hs ((Nt.trimQ l).map (· / Nt.msr (Nt.trimQ l))) q i) * ((q.num : Int) : Rat)) + ((((Nt.trimQ l).map (· / Nt.msr (Nt.trimQ l))).getD ((y14.n - 1) - i) 0) * ((Nt.hp q i) * (((q.den : Nat) : Int) : Rat)))) := by rw [Nt.hs_succ hi1, hps, hWl, ← hyn]
      refine ⟨_, ?_, St.of 64 [(4, .adr 4 0), (5, .adr 5 0), (6, .v (.slice y14.a y14.n y14.c)), (7, .adr 7 0), (8, .adr 8 0), (9, .adr 9 0), (10, .adr 10 0), (30, .v (.int .i64 (y14.n : Int))), (31, .v (.int .i64 ((i + 1 : Nat) : Int)))] [(4, ⟨26, [.bool false, .slice none 0 0, .slice none 0 0]⟩), (5, ⟨26, r12.cs⟩), (7, ⟨26, [.bool r20.s, .slice r20.m.a r20.m.n r20.m.c, .slice y26.a y26.n y26.c]⟩), (8, ⟨26, [.bool false, .slice r20.d.a r20.d.n r20.d.c, .slice y26.a y26.n y26.c]⟩), (9, ⟨26, r66.cs⟩), (10, ⟨26, r47.cs⟩)], by exact weak_mk _ _ _, i + 1, r66, r47, rfl, by omega, rfl, (e43.trans (e46.trans (g50.ext.trans (e53.trans (g57.ext.trans (e59.trans (g63.ext.trans (e65.trans g69.ext)))))))), (by rw [hss] at hw9 ⊢; exact RatN.fit (K := (((Nt.dg C) + (max M 1)) + ((K + ((Nt.trimQ l).length * K + 2)) + ((Nt.dg C) + (max M 1))) + 1)) h67 hw9), (by rw [hps] at hw8 ⊢; exact RatN.fit (K := ((Nt.dg C) + (max M 1))) (h48.ext (e53.trans (g57.ext.trans (e59.trans (g63.ext.trans (e65.trans g69.ext)))))) hw8)⟩
      omega
    · replace hb45 : (decide ((0 : Int) < (i : Int))) = false := hb45
      have qhb45 := of_decide_eq_false hb45
      refine sw_skip (mp_seq ?_)
      refine sw_seq ?_
      refine sw_reg ?_
      refine sy_pure 39 (.v (.slice y14.a y14.n y14.c)) ?_
      refine sy_pure 40 (.v (.slice y14.a y14.n y14.c)) ?_
      refine sy_pure 41 (.v (.int .i64 (y14.n : Int))) ?_
      refine sy_eq 42 (x := .v (.int .i64 (IntKind.i64.wrap ((y14.n : Int) - 1)))) (.v (.int .i64 ((y14.n - 1 : Nat) : Int))) (eqI (by rw [IntWalk.i64_in _ (by omega)]; omega)) ?_
      refine sy_pure 43 (.v (.int .i64 (i : Int))) ?_
      refine sy_eq 44 (x := .v (.int .i64 (IntKind.i64.wrap (((y14.n - 1 : Nat) : Int) - (i : Int))))) (.v (.int .i64 (((y14.n - 1) - i : Nat) : Int))) (eqI (by rw [IntWalk.i64_in _ (by omega)]; omega)) ?_
      have hl71 := (h15.ext (e19.trans (g23.ext.trans (e25.trans (g29.ext.trans (e31.trans (g35.ext.trans (e37.trans (g41.ext.trans e43))))))))).len
      obtain ⟨r71, b71, o71, hA71, hc71, hr71⟩ := pol_atN (h15.ext (e19.trans (g23.ext.trans (e25.trans (g29.ext.trans (e31.trans (g35.ext.trans (e37.trans (g41.ext.trans e43))))))))) (i := (y14.n - 1) - i) (by omega)
      refine sy_index 45 (o71 + ((y14.n - 1) - i) * 3) (n := y14.n) (off := o71) (sz := 3) (i := (((y14.n - 1) - i : Nat) : Int)) (by omega) hA71 (by omega) (by omega) sl41 ?_
      refine sy_ldn 46 r71.cs hc71 ty26 ?_
      refine sy_new 12 ⟨26, [.bool false, .slice none 0 0, .slice none 0 0]⟩ ?_
      refine sy_store ⟨26, r71.cs⟩ ty26 ?_
      refine sy_next 64 [(4, .adr 4 0), (5, .adr 5 0), (6, .v (.slice y14.a y14.n y14.c)), (7, .adr 7 0), (8, .adr 8 0), (9, .adr 9 0), (10, .adr 10 0), (12, .adr 12 0), (30, .v (.int .i64 (y14.n : Int))), (31, .v (.int .i64 (i : Int)))] [(4, ⟨26, [.bool false, .slice none 0 0, .slice none 0 0]⟩), (5, ⟨26, r12.cs⟩), (7, ⟨26, [.bool r20.s, .slice r20.m.a r20.m.n r20.m.c, .slice y26.a y26.n y26.c]⟩), (8, ⟨26, [.bool false, .slice r20.d.a r20.d.n r20.d.c, .slice y26.a y26.n y26.c]⟩), (9, ⟨26, rs.cs⟩), (10, ⟨26, rp.cs⟩), (12, ⟨26, r71.cs⟩)] ?_
      refine sw_any [0, 0, 3, 0, 0, 31, 63, 127] [(0, []), (1, []), (3, []), (4, []), (2, []), (5, []), (6, []), (7, [])] (by kernel_rfl) (by kernel_rfl) ?_
      refine sy_ldv 47 (.v (rs.v)) ty26 part_agg ?_
      refine sy_ldv 48 (.v (.agg #[.bool r20.s, .slice r20.m.a r20.m.n r20.m.c, .slice y26.a y26.n y26.c])) ty26 part_agg ?_
      refine sy_ldv 50 (.v (r71.v)) ty26 part_agg ?_
      refine sy_ldv 51 (.v (rp.v)) ty26 part_agg ?_
      refine sy_call 49 111 [rs.v, .agg #[.bool r20.s, .slice r20.m.a r20.m.n r20.m.c, .slice y26.a y26.n y26.c]] ?_
      intro w72 u72 e72 d72
      have k77 := k_ratMul d72 (hS.ext e72).raw ((whole_rat (RatN.num (h21.ext (e25.trans g29.ext))) h27).ext (e31.trans (g35.ext.trans (e37.trans (g41.ext.trans (e43.trans e72)))))).raw (by omega) (by omega)
      with_reducible refine Post.mono k77 ?_
      clear k77
      rintro _ u75 g76 ⟨r73, rfl, h74⟩
      refine sy_call 52 111 [r71.v, rp.v] ?_
      intro w78 u78 e78 d78
      have k83 := k_ratMul d78 (hr71.ext (e72.trans (g76.ext.trans e78))).raw (hP.ext (e72.trans (g76.ext.trans e78))).raw (by omega) (by omega)
      with_reducible refine Post.mono k83 ?_
      clear k83
      rintro _ u81 g82 ⟨r79, rfl, h80⟩
      refine sy_call 53 104 [r73.v, r79.v] ?_
      intro w84 u84 e84 d84
      have k89 := k_ratAdd d84 (h74.ext (e78.trans (g82.ext.trans e84))).raw (h80.ext e84).raw (by omega) (by omega)
      with_reducible refine Post.mono k89 ?_
      clear k89
      rintro _ u87 g88 ⟨r85, rfl, h86⟩
      refine sy_store ⟨26, r85.cs⟩ ty26 ?_
      refine sy_end ?_
      refine mp_seq ?_
      refine sw_reg ?_
      refine sy_eq 54 (x := .v (.int .i64 (IntKind.i64.wrap ((i : Int) + 1)))) (.v (.int .i64 ((i + 1 : Nat) : Int))) (eqI (by rw [IntWalk.i64_in _ (by omega)]; omega)) ?_
      refine sy_pure 31 (.v (.int .i64 ((i + 1 : Nat) : Int))) ?_
      refine sy_end ?_
      have hi1 : i < ((Nt.trimQ l).map (· / Nt.msr (Nt.trimQ l))).length := by rw [hWl]; omega
      have hb9 := Nt.bits_in (i := i + 1) (n := l.length) (B := 32 * M) (by omega) hC
      have hw9 := ((Nt.hs_wh (W := ((Nt.trimQ l).map (· / Nt.msr (Nt.trimQ l)))) (q := q) hA hqn hqd (i + 1) hi1).more hb9.1).rs
      have hw8 := ((Nt.hp_wh hqd (i + 1)).more hb9.2).rs
      have hps : Nt.hp q (i + 1) = (Nt.hp q i) := (by have hi0 : i = 0 := (by omega); rw [hi0]; rfl)
      have hss : Nt.hs ((Nt.trimQ l).map (· / Nt.msr (Nt.trimQ l))) q (i + 1) = (((Nt.hs ((Nt.trimQ l).map (· / Nt.msr (Nt.trimQ l))) q i) * ((q.num : Int) : Rat)) + ((((Nt.trimQ l).map (· / Nt.msr (Nt.trimQ l))).getD ((y14.n - 1) - i) 0) * (Nt.hp q i))) := by rw [Nt.hs_succ hi1, hps, hWl, ← hyn]
      refine ⟨_, ?_, St.of 64 [(4, .adr 4 0), (5, .adr 5 0), (6, .v (.slice y14.a y14.n y14.c)), (7, .adr 7 0), (8, .adr 8 0), (9, .adr 9 0), (10, .adr 10 0), (30, .v (.int .i64 (y14.n : Int))), (31, .v (.int .i64 ((i + 1 : Nat) : Int)))] [(4, ⟨26, [.bool false, .slice none 0 0, .slice none 0 0]⟩), (5, ⟨26, r12.cs⟩), (7, ⟨26, [.bool r20.s, .slice r20.m.a r20.m.n r20.m.c, .slice y26.a y26.n y26.c]⟩), (8, ⟨26, [.bool false, .slice r20.d.a r20.d.n r20.d.c, .slice y26.a y26.n y26.c]⟩), (9, ⟨26, r85.cs⟩), (10, ⟨26, rp.cs⟩)], by exact weak_mk _ _ _, i + 1, r85, rp, rfl, by omega, rfl, (e43.trans (e72.trans (g76.ext.trans (e78.trans (g82.ext.trans (e84.trans g88.ext)))))), (by rw [hss] at hw9 ⊢; exact RatN.fit (K := (((Nt.dg C) + (max M 1)) + ((K + ((Nt.trimQ l).length * K + 2)) + (Nt.dg C)) + 1)) h86 hw9), (by rw [hps] at hw8 ⊢; exact RatN.fit (K := (Nt.dg C)) (hP.ext (e72.trans (g76.ext.trans (e78.trans (g82.ext.trans (e84.trans g88.ext)))))) hw8)⟩
      omega
  · replace hb44 : (decide ((i : Int) < (y14.n : Int))) = false := hb44
    have qhb44 := of_decide_eq_false hb44
    refine sw_exit ?_
    refine mp_seq ?_
    refine sw_seq ?_
    refine sw_reg ?_
    refine sy_ldv 56 (.v (rs.v)) ty26 part_agg ?_
    refine sy_ldv 57 (.v (rp.v)) ty26 part_agg ?_
    refine sy_call 58 99 [rs.v, rp.v] ?_
    intro w90 u90 e90 d90
    have k95 := k_ratDiv1 d90 (hS.ext e90).raw (hP.ext e90).raw (Nt.hp_ne q i) (by omega) (by omega)
    with_reducible refine Post.mono k95 ?_
    clear k95
    rintro _ u93 g94 ⟨r91, rfl, h92⟩
    refine sy_pure 55 (.v (.tuple #[r91.v, .int .i64 0])) ?_
    refine sy_pure 59 (.v (r91.v)) ?_
    refine sy_pure 60 (.v (.int .i64 0)) ?_
    refine sy_new 13 ⟨26, [.bool false, .slice none 0 0, .slice none 0 0]⟩ ?_
    refine sy_store ⟨26, r91.cs⟩ ty26 ?_
    refine sy_pure 14 (.v (.int .i64 0)) ?_
    refine sy_next 64 [(4, .adr 4 0), (5, .adr 5 0), (13, .adr 13 0)] [(4, ⟨26, [.bool false, .slice none 0 0, .slice none 0 0]⟩), (5, ⟨26, r12.cs⟩), (13, ⟨26, r91.cs⟩)] ?_
    refine sw_seq ?_
    refine sw_reg ?_
    refine sy_ldv 61 (.v (r12.v)) ty26 part_agg ?_
    refine sy_ldv 62 (.v (r91.v)) ty26 part_agg ?_
    refine sy_call 63 111 [r12.v, r91.v] ?_
    intro w96 u96 e96 d96
    have k101 := k_ratMul d96 (h13.ext (e19.trans (g23.ext.trans (e25.trans (g29.ext.trans (e31.trans (g35.ext.trans (e37.trans (g41.ext.trans (e43.trans (e90.trans (g94.ext.trans e96)))))))))))).raw (h92.ext e96).raw (by omega) (by omega)
    with_reducible refine Post.mono k101 ?_
    clear k101
    rintro _ u99 g100 ⟨r97, rfl, h98⟩
    refine sy_store ⟨26, r97.cs⟩ ty26 ?_
    refine sy_next 64 [(4, .adr 4 0)] [(4, ⟨26, r97.cs⟩)] ?_
    refine sw_ret (ret0 [r97.v] ⟨res_cell ty26 part_agg, trivial⟩ fun u102 e103 => ?_)
    have hin : i = (Nt.trimQ l).length := by omega
    have e9 : Nt.Pol.evL l q = Nt.msr (Nt.trimQ l) * (Nt.hs ((Nt.trimQ l).map (· / Nt.msr (Nt.trimQ l))) q i / Nt.hp q i) := by rw [hin, ← hWl, Nt.hs_end]; exact (Nt.ev_parts l q).symm
    refine ⟨r97, rfl, RatN.more (K := (((Nt.trimQ l).length * K + 2) + ((Nt.dg C) + (Nt.dg C)))) ?_ (by omega)⟩
    rw [e9]
    exact (h98.ext e103)
end Go.Proofs.YtnedhbidmfoegaaGreat
namespace Go.Proofs.YtnedhbidmfoegaaGreat.Nt
open Go.RowKit
open Pol
set_option linter.unusedVariables false
section
variable {p q r : List Rat} {g h u v : Pol} {x y : Rat} {n : Int}
theorem gcd_len {a b : Nat} (hg : IsGcd (mk' p) (mk' q) g) (h1 : p.length ≤ a) (h2 : q.length ≤ b) : g.l.length ≤ max a b := by
  have e1 := mk_len p
  have e2 := mk_len q
  by_cases hp : mk' p = 0
  · by_cases hq : mk' q = 0
    · obtain ⟨s, t, e⟩ := hg.s
      rw [hp, hq, mul_zero, mul_zero, add_zero] at e
      rw [e, zero_l]; exact Nat.zero_le _
    · have h9 : g.l.length ≤ (mk' q).len := len_dvd hg.r hq
      omega
  · have h9 : g.l.length ≤ (mk' p).len := len_dvd hg.l hp
    omega
end
end Go.Proofs.YtnedhbidmfoegaaGreat.Nt
namespace Go.Proofs.YtnedhbidmfoegaaGreat
open Go.RowKit
set_option linter.unusedVariables false
theorem sg_no {x : Rat} (h : x = 0) : (!(Nt.sgQ x == 0)) = false := by rw [Nt.sgQ_eq, decide_eq_true h]; rfl
theorem sg_ne {x : Rat} (h : x ≠ 0) : (Nt.sgQ x == 0) = false := by rw [Nt.sgQ_eq, decide_eq_false h]
theorem at_mem {l : List Rat} {i : Nat} (h : i < l.length) : l.getD i 0 ∈ l := by
  rw [show l.getD i 0 = l[i] from by simp [List.getD, h]]
  exact List.getElem_mem h
theorem deg_or {s : Nt.Pol} {a n : Nat} (h : s.len = a + 1 ∨ s.len = a + 3) (hn : n = a) (hf : ((((Nt.trimQ s.l).length : Int) - 1) == (n : Int)) = false) : ((((Nt.trimQ s.l).length : Int) - 1) == ((n + 2 : Nat) : Int)) = true := by
  have e : (Nt.trimQ s.l).length = s.len := congrArg List.length s.h
  rw [e] at hf ⊢
  have h1 := of_decide_eq_false hf
  exact decide_eq_true (by omega)
theorem gcd_one {s g : Nt.Pol} {n : Nat} (h : ∀ g, Nt.Pol.IsGcd s s.D g → g.len ≤ 1) (hg : Nt.Pol.IsGcd (Nt.Pol.mk' s.l) (Nt.Pol.mk' (Nt.trimQ (Nt.derQ s.l))) g) (hn : n = g.l.length) : decide ((n : Int) ≤ 1) = true := by
  rw [Nt.Pol.mk_l, Nt.mk_trim] at hg
  have h1 : g.l.length ≤ 1 := h g hg
  exact decide_eq_true (by omega)
set_option maxHeartbeats 16000000 in
theorem w_sqfs {u w : World} {x : Sl} {l : List Int} (d : Dat u w) (hx : SlR .i64 u x.a x.n x.c l) (hb : ∀ z ∈ l, -9223372036854775808 ≤ z ∧ z ≤ 9223372036854775807) : Calls Tryz.prog 6 #[x.v] w (Post u w fun v _ => v = .bool true) := by
  refine calls_sym (args := [.slice x.a x.n x.c]) Tryz.func6 rfl Tryz.ntmps6 (rs := [.tmp 2]) Tryz.results6 (le_b rfl) (le_b rfl) d ?_
  refine sw_seq ?_
  refine sw_reg ?_
  refine sy_pure 2 (.v (.bool false)) ?_
  refine sy_next 60 [(0, .v (.slice x.a x.n x.c))] [] ?_
  refine sw_seq ?_
  refine sw_reg ?_
  refine sy_pure 10 (.v (.slice x.a x.n x.c)) ?_
  refine sy_call 11 38 [.slice x.a x.n x.c] ?_
  intro w11 u11 e11 d11
  have k15 := k_rooted d11 (hx.ext e11) hb
  with_reducible refine Post.mono k15 ?_
  clear k15
  rintro _ u13 g14 ⟨y12, z12, pl12, rs12, rfl, ha12, hb12, hf12, hro12⟩
  have hly12 := ha12.len
  have hlz12 := hb12.len
  refine sy_pure 9 (.v (.tuple #[.slice y12.a y12.n y12.c, .slice z12.a z12.n z12.c])) ?_
  refine sy_pure 12 (.v (.slice y12.a y12.n y12.c)) ?_
  refine sy_pure 13 (.v (.slice z12.a z12.n z12.c)) ?_
  refine sy_pure 3 (.v (.slice y12.a y12.n y12.c)) ?_
  refine sy_pure 4 (.v (.slice z12.a z12.n z12.c)) ?_
  refine sy_next 60 [(3, .v (.slice y12.a y12.n y12.c)), (4, .v (.slice z12.a z12.n z12.c))] [] ?_
  refine sw_seq ?_
  obtain ⟨hq9, D9, hD9, hs9⟩ := hf12
  refine sw_reg ?_
  refine sy_pure 14 (.v (.slice y12.a y12.n y12.c)) ?_
  refine sy_call 15 36 [.slice y12.a y12.n y12.c] ?_
  intro w16 u16 e16 d16
  have k20 := k_poSquarefree (l := pl12) (A := 67) (H := 20864278) (N := 12) (C := 271235694) d16 (ha12.ext e16).raw (Nt.WhL.more hs9.prim (by decide)) (((Nt.Sm.der (b := 4) hs9 (Nat.le_trans hq9 (by decide))).trim).prim) (Nat.le_trans (Nat.mul_le_mul_left _ (Nat.pow_le_pow_right (by decide) (show 2 * (pl12.length - 1) + 1 ≤ 23 by have h9 := hq9; omega))) (by decide +kernel)) (by decide) hq9 (by decide +kernel) (by have h9 := hq9; omega) (by decide) (by have h9 := hq9; omega) (by have h9 := hq9; have h8 : Nt.dg 271235694 = 8476116 := (by decide +kernel); have h7 : Nt.dg 20864278 = 652009 := (by decide +kernel); omega) (by decide)
  with_reducible refine Post.mono k20 ?_
  clear k20
  rintro _ u18 g19 ⟨z17, s17, rfl, hz17, hsq17⟩
  have hlz17 := hz17.len
  obtain ⟨la17, lb17, lc17, ld17, le17, E17, lf17, lg17⟩ := Nt.roots_law hro12 hsq17
  have hk21 : PolN _ z17 s17.l 1 := PolN.fitS hz17 lg17 lf17
  refine sy_pure 5 (.v (.slice z17.a z17.n z17.c)) ?_
  refine sy_next 60 [(4, .v (.slice z12.a z12.n z12.c)), (5, .v (.slice z17.a z17.n z17.c))] [] ?_
  refine sw_seq ?_
  refine sw_seq ?_
  refine sw_reg ?_
  refine sy_pure 16 (.v (.slice z12.a z12.n z12.c)) ?_
  refine sy_pure 17 (.v (.int .i64 (z12.n : Int))) ?_
  refine sy_pure 18 (.v (.int .i64 0)) ?_
  refine sy_next 60 [(4, .v (.slice z12.a z12.n z12.c)), (5, .v (.slice z17.a z17.n z17.c)), (16, .v (.slice z12.a z12.n z12.c)), (17, .v (.int .i64 (z12.n : Int))), (18, .v (.int .i64 0))] [] ?_
  refine sw_block ?_
  refine sw_loop (I := fun m22 S' u' => ∃ (i : Nat), (m22 = rs12.length - i) ∧ (i ≤ rs12.length) ∧ (S' = St.of 60 [(4, .v (.slice z12.a z12.n z12.c)), (5, .v (.slice z17.a z17.n z17.c)), (16, .v (.slice z12.a z12.n z12.c)), (17, .v (.int .i64 (z12.n : Int))), (18, .v (.int .i64 (i : Int)))] []) ∧ (Ext u18 u')) (fun m S u1 u2 e h => by obtain ⟨i, hm, p0, hS, hE⟩ := h; exact ⟨i, hm, p0, hS, hE.trans e⟩) _ (T := St.of 60 [(4, .v (.slice z12.a z12.n z12.c)), (5, .v (.slice z17.a z17.n z17.c)), (16, .v (.slice z12.a z12.n z12.c)), (17, .v (.int .i64 (z12.n : Int))), (18, .v (.int .i64 0))] []) (by exact weak_mk _ _ _) ⟨0, rfl, Nat.zero_le _, rfl, Ext.refl _⟩ ?_
  rintro m22 _ u22 ⟨i, hm22, hi, rfl, e22⟩
  refine sw_seq ?_
  refine sw_reg ?_
  refine sy_pure 19 (.v (.bool (decide ((i : Int) < (z12.n : Int))))) ?_
  refine sy_next 60 [(4, .v (.slice z12.a z12.n z12.c)), (5, .v (.slice z17.a z17.n z17.c)), (16, .v (.slice z12.a z12.n z12.c)), (17, .v (.int .i64 (z12.n : Int))), (18, .v (.int .i64 (i : Int))), (19, .v (.bool (decide ((i : Int) < (z12.n : Int)))))] [] ?_
  refine sw_seq ?_
  refine sw_cond (b := decide ((i : Int) < (z12.n : Int))) (by kernel_rfl) (fun hb23 => ?_) (fun hb23 => ?_)
  · replace hb23 : (decide ((i : Int) < (z12.n : Int))) = true := hb23
    have qhb23 := of_decide_eq_true hb23
    refine sw_skip (mp_seq ?_)
    refine sw_seq ?_
    refine sw_block ?_
    refine sw_seq ?_
    refine sw_reg ?_
    have hl24 := (hb12.ext (e16.trans (g19.ext.trans e22))).len
    obtain ⟨r24, b24, o24, hA24, hc24, hr24⟩ := pol_atN (hb12.ext (e16.trans (g19.ext.trans e22))) (i := i) (by omega)
    refine sy_index 20 (o24 + i * 3) (n := z12.n) (off := o24) (sz := 3) (i := (i : Int)) (by omega) hA24 (by omega) (by omega) sl40 ?_
    refine sy_ldn 21 r24.cs hc24 ty26 ?_
    refine sy_new 7 ⟨26, [.bool false, .slice none 0 0, .slice none 0 0]⟩ ?_
    refine sy_store ⟨26, r24.cs⟩ ty26 ?_
    refine sy_next 60 [(4, .v (.slice z12.a z12.n z12.c)), (5, .v (.slice z17.a z17.n z17.c)), (7, .adr 7 0), (16, .v (.slice z12.a z12.n z12.c)), (17, .v (.int .i64 (z12.n : Int))), (18, .v (.int .i64 (i : Int)))] [(7, ⟨26, r24.cs⟩)] ?_
    refine sw_seq ?_
    refine sw_any [0, 0, 3, 7, 15, 31, 63, 127, 63, 511, 1023, 2047, 4095] [(0, []), (1, []), (2, []), (3, []), (4, []), (5, []), (6, []), (8, []), (7, []), (9, []), (10, []), (11, []), (12, [])] (by kernel_rfl) (by kernel_rfl) ?_
    refine sy_pure 22 (.v (.slice z17.a z17.n z17.c)) ?_
    refine sy_ldv 23 (.v (r24.v)) ty26 part_agg ?_
    refine sy_call 24 44 [.slice z17.a z17.n z17.c, r24.v] ?_
    intro w25 u25 e25 d25
    have k31 := k_poEval (C := 223) d25 (hk21.ext (e22.trans e25)).raw (hr24.ext e25).raw (lg17).prim (by have h9 := ld17; omega) (by decide) (by have h9 := ld17; omega) (by decide) (by have h9 := ld17; omega)
    with_reducible refine Post.mono k31 ?_
    clear k31
    rintro _ u29 g30 ⟨r26, rfl, h27⟩
    replace h27 : RatN _ r26 (Nt.Pol.evL s17.l (rs12.getD i 0)) 26 := RatN.more h27 (by have h9 := ld17; have h8 : Nt.dg 223 = 7 := (by decide +kernel); omega)
    refine sy_call 25 43 [r26.v] ?_
    intro w32 u32 e32 d32
    have k35 := k_rqSign d32 (h27.ext e32).raw (by omega)
    with_reducible refine Post.mono k35 ?_
    clear k35
    rintro _ u33 g34 rfl
    refine sy_pure 26 (.v (.bool ((Nt.sgQ (Nt.Pol.evL s17.l (rs12.getD i 0))) != 0))) ?_
    refine sy_eq 27 (x := .v (.bool ((Nt.sgQ (Nt.Pol.evL s17.l (rs12.getD i 0))) != 0))) (.v (.bool false)) (by rw [show ((Nt.sgQ (Nt.Pol.evL s17.l (rs12.getD i 0))) != 0) = false from (sg_no (la17 _ (at_mem (by omega))).1)]) ?_
    refine sy_pure 28 (.v (.slice z17.a z17.n z17.c)) ?_ (hw := wants1 (g := 5) (b := false) (t := 27) (by kernel_rfl) (by kernel_rfl) (by kernel_rfl))
    refine sy_ldv 30 (.v (r24.v)) ty26 part_agg ?_ (hw := wants1 (g := 5) (b := false) (t := 27) (by kernel_rfl) (by kernel_rfl) (by kernel_rfl))
    refine sy_call 29 34 [.slice z17.a z17.n z17.c] ?_ (hw := wants1 (g := 5) (b := false) (t := 27) (by kernel_rfl) (by kernel_rfl) (by kernel_rfl))
    intro w37 u37 e37 d37
    have k42 := k_poDerivative d37 (hk21.ext (e22.trans (e25.trans (g30.ext.trans (e32.trans (g34.ext.trans e37)))))).raw (by omega) (by have h9 := ld17; omega)
    with_reducible refine Post.mono k42 ?_
    clear k42
    rintro _ u40 g41 ⟨y38, rfl, h39⟩
    have hly38 := h39.len
    have hm43 : (Nt.trimQ (Nt.derQ s17.l)).length ≤ 5 := Nt.der_lenQ ld17
    have hs44 : Nt.Sm (Nt.trimQ (Nt.derQ s17.l)) (E17) 28 := ((Nt.Sm.der (b := 3) lg17 (Nat.le_trans ld17 (by decide))).trim)
    have hk45 : PolN _ y38 (Nt.trimQ (Nt.derQ s17.l)) 1 := PolN.fitS h39 hs44 (by first | decide +kernel | exact Nat.le_trans (by assumption) (Nat.pow_le_pow_right (by decide) (by decide)))
    refine sy_call 31 44 [.slice y38.a y38.n y38.c, r24.v] ?_ (hw := wants1 (g := 5) (b := false) (t := 27) (by kernel_rfl) (by kernel_rfl) (by kernel_rfl))
    intro w46 u46 e46 d46
    have k52 := k_poEval (C := 193) d46 (hk45.ext e46).raw (hr24.ext (e25.trans (g30.ext.trans (e32.trans (g34.ext.trans (e37.trans (g41.ext.trans e46))))))).raw (hs44).prim (by have h9 := hm43; omega) (by decide) (by have h9 := hm43; omega) (by decide) (by have h9 := hm43; omega)
    with_reducible refine Post.mono k52 ?_
    clear k52
    rintro _ u50 g51 ⟨r47, rfl, h48⟩
    replace h48 : RatN _ r47 (Nt.Pol.evL (Nt.trimQ (Nt.derQ s17.l)) (rs12.getD i 0)) 25 := RatN.more h48 (by have h9 := hm43; have h8 : Nt.dg 193 = 7 := (by decide +kernel); omega)
    refine sy_call 32 43 [r47.v] ?_ (hw := wants1 (g := 5) (b := false) (t := 27) (by kernel_rfl) (by kernel_rfl) (by kernel_rfl))
    intro w53 u53 e53 d53
    have k56 := k_rqSign d53 (h48.ext e53).raw (by omega)
    with_reducible refine Post.mono k56 ?_
    clear k56
    rintro _ u54 g55 rfl
    refine sy_pure 33 (.v (.bool ((Nt.sgQ (Nt.Pol.evL (Nt.trimQ (Nt.derQ s17.l)) (rs12.getD i 0))) == 0))) ?_ (hw := wants1 (g := 5) (b := false) (t := 27) (by kernel_rfl) (by kernel_rfl) (by kernel_rfl))
    refine sy_pure 34 (.v (.bool ((Nt.sgQ (Nt.Pol.evL (Nt.trimQ (Nt.derQ s17.l)) (rs12.getD i 0))) == 0))) ?_
    refine sy_next 60 [(4, .v (.slice z12.a z12.n z12.c)), (5, .v (.slice z17.a z17.n z17.c)), (16, .v (.slice z12.a z12.n z12.c)), (17, .v (.int .i64 (z12.n : Int))), (18, .v (.int .i64 (i : Int))), (34, .v (.bool ((Nt.sgQ (Nt.Pol.evL (Nt.trimQ (Nt.derQ s17.l)) (rs12.getD i 0))) == 0)))] [] ?_
    refine sw_cond (b := (Nt.sgQ (Nt.Pol.evL (Nt.trimQ (Nt.derQ s17.l)) (rs12.getD i 0))) == 0) (by kernel_rfl) (fun hb => ?_) (fun hb => ?_)
    · exact absurd hb (by rw [show ((Nt.sgQ (Nt.Pol.evL (Nt.trimQ (Nt.derQ s17.l)) (rs12.getD i 0))) == 0) = false from (sg_ne (la17 _ (at_mem (by omega))).2)]; decide)
    · clear hb
      refine sw_skip (mp_seq ?_)
      refine sw_reg ?_
      refine sy_eq 35 (x := .v (.int .i64 (IntKind.i64.wrap ((i : Int) + 1)))) (.v (.int .i64 ((i + 1 : Nat) : Int))) (eqI (by rw [IntWalk.i64_in _ (by omega)]; omega)) ?_
      refine sy_pure 18 (.v (.int .i64 ((i + 1 : Nat) : Int))) ?_
      refine sy_end ?_
      refine ⟨_, ?_, St.of 60 [(4, .v (.slice z12.a z12.n z12.c)), (5, .v (.slice z17.a z17.n z17.c)), (16, .v (.slice z12.a z12.n z12.c)), (17, .v (.int .i64 (z12.n : Int))), (18, .v (.int .i64 ((i + 1 : Nat) : Int)))] [], by exact weak_mk _ _ _, i + 1, rfl, by omega, rfl, (e22.trans (e25.trans (g30.ext.trans (e32.trans (g34.ext.trans (e37.trans (g41.ext.trans (e46.trans (g51.ext.trans (e53.trans g55.ext))))))))))⟩
      omega
  · replace hb23 : (decide ((i : Int) < (z12.n : Int))) = false := hb23
    have qhb23 := of_decide_eq_false hb23
    refine sw_exit ?_
    refine mp_seq ?_
    refine sw_seq ?_
    refine sw_reg ?_
    refine sy_pure 36 (.v (.slice z17.a z17.n z17.c)) ?_
    refine sy_call 37 45 [.slice z17.a z17.n z17.c] ?_
    intro w57 u57 e57 d57
    have k60 := k_poDegree d57 (hk21.ext (e22.trans e57)).raw (by omega) (by first | omega | (simp; omega) | (refine Nat.le_trans (Nt.trim_len _) ?_; first | omega | (simp; omega)) | (refine Nat.le_trans (Nt.trim_len _) ?_; simp only [List.length_map]; refine Nat.le_trans (Nt.trim_len _) ?_; first | omega | (simp; omega)))
    with_reducible refine Post.mono k60 ?_
    clear k60
    rintro _ u58 g59 rfl
    refine sy_pure 8 (.v (.int .i64 (((Nt.trimQ s17.l).length : Int) - 1))) ?_
    refine sy_next 60 [(4, .v (.slice z12.a z12.n z12.c)), (5, .v (.slice z17.a z17.n z17.c)), (8, .v (.int .i64 (((Nt.trimQ s17.l).length : Int) - 1)))] [] ?_
    refine sw_seq ?_
    refine sw_reg ?_
    refine sy_call 38 26 [] ?_
    intro w61 u61 e61 d61
    have k64 := k_awake5 d61
    with_reducible refine Post.mono k64 ?_
    clear k64
    rintro _ u62 g63 rfl
    refine sy_pure 39 (.v (.bool true)) ?_
    refine sy_pure 40 (.v (.int .i64 (((Nt.trimQ s17.l).length : Int) - 1))) ?_ (hw := wants1 (g := 1) (b := true) (t := 39) (by kernel_rfl) (by kernel_rfl) (by kernel_rfl))
    refine sy_pure 41 (.v (.slice z12.a z12.n z12.c)) ?_ (hw := wants1 (g := 1) (b := true) (t := 39) (by kernel_rfl) (by kernel_rfl) (by kernel_rfl))
    refine sy_pure 42 (.v (.int .i64 (z12.n : Int))) ?_ (hw := wants1 (g := 1) (b := true) (t := 39) (by kernel_rfl) (by kernel_rfl) (by kernel_rfl))
    refine sy_pure 43 (.v (.bool ((((Nt.trimQ s17.l).length : Int) - 1) == (z12.n : Int)))) ?_ (hw := wants1 (g := 1) (b := true) (t := 39) (by kernel_rfl) (by kernel_rfl) (by kernel_rfl))
    rcases Bool.eq_false_or_eq_true ((((Nt.trimQ s17.l).length : Int) - 1) == (z12.n : Int)) with hs65 | hs65
    · refine sy_eq 44 (x := .v (.bool ((((Nt.trimQ s17.l).length : Int) - 1) == (z12.n : Int)))) (.v (.bool true)) (by rw [hs65]) ?_ (hw := wants1 (g := 1) (b := true) (t := 39) (by kernel_rfl) (by kernel_rfl) (by kernel_rfl))
      refine sy_drop 45 (unwanted (g := 6) (b := false) (c := true) (t := 44) (by kernel_rfl) (by kernel_rfl) (by kernel_rfl) (by kernel_rfl)) ?_
      refine sy_drop 46 (unwanted (g := 6) (b := false) (c := true) (t := 44) (by kernel_rfl) (by kernel_rfl) (by kernel_rfl) (by kernel_rfl)) ?_
      refine sy_drop 47 (unwanted (g := 6) (b := false) (c := true) (t := 44) (by kernel_rfl) (by kernel_rfl) (by kernel_rfl) (by kernel_rfl)) ?_
      refine sy_drop 48 (unwanted (g := 6) (b := false) (c := true) (t := 44) (by kernel_rfl) (by kernel_rfl) (by kernel_rfl) (by kernel_rfl)) ?_
      refine sy_drop 49 (unwanted (g := 6) (b := false) (c := true) (t := 44) (by kernel_rfl) (by kernel_rfl) (by kernel_rfl) (by kernel_rfl)) ?_
      refine sy_pure 50 (.v (.bool true)) ?_ (hw := wants1 (g := 1) (b := true) (t := 39) (by kernel_rfl) (by kernel_rfl) (by kernel_rfl))
      refine sy_pure 51 (.v (.bool true)) ?_
      refine sy_pure 52 (.v (.bool true)) ?_
      refine sy_pure 53 (.v (.slice z17.a z17.n z17.c)) ?_ (hw := wants1 (g := 14) (b := true) (t := 52) (by kernel_rfl) (by kernel_rfl) (by kernel_rfl))
      refine sy_pure 54 (.v (.slice z17.a z17.n z17.c)) ?_ (hw := wants1 (g := 14) (b := true) (t := 52) (by kernel_rfl) (by kernel_rfl) (by kernel_rfl))
      refine sy_call 55 34 [.slice z17.a z17.n z17.c] ?_ (hw := wants1 (g := 14) (b := true) (t := 52) (by kernel_rfl) (by kernel_rfl) (by kernel_rfl))
      intro w66 u66 e66 d66
      have k71 := k_poDerivative d66 (hk21.ext (e22.trans (e57.trans (g59.ext.trans (e61.trans (g63.ext.trans e66)))))).raw (by omega) (by have h9 := ld17; omega)
      with_reducible refine Post.mono k71 ?_
      clear k71
      rintro _ u69 g70 ⟨y67, rfl, h68⟩
      have hly67 := h68.len
      have hm72 : (Nt.trimQ (Nt.derQ s17.l)).length ≤ 5 := Nt.der_lenQ ld17
      have hs73 : Nt.Sm (Nt.trimQ (Nt.derQ s17.l)) (E17) 28 := ((Nt.Sm.der (b := 3) lg17 (Nat.le_trans ld17 (by decide))).trim)
      have hk74 : PolN _ y67 (Nt.trimQ (Nt.derQ s17.l)) 1 := PolN.fitS h68 hs73 (by first | decide +kernel | exact Nat.le_trans (by assumption) (Nat.pow_le_pow_right (by decide) (by decide)))
      refine sy_call 56 30 [.slice z17.a z17.n z17.c, .slice y67.a y67.n y67.c] ?_ (hw := wants1 (g := 14) (b := true) (t := 52) (by kernel_rfl) (by kernel_rfl) (by kernel_rfl))
      intro w75 u75 e75 d75
      have k79 := k_poGcd (A := 28) (H := 36618) (N := 6) d75 (hk21.ext (e22.trans (e57.trans (g59.ext.trans (e61.trans (g63.ext.trans (e66.trans (g70.ext.trans e75)))))))).raw (hk74.ext e75).raw (Nt.WhL.more (lg17).prim (by decide)) (Nt.WhL.more (hs73).prim (by decide)) (Nat.le_trans (Nat.mul_le_mul_left _ (Nat.pow_le_pow_right (by decide) (show Nt.pot (Nt.trimQ s17.l).length (Nt.trimQ (Nt.trimQ (Nt.derQ s17.l))).length ≤ 13 from Nt.pot_le3 ld17 (Nat.le_trans hm72 (by decide))))) (by decide +kernel)) (by decide) (by have h9 := ld17; omega) (by have h9 := hm72; omega) (by decide +kernel) (by have h9 := ld17; omega) (by have h9 := hm72; omega) (by decide)
      with_reducible refine Post.mono k79 ?_
      clear k79
      rintro _ u77 g78 ⟨z76, g76, W76, k76, rfl, hz76, hg76, hk76, hW76, hw76⟩
      have hlz76 := hz76.len
      have hk80 : PolN _ z76 g76.l 2292 := PolN.more hz76 (by decide +kernel)
      have hm81 : g76.l.length ≤ 6 := Nt.gcd_len hg76 ld17 hm72
      refine sy_pure 57 (.v (.int .i64 (z76.n : Int))) ?_ (hw := wants1 (g := 14) (b := true) (t := 52) (by kernel_rfl) (by kernel_rfl) (by kernel_rfl))
      refine sy_pure 58 (.v (.bool (decide ((z76.n : Int) ≤ 1)))) ?_ (hw := wants1 (g := 14) (b := true) (t := 52) (by kernel_rfl) (by kernel_rfl) (by kernel_rfl))
      refine sy_pure 59 (.v (.bool (decide ((z76.n : Int) ≤ 1)))) ?_
      refine sy_pure 2 (.v (.bool (decide ((z76.n : Int) ≤ 1)))) ?_
      refine sy_next 60 [(2, .v (.bool (decide ((z76.n : Int) ≤ 1))))] [] ?_
      refine sw_ret (ret0 [.bool (decide ((z76.n : Int) ≤ 1))] ⟨res_tmp, trivial⟩ fun u82 e83 => ?_)
      show Value.bool _ = Value.bool _
      rw [show (decide ((z76.n : Int) ≤ 1)) = true from (gcd_one lc17 hg76 (by omega))]
    · refine sy_eq 44 (x := .v (.bool ((((Nt.trimQ s17.l).length : Int) - 1) == (z12.n : Int)))) (.v (.bool false)) (by rw [hs65]) ?_ (hw := wants1 (g := 1) (b := true) (t := 39) (by kernel_rfl) (by kernel_rfl) (by kernel_rfl))
      refine sy_pure 45 (.v (.int .i64 (((Nt.trimQ s17.l).length : Int) - 1))) ?_ (hw := wants1 (g := 6) (b := false) (t := 44) (by kernel_rfl) (by kernel_rfl) (by kernel_rfl))
      refine sy_pure 46 (.v (.slice z12.a z12.n z12.c)) ?_ (hw := wants1 (g := 6) (b := false) (t := 44) (by kernel_rfl) (by kernel_rfl) (by kernel_rfl))
      refine sy_pure 47 (.v (.int .i64 (z12.n : Int))) ?_ (hw := wants1 (g := 6) (b := false) (t := 44) (by kernel_rfl) (by kernel_rfl) (by kernel_rfl))
      refine sy_eq 48 (x := .v (.int .i64 (IntKind.i64.wrap ((z12.n : Int) + 2)))) (.v (.int .i64 ((z12.n + 2 : Nat) : Int))) (eqI (by rw [IntWalk.i64_in _ (by omega)]; omega)) ?_ (hw := wants1 (g := 6) (b := false) (t := 44) (by kernel_rfl) (by kernel_rfl) (by kernel_rfl))
      refine sy_pure 49 (.v (.bool ((((Nt.trimQ s17.l).length : Int) - 1) == ((z12.n + 2 : Nat) : Int)))) ?_ (hw := wants1 (g := 6) (b := false) (t := 44) (by kernel_rfl) (by kernel_rfl) (by kernel_rfl))
      refine sy_pure 50 (.v (.bool ((((Nt.trimQ s17.l).length : Int) - 1) == ((z12.n + 2 : Nat) : Int)))) ?_ (hw := wants1 (g := 1) (b := true) (t := 39) (by kernel_rfl) (by kernel_rfl) (by kernel_rfl))
      refine sy_pure 51 (.v (.bool ((((Nt.trimQ s17.l).length : Int) - 1) == ((z12.n + 2 : Nat) : Int)))) ?_
      refine sy_eq 52 (x := .v (.bool ((((Nt.trimQ s17.l).length : Int) - 1) == ((z12.n + 2 : Nat) : Int)))) (.v (.bool true)) (by rw [show ((((Nt.trimQ s17.l).length : Int) - 1) == ((z12.n + 2 : Nat) : Int)) = true from (deg_or lb17 (by omega) hs65)]) ?_
      refine sy_pure 53 (.v (.slice z17.a z17.n z17.c)) ?_ (hw := wants1 (g := 14) (b := true) (t := 52) (by kernel_rfl) (by kernel_rfl) (by kernel_rfl))
      refine sy_pure 54 (.v (.slice z17.a z17.n z17.c)) ?_ (hw := wants1 (g := 14) (b := true) (t := 52) (by kernel_rfl) (by kernel_rfl) (by kernel_rfl))
      refine sy_call 55 34 [.slice z17.a z17.n z17.c] ?_ (hw := wants1 (g := 14) (b := true) (t := 52) (by kernel_rfl) (by kernel_rfl) (by kernel_rfl))
      intro w85 u85 e85 d85
      have k90 := k_poDerivative d85 (hk21.ext (e22.trans (e57.trans (g59.ext.trans (e61.trans (g63.ext.trans e85)))))).raw (by omega) (by have h9 := ld17; omega)
      with_reducible refine Post.mono k90 ?_
      clear k90
      rintro _ u88 g89 ⟨y86, rfl, h87⟩
      have hly86 := h87.len
      have hm91 : (Nt.trimQ (Nt.derQ s17.l)).length ≤ 5 := Nt.der_lenQ ld17
      have hs92 : Nt.Sm (Nt.trimQ (Nt.derQ s17.l)) (E17) 28 := ((Nt.Sm.der (b := 3) lg17 (Nat.le_trans ld17 (by decide))).trim)
      have hk93 : PolN _ y86 (Nt.trimQ (Nt.derQ s17.l)) 1 := PolN.fitS h87 hs92 (by first | decide +kernel | exact Nat.le_trans (by assumption) (Nat.pow_le_pow_right (by decide) (by decide)))
      refine sy_call 56 30 [.slice z17.a z17.n z17.c, .slice y86.a y86.n y86.c] ?_ (hw := wants1 (g := 14) (b := true) (t := 52) (by kernel_rfl) (by kernel_rfl) (by kernel_rfl))
      intro w94 u94 e94 d94
      have k98 := k_poGcd (A := 28) (H := 36618) (N := 6) d94 (hk21.ext (e22.trans (e57.trans (g59.ext.trans (e61.trans (g63.ext.trans (e85.trans (g89.ext.trans e94)))))))).raw (hk93.ext e94).raw (Nt.WhL.more (lg17).prim (by decide)) (Nt.WhL.more (hs92).prim (by decide)) (Nat.le_trans (Nat.mul_le_mul_left _ (Nat.pow_le_pow_right (by decide) (show Nt.pot (Nt.trimQ s17.l).length (Nt.trimQ (Nt.trimQ (Nt.derQ s17.l))).length ≤ 13 from Nt.pot_le3 ld17 (Nat.le_trans hm91 (by decide))))) (by decide +kernel)) (by decide) (by have h9 := ld17; omega) (by have h9 := hm91; omega) (by decide +kernel) (by have h9 := ld17; omega) (by have h9 := hm91; omega) (by decide)
      with_reducible refine Post.mono k98 ?_
      clear k98
      rintro _ u96 g97 ⟨z95, g95, W95, k95, rfl, hz95, hg95, hk95, hW95, hw95⟩
      have hlz95 := hz95.len
      have hk99 : PolN _ z95 g95.l 2292 := PolN.more hz95 (by decide +kernel)
      have hm100 : g95.l.length ≤ 6 := Nt.gcd_len hg95 ld17 hm91
      refine sy_pure 57 (.v (.int .i64 (z95.n : Int))) ?_ (hw := wants1 (g := 14) (b := true) (t := 52) (by kernel_rfl) (by kernel_rfl) (by kernel_rfl))
      refine sy_pure 58 (.v (.bool (decide ((z95.n : Int) ≤ 1)))) ?_ (hw := wants1 (g := 14) (b := true) (t := 52) (by kernel_rfl) (by kernel_rfl) (by kernel_rfl))
      refine sy_pure 59 (.v (.bool (decide ((z95.n : Int) ≤ 1)))) ?_
      refine sy_pure 2 (.v (.bool (decide ((z95.n : Int) ≤ 1)))) ?_
      refine sy_next 60 [(2, .v (.bool (decide ((z95.n : Int) ≤ 1))))] [] ?_
      refine sw_ret (ret0 [.bool (decide ((z95.n : Int) ≤ 1))] ⟨res_tmp, trivial⟩ fun u101 e102 => ?_)
      show Value.bool _ = Value.bool _
      rw [show (decide ((z95.n : Int) ≤ 1)) = true from (gcd_one lc17 hg95 (by omega))]
end Go.Proofs.YtnedhbidmfoegaaGreat
