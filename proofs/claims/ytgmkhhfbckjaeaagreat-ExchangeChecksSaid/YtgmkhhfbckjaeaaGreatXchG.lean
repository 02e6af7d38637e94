/- Parts of the proof: contracts of functions, each walked once, and plain laws. -/
import Derived.Test.YtgmkhhfbckjaeaaGreatXchF
import Derived.Laws.StructEq
import Derived.ChangeKeysEq
import Derived.ScopeJumps
set_option linter.unusedVariables false
set_option maxHeartbeats 8000000
namespace Go.Proofs.YtgmkhhfbckjaeaaGreat
open Nt
abbrev qz0 : Array Bool := #[true, true, true, true, true, true, true, true, true, true, true, true, false, false, false, false]
abbrev qz1 : Array Bool := #[true, true, true, true, true, true, true, true, true, true, true, true, true, false, false, false]
abbrev qz2 : Array Bool := #[true, true, true, true, true, true, true, true, true, true, true, true, true, true, false, false]
abbrev qz3 : Array Bool := #[true, true, true, true, true, true, true, true, true, true, true, true, true, true, true, false]
abbrev qz4 : Array Bool := #[true, true, true, true, true, true, true, true, true, true, true, true, true, true, true, true]
abbrev qz5 : Array Bool := #[true, true, true, true, true, true, true, true, true, true, true, false, false, false, false, false]
abbrev qz6 : Array Bool := #[true, true, true, true, true, true, true, true, true, false, false, false, false, false, false, false]
abbrev qz7 : Array Bool := #[true, true, true, true, true, true, true, true, true, true, false, false, false, false, false, false]
abbrev qz8 : Array Bool := #[true, true, true, true, true, false, false]
abbrev qz9 : Array Bool := #[true, true, true, true, true, true, false]
abbrev qza : Array Bool := #[true, true, true, true, true, true, true]
abbrev qzb : Array Bool := #[true, true, true, true, true, true, false, false, true, false, false, false, false, false, false, false]
abbrev qzc : Array Bool := #[true, true, true, true, true, true, true, false, true, false, false, false, false, false, false, false]
abbrev qzd : Array Bool := #[true, true, true, true, false, true, false, false, true, false, false, false, false, false, false, false]
open Go.RowKit
section
variable {P : Program} {ops : Array Oper} {w0 : Base} {u0 : World} {S : St} {u : World}
def exitsK (P : Program) (ops : Array Oper) (w0 : Base) (u0 : World) (K : List (Nat × List Tmp) → St → World → Prop) : List (Nat × List Tmp) → St → World → Prop
 | [], S, u => K [] S u
 | p :: F, S, u => K (p :: F) S u ∧ sym P ops w0 u0 false [opAt ops p] S u (exitsK P ops w0 u0 K F)
theorem zwp {K : List (Nat × List Tmp) → St → World → Prop} (hK : ∀ F, Mono (K F)) : ∀ F, Mono (exitsK P ops w0 u0 K F)
 | [] => hK []
 | p :: F => fun S u u' e h => ⟨hK _ S u u' e h.1, zwd (zwp hK F) S u u' e h.2⟩
theorem exitsK_now {K : List (Nat × List Tmp) → St → World → Prop} {F : List (Nat × List Tmp)} (h : exitsK P ops w0 u0 K F S u) : K F S u := by
 cases F with
 | nil => exact h
 | cons p F => exact h.1
theorem sym_app {K : St → World → Prop} (hK : Mono K) {seq : Bool} : ∀ (l1 l2 : List (Oper × List Tmp)) (S : St) (u : World), sym P ops w0 u0 seq l1 S u (fun S u => sym P ops w0 u0 seq l2 S u K) → sym P ops w0 u0 seq (l1 ++ l2) S u K
 | [], l2, S, u, h => h
 | e :: l1, l2, S, u, h => one_mono (w0 := w0) (u0 := u0) (fun S u h => sym_app hK l1 l2 S u h) (zwd (zwd hK)) (Ext.refl u) h
theorem sym_mono_k {K K' : St → World → Prop} {seq : Bool} : ∀ {l : List (Oper × List Tmp)} {S : St} {u : World}, (∀ S u, K S u → K' S u) → Mono K → sym P ops w0 u0 seq l S u K → sym P ops w0 u0 seq l S u K'
 | [], S, u, hk, _, h => hk S u h
 | e :: l, S, u, hk, hm, h => one_mono (w0 := w0) (u0 := u0) (fun S u h => sym_mono_k hk hm h) (zwd hm) (Ext.refl u) h
def backB (ops : Array Oper) : List (Nat × List Tmp) → Bool
 | [] => true
 | x :: l => l.all (fun y => !((ops.getD x.1 default).after.toList.any fun e => Region.binds .any e && e.on == y.1)) && backB ops l
theorem backB_spec : ∀ {l : List (Nat × List Tmp)}, backB ops l = true → l.Pairwise (fun x y => ((ops.getD x.1 default).after.toList.any fun e => Region.binds .any e && e.on == y.1) = false)
 | [], _ => List.Pairwise.nil
 | x :: l, h => by
  simp only [backB, Bool.and_eq_true] at h
  exact List.Pairwise.cons (fun y hy => by have := List.all_eq_true.1 h.1 y hy; simpa using this) (backB_spec h.2)
structure LeftX (ops : Array Oper) (M : List Nat) (L : List (Nat × List Tmp)) (listed : Array Bool) : Prop where
 nodup : (L.map (·.1)).Nodup
 back : L.Pairwise (fun x y => ((ops.getD x.1 default).after.toList.any fun e => Region.binds .any e && e.on == y.1) = false)
 size : listed.size = ops.size
 mem : ∀ i, i < ops.size → (listed.getD i true = false ↔ i ∈ L.map (·.1))
 lt : ∀ x ∈ L, x.1 < ops.size ∧ ∀ e ∈ (ops.getD x.1 default).after, Region.binds .any e = true → e.on ≠ x.1 ∧ e.on < ops.size
 mask : ∀ x ∈ L, M.getD x.1 0 = reachOf M (ops.getD x.1 default)
 closed : ∀ j, j < ops.size → j ∉ L.map (·.1) → ∀ x, (M.getD j 0).testBit x = true → x ∉ L.map (·.1)
theorem LeftX.ready_mem {M : List Nat} {L : List (Nat × List Tmp)} {listed : Array Bool} (h : LeftX ops M L listed) {i : Nat} (hi : i ∈ Region.ready .any ops listed) : i < ops.size ∧ i ∈ L.map (·.1) ∧ ∀ e ∈ (ops.getD i default).after, Region.binds .any e = true → e.on ∉ L.map (·.1) := by
 obtain ⟨h0, o, ho, hall⟩ := mem_ready.1 hi
 have hlt : i < ops.size := (Array.getElem?_eq_some_iff.1 ho).1
 have hm := (h.mem i hlt).1 h0
 refine ⟨hlt, hm, fun e he hb => ?_⟩
 rw [get_op hlt] at ho
 injection ho with ho
 obtain ⟨x, hx, hxi⟩ := List.mem_map.1 hm
 have hl := ((h.lt x hx).2 e (by rw [hxi]; exact he) hb).2
 have := hall e (by rw [← ho]; exact he) hb
 rw [listed_iff (by rw [h.size]; exact hl), h.mem e.on hl] at this
 exact this
theorem LeftX.head_ready {M : List Nat} {x : Nat × List Tmp} {L : List (Nat × List Tmp)} {listed : Array Bool} (h : LeftX ops M (x :: L) listed) : x.1 ∈ Region.ready .any ops listed := by
 obtain ⟨h1, h2⟩ := h.lt x (List.mem_cons_self ..)
 refine mem_ready.2 ⟨(h.mem x.1 h1).2 zv, _, get_op h1, fun e he hb => ?_⟩
 obtain ⟨h3, h4⟩ := h2 e he hb
 rw [listed_iff (by rw [h.size]; exact h4), h.mem e.on h4]
 intro hm
 obtain ⟨y, hy, hye⟩ := List.mem_map.1 hm
 rcases List.mem_cons.1 hy with rfl | hy
 ·exact h3 hye.symm
 have := (List.pairwise_cons.1 h.back).1 y hy
 have h5 : ((ops.getD x.1 default).after.toList.any fun e => Region.binds .any e && e.on == y.1) = true := List.any_eq_true.2 ⟨e, by simpa using he, by simp [hb, hye]⟩
 rw [h5] at this; cases this
theorem LeftX.out {M : List Nat} {L : List (Nat × List Tmp)} {listed : Array Bool} (h : LeftX ops M L listed) {x : Nat × List Tmp} (hx : x ∈ L) (hout : ∀ e ∈ (ops.getD x.1 default).after, Region.binds .any e = true → e.on ∉ L.map (·.1)) :
  ∀ j, (M.getD x.1 0).testBit j = true → j ∉ L.map (·.1) := by
 intro j hj
 rw [h.mask x hx] at hj
 rcases foldl_bit M j _ _ hj with h0 | ⟨e, he, hb, h1⟩
 ·simp at h0
 have he' : e ∈ (ops.getD x.1 default).after := by simpa using he
 have hn := hout e he' hb
 rcases h1 with rfl | h1
 ·exact hn
 exact h.closed e.on ((h.lt x hx).2 e he' hb).2 hn j h1
theorem LeftX.step {M : List Nat} {pre post : List (Nat × List Tmp)} {y : Nat × List Tmp} {listed : Array Bool} (hL : LeftX ops M (pre ++ y :: post) listed) (hro : ∀ j, (M.getD y.1 0).testBit j = true → j ∉ (pre ++ y :: post).map (·.1)) : LeftX ops M (pre ++ post) (listed.setIfInBounds y.1 true) := by
 have hsub : (pre ++ post).Sublist (pre ++ y :: post) := List.Sublist.append_left (List.sublist_cons_self _ _) _
 have hyn : y.1 ∉ (pre ++ post).map (·.1) := by
  have := hL.nodup
  rw [List.map_append, List.map_cons] at this
  have h2 := List.nodup_append.1 this
  have h3 := (List.nodup_cons.1 h2.2.1).1
  intro hm
  rw [List.map_append] at hm
  rcases List.mem_append.1 hm with hm | hm
  ·exact h2.2.2 y.1 hm y.1 (List.mem_cons_self ..) rfl
  exact h3 hm
 have hmem : ∀ j, j ≠ y.1 → (j ∈ (pre ++ post).map (·.1) ↔ j ∈ (pre ++ y :: post).map (·.1)) := fun j hj => by simp [hj]
 refine ⟨hL.nodup.sublist (hsub.map _), hL.back.sublist hsub, by simp [hL.size], fun j hj => ?_, fun x hx => hL.lt x (hsub.mem hx), fun x hx => hL.mask x (hsub.mem hx), fun j hj hjn x hx => ?_⟩
 ·by_cases e : j = y.1
  ·subst e
   constructor
   ·intro h
    simp [hL.size, hj] at h
   intro h; exact absurd h hyn
  rw [getD_set_ne true (Ne.symm e), hmem j e]
  exact hL.mem j hj
 intro hmx
 by_cases e : j = y.1
 ·subst e; exact hro x hx ((hsub.map _).mem hmx)
 exact hL.closed j hj (fun h => hjn ((hmem j e).2 h)) x hx ((hsub.map _).mem hmx)
theorem chainB_pair {M : List Nat} : ∀ {L : List (Nat × List Tmp)}, chainB M L = true → L.Pairwise (fun x y => (M.getD y.1 0).testBit x.1 = true)
 | [], _ => List.Pairwise.nil
 | x :: l, h => by
  simp only [chainB, Bool.and_eq_true, List.all_eq_true] at h
  exact List.Pairwise.cons h.1 (chainB_pair h.2)
theorem LeftX.toLeft {M : List Nat} {L : List (Nat × List Tmp)} {listed : Array Bool} (h : LeftX ops M L listed) (hc : chainB M L = true) : Left ops M L listed :=
 ⟨h.nodup, List.Pairwise.imp₂ (fun x y (h1 : (M.getD y.1 0).testBit x.1 = true) h2 => by simp only [pairOk, Bool.and_eq_true, Bool.or_eq_true, Bool.not_eq_true']; exact ⟨.inl h1, h2⟩) (chainB_pair hc) h.back, h.size, h.mem, h.lt, h.mask, h.closed⟩
theorem any_symE {M : List Nat} {T : List (Nat × List Tmp)} {y : Nat × List Tmp} {K : List (Nat × List Tmp) → St → World → Prop} {Q : Exit → Act → World → Prop} (hK : ∀ F, Mono (K F))
  (hQ : ∀ F S u, K F S u → ∀ B a w, Rep w0 u0 S B a w u → wpList P ops Q ((y :: (F ++ T)).map fun x => ops.getD x.1 default) a w) (hyT : ∀ t ∈ T, (M.getD t.1 0).testBit y.1 = true) :
  ∀ (fuel : Nat) (L F : List (Nat × List Tmp)) (listed : Array Bool) (S : St) (B : Tmp → Nat) (a : Act) (w u : World), L.length + F.length = fuel → chainB M (F ++ T) = true → (L ++ F).Pairwise (fun x y => pairOk ops M x y = true) → LeftX ops M (L ++ F ++ y :: T) listed → (∀ x ∈ L, (M.getD y.1 0).testBit x.1 = true) → (∀ x ∈ L ++ F, ∀ t ∈ T, (M.getD t.1 0).testBit x.1 = true) → Rep w0 u0 S B a w u →
   sym P ops w0 u0 false (L.map (opAt ops)) S u (exitsK P ops w0 u0 K F) → wpAny P .any ops Q (fuel + 1 + T.length) listed a w := by
 intro fuel
 induction fuel with
 | zero =>
  intro L F listed S B a w u hl hc hp hL hy hT hr hs
  obtain rfl := List.length_eq_zero_iff.1 (show L.length = 0 by omega)
  obtain rfl := List.length_eq_zero_iff.1 (show F.length = 0 by omega)
  have hcc : chainB M (y :: T) = true := by
   simp only [chainB, Bool.and_eq_true, List.all_eq_true]
   exact ⟨fun t ht => hyT t ht, by simpa using hc⟩
  rw [Nat.zero_add, Nat.add_comm]
  have h9 := hQ [] S u hs B a w hr
  exact any_chain (y :: T) listed a w ((show LeftX ops M (y :: T) listed from hL).toLeft hcc) hcc (by simpa using h9)
 | succ fuel ih =>
  intro L F listed S B a w u hl hc hp hL hy hT hr hs
  rw [show fuel + 1 + 1 + T.length = (fuel + 1 + T.length) + 1 by omega]
  refine ⟨fun e => ?_, fun i hi => ?_⟩
  ·cases hLF : L ++ F with
   | nil => have h8 := congrArg List.length hLF; rw [List.length_append] at h8; rw [h8] at hl; cases hl
   | cons x L' =>
    rw [hLF] at hL
    have := LeftX.head_ready (L := L' ++ y :: T) hL
    rw [e] at this
    cases this
  obtain ⟨hlt, hm, hout⟩ := hL.ready_mem hi
  obtain ⟨z, hz, rfl⟩ := List.mem_map.1 hm
  have hro := hL.out hz hout
  have key : ops[z.1]? = some (opAt ops z).1 := get_op hlt
  -- an operation of the first ones: what stands before it may stand behind it
  have front : ∀ (pre post F' : List (Nat × List Tmp)), L ++ F ++ y :: T = pre ++ z :: (post ++ F' ++ y :: T) → (pre ++ z :: post).Pairwise (fun x y => pairOk ops M x y = true) → (pre ++ post ++ F').Pairwise (fun x y => pairOk ops M x y = true) → pre.length + post.length + F'.length = fuel → chainB M (F' ++ T) = true → (∀ x ∈ pre ++ post, (M.getD y.1 0).testBit x.1 = true) → (∀ x ∈ pre ++ post ++ F', ∀ t ∈ T, (M.getD t.1 0).testBit x.1 = true) →
    sym P ops w0 u0 false ((pre ++ z :: post).map (opAt ops)) S u (exitsK P ops w0 u0 K F') → wpOp P ops Q z.1 (wpAny P .any ops Q (fuel + 1 + T.length) (listed.setIfInBounds z.1 true)) a w := by
   intro pre post F' he aa ae hfl hc' hy' hT' hs'
   have hsw : ∀ x ∈ pre.map (opAt ops), swapOk ops x (opAt ops z) = true := by
    intro x hx
    obtain ⟨x', hx', rfl⟩ := List.mem_map.1 hx
    have := (List.pairwise_append.1 aa).2.2 x' hx' z (List.mem_cons_self ..)
    simp only [pairOk, Bool.and_eq_true, Bool.or_eq_true] at this
    rcases this.1 with h1 | h1
    ·exact absurd (List.mem_map.2 ⟨x', by rw [he]; simp [hx'], rfl⟩) (hro x'.1 h1)
    exact h1
   rw [List.map_append, List.map_cons] at hs'
   have hone := bubble (zwp hK F') (pre.map (opAt ops)) S u hr.wf hsw hs'
   have hsound := one_sound (Q := Q) (zwd (zwp hK F')) hone (Ext.refl _) hr
   rw [he] at hL hro
   have hL' := LeftX.step hL hro
   have hfin : ∀ a' w', (∃ S' B' u'', Rep w0 u0 S' B' a' w' u'' ∧ (false = false → Ext u u'') ∧ sym P ops w0 u0 false (pre.map (opAt ops) ++ post.map (opAt ops)) S' u'' (exitsK P ops w0 u0 K F')) → wpAny P .any ops Q (fuel + 1 + T.length) (listed.setIfInBounds z.1 true) a' w' := by
    rintro a' w' ⟨S', B', u'', g1, _, g3⟩
    refine ih (pre ++ post) F' _ S' B' a' w' u'' (by rw [List.length_append]; exact hfl) hc' ae ?_ hy' hT' g1 ?_
    ·simpa [List.append_assoc] using hL'
    rw [List.map_append]; exact g3
   simp only [wpOp, key]
   split
   ·rename_i hw
    rw [if_pos hw] at hsound
    exact .inl (Oper.wp_mono hfin hsound)
   rename_i hw
   rw [if_neg hw] at hsound
   exact hfin _ _ hsound
  rcases List.mem_append.1 hz with hz1 | hz1
  ·rcases List.mem_append.1 hz1 with hzL | hzF
   ·obtain ⟨pre, post, rfl⟩ := List.append_of_mem hzL
    refine front pre post F (by simp [List.append_assoc]) (List.pairwise_append.1 hp).1 ?_ (by simp at hl ⊢; omega) hc (fun x hx => hy x (by simp at hx ⊢; rcases hx with h | h <;> simp [h])) (fun x hx => hT x (by simp at hx ⊢; rcases hx with h | h | h <;> simp [h])) hs
    refine hp.sublist ?_
    rw [List.append_assoc, List.append_assoc, List.cons_append]
    exact List.Sublist.append_left (List.sublist_cons_self _ _) _
   cases F with
   | nil => cases hzF
   | cons p F =>
    have hzp : z = p := by
     rcases List.mem_cons.1 hzF with h | h
     ·exact h
     rw [List.cons_append] at hc
     simp only [chainB, Bool.and_eq_true, List.all_eq_true] at hc
     exact absurd (List.mem_map.2 ⟨p, by simp, rfl⟩) (hro p.1 (hc.1 z (List.mem_append_left _ h)))
    subst hzp
    have ac : sym P ops w0 u0 false ((L ++ [z]).map (opAt ops)) S u (exitsK P ops w0 u0 K F) := by
     rw [List.map_append]
     exact sym_app (zwp hK F) _ _ S u (sym_mono_k (fun S u h => h.2) (zwp hK (z :: F)) hs)
    refine front L [] F (by simp [List.append_assoc]) ?_ ?_ (by simp at hl ⊢; omega) ?_ (fun x hx => hy x (by simpa using hx)) (fun x hx => hT x (by simp at hx ⊢; rcases hx with h | h <;> simp [h])) (by simpa using ac)
    ·refine hp.sublist ?_
     exact List.Sublist.append_left zv _
    ·refine hp.sublist ?_
     rw [List.append_nil]
     exact List.Sublist.append_left (List.sublist_cons_self _ _) _
    rw [List.cons_append] at hc
    simp only [chainB, Bool.and_eq_true] at hc
    exact hc.2
  rcases List.mem_cons.1 hz1 with rfl | hzT
  ·have ad : L = [] := by
    cases L with
    | nil => rfl
    | cons x L => exact absurd (List.mem_map.2 ⟨x, by simp, rfl⟩) (hro x.1 (hy x (List.mem_cons_self ..)))
   subst ad
   have h9 := hQ F S u (exitsK_now hs) B a w hr
   rw [List.nil_append] at hL hro
   have hL' := LeftX.step hL hro
   have hch : ∀ a' w', wpList P ops Q ((F ++ T).map fun x => ops.getD x.1 default) a' w' → wpAny P .any ops Q (fuel + 1 + T.length) (listed.setIfInBounds z.1 true) a' w' := fun a' w' h => by
    have := any_chain (F ++ T) (listed.setIfInBounds z.1 true) a' w' (hL'.toLeft hc) hc h
    rw [List.length_append] at this
    rw [show fuel + 1 + T.length = F.length + T.length from by have h8 : F.length = fuel + 1 := (by simpa using hl); omega]
    exact this
   rw [List.map_cons] at h9
   unfold wpList at h9
   have h9 : if Region.wanted (opAt ops z).1 (yielded ops a.tmps) = true then (opAt ops z).1.wp P a w (wpList P ops Q ((F ++ T).map fun x => ops.getD x.1 default)) Q ∨ ((opAt ops z).1.asks P a w ∧ LetsOut Q) else wpList P ops Q ((F ++ T).map fun x => ops.getD x.1 default) (a.put (opAt ops z).1.dst undef) w := h9
   simp only [wpOp, key]
   split
   ·rename_i hw
    rw [if_pos hw] at h9
    exact h9.imp (Oper.wp_mono fun a w h => hch a w h) id
   rename_i hw
   rw [if_neg hw] at h9
   exact hch _ _ h9
  exact absurd (List.mem_map.2 ⟨y, by simp, rfl⟩) (hro y.1 (hyT z hzT))
end
section
variable {P : Program} {ops : Array Oper} {w0 : Base} {u0 : World} {S : St} {u : World}
theorem exitsK_last {K : List (Nat × List Tmp) → St → World → Prop} (h1 : K [] S u) : exitsK P ops w0 u0 K [] S u := h1
end
def AnyX (P : Program) (w0 : Base) (u0 : World) (ops : Array Oper) (listed : Array Bool) (n : Nat) (S : St) (u : World) (Q : MP) : Prop :=
 ∀ B a w u', Ext u u' → Rep w0 u0 S B a w u' → wpAny P .any ops (fun e a' w' => ∃ S' B' u'', Rep w0 u0 S' B' a' w' u'' ∧ Q.f e S' u'') n listed a w
section
variable {P : Program} {ops : Array Oper} {w0 : Base} {u0 : World} {S : St} {u : World} {Q : MP} {listed : Array Bool}
theorem sw_anyX {id : Nat} (hm : P.follows .mixedOrders = true) (n : Nat) (hn : ops.size = n) (h : AnyX P w0 u0 ops (Array.replicate n false) n S u Q) : SW P w0 u0 (.region id ops true) S u Q := by
 subst hn
 intro B a w u' e hr
 exact wp_region_any hm (h B a _ u' e hr.drew)
theorem takeX (i d n : Nat) (x : SV) (listed' : Array Bool) (k : AnyX P w0 u0 ops listed' n (S.set d x) u Q) (hp : ∀ c S u, ¬ Q.f (.panic c) S u := by intro c S u h; exact h) (hl : listed.setIfInBounds i true = listed' := by kernel_rfl)
  (hs : (Region.noSelect ops && Region.free .any ops listed i && (Region.ready .any ops listed).contains i && Nat.blt i ops.size && (ops.getD i default).dst == some d && (ops.getD i default).guard.isNone && x.at?.isNone && freeB S d && knownB S (ops.getD i default)) = true := by kernel_rfl) (hk : opK (ops.getD i default).op ≠ 2 := by decide)
  (hrun : ∀ B w, (execOp (rho S B) (ops.getD i default)).run P w = .ok (.value (x.conc B)) w := by intro _ _; kernel_rfl) : AnyX P w0 u0 ops listed (n + 1) S u Q := by
 intro B a w u' e hr
 simp only [Bool.and_eq_true, beq_iff_eq, Option.isNone_iff_eq_none] at hs
 obtain ⟨⟨⟨⟨⟨⟨⟨⟨h1, h2⟩, h3⟩, h4⟩, h5⟩, h6⟩, h7⟩, h8⟩, h9⟩ := hs
 have hi : ops[i]? = some (ops.getD i default) := get_op (Nat.le_of_ble_eq_true h4)
 subst hl
 refine wpAny_take (v := x.conc B) hi h1 h2 h3 (fun c a w h => ?_) (.inl ⟨zwf (S := S) h6 B a hr.regs, fun w => by rw [exec_rho hr.regs h9 hk]; exact hrun B w⟩) ?_
 ·obtain ⟨S', B', u'', _, g⟩ := h
  exact absurd g (hp c S' u'')
 refine k B _ w u' e ?_
 rw [h5]
 exact hr.set (d := some d) (x := some x) (v := x.conc B) (fun s hs => (zxy h5 h8 s (by rw [h5]; exact hs)).1) (fun z e => by injection e with e; rw [← e]) (fun z t e ht => by injection e with e; rw [← e, h7] at ht; cases ht)
theorem takeXe (i d n : Nat) {x : SV} (y : SV) (hxy : x = y) (listed' : Array Bool) (k : AnyX P w0 u0 ops listed' n (S.set d y) u Q) (hp : ∀ c S u, ¬ Q.f (.panic c) S u := by intro c S u h; exact h) (hl : listed.setIfInBounds i true = listed' := by kernel_rfl)
  (hs : (Region.noSelect ops && Region.free .any ops listed i && (Region.ready .any ops listed).contains i && Nat.blt i ops.size && (ops.getD i default).dst == some d && (ops.getD i default).guard.isNone && x.at?.isNone && freeB S d && knownB S (ops.getD i default)) = true := by kernel_rfl) (hk : opK (ops.getD i default).op ≠ 2 := by decide)
  (hrun : ∀ B w, (execOp (rho S B) (ops.getD i default)).run P w = .ok (.value (x.conc B)) w := by intro _ _; kernel_rfl) : AnyX P w0 u0 ops listed (n + 1) S u Q := by
 subst hxy; exact takeX i d n x listed' k hp hl hs hk hrun
def leftB (ops : Array Oper) (M : List Nat) (L : List (Nat × List Tmp)) (listed : Array Bool) : Bool :=
 nodupB (L.map (·.1)) && backB ops L && listed.size == ops.size && (List.range ops.size).all (fun i => (listed.getD i true == false) == (L.map (·.1)).contains i) &&
  L.all (fun x => Nat.blt x.1 ops.size && !((ops.getD x.1 default).after.toList.any fun e => Region.binds .any e && (e.on == x.1 || Nat.ble ops.size e.on)) && (M.getD x.1 0 == reachOf M (ops.getD x.1 default))) &&
  (List.range ops.size).all (fun j => (L.map (·.1)).contains j || (L.map (·.1)).all fun x => !(M.getD j 0).testBit x)
theorem leftB_spec {M : List Nat} {L : List (Nat × List Tmp)} (h : leftB ops M L listed = true) : LeftX ops M L listed := by
 simp only [leftB, Bool.and_eq_true, beq_iff_eq, List.all_eq_true, List.mem_range] at h
 obtain ⟨⟨⟨⟨⟨h1, h2⟩, h3⟩, h4⟩, h5⟩, h6⟩ := h
 refine ⟨nodupB_spec h1, backB_spec h2, h3, fun i hi => ?_, fun x hx => ?_, fun x hx => (h5 x hx).2, fun j hj hjn x hx hm => ?_⟩
 ·have := h4 i hi
  constructor
  ·intro h
   rw [h] at this
   exact List.contains_iff_mem.1 (by simpa using this.symm)
  intro h
  rw [List.contains_iff_mem.2 h] at this
  simpa using this
 ·obtain ⟨⟨k1, k2⟩, _⟩ := h5 x hx
  refine ⟨Nat.le_of_ble_eq_true k1, fun e he hb => ?_⟩
  simp only [Bool.not_eq_true', List.any_eq_false] at k2
  have := k2 e (by simpa using he)
  simp [hb] at this
  exact this
 have := h6 j hj
 rw [Bool.or_eq_true] at this
 rcases this with h9 | h9
 ·exact hjn (List.contains_iff_mem.1 h9)
 have := List.all_eq_true.1 h9 x hm
 rw [hx] at this; cases this
theorem restX (M : List Nat) (L F : List (Nat × List Tmp)) (y : Nat × List Tmp) (T : List (Nat × List Tmp)) {n : Nat}
  (hok : (leftB ops M (L ++ F ++ y :: T) listed && pairsOk ops M (L ++ F) && chainB M (F ++ T) && L.all (fun x => (M.getD y.1 0).testBit x.1) && (L ++ F).all (fun x => T.all fun t => (M.getD t.1 0).testBit x.1) && T.all (fun t => (M.getD t.1 0).testBit y.1) && Nat.beq n ((L.length + F.length) + 1 + T.length)) = true)
  (h : sym P ops w0 u0 false (L.map (opAt ops)) S u (exitsK P ops w0 u0 (fun F S' u' => sym P ops w0 u0 true ((y :: (F ++ T)).map fun x => (ops.getD x.1 default, [])) S' u' (Q.f .normal)) F)) : AnyX P w0 u0 ops listed n S u Q := by
 intro B a w u' e hr
 simp only [Bool.and_eq_true, List.all_eq_true] at hok
 obtain ⟨⟨⟨⟨⟨⟨g0, g1⟩, g2⟩, g3⟩, g4⟩, g5⟩, g6⟩ := hok
 have hK : ∀ F, Mono (fun S' u' => sym P ops w0 u0 true ((y :: (F ++ T)).map fun x => (ops.getD x.1 default, ([] : List Tmp))) S' u' (Q.f .normal)) := fun F => zwd (Q.mono _)
 rw [Nat.eq_of_beq_eq_true g6]
 refine any_symE hK (fun F S u'' h B a w hr => ?_) g5 (L.length + F.length) L F _ S B a _ u' rfl g2 (pairsOk_spec g1) (leftB_spec g0) g3 (fun x hx => g4 x hx) hr (zwd (zwp hK F) _ _ _ e h)
 have := sl_key (Q := fun e a' w' => ∃ S' B' u'', Rep w0 u0 S' B' a' w' u'' ∧ Q.f e S' u'') (K := Q.f .normal) (Q.mono _) [] (fun S u h B a w hr => by exact ⟨S, B, u, hr, h⟩) ((y :: (F ++ T)).map fun x => ops.getD x.1 default) S B a w u'' hr (by rw [List.map_map]; exact h)
 rw [List.append_nil] at this
 exact this
end
def Rows (k : Nat) (L : List (List Int)) : Prop := ∀ p ∈ L, p.length = k
section
variable {u u' : World} {L M : List (List Int)} {p : List Int} {k n i j c b off : Nat} {x : Sl} {X : List Value} {a1 a2 a3 a4 a5 : Int}
theorem ics_one : ∀ v ∈ ics p, v.oneCell' = true := fun v hv => by
 unfold ics at hv
 obtain ⟨z, _, rfl⟩ := List.mem_map.1 hv; rfl
end
section
variable {P : Program} {ops : Array Oper} {w0 : Base} {u0 : World} {S : St} {u : World} {Q : MP} {listed : Array Bool}
theorem takeXR (i d n : Nat) (x : SV) {t : Tmp} (hat : x.at? = some t) (listed' : Array Bool) (k : AnyX P w0 u0 ops listed' n (S.set d x) u Q) (hp : ∀ c S u, ¬ Q.f (.panic c) S u) (hl : listed.setIfInBounds i true = listed')
  (hs : (Region.noSelect ops && Region.free .any ops listed i && (Region.ready .any ops listed).contains i && Nat.blt i ops.size && (ops.getD i default).dst == some d && (ops.getD i default).guard.isNone && freeB S d) = true) (hv : (S.var t).isSome = true)
  (hrun : ∀ B a w, RegOK S B a → (execOp a.eval (ops.getD i default)).run P w = .ok (.value (x.conc B)) w) : AnyX P w0 u0 ops listed (n + 1) S u Q := by
 intro B a w u' e hr
 simp only [Bool.and_eq_true, beq_iff_eq, Option.isNone_iff_eq_none] at hs
 obtain ⟨⟨⟨⟨⟨⟨h1, h2⟩, h3⟩, h4⟩, h5⟩, h6⟩, h8⟩ := hs
 have hi : ops[i]? = some (ops.getD i default) := get_op (Nat.le_of_ble_eq_true h4)
 subst hl
 refine wpAny_take (v := x.conc B) hi h1 h2 h3 (fun c a w h => ?_) (.inl ⟨zwf (S := S) h6 B a hr.regs, fun w => hrun B a w hr.regs⟩) ?_
 ·obtain ⟨S', B', u'', _, g⟩ := h
  exact absurd g (hp c S' u'')
 refine k B _ w u' e ?_
 rw [h5]
 exact hr.set (d := some d) (x := some x) (v := x.conc B) (fun s hs => (zxy h5 h8 s (by rw [h5]; exact hs)).1) (fun z e => by injection e with e; rw [← e]) (fun z t' e ht => by
  injection e with e
  rw [← e, hat] at ht
  injection ht with ht
  subst ht
  exact Option.isSome_iff_exists.1 hv)
end
namespace Nt
def shOK (n : Int) (s : List Int) : Prop := 0 ≤ s.getD 0 0 ∧ s.getD 0 0 < n ∧ 0 ≤ s.getD 1 0 ∧ s.getD 1 0 < n ∧ -2 ≤ s.getD 3 0 ∧ s.getD 3 0 ≤ 20 ∧ (s.getD 0 0 = s.getD 1 0 ↔ s.getD 3 0 = -2) ∧ (s.getD 3 0 < 0 → s.getD 2 0 = 0) ∧ -2097152 ≤ s.getD 2 0 ∧ s.getD 2 0 ≤ 2097152
instance (n : Int) (s : List Int) : Decidable (shOK n s) := by unfold shOK; infer_instance
def W32 (l : List Int) : Prop := ∀ i, i < l.length → -2147483648 ≤ l.getD i 0 ∧ l.getD i 0 ≤ 2147483647
end Nt
section
variable {L : List (List Int)} {p l : List Int} {X cs : List Value} {i n c b : Nat} {u u' : World} {x : Sl} {z : Int}
theorem part_intsX (hi : i < l.length) {off : Nat} (ho : off = i * 1) : PartIs (ics l ++ X) off false 1 (.v (.int .i64 (l.getD i 0))) := by
 subst ho
 refine ⟨_, ?_, rfl⟩
 rw [Nat.mul_one, List.getElem?_append_left (by rw [zwi]; exact hi)]
 exact ics_at hi
theorem setL_intsX (hi : i < l.length) {off : Nat} (ho : off = i * 1) : setL (ics l ++ X) off (Value.int .i64 z).cells.toList = ics (l.set i z) ++ X := by
 subst ho
 rw [Nat.mul_one]
 have := setL_cons (cs := ics l ++ X) (off := i) (v := .int .i64 z) (vs := []) (by rw [List.length_append, zwi]; omega)
 rw [setL_nil] at this
 rw [← ics_set, ← List.set_append_left (h := by rw [zwi]; exact hi)]
 exact this.symm
end
namespace Nt
section
variable {l : List Int} {s : List Int} {t f : Nat} {cf sh sg x n : Int}
def shV (n : Int) (S : List (List Int)) : Prop := 1 ≤ n ∧ n ≤ 64 ∧ S.length ≤ 64 ∧ ∀ i, i < S.length → shOK n (S.getD i [])
instance (n : Int) (S : List (List Int)) : Decidable (shV n S) := by unfold shV; infer_instance
instance (l : List Int) : Decidable (W32 l) := by unfold W32; infer_instance
end
end Nt
end Go.Proofs.YtgmkhhfbckjaeaaGreat
namespace Go.Proofs.YtgmkhhfbckjaeaaGreat
open Nt
namespace Nt
def sk (i r : Nat) : Nat := if r < i then r else r + 1
def sgD (i : Nat) : Rat := if i % 2 = 0 then 1 else -1
def mi (M : Nat → Nat → Rat) (i : Nat) : Nat → Nat → Rat := fun r c => M (sk i r) (c + 1)
def det : Nat → (Nat → Nat → Rat) → Rat
 | 0, _ => 1
 | n + 1, M => su (fun i => sgD i * M i 0 * det n (mi M i)) (n + 1)
def up (M : Nat → Nat → Rat) (k : Nat) (v : Nat → Rat) : Nat → Nat → Rat := fun r => if r = k then v else M r
def swA (M : Nat → Nat → Rat) (k : Nat) : Nat → Nat → Rat := fun r => if r = k then M (k + 1) else if r = k + 1 then M k else M r
section
variable {M N : Nat → Nat → Rat} {n i k p q : Nat} {u v : Nat → Rat} {a b : Rat}
theorem sgD_s : sgD (i + 1) = -sgD i := by
 unfold sgD
 by_cases h : i % 2 = 0
 ·rw [if_neg (show ¬ (i + 1) % 2 = 0 by omega), if_pos h]
 rw [if_pos (show (i + 1) % 2 = 0 by omega), if_neg h]; grind
theorem sk_lt {r : Nat} (h : r < i) : sk i r = r := if_pos h
theorem sk_ge {r : Nat} (h : i ≤ r) : sk i r = r + 1 := if_neg xq
theorem det_s : det (n + 1) M = su (fun i => sgD i * M i 0 * det n (mi M i)) (n + 1) := rfl
theorem det_congr : ∀ {n : Nat} {M N : Nat → Nat → Rat}, (∀ r c, r < n → c < n → M r c = N r c) → det n M = det n N := by
 intro n
 induction n with
 | zero => intro M N _; rfl
 | succ n ih =>
  intro M N h
  rw [det_s, det_s]
  refine su_congr fun i hi => ?_
  rw [h i 0 hi xq, ih (M := mi M i) (N := mi N i) fun r c hr hc => ?_]
  unfold mi
  exact h _ _ (by unfold sk; split <;> omega) xq
theorem mi_up_same : mi (up M k v) k = mi M k := by
 funext r c
 unfold mi up
 rw [if_neg (by unfold sk; split <;> omega)]
theorem mi_up_ne (h : i ≠ k) : mi (up M k v) i = up (mi M i) (if k < i then k else k - 1) (fun c => v (c + 1)) := by
 funext r c
 unfold mi up
 by_cases e : sk i r = k
 ·rw [if_pos e, if_pos]
  unfold sk at e; split at e <;> split <;> omega
 rw [if_neg e, if_neg]
 intro e2
 apply e
 unfold sk; split <;> split at e2 <;> omega
theorem up_get : up M k v k = v := by unfold up; rw [if_pos rfl]
theorem up_ne (h : i ≠ k) : up M k v i = M i := by unfold up; rw [if_neg h]
theorem up_self : up M k (M k) = M := by
 funext r; unfold up; split
 ·rename_i h; rw [h]
 rfl
theorem det_lin : ∀ {n : Nat} {M : Nat → Nat → Rat} {k : Nat} {u v : Nat → Rat}, k < n → det n (up M k fun c => a * u c + b * v c) = a * det n (up M k u) + b * det n (up M k v) := by
 intro n
 induction n with
 | zero => intro M k u v h; omega
 | succ n ih =>
  intro M k u v hk
  rw [det_s, det_s, det_s, ← su_mul, ← su_mul, ← su_add]
  refine su_congr fun i hi => ?_
  by_cases e : i = k
  ·subst e
   rw [mi_up_same, mi_up_same, mi_up_same, up_get, up_get, up_get]; grind
  rw [mi_up_ne e, mi_up_ne e, mi_up_ne e, up_ne e, up_ne e, up_ne e]
  have := ih (M := mi M i) (k := if k < i then k else k - 1) (u := fun c => u (c + 1)) (v := fun c => v (c + 1)) (by split <;> omega)
  rw [this]; grind
theorem su_adj {f g : Nat → Rat} (hk : k + 1 < n) (h : ∀ i, i < n → i ≠ k → i ≠ k + 1 → f i = -g i) (h1 : f k = -g (k + 1)) (h2 : f (k + 1) = -g k) : su f n = -su g n := by
 obtain ⟨m, rfl⟩ : ∃ m, n = k + (2 + m) := ⟨n - k - 2, by omega⟩
 rw [su_split, su_split, su_split, su_split]
 have e1 : su f k = -su g k := by
  have := su_congr (f := f) (g := fun i => (-1) * g i) (n := k) (fun i hi => by rw [h i xq xq xq]; grind)
  rw [this, su_mul]; grind
 have e2 : su (fun i => f (k + (2 + i))) m = -su (fun i => g (k + (2 + i))) m := by
  have := su_congr (f := fun i => f (k + (2 + i))) (g := fun i => (-1) * g (k + (2 + i))) (n := m) (fun i hi => by show f _ = _; rw [h (k + (2 + i)) xq xq xq]; grind)
  rw [this, su_mul]; grind
 have e3 : su (fun i => f (k + i)) 2 = f k + f (k + 1) := by
  show 0 + f (k + 0) + f (k + 1) = _; rw [Nat.add_zero]; grind
 have e4 : su (fun i => g (k + i)) 2 = g k + g (k + 1) := by
  show 0 + g (k + 0) + g (k + 1) = _; rw [Nat.add_zero]; grind
 rw [e1, e2, e3, e4, h1, h2]; grind
theorem det_swA : ∀ {n : Nat} {M : Nat → Nat → Rat} {k : Nat}, k + 1 < n → det n (swA M k) = -det n M := by
 intro n
 induction n with
 | zero => intro M k h; omega
 | succ n ih =>
  intro M k hk
  rw [det_s, det_s]
  refine su_adj hk (fun i hi h1 h2 => ?_) ?_ ?_
  ·have e1 : swA M k i = M i := by unfold swA; rw [if_neg h1, if_neg h2]
   have e2 : mi (swA M k) i = swA (mi M i) (if k < i then k else k - 1) := by
    funext r c
    unfold mi swA
    by_cases g1 : sk i r = k
    ·rw [if_pos g1, if_pos (by unfold sk at g1; split at g1 <;> split <;> omega)]
     congr 1
     unfold sk; split <;> split <;> omega
    rw [if_neg g1]
    by_cases g2 : sk i r = k + 1
    ·rw [if_pos g2, if_neg (by unfold sk at g2; split at g2 <;> split <;> omega), if_pos (by unfold sk at g2; split at g2 <;> split <;> omega)]
     congr 1
     unfold sk; split <;> (try split) <;> omega
    rw [if_neg g2, if_neg, if_neg]
    ·intro e; apply g2; unfold sk; split <;> split at e <;> omega
    intro e; apply g1; unfold sk; split <;> split at e <;> omega
   rw [e1, e2, ih (by split <;> omega)]; grind
  ·have e1 : swA M k k = M (k + 1) := by unfold swA; rw [if_pos rfl]
   have e2 : mi (swA M k) k = mi M (k + 1) := by
    funext r c
    show swA M k (sk k r) (c + 1) = M (sk (k + 1) r) (c + 1)
    unfold swA
    rcases Nat.lt_trichotomy r k with h | h | h
    ·rw [sk_lt h, sk_lt (show r < k + 1 by omega), if_neg xq, if_neg xq]
    ·subst h; rw [sk_ge (Nat.le_refl r), sk_lt (show r < r + 1 by omega), if_neg xq, if_pos rfl]
    rw [sk_ge (show k ≤ r by omega), sk_ge (show k + 1 ≤ r by omega), if_neg xq, if_neg xq]
   rw [e1, e2, sgD_s]; grind
  have e1 : swA M k (k + 1) = M k := by unfold swA; rw [if_neg xq, if_pos rfl]
  have e2 : mi (swA M k) (k + 1) = mi M k := by
   funext r c
   show swA M k (sk (k + 1) r) (c + 1) = M (sk k r) (c + 1)
   unfold swA
   rcases Nat.lt_trichotomy r k with h | h | h
   ·rw [sk_lt h, sk_lt (show r < k + 1 by omega), if_neg xq, if_neg xq]
   ·subst h; rw [sk_ge (Nat.le_refl r), sk_lt (show r < r + 1 by omega), if_pos rfl]
   rw [sk_ge (show k ≤ r by omega), sk_ge (show k + 1 ≤ r by omega), if_neg xq, if_neg xq]
  rw [e1, e2, sgD_s]; grind
theorem det_eq : ∀ {d : Nat} {M : Nat → Nat → Rat} {p : Nat}, p + d + 1 < n → M p = M (p + d + 1) → det n M = 0 := by
 intro d
 induction d with
 | zero =>
  intro M p h e
  have h1 := det_swA (M := M) (k := p) (n := n) xq
  have h2 : swA M p = M := by
   funext r; unfold swA
   split
   ·rename_i h3; rw [h3]; exact e.symm
   split
   ·rename_i h3; rw [h3]; exact e
   rfl
  rw [h2] at h1; grind
 | succ d ih =>
  intro M p h e
  have h1 := det_swA (M := M) (k := p + d + 1) (n := n) xq
  have h2 : det n (swA M (p + d + 1)) = 0 := by
   refine ih (p := p) xq ?_
   unfold swA
   rw [if_neg xq, if_neg xq, if_pos rfl]
   exact e
  rw [h2] at h1; grind
theorem det_same (hp : p < n) (hq : q < n) (h : p ≠ q) (e : M p = M q) : det n M = 0 := by
 rcases Nat.lt_or_ge p q with h1 | h1
 ·obtain ⟨d, rfl⟩ : ∃ d, q = p + d + 1 := ⟨q - p - 1, by omega⟩
  exact det_eq hq e
 obtain ⟨d, rfl⟩ : ∃ d, p = q + d + 1 := ⟨p - q - 1, by omega⟩
 exact det_eq hp e.symm
theorem det_shear (hp : p < n) (hq : q < n) (h : p ≠ q) : det n (up M p fun c => M p c + a * M q c) = det n M := by
 have h1 := det_lin (n := n) (M := M) (k := p) (a := 1) (b := a) (u := M p) (v := M q) hp
 have h2 : det n (up M p (M q)) = 0 := det_same hp hq h (by rw [up_get, up_ne (Ne.symm h)])
 rw [h2, up_self] at h1
 have e : (fun c => 1 * M p c + a * M q c) = fun c => M p c + a * M q c := by funext c; grind
 rw [e] at h1; rw [h1]; grind
theorem det_scale (hp : p < n) : det n (up M p fun c => a * M p c) = a * det n M := by
 have h1 := det_lin (n := n) (M := M) (k := p) (a := a) (b := 0) (u := M p) (v := M p) hp
 have e : (fun c => a * M p c + 0 * M p c) = fun c => a * M p c := by funext c; grind
 rw [e, up_self] at h1
 rw [h1]; grind
def swR (M : Nat → Nat → Rat) (p q : Nat) : Nat → Nat → Rat := fun r => if r = p then M q else if r = q then M p else M r
theorem det_swap (hp : p < n) (hq : q < n) (h : p ≠ q) : det n (swR M p q) = -det n M := by
 -- (a, b) → (a + b, b) → (a + b, -a) → (b, -a) → (b, a)
 have s1 := det_shear (M := M) (n := n) (a := 1) hp hq h
 generalize e1 : (up M p fun c => M p c + 1 * M q c) = M1 at s1
 have s2 := det_shear (M := M1) (n := n) (a := -1) hq hp (Ne.symm h)
 generalize e2 : (up M1 q fun c => M1 q c + -1 * M1 p c) = M2 at s2
 have s3 := det_shear (M := M2) (n := n) (a := 1) hp hq h
 generalize e3 : (up M2 p fun c => M2 p c + 1 * M2 q c) = M3 at s3
 have s4 := det_scale (M := M3) (n := n) (a := -1) hq
 have e4 : (up M3 q fun c => -1 * M3 q c) = swR M p q := by
  have p1 : M1 p = fun c => M p c + 1 * M q c := by rw [← e1]; exact up_get
  have q1 : M1 q = M q := by rw [← e1]; exact up_ne (Ne.symm h)
  have q2 : M2 q = fun c => M1 q c + -1 * M1 p c := by rw [← e2]; exact up_get
  have p2 : M2 p = M1 p := by rw [← e2]; exact up_ne h
  have p3 : M3 p = fun c => M2 p c + 1 * M2 q c := by rw [← e3]; exact up_get
  have q3 : M3 q = M2 q := by rw [← e3]; exact up_ne (Ne.symm h)
  funext r c
  unfold up swR
  by_cases g : r = q
  ·subst g
   rw [if_pos rfl, if_neg (Ne.symm h), if_pos rfl, q3, q2, q1, p1]; grind
  rw [if_neg g]
  by_cases g2 : r = p
  ·subst g2
   rw [if_pos rfl, p3, p2, q2, q1, p1]; grind
  rw [if_neg g2, if_neg g, ← e3, up_ne g2, ← e2, up_ne g, ← e1, up_ne g2]
 rw [e4] at s4
 rw [s4, s3, s2, s1]; grind
end
end Nt
open Go.RowKit
theorem k_r5Degree {u w : World} {x : Sl} {l : List Rat} {K : Nat} (d : Dat u w) (hx : PolV u x l K) (hK : K ≤ 40000000) (hx9 : l.length ≤ 1000000000) : qyc 86 #[x.v] w (Post u w fun v u' => v = .int .i64 (((Nt.trimQ l).length : Int) - 1)) := by
 have hlen := hx.len
 have htl := zzh l
 refine zzm Tryz.func86 rfl Tryz.ntmps86 Tryz.results86 d ?_
 refine sq9 (zza 2 (zI 0) (zzb (sq9 (zza 3 (.v (x.v)) (zzg 4 83 _ fun _ _ ae ac => qym (k_r5Trim ac (hx.ext ae) xq xk) ?_)))))
 rintro _ u14 g15 ⟨aa, rfl, ad⟩
 have hly12 := ad.len
 refine zza 5 (zI aa.n) (qwi 6 ((aa.n : Int) - 1) ((aa.n : Int) - 1) zk (zza 2 (zI ((aa.n : Int) - 1)) (zzb (zzo (ret0 [.int .i64 ((aa.n : Int) - 1)] ⟨zzq, trivial⟩ fun u17 e18 => ?_)))))
 show Value.int _ _ = Value.int _ _
 rw [show ((aa.n : Int) - 1) = (((Nt.trimQ l).length : Int) - 1) by omega]
theorem k_r5At {u w : World} {x : Sl} {l : List Rat} {K i : Nat} (d : Dat u w) (hx : PolV u x l K) (hK : K ≤ 40000000) (hx9 : l.length ≤ 1000000000) (hi9 : i ≤ 1000000000) : qyc 82 #[x.v, .int .i64 (i : Int)] w (Post u w fun v u' => ∃ r : RL, v = r.v ∧ RatN u' r (l.getD i 0) (K + 2)) := by
 have hlen := hx.len
 refine zzm Tryz.func82 rfl Tryz.ntmps82 Tryz.results82 d ?_
 refine sq9 (zzk 4 ⟨32, zw3⟩ (zzb (zzd (sq9 (zza 5 (zI i) (zza 6 (zB (decide ((i : Int) < 0))) (zyq 7 (x := zB (decide ((i : Int) < 0))) (zB false) (by rw [show (decide ((i : Int) < 0)) = false from decide_eq_false xq]) (zza 8 (zI i) ?_ (hw := w1 2 false 7)))))))))
 refine zza 9 (.v (x.v)) ?_ (hw := w1 2 false 7)
 refine zza 10 (zI x.n) ?_ (hw := w1 2 false 7)
 refine zza 11 (zB (decide ((x.n : Int) ≤ (i : Int)))) ?_ (hw := w1 2 false 7)
 refine zza 12 (zB (decide ((x.n : Int) ≤ (i : Int)))) (zzb (zzu (b := decide ((x.n : Int) ≤ (i : Int))) xj (fun aa => ?_) (fun aa => ?_)))
 ·have qhb12 := qyt aa
  refine sq9 (zzg 13 30 _ fun _ _ _ ak => qym (k_rqOf ak (z := 0) xq xq) ?_)
  rintro _ u16 g17 ⟨ae, rfl, am⟩
  refine zzj ⟨32, ae.cs⟩ ty32 ?_
  refine zzb (zzo (zzw (ret0 [ae.v] ⟨zzr ty32 zze, trivial⟩ fun u19 al => ?_)))
  have e9 : l.getD i 0 = ((0 : Int) : Rat) := Nt.co_ge xq
  rw [e9]
  exact ⟨ae, rfl, RatN.more (K := 2) (am.ext al) xq⟩
 have qhb12 := qyf aa
 refine zzs (zzp ?_)
 refine sq9 (zza 14 (.v (x.v)) (zza 15 (zI i) ?_))
 have hl21 := hx.len
 obtain ⟨ao, b21, ah, af, ag, ac⟩ := pol_at hx (i := i) xq
 refine zya 16 (ah + i * 3) (n := x.n) (off := ah) (sz := 3) (i := (i : Int)) xq af xq xq sl27 (zym 17 ao.cs ag ty32 (zzg 18 80 _ fun _ _ ap aj => qym (k_rqTrim aj (ac.ext ap) xq) ?_))
 rintro _ u25 g26 ⟨ad, rfl, an⟩
 refine zzj ⟨32, ad.cs⟩ ty32 ?_
 refine zzb (zzo (ret0 [ad.v] ⟨zzr ty32 zze, trivial⟩ fun u28 ai => ?_))
 exact ⟨ad, rfl, RatN.more (K := K) (an.ext ai) xq⟩
theorem k_r5Add {u w : World} {x : Sl} {l : List Rat} {y : Sl} {m : List Rat} {K M : Nat} (d : Dat u w) (hx : PolV u x l K) (hy : PolV u y m M) (hK : K ≤ 20000000) (hM : M ≤ 20000000) (hx9 : l.length ≤ 1000000000) (hy9 : m.length ≤ 1000000000) : qyc 22 #[x.v, y.v] w (Post u w fun v u' => ∃ y : Sl, v = y.v ∧ PolN u' y (Nt.trimQ (Nt.addQ l m)) (K + M + 6)) := by
 have hlen := hx.len
 have hlen2 := hy.len
 refine zzm Tryz.func22 rfl Tryz.ntmps22 Tryz.results22 d ?_
 refine sq9 (zza 4 (.v (qyn)) (zzb (sq9 (zza 5 (.v (qyn)) (zzb (zzd (sq9 (zza 6 (zI 0) (zzb (zzt (zyn (I := fun a5 S' u' => (a5 = max x.n y.n ∧ S' = St.of 31 [(0, .v (x.v)), (1, .v (y.v)), (5, .v (qyn)), (6, zI 0)] [] ∧ Ext u u') ∨ (∃ (i : Nat) (L : List RL) (cs : List Value) (cp : Nat), a5 = (max x.n y.n) - i ∧ i ≤ max x.n y.n ∧ 0 < i ∧ L.length = i ∧ cs.length = cp * 3 ∧ i ≤ cp ∧ cp ≤ maxLen ∧ cs.take (i * 3) = rcs L ∧ S' = St.of 31 [(0, .v (x.v)), (1, .v (y.v)), (5, .slc 28 0 i cp), (6, zI i)] [(28, ⟨32, cs⟩)] ∧ Ext u u' ∧ RatsN u' L ((Nt.addQ l m).take i) (K + M + 6))) (fun m S u1 u2 e h => by rcases h with ⟨a, b, c⟩ | ⟨a1, a2, a3, a4, b1, b2, b3, b4, b5, b6, b7, b8, b9, b10, b11⟩; exact .inl ⟨a, b, c.trans e⟩; exact .inr ⟨a1, a2, a3, a4, b1, b2, b3, b4, b5, b6, b7, b8, b9, b10.trans e, b11.ext e⟩) _ yz (.inl ⟨rfl, rfl, Ext.refl _⟩) ?_)))))))))))
 rintro a5 _ cr (⟨br, rfl, aa⟩ | ⟨i, L, cs, cp, br, hi, hp, hL, hc, hle, hmx, ht, rfl, aa, hR⟩)
 ·change SW _ _ _ _ (St.of 31 [(0, .v (.slice x.a x.n x.c)), (1, .v (.slice y.a y.n y.c)), (5, .v (qyn)), (6, .v (.int .i64 0))] []) _ _
  refine zzd (sq9 (zza 7 (zI 0) (zza 8 (.v (x.v)) (zza 9 (zI x.n) (zza 10 (zB (decide ((0 : Int) < (x.n : Int)))) ?_)))))
  rcases Bool.eq_false_or_eq_true (decide ((0 : Int) < (x.n : Int))) with hs12 | hs12
  ·refine qbi 11 hs12 ?_
   have qhs12 := qyt hs12
   refine zzn 12 (uw 4 false true 11) (zzn 13 (uw 4 false true 11) (zzn 14 (uw 4 false true 11) (zzn 15 (uw 4 false true 11) (zza 16 (zB true) (zzb (zyr xj (zzs (zzp ?_))))))))
   refine zzd (zzt (zzf (zza 19 (.v (qyn)) (zza 20 (.v (x.v)) (zza 21 (zI 0) (zzg 22 82 _ fun _ _ aW cm => qym ((show Calls _ _ #[_, .int .i64 (0)] _ _ from k_r5At (i := 0) cm (hx.ext (aa.trans aW)) xq xk xq)) ?_))))))
   rintro _ u16 bD ⟨r14, rfl, cz⟩
   refine zza 23 (.v (y.v)) (zza 24 (zI 0) (zzg 25 82 _ fun _ _ be ci => qym ((show Calls _ _ #[_, .int .i64 (0)] _ _ from k_r5At (i := 0) ci (hy.ext (aa.t (aW.t (bD.t be)))) xq xk xq)) ?_))
   rintro _ u22 bL ⟨r20, rfl, cv⟩
   refine zzg 26 58 _ fun _ _ a6 cA => qym (k_rqAdd cA (cz.ext (be.t (bL.t a6))).raw (cv.ext a6).raw xq xq) ?_
   rintro _ u28 cg ⟨aC, rfl, bv⟩
   refine zxx 27 ⟨32, aC.cs⟩ 1 (fun bA bX aV bN => ?_)
   have ct : PolN bX (⟨some ⟨bA, 0, none⟩, 1, 1⟩ : Sl) [((l.getD 0 0) + (m.getD 0 0))] ((K + 2) + (M + 2) + 2) := pol_lit (L := [aC]) bN (rats1 (bv.ext aV)) rfl yv
   refine sy_app0 28 (T := 27) (E := 32) (z := .agg #[.bool false, qyn, qyn]) (size := 3) (bytes := 56) (b := bA) (off := 0) (m := 1) aC.cs xj xj xj yv rfl (lit_news ((Ext.refl _).cells bN)) (rl_one aC) yv yv yv ?_
   intro bJ bq cb a9 bm bj
   refine zza 5 (.slc 28 0 1 bJ) (zzx ?_)
   refine zzp (zzf (zza 17 (zI 0) (zza 18 (zI 1) (zza 6 (zI 1) (zzx ?_)))))
   have aX : 0 < (Nt.addQ l m).length := by rw [Nt.addQ_len]; omega
   refine ⟨_, ?_, _, by exact zzv _ _ _, .inr ⟨1, [aC], bq, bJ, rfl, by omega, by omega, by simp, bm, by omega, a9, bj, rfl, (aa.t (aW.t (bD.t (be.t (bL.t (a6.t (cg.t aV))))))), (app_first (RatN.more (K := ((K + 2) + (M + 2) + 2)) (bv.ext aV) xq) aX (by have h9 := Nt.addQ_co l m (0); unfold Nt.co at h9; exact h9.symm))⟩⟩
   omega
  refine qbi 11 hs12 ?_
  have qhs12 := qyf hs12
  refine zza 12 (zI 0) ?_ (hw := w1 4 false 11)
  refine zza 13 (.v (y.v)) ?_ (hw := w1 4 false 11)
  refine zza 14 (zI y.n) ?_ (hw := w1 4 false 11)
  refine zza 15 (zB (decide ((0 : Int) < (y.n : Int)))) ?_ (hw := w1 4 false 11)
  refine zza 16 (zB (decide ((0 : Int) < (y.n : Int)))) (zzb (zzu (b := decide ((0 : Int) < (y.n : Int))) xj (fun am => ?_) (fun am => ?_)))
  ·have qhb38 := qyt am
   refine zzs (zzp ?_)
   refine zzd (zzt (zzf (zza 19 (.v (qyn)) (zza 20 (.v (x.v)) (zza 21 (zI 0) (zzg 22 82 _ fun _ _ aM cB => qym ((show Calls _ _ #[_, .int .i64 (0)] _ _ from k_r5At (i := 0) cB (hx.ext (aa.trans aM)) xq xk xq)) ?_))))))
   rintro _ u42 bG ⟨r40, rfl, cf⟩
   refine zza 23 (.v (y.v)) (zza 24 (zI 0) (zzg 25 82 _ fun _ _ aU bY => qym ((show Calls _ _ #[_, .int .i64 (0)] _ _ from k_r5At (i := 0) bY (hy.ext (aa.t (aM.t (bG.t aU)))) xq xk xq)) ?_))
   rintro _ u48 bu ⟨r46, rfl, bQ⟩
   refine zzg 26 58 _ fun _ _ bc bT => qym (k_rqAdd bT (cf.ext (aU.t (bu.t bc))).raw (bQ.ext bc).raw xq xq) ?_
   rintro _ u54 ch ⟨aD, rfl, bE⟩
   refine zxx 27 ⟨32, aD.cs⟩ 1 (fun bK cq bn bM => ?_)
   have cl : PolN cq (⟨some ⟨bK, 0, none⟩, 1, 1⟩ : Sl) [((l.getD 0 0) + (m.getD 0 0))] ((K + 2) + (M + 2) + 2) := pol_lit (L := [aD]) bM (rats1 (bE.ext bn)) rfl yv
   refine sy_app0 28 (T := 27) (E := 32) (z := .agg #[.bool false, qyn, qyn]) (size := 3) (bytes := 56) (b := bK) (off := 0) (m := 1) aD.cs xj xj xj yv rfl (lit_news ((Ext.refl _).cells bM)) (rl_one aD) yv yv yv ?_
   intro bz a0 cd bs a8 aN
   refine zza 5 (.slc 28 0 1 bz) (zzx ?_)
   refine zzp (zzf (zza 17 (zI 0) (zza 18 (zI 1) (zza 6 (zI 1) (zzx ?_)))))
   have aZ : 0 < (Nt.addQ l m).length := by rw [Nt.addQ_len]; omega
   refine ⟨_, ?_, _, by exact zzv _ _ _, .inr ⟨1, [aD], a0, bz, rfl, by omega, by omega, by simp, a8, by omega, bs, aN, rfl, (aa.t (aM.t (bG.t (aU.t (bu.t (bc.t (ch.t bn))))))), (app_first (RatN.more (K := ((K + 2) + (M + 2) + 2)) (bE.ext bn) xq) aZ (by have h9 := Nt.addQ_co l m (0); unfold Nt.co at h9; exact h9.symm))⟩⟩
   omega
  have qhb38 := qyf am
  refine zyc (zzp (zzd ?_))
  have bo : PolN cr ⟨none, 0, 0⟩ (Nt.addQ l m) (K + M + 6) := by have h9 : Nt.addQ l m = [] := List.eq_nil_of_length_eq_zero (by rw [Nt.addQ_len]; omega); rw [h9]; exact pol_nil _ _
  refine zzf (zza 29 (.v (qyn)) (zzg 30 83 _ fun _ _ cj bW => qym (k_r5Trim bW (bo.ext cj).raw xq xk) ?_))
  rintro _ u68 g69 ⟨aT, rfl, bH⟩
  have hly66 := bH.len
  refine zza 4 (.v (aT.v)) (zzb (zzo (ret0 [aT.v] ⟨zzq, trivial⟩ fun u71 cy => ?_)))
  refine ⟨aT, rfl, ?_⟩
  exact (bH.ext cy)
 change SW _ _ _ _ (St.of 31 [(0, .v (.slice x.a x.n x.c)), (1, .v (.slice y.a y.n y.c)), (5, .slc 28 0 i cp), (6, .v (.int .i64 (i : Int)))] [(28, ⟨32, cs⟩)]) _ _
 refine zzd (sq9 (zza 7 (zI i) (zza 8 (.v (x.v)) (zza 9 (zI x.n) (zza 10 (zB (decide ((i : Int) < (x.n : Int)))) ?_)))))
 rcases Bool.eq_false_or_eq_true (decide ((i : Int) < (x.n : Int))) with hs73 | hs73
 ·refine qbi 11 hs73 ?_
  have qhs73 := qyt hs73
  refine zzn 12 (uw 4 false true 11) (zzn 13 (uw 4 false true 11) (zzn 14 (uw 4 false true 11) (zzn 15 (uw 4 false true 11) (zza 16 (zB true) (zzb (zyr xj (zzs (zzp ?_))))))))
  refine zzd (zzt (zzf (zza 19 (.slc 28 0 i cp) (zza 20 (.v (x.v)) (zza 21 (zI i) (zzg 22 82 _ fun _ _ aJ cC => qym ((show Calls _ _ #[_, .int .i64 ((i : Int))] _ _ from k_r5At (i := i) cC (hx.ext (aa.trans aJ)) xq xk xq)) ?_))))))
  rintro _ u77 bp ⟨r75, rfl, b0⟩
  refine zza 23 (.v (y.v)) (zza 24 (zI i) (zzg 25 82 _ fun _ _ aI bU => qym ((show Calls _ _ #[_, .int .i64 ((i : Int))] _ _ from k_r5At (i := i) bU (hy.ext (aa.t (aJ.t (bp.t aI)))) xq xk xq)) ?_))
  rintro _ u83 aY ⟨r81, rfl, ca⟩
  refine zzg 26 58 _ fun _ _ aL cc => qym (k_rqAdd cc (b0.ext (aI.t (aY.t aL))).raw (ca.ext aL).raw xq xq) ?_
  rintro _ u89 bC ⟨ao, rfl, bO⟩
  refine zxx 27 ⟨32, ao.cs⟩ 1 (fun bw cn aK bF => ?_)
  have bR : PolN cn (⟨some ⟨bw, 0, none⟩, 1, 1⟩ : Sl) [((l.getD i 0) + (m.getD i 0))] ((K + 2) + (M + 2) + 2) := pol_lit (L := [ao]) bF (rats1 (bO.ext aK)) rfl yv
  refine sy_app1 28 (T := 27) (E := 32) (z := .agg #[.bool false, qyn, qyn]) (size := 3) (bytes := 56) (b := bw) (off := 0) (m := 1) (n := i) (cap := cp) (t := 28) (cs0 := cs) [5, 19, 28] ao.cs xj xj xj yv rfl (lit_news ((Ext.refl _).cells bF)) (rl_one ao) yv yk xq xq xq xq xw ?_
  intro bx az bP bb a7 aS
  have ax : az.take ((i + 1) * 3) = rcs (L ++ [ao]) := by rw [aS, ht, rcs_app]; rfl
  refine zza 5 (.slc 28 0 (i + 1) bx) (zzx ?_)
  refine zzp (zzf (zza 17 (zI i) (qwi 18 ((i : Int) + 1) (i + 1 : Nat) xz (zza 6 (zI (i + 1 : Nat)) (zzx ?_)))))
  have aO : i < (Nt.addQ l m).length := by rw [Nt.addQ_len]; omega
  refine ⟨_, ?_, _, by exact zzv _ _ _, .inr ⟨i + 1, L ++ [ao], az, bx, rfl, by omega, by omega, by simp; omega, a7, by omega, bb, ax, rfl, (aa.t (aJ.t (bp.t (aI.t (aY.t (aL.t (bC.t aK))))))), (app_next (hR.ext (aJ.t (bp.t (aI.t (aY.t (aL.t (bC.t aK))))))) (RatN.more (K := ((K + 2) + (M + 2) + 2)) (bO.ext aK) xq) aO (by have h9 := Nt.addQ_co l m (i); unfold Nt.co at h9; exact h9.symm))⟩⟩
  omega
 refine qbi 11 hs73 ?_
 have qhs73 := qyf hs73
 refine zza 12 (zI i) ?_ (hw := w1 4 false 11)
 refine zza 13 (.v (y.v)) ?_ (hw := w1 4 false 11)
 refine zza 14 (zI y.n) ?_ (hw := w1 4 false 11)
 refine zza 15 (zB (decide ((i : Int) < (y.n : Int)))) ?_ (hw := w1 4 false 11)
 refine zza 16 (zB (decide ((i : Int) < (y.n : Int)))) (zzb (zzu (b := decide ((i : Int) < (y.n : Int))) xj (fun aj => ?_) (fun aj => ?_)))
 ·have qhb99 := qyt aj
  refine zzs (zzp ?_)
  refine zzd (zzt (zzf (zza 19 (.slc 28 0 i cp) (zza 20 (.v (x.v)) (zza 21 (zI i) (zzg 22 82 _ fun _ _ ag bg => qym ((show Calls _ _ #[_, .int .i64 ((i : Int))] _ _ from k_r5At (i := i) bg (hx.ext (aa.trans ag)) xq xk xq)) ?_))))))
  rintro _ bS an ⟨ce, rfl, ba⟩
  refine zza 23 (.v (y.v)) (zza 24 (zI i) (zzg 25 82 _ fun _ _ ae aQ => qym ((show Calls _ _ #[_, .int .i64 ((i : Int))] _ _ from k_r5At (i := i) aQ (hy.ext (aa.t (ag.t (an.t ae)))) xq xk xq)) ?_))
  rintro _ cx ai ⟨ck, rfl, bl⟩
  refine zzg 26 58 _ fun _ _ af bh => qym (k_rqAdd bh (ba.ext (ae.t (ai.t af))).raw (bl.ext af).raw xq xq) ?_
  rintro _ cu au ⟨ac, rfl, aF⟩
  refine zxx 27 ⟨32, ac.cs⟩ 1 (fun ar aR ad aG => ?_)
  have bt : PolN aR (⟨some ⟨ar, 0, none⟩, 1, 1⟩ : Sl) [((l.getD i 0) + (m.getD i 0))] ((K + 2) + (M + 2) + 2) := pol_lit (L := [ac]) aG (rats1 (aF.ext ad)) rfl yv
  refine sy_app1 28 (T := 27) (E := 32) (z := .agg #[.bool false, qyn, qyn]) (size := 3) (bytes := 56) (b := ar) (off := 0) (m := 1) (n := i) (cap := cp) (t := 28) (cs0 := cs) [5, 19, 28] ac.cs xj xj xj yv rfl (lit_news ((Ext.refl _).cells aG)) (rl_one ac) yv yk xq xq xq xq xw ?_
  intro ay ah bI aA aw ap
  have al : ah.take ((i + 1) * 3) = rcs (L ++ [ac]) := by rw [ap, ht, rcs_app]; rfl
  refine zza 5 (.slc 28 0 (i + 1) ay) (zzx ?_)
  refine zzp (zzf (zza 17 (zI i) (qwi 18 ((i : Int) + 1) (i + 1 : Nat) xz (zza 6 (zI (i + 1 : Nat)) (zzx ?_)))))
  have aB : i < (Nt.addQ l m).length := by rw [Nt.addQ_len]; omega
  refine ⟨_, ?_, _, by exact zzv _ _ _, .inr ⟨i + 1, L ++ [ac], ah, ay, rfl, by omega, by omega, by simp; omega, aw, by omega, aA, al, rfl, (aa.t (ag.t (an.t (ae.t (ai.t (af.t (au.t ad))))))), (app_next (hR.ext (ag.t (an.t (ae.t (ai.t (af.t (au.t ad))))))) (RatN.more (K := ((K + 2) + (M + 2) + 2)) (aF.ext ad) xq) aB (by have h9 := Nt.addQ_co l m (i); unfold Nt.co at h9; exact h9.symm))⟩⟩
  omega
 have qhb99 := qyf aj
 refine zyc (zzp (zzd (zyp (r := 5) (t := 28) [5, 28] xw xj (by rfl) (by rfl) xj (fun av bf bk bB aH => ?_))))
 have aq : PolN bf ⟨some ⟨av, 0, none⟩, i, cp⟩ (Nt.addQ l m) (K + M + 6) := by have h8 := pol_data aH ht hc hle hmx (hR.ext bk); rw [List.take_of_length_le (l := Nt.addQ l m) (by rw [Nt.addQ_len]; omega)] at h8; exact h8
 refine zzf (zza 29 (.v (.slice (some ⟨av, 0, none⟩) i cp)) (zzg 30 83 _ fun _ _ bi bd => qym (k_r5Trim bd (aq.ext bi).raw xq xk) ?_))
 rintro _ bV cD ⟨ak, rfl, aE⟩
 have hly132 := aE.len
 refine zza 4 (.v (ak.v)) (zzb (zzo (ret0 [ak.v] ⟨zzq, trivial⟩ fun cw aP => ?_)))
 refine ⟨ak, rfl, ?_⟩
 exact (aE.ext aP)
instance wdDec (W : WL) : Decidable (WdOK W) := by unfold WdOK; exact inferInstance
section
variable {P : Program} {ops : Array Oper} {w0 : Base} {u0 : World} {S : St} {u : World} {o : Oper} {p : List Tmp} {seq : Bool} {rest : List (Oper × List Tmp)} {K : St → World → Prop}
theorem sy_minN (d : Tmp) {x y : Operand} {k0 : IntKind} {n m v : Int} {tys : Array TypeId} (hv : (if m < n then m else n) = v)
  (k : sym P ops w0 u0 seq rest (S.set d (.v (.int k0 v))) u K)
  (hw : Wants ops o S := by exact zwf xj) (hd : o.dst = some d := by kernel_rfl) (hop : o.op = .call { callee := .builtin .min, args := #[x, y], argTypes := tys } := by rfl) (hf : freeB S d = true := by kernel_rfl)
  (hx : evO S x = some (.v (.int k0 n)) := by rfl) (hy : evO S y = some (.v (.int k0 m)) := by rfl) : sym P ops w0 u0 seq ((o, p) :: rest) S u K := by
 refine .inr (.inr (.inl ⟨.inr ⟨by rw [hop]; rfl, by rw [hop]; rfl⟩, fun B a w u' he hrep => ⟨hw B a hrep.regs, ?_⟩⟩))
 have hrun : ∀ ty w, (Builtin.min_ tys ty #[.int k0 n, .int k0 m]).run P w = .ok (.int k0 v) w := by
  intro ty w
  rw [← hv]
  rfl
 unfold Oper.wp execOp
 simp only [hop, resolve, invoke, builtin, Sem.run_bind, Sem.run_pure, Result.andThen_ok, List.map_toArray, List.map_cons, List.map_nil, ev_of hrep.regs hx, ev_of hrep.regs hy, SV.conc, hrun]
 have hr2 := hrep.set (d := o.dst) (x := some (.v (.int k0 v))) (v := .int k0 v) (fun s hs => (zxy hd hf s hs).1) (fun z e => by injection e with e; rw [← e]; rfl) (fun z t e ht => by injection e with e; rw [← e] at ht; cases ht)
 show ∃ S' B' u'' u2, Rep w0 u0 S' B' (a.put o.dst _) w u'' ∧ _
 refine ⟨_, B, u', u, hr2, fun _ => Ext.refl _, fun _ => Ext.refl _, he, ?_⟩
 rw [hd]; exact k
end
namespace Nt
section
variable {α : Type}
def swL (l : List α) (t f : Nat) (z : α) : List α := (l.set t (l.getD f z)).set f (l.getD t z)
theorem swL_len {l : List α} {t f : Nat} {z : α} : (swL l t f z).length = l.length := by unfold swL; rw [List.length_set, List.length_set]
theorem swL_at {l : List α} {t f i : Nat} {z : α} (ht : t < l.length) (hf : f < l.length) : (swL l t f z).getD i z = if i = t then l.getD f z else if i = f then l.getD t z else l.getD i z := by
 unfold swL
 have hg : ∀ {l : List α} {i j : Nat} {a : α}, i ≠ j → (l.set i a).getD j z = l.getD j z := fun h => by simp [h]
 have hs : ∀ {l : List α} {i : Nat} {a : α}, i < l.length → (l.set i a).getD i z = a := fun h => by simp [h]
 by_cases h1 : f = i
 ·subst h1
  rw [hs (by rw [List.length_set]; exact hf)]
  by_cases h2 : f = t
  ·subst h2; rw [if_pos rfl]
  rw [if_neg h2, if_pos rfl]
 rw [hg h1]
 by_cases h2 : t = i
 ·subst h2; rw [hs ht, if_pos rfl]
 rw [hg h2, if_neg (Ne.symm h2), if_neg (Ne.symm h1)]
end
def rowA (a b : List Rat) (f : Rat) : List Rat := (List.range a.length).map fun j => a.getD j 0 + f * b.getD j 0
def ent (M : List (List Rat)) (i j : Nat) : Rat := (M.getD i []).getD j 0
section
variable {M : List (List Rat)} {a b l : List Rat} {s : List Int} {S : List (List Int)} {n t f i j D A : Nat} {cf sh : Int} {q : Rat}
theorem mapR_at {g : Nat → Rat} (h : j < n) : ((List.range n).map g).getD j 0 = g j := by
 rw [qyg, List.getElem?_map, List.getElem?_range h]; rfl
theorem rowA_len : (rowA a b q).length = a.length := by unfold rowA; simp
theorem rowA_at (h : j < a.length) : (rowA a b q).getD j 0 = a.getD j 0 + q * b.getD j 0 := mapR_at h
theorem getD_setL {x y : List Rat} : (M.set t x).getD i [] = if t = i ∧ t < M.length then x else M.getD i [] := by
 by_cases h : t = i
 ·subst h
  by_cases h2 : t < M.length
  ·rw [if_pos ⟨rfl, h2⟩]; simp [h2]
  rw [if_neg (fun h => h2 h.2), List.set_eq_of_length_le xq]
 rw [if_neg (fun h9 => h h9.1)]; simp [h]
theorem ent_set : ent (M.set t l) i j = if t = i ∧ t < M.length then l.getD j 0 else ent M i j := by
 unfold ent; rw [getD_setL (y := [])]; split <;> rfl
theorem ent_swap (ht : t < M.length) (hf : f < M.length) : ent (swL M t f []) = swR (ent M) t f := by
 funext i j
 unfold ent swR
 rw [swL_at ht hf]
 split
 ·rfl
 split <;> rfl
def mixR (M : List (List Rat)) (t : Nat) (R : List Rat) (j : Nat) : List (List Rat) := M.set t (R.take j ++ (M.getD t []).drop j)
theorem mixR_0 {R : List Rat} : mixR M t R 0 = M := by
 unfold mixR
 rw [List.take_zero, List.nil_append, List.drop_zero]
 refine List.ext_getElem? fun k => ?_
 rw [List.getElem?_set]
 split
 ·rename_i e; subst e
  split
  ·rename_i h; simp [h]
  rename_i h; rw [List.getElem?_eq_none xq]
 rfl
theorem mixR_n {R : List Rat} (h : R.length = (M.getD t []).length) (hj : j = R.length) : mixR M t R j = M.set t R := by
 unfold mixR
 rw [hj, List.take_length, h, List.drop_length, List.append_nil]
theorem mixR_len {R : List Rat} : (mixR M t R j).length = M.length := by unfold mixR; rw [List.length_set]
theorem mixR_old {R : List Rat} (ht : t < M.length) (hR : R.length = (M.getD t []).length) (hj : j < R.length) : ((mixR M t R j).getD t []).getD j 0 = (M.getD t []).getD j 0 := by
 unfold mixR
 rw [getD_setL (y := []), if_pos ⟨rfl, ht⟩, qyg, List.getElem?_append_right (by rw [List.length_take]; omega), List.length_take, Nat.min_eq_left xq, Nat.sub_self, List.getElem?_drop, Nat.add_zero, qyg (l := M.getD t [])]
theorem mixR_other {R : List Rat} (h : t ≠ i) : (mixR M t R j).getD i [] = M.getD i [] := by
 unfold mixR; rw [getD_setL (y := []), if_neg (fun h9 => h h9.1)]
theorem mixR_row {R : List Rat} (ht : t < M.length) (hR : R.length = (M.getD t []).length) (hj : j ≤ R.length) : ((mixR M t R j).getD t []).length = R.length := by
 unfold mixR
 rw [getD_setL (y := []), if_pos ⟨rfl, ht⟩, List.length_append, List.length_take, List.length_drop]; omega
theorem mixR_s {R : List Rat} (ht : t < M.length) (hR : R.length = (M.getD t []).length) (hj : j < R.length) : (mixR M t R j).set t (((mixR M t R j).getD t []).set j (R.getD j 0)) = mixR M t R (j + 1) := by
 unfold mixR
 rw [List.set_set, getD_setL (y := []), if_pos ⟨rfl, ht⟩]
 congr 1
 rw [List.set_append_right j _ (by rw [List.length_take]; omega), List.length_take, Nat.min_eq_left xq, Nat.sub_self, List.take_succ_eq_append_getElem hj, List.append_assoc]
 congr 1
 have e9 : R.getD j 0 = R[j] := by rw [qyg, List.getElem?_eq_getElem hj]; rfl
 rw [List.drop_eq_getElem_cons (show j < (M.getD t []).length by omega), List.set_cons_zero, e9]; rfl
end
end Nt
def mqB (x : Sl) (Rs : List Sl) : List Nat := (x :: Rs).filterMap fun s => s.a.map fun a => a.block
section
variable {w k lo lo' h b n c i j off : Nat} {tO tR : TypeId} {u u' u'' v : World} {w0 : Base} {u0 : World} {x y z : Sl} {Rs : List Sl} {Ls : List (List RL)} {L : List RL} {M : List (List Rat)} {l : List Rat} {r : RL} {q : Rat} {K K' : Nat} {a : Addr}
theorem mqB_x (h : x.a = some a) : a.block ∈ mqB x Rs := List.mem_filterMap.2 ⟨x, List.mem_cons_self .., by rw [h]; rfl⟩
theorem mqB_row (hi : i < Rs.length) (h : (Rs.getD i sl0).a = some a) : a.block ∈ mqB x Rs := List.mem_filterMap.2 ⟨Rs.getD i sl0, List.mem_cons_of_mem _ (by
 rw [qyg, List.getElem?_eq_getElem hi]; exact List.getElem_mem hi), by rw [h]; rfl⟩
theorem MatQ.blk (m : MatQ w tO tR lo u x Rs Ls) (hb : b ∈ mqB x Rs) : lo ≤ b ∧ ∃ ob, u.heap[b]? = some ob ∧ ob ≠ hidO := by
 obtain ⟨s, hs, e⟩ := List.mem_filterMap.1 hb
 have key : ∀ {k : Nat} {ty : TypeId} {s : Sl} {cs : List Value}, MutQ k ty lo u s cs → s.a.map (fun a => a.block) = some b → lo ≤ b ∧ ∃ ob, u.heap[b]? = some ob ∧ ob ≠ hidO := by
  intro k ty s cs hm e
  rcases hm.2.2.2 with h1 | ⟨b', all, h1, h2, _, _, h5, _⟩
  ·rw [h1] at e; cases e
  rw [h1] at e; injection e with e; subst e
  exact ⟨h5, _, h2, cells_not_hid⟩
 rcases List.mem_cons.1 hs with h1 | h1
 ·subst h1; exact key m.out e
 obtain ⟨i, hi, e2⟩ := List.getElem_of_mem h1
 have h3 : Rs.getD i sl0 = s := by rw [qyg, List.getElem?_eq_getElem hi]; exact e2
 have h4 := m.row i (by rw [← m.len]; exact hi)
 rw [h3] at h4
 exact key h4 e
theorem MatQ.may (m : MatQ w tO tR lo u x Rs Ls) (hl : u0.heap.size ≤ lo) : ∀ b ∈ mqB x Rs, MayB w0 u0 b ∧ ∃ ob, u.heap[b]? = some ob ∧ ob ≠ hidO := fun b hb =>
 ⟨.inl (Nat.le_trans hl (m.blk hb).1), (m.blk hb).2⟩
theorem ExtF.rootQ (e : ExtF (mqB x Rs) u u') (m : MatQ w tO tR v.heap.size u x Rs Ls) (r : Ext v u) : Ext v u' :=
 ⟨Nat.le_trans r.size e.size, fun q o hq hh => e.vis q o (fun hm => by have h1 := (m.blk hm).1; have h2 := zxa hq; omega) (r.vis q o hq hh) hh⟩
theorem MatN.at (h : MatN u Ls M K) (hi : i < M.length) (hj : j < (M.getD i []).length) : RatN u ((Ls.getD i []).getD j rl0) ((M.getD i []).getD j 0) K := (h.2 i hi).2 j hj
theorem MatN.rowlen (h : MatN u Ls M K) (hi : i < M.length) : (Ls.getD i []).length = (M.getD i []).length := (h.2 i hi).1
theorem ExtX.trans {u2 : World} (e : ExtX x u u') (f : ExtX x u' u2) : ExtX x u u2 := ⟨Nat.le_trans e.size f.size, fun k o ho hk hh => f.vis k o ho (e.vis k o ho hk hh) hh⟩
theorem MutQ.rown {ty : TypeId} (m : MutQ (1 * 3) ty lo u y (rcs L)) : y.n = L.length := by
 have h := m.1
 rw [zyy] at h; omega
theorem MatN.swap {t f : Nat} (h : MatN u Ls M K) (ht : t < M.length) (hf : f < M.length) : MatN u ((Ls.set t (Ls.getD f [])).set f (Ls.getD t [])) (Nt.swL M t f []) K := by
 have hl := h.1
 refine ⟨by rw [Nt.swL_len, List.length_set, List.length_set]; exact hl, fun i hi => ?_⟩
 rw [Nt.swL_len] at hi
 have e1 : (Ls.set t (Ls.getD f [])).set f (Ls.getD t []) = Nt.swL Ls t f [] := rfl
 rw [e1, Nt.swL_at xq xq, Nt.swL_at ht hf]
 split
 ·exact h.2 f hf
 split
 ·exact h.2 t ht
 exact h.2 i hi
end
section
variable {w k lo lo' h b n c i j off : Nat} {tO tR : TypeId} {u u' u'' v : World} {w0 : Base} {u0 : World} {x y z : Sl} {Rs : List Sl} {Ls : List (List RL)} {L : List RL} {M : List (List Rat)} {l : List Rat} {r : RL} {q : Rat} {K K' : Nat} {a : Addr}
def MatE (u : World) (Ls : List (List RL)) (M : List (List Rat)) (Kf : Nat → Nat → Nat) : Prop :=
 Ls.length = M.length ∧ ∀ i, i < M.length → (Ls.getD i []).length = (M.getD i []).length ∧ ∀ j, j < (M.getD i []).length → RatN u ((Ls.getD i []).getD j rl0) ((M.getD i []).getD j 0) (Kf i j)
section
variable {Kf Kg : Nat → Nat → Nat}
theorem MatE.ofN (h : MatN u Ls M K) (hK : ∀ i j, K ≤ Kf i j) : MatE u Ls M Kf := ⟨h.1, fun i hi => ⟨(h.2 i hi).1, fun j hj => ((h.2 i hi).2 j hj).more (hK i j)⟩⟩
theorem MatE.toN (h : MatE u Ls M Kf) (hK : ∀ i j, i < M.length → j < (M.getD i []).length → Kf i j ≤ K) : MatN u Ls M K := ⟨h.1, fun i hi => ⟨(h.2 i hi).1, fun j hj => ((h.2 i hi).2 j hj).more (hK i j hi hj)⟩⟩
theorem MatE.ext (h : MatE u Ls M Kf) (e : Ext u u') : MatE u' Ls M Kf := ⟨h.1, fun i hi => ⟨(h.2 i hi).1, fun j hj => ((h.2 i hi).2 j hj).ext e⟩⟩
theorem MatE.more (h : MatE u Ls M Kf) (hK : ∀ i j, Kf i j ≤ Kg i j) : MatE u Ls M Kg := ⟨h.1, fun i hi => ⟨(h.2 i hi).1, fun j hj => ((h.2 i hi).2 j hj).more (hK i j)⟩⟩
theorem MatE.keep {k : Nat} {ty : TypeId} {cs : List Value} (h : MatE u Ls M Kf) (m : MutQ k ty lo u y cs) (e : ExtX y u u') : MatE u' Ls M Kf := ⟨h.1, fun i hi => ⟨(h.2 i hi).1, fun j hj => m.keep e ((h.2 i hi).2 j hj)⟩⟩
theorem MatE.at (h : MatE u Ls M Kf) (hi : i < M.length) (hj : j < (M.getD i []).length) (hK : Kf i j ≤ K) : RatN u ((Ls.getD i []).getD j rl0) ((M.getD i []).getD j 0) K := ((h.2 i hi).2 j hj).more hK
theorem MatE.rowlen (h : MatE u Ls M Kf) (hi : i < M.length) : (Ls.getD i []).length = (M.getD i []).length := (h.2 i hi).1
theorem MatE.el (h : MatE u Ls M Kf) (hi : i < M.length) (hj : j < (M.getD i []).length) (hr : RatN u r q K) (h1 : K ≤ Kg i j) (h2 : ∀ a b, (a ≠ i ∨ b ≠ j) → Kf a b ≤ Kg a b) : MatE u (Ls.set i ((Ls.getD i []).set j r)) (M.set i ((M.getD i []).set j q)) Kg := by
 refine ⟨by rw [List.length_set, List.length_set]; exact h.1, fun a ha => ?_⟩
 rw [List.length_set] at ha
 by_cases e : i = a
 ·subst e
  rw [getD_set_same (by rw [h.1]; exact ha), getD_set_same ha, List.length_set, List.length_set]
  refine ⟨(h.2 i ha).1, fun b hb => ?_⟩
  by_cases e2 : j = b
  ·subst e2; rw [getD_set_same (by rw [(h.2 i ha).1]; exact hb), getD_set_same hb]; exact hr.more h1
  rw [getD_set_other e2, getD_set_other e2]; exact ((h.2 i ha).2 b hb).more (h2 i b (.inr (Ne.symm e2)))
 rw [getD_set_other e, getD_set_other e]
 exact ⟨(h.2 a ha).1, fun b hb => ((h.2 a ha).2 b hb).more (h2 a b (.inl (Ne.symm e)))⟩
end
theorem nu_zrat : ∀ v ∈ (Value.agg #[.bool false, qyn, qyn]).cells.toList, NU v := nu_rl rl0
theorem nu_zsl : ∀ v ∈ (Value.slice none 0 0).cells.toList, NU v := nu_sls [sl0]
theorem MatQ.snoc (hT : tO ≠ tR) (hT2 : tR ≠ tO) (m : MatQ w tO tR lo u x Rs Ls) (hy : MutQ (w * 3) tR lo u y (rcs L)) (hs : ∀ j, j < Ls.length → Sep y (Rs.getD j sl0)) (ho : MutQ 1 tO lo u' z ((Rs ++ [y]).map Sl.v)) (e : ExtX x u u') : MatQ w tO tR lo u' z (Rs ++ [y]) (Ls ++ [L]) := by
 have hl := m.len
 have eT := e.t m.out.mutL
 have g1 : ∀ {j : Nat}, j < Ls.length → (Rs ++ [y]).getD j sl0 = Rs.getD j sl0 := fun h => by rw [qyg, List.getElem?_append_left xq, ← qyg]
 have g2 : ∀ {j : Nat}, j < Ls.length → (Ls ++ [L]).getD j [] = Ls.getD j [] := fun h => by rw [qyg, List.getElem?_append_left xq, ← qyg]
 have g3 : (Rs ++ [y]).getD Ls.length sl0 = y := by rw [← hl, qyg, List.getElem?_append_right qyl, Nat.sub_self]; rfl
 have g4 : (Ls ++ [L]).getD Ls.length [] = L := by rw [qyg, List.getElem?_append_right qyl, Nat.sub_self]; rfl
 refine ⟨ho, by simp [hl], fun j hj => ?_, fun a b ha hb hab => ?_⟩
 ·rw [List.length_append, List.length_singleton] at hj
  rcases Nat.lt_or_ge j Ls.length with h1 | h1
  ·rw [g1 h1, g2 h1]; exact (m.row j h1).extT eT hT2
  rw [show j = Ls.length by omega, g3, g4]; exact hy.extT eT hT2
 rw [List.length_append, List.length_singleton] at ha hb
 rcases Nat.lt_or_ge a Ls.length with h1 | h1 <;> rcases Nat.lt_or_ge b Ls.length with h2 | h2
 ·rw [g1 h1, g1 h2]; exact m.sep a b h1 h2 hab
 ·rw [g1 h1, show b = Ls.length by omega, g3]; exact (hs a h1).symm
 ·rw [g1 h2, show a = Ls.length by omega, g3]; exact hs b h2
 omega
theorem MatN.snoc (h : MatN u Ls M K) (hL : RatsN u L l K) : MatN u (Ls ++ [L]) (M ++ [l]) K := by
 refine ⟨by simp [h.1], fun i hi => ?_⟩
 rw [List.length_append, List.length_singleton] at hi
 rcases Nat.lt_or_ge i M.length with h1 | h1
 ·rw [qyg, List.getElem?_append_left (by rw [h.1]; exact h1), ← qyg, qyg (l := M ++ [l]), List.getElem?_append_left h1, ← qyg]
  exact h.2 i h1
 have e : i = M.length := by omega
 subst e
 rw [qyg, List.getElem?_append_right (by rw [h.1]; exact Nat.le_refl _), h.1, Nat.sub_self, qyg (l := M ++ [l]), List.getElem?_append_right qyl, Nat.sub_self]
 exact hL
end
theorem sw_joinR {P : Program} {w0 : Base} {u0 u : World} {S : St} {r c : Code} {Q : MP} (I : St → World → Prop) (h1 : ∀ S' u1, I S' u1 → SW P w0 u0 c S' u1 Q) (h2 : (∀ S' u1, I S' u1 → SW P w0 u0 c S' u1 Q) → SW P w0 u0 r S u (MP.seq P w0 u0 c Q)) : SW P w0 u0 r S u (MP.seq P w0 u0 c Q) := h2 h1
section
variable {w k lo lo' h b n c i j off : Nat} {tO tR : TypeId} {u u' u'' v : World} {x y z : Sl} {Rs : List Sl} {Ls : List (List RL)} {F : List Nat} {a : Addr}
def RowsIn (F : List Nat) (Rs : List Sl) : Prop := ∀ i a, (Rs.getD i sl0).a = some a → a.block ∈ F
theorem RowsIn.self : RowsIn (mqB x Rs) Rs := fun i a ha => by
 rcases Nat.lt_or_ge i Rs.length with h | h
 ·exact mqB_row h ha
 rw [qyg, List.getElem?_eq_none h] at ha; cases ha
theorem RowsIn.swap {p t : Nat} (h : RowsIn F Rs) (hp : p < Rs.length) (ht : t < Rs.length) : RowsIn F ((Rs.set p (Rs.getD t sl0)).set t (Rs.getD p sl0)) := fun i a ha => by
 have e1 : (Rs.set p (Rs.getD t sl0)).set t (Rs.getD p sl0) = Nt.swL Rs p t sl0 := rfl
 rw [e1, Nt.swL_at hp ht] at ha
 split at ha
 ·exact h _ _ ha
 split at ha <;> exact h _ _ ha
theorem MatQ.empty : MatQ w tO tR lo u sl0 [] [] := ⟨MutQ.nil _ _ _ _, rfl, fun i hi => absurd hi (Nat.not_lt_zero i), fun i j hi => absurd hi (Nat.not_lt_zero i)⟩
theorem MatN.empty {K : Nat} : MatN u [] [] K := ⟨rfl, fun i hi => absurd hi (Nat.not_lt_zero i)⟩
end
namespace Nt
def gX (V : List Rat) (a : Nat) : Rat := V.getD (3 * a) 0
def gY (V : List Rat) (a : Nat) : Rat := V.getD (3 * a + 1) 0
def gW (V : List Rat) (a : Nat) : Rat := V.getD (3 * a + 2) 0
structure GrOK (V : List Rat) (N : Nat) : Prop where
 n1 : 1 ≤ N
 n12 : N ≤ 12
 len : V.length = 3 * N
 x : ∀ i, i < N → ∃ z : Int, gX V i * 12 = (z : Rat) ∧ -12 ≤ z ∧ z ≤ 36
 y : ∀ i, i < N → Wh (gY V i * (((840 : Nat) : Int) : Rat)) 14
 w : ∀ i, i < N → ∃ a b : Nat, gW V i * (b : Rat) = (a : Rat) ∧ 1 ≤ a ∧ a ≤ 8 ∧ 1 ≤ b ∧ b ≤ 4
 asc : ∀ a b, a < b → b < N → gX V a < gX V b
theorem GrOK.gr {V : List Rat} {N : Nat} (h : GrOK V N) : Gr (gX V) (gW V) N := by
 refine ⟨h.asc, fun a ha => ?_⟩
 obtain ⟨p, q, e, h1, _, h2, _⟩ := h.w a ha
 have hp : (0 : Rat) < (p : Rat) := by exact_mod_cast h1
 have hq : (0 : Rat) < (q : Rat) := by exact_mod_cast h2
 rw [← e] at hp
 exact pos_of_mul hq hp
structure GrP (V : List Rat) (i : Nat) (q : Rat) : Prop where
 len : V.length = 3 * i
 x : ∀ a, a < i → ∃ z : Int, gX V a * 12 = (z : Rat) ∧ -12 ≤ z ∧ z ≤ 36
 y : ∀ a, a < i → Wh (gY V a * (((840 : Nat) : Int) : Rat)) 14
 w : ∀ i', i' < i → ∃ a b : Nat, gW V i' * (b : Rat) = (a : Rat) ∧ 1 ≤ a ∧ a ≤ 8 ∧ 1 ≤ b ∧ b ≤ 4
 asc : ∀ a b, a < b → b < i → gX V a < gX V b
 lt : ∀ a, a < i → gX V a < q
 q : ∃ z : Int, q * 12 = (z : Rat) ∧ -12 ≤ z ∧ z ≤ -12 + 4 * (i : Int)
theorem gApp {V : List Rat} {i : Nat} {q y w : Rat} (h : V.length = 3 * i) {j t : Nat} (ht : t < 3) (hj : j ≤ i) : (V ++ [q, y, w]).getD (3 * j + t) 0 = if j < i then V.getD (3 * j + t) 0 else [q, y, w].getD t 0 := by
 rw [qyg]
 split
 ·rw [List.getElem?_append_left xq, ← qyg]
 rw [List.getElem?_append_right xq, show 3 * j + t - V.length = t by omega, ← qyg]
theorem grP_0 : GrP [] 0 ((-1 : Int) : Rat) := ⟨rfl, fun a h => by omega, fun a h => by omega, fun a h => by omega, fun a b h k => by omega, fun a h => by omega, -12, by decide +kernel, by omega, by omega⟩
theorem GrP.step {V : List Rat} {i : Nat} {q y w : Rat} {d : Int} (h : GrP V i q) (hi : i < 12) (hy : Wh (y * (((840 : Nat) : Int) : Rat)) 14) (hw : ∃ a b : Nat, w * (b : Rat) = (a : Rat) ∧ 1 ≤ a ∧ a ≤ 8 ∧ 1 ≤ b ∧ b ≤ 4) (h1 : 1 ≤ d) (h4 : d ≤ 4) : GrP (V ++ [q, y, w]) (i + 1) (q + (d : Rat) / ((12 : Int) : Rat)) := by
 have hX : ∀ j, j ≤ i → gX (V ++ [q, y, w]) j = if j < i then gX V j else q := fun j hj => gApp (t := 0) h.len xq hj
 have hY : ∀ j, j ≤ i → gY (V ++ [q, y, w]) j = if j < i then gY V j else y := fun j hj => gApp (t := 1) h.len xq hj
 have hW : ∀ j, j ≤ i → gW (V ++ [q, y, w]) j = if j < i then gW V j else w := fun j hj => gApp (t := 2) h.len xq hj
 obtain ⟨z, e, z1, z2⟩ := h.q
 have hd : (0 : Rat) < (d : Rat) := by exact_mod_cast (show (0 : Int) < d by omega)
 have h12 : ((12 : Int) : Rat) = 12 := rfl
 have hq' : q < q + (d : Rat) / ((12 : Int) : Rat) := by rw [h12, Rat.div_def]; grind
 refine ⟨by rw [List.length_append, h.len]; simp; omega, fun a ha => ?_, fun a ha => ?_, fun a ha => ?_, fun a b hab hb => ?_, fun a ha => ?_, z + d, ?_, by omega, by omega⟩
 ·rw [hX a xq]
  split
  ·rename_i c; exact h.x a c
  exact ⟨z, e, z1, by omega⟩
 ·rw [hY a xq]
  split
  ·rename_i c; exact h.y a c
  exact hy
 ·rw [hW a xq]
  split
  ·rename_i c; exact h.w a c
  exact hw
 ·rw [hX a xq, hX b xq, if_pos xq]
  split
  ·rename_i c; exact h.asc a b hab c
  exact h.lt a xq
 ·rw [hX a xq]
  split
  ·rename_i c; have := h.lt a c; grind
  exact hq'
 rw [Rat.intCast_add, ← e, h12, Rat.div_def]; grind
theorem GrP.done {V : List Rat} {i : Nat} {q : Rat} (h : GrP V i q) (h1 : 1 ≤ i) (h2 : i ≤ 12) : GrOK V i := ⟨h1, h2, h.len, h.x, h.y, h.w, h.asc⟩
theorem rs12 {q : Rat} {z : Int} (h : q * 12 = (z : Rat)) (h1 : -1000 ≤ z) (h2 : z ≤ 1000) : rs q ≤ 1 := by
 have := wh_rs (x := q) (D := 12) (A := 14) xq ⟨z, h, by omega⟩ yv
 exact this
theorem GrP.rs {V : List Rat} {i : Nat} {q : Rat} (h : GrP V i q) (hi : i ≤ 12) : Nt.rs q ≤ 1 := by
 obtain ⟨z, e, h1, h2⟩ := h.q
 exact rs12 e xq xq
theorem frW {a b : Nat} (ha : a < 8) (hb : b < 4) : (∃ p q : Nat, ((((1 + a : Nat) : Int) : Rat) / (((1 + b : Nat) : Int) : Rat)) * (q : Rat) = (p : Rat) ∧ 1 ≤ p ∧ p ≤ 8 ∧ 1 ≤ q ∧ q ≤ 4) ∧ Nt.rs ((((1 + a : Nat) : Int) : Rat) / (((1 + b : Nat) : Int) : Rat)) ≤ 1 := by
 obtain ⟨p, hp⟩ : ∃ p, 1 + a = p := ⟨_, rfl⟩
 obtain ⟨q, hq⟩ : ∃ q, 1 + b = q := ⟨_, rfl⟩
 rw [hp, hq]
 have hq0 : ((q : Int) : Rat) ≠ 0 := fun e => by
  have := Rat.intCast_inj.1 (show ((q : Int) : Rat) = ((0 : Int) : Rat) from e); omega
 refine ⟨⟨p, q, Rat.div_mul_cancel hq0, by omega, by omega, by omega, by omega⟩, ?_⟩
 obtain ⟨c, hc, hc1⟩ : ∃ c : Int, (((12 : Nat) : Int)) = (q : Int) * c ∧ c.natAbs ≤ 12 := by
  rcases (by omega : q = 1 ∨ q = 2 ∨ q = 3 ∨ q = 4) with e | e | e | e <;> rw [e]
  ·exact ⟨12, by decide, by decide⟩
  ·exact ⟨6, by decide, by decide⟩
  ·exact ⟨4, by decide, by decide⟩
  exact ⟨3, by decide, by decide⟩
 refine wh_rs (D := 12) (A := 14) xq ⟨(p : Int) * c, ?_, ?_⟩ yv
 ·rw [hc]; exact frac_mul xq
 rw [Int.natAbs_mul]
 exact Nat.le_trans (Nat.mul_le_mul (show (p : Int).natAbs ≤ 12 by omega) hc1) yv
def inl (l : List Nat) : List Int := l.map fun a : Nat => (a : Int)
theorem inl_len (l : List Nat) : (inl l).length = l.length := List.length_map ..
theorem inl_at (l : List Nat) (i : Nat) : (inl l).getD i 0 = ((l.getD i 0 : Nat) : Int) := by
 unfold inl
 rw [qyg, List.getElem?_map, qyg]
 cases l[i]? <;> rfl
theorem inl_set (l : List Nat) (i a : Nat) : inl (l.set i a) = (inl l).set i (a : Int) := by unfold inl; rw [List.map_set]
theorem inl_bd {l : List Nat} {N : Nat} (h : ∀ a ∈ l, a < N) (hN : N ≤ 1000) : ∀ z ∈ inl l, -9223372036854775808 ≤ z ∧ z ≤ 9223372036854775807 := fun z hz => by
 unfold inl at hz
 obtain ⟨a, ha, rfl⟩ := List.mem_map.1 hz
 have := h a ha
 omega
theorem inl_of {L : List Int} (h : ∀ z ∈ L, 0 ≤ z) : inl (L.map Int.toNat) = L := by
 unfold inl
 rw [List.map_map]
 calc L.map _ = L.map id := List.map_congr_left fun z hz => by simp; have := h z hz; omega
  _ = L := List.map_id L
def Up (N : Int) (L : List Int) : Prop := (∀ i, i < L.length → 0 ≤ L.getD i 0 ∧ L.getD i 0 < N) ∧ ∀ i j, i < j → j < L.length → L.getD i 0 < L.getD j 0
theorem up_inl {N n : Nat} {L : List Int} (h : Up N L) (hn : L.length = n + 1) : ∃ l : List Nat, L = inl l ∧ Rf N l n := by
 have h0 : ∀ z ∈ L, 0 ≤ z := fun z hz => by
  obtain ⟨i, hi, rfl⟩ := List.getElem_of_mem hz
  have := (h.1 i hi).1
  rw [qyg, List.getElem?_eq_getElem hi] at this
  exact this
 refine ⟨L.map Int.toNat, (inl_of h0).symm, ?_, fun i j hij hj => ?_, fun i hi => ?_⟩
 ·rw [List.length_map, hn]
 ·have h1 := h.2 i j hij xq
  rw [← inl_of h0, inl_at, inl_at] at h1
  omega
 have h1 := (h.1 i xq).2
 rw [← inl_of h0, inl_at] at h1
 omega
theorem Rf.up {N n : Nat} {l : List Nat} (h : Rf N l n) : Up N (inl l) := by
 refine ⟨fun i hi => ?_, fun i j hij hj => ?_⟩
 ·rw [inl_len, h.len] at hi
  have := h.lt i xq
  rw [inl_at]; omega
 rw [inl_len, h.len] at hj
 have := h.asc i j hij xq
 rw [inl_at, inl_at]; omega
structure SpI (N k i : Nat) (L : List Int) : Prop where
 len : L.length = k
 asc : ∀ a b, a < b → b < i → L.getD a 0 < L.getD b 0
 bd : ∀ a, a < i → 0 ≤ L.getD a 0 ∧ L.getD a 0 ≤ (N : Int) - k + a
theorem spI_0 {N k : Nat} (hk : 1 ≤ k) (hN : k ≤ N) : SpI N k 1 (List.replicate k 0) := by
 have e : ∀ a, (List.replicate k (0 : Int)).getD a 0 = 0 := fun a => by
  rw [qyg, List.getElem?_replicate]; split <;> rfl
 exact ⟨List.length_replicate .., fun a b h1 h2 => by omega, fun a ha => by rw [e]; omega⟩
theorem gsetI {L : List Int} {i j : Nat} {z : Int} (hj : j < L.length) : (L.set j z).getD i 0 = if i = j then z else L.getD i 0 := by
 rw [qyg, qyg]
 by_cases e : i = j
 ·subst e; rw [if_pos rfl, List.getElem?_set_self hj]; rfl
 rw [if_neg e, List.getElem?_set_ne (Ne.symm e)]
theorem SpI.step {N k i : Nat} {L : List Int} {p : Int} (h : SpI N k i L) (hi : i < k) (h1 : 1 ≤ i) (hN : k ≤ N) : SpI N k (i + 1) (L.set i (min (max p (L.getD (i - 1) 0 + 1)) ((N : Int) - k + i))) := by
 have hl := h.len
 have hb := h.bd (i - 1) xq
 refine ⟨by rw [List.length_set, hl], fun a b hab hb' => ?_, fun a ha => ?_⟩
 ·rw [gsetI xq, gsetI xq, if_neg xq]
  split
  ·rename_i e
   have h2 : L.getD a 0 ≤ L.getD (i - 1) 0 := by
    by_cases e2 : a = i - 1
    ·rw [e2]; omega
    have := h.asc a (i - 1) xq xq; omega
   omega
  exact h.asc a b hab xq
 rw [gsetI xq]
 split
 ·rename_i e; subst e; omega
 exact h.bd a xq
theorem SpI.up {N k : Nat} {L : List Int} (h : SpI N k k L) (hN : k ≤ N) : Up N L := ⟨fun i hi => by have := h.bd i (by rw [← h.len]; exact hi); have := h.len; omega, fun i j hij hj => h.asc i j hij (by rw [← h.len]; exact hj)⟩
structure Gst (E : List Rat) (n a : Nat) : Prop where
 lt : a < n
 le : ∀ j, j < n → ab (E.getD j 0) ≤ ab (E.getD a 0)
 fst : ∀ j, j < a → ab (E.getD j 0) < ab (E.getD a 0)
theorem gst_1 (E : List Rat) : Gst E 1 0 := ⟨by omega, fun j hj => by rw [show j = 0 by omega]; exact Rat.le_refl, fun j hj => by omega⟩
theorem Gst.up {E : List Rat} {n a : Nat} (h : Gst E n a) (hh : ab (E.getD a 0) < ab (E.getD n 0)) : Gst E (n + 1) n := by
 refine ⟨by omega, fun j hj => ?_, fun j hj => ?_⟩
 ·by_cases e : j = n
  ·rw [e]; exact Rat.le_refl
  have := h.le j xq; grind
 have := h.le j hj; grind
theorem Gst.keep {E : List Rat} {n a : Nat} (h : Gst E n a) (hh : ¬ ab (E.getD a 0) < ab (E.getD n 0)) : Gst E (n + 1) a := by
 refine ⟨by have := h.lt; omega, fun j hj => ?_, h.fst⟩
 by_cases e : j = n
 ·rw [e]; grind
 exact h.le j xq
theorem Gst.uniq {E F : List Rat} {n a b : Nat} (h : Gst E n a) (k : Gst F n b) (e : ∀ j, j < n → E.getD j 0 = F.getD j 0) : a = b := by
 have h1 := h.lt; have k1 := k.lt
 by_cases c : a < b
 ·have x := k.fst a c; have y := h.le b k1
  rw [← e a h1, ← e b k1] at x; grind
 by_cases c2 : b < a
 ·have x := h.fst b c2; have y := k.le a h1
  rw [← e a h1, ← e b k1] at y; grind
 omega
def erL (V p : List Rat) (N : Nat) : List Rat := (List.range N).map fun a => gE (gX V) (gW V) (gY V) p a
theorem erL_len {V p : List Rat} {N : Nat} : (erL V p N).length = N := by unfold erL; rw [List.length_map, List.length_range]
theorem erL_at {V p : List Rat} {N a : Nat} (h : a < N) : (erL V p N).getD a 0 = gE (gX V) (gW V) (gY V) p a := by
 unfold erL
 rw [qyg, List.getElem?_map, List.getElem?_range h]; rfl
end Nt
section
variable {u u' : World} {x : Sl} {n i c b : Nat} {V : List Rat} {K K' : Nat} {L : List RL}
def GrN (u : World) (x : Sl) (n : Nat) (V : List Rat) (K : Nat) : Prop := x.n = n ∧ n ≤ 1000000 ∧ x.n ≤ x.c ∧ x.c ≤ maxLen ∧ V.length = 3 * n ∧ PolN u ⟨x.a, 3 * n, 3 * n⟩ V K
theorem GrN.ext (h : GrN u x n V K) (e : Ext u u') : GrN u' x n V K := ⟨h.1, h.2.1, h.2.2.1, h.2.2.2.1, h.2.2.2.2.1, h.2.2.2.2.2.ext e⟩
theorem GrN.len (h : GrN u x n V K) : x.n = n := h.1
theorem gr_at (h : GrN u x n V K) (hi : i < n) : ∃ (r0 r1 r2 : RL) (b o : Nat), x.a = some ⟨b, o, none⟩ ∧ (∀ j, j < r0.cs.length → u.cell? ⟨b, o + i * 9 + j, none⟩ = r0.cs[j]?) ∧ (∀ j, j < r1.cs.length → u.cell? ⟨b, o + i * 9 + 3 + j, none⟩ = r1.cs[j]?) ∧ (∀ j, j < r2.cs.length → u.cell? ⟨b, o + i * 9 + 6 + j, none⟩ = r2.cs[j]?) ∧ RatN u r0 (Nt.gX V i) K ∧ RatN u r1 (Nt.gY V i) K ∧ RatN u r2 (Nt.gW V i) K := by
 obtain ⟨hn, hm, hc, hx, hl, hp⟩ := h
 obtain ⟨r0, b, o, e0, c0, q0⟩ := pol_atN hp (i := 3 * i) xq
 obtain ⟨r1, b1, o1, e1, c1, q1⟩ := pol_atN hp (i := 3 * i + 1) xq
 obtain ⟨r2, b2, o2, e2, c2, q2⟩ := pol_atN hp (i := 3 * i + 2) xq
 have f0 : x.a = some ⟨b, o, none⟩ := e0
 have f1 : x.a = some ⟨b1, o1, none⟩ := e1
 have f2 : x.a = some ⟨b2, o2, none⟩ := e2
 rw [f0] at f1 f2
 injection f1 with f1
 injection f1 with g1 g2 _
 injection f2 with f2
 injection f2 with g3 g4 _
 subst g1 g2 g3 g4
 refine ⟨r0, r1, r2, b, o, f0, fun j hj => ?_, fun j hj => ?_, fun j hj => ?_, q0, q1, q2⟩
 ·rw [← c0 j hj]; congr 2; omega
 ·rw [← c1 j hj]; congr 2; omega
 rw [← c2 j hj]; congr 2; omega
theorem gr_pt {r0 r1 r2 : RL} {o : Nat} (h0 : ∀ j, j < r0.cs.length → u.cell? ⟨b, o + j, none⟩ = r0.cs[j]?) (h1 : ∀ j, j < r1.cs.length → u.cell? ⟨b, o + 3 + j, none⟩ = r1.cs[j]?) (h2 : ∀ j, j < r2.cs.length → u.cell? ⟨b, o + 6 + j, none⟩ = r2.cs[j]?) : ∀ j, j < (r0.cs ++ r1.cs ++ r2.cs).length → u.cell? ⟨b, o + j, none⟩ = (r0.cs ++ r1.cs ++ r2.cs)[j]? := by
 intro j hj
 have e : ∀ r : RL, r.cs.length = 3 := fun r => rfl
 rw [List.length_append, List.length_append, e, e, e] at hj
 by_cases c0 : j < 3
 ·rw [h0 j c0, List.getElem?_append_left (by rw [List.length_append, e, e]; omega), List.getElem?_append_left (by rw [e]; omega)]
 by_cases c1 : j < 6
 ·rw [List.getElem?_append_left (by rw [List.length_append, e, e]; omega), List.getElem?_append_right (by rw [e]; omega), e, ← h1 (j - 3) (by rw [e]; omega)]
  congr 2; omega
 rw [List.getElem?_append_right (by rw [List.length_append, e, e]; omega), List.length_append, e, e, ← h2 (j - 6) (by rw [e]; omega)]
 congr 2; omega
theorem pt_one (r0 r1 r2 : RL) : ∀ v ∈ r0.cs ++ r1.cs ++ r2.cs, v.oneCell' = true := fun v hv => by
 rcases List.mem_append.1 hv with hv | hv
 ·rcases List.mem_append.1 hv with hv | hv
  ·exact rl_one r0 v hv
  exact rl_one r1 v hv
 exact rl_one r2 v hv
theorem gr_data {cs : List Value} {t : TypeId} (h : u.heap[b]? = some (.cells cs.toArray t (0, 0))) (hc : cs.take (n * 9) = rcs L) (hl : cs.length = c * 9) (hn : n ≤ c) (hx : c ≤ maxLen) (hm : n ≤ 1000000) (hV : V.length = 3 * n) (hL : RatsN u L V K) : GrN u ⟨some ⟨b, 0, none⟩, n, c⟩ n V K := by
 refine ⟨rfl, hm, hn, hx, hV, L, ⟨by rw [zyy, hL.1, hV], Nat.le_refl _, by unfold maxLen; show 3 * n ≤ _; omega, fun _ => ⟨b, 0, rfl, fun j hj => ?_⟩⟩, hL⟩
 rw [Nat.zero_add, cells_at h, ← hc] 
 rw [← hc, List.length_take] at hj
 rw [List.getElem?_take_of_lt xq]
 simp
theorem gr_lit {t : TypeId} (h : u.heap[b]? = some (.cells (rcs L).toArray t (0, 0))) (hL : RatsN u L V K) (hV : V.length = 3 * n) (hm : n ≤ 1000000) : GrN u ⟨some ⟨b, 0, none⟩, n, n⟩ n V K :=
 gr_data h (by rw [List.take_of_length_le (by rw [zyy, hL.1, hV]; omega)]) (by rw [zyy, hL.1, hV]; omega) qyl yk hm hV hL
end
section
variable {u : World} {y : Sl} {L : List RL} {W : List Rat} {n lo : Nat} {ty : TypeId}
theorem gr_mut (m : MutQ 9 ty lo u y (rcs L)) (h : RatsN u L W 1) (hV : W.length = 3 * n) (hn : 0 < n) (hm : n ≤ 1000000) : GrN u y n W 1 := by
 obtain ⟨h1, h2, h3, h4⟩ := m
 rw [zyy, h.1, hV] at h1
 have hyn : y.n = n := by omega
 rcases h4 with h4 | ⟨b, all, k1, k2, k3, k4, _⟩
 ·rw [h4] at hyn
  have hyn : 0 = n := hyn
  omega
 obtain ⟨ya, yn, yc⟩ := y
 have k1 : ya = some ⟨b, 0, none⟩ := k1
 have hyn : yn = n := hyn
 subst k1; subst hyn
 exact gr_data k2 k4 k3 h2 h3 hm hV h
end
section
variable {P : Program} {ops : Array Oper} {w0 : Base} {u0 : World} {S : St} {u : World} {Q : MP} {listed : Array Bool} {n : Nat}
theorem anyX_mono : Mono (fun S u => AnyX P w0 u0 ops listed n S u Q) := fun S u u1 e h B a w u' e2 hr => h B a w u' (e.trans e2) hr
theorem readyX (rs : List Nat) (hr : (Region.ready .any ops listed == rs && !rs.isEmpty && rs.all fun i => Nat.blt i ops.size) = true)
  (h : ∀ i ∈ rs, sym P ops w0 u0 true [(ops.getD i default, [])] S u (fun S' u' => AnyX P w0 u0 ops (listed.setIfInBounds i true) n S' u' Q)) : AnyX P w0 u0 ops listed (n + 1) S u Q := by
 intro B a w u' e hrep
 simp only [Bool.and_eq_true, beq_iff_eq, Bool.not_eq_true', List.all_eq_true] at hr
 obtain ⟨⟨h1, h2⟩, h3⟩ := hr
 refine wpAny_all h1 (fun e => by rw [e] at h2; cases h2) fun i hi => ?_
 have hg : ops[i]? = some (ops.getD i default) := get_op (Nat.le_of_ble_eq_true (h3 i hi))
 have hs := one_sound (Q := fun e a' w' => ∃ S' B' u'', Rep w0 u0 S' B' a' w' u'' ∧ Q.f e S' u'') (zwd anyX_mono) (h i hi) e hrep
 have hfin : ∀ a' w', (∃ S' B' u'', Rep w0 u0 S' B' a' w' u'' ∧ (true = false → Ext u' u'') ∧ sym P ops w0 u0 true [] S' u'' (fun S' u' => AnyX P w0 u0 ops (listed.setIfInBounds i true) n S' u' Q)) → wpAny P .any ops (fun e a' w' => ∃ S' B' u'', Rep w0 u0 S' B' a' w' u'' ∧ Q.f e S' u'') n (listed.setIfInBounds i true) a' w' := by
  rintro a' w' ⟨S', B', u'', g1, _, g3⟩
  exact g3 B' a' w' u'' (Ext.refl _) g1
 unfold wpOp
 rw [hg]
 show if Region.wanted (ops.getD i default) (yielded ops a.tmps) = true then _ else _
 split
 ·rename_i hw
  rw [if_pos hw] at hs
  exact .inl (Oper.wp_mono hfin hs)
 rename_i hw
 rw [if_neg hw] at hs
 exact hfin _ _ hs
theorem ready1 (i : Nat) (listed' : Array Bool) (h : sym P ops w0 u0 true [(ops.getD i default, [])] S u (fun S' u' => AnyX P w0 u0 ops listed' n S' u' Q)) (hr : (Region.ready .any ops listed == [i] && !([i] : List Nat).isEmpty && [i].all fun i => Nat.blt i ops.size) = true := by kernel_rfl) (hl : listed.setIfInBounds i true = listed' := by kernel_rfl) : AnyX P w0 u0 ops listed (n + 1) S u Q :=
 readyX [i] hr fun j hj => by rw [List.mem_singleton] at hj; subst hj; rw [hl]; exact h
theorem ready2 (i k : Nat) (li lk : Array Bool) (h1 : sym P ops w0 u0 true [(ops.getD i default, [])] S u (fun S' u' => AnyX P w0 u0 ops li n S' u' Q)) (h2 : sym P ops w0 u0 true [(ops.getD k default, [])] S u (fun S' u' => AnyX P w0 u0 ops lk n S' u' Q)) (hr : (Region.ready .any ops listed == [i, k] && !([i, k] : List Nat).isEmpty && [i, k].all fun i => Nat.blt i ops.size) = true := by kernel_rfl) (hl : listed.setIfInBounds i true = li := by kernel_rfl) (hl2 : listed.setIfInBounds k true = lk := by kernel_rfl) : AnyX P w0 u0 ops listed (n + 1) S u Q :=
 readyX [i, k] hr fun j hj => by
  rcases List.mem_cons.1 hj with rfl | hj
  ·rw [hl]; exact h1
  rw [List.mem_singleton] at hj; subst hj; rw [hl2]; exact h2
theorem takeXv (i d n : Nat) {r t : Tmp} {off : Nat} (listed' : Array Bool) (k : AnyX P w0 u0 ops listed' n (S.set d (.adr t off)) u Q) (hp : ∀ c S u, ¬ Q.f (.panic c) S u := by intro c S u h; exact h) (hl : listed.setIfInBounds i true = listed' := by kernel_rfl)
  (hs : (Region.noSelect ops && Region.free .any ops listed i && (Region.ready .any ops listed).contains i && Nat.blt i ops.size && (ops.getD i default).dst == some d && (ops.getD i default).guard.isNone && freeB S d) = true := by kernel_rfl)
  (hop : (ops.getD i default).op = .move (.tmp r) := by rfl) (hx : S.reg r = some (.adr t off) := by rfl) (hv : (S.var t).isSome = true := by rfl) : AnyX P w0 u0 ops listed (n + 1) S u Q :=
 takeXR i d n _ rfl listed' k hp hl hs hv (fun B a w hr => by unfold execOp; rw [hop]; show Sem.run P (pure (Next.value (a.eval (.tmp r)))) w = _; rw [hr.eval hx]; rfl)
theorem doneX (h : sym P ops w0 u0 true [] S u (Q.f .normal)) (hr : (Region.ready .any ops listed).isEmpty = true := by kernel_rfl) : AnyX P w0 u0 ops listed n S u Q := by
 intro B a w u' e hrep
 exact wpAny_done (by simpa using hr) ⟨S, B, u', hrep, Q.mono _ _ _ _ e h⟩ n
end
section
variable (P : Program) (w0 : Base) (u0 : World)
def MP.into (I : Nat → St → World → Prop) (Q : MP) (hI : ∀ m, Mono (I m)) : MP where
 f e S u := match e with | .normal => ∃ m T, Weak S T ∧ I m T u | .goto _ => False | e => Q.f e S u
 mono e := by
  cases e <;> first | exact Q.mono _ | skip
  ·rintro S u u' he ⟨m, T, h1, h2⟩
   exact ⟨m, T, h1, hI m T u u' he h2⟩
  exact fun S u u' he h => h
def MP.jump (l : Nat) (I : Nat → St → World → Prop) (n : Nat) (Q : MP) (hI : ∀ m, Mono (I m)) : MP where
 f e S u := match e with | .goto l' => l' = l ∧ ∃ m, m < n ∧ ∃ T, Weak S T ∧ I m T u | e => Q.f e S u
 mono e := by
  cases e <;> first | exact Q.mono _ | skip
  rintro S u u' he ⟨hl, m, hm, T, h1, h2⟩
  exact ⟨hl, m, hm, T, h1, hI m T u u' he h2⟩
end
section
variable {P : Program} {w0 : Base} {u0 : World} {S T : St} {B : Tmp → Nat} {a : Act} {w u u' : World} {Q : MP} {c d A R : Code}
theorem mpr_jump {l n : Nat} {I : Nat → St → World → Prop} {Q : MP} {hI : ∀ m, Mono (I m)} (h : Q.f .ret S u) : (MP.jump l I n Q hI).f .ret S u := h
theorem mpi_into {m : Nat} {I : Nat → St → World → Prop} {Q : MP} {hI : ∀ m, Mono (I m)} (hw : Weak S T) (h : I m T u) : (MP.into I Q hI).f .normal S u := ⟨m, T, hw, h⟩
end
theorem sw_joinP {P : Program} {w0 : Base} {u0 u : World} {S : St} {r c : Code} {Q : MP} (I : St → World → Prop) (h1 : ∀ S' u1, Ext u u1 → I S' u1 → SW P w0 u0 c S' u1 Q) (h2 : (∀ S' u1, Ext u u1 → I S' u1 → SW P w0 u0 c S' u1 Q) → SW P w0 u0 r S u (MP.seq P w0 u0 c Q)) : SW P w0 u0 r S u (MP.seq P w0 u0 c Q) := h2 h1
theorem k_grid {u w : World} {x : Sl} {l : List Int} (d : Dat u w) (hx : SlR .i64 u x.a x.n x.c l) (hb : ∀ z ∈ l, -9223372036854775808 ≤ z ∧ z ≤ 9223372036854775807) : qyc 11 #[x.v] w (Post u w fun v u' => ∃ (y : Sl) (N : Nat) (V : List Rat), v = y.v ∧ GrN u' y N V 1 ∧ Nt.GrOK V N) := by
 have hlen : l.length = x.n := hx.1
 refine zzm Tryz.func11 rfl Tryz.ntmps11 Tryz.results11 d ?_
 refine sq9 (zza 2 (.v (qyn)) (zzb (sq9 (zza 7 (.v (x.v)) (zza 8 (.v (.agg #[x.v, .int .i64 0])) (zzk 9 ⟨108, [x.v, .int .i64 0]⟩ (zza 3 (.adr 9 0) (zzb (sq9 (zzg 10 30 _ fun _ _ dw dZ => qym (k_rqOf dZ (z := (-1)) xq xq) ?_))))))))))
 rintro _ ec dv ⟨dp, rfl, ek⟩
 refine zzk 4 ⟨32, zw3⟩ (zzj ⟨32, dp.cs⟩ ty32 ?_)
 refine zzb (sq9 (zza 5 (.v (qyn)) (zzb (zzd (sq9 (zza 11 (.adr 9 0) ?_))))))
 have kc18 := fun (g : Nat) (w u1 : World) (e : Ext ec u1) (d : Dat u1 w) (hg : w.heap[g]? = some (.cells (tpc x 0).toArray 108 (0, 0))) (hu : u1.heap[g]? = some hidO) => (show qyc 56 (Value.pointer (some ⟨g, 0, none⟩) :: [.int .i64 12]).toArray w _ from k_tapeNext (m := 12) d hg hu (SlR.ext (hx.ext (dw.t dv.ext)) e) hb (Nat.zero_le _) yv yv)
 refine sy_lendP 12 56 (t := 9) (V := ⟨108, [x.v, .int .i64 0]⟩) [.int .i64 12] xj kc18 ?_
 clear kc18
 rintro v17 V17 u17 dn ⟨bW, eH, rfl, cE, rfl, cw⟩
 refine qwi 13 ((1 : Int) + (bW : Int)) (1 + bW : Nat) xz (zza 6 (zI (1 + bW : Nat)) (zzb (zzt ?_)))
 obtain ⟨N, hN⟩ : ∃ N, 1 + bW = N := ⟨_, rfl⟩
 have hN1 : 1 ≤ N := by omega
 have hN2 : N ≤ 12 := by have h9 := cE; omega
 refine zyn (I := fun dJ S' u' => ∃ (k : Nat) (rx : RL) (q : Rat) (a9 : Nat) (i : Nat) (yp : Sl) (L : List RL) (V : List Rat), (dJ = k) ∧ (k + i = N) ∧ (a9 ≤ x.n) ∧ (Nt.GrP V i q) ∧ (S' = St.of 40 [(3, .adr 9 0), (4, .adr 4 0), (5, .v (yp.v)), (6, zI k)] [(4, ⟨32, rx.cs⟩), (9, ⟨108, [x.v, .int .i64 a9]⟩)]) ∧ (Ext u u') ∧ (RatN u' rx q 1) ∧ (MutQ 9 56 u.heap.size u' yp (rcs L)) ∧ (RatsN u' L V 1)) (fun m S u1 u2 e h => by obtain ⟨k, rx, q, a9, i, yp, L, V, hm, p0, p1, p2, hS, hE, f0, f1, f2⟩ := h; exact ⟨k, rx, q, a9, i, yp, L, V, hm, p0, p1, p2, hS, hE.trans e, f0.ext e, f1.ext e, f2.ext e⟩) _ yz ⟨1 + bW, dp, _, eH, 0, sl0, [], [], rfl, by omega, cw, Nt.grP_0, rfl, (dw.t (dv.t dn)), (RatN.fit (K := 2) (ek.ext dn) (Nt.grP_0.rs xq)), (MutQ.nil _ _ _ _), (RatsN.nil _ _)⟩ ?_
 rintro dJ _ dt ⟨k, rx, q, a9, i, yp, L, V, dX, hkN, du, hG, rfl, av, aP, bc, be⟩
 have hpn : yp.n = i := by have h9 := bc.1; rw [zyy, be.1, hG.len] at h9; omega
 refine zzd (sq9 (zza 14 (zI k) (zza 15 (zB (decide ((0 : Int) < (k : Int)))) (zzb (zzu (b := decide ((0 : Int) < (k : Int))) xj (fun bq => ?_) (fun bq => ?_))))))
 ·have qhb20 := qyt bq
  refine zzs (zzp ?_)
  refine zzd (sw_joinR (I := fun S' u' => ∃ (a2 : Nat) (cl : RL) (q2 : Rat) (yr : Sl) (L2 : List RL) (V2 : List Rat), (a2 ≤ x.n) ∧ (Nt.GrP V2 (i + 1) q2) ∧ (S' = St.of 40 [(3, .adr 9 0), (4, .adr 4 0), (5, .v (yr.v)), (6, zI k)] [(4, ⟨32, cl.cs⟩), (9, ⟨108, [x.v, .int .i64 a2]⟩)]) ∧ (Ext u u') ∧ (RatN u' cl q2 1) ∧ (MutQ 9 56 u.heap.size u' yr (rcs L2)) ∧ (RatsN u' L2 V2 1)) ?_ (fun ay => ?_))
  ·rintro _ eh ⟨a2, cl, q2, yr, L2, V2, d7, eI, rfl, cH, ey, ed, dY⟩
   refine zzf (zza 16 (zI k) (qwi 17 ((k : Int) - 1) (k - 1 : Nat) xz (zza 6 (zI (k - 1 : Nat)) (zzx ?_))))
   refine ⟨_, ?_, _, by exact zzv _ _ _, k - 1, cl, q2, a2, i + 1, yr, L2, V2, rfl, by omega, d7, eI, rfl, cH, ey, ed, dY⟩
   omega
  refine zzt (zzd (sw_joinR (I := fun S' u' => ∃ (a1 : Nat) (y1 : Rat) (w1 : Rat) (yq : Sl) (L1 : List RL), (a1 ≤ x.n) ∧ (Nt.Wh (y1 * (((840 : Nat) : Int) : Rat)) 14) ∧ (∃ a b : Nat, w1 * (b : Rat) = (a : Rat) ∧ 1 ≤ a ∧ a ≤ 8 ∧ 1 ≤ b ∧ b ≤ 4) ∧ (S' = St.of 40 [(3, .adr 9 0), (4, .adr 4 0), (5, .v (yq.v)), (6, zI k)] [(4, ⟨32, rx.cs⟩), (9, ⟨108, [x.v, .int .i64 a1]⟩)]) ∧ (Ext u u') ∧ (MutQ 9 56 u.heap.size u' yq (rcs L1)) ∧ (RatsN u' L1 (V ++ [q, y1, w1]) 1) ∧ (RatN u' rx q 1)) ?_ (fun ag => ?_)))
  ·rintro _ ce ⟨a1, y1, w1, yq, L1, dq, db, cI, rfl, aT, df, c5, cD⟩
   refine sw_anyX xj 7 rfl ?_
   refine takeXv 1 34 6 #[false, true, false, false, false, false, false] ?_
   refine ready2 0 2 #[true, true, false, false, false, false, false] #[false, true, true, false, false, false, false] ?_ ?_
   ·skip
    refine zzi 33 (.v (rx.v)) ty32 zze (zzx ?_)
    refine ready1 2 #[true, true, true, false, false, false, false] ?_
    have kc24 := fun (g : Nat) (w u1 : World) (e : Ext ce u1) (d : Dat u1 w) (hg : w.heap[g]? = some (.cells (tpc x a1).toArray 108 (0, 0))) (hu : u1.heap[g]? = some hidO) => (show qyc 56 (Value.pointer (some ⟨g, 0, none⟩) :: [.int .i64 4]).toArray w _ from k_tapeNext (m := 4) d hg hu (SlR.ext (hx.ext aT) e) hb dq yv yv)
    refine sy_lendP 35 56 (t := 9) (V := ⟨108, [x.v, .int .i64 a1]⟩) [.int .i64 4] xj kc24 ?_
    clear kc24
    rintro v23 V23 u23 cq ⟨bA, ds, rfl, bP, rfl, cC⟩
    refine zzx ?_
    refine takeXe 3 36 3 (x := .v (.int .i64 (IntKind.i64.wrap ((1 : Int) + (bA : Int))))) (.v (.int .i64 ((1 + bA : Nat) : Int))) (eqI xz) #[true, true, true, true, false, false, false] ?_
    refine ready1 4 qz8 ?_
    refine zzg 37 23 _ fun _ _ ck e4 => qym (k_rqFrac e4 (a := ((1 + bA : Nat) : Int)) (b := 12) xq xq xq xq) ?_
    rintro _ u28 ct ⟨r26, rfl, eM⟩
    refine zzx ?_
    refine ready1 5 qz9 ?_
    refine zzg 38 58 _ fun _ _ bE eQ => qym (k_rqAdd eQ (cD.ext (cq.t (ck.t (ct.t bE)))).raw (eM.ext bE).raw xq xq) ?_
    rintro _ u34 cT ⟨cX, rfl, eT⟩
    refine zzx ?_
    refine ready1 6 qza ?_
    refine zzj ⟨32, cX.cs⟩ ty32 ?_
    refine zzx ?_
    refine doneX ?_
    refine zzx ?_
    refine zzp ?_
    have hGn : Nt.GrP (V ++ [q, y1, w1]) (i + 1) ((q + (((((1 + bA : Nat) : Int) : Int) : Rat) / ((12 : Int) : Rat)))) := Nt.GrP.step (d := ((1 + bA : Nat) : Int)) hG xq db cI (by have h9 := bP; omega) (by have h9 := bP; omega)
    refine sw_weak (T := St.of 40 [(3, .adr 9 0), (4, .adr 4 0), (5, .v (yq.v)), (6, zI k)] [(4, ⟨32, cX.cs⟩), (9, ⟨108, [x.v, .int .i64 ds]⟩)]) yz ?_
    exact ay _ _ ⟨ds, cX, _, yq, L1, _, cC, hGn, rfl, (aT.t (cq.t (ck.t (ct.t (bE.t cT.ext))))), (RatN.fit (K := (1 + 3 + 2)) eT (hGn.rs xq)), (df.ext (cq.t (ck.t (ct.t (bE.t cT.ext))))), (c5.ext (cq.t (ck.t (ct.t (bE.t cT.ext)))))⟩
   have kc38 := fun (g : Nat) (w u1 : World) (e : Ext ce u1) (d : Dat u1 w) (hg : w.heap[g]? = some (.cells (tpc x a1).toArray 108 (0, 0))) (hu : u1.heap[g]? = some hidO) => (show qyc 56 (Value.pointer (some ⟨g, 0, none⟩) :: [.int .i64 4]).toArray w _ from k_tapeNext (m := 4) d hg hu (SlR.ext (hx.ext aT) e) hb dq yv yv)
   refine sy_lendP 35 56 (t := 9) (V := ⟨108, [x.v, .int .i64 a1]⟩) [.int .i64 4] xj kc38 ?_
   clear kc38
   rintro v37 V37 u37 bh ⟨bg, cr, rfl, a0, rfl, b0⟩
   refine zzx ?_
   refine takeXe 3 36 4 (x := .v (.int .i64 (IntKind.i64.wrap ((1 : Int) + (bg : Int))))) (.v (.int .i64 ((1 + bg : Nat) : Int))) (eqI xz) #[false, true, true, true, false, false, false] ?_
   refine ready2 0 4 #[true, true, true, true, false, false, false] #[false, true, true, true, true, false, false] ?_ ?_
   ·skip
    refine zzi 33 (.v (rx.v)) ty32 zze (zzx ?_)
    refine ready1 4 qz8 ?_
    refine zzg 37 23 _ fun _ _ cu et => qym (k_rqFrac et (a := ((1 + bg : Nat) : Int)) (b := 12) xq xq xq xq) ?_
    rintro _ u42 cn ⟨r40, rfl, eW⟩
    refine zzx ?_
    refine ready1 5 qz9 ?_
    refine zzg 38 58 _ fun _ _ bR dR => qym (k_rqAdd dR (cD.ext (bh.t (cu.t (cn.t bR)))).raw (eW.ext bR).raw xq xq) ?_
    rintro _ u48 cV ⟨c8, rfl, eK⟩
    refine zzx ?_
    refine ready1 6 qza ?_
    refine zzj ⟨32, c8.cs⟩ ty32 ?_
    refine zzx ?_
    refine doneX ?_
    refine zzx ?_
    refine zzp ?_
    have hGn : Nt.GrP (V ++ [q, y1, w1]) (i + 1) ((q + (((((1 + bg : Nat) : Int) : Int) : Rat) / ((12 : Int) : Rat)))) := Nt.GrP.step (d := ((1 + bg : Nat) : Int)) hG xq db cI (by have h9 := a0; omega) (by have h9 := a0; omega)
    refine sw_weak (T := St.of 40 [(3, .adr 9 0), (4, .adr 4 0), (5, .v (yq.v)), (6, zI k)] [(4, ⟨32, c8.cs⟩), (9, ⟨108, [x.v, .int .i64 cr]⟩)]) yz ?_
    exact ay _ _ ⟨cr, c8, _, yq, L1, _, b0, hGn, rfl, (aT.t (bh.t (cu.t (cn.t (bR.t cV.ext))))), (RatN.fit (K := (1 + 3 + 2)) eK (hGn.rs xq)), (df.ext (bh.t (cu.t (cn.t (bR.t cV.ext))))), (c5.ext (bh.t (cu.t (cn.t (bR.t cV.ext)))))⟩
   refine zzg 37 23 _ fun _ _ cp eb => qym (k_rqFrac eb (a := ((1 + bg : Nat) : Int)) (b := 12) xq xq xq xq) ?_
   rintro _ u54 cm ⟨r52, rfl, eg⟩
   refine zzx ?_
   refine ready1 0 qz8 ?_
   refine zzi 33 (.v (rx.v)) ty32 zze (zzx ?_)
   refine ready1 5 qz9 ?_
   refine zzg 38 58 _ fun _ _ b9 d6 => qym (k_rqAdd d6 (cD.ext (bh.t (cp.t (cm.t b9)))).raw (eg.ext b9).raw xq xq) ?_
   rintro _ u60 cP ⟨cJ, rfl, eO⟩
   refine zzx ?_
   refine ready1 6 qza ?_
   refine zzj ⟨32, cJ.cs⟩ ty32 ?_
   refine zzx ?_
   refine doneX ?_
   refine zzx ?_
   refine zzp ?_
   have hGn : Nt.GrP (V ++ [q, y1, w1]) (i + 1) ((q + (((((1 + bg : Nat) : Int) : Int) : Rat) / ((12 : Int) : Rat)))) := Nt.GrP.step (d := ((1 + bg : Nat) : Int)) hG xq db cI (by have h9 := a0; omega) (by have h9 := a0; omega)
   refine sw_weak (T := St.of 40 [(3, .adr 9 0), (4, .adr 4 0), (5, .v (yq.v)), (6, zI k)] [(4, ⟨32, cJ.cs⟩), (9, ⟨108, [x.v, .int .i64 cr]⟩)]) yz ?_
   exact ay _ _ ⟨cr, cJ, _, yq, L1, _, b0, hGn, rfl, (aT.t (bh.t (cp.t (cm.t (b9.t cP.ext))))), (RatN.fit (K := (1 + 3 + 2)) eO (hGn.rs xq)), (df.ext (bh.t (cp.t (cm.t (b9.t cP.ext))))), (c5.ext (bh.t (cp.t (cm.t (b9.t cP.ext)))))⟩
  refine sw_anyX xj 16 rfl ?_
  refine takeX 0 18 15 (.v (yp.v)) #[true, false, false, false, false, false, false, false, false, false, false, false, false, false, false, false] ?_
  refine takeXv 2 20 14 #[true, false, true, false, false, false, false, false, false, false, false, false, false, false, false, false] ?_
  refine takeXv 5 23 13 #[true, false, true, false, false, true, false, false, false, false, false, false, false, false, false, false] ?_
  refine takeXv 8 26 12 #[true, false, true, false, false, true, false, false, true, false, false, false, false, false, false, false] ?_
  refine ready2 1 3 #[true, true, true, false, false, true, false, false, true, false, false, false, false, false, false, false] #[true, false, true, true, false, true, false, false, true, false, false, false, false, false, false, false] ?_ ?_
  ·skip
   refine zzi 19 (.v (rx.v)) ty32 zze (zzx ?_)
   refine ready1 3 qzd ?_
   have kc64 := fun (g : Nat) (w u1 : World) (e : Ext dt u1) (d : Dat u1 w) (hg : w.heap[g]? = some (.cells (tpc x a9).toArray 108 (0, 0))) (hu : u1.heap[g]? = some hidO) => (show qyc 56 (Value.pointer (some ⟨g, 0, none⟩) :: [.int .i64 200]).toArray w _ from k_tapeNext (m := 200) d hg hu (SlR.ext (hx.ext av) e) hb du yv yv)
   refine sy_lendP 21 56 (t := 9) (V := ⟨108, [x.v, .int .i64 a9]⟩) [.int .i64 200] xj kc64 ?_
   clear kc64
   rintro v63 V63 u63 br ⟨c9, dD, rfl, d8, rfl, c0⟩
   refine zzx ?_
   refine ready1 4 qzb ?_
   refine zzg 22 57 _ fun _ _ bj dP => qym (k_mkRat dP (n := (c9 : Int)) xq xq) ?_
   rintro _ ef bl ⟨aY, rfl, eY⟩
   refine zzx ?_
   refine ready1 6 qzc ?_
   have kc72 := fun (g : Nat) (w u1 : World) (e : Ext ef u1) (d : Dat u1 w) (hg : w.heap[g]? = some (.cells (tpc x dD).toArray 108 (0, 0))) (hu : u1.heap[g]? = some hidO) => (show qyc 56 (Value.pointer (some ⟨g, 0, none⟩) :: [.int .i64 8]).toArray w _ from k_tapeNext (m := 8) d hg hu (SlR.ext (hx.ext (av.t (br.t (bj.t bl.ext)))) e) hb c0 yv yv)
   refine sy_lendP 24 56 (t := 9) (V := ⟨108, [x.v, .int .i64 dD]⟩) [.int .i64 8] xj kc72 ?_
   clear kc72
   rintro v71 V71 em bm ⟨cf, dI, rfl, cQ, rfl, cM⟩
   refine zzx ?_
   refine takeXe 7 25 7 (x := .v (.int .i64 (IntKind.i64.wrap ((1 : Int) + (cf : Int))))) (.v (.int .i64 ((1 + cf : Nat) : Int))) (eqI xz) qz6 ?_
   refine ready1 9 qz7 ?_
   have kc74 := fun (g : Nat) (w u1 : World) (e : Ext em u1) (d : Dat u1 w) (hg : w.heap[g]? = some (.cells (tpc x dI).toArray 108 (0, 0))) (hu : u1.heap[g]? = some hidO) => (show qyc 56 (Value.pointer (some ⟨g, 0, none⟩) :: [.int .i64 4]).toArray w _ from k_tapeNext (m := 4) d hg hu (SlR.ext (hx.ext (av.t (br.t (bj.t (bl.t bm))))) e) hb cM yv yv)
   refine sy_lendP 27 56 (t := 9) (V := ⟨108, [x.v, .int .i64 dI]⟩) [.int .i64 4] xj kc74 ?_
   clear kc74
   rintro v73 V73 u73 bs ⟨bN, dL, rfl, c6, rfl, cA⟩
   refine zzx ?_
   refine takeXe 10 28 5 (x := .v (.int .i64 (IntKind.i64.wrap ((1 : Int) + (bN : Int))))) (.v (.int .i64 ((1 + bN : Nat) : Int))) (eqI xz) qz5 ?_
   refine ready1 11 qz0 ?_
   refine zzg 29 23 _ fun _ _ bv eX => qym (k_rqFrac eX (a := ((1 + cf : Nat) : Int)) (b := ((1 + bN : Nat) : Int)) xq xq xq xq) ?_
   rintro _ u78 bx ⟨aW, rfl, eV⟩
   refine zzx ?_
   refine takeX 12 30 3 (.v (.agg #[.bool rx.s, rx.m.v, rx.d.v, .bool aY.s, aY.m.v, aY.d.v, .bool aW.s, aW.m.v, aW.d.v])) qz1 ?_
   refine ready1 13 qz2 ?_
   refine sy_dataF 31 ⟨56, rx.cs ++ aY.cs ++ aW.cs⟩ 1 (fun dN u81 bn eJ f81 g81 => ?_)
   refine zzx ?_
   refine ready1 14 qz3 ?_
   have hfw := Nt.frW cQ c6
   have hA82 := (bc.ext (br.t (bj.t (bl.t (bm.t (bs.t (bv.t (bx.t bn))))))))
   have hN82 := (be.ext (br.t (bj.t (bl.t (bm.t (bs.t (bv.t (bx.t bn))))))))
   refine sy_appQ 32 (T := 23) (E := 56) (z := .agg #[.bool false, qyn, qyn, .bool false, qyn, qyn, .bool false, qyn, qyn]) (size := 9) (bytes := 168) (b2 := dN) (off := 0) (m := 1) yp (rcs L) (rx.cs ++ aY.cs ++ aW.cs) hA82 xj xj xj yv rfl (lit_news ((Ext.refl _).cells eJ)) (pt_one rx aY aW) yv yk xq (nu_app (nu_app (nu_rl rx) (nu_rl aY)) (nu_rl aW)) (nu_app (nu_app (nu_rl rl0) (nu_rl rl0)) (nu_rl rl0)) (fun cv dx cx dV aK eA => ?_)
   have c3 : MutQ 9 56 u.heap.size dx cv (rcs (L ++ [rx] ++ [aY] ++ [aW])) := by rw [rcs_app, rcs_app, rcs_app]; have h9 := cx; rw [← List.append_assoc, ← List.append_assoc] at h9; simpa [rcs] using h9
   have c7 : RatsN dx (L ++ [rx] ++ [aY] ++ [aW]) (V ++ [q, (Nt.mkR (c9 : Int)), (((((1 + cf : Nat) : Int) : Int) : Rat) / ((((1 + bN : Nat) : Int) : Int) : Rat))]) 1 := by have h9 := RatsN.snoc (RatsN.snoc (RatsN.snoc (MutQ.keeps hA82 aK hN82) (MutQ.keep hA82 aK (aP.ext (br.t (bj.t (bl.t (bm.t (bs.t (bv.t (bx.t bn)))))))))) (MutQ.keep hA82 aK (eY.ext (bm.t (bs.t (bv.t (bx.t bn))))))) (MutQ.keep hA82 aK (RatN.fit (K := 3) (eV.ext bn) hfw.2)); simpa using h9
   have hY82 := MutQ.keep hA82 aK (aP.ext (br.t (bj.t (bl.t (bm.t (bs.t (bv.t (bx.t bn))))))))
   have eR82 := ExtX.root aK (MutQ.mutL hA82) (av.t (br.t (bj.t (bl.t (bm.t (bs.t (bv.t (bx.t bn))))))))
   refine zzx ?_
   refine ready1 15 qz4 ?_
   refine zza 5 (.v (cv.v)) (zzx ?_)
   refine doneX ?_
   refine zzc 40 [(3, .adr 9 0), (4, .adr 4 0), (5, .v (cv.v)), (6, zI k)] [(4, ⟨32, rx.cs⟩), (9, ⟨108, [x.v, .int .i64 dL]⟩)] ?_
   exact ag _ _ ⟨dL, (Nt.mkR (c9 : Int)), (((((1 + cf : Nat) : Int) : Int) : Rat) / ((((1 + bN : Nat) : Int) : Int) : Rat)), cv, (L ++ [rx] ++ [aY] ++ [aW]), cA, (Nt.mkR_wh _), hfw.1, rfl, eR82, c3, c7, hY82⟩
  have kc84 := fun (g : Nat) (w u1 : World) (e : Ext dt u1) (d : Dat u1 w) (hg : w.heap[g]? = some (.cells (tpc x a9).toArray 108 (0, 0))) (hu : u1.heap[g]? = some hidO) => (show qyc 56 (Value.pointer (some ⟨g, 0, none⟩) :: [.int .i64 200]).toArray w _ from k_tapeNext (m := 200) d hg hu (SlR.ext (hx.ext av) e) hb du yv yv)
  refine sy_lendP 21 56 (t := 9) (V := ⟨108, [x.v, .int .i64 a9]⟩) [.int .i64 200] xj kc84 ?_
  clear kc84
  rintro v83 V83 u83 af ⟨aO, bt, rfl, es, rfl, bi⟩
  refine zzx ?_
  refine ready2 1 4 qzd #[true, false, true, true, true, true, false, false, true, false, false, false, false, false, false, false] ?_ ?_
  ·skip
   refine zzi 19 (.v (rx.v)) ty32 zze (zzx ?_)
   refine ready1 4 qzb ?_
   refine zzg 22 57 _ fun _ _ bk e3 => qym (k_mkRat e3 (n := (aO : Int)) xq xq) ?_
   rintro _ d4 bp ⟨aV, rfl, eN⟩
   refine zzx ?_
   refine ready1 6 qzc ?_
   have kc92 := fun (g : Nat) (w u1 : World) (e : Ext d4 u1) (d : Dat u1 w) (hg : w.heap[g]? = some (.cells (tpc x bt).toArray 108 (0, 0))) (hu : u1.heap[g]? = some hidO) => (show qyc 56 (Value.pointer (some ⟨g, 0, none⟩) :: [.int .i64 8]).toArray w _ from k_tapeNext (m := 8) d hg hu (SlR.ext (hx.ext (av.t (af.t (bk.t bp.ext)))) e) hb bi yv yv)
   refine sy_lendP 24 56 (t := 9) (V := ⟨108, [x.v, .int .i64 bt]⟩) [.int .i64 8] xj kc92 ?_
   clear kc92
   rintro v91 V91 eD bo ⟨bB, dB, rfl, da, rfl, cU⟩
   refine zzx ?_
   refine takeXe 7 25 7 (x := .v (.int .i64 (IntKind.i64.wrap ((1 : Int) + (bB : Int))))) (.v (.int .i64 ((1 + bB : Nat) : Int))) (eqI xz) qz6 ?_
   refine ready1 9 qz7 ?_
   have kc94 := fun (g : Nat) (w u1 : World) (e : Ext eD u1) (d : Dat u1 w) (hg : w.heap[g]? = some (.cells (tpc x dB).toArray 108 (0, 0))) (hu : u1.heap[g]? = some hidO) => (show qyc 56 (Value.pointer (some ⟨g, 0, none⟩) :: [.int .i64 4]).toArray w _ from k_tapeNext (m := 4) d hg hu (SlR.ext (hx.ext (av.t (af.t (bk.t (bp.t bo))))) e) hb cU yv yv)
   refine sy_lendP 27 56 (t := 9) (V := ⟨108, [x.v, .int .i64 dB]⟩) [.int .i64 4] xj kc94 ?_
   clear kc94
   rintro v93 V93 u93 bz ⟨cj, dm, rfl, cR, rfl, dc⟩
   refine zzx ?_
   refine takeXe 10 28 5 (x := .v (.int .i64 (IntKind.i64.wrap ((1 : Int) + (cj : Int))))) (.v (.int .i64 ((1 + cj : Nat) : Int))) (eqI xz) qz5 ?_
   refine ready1 11 qz0 ?_
   refine zzg 29 23 _ fun _ _ bu ea => qym (k_rqFrac ea (a := ((1 + bB : Nat) : Int)) (b := ((1 + cj : Nat) : Int)) xq xq xq xq) ?_
   rintro _ u98 bw ⟨aX, rfl, dO⟩
   refine zzx ?_
   refine takeX 12 30 3 (.v (.agg #[.bool rx.s, rx.m.v, rx.d.v, .bool aV.s, aV.m.v, aV.d.v, .bool aX.s, aX.m.v, aX.d.v])) qz1 ?_
   refine ready1 13 qz2 ?_
   refine sy_dataF 31 ⟨56, rx.cs ++ aV.cs ++ aX.cs⟩ 1 (fun cz ei az cB dS d0 => ?_)
   refine zzx ?_
   refine ready1 14 qz3 ?_
   have hfw := Nt.frW da cR
   have hA102 := (bc.ext (af.t (bk.t (bp.t (bo.t (bz.t (bu.t (bw.t az))))))))
   have hN102 := (be.ext (af.t (bk.t (bp.t (bo.t (bz.t (bu.t (bw.t az))))))))
   refine sy_appQ 32 (T := 23) (E := 56) (z := .agg #[.bool false, qyn, qyn, .bool false, qyn, qyn, .bool false, qyn, qyn]) (size := 9) (bytes := 168) (b2 := cz) (off := 0) (m := 1) yp (rcs L) (rx.cs ++ aV.cs ++ aX.cs) hA102 xj xj xj yv rfl (lit_news ((Ext.refl _).cells cB)) (pt_one rx aV aX) yv yk xq (nu_app (nu_app (nu_rl rx) (nu_rl aV)) (nu_rl aX)) (nu_app (nu_app (nu_rl rl0) (nu_rl rl0)) (nu_rl rl0)) (fun a6 cd cb dG ap dF => ?_)
   have ch : MutQ 9 56 u.heap.size cd a6 (rcs (L ++ [rx] ++ [aV] ++ [aX])) := by rw [rcs_app, rcs_app, rcs_app]; have h9 := cb; rw [← List.append_assoc, ← List.append_assoc] at h9; simpa [rcs] using h9
   have bX : RatsN cd (L ++ [rx] ++ [aV] ++ [aX]) (V ++ [q, (Nt.mkR (aO : Int)), (((((1 + bB : Nat) : Int) : Int) : Rat) / ((((1 + cj : Nat) : Int) : Int) : Rat))]) 1 := by have h9 := RatsN.snoc (RatsN.snoc (RatsN.snoc (MutQ.keeps hA102 ap hN102) (MutQ.keep hA102 ap (aP.ext (af.t (bk.t (bp.t (bo.t (bz.t (bu.t (bw.t az)))))))))) (MutQ.keep hA102 ap (eN.ext (bo.t (bz.t (bu.t (bw.t az))))))) (MutQ.keep hA102 ap (RatN.fit (K := 3) (dO.ext az) hfw.2)); simpa using h9
   have hY102 := MutQ.keep hA102 ap (aP.ext (af.t (bk.t (bp.t (bo.t (bz.t (bu.t (bw.t az))))))))
   have eR102 := ExtX.root ap (MutQ.mutL hA102) (av.t (af.t (bk.t (bp.t (bo.t (bz.t (bu.t (bw.t az))))))))
   refine zzx ?_
   refine ready1 15 qz4 ?_
   refine zza 5 (.v (a6.v)) (zzx ?_)
   refine doneX ?_
   refine zzc 40 [(3, .adr 9 0), (4, .adr 4 0), (5, .v (a6.v)), (6, zI k)] [(4, ⟨32, rx.cs⟩), (9, ⟨108, [x.v, .int .i64 dm]⟩)] ?_
   exact ag _ _ ⟨dm, (Nt.mkR (aO : Int)), (((((1 + bB : Nat) : Int) : Int) : Rat) / ((((1 + cj : Nat) : Int) : Int) : Rat)), a6, (L ++ [rx] ++ [aV] ++ [aX]), dc, (Nt.mkR_wh _), hfw.1, rfl, eR102, ch, bX, hY102⟩
  refine zzg 22 57 _ fun _ _ ad cO => qym (k_mkRat cO (n := (aO : Int)) xq xq) ?_
  rintro _ bV ac ⟨aa, rfl, a8⟩
  refine zzx ?_
  refine ready2 1 6 qzb #[true, false, true, true, true, true, true, false, true, false, false, false, false, false, false, false] ?_ ?_
  ·skip
   refine zzi 19 (.v (rx.v)) ty32 zze (zzx ?_)
   refine ready1 6 qzc ?_
   have kc110 := fun (g : Nat) (w u1 : World) (e : Ext bV u1) (d : Dat u1 w) (hg : w.heap[g]? = some (.cells (tpc x bt).toArray 108 (0, 0))) (hu : u1.heap[g]? = some hidO) => (show qyc 56 (Value.pointer (some ⟨g, 0, none⟩) :: [.int .i64 8]).toArray w _ from k_tapeNext (m := 8) d hg hu (SlR.ext (hx.ext (av.t (af.t (ad.t ac.ext)))) e) hb bi yv yv)
   refine sy_lendP 24 56 (t := 9) (V := ⟨108, [x.v, .int .i64 bt]⟩) [.int .i64 8] xj kc110 ?_
   clear kc110
   rintro e2 dU c2 aC ⟨aQ, ci, rfl, b4, rfl, b3⟩
   refine zzx ?_
   refine takeXe 7 25 7 (x := .v (.int .i64 (IntKind.i64.wrap ((1 : Int) + (aQ : Int))))) (.v (.int .i64 ((1 + aQ : Nat) : Int))) (eqI xz) qz6 ?_
   refine ready1 9 qz7 ?_
   have kc112 := fun (g : Nat) (w u1 : World) (e : Ext c2 u1) (d : Dat u1 w) (hg : w.heap[g]? = some (.cells (tpc x ci).toArray 108 (0, 0))) (hu : u1.heap[g]? = some hidO) => (show qyc 56 (Value.pointer (some ⟨g, 0, none⟩) :: [.int .i64 4]).toArray w _ from k_tapeNext (m := 4) d hg hu (SlR.ext (hx.ext (av.t (af.t (ad.t (ac.t aC))))) e) hb b3 yv yv)
   refine sy_lendP 27 56 (t := 9) (V := ⟨108, [x.v, .int .i64 ci]⟩) [.int .i64 4] xj kc112 ?_
   clear kc112
   rintro dQ ep eS aH ⟨aU, bM, rfl, ca, rfl, b5⟩
   refine zzx ?_
   refine takeXe 10 28 5 (x := .v (.int .i64 (IntKind.i64.wrap ((1 : Int) + (aU : Int))))) (.v (.int .i64 ((1 + aU : Nat) : Int))) (eqI xz) qz5 ?_
   refine ready1 11 qz0 ?_
   refine zzg 29 23 _ fun _ _ aM cY => qym (k_rqFrac cY (a := ((1 + aQ : Nat) : Int)) (b := ((1 + aU : Nat) : Int)) xq xq xq xq) ?_
   rintro _ dW aJ ⟨al, rfl, cW⟩
   refine zzx ?_
   refine takeX 12 30 3 (.v (.agg #[.bool rx.s, rx.m.v, rx.d.v, .bool aa.s, aa.m.v, aa.d.v, .bool al.s, al.m.v, al.d.v])) qz1 ?_
   refine ready1 13 qz2 ?_
   refine sy_dataF 31 ⟨56, rx.cs ++ aa.cs ++ al.cs⟩ 1 (fun cZ ez ax cS eZ d5 => ?_)
   refine zzx ?_
   refine ready1 14 qz3 ?_
   have hfw := Nt.frW b4 ca
   have hA120 := (bc.ext (af.t (ad.t (ac.t (aC.t (aH.t (aM.t (aJ.t ax))))))))
   have hN120 := (be.ext (af.t (ad.t (ac.t (aC.t (aH.t (aM.t (aJ.t ax))))))))
   refine sy_appQ 32 (T := 23) (E := 56) (z := .agg #[.bool false, qyn, qyn, .bool false, qyn, qyn, .bool false, qyn, qyn]) (size := 9) (bytes := 168) (b2 := cZ) (off := 0) (m := 1) yp (rcs L) (rx.cs ++ aa.cs ++ al.cs) hA120 xj xj xj yv rfl (lit_news ((Ext.refl _).cells cS)) (pt_one rx aa al) yv yk xq (nu_app (nu_app (nu_rl rx) (nu_rl aa)) (nu_rl al)) (nu_app (nu_app (nu_rl rl0) (nu_rl rl0)) (nu_rl rl0)) (fun a3 b6 bH dM aq dA => ?_)
   have b1 : MutQ 9 56 u.heap.size b6 a3 (rcs (L ++ [rx] ++ [aa] ++ [al])) := by rw [rcs_app, rcs_app, rcs_app]; have h9 := bH; rw [← List.append_assoc, ← List.append_assoc] at h9; simpa [rcs] using h9
   have cc : RatsN b6 (L ++ [rx] ++ [aa] ++ [al]) (V ++ [q, (Nt.mkR (aO : Int)), (((((1 + aQ : Nat) : Int) : Int) : Rat) / ((((1 + aU : Nat) : Int) : Int) : Rat))]) 1 := by have h9 := RatsN.snoc (RatsN.snoc (RatsN.snoc (MutQ.keeps hA120 aq hN120) (MutQ.keep hA120 aq (aP.ext (af.t (ad.t (ac.t (aC.t (aH.t (aM.t (aJ.t ax)))))))))) (MutQ.keep hA120 aq (a8.ext (aC.t (aH.t (aM.t (aJ.t ax))))))) (MutQ.keep hA120 aq (RatN.fit (K := 3) (cW.ext ax) hfw.2)); simpa using h9
   have hY120 := MutQ.keep hA120 aq (aP.ext (af.t (ad.t (ac.t (aC.t (aH.t (aM.t (aJ.t ax))))))))
   have eR120 := ExtX.root aq (MutQ.mutL hA120) (av.t (af.t (ad.t (ac.t (aC.t (aH.t (aM.t (aJ.t ax))))))))
   refine zzx ?_
   refine ready1 15 qz4 ?_
   refine zza 5 (.v (a3.v)) (zzx ?_)
   refine doneX ?_
   refine zzc 40 [(3, .adr 9 0), (4, .adr 4 0), (5, .v (a3.v)), (6, zI k)] [(4, ⟨32, rx.cs⟩), (9, ⟨108, [x.v, .int .i64 bM]⟩)] ?_
   exact ag _ _ ⟨bM, (Nt.mkR (aO : Int)), (((((1 + aQ : Nat) : Int) : Int) : Rat) / ((((1 + aU : Nat) : Int) : Int) : Rat)), a3, (L ++ [rx] ++ [aa] ++ [al]), b5, (Nt.mkR_wh _), hfw.1, rfl, eR120, b1, cc, hY120⟩
  have kc122 := fun (g : Nat) (w u1 : World) (e : Ext bV u1) (d : Dat u1 w) (hg : w.heap[g]? = some (.cells (tpc x bt).toArray 108 (0, 0))) (hu : u1.heap[g]? = some hidO) => (show qyc 56 (Value.pointer (some ⟨g, 0, none⟩) :: [.int .i64 8]).toArray w _ from k_tapeNext (m := 8) d hg hu (SlR.ext (hx.ext (av.t (af.t (ad.t ac.ext)))) e) hb bi yv yv)
  refine sy_lendP 24 56 (t := 9) (V := ⟨108, [x.v, .int .i64 bt]⟩) [.int .i64 8] xj kc122 ?_
  clear kc122
  rintro e0 eC cg ae ⟨ai, ba, rfl, aR, rfl, bf⟩
  refine zzx ?_
  refine takeXe 7 25 8 (x := .v (.int .i64 (IntKind.i64.wrap ((1 : Int) + (ai : Int))))) (.v (.int .i64 ((1 + ai : Nat) : Int))) (eqI xz) #[true, false, true, true, true, true, true, true, true, false, false, false, false, false, false, false] ?_
  refine ready2 1 9 qz6 #[true, false, true, true, true, true, true, true, true, true, false, false, false, false, false, false] ?_ ?_
  ·skip
   refine zzi 19 (.v (rx.v)) ty32 zze (zzx ?_)
   refine ready1 9 qz7 ?_
   have kc124 := fun (g : Nat) (w u1 : World) (e : Ext cg u1) (d : Dat u1 w) (hg : w.heap[g]? = some (.cells (tpc x ba).toArray 108 (0, 0))) (hu : u1.heap[g]? = some hidO) => (show qyc 56 (Value.pointer (some ⟨g, 0, none⟩) :: [.int .i64 4]).toArray w _ from k_tapeNext (m := 4) d hg hu (SlR.ext (hx.ext (av.t (af.t (ad.t (ac.t ae))))) e) hb bf yv yv)
   refine sy_lendP 27 56 (t := 9) (V := ⟨108, [x.v, .int .i64 ba]⟩) [.int .i64 4] xj kc124 ?_
   clear kc124
   rintro en d9 ej aE ⟨aS, bF, rfl, bC, rfl, bU⟩
   refine zzx ?_
   refine takeXe 10 28 5 (x := .v (.int .i64 (IntKind.i64.wrap ((1 : Int) + (aS : Int))))) (.v (.int .i64 ((1 + aS : Nat) : Int))) (eqI xz) qz5 ?_
   refine ready1 11 qz0 ?_
   refine zzg 29 23 _ fun _ _ aL cK => qym (k_rqFrac cK (a := ((1 + ai : Nat) : Int)) (b := ((1 + aS : Nat) : Int)) xq xq xq xq) ?_
   rintro _ eF aD ⟨aj, rfl, de⟩
   refine zzx ?_
   refine takeX 12 30 3 (.v (.agg #[.bool rx.s, rx.m.v, rx.d.v, .bool aa.s, aa.m.v, aa.d.v, .bool aj.s, aj.m.v, aj.d.v])) qz1 ?_
   refine ready1 13 qz2 ?_
   refine sy_dataF 31 ⟨56, rx.cs ++ aa.cs ++ aj.cs⟩ 1 (fun cG ew aB dj e1 d3 => ?_)
   refine zzx ?_
   refine ready1 14 qz3 ?_
   have hfw := Nt.frW aR bC
   have hA132 := (bc.ext (af.t (ad.t (ac.t (ae.t (aE.t (aL.t (aD.t aB))))))))
   have hN132 := (be.ext (af.t (ad.t (ac.t (ae.t (aE.t (aL.t (aD.t aB))))))))
   refine sy_appQ 32 (T := 23) (E := 56) (z := .agg #[.bool false, qyn, qyn, .bool false, qyn, qyn, .bool false, qyn, qyn]) (size := 9) (bytes := 168) (b2 := cG) (off := 0) (m := 1) yp (rcs L) (rx.cs ++ aa.cs ++ aj.cs) hA132 xj xj xj yv rfl (lit_news ((Ext.refl _).cells dj)) (pt_one rx aa aj) yv yk xq (nu_app (nu_app (nu_rl rx) (nu_rl aa)) (nu_rl aj)) (nu_app (nu_app (nu_rl rl0) (nu_rl rl0)) (nu_rl rl0)) (fun a4 b7 bJ dC ar dK => ?_)
   have b8 : MutQ 9 56 u.heap.size b7 a4 (rcs (L ++ [rx] ++ [aa] ++ [aj])) := by rw [rcs_app, rcs_app, rcs_app]; have h9 := bJ; rw [← List.append_assoc, ← List.append_assoc] at h9; simpa [rcs] using h9
   have bG : RatsN b7 (L ++ [rx] ++ [aa] ++ [aj]) (V ++ [q, (Nt.mkR (aO : Int)), (((((1 + ai : Nat) : Int) : Int) : Rat) / ((((1 + aS : Nat) : Int) : Int) : Rat))]) 1 := by have h9 := RatsN.snoc (RatsN.snoc (RatsN.snoc (MutQ.keeps hA132 ar hN132) (MutQ.keep hA132 ar (aP.ext (af.t (ad.t (ac.t (ae.t (aE.t (aL.t (aD.t aB)))))))))) (MutQ.keep hA132 ar (a8.ext (ae.t (aE.t (aL.t (aD.t aB))))))) (MutQ.keep hA132 ar (RatN.fit (K := 3) (de.ext aB) hfw.2)); simpa using h9
   have hY132 := MutQ.keep hA132 ar (aP.ext (af.t (ad.t (ac.t (ae.t (aE.t (aL.t (aD.t aB))))))))
   have eR132 := ExtX.root ar (MutQ.mutL hA132) (av.t (af.t (ad.t (ac.t (ae.t (aE.t (aL.t (aD.t aB))))))))
   refine zzx ?_
   refine ready1 15 qz4 ?_
   refine zza 5 (.v (a4.v)) (zzx ?_)
   refine doneX ?_
   refine zzc 40 [(3, .adr 9 0), (4, .adr 4 0), (5, .v (a4.v)), (6, zI k)] [(4, ⟨32, rx.cs⟩), (9, ⟨108, [x.v, .int .i64 bF]⟩)] ?_
   exact ag _ _ ⟨bF, (Nt.mkR (aO : Int)), (((((1 + ai : Nat) : Int) : Int) : Rat) / ((((1 + aS : Nat) : Int) : Int) : Rat)), a4, (L ++ [rx] ++ [aa] ++ [aj]), bU, (Nt.mkR_wh _), hfw.1, rfl, eR132, b8, bG, hY132⟩
  have kc134 := fun (g : Nat) (w u1 : World) (e : Ext cg u1) (d : Dat u1 w) (hg : w.heap[g]? = some (.cells (tpc x ba).toArray 108 (0, 0))) (hu : u1.heap[g]? = some hidO) => (show qyc 56 (Value.pointer (some ⟨g, 0, none⟩) :: [.int .i64 4]).toArray w _ from k_tapeNext (m := 4) d hg hu (SlR.ext (hx.ext (av.t (af.t (ad.t (ac.t ae))))) e) hb bf yv yv)
  refine sy_lendP 27 56 (t := 9) (V := ⟨108, [x.v, .int .i64 ba]⟩) [.int .i64 4] xj kc134 ?_
  clear kc134
  rintro d2 eE eU ah ⟨au, aZ, rfl, bb, rfl, bd⟩
  refine zzx ?_
  refine takeXe 10 28 6 (x := .v (.int .i64 (IntKind.i64.wrap ((1 : Int) + (au : Int))))) (.v (.int .i64 ((1 + au : Nat) : Int))) (eqI xz) #[true, false, true, true, true, true, true, true, true, true, true, false, false, false, false, false] ?_
  refine ready2 1 11 qz5 #[true, false, true, true, true, true, true, true, true, true, true, true, false, false, false, false] ?_ ?_
  ·skip
   refine zzi 19 (.v (rx.v)) ty32 zze (zzx ?_)
   refine ready1 11 qz0 ?_
   refine zzg 29 23 _ fun _ _ aN cN => qym (k_rqFrac cN (a := ((1 + ai : Nat) : Int)) (b := ((1 + au : Nat) : Int)) xq xq xq xq) ?_
   rintro _ eP aI ⟨ak, rfl, di⟩
   refine zzx ?_
   refine takeX 12 30 3 (.v (.agg #[.bool rx.s, rx.m.v, rx.d.v, .bool aa.s, aa.m.v, aa.d.v, .bool ak.s, ak.m.v, ak.d.v])) qz1 ?_
   refine ready1 13 qz2 ?_
   refine sy_dataF 31 ⟨56, rx.cs ++ aa.cs ++ ak.cs⟩ 1 (fun c4 d1 aA cy e5 eB => ?_)
   refine zzx ?_
   refine ready1 14 qz3 ?_
   have hfw := Nt.frW aR bb
   have hA142 := (bc.ext (af.t (ad.t (ac.t (ae.t (ah.t (aN.t (aI.t aA))))))))
   have hN142 := (be.ext (af.t (ad.t (ac.t (ae.t (ah.t (aN.t (aI.t aA))))))))
   refine sy_appQ 32 (T := 23) (E := 56) (z := .agg #[.bool false, qyn, qyn, .bool false, qyn, qyn, .bool false, qyn, qyn]) (size := 9) (bytes := 168) (b2 := c4) (off := 0) (m := 1) yp (rcs L) (rx.cs ++ aa.cs ++ ak.cs) hA142 xj xj xj yv rfl (lit_news ((Ext.refl _).cells cy)) (pt_one rx aa ak) yv yk xq (nu_app (nu_app (nu_rl rx) (nu_rl aa)) (nu_rl ak)) (nu_app (nu_app (nu_rl rl0) (nu_rl rl0)) (nu_rl rl0)) (fun a5 bT bO dr an dE => ?_)
   have bQ : MutQ 9 56 u.heap.size bT a5 (rcs (L ++ [rx] ++ [aa] ++ [ak])) := by rw [rcs_app, rcs_app, rcs_app]; have h9 := bO; rw [← List.append_assoc, ← List.append_assoc] at h9; simpa [rcs] using h9
   have bD : RatsN bT (L ++ [rx] ++ [aa] ++ [ak]) (V ++ [q, (Nt.mkR (aO : Int)), (((((1 + ai : Nat) : Int) : Int) : Rat) / ((((1 + au : Nat) : Int) : Int) : Rat))]) 1 := by have h9 := RatsN.snoc (RatsN.snoc (RatsN.snoc (MutQ.keeps hA142 an hN142) (MutQ.keep hA142 an (aP.ext (af.t (ad.t (ac.t (ae.t (ah.t (aN.t (aI.t aA)))))))))) (MutQ.keep hA142 an (a8.ext (ae.t (ah.t (aN.t (aI.t aA))))))) (MutQ.keep hA142 an (RatN.fit (K := 3) (di.ext aA) hfw.2)); simpa using h9
   have hY142 := MutQ.keep hA142 an (aP.ext (af.t (ad.t (ac.t (ae.t (ah.t (aN.t (aI.t aA))))))))
   have eR142 := ExtX.root an (MutQ.mutL hA142) (av.t (af.t (ad.t (ac.t (ae.t (ah.t (aN.t (aI.t aA))))))))
   refine zzx ?_
   refine ready1 15 qz4 ?_
   refine zza 5 (.v (a5.v)) (zzx ?_)
   refine doneX ?_
   refine zzc 40 [(3, .adr 9 0), (4, .adr 4 0), (5, .v (a5.v)), (6, zI k)] [(4, ⟨32, rx.cs⟩), (9, ⟨108, [x.v, .int .i64 aZ]⟩)] ?_
   exact ag _ _ ⟨aZ, (Nt.mkR (aO : Int)), (((((1 + ai : Nat) : Int) : Int) : Rat) / ((((1 + au : Nat) : Int) : Int) : Rat)), a5, (L ++ [rx] ++ [aa] ++ [ak]), bd, (Nt.mkR_wh _), hfw.1, rfl, eR142, bQ, bD, hY142⟩
  refine zzg 29 23 _ fun _ _ aF c1 => qym (k_rqFrac c1 (a := ((1 + ai : Nat) : Int)) (b := ((1 + au : Nat) : Int)) xq xq xq xq) ?_
  rintro _ eo aG ⟨am, rfl, dh⟩
  refine zzx ?_
  refine ready1 1 qz0 ?_
  refine zzi 19 (.v (rx.v)) ty32 zze (zzx ?_)
  refine takeX 12 30 3 (.v (.agg #[.bool rx.s, rx.m.v, rx.d.v, .bool aa.s, aa.m.v, aa.d.v, .bool am.s, am.m.v, am.d.v])) qz1 ?_
  refine ready1 13 qz2 ?_
  refine sy_dataF 31 ⟨56, rx.cs ++ aa.cs ++ am.cs⟩ 1 (fun cF eG aw dk eR ee => ?_)
  refine zzx ?_
  refine ready1 14 qz3 ?_
  have hfw := Nt.frW aR bb
  have hA150 := (bc.ext (af.t (ad.t (ac.t (ae.t (ah.t (aF.t (aG.t aw))))))))
  have hN150 := (be.ext (af.t (ad.t (ac.t (ae.t (ah.t (aF.t (aG.t aw))))))))
  refine sy_appQ 32 (T := 23) (E := 56) (z := .agg #[.bool false, qyn, qyn, .bool false, qyn, qyn, .bool false, qyn, qyn]) (size := 9) (bytes := 168) (b2 := cF) (off := 0) (m := 1) yp (rcs L) (rx.cs ++ aa.cs ++ am.cs) hA150 xj xj xj yv rfl (lit_news ((Ext.refl _).cells dk)) (pt_one rx aa am) yv yk xq (nu_app (nu_app (nu_rl rx) (nu_rl aa)) (nu_rl am)) (nu_app (nu_app (nu_rl rl0) (nu_rl rl0)) (nu_rl rl0)) (fun a7 bY bI dy ao dH => ?_)
  have bL : MutQ 9 56 u.heap.size bY a7 (rcs (L ++ [rx] ++ [aa] ++ [am])) := by rw [rcs_app, rcs_app, rcs_app]; have h9 := bI; rw [← List.append_assoc, ← List.append_assoc] at h9; simpa [rcs] using h9
  have bS : RatsN bY (L ++ [rx] ++ [aa] ++ [am]) (V ++ [q, (Nt.mkR (aO : Int)), (((((1 + ai : Nat) : Int) : Int) : Rat) / ((((1 + au : Nat) : Int) : Int) : Rat))]) 1 := by have h9 := RatsN.snoc (RatsN.snoc (RatsN.snoc (MutQ.keeps hA150 ao hN150) (MutQ.keep hA150 ao (aP.ext (af.t (ad.t (ac.t (ae.t (ah.t (aF.t (aG.t aw)))))))))) (MutQ.keep hA150 ao (a8.ext (ae.t (ah.t (aF.t (aG.t aw))))))) (MutQ.keep hA150 ao (RatN.fit (K := 3) (dh.ext aw) hfw.2)); simpa using h9
  have hY150 := MutQ.keep hA150 ao (aP.ext (af.t (ad.t (ac.t (ae.t (ah.t (aF.t (aG.t aw))))))))
  have eR150 := ExtX.root ao (MutQ.mutL hA150) (av.t (af.t (ad.t (ac.t (ae.t (ah.t (aF.t (aG.t aw))))))))
  refine zzx ?_
  refine ready1 15 qz4 ?_
  refine zza 5 (.v (a7.v)) (zzx ?_)
  refine doneX ?_
  refine zzc 40 [(3, .adr 9 0), (4, .adr 4 0), (5, .v (a7.v)), (6, zI k)] [(4, ⟨32, rx.cs⟩), (9, ⟨108, [x.v, .int .i64 aZ]⟩)] ?_
  exact ag _ _ ⟨aZ, (Nt.mkR (aO : Int)), (((((1 + ai : Nat) : Int) : Int) : Rat) / ((((1 + au : Nat) : Int) : Int) : Rat)), a7, (L ++ [rx] ++ [aa] ++ [am]), bd, (Nt.mkR_wh _), hfw.1, rfl, eR150, bL, bS, hY150⟩
 have qhb20 := qyf bq
 refine zyc (zzp (sq9 (zza 39 (.v (yp.v)) (zza 2 (.v (yp.v)) (zzb (zzo (ret0 [yp.v] ⟨zzq, trivial⟩ fun eu bK => ?_)))))))
 have hk0 : k = 0 := by omega
 have hiN : i = N := by omega
 exact ⟨yp, i, V, rfl, gr_mut (bc.ext bK) (be.ext bK) hG.len xq xq, hG.done xq xq⟩
def il0 : IL := ⟨false, ⟨none, 0, 0⟩⟩
def ils (L : List IL) : List Value := L.flatMap IL.cs
section
variable {u u' w w' : World} {L M : List IL} {r : IL} {l m : List Int} {q : Int} {K K' n i c b off : Nat} {x y : Sl}
theorem ils_cons : ils (r :: L) = r.cs ++ ils L := rfl
theorem ils_app : ils (L ++ M) = ils L ++ ils M := by simp [ils]
theorem ils_len : (ils L).length = L.length * 2 := by
 induction L with
 | nil => rfl
 | cons r L ih => rw [ils_cons, List.length_append, ih, List.length_cons]; simp [IL.cs]; omega
theorem ils_drop (n : Nat) : (ils L).drop (n * 2) = ils (L.drop n) := by
 induction n generalizing L with
 | zero => simp
 | succ n ih =>
  cases L with
  | nil => simp [ils]
  | cons r L => rw [ils_cons, show (n + 1) * 2 = r.cs.length + n * 2 by simp [IL.cs]; omega, List.drop_append, Nat.add_sub_cancel_left, ih, List.drop_of_length_le xq]; simp
theorem ils_take (n : Nat) : (ils L).take (n * 2) = ils (L.take n) := by
 induction n generalizing L with
 | zero => simp [ils]
 | succ n ih =>
  cases L with
  | nil => simp [ils]
  | cons r L => rw [ils_cons, show (n + 1) * 2 = r.cs.length + n * 2 by simp [IL.cs]; omega, List.take_append, Nat.add_sub_cancel_left, ih, List.take_of_length_le xq]; simp [ils_cons]
theorem ils_get (h : i < L.length) : ((ils L).drop (i * 2)).take 2 = (L.getD i il0).cs := by
 rw [ils_drop, List.drop_eq_getElem_cons h, ils_cons]
 have : (L[i].cs).length = 2 := rfl
 rw [List.take_append_of_le_length xq, List.take_of_length_le xq]
 simp [h]
theorem setL_ils (h : i < L.length) {off : Nat} (ho : off = i * 2) : setL (ils L) off r.v.cells.toList = ils (L.set i r) := by
 subst ho
 have e : r.v.cells.toList = r.cs := rfl
 rw [e]
 unfold setL
 rw [ils_take, show i * 2 + r.cs.length = (i + 1) * 2 by simp [IL.cs]; omega, ils_drop, List.set_eq_take_append_cons_drop, if_pos h, ils_app, ils_cons, List.append_assoc]
theorem made_ils (n : Nat) : (madeCells (Value.agg #[.bool false, qyn]).cells (n * 2)).toList = ils (List.replicate n il0) := by
 apply List.ext_getElem?
 intro j
 have hl : (ils (List.replicate n il0)).length = n * 2 := by rw [ils_len]; simp
 by_cases hj : j < n * 2
 ·have e1 : (madeCells (Value.agg #[.bool false, qyn]).cells (n * 2)).toList[j]? = some ((Value.agg #[.bool false, qyn]).cells[j % 2]!) := by
   simp [madeCells, hj, Value.cells]
  rw [e1]
  have h3 : j / 2 < (List.replicate n il0).length := by simp; omega
  have e2 := ils_get h3
  have e3 : (ils (List.replicate n il0))[j]? = (((ils (List.replicate n il0)).drop (j / 2 * 2)).take 2)[j % 2]? := by
   rw [List.getElem?_take_of_lt xq, List.getElem?_drop]; congr 1; omega
  rw [e3, e2]
  have e4 : (List.replicate n il0).getD (j / 2) il0 = il0 := by rw [qyg, List.getElem?_replicate]; split <;> rfl
  rw [e4]
  have : j % 2 = 0 ∨ j % 2 = 1 := by omega
  rcases this with h | h <;> rw [h] <;> rfl
 rw [List.getElem?_eq_none (by simp [madeCells]; omega), List.getElem?_eq_none xq]
def IlsN (u : World) (L : List IL) (l : List Int) (K : Nat) : Prop := L.length = l.length ∧ ∀ i, i < l.length → IntN u (L.getD i il0) (l.getD i 0) K
theorem IlsN.ext (h : IlsN u L l K) (e : Ext u u') : IlsN u' L l K := ⟨h.1, fun i hi => (h.2 i hi).ext e⟩
theorem IlsN.nil (u : World) (K : Nat) : IlsN u [] [] K := ⟨rfl, fun i hi => by cases hi⟩
theorem IlsN.snoc (h : IlsN u L l K) (hr : IntN u r q K) : IlsN u (L ++ [r]) (l ++ [q]) K := by
 refine ⟨by simp [h.1], fun i hi => ?_⟩
 simp at hi
 by_cases e : i < l.length
 ·have := h.2 i e
  rw [qyg, List.getElem?_append_left (by rw [h.1]; exact e), qyg (l := l ++ [q]), List.getElem?_append_left e]
  rw [qyg, qyg] at this
  exact this
 have : i = l.length := by omega
 subst this
 rw [qyg, List.getElem?_append_right (by rw [h.1]; exact Nat.le_refl _), qyg, List.getElem?_append_right qyl]
 simp [h.1]; exact hr
theorem IlsN.step (h : IlsN u (L.take i) l K) (hi : i < L.length) (hr : IntN u r q K) : IlsN u ((L.set i r).take (i + 1)) (l ++ [q]) K := by
 have e : (L.set i r).take (i + 1) = L.take i ++ [r] := by
  rw [List.take_set, List.take_succ_eq_append_getElem hi, List.set_append_right _ _ yw]
  simp [Nat.min_eq_left (Nat.le_of_lt hi)]
 rw [e]; exact h.snoc hr
theorem IlsN.tstep {t : List Int} (h : IlsN u (L.take i) (t.take i) K) (hi : i < L.length) (ht : i < t.length) (hr : IntN u r q K) (hq : q = t.getD i 0) : IlsN u ((L.set i r).take (i + 1)) (t.take (i + 1)) K := by
 have e : t.take i ++ [t.getD i 0] = t.take (i + 1) := by rw [List.take_succ_eq_append_getElem ht]; simp [ht]
 rw [← e, ← hq]; exact h.step hi hr
theorem IlsN.tnil (u : World) (L : List IL) (t : List Int) (K : Nat) : IlsN u (L.take 0) (t.take 0) K := IlsN.nil u K
theorem IlsN.tdone {t : List Int} (h : IlsN u (L.take i) (t.take i) K) (hi : i = L.length) (ht : i = t.length) : IlsN u L t K := by
 rw [hi, List.take_length, ← hi, ht, List.take_length] at h; exact h
def SlI (u : World) (x : Sl) (cs : List Value) : Prop := cs.length = x.n * 2 ∧ x.n ≤ x.c ∧ x.c ≤ maxLen ∧ (0 < x.n → ∃ b o, x.a = some ⟨b, o, none⟩ ∧ ∀ j, j < cs.length → u.cell? ⟨b, o + j, none⟩ = cs[j]?)
theorem SlI.ext {cs : List Value} (h : SlI u x cs) (e : Ext u u') : SlI u' x cs := by
 obtain ⟨h1, h2, h3, h4⟩ := h
 refine ⟨h1, h2, h3, fun hp => ?_⟩
 obtain ⟨b, o, e1, hc⟩ := h4 hp
 refine ⟨b, o, e1, fun j hj => ?_⟩
 have := hc j hj
 rw [List.getElem?_eq_getElem hj] at this ⊢
 exact e.cell this
def ItsN (u : World) (x : Sl) (l : List Int) (K : Nat) : Prop := ∃ L, SlI u x (ils L) ∧ IlsN u L l K
theorem ItsN.ext (h : ItsN u x l K) (e : Ext u u') : ItsN u' x l K := by obtain ⟨L, h1, h2⟩ := h; exact ⟨L, h1.ext e, h2.ext e⟩
theorem ItsN.len (h : ItsN u x l K) : x.n = l.length := by
 obtain ⟨L, h1, h2⟩ := h
 have := h1.1; rw [ils_len, h2.1] at this; omega
theorem its_at (h : ItsN u x l K) (hi : i < l.length) : ∃ (r : IL) (b o : Nat), x.a = some ⟨b, o, none⟩ ∧ (∀ j, j < r.cs.length → u.cell? ⟨b, o + i * 2 + j, none⟩ = r.cs[j]?) ∧ IntN u r (l.getD i 0) K := by
 have hn := h.len
 obtain ⟨L, ⟨h1, h2, h3, h4⟩, h5⟩ := h
 obtain ⟨b, o, e, hc⟩ := h4 xq
 have hL : i < L.length := by rw [h5.1]; exact hi
 refine ⟨L.getD i il0, b, o, e, fun j hj => ?_, h5.2 i hi⟩
 have hj : j < 2 := hj
 have := hc (i * 2 + j) (by rw [ils_len]; omega)
 rw [← Nat.add_assoc] at this
 rw [this, ← ils_get hL, List.getElem?_take_of_lt hj, List.getElem?_drop]
theorem its_data1 {t : TypeId} (h : u.heap[b]? = some (.cells (ils L).toArray t (0, 0))) (hm : L.length ≤ maxLen) (hL : IlsN u L l K) (hn : n = L.length) : ItsN u ⟨some ⟨b, 0, none⟩, n, n⟩ l K := by
 subst hn
 refine ⟨L, ⟨ils_len, Nat.le_refl _, hm, fun _ => ⟨b, 0, rfl, fun j hj => ?_⟩⟩, hL⟩
 rw [Nat.zero_add, cells_at h]; simp
end
section
variable {u u' : World} {r : RL} {q : Rat} {K K' n i c b : Nat} {x : Sl} {l : List Rat}
def RatP (u : World) (r : RL) (q : Rat) (K : Nat) : Prop := (∃ z D, 0 < D ∧ IntV u ⟨r.s, r.m⟩ z K ∧ NatV u r.d D K ∧ q = mkRat z D) ∧ 1 ≤ K
theorem RatP.raw (h : RatP u r q K) : RatV u r q K := by obtain ⟨⟨z, D, h0, h1, h2, h3⟩, h4⟩ := h; exact ⟨⟨z, D, h1, h2, h3⟩, h4⟩
theorem RatP.ext (h : RatP u r q K) (e : Ext u u') : RatP u' r q K := by obtain ⟨⟨z, D, h0, h1, h2, h3⟩, h4⟩ := h; exact ⟨⟨z, D, h0, h1.ext e, h2.ext e, h3⟩, h4⟩
theorem RatP.more (h : RatP u r q K) (k : K ≤ K') : RatP u r q K' := by obtain ⟨⟨z, D, h0, h1, h2, h3⟩, h4⟩ := h; exact ⟨⟨z, D, h0, h1.more k, h2.more k, h3⟩, by omega⟩
theorem RatN.toP (h : RatN u r q K) : RatP u r q K := by
 obtain ⟨⟨z, D, h1, h2, h3⟩, h4⟩ := h.raw
 exact ⟨⟨q.num, q.den, q.den_pos, h.1.raw, h.2.raw, (Rat.mkRat_self q).symm⟩, h4⟩
theorem Nt.absQ_mk {z : Int} {D : Nat} (h0 : 0 < D) : Nt.absQ (mkRat z D) = mkRat (z.natAbs : Int) D := by
 have hD : (0 : Rat) < ((D : Int) : Rat) := by exact_mod_cast (show (0 : Int) < (D : Int) by omega)
 unfold Nt.absQ
 rw [← Nt.mk_div, ← Nt.mk_div]
 have hz : ((z.natAbs : Int) : Rat) = if (z : Rat) < 0 then -(z : Rat) else (z : Rat) := by
  split
  ·rename_i h
   have h : z < 0 := by exact_mod_cast h
   rw [show (z.natAbs : Int) = -z by omega, Rat.intCast_neg]
  rename_i h
  have h : ¬ z < 0 := by exact_mod_cast h
  rw [show (z.natAbs : Int) = z by omega]
 have hi : (0 : Rat) < (((D : Int) : Rat))⁻¹ := Rat.inv_pos.2 hD
 have hdiv : (z : Rat) / ((D : Int) : Rat) < 0 ↔ (z : Rat) < 0 := by
  rw [Rat.div_def]
  constructor
  ·intro h
   by_cases c : (z : Rat) < 0
   ·exact c
   have := Rat.mul_nonneg (show (0 : Rat) ≤ (z : Rat) by grind) (Rat.le_of_lt hi); grind
  intro h
  have := Rat.mul_pos (show (0 : Rat) < -(z : Rat) by grind) hi
  grind
 rw [hz]
 by_cases c : (z : Rat) < 0
 ·rw [if_pos (hdiv.2 c), if_pos c, Rat.div_def, Rat.div_def]; grind
 rw [if_neg (fun h => c (hdiv.1 h)), if_neg c]
theorem RatP.abs (h : RatP u r q K) : RatP u ⟨false, r.m, r.d⟩ (Nt.absQ q) K := by
 obtain ⟨⟨z, D, h0, h1, h2, h3⟩, h4⟩ := h
 refine ⟨⟨(z.natAbs : Int), D, h0, nat_int (IntV.abs h1), h2, ?_⟩, h4⟩
 rw [h3, Nt.absQ_mk h0]
def RtsP (u : World) (L : List RL) (l : List Rat) (K : Nat) : Prop := L.length = l.length ∧ ∀ i, i < l.length → RatP u (L.getD i rl0) (l.getD i 0) K
def PolP (u : World) (x : Sl) (l : List Rat) (K : Nat) : Prop := ∃ L, SlC u x (rcs L) ∧ RtsP u L l K
theorem RtsP.ext {L : List RL} (h : RtsP u L l K) (e : Ext u u') : RtsP u' L l K := ⟨h.1, fun i hi => (h.2 i hi).ext e⟩
theorem PolP.ext (h : PolP u x l K) (e : Ext u u') : PolP u' x l K := by obtain ⟨L, h1, h2⟩ := h; exact ⟨L, h1.ext e, h2.ext e⟩
theorem PolP.raw (h : PolP u x l K) : PolV u x l K := by obtain ⟨L, h1, h2⟩ := h; exact ⟨L, h1, h2.1, fun i hi => (h2.2 i hi).raw⟩
theorem PolP.len (h : PolP u x l K) : x.n = l.length := h.raw.len
theorem polp_at (h : PolP u x l K) (hi : i < l.length) : ∃ (r : RL) (b o : Nat), x.a = some ⟨b, o, none⟩ ∧ (∀ j, j < r.cs.length → u.cell? ⟨b, o + i * 3 + j, none⟩ = r.cs[j]?) ∧ RatP u r (l.getD i 0) K := by
 have hn := h.len
 obtain ⟨L, ⟨h1, h2, h3, h4⟩, h5⟩ := h
 obtain ⟨b, o, e, hc⟩ := h4 xq
 have hL : i < L.length := by rw [h5.1]; exact hi
 refine ⟨L.getD i rl0, b, o, e, fun j hj => ?_, h5.2 i hi⟩
 have hj : j < 3 := hj
 have := hc (i * 3 + j) (by rw [zyy]; omega)
 rw [← Nat.add_assoc] at this
 rw [this, ← rcs_get hL, List.getElem?_take_of_lt hj, List.getElem?_drop]
theorem RtsP.tnil (u : World) (L : List RL) (t : List Rat) (K : Nat) : RtsP u (L.take 0) (t.take 0) K := ⟨rfl, fun i hi => by cases hi⟩
theorem RtsP.tstep {L : List RL} {t : List Rat} (h : RtsP u (L.take i) (t.take i) K) (hi : i < L.length) (ht : i < t.length) (hr : RatP u r q K) (hq : q = t.getD i 0) : RtsP u ((L.set i r).take (i + 1)) (t.take (i + 1)) K := by
 refine ⟨by simp; omega, fun j hj => ?_⟩
 rw [List.length_take] at hj
 have e1 : ((L.set i r).take (i + 1)).getD j rl0 = if j = i then r else (L.take i).getD j rl0 := by
  rw [qyg, List.getElem?_take_of_lt xq]
  by_cases e : j = i
  ·rw [if_pos e, e, List.getElem?_set_self hi]; rfl
  rw [if_neg e, List.getElem?_set_ne (Ne.symm e), qyg, List.getElem?_take_of_lt xq]
 have e2 : (t.take (i + 1)).getD j 0 = if j = i then q else (t.take i).getD j 0 := by
  rw [qyg, List.getElem?_take_of_lt xq]
  by_cases e : j = i
  ·rw [if_pos e, e, hq, qyg]
  rw [if_neg e, qyg, List.getElem?_take_of_lt xq]
 rw [e1, e2]
 split
 ·exact hr
 exact h.2 j (by rw [List.length_take]; omega)
theorem RtsP.tdone {L : List RL} {t : List Rat} (h : RtsP u (L.take i) (t.take i) K) (hi : i = L.length) (ht : i = t.length) : RtsP u L t K := by
 rw [hi, List.take_length, ← hi, ht, List.take_length] at h; exact h
theorem polp_data1 {L : List RL} {t : TypeId} (h : u.heap[b]? = some (.cells (rcs L).toArray t (0, 0))) (hm : L.length ≤ maxLen) (hL : RtsP u L l K) (hn : n = L.length) : PolP u ⟨some ⟨b, 0, none⟩, n, n⟩ l K := by
 subst hn
 refine ⟨L, ⟨zyy, Nat.le_refl _, hm, fun _ => ⟨b, 0, rfl, fun j hj => ?_⟩⟩, hL⟩
 rw [Nat.zero_add, cells_at h]; simp
end
end Go.Proofs.YtgmkhhfbckjaeaaGreat
