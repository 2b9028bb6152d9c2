/- Texts of this claim put together by a program of its own (SDStepR, Px8, SDStepA), what the law does not use left out: each part's statements bear their own conditions. -/
import Derived.Test.YtaphbechnjmlgaaC14
import Derived.Test.YtaphbechnjmlgaaC12
namespace Go.Proofs.Ytaphbechnjmlgaa.P
open Go.RowKit Go.Proofs.YtaphbechnjmlgaaW.PrintWords Go.Proofs.YtaphbechnjmlgaaW.PrintLast Go.Proofs.YtaphbechnjmlgaaW.PrintMore
set_option linter.unusedVariables false
set_option linter.unusedSimpArgs false

set_option maxHeartbeats 4000000 in
set_option maxRecDepth 100000 in
theorem fewer_no (x0 x2 : Int) (A1 : Option Addr) (n1 c1 : Nat) (A4 : Option Addr) (n4 c4 : Nat) (w : World) :
    Calls Try.prog 48 #[.agg #[.int .i64 x0, .slice A1 n1 c1, .int .i64 x2, .int .i64 0, .slice A4 n4 c4]] w fun e w' => ∃ D1 d1 D4 d4, e = .returned (.tuple #[.agg #[.int .i64 0, .slice D1 0 d1, .int .i64 0, .int .i64 0, .slice D4 0 d4], .bool false]) ∧ Below w.heap.size w w' := by
  go_enter Try.func48, Try.ntmps48
  have HB0 := Aside0.mk (Below.refl w.heap.size w)
  have hu := Try.underlying25
  go_upto_region 1 with (first
    | ((with_reducible refine gate_dst (N := 1) rfl ?_); (try (refine gate_guard (by rfl) ?_; dsimp only)); refine box_event ?hg (N := 1) ?hd (cs := #[.int .i64 x0, .slice A1 n1 c1, .int .i64 x2, .int .i64 0, .slice A4 n4 c4]) (t := 25) ?hr ?_; (case hd => rfl); (case hg => rfl); (case hr => first | (go_simp; done) | (go_simp; rfl)); intro gx hg w1 hbox hb; have HGX := Aside0.mk (by rw [hg]; exact Nat.le_refl _ : w.heap.size ≤ gx); have HB1 := Aside0.mk (below_step HB0.out hb); have HX1 := Aside0.mk hbox; clear hb hbox hg)
    | ((with_reducible refine gate_dst (N := 2) rfl ?_); (try (refine gate_guard (by rfl) ?_; dsimp only)); refine box_event ?hg (N := 2) ?hd (cs := #[.int .i64 0, .slice none 0 0, .int .i64 0, .int .i64 0, .slice none 0 0]) (t := 25) ?hr ?_; (case hd => rfl); (case hg => rfl); (case hr => first | (go_simp; done) | (go_simp; rfl)); intro gr hg w2 hbox hb; have HGR := Aside0.mk (by rw [hg]; exact HB1.out.size : w.heap.size ≤ gr); have HN0 := Aside0.mk (show gx < gr by rw [hg]; exact blk_lt HX1.out); have HB := Aside0.mk (below_step HB1.out hb); have HX := Aside0.mk (blk_below HX1.out hb); have HR := Aside0.mk hbox; clear HX1; clear hb hbox hg))
  clear HB0 HB1
  (try simp only [Act.put, List.setIfInBounds_toArray, List.set_cons_zero, List.set_cons_succ])
  have z0 := blk_cell HX.out 0
  have z1 := blk_cell HX.out 1
  have z2 := blk_cell HX.out 2
  have z3 := blk_cell HX.out 3
  have z4 := blk_cell HX.out 4
  have y2 := blk_frozen HX.out 2
  have y3 := blk_frozen HX.out 3
  have hne : gx ≠ gr := by have := HN0.out; omega
  go_wp2_with (go_at_call 27; (with_reducible refine (deriv_none.calls 0 [] 0 0 [] _ rfl).mono ?_); rintro e_ w5 ⟨v1, v4, rfl, hv1, hv4, hb⟩; obtain ⟨D1, d1, rfl⟩ := Kd.R_slice hv1; obtain ⟨D4, d4, rfl⟩ := Kd.R_slice hv4; have HB5 := Aside0.mk (below_step HB.out hb); have HGG := Aside0.mk (blk_below HR.out hb); have t0 := blk_cell HGG.out 0; have t1 := blk_cell HGG.out 1; have t2 := blk_cell HGG.out 2; have t3 := blk_cell HGG.out 3; have t4 := blk_cell HGG.out 4; have f0 := blk_frozen HGG.out 0; have f1 := blk_frozen HGG.out 1; have f2 := blk_frozen HGG.out 2; have f3 := blk_frozen HGG.out 3; have f4 := blk_frozen HGG.out 4; clear hv1 hv4 hb)
  refine bodyPost_ret (results_ct rfl _ _ gr 25 #[.int .i64 0, .slice D1 0 d1, .int .i64 0, .int .i64 0, .slice D4 0 d4] (0, 0) _ rfl (blk_put (blk_put (blk_put (blk_put (blk_put (HGG.out) 0 _ rfl) 1 _ rfl) 2 _ rfl) 3 _ rfl) 4 _ rfl) Try.underlying25 rfl (by kernel_rfl)) rfl ?_
  exact ⟨D1, d1, D4, d4, rfl, below_set (below_set (below_set (below_set (below_set (HB5.out) HGR.out) HGR.out) HGR.out) HGR.out) HGR.out⟩
set_option maxHeartbeats 4000000 in
set_option maxRecDepth 100000 in
theorem fewer_yes (x0 x2 x3 : Int) (A1 : Option Addr) (n1 c1 : Nat) (A4 : Option Addr) (n4 c4 : Nat) (w : World) (h : x3 ≠ 0) :
    Calls Try.prog 48 #[.agg #[.int .i64 x0, .slice A1 n1 c1, .int .i64 x2, .int .i64 x3, .slice A4 n4 c4]] w fun e w' => e = .returned (.tuple #[.agg #[.int .i64 x0, .slice A1 n1 c1, .int .i64 (mx 0 (wrap64 (x2 - 1))), .int .i64 (if x3 > 0 then wrap64 (x3 - 1) else x3), .slice A4 n4 c4], .bool true]) ∧ Below w.heap.size w w' := by
  have k3 : (x3 == 0) = false := beq_eq_false_iff_ne.mpr h
  obtain ⟨j2, hj⟩ : ∃ j_ : Int, (mx 0 (wrap64 (x2 - 1))) = j_ := ⟨_, rfl⟩
  have hj_ : (if 0 < (wrap64 (x2 - 1)) then (wrap64 (x2 - 1)) else 0) = j2 := hj
  rw [hj]
  obtain ⟨j3, hj3⟩ : ∃ j_ : Int, (if x3 > 0 then wrap64 (x3 - 1) else x3) = j_ := ⟨_, rfl⟩
  rw [hj3]
  have HJ3 := Aside0.mk hj3
  clear hj h hj3
  go_enter Try.func48, Try.ntmps48
  have HB0 := Aside0.mk (Below.refl w.heap.size w)
  have hu := Try.underlying25
  go_upto_region 1 with (first
    | ((with_reducible refine gate_dst (N := 1) rfl ?_); (try (refine gate_guard (by rfl) ?_; dsimp only)); refine box_event ?hg (N := 1) ?hd (cs := #[.int .i64 x0, .slice A1 n1 c1, .int .i64 x2, .int .i64 x3, .slice A4 n4 c4]) (t := 25) ?hr ?_; (case hd => rfl); (case hg => rfl); (case hr => first | (go_simp; done) | (go_simp; rfl)); intro gx hg w1 hbox hb; have HGX := Aside0.mk (by rw [hg]; exact Nat.le_refl _ : w.heap.size ≤ gx); have HB1 := Aside0.mk (below_step HB0.out hb); have HX1 := Aside0.mk hbox; clear hb hbox hg)
    | ((with_reducible refine gate_dst (N := 2) rfl ?_); (try (refine gate_guard (by rfl) ?_; dsimp only)); refine box_event ?hg (N := 2) ?hd (cs := #[.int .i64 0, .slice none 0 0, .int .i64 0, .int .i64 0, .slice none 0 0]) (t := 25) ?hr ?_; (case hd => rfl); (case hg => rfl); (case hr => first | (go_simp; done) | (go_simp; rfl)); intro gr hg w2 hbox hb; have HGR := Aside0.mk (by rw [hg]; exact HB1.out.size : w.heap.size ≤ gr); have HN0 := Aside0.mk (show gx < gr by rw [hg]; exact blk_lt HX1.out); have HB := Aside0.mk (below_step HB1.out hb); have HX := Aside0.mk (blk_below HX1.out hb); have HR := Aside0.mk hbox; clear HX1; clear hb hbox hg))
  clear HB0 HB1
  (try simp only [Act.put, List.setIfInBounds_toArray, List.set_cons_zero, List.set_cons_succ])
  have z0 := blk_cell HX.out 0
  have z1 := blk_cell HX.out 1
  have z2 := blk_cell HX.out 2
  have z3 := blk_cell HX.out 3
  have z4 := blk_cell HX.out 4
  have y2 := blk_frozen HX.out 2
  have y3 := blk_frozen HX.out 3
  have hne : gx ≠ gr := by have := HN0.out; omega
  by_cases hp : x3 > 0
  · have hj3 := HJ3.out
    rw [if_pos hp] at hj3
    subst hj3
    have kp : decide (0 < x3) = true := decide_eq_true hp
    clear hp HJ3
    go_upto_region 6 with (fail)
    have hX9 := blk_put (blk_put HX.out 2 (.int .i64 j2) rfl) 3 (.int .i64 (wrap64 (x3 - 1))) rfl
    have hR9 := blk_far (p := ⟨gx, 3, none⟩) (blk_far (p := ⟨gx, 2, none⟩) HR.out hne.symm (.int .i64 j2)) hne.symm (.int .i64 (wrap64 (x3 - 1)))
    have hB9 := below_set (j := 3) (v := .int .i64 (wrap64 (x3 - 1))) (below_set (j := 2) (v := .int .i64 j2) HB.out HGX.out) HGX.out
    generalize (w2.setCell ⟨gx, 2, none⟩ (.int .i64 j2)).setCell ⟨gx, 3, none⟩ (.int .i64 (wrap64 (x3 - 1))) = W9 at hX9 hR9 hB9 ⊢
    have HX9 := Aside0.mk hX9
    have HR9 := Aside0.mk hR9
    have HB9 := Aside0.mk hB9
    clear z0 z1 z2 z3 z4 y2 y3 hX9 hR9 hB9 hne HX HR HB
    have z0 := blk_cell HX9.out 0
    have z1 := blk_cell HX9.out 1
    have z2 := blk_cell HX9.out 2
    have z3 := blk_cell HX9.out 3
    have z4 := blk_cell HX9.out 4
    have q0 := blk_cell HR9.out 0; have q1 := blk_cell HR9.out 1; have q2 := blk_cell HR9.out 2; have q3 := blk_cell HR9.out 3; have q4 := blk_cell HR9.out 4; have f0 := blk_frozen HR9.out 0; have f1 := blk_frozen HR9.out 1; have f2 := blk_frozen HR9.out 2; have f3 := blk_frozen HR9.out 3; have f4 := blk_frozen HR9.out 4
    go_wp2
    refine bodyPost_ret (results_ct rfl _ _ gr 25 #[.int .i64 x0, .slice A1 n1 c1, .int .i64 j2, .int .i64 (wrap64 (x3 - 1)), .slice A4 n4 c4] (0, 0) _ rfl (blk_put (blk_put (blk_put (blk_put (blk_put (HR9.out) 0 _ rfl) 1 _ rfl) 2 _ rfl) 3 _ rfl) 4 _ rfl) Try.underlying25 rfl (by kernel_rfl)) rfl ?_
    exact ⟨rfl, below_set (below_set (below_set (below_set (below_set (HB9.out) HGR.out) HGR.out) HGR.out) HGR.out) HGR.out⟩
  · have hj3 := HJ3.out
    rw [if_neg hp] at hj3
    subst hj3
    have kp : decide (0 < x3) = false := decide_eq_false hp
    clear hp HJ3
    go_upto_region 6 with (fail)
    have hX9 := blk_put HX.out 2 (.int .i64 j2) rfl
    have hR9 := blk_far (p := ⟨gx, 2, none⟩) HR.out hne.symm (.int .i64 j2)
    have hB9 := below_set (j := 2) (v := .int .i64 j2) HB.out HGX.out
    generalize w2.setCell ⟨gx, 2, none⟩ (.int .i64 j2) = W9 at hX9 hR9 hB9 ⊢
    have HX9 := Aside0.mk hX9
    have HR9 := Aside0.mk hR9
    have HB9 := Aside0.mk hB9
    clear z0 z1 z2 z3 z4 y2 y3 hX9 hR9 hB9 hne HX HR HB
    have z0 := blk_cell HX9.out 0
    have z1 := blk_cell HX9.out 1
    have z2 := blk_cell HX9.out 2
    have z3 := blk_cell HX9.out 3
    have z4 := blk_cell HX9.out 4
    have q0 := blk_cell HR9.out 0; have q1 := blk_cell HR9.out 1; have q2 := blk_cell HR9.out 2; have q3 := blk_cell HR9.out 3; have q4 := blk_cell HR9.out 4; have f0 := blk_frozen HR9.out 0; have f1 := blk_frozen HR9.out 1; have f2 := blk_frozen HR9.out 2; have f3 := blk_frozen HR9.out 3; have f4 := blk_frozen HR9.out 4
    go_wp2
    refine bodyPost_ret (results_ct rfl _ _ gr 25 #[.int .i64 x0, .slice A1 n1 c1, .int .i64 j2, .int .i64 x3, .slice A4 n4 c4] (0, 0) _ rfl (blk_put (blk_put (blk_put (blk_put (blk_put (HR9.out) 0 _ rfl) 1 _ rfl) 2 _ rfl) 3 _ rfl) 4 _ rfl) Try.underlying25 rfl (by kernel_rfl)) rfl ?_
    exact ⟨rfl, below_set (below_set (below_set (below_set (below_set (HB9.out) HGR.out) HGR.out) HGR.out) HGR.out) HGR.out⟩
theorem C_of_block {α : Type} {d : Kd α} {w : World} {b : Nat} {t : Nat} {cs : List Value} {xs : List α} (hb : w.heap[b]? = some (.cells cs.toArray t (0, 0))) (hr : Reps (d.K w) d.sz xs cs) (hm : xs.length ≤ 9223372036854775807) : d.C w (some ⟨b, 0, none⟩) xs.length xs := by
  refine ⟨rfl, hm, fun _ => ⟨_, rfl, fun j p hj => ⟨(cs.drop (j * d.sz)).take d.sz, ?_, hr.2 j p hj, fun i u hu => ?_⟩⟩⟩
  · have hjl := (List.getElem?_eq_some_iff.1 hj).1
    have h1 : j * d.sz + d.sz ≤ cs.length := by rw [hr.1, ← Nat.succ_mul]; exact Nat.mul_le_mul_right _ hjl
    rw [List.length_take, List.length_drop]
    omega
  · rw [add_plain, blk_cell hb]
    rw [List.getElem?_take] at hu
    split at hu
    · rw [List.getElem?_drop] at hu
      simpa using hu
    · cases hu
/-- A row of two that was just laid. -/
theorem F_two {w : World} {P0 : Nat → Prop} {b : Nat} {x y : DNode} {cx cy : List Value} (hb : w.heap[b]? = some (.cells (cx ++ cy).toArray 25 (0, 0))) (hx : Kd.FK k25 w P0 x cx) (hy : Kd.FK k25 w P0 y cy) : Kd.F k25 w (fun k => P0 k ∨ k = b) (some ⟨b, 0, none⟩) 2 [x, y] := by
  intro W' hW
  have hb' : W'.heap[b]? = some (.cells (cx ++ cy).toArray 25 (0, 0)) := (hW b (.inr rfl) (blk_lt hb)).trans hb
  have h1 : k25.K W' x cx := Kd.FK_now (Kd.FK_step hx fun k hk hl => hW k (.inl hk) hl)
  have h2 : k25.K W' y cy := Kd.FK_now (Kd.FK_step hy fun k hk hl => hW k (.inl hk) hl)
  exact C_of_block (d := k25) (xs := [x, y]) hb' (by have h3 := ((Reps.none (k25.K W') k25.sz).snoc h1 (k25.K_len h1)).snoc h2 (k25.K_len h2); simpa using h3) (by simp)
theorem NodeF.after {w w1 : World} {okx : Nat → Prop} {v v1 : Value} {x : DNode} {u : Value} (h : NodeF w (fun k => okx k ∧ some k ≠ v.ownBlock) x u) (hg : w.grownBy w1 v.ownBlock) (hat : v1.ownBlock = v.ownBlock ∨ ∃ b, v1.ownBlock = some b ∧ w.heap.size ≤ b) : NodeF w1 (fun k => okx k ∧ some k ≠ v1.ownBlock) x u := by
  obtain ⟨A1, c1, A4, c4, rfl, l1, g1, l4, g4⟩ := h
  exact ⟨A1, c1, A4, c4, rfl, l1, Kd.F_after g1 hg hat, l4, Kd.F_after g4 hg hat⟩
theorem Own.far {w W : World} {bl : List (Nat × Array Value × Nat)} (h : Own w W bl) {g j : Nat} (u : Value) (hw : w.heap.size ≤ g) (hn : ∀ g' cs t, (g', cs, t) ∈ bl → g' ≠ g) : Own w (W.setCell ⟨g, j, none⟩ u) bl :=
  ⟨below_set h.below hw, fun g' cs t hm => blk_far (p := ⟨g, j, none⟩) (h.blk g' cs t hm) (hn g' cs t hm) u, h.low⟩
/-- What its rows may lie in, beside the node's own block. -/
abbrev okR (w : World) (P : Nat → Prop) (bl : List (Nat × Array Value × Nat)) (gx : Nat) (k : Nat) : Prop := okO w P bl k ∧ k ≠ gx
theorem NodeF.fk {w : World} {P : Nat → Prop} {x : DNode} {A1 A4 : Option Addr} {c1 c4 : Nat} (h : NodeF w P x (.agg #[.int .i64 x.f0, .slice A1 x.f1.length c1, .int .i64 x.f2, .int .i64 x.f3, .slice A4 x.f4.length c4])) : Kd.FK k25 w P x [.int .i64 x.f0, .slice A1 x.f1.length c1, .int .i64 x.f2, .int .i64 x.f3, .slice A4 x.f4.length c4] := by
  obtain ⟨B1, d1, B4, d4, e, l1, g1, l4, g4⟩ := h
  cases e
  exact k25_mkF _ _ x l1 g1 l4 g4
theorem okR_new {w W : World} {bl : List (Nat × Array Value × Nat)} {gx t : Nat} {cs : Array Value} (h : Own w W bl) (hx : W.heap[gx]? = some (.cells cs t (0, 0))) (P : Nat → Prop) {k : Nat} (hk : W.heap.size ≤ k) : okR w P bl gx k := ⟨h.new P hk, by have := blk_lt hx; omega⟩
theorem okR_old {w W : World} {bl : List (Nat × Array Value × Nat)} {gx : Nat} (h : Own w W bl) (hx : w.heap.size ≤ gx) {P : Nat → Prop} {k : Nat} (hp : P k) (hk : k < w.heap.size) : okR w P bl gx k := ⟨h.old hp hk, by omega⟩
set_option maxHeartbeats 8000000 in
set_option maxRecDepth 100000 in
theorem rep_step (k : Nat) (c : Int) (st : Bool) (n : Nat) (ih : StepN k c st n) (P : Nat → Prop) (x0 : Int) (A1 : Option Addr) (c1 : Nat) (x1 : List S52) (x2 x3 : Int) (A4 : Option Addr) (c4 : Nat) (y : DNode) (w : World) (r first : DNode)
    (l1 : x1.length ≤ c1) (q1 : Kd.F k52 w P A1 x1.length x1) (l4 : 1 ≤ c4) (q4 : Kd.F k25 w P A4 1 [y]) (hf : stepS k c st n y = some first) (h : (srepL k first (nullS st false k y) k ⟨x0, x1, x2, x3, [y]⟩ []).bind (orN' k) = some r) :
    Calls Try.prog 38 #[.agg #[.int .i64 c, .bool st], .agg #[.int .i64 x0, .slice A1 x1.length c1, .int .i64 x2, .int .i64 x3, .slice A4 1 c4]] w fun e w' => ∃ rv, e = .returned rv ∧ NodeF w' (fun k => P k ∨ w.heap.size ≤ k) r rv ∧ Below w.heap.size w w' := by
  have hu := Try.underlying25
  have hus := Try.underlying45
  obtain ⟨all9, hall, hor⟩ := Option.bind_eq_some_iff.mp h
  have HAL0 := Aside0.mk hall
  have HOR := Aside0.mk hor
  have HQ := Aside0.mk (And.intro l1 (And.intro (Kd.F_bound q1) (And.intro l4 (Kd.F_bound q4))))
  have HIH := Aside0.mk ih
  have HF := Aside0.mk hf
  have HB0 := Aside0.mk (Below.refl w.heap.size w)
  clear h hall hor l1 q1 l4 q4 hf ih
  go_enter Try.func38, Try.ntmps38
  go_upto_region 1 with (first
    | ((with_reducible refine gate_dst (N := 2) rfl ?_); (try (refine gate_guard (by rfl) ?_; dsimp only)); refine box_event ?hg (N := 2) ?hd (cs := #[.int .i64 c, .bool st]) (t := 45) ?hr ?_; (case hd => rfl); (case hg => rfl); (case hr => first | (go_simp; done) | (go_simp; rfl)); intro gs hg w1 hbox hb; have HGS := Aside0.mk (by rw [hg]; exact Nat.le_refl _ : w.heap.size ≤ gs); have HB1 := Aside0.mk (below_step HB0.out hb); have HS1 := Aside0.mk hbox; clear hb hbox hg)
    | ((with_reducible refine gate_dst (N := 3) rfl ?_); (try (refine gate_guard (by rfl) ?_; dsimp only)); refine box_event ?hg (N := 3) ?hd (cs := #[.int .i64 x0, .slice A1 x1.length c1, .int .i64 x2, .int .i64 x3, .slice A4 1 c4]) (t := 25) ?hr ?_; (case hd => rfl); (case hg => rfl); (case hr => first | (go_simp; done) | (go_simp; rfl)); intro gx hg w2 hbox hb; have HGX := Aside0.mk (by rw [hg]; exact HB1.out.size : w.heap.size ≤ gx); have HNSX := Aside0.mk (show gs < gx by rw [hg]; exact blk_lt HS1.out); have HB2 := Aside0.mk (below_step HB1.out hb); have HS2 := Aside0.mk (blk_below HS1.out hb); have HX2 := Aside0.mk hbox; clear hb hbox hg)
    | ((with_reducible refine gate_dst (N := 4) rfl ?_); (try (refine gate_guard (by rfl) ?_; dsimp only)); refine box_event ?hg (N := 4) ?hd (cs := #[.int .i64 0, .slice none 0 0, .int .i64 0, .int .i64 0, .slice none 0 0]) (t := 25) ?hr ?_; (case hd => rfl); (case hg => rfl); (case hr => first | (go_simp; done) | (go_simp; rfl)); intro gr hg w3 hbox hb; have HGR := Aside0.mk (by rw [hg]; exact HB2.out.size : w.heap.size ≤ gr); have HNXR := Aside0.mk (show gx < gr by rw [hg]; exact blk_lt HX2.out); have HB := Aside0.mk (below_step HB2.out hb); have HS := Aside0.mk (blk_below HS2.out hb); have HX := Aside0.mk (blk_below HX2.out hb); have HR := Aside0.mk hbox; clear hb hbox hg))
  clear HB0 HB1 HB2 HS1 HS2 HX2
  (try simp only [Act.put, List.setIfInBounds_toArray, List.set_cons_zero, List.set_cons_succ])
  obtain ⟨ad, E1, e1, E4, e4, ee, h0, h1, h2, h3, h4, p1, p2, p3, p4⟩ := at_F (Kd.F_below HQ.out.2.2.2 HB.out) 0 (by simp)
  cases ee
  have hy : ([y] : List DNode).getD 0 z25 = y := rfl
  rw [hy] at h0 h1 h2 h3 h4 p1 p2 p3 p4
  have ea : ad.add (0 * 5) = ad := by
    show ad.add 0 = ad
    cases ad
    simp [Addr.add]
  rw [ea] at h0 h1 h2 h3 h4
  have HYF := Aside0.mk (show NodeF w3 (fun k => P k ∧ k < w.heap.size) y (.agg #[.int .i64 y.f0, .slice E1 y.f1.length e1, .int .i64 y.f2, .int .i64 y.f3, .slice E4 y.f4.length e4]) from ⟨E1, e1, E4, e4, rfl, p1, p2, p3, p4⟩)
  have z4 := blk_cell HX.out 4
  have u1 : ((0 : Int) < (1 : Int)) = True := eq_true (by omega)
  clear hy ea p1 p2 p3 p4
  go_upto_region 2 with (fail)
  clear h0 h1 h2 h3 h4 z4
  have HWA := Aside0.mk (below_alloc (Below.refl w3.heap.size w3) (.cells #[.int .i64 y.f0, .slice E1 y.f1.length e1, .int .i64 y.f2, .int .i64 y.f3, .slice E4 y.f4.length e4] 25))
  have HG5 := Aside0.mk (heap_alloc_new w3 (.cells #[.int .i64 y.f0, .slice E1 y.f1.length e1, .int .i64 y.f2, .int .i64 y.f3, .slice E4 y.f4.length e4] 25))
  have HY4 := Aside0.mk (HYF.out.below HWA.out)
  have HS4 := Aside0.mk (blk_below HS.out HWA.out)
  have HX4 := Aside0.mk (blk_below HX.out HWA.out)
  have HR4 := Aside0.mk (blk_below HR.out HWA.out)
  have HB4 := Aside0.mk (below_step HB.out HWA.out)
  have HNR5 := Aside0.mk (show gr < w3.heap.size from blk_lt HR.out)
  have HL5 := Aside0.mk (show w.heap.size ≤ w3.heap.size from HB.out.size)
  have HYF9 := HYF
  have HB39 := HB
  clear HWA HYF HS HX HR HB
  generalize w3.alloc (.cells #[.int .i64 y.f0, .slice E1 y.f1.length e1, .int .i64 y.f2, .int .i64 y.f3, .slice E4 y.f4.length e4] 25) = W4 at HG5 HY4 HS4 HX4 HR4 HB4 ⊢
  generalize w3.heap.size = g5 at HG5 HNR5 HL5 ⊢
  have v0 := blk_cell HG5.out 0
  have v1 := blk_cell HG5.out 1
  have v2 := blk_cell HG5.out 2
  have v3 := blk_cell HG5.out 3
  have v4 := blk_cell HG5.out 4
  have y0 := blk_cell HS4.out 0
  have y1 := blk_cell HS4.out 1
  have HC := Aside0.mk (HIH.out _ y _ first W4 HY4.out HF.out)
  go_upto_region 3 with (go_at_call 25; (with_reducible refine HC.out.mono ?_); rintro e_ w5 ⟨rv, rfl, hN, hb⟩; have HB5 := Aside0.mk (below_step HB4.out hb); have HS5 := Aside0.mk (blk_below HS4.out hb); have HX5 := Aside0.mk (blk_below HX4.out hb); have HR5 := Aside0.mk (blk_below HR4.out hb); have HG55 := Aside0.mk (blk_below HG5.out hb); have HY5 := Aside0.mk (HY4.out.below hb); have HZ5 := Aside0.mk hb.size; obtain ⟨G1, d1, G4, d4, rfl, m1, r1, m4, r4⟩ := hN; have HFF5 := Aside0.mk (And.intro m1 (And.intro r1 (And.intro m4 r4))); clear m1 r1 m4 r4 hb)
  clear v0 v1 v2 v3 v4 y0 y1
  have HWA := Aside0.mk (below_alloc (Below.refl w5.heap.size w5) (.cells #[.int .i64 first.f0, .slice G1 first.f1.length d1, .int .i64 first.f2, .int .i64 first.f3, .slice G4 first.f4.length d4] 25))
  have HG6 := Aside0.mk (heap_alloc_new w5 (.cells #[.int .i64 first.f0, .slice G1 first.f1.length d1, .int .i64 first.f2, .int .i64 first.f3, .slice G4 first.f4.length d4] 25))
  have HN56 := Aside0.mk (show g5 < w5.heap.size from blk_lt HG55.out)
  have hJ0 : Own w (w5.alloc (.cells #[.int .i64 first.f0, .slice G1 first.f1.length d1, .int .i64 first.f2, .int .i64 first.f3, .slice G4 first.f4.length d4] 25)) [(gs, #[.int .i64 c, .bool st], 45), (gr, #[.int .i64 0, .slice none 0 0, .int .i64 0, .int .i64 0, .slice none 0 0], 25), (g5, #[.int .i64 y.f0, .slice E1 y.f1.length e1, .int .i64 y.f2, .int .i64 y.f3, .slice E4 y.f4.length e4], 25), (w5.heap.size, #[.int .i64 first.f0, .slice G1 first.f1.length d1, .int .i64 first.f2, .int .i64 first.f3, .slice G4 first.f4.length d4], 25)] := by
    refine ⟨below_step HB5.out HWA.out, fun g cs t hm => ?_, fun g cs t hm => ?_⟩
    · simp only [List.mem_cons, List.not_mem_nil, or_false, Prod.mk.injEq] at hm
      rcases hm with ⟨rfl, rfl, rfl⟩ | ⟨rfl, rfl, rfl⟩ | ⟨rfl, rfl, rfl⟩ | ⟨rfl, rfl, rfl⟩
      · exact blk_below HS5.out HWA.out
      · exact blk_below HR5.out HWA.out
      · exact blk_below HG55.out HWA.out
      · exact HG6.out
    · simp only [List.mem_cons, List.not_mem_nil, or_false, Prod.mk.injEq] at hm
      rcases hm with ⟨rfl, rfl, rfl⟩ | ⟨rfl, rfl, rfl⟩ | ⟨rfl, rfl, rfl⟩ | ⟨rfl, rfl, rfl⟩
      · exact HGS.out
      · exact HGR.out
      · exact HL5.out
      · exact HB5.out.size
  have HJ0 := Aside0.mk hJ0
  have HX6 := Aside0.mk (blk_below HX5.out HWA.out)
  have HFN0 := Aside0.mk (show NodeF (w5.alloc (.cells #[.int .i64 first.f0, .slice G1 first.f1.length d1, .int .i64 first.f2, .int .i64 first.f3, .slice G4 first.f4.length d4] 25)) (fun k => ((P k ∧ k < w.heap.size) ∨ W4.heap.size ≤ k) ∧ k < w5.heap.size) first (.agg #[.int .i64 first.f0, .slice G1 first.f1.length d1, .int .i64 first.f2, .int .i64 first.f3, .slice G4 first.f4.length d4]) from NodeF.below (NodeF.bound ⟨G1, d1, G4, d4, rfl, HFF5.out.1, HFF5.out.2.1, HFF5.out.2.2.1, HFF5.out.2.2.2⟩) HWA.out)
  have HN4 := Aside0.mk (blk_lt HG5.out)
  clear hJ0 HWA HG6 HS5 HX5 HR5 HB5 HG55
  generalize w5.alloc (.cells #[.int .i64 first.f0, .slice G1 first.f1.length d1, .int .i64 first.f2, .int .i64 first.f3, .slice G4 first.f4.length d4] 25) = W6 at HJ0 HX6 HFN0 ⊢
  generalize w5.heap.size = g6 at HJ0 HFN0 HN56 ⊢
  generalize hbl : ([(gs, #[.int .i64 c, .bool st], 45), (gr, #[.int .i64 0, .slice none 0 0, .int .i64 0, .int .i64 0, .slice none 0 0], 25), (g5, #[.int .i64 y.f0, .slice E1 y.f1.length e1, .int .i64 y.f2, .int .i64 y.f3, .slice E4 y.f4.length e4], 25), (g6, #[.int .i64 first.f0, .slice G1 first.f1.length d1, .int .i64 first.f2, .int .i64 first.f3, .slice G4 first.f4.length d4], 25)] : List (Nat × Array Value × Nat)) = bl at HJ0
  have HMS := Aside0.mk (show (gs, #[.int .i64 c, .bool st], 45) ∈ bl by rw [← hbl]; simp)
  have HMR := Aside0.mk (show (gr, #[.int .i64 0, .slice none 0 0, .int .i64 0, .int .i64 0, .slice none 0 0], 25) ∈ bl by rw [← hbl]; simp)
  have HM5 := Aside0.mk (show (g5, #[.int .i64 y.f0, .slice E1 y.f1.length e1, .int .i64 y.f2, .int .i64 y.f3, .slice E4 y.f4.length e4], 25) ∈ bl by rw [← hbl]; simp)
  have HM6 := Aside0.mk (show (g6, #[.int .i64 first.f0, .slice G1 first.f1.length d1, .int .i64 first.f2, .int .i64 first.f3, .slice G4 first.f4.length d4], 25) ∈ bl by rw [← hbl]; simp)
  have HXN := Aside0.mk (show ∀ g cs t, (g, cs, t) ∈ bl → g ≠ gx by
    rw [← hbl]
    intro g cs t hm
    have := HNSX.out
    have := HNXR.out
    have := HNR5.out
    have := HN56.out
    simp only [List.mem_cons, List.not_mem_nil, or_false, Prod.mk.injEq] at hm
    rcases hm with ⟨rfl, _, _⟩ | ⟨rfl, _, _⟩ | ⟨rfl, _, _⟩ | ⟨rfl, _, _⟩ <;> omega)
  have HFN := Aside0.mk (show NodeF W6 (fun k => okR w P bl gx k ∧ some k ≠ (Value.slice none 0 0).ownBlock) first (.agg #[.int .i64 first.f0, .slice G1 first.f1.length d1, .int .i64 first.f2, .int .i64 first.f3, .slice G4 first.f4.length d4]) from NodeF.mono HFN0.out (fun k hk => by
    refine ⟨⟨⟨by rcases hk.1 with h | h; exact .inl h.1; exact .inr (by have := HB4.out.size; omega), ?_⟩, ?_⟩, by simp [Value.ownBlock]⟩
    · rw [← hbl]
      intro g cs t hm
      have := HNSX.out
      have := HNXR.out
      have := HNR5.out
      have := HN56.out
      have := HN4.out
      have := HGS.out
      have := HGR.out
      have := HL5.out
      have := hk.2
      simp only [List.mem_cons, List.not_mem_nil, or_false, Prod.mk.injEq] at hm
      rcases hk.1 with h | h <;> (try have := h.2) <;> rcases hm with ⟨rfl, _, _⟩ | ⟨rfl, _, _⟩ | ⟨rfl, _, _⟩ | ⟨rfl, _, _⟩ <;> omega
    · have := HNXR.out
      have := HNR5.out
      have := HN4.out
      have := HGX.out
      rcases hk.1 with h | h <;> (try have := h.2) <;> omega))
  have HYN : ∀ W', Below w.heap.size w W' → NodeF W' (fun k => P k ∧ k < w.heap.size) y (.agg #[.int .i64 y.f0, .slice E1 y.f1.length e1, .int .i64 y.f2, .int .i64 y.f3, .slice E4 y.f4.length e4]) := fun W' hb => HYF9.out.step (fun k hk _ => (hb.block k hk.2).trans (HB39.out.block k hk.2).symm)
  clear hbl HFN0 HN4 HN56 HNR5 HNXR HNSX HL5 HB4 HGS HZ5 HFF5 HY5 HG5 HY4 HS4 HX4 HR4 HIH HC HF
  have hEnd : ∀ (acc : List DNode) (vv : Value) (wz : World), acc = all9 → Own w wz bl → Kd.N k25 25 wz w.heap.size (okR w P bl gx) vv acc → ∃ A3 c3 ks, vv = .slice A3 acc.length c3 ∧ r = orK ks ∧ Calls Try.prog 37 #[.slice A3 acc.length c3] wz fun e w' => ∃ v, e = .returned v ∧ NodeF w' (fun k => okR w P bl gx k ∨ wz.heap.size ≤ k) (orK ks) v ∧ Below wz.heap.size wz w' := by
    intro acc vv wz ha hJ hN
    obtain ⟨A3, c3, rfl⟩ := Kd.N_slice hN
    subst ha
    obtain ⟨ks, hks, hr⟩ := Option.map_eq_some_iff.mp HOR.out
    exact ⟨A3, c3, ks, rfl, hr.symm, or_calls k k _ A3 c3 acc ks wz (Kd.N_F hN) hks⟩
  have HEND := Aside0.mk hEnd
  clear hEnd HOR
  go_wp2
  go_loopg [7] k (fun kq s7 wx => ∃ (lo hi : Int) (acc : List DNode), Aside0 (srepL k first (nullS st false k y) kq ⟨x0, x1, lo, hi, [y]⟩ acc = some all9) ∧ Aside0 (Kd.N k25 25 wx w.heap.size (okR w P bl gx) s7 acc) ∧ Aside0 (Own w wx bl) ∧ Aside0 (wx.heap[gx]? = some (.cells #[.int .i64 x0, .slice A1 x1.length c1, .int .i64 lo, .int .i64 hi, .slice (some ad) 1 c4] 25 (0, 0))) ∧ Aside0 (NodeF wx (fun k => okR w P bl gx k ∧ some k ≠ s7.ownBlock) first (.agg #[.int .i64 first.f0, .slice G1 first.f1.length d1, .int .i64 first.f2, .int .i64 first.f3, .slice G4 first.f4.length d4])))
  case atStart => exact ⟨x2, x3, [], HAL0, ⟨Kd.N_nil _ _ _ _ _⟩, HJ0, HX6, HFN⟩
  case round =>
    clear HAL0 HJ0 HX6 HFN
    obtain ⟨lo, hi, acc, HAL, HO, HJ, HX, HFN⟩ := hrel
    cases gk with
    | zero => exact absurd HAL.out (by simp [srepL])
    | succ k1 =>
    have hh := HAL.out
    simp only [srepL] at hh
    have z0 := blk_cell HX.out 0
    have z1 := blk_cell HX.out 1
    have z2 := blk_cell HX.out 2
    have z3 := blk_cell HX.out 3
    have z4 := blk_cell HX.out 4
    by_cases hz : hi = 0
    · rw [if_pos hz] at hh
      have HRR := Aside0.mk (Option.some.inj hh)
      subst hz
      clear hh HAL
      go_wp2_with (first | (go_at_call 48; (with_reducible refine (fewer_no x0 lo A1 _ c1 _ 1 c4 wr).mono ?_); rintro e_ w7 ⟨D1, i1, D4, i4, rfl, hb⟩; have HB8 := Aside0.mk (below_alloc hb (.cells #[.int .i64 0, .slice D1 0 i1, .int .i64 0, .int .i64 0, .slice D4 0 i4] 25)); have HJ8 := Aside0.mk (HJ.out.more HB8.out); have h9 := Kd.N_below HO.out HB8.out; rw [HRR.out] at h9; obtain ⟨A3, c3, ks, rfl, rfl, hc⟩ := HEND.out _ _ _ rfl HJ8.out h9; have HC := Aside0.mk hc; clear hc h9; clear hb) | (go_at_call 37; (with_reducible refine HC.out.mono ?_); rintro e_ w12 ⟨rv, rfl, hN, hb⟩; have HNF := Aside0.mk (NodeF.mono (P' := fun k => (P k ∨ w.heap.size ≤ k) ∧ k ≠ gr) hN (fun k hk => ⟨by rcases hk with hk | hk; exact hk.1.1; exact .inr (Nat.le_trans HJ8.out.below.size hk), by have := blk_lt (HJ8.out.blk _ _ _ HMR.out); rcases hk with hk | hk; exact hk.1.2 _ _ _ HMR.out; omega⟩)); have HB5 := Aside0.mk (below_step HJ8.out.below hb); have HGG := Aside0.mk (blk_below (HJ8.out.blk _ _ _ HMR.out) hb); obtain ⟨D1, d1, D4, d4, rfl, m1, q1, m4, q4⟩ := hN; have HNF := Aside0.mk (show NodeF _ _ (orK ks) (.agg #[.int .i64 (orK ks).f0, .slice D1 (orK ks).f1.length d1, .int .i64 (orK ks).f2, .int .i64 (orK ks).f3, .slice D4 (orK ks).f4.length d4]) from HNF.out); have t0 := blk_cell HGG.out 0; have t1 := blk_cell HGG.out 1; have t2 := blk_cell HGG.out 2; have t3 := blk_cell HGG.out 3; have t4 := blk_cell HGG.out 4; have f0 := blk_frozen HGG.out 0; have f1 := blk_frozen HGG.out 1; have f2 := blk_frozen HGG.out 2; have f3 := blk_frozen HGG.out 3; have f4 := blk_frozen HGG.out 4; clear m1 q1 m4 q4 hb))
      refine bodyPost_ret (results_cell_row rfl _ _ gr 25 #[.int .i64 (orK ks).f0, .slice D1 (orK ks).f1.length d1, .int .i64 (orK ks).f2, .int .i64 (orK ks).f3, .slice D4 (orK ks).f4.length d4] (0, 0) _ rfl (blk_put (blk_put (blk_put (blk_put (blk_put HGG.out 0 _ rfl) 1 _ rfl) 2 _ rfl) 3 _ rfl) 4 _ rfl) Try.underlying25 rfl (by kernel_rfl)) rfl ?_
      exact ⟨_, rfl, (((((HNF.out.far (fun k hk => hk.2) _).far (fun k hk => hk.2) _).far (fun k hk => hk.2) _).far (fun k hk => hk.2) _).far (fun k hk => hk.2) _).mono (fun k hk => hk.1), below_set (below_set (below_set (below_set (below_set HB5.out HGR.out) HGR.out) HGR.out) HGR.out) HGR.out⟩
    rw [if_neg hz] at hh
    by_cases ca : acc.length < 1099511627776
    rotate_left
    · rw [if_neg ca] at hh
      cases hh
    rw [if_pos ca] at hh
    have HAC := Aside0.mk ca
    have hfw : fewerN ⟨x0, x1, lo, hi, [y]⟩ = ⟨x0, x1, mx 0 (wrap64 (lo - 1)), if hi > 0 then wrap64 (hi - 1) else hi, [y]⟩ := rfl
    rw [hfw] at hh
    have hct := fewer_yes x0 lo hi A1 x1.length c1 (some ad) 1 c4 wr hz
    obtain ⟨lo2, hlo⟩ : ∃ j_ : Int, mx 0 (wrap64 (lo - 1)) = j_ := ⟨_, rfl⟩
    obtain ⟨hi2, hhi⟩ : ∃ j_ : Int, (if hi > 0 then wrap64 (hi - 1) else hi) = j_ := ⟨_, rfl⟩
    rw [hlo, hhi] at hh hct
    dsimp only at hh
    have HCT := Aside0.mk hct
    obtain ⟨acc2, hacc, hh⟩ := Option.bind_eq_some_iff.mp hh
    obtain ⟨b, hsm, hh⟩ := Option.bind_eq_some_iff.mp hh
    have HACC := Aside0.mk hacc
    have HSM := Aside0.mk hsm
    have HHH := Aside0.mk hh
    have HLO := Aside0.mk hlo
    clear hfw hct hlo hhi hh hsm hacc ca HAL
    go_upto_region 7 with (go_at_call 48; (with_reducible refine HCT.out.mono ?_); rintro e_ w7 ⟨rfl, hb⟩; have HW7 := Aside0.mk hb; clear hb)
    have HB8 := Aside0.mk (below_alloc HW7.out (.cells #[.int .i64 x0, .slice A1 x1.length c1, .int .i64 lo2, .int .i64 hi2, .slice (some ad) 1 c4] 25))
    have HLB := Aside0.mk (heap_alloc_new w7 (.cells #[.int .i64 x0, .slice A1 x1.length c1, .int .i64 lo2, .int .i64 hi2, .slice (some ad) 1 c4] 25))
    have HO8 := Aside0.mk (Kd.N_below HO.out HB8.out)
    have HJ8 := Aside0.mk (HJ.out.more HB8.out)
    have HX8 := Aside0.mk (blk_below HX.out HB8.out)
    have HF8 := Aside0.mk (HFN.out.below HB8.out)
    have HG8 := Aside0.mk (Nat.le_trans HJ.out.below.size HW7.out.size)
    have HX78 := Aside0.mk (Nat.lt_of_lt_of_le (blk_lt HX.out) HW7.out.size)
    have HO78 := Aside0.mk (show ∀ k, u7.ownBlock = some k → k < w7.heap.size from fun k hk => Nat.lt_of_lt_of_le (Kd.N_lt HO.out k hk) HW7.out.size)
    have HBL8 := Aside0.mk (show ∀ g cs t, (g, cs, t) ∈ bl → g < w7.heap.size from fun g cs t hm => Nat.lt_of_lt_of_le (blk_lt (HJ.out.blk g cs t hm)) HW7.out.size)
    clear z0 z1 z2 z3 z4 HO HJ HX HFN HCT
    generalize w7.alloc (.cells #[.int .i64 x0, .slice A1 x1.length c1, .int .i64 lo2, .int .i64 hi2, .slice (some ad) 1 c4] 25) = W8 at HB8 HLB HO8 HJ8 HX8 HF8 ⊢
    generalize w7.heap.size = g8 at HLB HG8 HX78 HO78 HBL8 ⊢
    have m0 := blk_cell HLB.out 3
    have m6 := HJ8.out.blk _ _ _ HM6.out
    have s0 := blk_cell m6 0
    have s1 := blk_cell m6 1
    have s2 := blk_cell m6 2
    have s3 := blk_cell m6 3
    have s4 := blk_cell m6 4
    clear m6
    by_cases h2 : hi2 = 0
    · have hac := HACC.out
      rw [if_pos h2] at hac
      have e2 : acc ++ [first] = acc2 := Option.some.inj hac
      have k2 : (hi2 == 0) = true := beq_iff_eq.mpr h2
      clear hac HACC h2
      go_upto_region 10 with (((with_reducible refine gate_builtin (b := .append) (xs := #[.tmp 29, .tmp 31]) rfl ?_); at_builtin; refine Kd.N_append k25 (w0 := w) w.heap.size rfl (.tmp 29) (.tmp 31) 23 25 (.agg #[.int .i64 0, .slice none 0 0, .int .i64 0, .int .i64 0, .slice none 0 0]) 72 rfl Try.underlying23 ninfo rfl (by decide) (by decide) _ acc first [.int .i64 first.f0, .slice G1 first.f1.length d1, .int .i64 first.f2, .int .i64 first.f3, .slice G4 first.f4.length d4] (okR w P bl gx) (fun k => okR w P bl gx k ∧ some k ≠ u7.ownBlock) rfl rfl (NodeF.fk HF8.out) ?sK ?sF (HO8.out) ?sB ?sS ?sL ?_; (case sK => exact fun k hk => hk); (case sF => (intro k hk; exact okR_new HJ8.out HX8.out P hk)); (case sB => exact (HJ8.out).below); (case sS => exact (HJ8.out).below.size); (case sL => (have := HAC.out; omega)); intro v w10 hn hb hg hat; have HJ10 := Aside0.mk (Own.grown (P := P) HJ8.out hg hb (fun k hk => (HO8.out.1 k hk).1)); have HX10 := Aside0.mk (blk_grown HX8.out hg (fun he => (HO8.out.1 gx he.symm).2 rfl)); have HL10 := Aside0.mk (blk_grown HLB.out hg (fun he => by have := HO78.out g8 he.symm; omega)); have HF10 := Aside0.mk (NodeF.after HF8.out hg hat); have HO10 := Aside0.mk hn; clear hn hb hg hat))
      clear m0 s0 s1 s2 s3 s4 HB8 HLB HO8 HJ8 HX8 HF8
      rw [e2] at HO10
      clear e2
      have HSC := Aside0.mk (same_calls k k ⟨x0, x1, lo2, hi2, [y]⟩ ⟨x0, x1, lo, hi, [y]⟩ (.agg #[.int .i64 x0, .slice A1 x1.length c1, .int .i64 lo2, .int .i64 hi2, .slice (some ad) 1 c4]) (.agg #[.int .i64 x0, .slice A1 x1.length c1, .int .i64 lo, .int .i64 hi, .slice (some ad) 1 c4]) b w10 ⟨A1, c1, some ad, c4, rfl, HQ.out.1, Kd.F_now (Kd.F_below HQ.out.2.1 HJ10.out.below), HQ.out.2.2.1, Kd.F_now (Kd.F_below HQ.out.2.2.2 HJ10.out.below)⟩ ⟨A1, c1, some ad, c4, rfl, HQ.out.1, Kd.F_now (Kd.F_below HQ.out.2.1 HJ10.out.below), HQ.out.2.2.1, Kd.F_now (Kd.F_below HQ.out.2.2.2 HJ10.out.below)⟩ HSM.out)
      have z0 := blk_cell HX10.out 0
      have z1 := blk_cell HX10.out 1
      have z2 := blk_cell HX10.out 2
      have z3 := blk_cell HX10.out 3
      have z4 := blk_cell HX10.out 4
      have m0 := blk_cell HL10.out 0
      have m1 := blk_cell HL10.out 1
      have m2 := blk_cell HL10.out 2
      have m3 := blk_cell HL10.out 3
      have m4 := blk_cell HL10.out 4
      cases b with
      | true =>
        have HRR := Aside0.mk (show acc2 = all9 from by have h9 := HHH.out; first | (rw [if_pos rfl] at h9; exact Option.some.inj h9) | (rw [if_pos trivial] at h9; exact Option.some.inj h9))
        clear HHH HSM
        go_wp2_with (first | (go_at_call 47; (with_reducible refine HSC.out.mono ?_); rintro e_ w11 ⟨rfl, hb⟩; have HS11 := Aside0.mk hb; have HJ11 := Aside0.mk (HJ10.out.more HS11.out); have h9 := Kd.N_below HO10.out HS11.out; rw [HRR.out] at h9; obtain ⟨A3, c3, ks, rfl, rfl, hc⟩ := HEND.out _ _ _ rfl HJ11.out h9; have HC := Aside0.mk hc; clear hc h9; clear hb) | (go_at_call 37; (with_reducible refine HC.out.mono ?_); rintro e_ w12 ⟨rv, rfl, hN, hb⟩; have HNF := Aside0.mk (NodeF.mono (P' := fun k => (P k ∨ w.heap.size ≤ k) ∧ k ≠ gr) hN (fun k hk => ⟨by rcases hk with hk | hk; exact hk.1.1; exact .inr (Nat.le_trans HJ11.out.below.size hk), by have := blk_lt (HJ11.out.blk _ _ _ HMR.out); rcases hk with hk | hk; exact hk.1.2 _ _ _ HMR.out; omega⟩)); have HB5 := Aside0.mk (below_step HJ11.out.below hb); have HGG := Aside0.mk (blk_below (HJ11.out.blk _ _ _ HMR.out) hb); obtain ⟨D1, d1, D4, d4, rfl, m1, q1, m4, q4⟩ := hN; have HNF := Aside0.mk (show NodeF _ _ (orK ks) (.agg #[.int .i64 (orK ks).f0, .slice D1 (orK ks).f1.length d1, .int .i64 (orK ks).f2, .int .i64 (orK ks).f3, .slice D4 (orK ks).f4.length d4]) from HNF.out); have t0 := blk_cell HGG.out 0; have t1 := blk_cell HGG.out 1; have t2 := blk_cell HGG.out 2; have t3 := blk_cell HGG.out 3; have t4 := blk_cell HGG.out 4; have f0 := blk_frozen HGG.out 0; have f1 := blk_frozen HGG.out 1; have f2 := blk_frozen HGG.out 2; have f3 := blk_frozen HGG.out 3; have f4 := blk_frozen HGG.out 4; clear m1 q1 m4 q4 hb))
        refine bodyPost_ret (results_cell_row rfl _ _ gr 25 #[.int .i64 (orK ks).f0, .slice D1 (orK ks).f1.length d1, .int .i64 (orK ks).f2, .int .i64 (orK ks).f3, .slice D4 (orK ks).f4.length d4] (0, 0) _ rfl (blk_put (blk_put (blk_put (blk_put (blk_put HGG.out 0 _ rfl) 1 _ rfl) 2 _ rfl) 3 _ rfl) 4 _ rfl) Try.underlying25 rfl (by kernel_rfl)) rfl ?_
        exact ⟨_, rfl, (((((HNF.out.far (fun k hk => hk.2) _).far (fun k hk => hk.2) _).far (fun k hk => hk.2) _).far (fun k hk => hk.2) _).far (fun k hk => hk.2) _).mono (fun k hk => hk.1), below_set (below_set (below_set (below_set (below_set HB5.out HGR.out) HGR.out) HGR.out) HGR.out) HGR.out⟩
      | false =>
        have h9 := HHH.out
        rw [if_neg (by simp)] at h9
        obtain ⟨z, hz, h9⟩ := Option.bind_eq_some_iff.mp h9
        have HNC := Aside0.mk (fun (W' : World) (hb : Below w10.heap.size w10 W') => null_calls st false k y (.agg #[.int .i64 y.f0, .slice E1 y.f1.length e1, .int .i64 y.f2, .int .i64 y.f3, .slice E4 y.f4.length e4]) z W' (NodeF.now (NodeF.below (HYN w10 HJ10.out.below) hb)) hz)
        clear HHH HSM hz
        cases z with
        | true =>
          have HRR := Aside0.mk (show srepL k first (nullS st false k y) k1 ⟨x0, x1, lo2, hi2, [y]⟩ acc2 = some all9 from by first | (rw [if_pos rfl] at h9; exact h9) | (rw [if_pos trivial] at h9; exact h9))
          clear h9
          go_wp2_with (first | (go_at_call 47; (with_reducible refine HSC.out.mono ?_); rintro e_ w11 ⟨rfl, hb⟩; have HS11 := Aside0.mk hb; have q5 := blk_below (HJ10.out.blk _ _ _ HM5.out) HS11.out; have v0 := blk_cell q5 0; have v1 := blk_cell q5 1; have v2 := blk_cell q5 2; have v3 := blk_cell q5 3; have v4 := blk_cell q5 4; have v5 := blk_cell (blk_below (HJ10.out.blk _ _ _ HMS.out) HS11.out) 1; clear q5; clear hb) | ((with_reducible refine gate_callee (f := 12) rfl ?_); (try (refine gate_guard (by rfl) ?_; dsimp only)); refine goesL_ (some 47) rfl rfl Try.func12 (by kernel_rfl) rfl #[.agg #[.int .i64 y.f0, .slice E1 y.f1.length e1, .int .i64 y.f2, .int .i64 y.f3, .slice E4 y.f4.length e4], .bool st, .bool false] rfl (by (try simp only [List.map_toArray, List.map_cons, List.map_nil]); first | done | rfl) ?_; (with_reducible refine (HNC.out _ HS11.out).mono ?_); rintro e_ w13 ⟨rfl, hb⟩; refine ⟨_, rfl, ?_⟩; have HS13 := Aside0.mk (below_step HS11.out hb); have HL13 := Aside0.mk (blk_below HL10.out HS13.out); have HX13 := Aside0.mk (blk_below HX10.out HS13.out); have n0 := blk_cell HL13.out 0; have n1 := blk_cell HL13.out 1; have n2 := blk_cell HL13.out 2; have n3 := blk_cell HL13.out 3; have n4 := blk_cell HL13.out 4; have f0 := blk_frozen HX13.out 0; have x0_ := blk_cell HX13.out 0; have f1 := blk_frozen HX13.out 1; have x1_ := blk_cell HX13.out 1; have f2 := blk_frozen HX13.out 2; have x2_ := blk_cell HX13.out 2; have f3 := blk_frozen HX13.out 3; have x3_ := blk_cell HX13.out 3; have f4 := blk_frozen HX13.out 4; have x4_ := blk_cell HX13.out 4; clear hb))
          go_roundg k1
          case measure => omega
          case rel => exact ⟨lo2, hi2, acc2, HRR, ⟨Kd.N_far (p := ⟨gx, 4, none⟩) (Kd.N_far (p := ⟨gx, 3, none⟩) (Kd.N_far (p := ⟨gx, 2, none⟩) (Kd.N_far (p := ⟨gx, 1, none⟩) (Kd.N_far (p := ⟨gx, 0, none⟩) (Kd.N_below HO10.out HS13.out) (fun k hk => hk.2) _) (fun k hk => hk.2) _) (fun k hk => hk.2) _) (fun k hk => hk.2) _) (fun k hk => hk.2) _⟩, ⟨Own.far (j := 4) (Own.far (j := 3) (Own.far (j := 2) (Own.far (j := 1) (Own.far (j := 0) (HJ10.out.more HS13.out) _ HGX.out HXN.out) _ HGX.out HXN.out) _ HGX.out HXN.out) _ HGX.out HXN.out) _ HGX.out HXN.out⟩, ⟨blk_put (blk_put (blk_put (blk_put (blk_put HX13.out 0 _ rfl) 1 _ rfl) 2 _ rfl) 3 _ rfl) 4 _ rfl⟩, ⟨NodeF.far (j := 4) (NodeF.far (j := 3) (NodeF.far (j := 2) (NodeF.far (j := 1) (NodeF.far (j := 0) (HF10.out.below HS13.out) (fun k hk => hk.1.2) _) (fun k hk => hk.1.2) _) (fun k hk => hk.1.2) _) (fun k hk => hk.1.2) _) (fun k hk => hk.1.2) _⟩⟩
        | false =>
          have HRR := Aside0.mk (show acc2 = all9 from by rw [if_neg (by simp)] at h9; exact Option.some.inj h9)
          clear h9
          go_wp2_with (first | (go_at_call 47; (with_reducible refine HSC.out.mono ?_); rintro e_ w11 ⟨rfl, hb⟩; have HS11 := Aside0.mk hb; have q5 := blk_below (HJ10.out.blk _ _ _ HM5.out) HS11.out; have v0 := blk_cell q5 0; have v1 := blk_cell q5 1; have v2 := blk_cell q5 2; have v3 := blk_cell q5 3; have v4 := blk_cell q5 4; have v5 := blk_cell (blk_below (HJ10.out.blk _ _ _ HMS.out) HS11.out) 1; clear q5; clear hb) | ((with_reducible refine gate_callee (f := 12) rfl ?_); (try (refine gate_guard (by rfl) ?_; dsimp only)); refine goesL_ (some 47) rfl rfl Try.func12 (by kernel_rfl) rfl #[.agg #[.int .i64 y.f0, .slice E1 y.f1.length e1, .int .i64 y.f2, .int .i64 y.f3, .slice E4 y.f4.length e4], .bool st, .bool false] rfl (by (try simp only [List.map_toArray, List.map_cons, List.map_nil]); first | done | rfl) ?_; (with_reducible refine (HNC.out _ HS11.out).mono ?_); rintro e_ w13 ⟨rfl, hb⟩; refine ⟨_, rfl, ?_⟩; have HS13 := Aside0.mk (below_step HS11.out hb); have HJ11 := Aside0.mk (HJ10.out.more HS13.out); have h9 := Kd.N_below HO10.out HS13.out; rw [HRR.out] at h9; obtain ⟨A3, c3, ks, rfl, rfl, hc⟩ := HEND.out _ _ _ rfl HJ11.out h9; have HC := Aside0.mk hc; clear hc h9; clear hb) | (go_at_call 37; (with_reducible refine HC.out.mono ?_); rintro e_ w14 ⟨rv, rfl, hN, hb⟩; have HNF := Aside0.mk (NodeF.mono (P' := fun k => (P k ∨ w.heap.size ≤ k) ∧ k ≠ gr) hN (fun k hk => ⟨by rcases hk with hk | hk; exact hk.1.1; exact .inr (Nat.le_trans HJ11.out.below.size hk), by have := blk_lt (HJ11.out.blk _ _ _ HMR.out); rcases hk with hk | hk; exact hk.1.2 _ _ _ HMR.out; omega⟩)); have HB5 := Aside0.mk (below_step HJ11.out.below hb); have HGG := Aside0.mk (blk_below (HJ11.out.blk _ _ _ HMR.out) hb); obtain ⟨D1, d1, D4, d4, rfl, m1, q1, m4, q4⟩ := hN; have HNF := Aside0.mk (show NodeF _ _ (orK ks) (.agg #[.int .i64 (orK ks).f0, .slice D1 (orK ks).f1.length d1, .int .i64 (orK ks).f2, .int .i64 (orK ks).f3, .slice D4 (orK ks).f4.length d4]) from HNF.out); have t0 := blk_cell HGG.out 0; have t1 := blk_cell HGG.out 1; have t2 := blk_cell HGG.out 2; have t3 := blk_cell HGG.out 3; have t4 := blk_cell HGG.out 4; have f0 := blk_frozen HGG.out 0; have f1 := blk_frozen HGG.out 1; have f2 := blk_frozen HGG.out 2; have f3 := blk_frozen HGG.out 3; have f4 := blk_frozen HGG.out 4; clear m1 q1 m4 q4 hb))
          refine bodyPost_ret (results_cell_row rfl _ _ gr 25 #[.int .i64 (orK ks).f0, .slice D1 (orK ks).f1.length d1, .int .i64 (orK ks).f2, .int .i64 (orK ks).f3, .slice D4 (orK ks).f4.length d4] (0, 0) _ rfl (blk_put (blk_put (blk_put (blk_put (blk_put HGG.out 0 _ rfl) 1 _ rfl) 2 _ rfl) 3 _ rfl) 4 _ rfl) Try.underlying25 rfl (by kernel_rfl)) rfl ?_
          exact ⟨_, rfl, (((((HNF.out.far (fun k hk => hk.2) _).far (fun k hk => hk.2) _).far (fun k hk => hk.2) _).far (fun k hk => hk.2) _).far (fun k hk => hk.2) _).mono (fun k hk => hk.1), below_set (below_set (below_set (below_set (below_set HB5.out HGR.out) HGR.out) HGR.out) HGR.out) HGR.out⟩
    · have hac := HACC.out
      rw [if_neg h2] at hac
      obtain ⟨d, hd, e2⟩ := Option.map_eq_some_iff.mp hac
      have k2 : (hi2 == 0) = false := beq_eq_false_iff_ne.mpr h2
      have m1 := blk_cell HLB.out 0
      have m2 := blk_cell HLB.out 1
      have m3 := blk_cell HLB.out 2
      have m4 := blk_cell HLB.out 4
      have HWT := Aside0.mk (below_alloc (Below.refl W8.heap.size W8) (.cells #[.int .i64 first.f0, .slice G1 first.f1.length d1, .int .i64 first.f2, .int .i64 first.f3, .slice G4 first.f4.length d4, .int .i64 x0, .slice A1 x1.length c1, .int .i64 lo2, .int .i64 hi2, .slice (some ad) 1 c4] 25))
      have HJC := Aside0.mk (show Calls Try.prog 45 #[.slice (some ⟨W8.heap.size, 0, none⟩) 2 2] _ _ from join_calls _ (some ⟨W8.heap.size, 0, none⟩) 2 [first, ⟨x0, x1, lo2, hi2, [y]⟩] d (W8.alloc (.cells #[.int .i64 first.f0, .slice G1 first.f1.length d1, .int .i64 first.f2, .int .i64 first.f3, .slice G4 first.f4.length d4, .int .i64 x0, .slice A1 x1.length c1, .int .i64 lo2, .int .i64 hi2, .slice (some ad) 1 c4] 25)) (F_two (P0 := fun k => okR w P bl gx k ∧ some k ≠ u7.ownBlock) (cx := [.int .i64 first.f0, .slice G1 first.f1.length d1, .int .i64 first.f2, .int .i64 first.f3, .slice G4 first.f4.length d4]) (cy := [.int .i64 x0, .slice A1 x1.length c1, .int .i64 lo2, .int .i64 hi2, .slice (some ad) 1 c4]) (heap_alloc_new W8 _) (NodeF.fk (HF8.out.below HWT.out)) (Kd.FK_mono (k25_mkF _ (fun k => P k ∧ k < w.heap.size) ⟨x0, x1, lo2, hi2, [y]⟩ HQ.out.1 (Kd.F_below HQ.out.2.1 (below_step HJ8.out.below HWT.out)) HQ.out.2.2.1 (Kd.F_below HQ.out.2.2.2 (below_step HJ8.out.below HWT.out))) (fun k hk => ⟨okR_old HJ8.out HGX.out hk.1 hk.2, fun he => by have := Kd.N_base HO8.out k he.symm; have := hk.2; omega⟩))) hd)
      have HSZ := Aside0.mk (show W8.heap.size < (W8.alloc (.cells #[.int .i64 first.f0, .slice G1 first.f1.length d1, .int .i64 first.f2, .int .i64 first.f3, .slice G4 first.f4.length d4, .int .i64 x0, .slice A1 x1.length c1, .int .i64 lo2, .int .i64 hi2, .slice (some ad) 1 c4] 25)).heap.size by simp)
      clear hac HACC h2 hd
      go_upto_region 10 with (first
        | (go_at_call 45; (with_reducible refine HJC.out.mono ?_); rintro e_ w9 ⟨rv, rfl, hN, hb⟩; have HB9 := Aside0.mk (below_step HWT.out hb); have HNF9 := Aside0.mk hN; obtain ⟨D1, i1, D4, i4, rfl, n1, r1, n4, r4⟩ := hN; have HNJ := Aside0.mk (And.intro n1 (And.intro r1 (And.intro n4 r4))); clear n1 r1 n4 r4 hb)
        | ((with_reducible refine gate_builtin (b := .append) (xs := #[.tmp 33, .tmp 38]) rfl ?_); at_builtin; refine Kd.N_append k25 (w0 := w) w.heap.size rfl (.tmp 33) (.tmp 38) 23 25 (.agg #[.int .i64 0, .slice none 0 0, .int .i64 0, .int .i64 0, .slice none 0 0]) 72 rfl Try.underlying23 ninfo rfl (by decide) (by decide) _ acc (joinK d) [.int .i64 (joinK d).f0, .slice D1 (joinK d).f1.length i1, .int .i64 (joinK d).f2, .int .i64 (joinK d).f3, .slice D4 (joinK d).f4.length i4] (okR w P bl gx) (fun k => ((okR w P bl gx k ∧ some k ≠ u7.ownBlock) ∨ k = W8.heap.size) ∨ (W8.alloc (.cells #[.int .i64 first.f0, .slice G1 first.f1.length d1, .int .i64 first.f2, .int .i64 first.f3, .slice G4 first.f4.length d4, .int .i64 x0, .slice A1 x1.length c1, .int .i64 lo2, .int .i64 hi2, .slice (some ad) 1 c4] 25)).heap.size ≤ k) rfl rfl (k25_mkF _ _ (joinK d) HNJ.out.1 HNJ.out.2.1 HNJ.out.2.2.1 HNJ.out.2.2.2) ?sK ?sF (Kd.N_below HO8.out HB9.out) ?sB ?sS ?sL ?_; (case sK => (intro k hk; rcases hk with (hk | hk) | hk; exact hk; exact ⟨okR_new HJ8.out HX8.out P (by omega), fun he => by have := Kd.N_lt HO8.out k he.symm; omega⟩; exact ⟨okR_new HJ8.out HX8.out P (by have := HSZ.out; omega), fun he => by have := Kd.N_lt HO8.out k he.symm; have := HSZ.out; omega⟩)); (case sF => (intro k hk; exact okR_new (HJ8.out.more HB9.out) (blk_below HX8.out HB9.out) P hk)); (case sB => exact ((HJ8.out.more HB9.out)).below); (case sS => exact ((HJ8.out.more HB9.out)).below.size); (case sL => (have := HAC.out; omega)); intro v w10 hn hb hg hat; have HJ10 := Aside0.mk (Own.grown (P := P) (HJ8.out.more HB9.out) hg hb (fun k hk => (HO8.out.1 k hk).1)); have HX10 := Aside0.mk (blk_grown (blk_below HX8.out HB9.out) hg (fun he => (HO8.out.1 gx he.symm).2 rfl)); have HL10 := Aside0.mk (blk_grown (blk_below HLB.out HB9.out) hg (fun he => by have := HO78.out g8 he.symm; omega)); have HF10 := Aside0.mk (NodeF.after (HF8.out.below HB9.out) hg hat); have HO10 := Aside0.mk hn; clear hn hb hg hat))
      clear m0 m1 m2 m3 m4 s0 s1 s2 s3 s4 HB8 HLB HO8 HJ8 HX8 HF8 HWT HJC HSZ HB9 HNF9 HNJ
      rw [e2] at HO10
      clear e2
      have HSC := Aside0.mk (same_calls k k ⟨x0, x1, lo2, hi2, [y]⟩ ⟨x0, x1, lo, hi, [y]⟩ (.agg #[.int .i64 x0, .slice A1 x1.length c1, .int .i64 lo2, .int .i64 hi2, .slice (some ad) 1 c4]) (.agg #[.int .i64 x0, .slice A1 x1.length c1, .int .i64 lo, .int .i64 hi, .slice (some ad) 1 c4]) b w10 ⟨A1, c1, some ad, c4, rfl, HQ.out.1, Kd.F_now (Kd.F_below HQ.out.2.1 HJ10.out.below), HQ.out.2.2.1, Kd.F_now (Kd.F_below HQ.out.2.2.2 HJ10.out.below)⟩ ⟨A1, c1, some ad, c4, rfl, HQ.out.1, Kd.F_now (Kd.F_below HQ.out.2.1 HJ10.out.below), HQ.out.2.2.1, Kd.F_now (Kd.F_below HQ.out.2.2.2 HJ10.out.below)⟩ HSM.out)
      have z0 := blk_cell HX10.out 0
      have z1 := blk_cell HX10.out 1
      have z2 := blk_cell HX10.out 2
      have z3 := blk_cell HX10.out 3
      have z4 := blk_cell HX10.out 4
      have m0 := blk_cell HL10.out 0
      have m1 := blk_cell HL10.out 1
      have m2 := blk_cell HL10.out 2
      have m3 := blk_cell HL10.out 3
      have m4 := blk_cell HL10.out 4
      cases b with
      | true =>
        have HRR := Aside0.mk (show acc2 = all9 from by have h9 := HHH.out; first | (rw [if_pos rfl] at h9; exact Option.some.inj h9) | (rw [if_pos trivial] at h9; exact Option.some.inj h9))
        clear HHH HSM
        go_wp2_with (first | (go_at_call 47; (with_reducible refine HSC.out.mono ?_); rintro e_ w11 ⟨rfl, hb⟩; have HS11 := Aside0.mk hb; have HJ11 := Aside0.mk (HJ10.out.more HS11.out); have h9 := Kd.N_below HO10.out HS11.out; rw [HRR.out] at h9; obtain ⟨A3, c3, ks, rfl, rfl, hc⟩ := HEND.out _ _ _ rfl HJ11.out h9; have HC := Aside0.mk hc; clear hc h9; clear hb) | (go_at_call 37; (with_reducible refine HC.out.mono ?_); rintro e_ w12 ⟨rv, rfl, hN, hb⟩; have HNF := Aside0.mk (NodeF.mono (P' := fun k => (P k ∨ w.heap.size ≤ k) ∧ k ≠ gr) hN (fun k hk => ⟨by rcases hk with hk | hk; exact hk.1.1; exact .inr (Nat.le_trans HJ11.out.below.size hk), by have := blk_lt (HJ11.out.blk _ _ _ HMR.out); rcases hk with hk | hk; exact hk.1.2 _ _ _ HMR.out; omega⟩)); have HB5 := Aside0.mk (below_step HJ11.out.below hb); have HGG := Aside0.mk (blk_below (HJ11.out.blk _ _ _ HMR.out) hb); obtain ⟨D1, d1, D4, d4, rfl, m1, q1, m4, q4⟩ := hN; have HNF := Aside0.mk (show NodeF _ _ (orK ks) (.agg #[.int .i64 (orK ks).f0, .slice D1 (orK ks).f1.length d1, .int .i64 (orK ks).f2, .int .i64 (orK ks).f3, .slice D4 (orK ks).f4.length d4]) from HNF.out); have t0 := blk_cell HGG.out 0; have t1 := blk_cell HGG.out 1; have t2 := blk_cell HGG.out 2; have t3 := blk_cell HGG.out 3; have t4 := blk_cell HGG.out 4; have f0 := blk_frozen HGG.out 0; have f1 := blk_frozen HGG.out 1; have f2 := blk_frozen HGG.out 2; have f3 := blk_frozen HGG.out 3; have f4 := blk_frozen HGG.out 4; clear m1 q1 m4 q4 hb))
        refine bodyPost_ret (results_cell_row rfl _ _ gr 25 #[.int .i64 (orK ks).f0, .slice D1 (orK ks).f1.length d1, .int .i64 (orK ks).f2, .int .i64 (orK ks).f3, .slice D4 (orK ks).f4.length d4] (0, 0) _ rfl (blk_put (blk_put (blk_put (blk_put (blk_put HGG.out 0 _ rfl) 1 _ rfl) 2 _ rfl) 3 _ rfl) 4 _ rfl) Try.underlying25 rfl (by kernel_rfl)) rfl ?_
        exact ⟨_, rfl, (((((HNF.out.far (fun k hk => hk.2) _).far (fun k hk => hk.2) _).far (fun k hk => hk.2) _).far (fun k hk => hk.2) _).far (fun k hk => hk.2) _).mono (fun k hk => hk.1), below_set (below_set (below_set (below_set (below_set HB5.out HGR.out) HGR.out) HGR.out) HGR.out) HGR.out⟩
      | false =>
        have h9 := HHH.out
        rw [if_neg (by simp)] at h9
        obtain ⟨z, hz, h9⟩ := Option.bind_eq_some_iff.mp h9
        have HNC := Aside0.mk (fun (W' : World) (hb : Below w10.heap.size w10 W') => null_calls st false k y (.agg #[.int .i64 y.f0, .slice E1 y.f1.length e1, .int .i64 y.f2, .int .i64 y.f3, .slice E4 y.f4.length e4]) z W' (NodeF.now (NodeF.below (HYN w10 HJ10.out.below) hb)) hz)
        clear HHH HSM hz
        cases z with
        | true =>
          have HRR := Aside0.mk (show srepL k first (nullS st false k y) k1 ⟨x0, x1, lo2, hi2, [y]⟩ acc2 = some all9 from by first | (rw [if_pos rfl] at h9; exact h9) | (rw [if_pos trivial] at h9; exact h9))
          clear h9
          go_wp2_with (first | (go_at_call 47; (with_reducible refine HSC.out.mono ?_); rintro e_ w11 ⟨rfl, hb⟩; have HS11 := Aside0.mk hb; have q5 := blk_below (HJ10.out.blk _ _ _ HM5.out) HS11.out; have v0 := blk_cell q5 0; have v1 := blk_cell q5 1; have v2 := blk_cell q5 2; have v3 := blk_cell q5 3; have v4 := blk_cell q5 4; have v5 := blk_cell (blk_below (HJ10.out.blk _ _ _ HMS.out) HS11.out) 1; clear q5; clear hb) | ((with_reducible refine gate_callee (f := 12) rfl ?_); (try (refine gate_guard (by rfl) ?_; dsimp only)); refine goesL_ (some 47) rfl rfl Try.func12 (by kernel_rfl) rfl #[.agg #[.int .i64 y.f0, .slice E1 y.f1.length e1, .int .i64 y.f2, .int .i64 y.f3, .slice E4 y.f4.length e4], .bool st, .bool false] rfl (by (try simp only [List.map_toArray, List.map_cons, List.map_nil]); first | done | rfl) ?_; (with_reducible refine (HNC.out _ HS11.out).mono ?_); rintro e_ w13 ⟨rfl, hb⟩; refine ⟨_, rfl, ?_⟩; have HS13 := Aside0.mk (below_step HS11.out hb); have HL13 := Aside0.mk (blk_below HL10.out HS13.out); have HX13 := Aside0.mk (blk_below HX10.out HS13.out); have n0 := blk_cell HL13.out 0; have n1 := blk_cell HL13.out 1; have n2 := blk_cell HL13.out 2; have n3 := blk_cell HL13.out 3; have n4 := blk_cell HL13.out 4; have f0 := blk_frozen HX13.out 0; have x0_ := blk_cell HX13.out 0; have f1 := blk_frozen HX13.out 1; have x1_ := blk_cell HX13.out 1; have f2 := blk_frozen HX13.out 2; have x2_ := blk_cell HX13.out 2; have f3 := blk_frozen HX13.out 3; have x3_ := blk_cell HX13.out 3; have f4 := blk_frozen HX13.out 4; have x4_ := blk_cell HX13.out 4; clear hb))
          go_roundg k1
          case measure => omega
          case rel => exact ⟨lo2, hi2, acc2, HRR, ⟨Kd.N_far (p := ⟨gx, 4, none⟩) (Kd.N_far (p := ⟨gx, 3, none⟩) (Kd.N_far (p := ⟨gx, 2, none⟩) (Kd.N_far (p := ⟨gx, 1, none⟩) (Kd.N_far (p := ⟨gx, 0, none⟩) (Kd.N_below HO10.out HS13.out) (fun k hk => hk.2) _) (fun k hk => hk.2) _) (fun k hk => hk.2) _) (fun k hk => hk.2) _) (fun k hk => hk.2) _⟩, ⟨Own.far (j := 4) (Own.far (j := 3) (Own.far (j := 2) (Own.far (j := 1) (Own.far (j := 0) (HJ10.out.more HS13.out) _ HGX.out HXN.out) _ HGX.out HXN.out) _ HGX.out HXN.out) _ HGX.out HXN.out) _ HGX.out HXN.out⟩, ⟨blk_put (blk_put (blk_put (blk_put (blk_put HX13.out 0 _ rfl) 1 _ rfl) 2 _ rfl) 3 _ rfl) 4 _ rfl⟩, ⟨NodeF.far (j := 4) (NodeF.far (j := 3) (NodeF.far (j := 2) (NodeF.far (j := 1) (NodeF.far (j := 0) (HF10.out.below HS13.out) (fun k hk => hk.1.2) _) (fun k hk => hk.1.2) _) (fun k hk => hk.1.2) _) (fun k hk => hk.1.2) _) (fun k hk => hk.1.2) _⟩⟩
        | false =>
          have HRR := Aside0.mk (show acc2 = all9 from by rw [if_neg (by simp)] at h9; exact Option.some.inj h9)
          clear h9
          go_wp2_with (first | (go_at_call 47; (with_reducible refine HSC.out.mono ?_); rintro e_ w11 ⟨rfl, hb⟩; have HS11 := Aside0.mk hb; have q5 := blk_below (HJ10.out.blk _ _ _ HM5.out) HS11.out; have v0 := blk_cell q5 0; have v1 := blk_cell q5 1; have v2 := blk_cell q5 2; have v3 := blk_cell q5 3; have v4 := blk_cell q5 4; have v5 := blk_cell (blk_below (HJ10.out.blk _ _ _ HMS.out) HS11.out) 1; clear q5; clear hb) | ((with_reducible refine gate_callee (f := 12) rfl ?_); (try (refine gate_guard (by rfl) ?_; dsimp only)); refine goesL_ (some 47) rfl rfl Try.func12 (by kernel_rfl) rfl #[.agg #[.int .i64 y.f0, .slice E1 y.f1.length e1, .int .i64 y.f2, .int .i64 y.f3, .slice E4 y.f4.length e4], .bool st, .bool false] rfl (by (try simp only [List.map_toArray, List.map_cons, List.map_nil]); first | done | rfl) ?_; (with_reducible refine (HNC.out _ HS11.out).mono ?_); rintro e_ w13 ⟨rfl, hb⟩; refine ⟨_, rfl, ?_⟩; have HS13 := Aside0.mk (below_step HS11.out hb); have HJ11 := Aside0.mk (HJ10.out.more HS13.out); have h9 := Kd.N_below HO10.out HS13.out; rw [HRR.out] at h9; obtain ⟨A3, c3, ks, rfl, rfl, hc⟩ := HEND.out _ _ _ rfl HJ11.out h9; have HC := Aside0.mk hc; clear hc h9; clear hb) | (go_at_call 37; (with_reducible refine HC.out.mono ?_); rintro e_ w14 ⟨rv, rfl, hN, hb⟩; have HNF := Aside0.mk (NodeF.mono (P' := fun k => (P k ∨ w.heap.size ≤ k) ∧ k ≠ gr) hN (fun k hk => ⟨by rcases hk with hk | hk; exact hk.1.1; exact .inr (Nat.le_trans HJ11.out.below.size hk), by have := blk_lt (HJ11.out.blk _ _ _ HMR.out); rcases hk with hk | hk; exact hk.1.2 _ _ _ HMR.out; omega⟩)); have HB5 := Aside0.mk (below_step HJ11.out.below hb); have HGG := Aside0.mk (blk_below (HJ11.out.blk _ _ _ HMR.out) hb); obtain ⟨D1, d1, D4, d4, rfl, m1, q1, m4, q4⟩ := hN; have HNF := Aside0.mk (show NodeF _ _ (orK ks) (.agg #[.int .i64 (orK ks).f0, .slice D1 (orK ks).f1.length d1, .int .i64 (orK ks).f2, .int .i64 (orK ks).f3, .slice D4 (orK ks).f4.length d4]) from HNF.out); have t0 := blk_cell HGG.out 0; have t1 := blk_cell HGG.out 1; have t2 := blk_cell HGG.out 2; have t3 := blk_cell HGG.out 3; have t4 := blk_cell HGG.out 4; have f0 := blk_frozen HGG.out 0; have f1 := blk_frozen HGG.out 1; have f2 := blk_frozen HGG.out 2; have f3 := blk_frozen HGG.out 3; have f4 := blk_frozen HGG.out 4; clear m1 q1 m4 q4 hb))
          refine bodyPost_ret (results_cell_row rfl _ _ gr 25 #[.int .i64 (orK ks).f0, .slice D1 (orK ks).f1.length d1, .int .i64 (orK ks).f2, .int .i64 (orK ks).f3, .slice D4 (orK ks).f4.length d4] (0, 0) _ rfl (blk_put (blk_put (blk_put (blk_put (blk_put HGG.out 0 _ rfl) 1 _ rfl) 2 _ rfl) 3 _ rfl) 4 _ rfl) Try.underlying25 rfl (by kernel_rfl)) rfl ?_
          exact ⟨_, rfl, (((((HNF.out.far (fun k hk => hk.2) _).far (fun k hk => hk.2) _).far (fun k hk => hk.2) _).far (fun k hk => hk.2) _).far (fun k hk => hk.2) _).mono (fun k hk => hk.1), below_set (below_set (below_set (below_set (below_set HB5.out HGR.out) HGR.out) HGR.out) HGR.out) HGR.out⟩
end Go.Proofs.Ytaphbechnjmlgaa.P
namespace Go.Proofs.Ytaphbechnjmlgaa.P
open Go.RowKit Go.Proofs.YtaphbechnjmlgaaW.PrintWords Go.Proofs.YtaphbechnjmlgaaW.PrintLast Go.Proofs.YtaphbechnjmlgaaW.PrintMore
attribute [local go_sem] max2_int min2_int max_two min_two
set_option linter.unusedVariables false
set_option linter.unusedSimpArgs false

-- BY HAND: function 48 (deriv_fewer)

-- NOT PRINTED: function 38 (deriv_stepper_repeat)

-- NOT PRINTED: function 25 (deriv_stepper_step)

-- NOT PRINTED: function 36 (deriv_stepper_join)

mutual
def deriv_nodes.l0 : Nat → Int → List (S25) → Int → Int → Option (Int)
  | 0, _, _, _, _ => none
  | k + 1, x3, x7, x8, x9 => if x9 < x8 then (if 0 ≤ x9 then (if x9 < (x7.length : Int) then ((deriv_nodes.f k ((rd_T25 x7 x9).f0) ((rd_T25 x7 x9).f1) ((rd_T25 x7 x9).f2) ((rd_T25 x7 x9).f3) ((rd_T25 x7 x9).f4)).bind fun t156 => (deriv_nodes.l0 k (wrap64 (x3 + t156)) x7 x8 (wrap64 (x9 + 1)))) else (none)) else (none)) else (some x3)
def deriv_nodes.f : Nat → Int → List (S52) → Int → Int → List (S25) → Option (Int)
  | 0, _, _, _, _, _ => none
  | k + 1, a0_0, l0_1, a0_2, a0_3, l0_4 => deriv_nodes.l0 k 1 l0_4 (l0_4.length : Int) 0
end
set_option maxHeartbeats 8000000 in
set_option maxRecDepth 100000 in
theorem deriv_nodes.calls (k : Nat) : ∀ (a0_0 : Int) (A0_1 : Option Addr) (c0_1 : Nat) (l0_1 : List (S52)) (a0_2 : Int) (a0_3 : Int) (A0_4 : Option Addr) (c0_4 : Nat) (l0_4 : List (S25)) (r : Int) (w : World) (hr0_1 : Kd.C k52 w A0_1 l0_1.length l0_1) (hc0_1 : l0_1.length ≤ c0_1) (hr0_4 : Kd.C k25 w A0_4 l0_4.length l0_4) (hc0_4 : l0_4.length ≤ c0_4) (h : deriv_nodes.f k a0_0 l0_1 a0_2 a0_3 l0_4 = some r),
    Calls Try.prog 26 #[.agg #[.int .i64 a0_0, .slice A0_1 l0_1.length c0_1, .int .i64 a0_2, .int .i64 a0_3, .slice A0_4 l0_4.length c0_4]] w fun e w' => e = .returned (.int .i64 r) ∧ Below w.heap.size w w' := by
  induction k using Nat.strongRecOn with
  | _ k ih =>
  intro a0_0 A0_1 c0_1 l0_1 a0_2 a0_3 A0_4 c0_4 l0_4 r w hr0_1 hc0_1 hr0_4 hc0_4 h
  cases k with
  | zero => exact absurd h (by simp [deriv_nodes.f])
  | succ k =>
  simp only [deriv_nodes.f] at h
  have hu25 := Try.underlying25
  have HR0_1 := Aside0.mk hr0_1
  have HC0_1 := Aside0.mk hc0_1
  clear hr0_1 hc0_1
  have HR0_4 := Aside0.mk hr0_4
  have HC0_4 := Aside0.mk hc0_4
  clear hr0_4 hc0_4
  have HB := Aside0.mk (Below.refl w.heap.size w)
  have H : (deriv_nodes.l0 k 1 l0_4 (l0_4.length : Int) 0) = some r := h
  clear h
  have H' := Aside0.mk H
  clear H
  go_enter Try.func26, Try.ntmps26
  go_wp2_with (first | ((with_reducible refine gate_dst (N := 1) rfl ?_); refine box_event ?hg (N := 1) ?hd (cs := #[.int .i64 a0_0, .slice A0_1 l0_1.length c0_1, .int .i64 a0_2, .int .i64 a0_3, .slice A0_4 l0_4.length c0_4]) (t := 25) ?hr ?_; (case hd => rfl); (case hg => rfl); (case hr => first | (go_simp; done) | (go_simp; rfl)); intro gb153 hg w2 hbox hb; have n0_ := Aside0.mk (below_step (by repeat (first | (with_reducible first | exact HB.out | apply below_alloc | apply pw_below_drewN | apply below_drew1) | exact HB.out)) hb); have n1_ := Aside0.mk (hbox); have n2_ := Aside0.mk ((by rw [hg]; exact (below_size (by repeat (first | (with_reducible first | exact HB.out | apply below_alloc | apply pw_below_drewN | apply below_drew1) | exact HB.out))) : w.heap.size ≤ gb153)); have n3_ := Aside0.mk ((by rw [hg]; exact (below_size (by repeat (first | (with_reducible first | exact HB.out | apply below_alloc | apply pw_below_drewN | apply below_drew1) | exact HB.out))) : w.heap.size ≤ gb153)); clear HB; have HB := n0_; have BK153 := n1_; have GW153 := n2_; have GE153 := n3_; clear n0_ n1_ n2_ n3_; clear hb hbox hg; have hcz3_0 : w2.cell? ⟨gb153, 0, none⟩ = some (.int .i64 a0_0) := (blk_cell BK153.out 0).trans rfl; have hcz3_1 : w2.cell? ⟨gb153, 1, none⟩ = some (.slice A0_1 l0_1.length c0_1) := (blk_cell BK153.out 1).trans rfl; have hcz3_2 : w2.cell? ⟨gb153, 2, none⟩ = some (.int .i64 a0_2) := (blk_cell BK153.out 2).trans rfl; have hcz3_3 : w2.cell? ⟨gb153, 3, none⟩ = some (.int .i64 a0_3) := (blk_cell BK153.out 3).trans rfl; have hcz3_4 : w2.cell? ⟨gb153, 4, none⟩ = some (.slice A0_4 l0_4.length c0_4) := (blk_cell BK153.out 4).trans rfl; have hfz3_0 := blk_frozen BK153.out 0; have hfz3_1 := blk_frozen BK153.out 1; have hfz3_2 := blk_frozen BK153.out 2; have hfz3_3 := blk_frozen BK153.out 3; have hfz3_4 := blk_frozen BK153.out 4))
  go_loopg [3, 9] k (fun kq v3 v9 w' => ∃ (x3_1 : Int) (x9_1 : Int), v3 = .int .i64 x3_1 ∧ v9 = .int .i64 x9_1 ∧ Aside0 (deriv_nodes.l0 kq x3_1 l0_4 (l0_4.length : Int) x9_1 = some r) ∧ Aside0 (kq ≤ k) ∧ Aside0 (w'.heap[gb153]? = some (.cells #[.int .i64 a0_0, (.slice A0_1 l0_1.length c0_1), .int .i64 a0_2, .int .i64 a0_3, (.slice A0_4 l0_4.length c0_4)] 25 (0, 0))) ∧ Aside0 (Below w.heap.size w w'))
  case atStart => exact ⟨(1), (0), (by first | rfl | (simp; done) | (simp [*]; done)), (by first | rfl | (simp; done) | (simp [*]; done)), H', ⟨Nat.le_refl _⟩, ⟨by (with_reducible repeat (first | refine blk_drewN ?_ _ | refine blk_drew ?_ | refine blk_alloc ?_ _)); exact BK153.out⟩, ⟨by repeat (first | (with_reducible first | exact HB.out | apply below_alloc | apply pw_below_drewN | apply below_drew1 | refine below_set ?_ GE153.out) | exact HB.out)⟩⟩
  case round =>
    clear H'
    try clear c2
    try clear p2
    try clear hcz3_0
    try clear hcz3_1
    try clear hcz3_2
    try clear hcz3_3
    try clear hcz3_4
    try clear hfz3_0
    try clear hfz3_1
    try clear hfz3_2
    try clear hfz3_3
    try clear hfz3_4
    obtain ⟨x3_1, x9_1, rfl, rfl, HA, HK1, BK153, HB⟩ := hrel
    cases gk with
    | zero => exact absurd HA.out (by simp [deriv_nodes.l0])
    | succ k1 =>
      have H := HA.out
      clear HA
      simp only [deriv_nodes.l0] at H
      by_cases c4 : x9_1 < (l0_4.length : Int)
      rotate_left
      · rw [if_neg c4] at H
        have c4b0 : decide (x9_1 < (l0_4.length : Int)) = false := decide_eq_false c4
        clear c4
        obtain rfl := Option.some.inj H
        go_wp2
        go_ret
        exact ⟨by first | rfl | (simp [errW_none, errW_some] <;> rfl) | (simp [*, errW_none, errW_some] <;> rfl), by repeat (first | (with_reducible first | exact HB.out | apply below_alloc | apply pw_below_drewN | apply below_drew1 | refine below_set ?_ GE153.out) | exact HB.out)⟩
      rw [if_pos c4] at H
      have c4b0 : decide (x9_1 < (l0_4.length : Int)) = true := decide_eq_true c4
      clear c4
      by_cases c5 : 0 ≤ x9_1
      rotate_left
      · rw [if_neg c5] at H
        exact absurd H (by simp)
      rw [if_pos c5] at H
      have c5b0 : decide (0 ≤ x9_1) = true := decide_eq_true c5
      clear c5
      by_cases c6 : x9_1 < (l0_4.length : Int)
      rotate_left
      · rw [if_neg c6] at H
        exact absurd H (by simp)
      rw [if_pos c6] at H
      have c6b0 : decide (x9_1 < (l0_4.length : Int)) = true := decide_eq_true c6
      clear c6
      replace H := Option.bind_eq_some_iff.mp H
      obtain ⟨t156, A70, H⟩ := H
      replace H : (deriv_nodes.l0 k1 (wrap64 (x3_1 + t156)) l0_4 (l0_4.length : Int) (wrap64 (x9_1 + 1))) = some r := H
      have A7 := Aside0.mk A70
      clear A70
      have H' := Aside0.mk H
      clear H
      have p154 : 0 ≤ (x9_1 : Int) := of_decide_eq_true (by first | (with_reducible assumption) | assumption)
      have q154 : x9_1 < (l0_4.length : Int) := of_decide_eq_true (by first | (with_reducible assumption) | assumption)
      obtain ⟨ad154, A154_1, c154_1, A154_4, c154_4, e154, hx154_0, hx154_1, hx154_2, hx154_3, hx154_4, hl154_1, hi154_1, hl154_4, hi154_4⟩ := at_T25 HR0_4.out x9_1 p154 q154
      cases e154
      replace hx154_0 := (HB.out.cell (World.block_lt_of_cell? w _ hx154_0)).trans hx154_0
      replace hx154_1 := (HB.out.cell (World.block_lt_of_cell? w _ hx154_1)).trans hx154_1
      replace hx154_2 := (HB.out.cell (World.block_lt_of_cell? w _ hx154_2)).trans hx154_2
      replace hx154_3 := (HB.out.cell (World.block_lt_of_cell? w _ hx154_3)).trans hx154_3
      replace hx154_4 := (HB.out.cell (World.block_lt_of_cell? w _ hx154_4)).trans hx154_4
      have HR154_1 := Aside0.mk hi154_1
      have HC154_1 := Aside0.mk hl154_1
      clear hi154_1 hl154_1
      have HR154_4 := Aside0.mk hi154_4
      have HC154_4 := Aside0.mk hl154_4
      clear hi154_4 hl154_4
      replace p154 := eq_true p154
      replace q154 := eq_true q154
      go_wp2_with (first | ((with_reducible refine gate_dst (N := 5) rfl ?_); refine box_event ?hg (N := 5) ?hd (cs := #[.int .i64 0, .slice none 0 0, .int .i64 0, .int .i64 0, .slice none 0 0]) (t := 25) ?hr ?_; (case hd => rfl); (case hg => rfl); (case hr => first | (go_simp; done) | (go_simp; rfl)); intro gb155 hg w8 hbox hb; have n0_ := Aside0.mk (blk_below (g := gb153) (o := .cells #[.int .i64 a0_0, .slice A0_1 l0_1.length c0_1, .int .i64 a0_2, .int .i64 a0_3, .slice (some ad154) l0_4.length c0_4] 25 (0, 0)) (by (with_reducible repeat (first | refine blk_drewN ?_ _ | refine blk_drew ?_ | refine blk_alloc ?_ _)); exact BK153.out) hb); have n1_ := Aside0.mk (below_step (by repeat (first | (with_reducible first | exact HB.out | apply below_alloc | apply pw_below_drewN | apply below_drew1 | refine below_set ?_ GE153.out) | exact HB.out)) hb); have n2_ := Aside0.mk (hbox); have n3_ := Aside0.mk ((by rw [hg]; exact (below_size (by repeat (first | (with_reducible first | exact HB.out | apply below_alloc | apply pw_below_drewN | apply below_drew1 | refine below_set ?_ GE153.out) | exact HB.out))) : w.heap.size ≤ gb155)); have n4_ := Aside0.mk ((by rw [hg]; exact (below_size (by repeat (first | (with_reducible first | exact HB.out | apply below_alloc | apply pw_below_drewN | apply below_drew1 | refine below_set ?_ GE153.out) | exact HB.out))) : w.heap.size ≤ gb155)); have n5_ := Aside0.mk ((by rw [hg]; exact Nat.ne_of_lt (blk_lt (g := gb153) (o := .cells #[.int .i64 a0_0, .slice A0_1 l0_1.length c0_1, .int .i64 a0_2, .int .i64 a0_3, .slice (some ad154) l0_4.length c0_4] 25 (0, 0)) (by (with_reducible repeat (first | refine blk_drewN ?_ _ | refine blk_drew ?_ | refine blk_alloc ?_ _)); exact BK153.out)) : gb153 ≠ gb155)); have n6_ := Aside0.mk ((by rw [hg]; exact Nat.ne_of_gt (blk_lt (g := gb153) (o := .cells #[.int .i64 a0_0, .slice A0_1 l0_1.length c0_1, .int .i64 a0_2, .int .i64 a0_3, .slice (some ad154) l0_4.length c0_4] 25 (0, 0)) (by (with_reducible repeat (first | refine blk_drewN ?_ _ | refine blk_drew ?_ | refine blk_alloc ?_ _)); exact BK153.out)) : gb155 ≠ gb153)); clear BK153; clear HB; have BK153 := n0_; have HB := n1_; have BK155 := n2_; have GW155 := n3_; have GE155 := n4_; have NB153_155 := n5_; have NB155_153 := n6_; clear n0_ n1_ n2_ n3_ n4_ n5_ n6_; clear hb hbox hg; have hnb9 := NB155_153.out; have hnc9 := NB153_155.out; have hcz10_0 : w8.cell? ⟨gb155, 0, none⟩ = some (.int .i64 0) := (blk_cell BK155.out 0).trans rfl; have hcz10_1 : w8.cell? ⟨gb155, 1, none⟩ = some (.slice none 0 0) := (blk_cell BK155.out 1).trans rfl; have hcz10_2 : w8.cell? ⟨gb155, 2, none⟩ = some (.int .i64 0) := (blk_cell BK155.out 2).trans rfl; have hcz10_3 : w8.cell? ⟨gb155, 3, none⟩ = some (.int .i64 0) := (blk_cell BK155.out 3).trans rfl; have hcz10_4 : w8.cell? ⟨gb155, 4, none⟩ = some (.slice none 0 0) := (blk_cell BK155.out 4).trans rfl; have hfz10_0 := blk_frozen BK155.out 0; have hfz10_1 := blk_frozen BK155.out 1; have hfz10_2 := blk_frozen BK155.out 2; have hfz10_3 := blk_frozen BK155.out 3; have hfz10_4 := blk_frozen BK155.out 4) | ((with_reducible refine gate_callee (f := 26) rfl ?_); refine goesL_ (some 15) rfl rfl Try.func26 (by kernel_rfl) rfl #[.agg #[.int .i64 ((rd_T25 l0_4 x9_1).f0), .slice A154_1 ((rd_T25 l0_4 x9_1).f1).length c154_1, .int .i64 ((rd_T25 l0_4 x9_1).f2), .int .i64 ((rd_T25 l0_4 x9_1).f3), .slice A154_4 ((rd_T25 l0_4 x9_1).f4).length c154_4]] rfl (by (try simp only [List.map_toArray, List.map_cons, List.map_nil]); first | done | rfl | (simp only [List.length_drop, List.length_take]; rfl)) ?_; (with_reducible refine (ih k1 (by have := HK1.out; omega) ((rd_T25 l0_4 x9_1).f0) _ _ ((rd_T25 l0_4 x9_1).f1) ((rd_T25 l0_4 x9_1).f2) ((rd_T25 l0_4 x9_1).f3) _ _ ((rd_T25 l0_4 x9_1).f4) t156 _ ?side1 ?side2 ?side3 ?side4 A7.out).mono ?_); (case side1 => exact Kd.C_below HR154_1.out (by repeat (first | (with_reducible first | exact HB.out | apply below_alloc | apply pw_below_drewN | apply below_drew1 | refine below_set ?_ GE153.out | refine below_set ?_ GE155.out) | exact HB.out))); (case side2 => exact HC154_1.out); (case side3 => exact Kd.C_below HR154_4.out (by repeat (first | (with_reducible first | exact HB.out | apply below_alloc | apply pw_below_drewN | apply below_drew1 | refine below_set ?_ GE153.out | refine below_set ?_ GE155.out) | exact HB.out))); (case side4 => exact HC154_4.out); rintro e w11 ⟨rfl, hb⟩; refine ⟨_, rfl, ?_⟩; have n0_ := Aside0.mk (blk_below (g := gb153) (o := .cells #[.int .i64 a0_0, .slice A0_1 l0_1.length c0_1, .int .i64 a0_2, .int .i64 a0_3, .slice (some ad154) l0_4.length c0_4] 25 (0, 0)) (by (with_reducible repeat (first | refine blk_drewN ?_ _ | refine blk_drew ?_ | refine blk_alloc ?_ _)); refine blk_far ?_ NB153_155.out _; (with_reducible repeat (first | refine blk_drewN ?_ _ | refine blk_drew ?_ | refine blk_alloc ?_ _)); refine blk_far ?_ NB153_155.out _; (with_reducible repeat (first | refine blk_drewN ?_ _ | refine blk_drew ?_ | refine blk_alloc ?_ _)); refine blk_far ?_ NB153_155.out _; (with_reducible repeat (first | refine blk_drewN ?_ _ | refine blk_drew ?_ | refine blk_alloc ?_ _)); refine blk_far ?_ NB153_155.out _; (with_reducible repeat (first | refine blk_drewN ?_ _ | refine blk_drew ?_ | refine blk_alloc ?_ _)); refine blk_far ?_ NB153_155.out _; (with_reducible repeat (first | refine blk_drewN ?_ _ | refine blk_drew ?_ | refine blk_alloc ?_ _)); exact BK153.out) hb); have n1_ := Aside0.mk (blk_below (g := gb155) (o := .cells #[.int .i64 ((rd_T25 l0_4 x9_1).f0), .slice A154_1 ((rd_T25 l0_4 x9_1).f1).length c154_1, .int .i64 ((rd_T25 l0_4 x9_1).f2), .int .i64 ((rd_T25 l0_4 x9_1).f3), .slice A154_4 ((rd_T25 l0_4 x9_1).f4).length c154_4] 25 (0, 0)) (by (with_reducible repeat (first | refine blk_drewN ?_ _ | refine blk_drew ?_ | refine blk_alloc ?_ _)); refine blk_put (cs := #[.int .i64 ((rd_T25 l0_4 x9_1).f0), .slice A154_1 ((rd_T25 l0_4 x9_1).f1).length c154_1, .int .i64 ((rd_T25 l0_4 x9_1).f2), .int .i64 ((rd_T25 l0_4 x9_1).f3), .slice none 0 0]) ?_ 4 _ rfl; (with_reducible repeat (first | refine blk_drewN ?_ _ | refine blk_drew ?_ | refine blk_alloc ?_ _)); refine blk_put (cs := #[.int .i64 ((rd_T25 l0_4 x9_1).f0), .slice A154_1 ((rd_T25 l0_4 x9_1).f1).length c154_1, .int .i64 ((rd_T25 l0_4 x9_1).f2), .int .i64 0, .slice none 0 0]) ?_ 3 _ rfl; (with_reducible repeat (first | refine blk_drewN ?_ _ | refine blk_drew ?_ | refine blk_alloc ?_ _)); refine blk_put (cs := #[.int .i64 ((rd_T25 l0_4 x9_1).f0), .slice A154_1 ((rd_T25 l0_4 x9_1).f1).length c154_1, .int .i64 0, .int .i64 0, .slice none 0 0]) ?_ 2 _ rfl; (with_reducible repeat (first | refine blk_drewN ?_ _ | refine blk_drew ?_ | refine blk_alloc ?_ _)); refine blk_put (cs := #[.int .i64 ((rd_T25 l0_4 x9_1).f0), .slice none 0 0, .int .i64 0, .int .i64 0, .slice none 0 0]) ?_ 1 _ rfl; (with_reducible repeat (first | refine blk_drewN ?_ _ | refine blk_drew ?_ | refine blk_alloc ?_ _)); refine blk_put (cs := #[.int .i64 0, .slice none 0 0, .int .i64 0, .int .i64 0, .slice none 0 0]) ?_ 0 _ rfl; (with_reducible repeat (first | refine blk_drewN ?_ _ | refine blk_drew ?_ | refine blk_alloc ?_ _)); exact BK155.out) hb); have n2_ := Aside0.mk (below_step (by repeat (first | (with_reducible first | exact HB.out | apply below_alloc | apply pw_below_drewN | apply below_drew1 | refine below_set ?_ GE153.out | refine below_set ?_ GE155.out) | exact HB.out)) hb); clear BK153; clear BK155; clear HB; have BK153 := n0_; have BK155 := n1_; have HB := n2_; clear n0_ n1_ n2_; (try clear hb); (try clear hb2); (try clear hk); (try clear hi)))
      go_roundg k1
      case measure => have := HK1.out; omega
      case rel => exact ⟨(wrap64 (x3_1 + t156)), (wrap64 (x9_1 + 1)), (by first | rfl | (simp; done) | (simp [*]; done)), (by first | rfl | (simp; done) | (simp [*]; done)), H', ⟨by have := HK1.out; omega⟩, ⟨by (with_reducible repeat (first | refine blk_drewN ?_ _ | refine blk_drew ?_ | refine blk_alloc ?_ _)); exact BK153.out⟩, ⟨by repeat (first | (with_reducible first | exact HB.out | apply below_alloc | apply pw_below_drewN | apply below_drew1 | refine below_set ?_ GE153.out | refine below_set ?_ GE155.out) | exact HB.out)⟩⟩

end Go.Proofs.Ytaphbechnjmlgaa.P
namespace Go.Proofs.Ytaphbechnjmlgaa.P
open Go.RowKit Go.Proofs.YtaphbechnjmlgaaW.PrintWords Go.Proofs.YtaphbechnjmlgaaW.PrintLast Go.Proofs.YtaphbechnjmlgaaW.PrintMore
set_option linter.unusedVariables false
set_option linter.unusedSimpArgs false

theorem rep_of_step (k : Nat) (c : Int) (st : Bool) (n : Nat) (ih : StepN k c st n) : RepN k c st n := by
  intro P x v r w hN h1 h
  obtain ⟨A1, c1, A4, c4, rfl, l1, g1, l4, g4⟩ := hN
  obtain ⟨x0, x1, x2, x3, x4⟩ := x
  dsimp only at h1 g1 l1 g4 l4 h ⊢
  obtain ⟨y, rfl⟩ := List.length_eq_one_iff.mp h1
  obtain ⟨first, hf, h⟩ := Option.bind_eq_some_iff.mp h
  exact rep_step k c st n ih P x0 A1 c1 x1 x2 x3 A4 c4 y w r first l1 g1 l4 g4 hf h
theorem step_calls (k : Nat) (c : Int) (st : Bool) : ∀ n, StepN k c st n
  | 0 => fun P x v r w _ h => by simp [stepS] at h
  | n + 1 => fun P x v r w hN h => by
    obtain ⟨A1, c1, A4, c4, rfl, l1, g1, l4, g4⟩ := hN
    obtain ⟨x0, x1, x2, x3, x4⟩ := x
    exact step_step k c st n (step_calls k c st n) (join_of_step k c st n (step_calls k c st n)) (rep_of_step k c st n (step_calls k c st n)) P x0 A1 c1 x1 x2 x3 A4 c4 x4 w r l1 g1 l4 g4 h
/-- A tree behind a character: none where it is too great. -/
def stepT (k : Nat) (x : DNode) (c : Int) (st : Bool) : Option DNode := (stepS k c st k x).bind fun r => (deriv_nodes.f k r.f0 r.f1 r.f2 r.f3 r.f4).bind fun m => if m ≤ 2000 then some r else some ⟨0, [], 0, 0, []⟩
set_option maxHeartbeats 8000000 in
set_option maxRecDepth 100000 in
theorem stepT_calls (k : Nat) (c : Int) (st : Bool) (P : Nat → Prop) (x0 : Int) (A1 : Option Addr) (c1 : Nat) (x1 : List S52) (x2 x3 : Int) (A4 : Option Addr) (c4 : Nat) (x4 : List DNode) (w : World) (r9 : DNode)
    (l1 : x1.length ≤ c1) (q1 : Kd.F k52 w P A1 x1.length x1) (l4 : x4.length ≤ c4) (q4 : Kd.F k25 w P A4 x4.length x4) (h : stepT k ⟨x0, x1, x2, x3, x4⟩ c st = some r9) :
    Calls Try.prog 13 #[.agg #[.int .i64 x0, .slice A1 x1.length c1, .int .i64 x2, .int .i64 x3, .slice A4 x4.length c4], .int .i64 c, .bool st] w fun e w' => ∃ rv, e = .returned rv ∧ NodeF w' (fun k => P k ∨ w.heap.size ≤ k) r9 rv ∧ Below w.heap.size w w' := by
  have hu := Try.underlying25
  have hus := Try.underlying45
  obtain ⟨r, hr, h⟩ := Option.bind_eq_some_iff.mp h
  obtain ⟨m, hm, h⟩ := Option.bind_eq_some_iff.mp h
  have HF := Aside0.mk (show NodeF w (fun k => P k ∧ k < w.heap.size) ⟨x0, x1, x2, x3, x4⟩ (.agg #[.int .i64 x0, .slice A1 x1.length c1, .int .i64 x2, .int .i64 x3, .slice A4 x4.length c4]) from NodeF.bound ⟨A1, c1, A4, c4, rfl, l1, q1, l4, q4⟩)
  have HR0 := Aside0.mk hr
  have HM := Aside0.mk hm
  have HH := Aside0.mk h
  have HB := Aside0.mk (Below.refl w.heap.size w)
  clear h hr hm l1 q1 l4 q4
  go_enter Try.func13, Try.ntmps13
  go_upto_region 1 with (first
    | ((with_reducible refine gate_dst (N := 3) rfl ?_); (try (refine gate_guard (by rfl) ?_; dsimp only)); refine box_event ?hg (N := 3) ?hd (cs := #[.int .i64 x0, .slice A1 x1.length c1, .int .i64 x2, .int .i64 x3, .slice A4 x4.length c4]) (t := 25) ?hr ?_; (case hd => rfl); (case hg => rfl); (case hr => first | (go_simp; done) | (go_simp; rfl)); intro gx hg w1 hbox hb; have HGX := Aside0.mk (by rw [hg]; exact Nat.le_refl _ : w.heap.size ≤ gx); have HB1 := Aside0.mk (below_step HB.out hb); have HX1 := Aside0.mk hbox; clear hb hbox hg)
    | ((with_reducible refine gate_dst (N := 6) rfl ?_); (try (refine gate_guard (by rfl) ?_; dsimp only)); refine box_event ?hg (N := 6) ?hd (cs := #[.int .i64 0, .slice none 0 0, .int .i64 0, .int .i64 0, .slice none 0 0]) (t := 25) ?hr ?_; (case hd => rfl); (case hg => rfl); (case hr => first | (go_simp; done) | (go_simp; rfl)); intro gr hg w3 hbox hb; have HGR := Aside0.mk (by rw [hg]; exact HB1.out.size : w.heap.size ≤ gr); have HB3 := Aside0.mk (below_step HB1.out hb); have HX := Aside0.mk (blk_below HX1.out hb); have HR := Aside0.mk hbox; clear hb hbox hg))
  (try simp only [Act.put, List.setIfInBounds_toArray, List.set_cons_zero, List.set_cons_succ])
  have z0 := blk_cell HX.out 0
  have z1 := blk_cell HX.out 1
  have z2 := blk_cell HX.out 2
  have z3 := blk_cell HX.out 3
  have z4 := blk_cell HX.out 4
  have HC := Aside0.mk (step_calls k c st k (fun k => P k ∧ k < w.heap.size) ⟨x0, x1, x2, x3, x4⟩ (.agg #[.int .i64 x0, .slice A1 x1.length c1, .int .i64 x2, .int .i64 x3, .slice A4 x4.length c4]) r w3 (HF.out.below HB3.out) HR0.out)
  clear HB HB1 HX1
  go_upto_region 2 with (go_at_call 25; (with_reducible refine HC.out.mono ?_); rintro e_ w5 ⟨rv, rfl, hN, hb⟩; have HN5 := Aside0.mk hN; have HB5 := Aside0.mk (below_step HB3.out hb); have HG5 := Aside0.mk (blk_below HR.out hb); have HZ5 := Aside0.mk hb.size; obtain ⟨D1, d1, D4, d4, rfl, m1, r1, m4, r4⟩ := hN; clear m1 r1 m4 r4 hb)
  clear z0 z1 z2 z3 z4 HC
  have HWA := Aside0.mk (below_alloc (Below.refl w5.heap.size w5) (.cells #[.int .i64 r.f0, .slice D1 r.f1.length d1, .int .i64 r.f2, .int .i64 r.f3, .slice D4 r.f4.length d4] 25))
  have HG7 := Aside0.mk (heap_alloc_new w5 (.cells #[.int .i64 r.f0, .slice D1 r.f1.length d1, .int .i64 r.f2, .int .i64 r.f3, .slice D4 r.f4.length d4] 25))
  have HN7 := Aside0.mk (HN5.out.below HWA.out)
  have HB7 := Aside0.mk (below_step HB5.out HWA.out)
  have HR7 := Aside0.mk (blk_below HG5.out HWA.out)
  have HGL := Aside0.mk (blk_lt HR.out)
  clear HWA HN5 HB5 HG5
  generalize w5.alloc (.cells #[.int .i64 r.f0, .slice D1 r.f1.length d1, .int .i64 r.f2, .int .i64 r.f3, .slice D4 r.f4.length d4] 25) = W7 at HG7 HN7 HB7 HR7 ⊢
  generalize w5.heap.size = g7 at HG7 HZ5 ⊢
  have z0 := blk_cell HG7.out 0
  have z1 := blk_cell HG7.out 1
  have z2 := blk_cell HG7.out 2
  have z3 := blk_cell HG7.out 3
  have z4 := blk_cell HG7.out 4
  have HC := Aside0.mk (show Calls Try.prog 26 #[.agg #[.int .i64 r.f0, .slice D1 r.f1.length d1, .int .i64 r.f2, .int .i64 r.f3, .slice D4 r.f4.length d4]] W7 fun e w' => e = .returned (.int .i64 m) ∧ Below W7.heap.size W7 w' from by
    obtain ⟨B1, b1, B4, b4, e, q1, q2, q3, q4⟩ := HN7.out.now
    cases e
    exact deriv_nodes.calls k r.f0 _ _ r.f1 r.f2 r.f3 _ _ r.f4 m W7 q2 q1 q4 q3 HM.out)
  by_cases hm : m ≤ 2000
  · have h9 := HH.out
    rw [if_pos hm] at h9
    obtain rfl := Option.some.inj h9
    have p1 : decide (m ≤ 2000) = true := decide_eq_true hm
    clear h9 HH hm
    go_wp2_with (go_at_call 26; (with_reducible refine HC.out.mono ?_); rintro e_ w8 ⟨rfl, hb⟩; have HB8 := Aside0.mk (below_step HB7.out hb); have HGG := Aside0.mk (blk_below HR7.out hb); have HNF := Aside0.mk (NodeF.mono (P' := fun k => (P k ∨ w.heap.size ≤ k) ∧ k ≠ gr) (HN7.out.below hb) (fun k hk => ⟨by rcases hk with hk | hk; exact .inl hk.1; exact .inr (Nat.le_trans HB3.out.size hk), by have := HGR.out; have := HGL.out; rcases hk with hk | hk <;> (intro he; subst he; (try have := hk.2); omega)⟩)); have q0 := blk_cell (blk_below HG7.out hb) 0; have q1 := blk_cell (blk_below HG7.out hb) 1; have q2 := blk_cell (blk_below HG7.out hb) 2; have q3 := blk_cell (blk_below HG7.out hb) 3; have q4 := blk_cell (blk_below HG7.out hb) 4; have t0 := blk_cell HGG.out 0; have t1 := blk_cell HGG.out 1; have t2 := blk_cell HGG.out 2; have t3 := blk_cell HGG.out 3; have t4 := blk_cell HGG.out 4; have f0 := blk_frozen HGG.out 0; have f1 := blk_frozen HGG.out 1; have f2 := blk_frozen HGG.out 2; have f3 := blk_frozen HGG.out 3; have f4 := blk_frozen HGG.out 4; clear hb)
    refine bodyPost_ret (results_cell_row rfl _ _ gr 25 #[.int .i64 r.f0, .slice D1 r.f1.length d1, .int .i64 r.f2, .int .i64 r.f3, .slice D4 r.f4.length d4] (0, 0) _ rfl (blk_put (blk_put (blk_put (blk_put (blk_put HGG.out 0 _ rfl) 1 _ rfl) 2 _ rfl) 3 _ rfl) 4 _ rfl) Try.underlying25 rfl (by kernel_rfl)) rfl ?_
    exact ⟨_, rfl, (((((HNF.out.far (fun k hk => hk.2) _).far (fun k hk => hk.2) _).far (fun k hk => hk.2) _).far (fun k hk => hk.2) _).far (fun k hk => hk.2) _).mono (fun k hk => hk.1), below_set (below_set (below_set (below_set (below_set HB8.out HGR.out) HGR.out) HGR.out) HGR.out) HGR.out⟩
  · have h9 := HH.out
    rw [if_neg hm] at h9
    obtain rfl := Option.some.inj h9
    have p1 : decide (m ≤ 2000) = false := decide_eq_false hm
    clear h9 HH hm
    go_wp2_with (first
      | (go_at_call 26; (with_reducible refine HC.out.mono ?_); rintro e_ w8 ⟨rfl, hb⟩; have HB8 := Aside0.mk (below_step HB7.out hb); have HR8 := Aside0.mk (blk_below HR7.out hb); clear hb)
      | (go_at_call 27; (with_reducible refine (deriv_none.calls 0 [] 0 0 [] _ rfl).mono ?_); rintro e_ w9 ⟨v1, v4, rfl, hv1, hv4, hb⟩; obtain ⟨E1, e1, rfl⟩ := Kd.R_slice hv1; obtain ⟨E4, e4, rfl⟩ := Kd.R_slice hv4; have HB9 := Aside0.mk (below_step HB8.out hb); have HGG := Aside0.mk (blk_below HR8.out hb); have t0 := blk_cell HGG.out 0; have t1 := blk_cell HGG.out 1; have t2 := blk_cell HGG.out 2; have t3 := blk_cell HGG.out 3; have t4 := blk_cell HGG.out 4; have f0 := blk_frozen HGG.out 0; have f1 := blk_frozen HGG.out 1; have f2 := blk_frozen HGG.out 2; have f3 := blk_frozen HGG.out 3; have f4 := blk_frozen HGG.out 4; clear hv1 hv4 hb))
    refine bodyPost_ret (results_cell_row rfl _ _ gr 25 #[.int .i64 0, .slice E1 0 e1, .int .i64 0, .int .i64 0, .slice E4 0 e4] (0, 0) _ rfl (blk_put (blk_put (blk_put (blk_put (blk_put HGG.out 0 _ rfl) 1 _ rfl) 2 _ rfl) 3 _ rfl) 4 _ rfl) Try.underlying25 rfl (by kernel_rfl)) rfl ?_
    exact ⟨_, rfl, ⟨E1, e1, E4, e4, rfl, Nat.zero_le _, F_zero _, Nat.zero_le _, F_zero _⟩, below_set (below_set (below_set (below_set (below_set HB9.out HGR.out) HGR.out) HGR.out) HGR.out) HGR.out⟩
end Go.Proofs.Ytaphbechnjmlgaa.P
