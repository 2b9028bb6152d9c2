/- Texts of this claim put together by a program of its own (SDStepW, SDStepJ, SDStepR), what the law does not use left out: each part's statements bear their own conditions. -/
import Derived.Test.YtaphbechnjmlgaaC12
namespace Go.Proofs.Ytaphbechnjmlgaa.P
open Go.RowKit Go.Proofs.YtaphbechnjmlgaaW.PrintWords Go.Proofs.YtaphbechnjmlgaaW.PrintLast Go.Proofs.YtaphbechnjmlgaaW.PrintMore
set_option linter.unusedVariables false
set_option linter.unusedSimpArgs false

/-- A repeat, once less often. -/
def fewerN (x : DNode) : DNode := ⟨x.f0, x.f1, mx 0 (wrap64 (x.f2 - 1)), if x.f3 > 0 then wrap64 (x.f3 - 1) else x.f3, x.f4⟩
/-- The steps of a join's kids, as far as each ahead matches nothing. -/
def sjoinL (f : DNode → Option DNode) (nl : DNode → Option Bool) : List DNode → List DNode → Option (List DNode)
  | [], all => some all
  | k :: ks, all => if all.length < 1099511627776 ∧ ks.length < 1099511627776 then (f k).bind fun s => (dkids (s :: ks) []).bind fun d => (nl k).bind fun b => if b = true then sjoinL f nl ks (all ++ [joinK d]) else some (all ++ [joinK d]) else none
/-- The steps of a repeat: first is its kid's. -/
def srepL (k : Nat) (first : DNode) (nl : Option Bool) : Nat → DNode → List DNode → Option (List DNode)
  | 0, _, _ => none
  | m + 1, x, all => if x.f3 = 0 then some all else if all.length < 1099511627776 then
      (if (fewerN x).f3 = 0 then some (all ++ [first]) else (dkids [first, fewerN x] []).map fun d => all ++ [joinK d]).bind fun a =>
        (sameS k k (fewerN x) x).bind fun b => if b = true then some a else nl.bind fun z => if z = true then srepL k first nl m (fewerN x) a else some a else none
def mapO (f : DNode → Option DNode) : List DNode → List DNode → Option (List DNode)
  | [], all => some all
  | x :: l, all => if all.length < 1099511627776 then (f x).bind fun y => mapO f l (all ++ [y]) else none
def orN' (k : Nat) (l : List DNode) : Option DNode := (okids k k l []).map orK
/-- A node behind a character, of a depth up to n. -/
def stepS (k : Nat) (c : Int) (st : Bool) : Nat → DNode → Option DNode
  | 0, _ => none
  | n + 1, x => if x.f0 = 2 then some (if hasM x.f1 c = true then ⟨1, [], 0, 0, []⟩ else ⟨0, [], 0, 0, []⟩)
      else if x.f0 = 3 then (sjoinL (stepS k c st n) (nullS st false k) x.f4 []).bind (orN' k)
      else if x.f0 = 4 then (mapO (stepS k c st n) x.f4 []).bind (orN' k)
      else if x.f0 = 5 then (if x.f4.length = 1 then (stepS k c st n (x.f4.getD 0 z25)).bind fun first => (srepL k first (nullS st false k (x.f4.getD 0 z25)) k x []).bind (orN' k) else some ⟨0, [], 0, 0, []⟩)
      else some ⟨0, [], 0, 0, []⟩
/-- stepper.step answers stepS, up to a depth. -/
abbrev StepN (k : Nat) (c : Int) (st : Bool) (n : Nat) : Prop := ∀ (P : Nat → Prop) (x : DNode) (v : Value) (r : DNode) (w : World), NodeF w P x v → stepS k c st n x = some r →
  Calls Try.prog 25 #[.agg #[.int .i64 c, .bool st], v] w fun e w' => ∃ rv, e = .returned rv ∧ NodeF w' (fun k => P k ∨ w.heap.size ≤ k) r rv ∧ Below w.heap.size w w'
/-- .. stepper.join of sjoinL, stepper.repeat of srepL. -/
abbrev JoinN (k : Nat) (c : Int) (st : Bool) (n : Nat) : Prop := ∀ (P : Nat → Prop) (A : Option Addr) (cc : Nat) (l : List DNode) (r : DNode) (w : World), l.length ≤ cc → Kd.F k25 w P A l.length l → (sjoinL (stepS k c st n) (nullS st false k) l []).bind (orN' k) = some r →
  Calls Try.prog 36 #[.agg #[.int .i64 c, .bool st], .slice A l.length cc] w fun e w' => ∃ rv, e = .returned rv ∧ NodeF w' (fun k => P k ∨ w.heap.size ≤ k) r rv ∧ Below w.heap.size w w'
abbrev RepN (k : Nat) (c : Int) (st : Bool) (n : Nat) : Prop := ∀ (P : Nat → Prop) (x : DNode) (v : Value) (r : DNode) (w : World), NodeF w P x v → x.f4.length = 1 → ((stepS k c st n (x.f4.getD 0 z25)).bind fun first => (srepL k first (nullS st false k (x.f4.getD 0 z25)) k x []).bind (orN' k)) = some r →
  Calls Try.prog 38 #[.agg #[.int .i64 c, .bool st], v] w fun e w' => ∃ rv, e = .returned rv ∧ NodeF w' (fun k => P k ∨ w.heap.size ≤ k) r rv ∧ Below w.heap.size w w'
/-- How it stands: the stepper, the node and the result in blocks of their own. -/
structure SI (w W : World) (gs gx gr : Nat) (cs cx : Array Value) : Prop where
  below : Below w.heap.size w W
  bs : W.heap[gs]? = some (.cells cs 45 (0, 0))
  bx : W.heap[gx]? = some (.cells cx 25 (0, 0))
  ls : w.heap.size ≤ gs
  lx : w.heap.size ≤ gx
  lr : w.heap.size ≤ gr
  br : W.heap[gr]? = some (.cells #[.int .i64 0, .slice none 0 0, .int .i64 0, .int .i64 0, .slice none 0 0] 25 (0, 0))
theorem SI.more {w W W2 : World} {gs gx gr : Nat} {cs cx : Array Value} (h : SI w W gs gx gr cs cx) (hb : Below W.heap.size W W2) : SI w W2 gs gx gr cs cx :=
  ⟨below_step h.below hb, blk_below h.bs hb, blk_below h.bx hb, h.ls, h.lx, h.lr, blk_below h.br hb⟩
/-- What the call's own row of results may lie in, and lead to. -/
abbrev okS (w : World) (P : Nat → Prop) (gs gx gr : Nat) (k : Nat) : Prop := (P k ∨ w.heap.size ≤ k) ∧ k ≠ gr ∧ k ≠ gs ∧ k ≠ gx
theorem SI.new {w W : World} {gs gx gr : Nat} {cs cx : Array Value} (h : SI w W gs gx gr cs cx) (P : Nat → Prop) {k : Nat} (hk : W.heap.size ≤ k) : okS w P gs gx gr k := by
  have := h.below.size
  have := blk_lt h.bs
  have := blk_lt h.bx
  have := blk_lt h.br
  exact ⟨.inr (by omega), by omega, by omega, by omega⟩
theorem SI.old {w W : World} {gs gx gr : Nat} {cs cx : Array Value} (h : SI w W gs gx gr cs cx) {P : Nat → Prop} {k : Nat} (hp : P k) (hk : k < w.heap.size) : okS w P gs gx gr k := by
  have := h.ls
  have := h.lx
  have := h.lr
  exact ⟨.inl hp, by omega, by omega, by omega⟩
theorem SI.grown {w W W2 : World} {P : Nat → Prop} {gs gx gr : Nat} {cs cx : Array Value} (h : SI w W gs gx gr cs cx) {row : Option Nat} (hg : W.grownBy W2 row) (hb : Below w.heap.size w W2) (hr : ∀ k, row = some k → okS w P gs gx gr k) : SI w W2 gs gx gr cs cx :=
  ⟨hb, blk_grown h.bs hg (fun he => (hr gs he.symm).2.2.1 rfl), blk_grown h.bx hg (fun he => (hr gx he.symm).2.2.2 rfl), h.ls, h.lx, h.lr, blk_grown h.br hg (fun he => (hr gr he.symm).2.1 rfl)⟩
set_option maxHeartbeats 8000000 in
set_option maxRecDepth 100000 in
theorem step_step (k : Nat) (c : Int) (st : Bool) (n : Nat) (ih : StepN k c st n) (hJ : JoinN k c st n) (hR : RepN k c st n) (P : Nat → Prop) (x0 : Int) (A1 : Option Addr) (c1 : Nat) (x1 : List S52) (x2 x3 : Int) (A4 : Option Addr) (c4 : Nat) (x4 : List DNode) (w : World) (r : DNode)
    (l1 : x1.length ≤ c1) (q1 : Kd.F k52 w P A1 x1.length x1) (l4 : x4.length ≤ c4) (q4 : Kd.F k25 w P A4 x4.length x4) (h : stepS k c st (n + 1) ⟨x0, x1, x2, x3, x4⟩ = some r) :
    Calls Try.prog 25 #[.agg #[.int .i64 c, .bool st], .agg #[.int .i64 x0, .slice A1 x1.length c1, .int .i64 x2, .int .i64 x3, .slice A4 x4.length c4]] w fun e w' => ∃ rv, e = .returned rv ∧ NodeF w' (fun k => P k ∨ w.heap.size ≤ k) r rv ∧ Below w.heap.size w w' := by
  have hu := Try.underlying25
  have hus := Try.underlying45
  rw [stepS] at h
  dsimp only at h
  have HH := Aside0.mk h
  have HQ := Aside0.mk (And.intro l1 (And.intro q1 (And.intro l4 q4)))
  have HIH := Aside0.mk ih
  have HJN := Aside0.mk hJ
  have HRN := Aside0.mk hR
  have HB := Aside0.mk (Below.refl w.heap.size w)
  clear h l1 q1 l4 q4 ih hJ hR
  go_enter Try.func25, Try.ntmps25
  go_upto_region 1 with (first
    | ((with_reducible refine gate_dst (N := 2) rfl ?_); (try (refine gate_guard (by rfl) ?_; dsimp only)); refine box_event ?hg (N := 2) ?hd (cs := #[.int .i64 c, .bool st]) (t := 45) ?hr ?_; (case hd => rfl); (case hg => rfl); (case hr => first | (go_simp; done) | (go_simp; rfl)); intro gs hg w1 hbox hb; have HGS := Aside0.mk (by rw [hg]; exact Nat.le_refl _ : w.heap.size ≤ gs); have HB1 := Aside0.mk (below_step HB.out hb); have HBS := Aside0.mk hbox; clear hb hbox hg)
    | ((with_reducible refine gate_dst (N := 3) rfl ?_); (try (refine gate_guard (by rfl) ?_; dsimp only)); refine box_event ?hg (N := 3) ?hd (cs := #[.int .i64 x0, .slice A1 x1.length c1, .int .i64 x2, .int .i64 x3, .slice A4 x4.length c4]) (t := 25) ?hr ?_; (case hd => rfl); (case hg => rfl); (case hr => first | (go_simp; done) | (go_simp; rfl)); intro gx hg w2 hbox hb; have HGX := Aside0.mk (by rw [hg]; exact HB1.out.size : w.heap.size ≤ gx); have HB2 := Aside0.mk (below_step HB1.out hb); have HBS2 := Aside0.mk (blk_below HBS.out hb); have HBX := Aside0.mk hbox; clear hb hbox hg)
    | ((with_reducible refine gate_dst (N := 4) rfl ?_); refine box_event ?hg (N := 4) ?hd (cs := #[.int .i64 0, .slice none 0 0, .int .i64 0, .int .i64 0, .slice none 0 0]) (t := 25) ?hr ?_; (case hd => rfl); (case hg => rfl); (case hr => first | (go_simp; done) | (go_simp; rfl)); intro gr hg w3 hbox hb; have HGR := Aside0.mk (by rw [hg]; exact HB2.out.size : w.heap.size ≤ gr); have HJ := Aside0.mk (show SI w w3 gs gx gr #[.int .i64 c, .bool st] #[.int .i64 x0, .slice A1 x1.length c1, .int .i64 x2, .int .i64 x3, .slice A4 x4.length c4] from ⟨below_step HB2.out hb, blk_below HBS2.out hb, blk_below HBX.out hb, HGS.out, HGX.out, HGR.out, hbox⟩); clear hb hbox hg))
  clear HB HB1 HBS HB2 HBS2 HBX
  (try simp only [Act.put, List.setIfInBounds_toArray, List.set_cons_zero, List.set_cons_succ])
  have z0 := blk_cell HJ.out.bx 0
  have z1 := blk_cell HJ.out.bx 1
  have z2 := blk_cell HJ.out.bx 2
  have z3 := blk_cell HJ.out.bx 3
  have z4 := blk_cell HJ.out.bx 4
  have y0 := blk_cell HJ.out.bs 0
  have y1 := blk_cell HJ.out.bs 1
  have HJB := Aside0.mk HJ.out.below
  have HJR := Aside0.mk HJ.out.br
  by_cases e2 : x0 = 2
  · have h := HH.out
    rw [if_pos e2] at h
    have HRR := Aside0.mk (Option.some.inj h)
    subst e2
    clear h HH
    obtain ⟨bb, hb⟩ : ∃ bb, hasM x1 c = bb := ⟨_, rfl⟩
    cases bb with
    | true =>
      have HT := Aside0.mk (tree_Has.calls A1 c1 x1 c true w3 (Kd.F_now (Kd.F_below HQ.out.2.1 HJ.out.below)) HQ.out.1 (by rw [tree_Has.f, hb]))
      have HBB := Aside0.mk hb
      clear hb HJB HJR
      go_wp2_with (first | (go_at_call 34; (with_reducible refine HT.out.mono ?_); rintro e_ w4 ⟨rfl, hb⟩; have HJB := Aside0.mk (below_step HJ.out.below hb); have HJR := Aside0.mk (blk_below HJ.out.br hb); clear hb) | (go_at_call 35; (with_reducible refine (deriv_empty.calls 1 [] 0 0 [] _ rfl).mono ?_); rintro e_ w5 ⟨v1, v4, rfl, hv1, hv4, hb⟩; obtain ⟨D1, d1, rfl⟩ := Kd.R_slice hv1; obtain ⟨D4, d4, rfl⟩ := Kd.R_slice hv4; have HB5 := Aside0.mk (below_step HJB.out hb); have HGG := Aside0.mk (blk_below HJR.out hb); have t0 := blk_cell HGG.out 0; have t1 := blk_cell HGG.out 1; have t2 := blk_cell HGG.out 2; have t3 := blk_cell HGG.out 3; have t4 := blk_cell HGG.out 4; have f0 := blk_frozen HGG.out 0; have f1 := blk_frozen HGG.out 1; have f2 := blk_frozen HGG.out 2; have f3 := blk_frozen HGG.out 3; have f4 := blk_frozen HGG.out 4; clear hv1 hv4 hb))
      refine bodyPost_ret (results_cell_row rfl _ _ gr 25 #[.int .i64 1, .slice D1 0 d1, .int .i64 0, .int .i64 0, .slice D4 0 d4] (0, 0) _ rfl (blk_put (blk_put (blk_put (blk_put (blk_put HGG.out 0 _ rfl) 1 _ rfl) 2 _ rfl) 3 _ rfl) 4 _ rfl) Try.underlying25 rfl (by kernel_rfl)) rfl ?_
      exact ⟨_, rfl, (by have h9 := HRR.out; rw [if_pos HBB.out] at h9; rw [← h9]; exact ⟨D1, d1, D4, d4, rfl, Nat.zero_le _, F_zero _, Nat.zero_le _, F_zero _⟩), below_set (below_set (below_set (below_set (below_set HB5.out HGR.out) HGR.out) HGR.out) HGR.out) HGR.out⟩
    | false =>
      have HT := Aside0.mk (tree_Has.calls A1 c1 x1 c false w3 (Kd.F_now (Kd.F_below HQ.out.2.1 HJ.out.below)) HQ.out.1 (by rw [tree_Has.f, hb]))
      have HBB := Aside0.mk hb
      clear hb HJB HJR
      go_wp2_with (first | (go_at_call 34; (with_reducible refine HT.out.mono ?_); rintro e_ w4 ⟨rfl, hb⟩; have HJB := Aside0.mk (below_step HJ.out.below hb); have HJR := Aside0.mk (blk_below HJ.out.br hb); clear hb) | (go_at_call 27; (with_reducible refine (deriv_none.calls 0 [] 0 0 [] _ rfl).mono ?_); rintro e_ w5 ⟨v1, v4, rfl, hv1, hv4, hb⟩; obtain ⟨D1, d1, rfl⟩ := Kd.R_slice hv1; obtain ⟨D4, d4, rfl⟩ := Kd.R_slice hv4; have HB5 := Aside0.mk (below_step HJB.out hb); have HGG := Aside0.mk (blk_below HJR.out hb); have t0 := blk_cell HGG.out 0; have t1 := blk_cell HGG.out 1; have t2 := blk_cell HGG.out 2; have t3 := blk_cell HGG.out 3; have t4 := blk_cell HGG.out 4; have f0 := blk_frozen HGG.out 0; have f1 := blk_frozen HGG.out 1; have f2 := blk_frozen HGG.out 2; have f3 := blk_frozen HGG.out 3; have f4 := blk_frozen HGG.out 4; clear hv1 hv4 hb))
      refine bodyPost_ret (results_cell_row rfl _ _ gr 25 #[.int .i64 0, .slice D1 0 d1, .int .i64 0, .int .i64 0, .slice D4 0 d4] (0, 0) _ rfl (blk_put (blk_put (blk_put (blk_put (blk_put HGG.out 0 _ rfl) 1 _ rfl) 2 _ rfl) 3 _ rfl) 4 _ rfl) Try.underlying25 rfl (by kernel_rfl)) rfl ?_
      exact ⟨_, rfl, (by have h9 := HRR.out; rw [if_neg (by rw [HBB.out]; simp)] at h9; rw [← h9]; exact ⟨D1, d1, D4, d4, rfl, Nat.zero_le _, F_zero _, Nat.zero_le _, F_zero _⟩), below_set (below_set (below_set (below_set (below_set HB5.out HGR.out) HGR.out) HGR.out) HGR.out) HGR.out⟩
  have k2 : (x0 == 2) = false := beq_eq_false_iff_ne.mpr e2
  by_cases e345 : x0 = 3 ∨ x0 = 4 ∨ x0 = 5
  rotate_left
  · have h := HH.out
    rw [if_neg e2, if_neg (by omega), if_neg (by omega), if_neg (by omega)] at h
    obtain rfl := Option.some.inj h
    have k3 : (x0 == 3) = false := beq_eq_false_iff_ne.mpr (by omega)
    have k4 : (x0 == 4) = false := beq_eq_false_iff_ne.mpr (by omega)
    have k5 : (x0 == 5) = false := beq_eq_false_iff_ne.mpr (by omega)
    clear h HH e2 e345
    go_wp2_with (go_at_call 27; (with_reducible refine (deriv_none.calls 0 [] 0 0 [] _ rfl).mono ?_); rintro e_ w5 ⟨v1, v4, rfl, hv1, hv4, hb⟩; obtain ⟨D1, d1, rfl⟩ := Kd.R_slice hv1; obtain ⟨D4, d4, rfl⟩ := Kd.R_slice hv4; have HB5 := Aside0.mk (below_step HJB.out hb); have HGG := Aside0.mk (blk_below HJR.out hb); have t0 := blk_cell HGG.out 0; have t1 := blk_cell HGG.out 1; have t2 := blk_cell HGG.out 2; have t3 := blk_cell HGG.out 3; have t4 := blk_cell HGG.out 4; have f0 := blk_frozen HGG.out 0; have f1 := blk_frozen HGG.out 1; have f2 := blk_frozen HGG.out 2; have f3 := blk_frozen HGG.out 3; have f4 := blk_frozen HGG.out 4; clear hv1 hv4 hb)
    refine bodyPost_ret (results_cell_row rfl _ _ gr 25 #[.int .i64 0, .slice D1 0 d1, .int .i64 0, .int .i64 0, .slice D4 0 d4] (0, 0) _ rfl (blk_put (blk_put (blk_put (blk_put (blk_put HGG.out 0 _ rfl) 1 _ rfl) 2 _ rfl) 3 _ rfl) 4 _ rfl) Try.underlying25 rfl (by kernel_rfl)) rfl ?_
    exact ⟨_, rfl, ⟨D1, d1, D4, d4, rfl, Nat.zero_le _, F_zero _, Nat.zero_le _, F_zero _⟩, below_set (below_set (below_set (below_set (below_set HB5.out HGR.out) HGR.out) HGR.out) HGR.out) HGR.out⟩
  -- REST
  have HFX := Aside0.mk (show NodeF w (fun k => P k ∧ k < w.heap.size) ⟨x0, x1, x2, x3, x4⟩ _ from (NodeF.bound ⟨A1, c1, A4, c4, rfl, HQ.out.1, HQ.out.2.1, HQ.out.2.2.1, HQ.out.2.2.2⟩))
  by_cases e3 : x0 = 3
  · have h := HH.out
    rw [if_neg e2, if_pos e3] at h
    subst e3
    have HC := Aside0.mk (HJN.out (fun k => P k ∧ k < w.heap.size) A4 c4 x4 r w3 HQ.out.2.2.1 (Kd.F_below (Kd.F_bound HQ.out.2.2.2) HJ.out.below) h)
    clear h HH e2 e345
    go_wp2_with (go_at_call 36; (with_reducible refine HC.out.mono ?_); rintro e_ w5 ⟨rv, rfl, hN, hb⟩; have HNF := Aside0.mk (NodeF.mono (P' := fun k => (P k ∨ w.heap.size ≤ k) ∧ k ≠ gr) hN (fun k hk => ⟨by rcases hk with hk | hk; exact .inl hk.1; exact .inr (Nat.le_trans HJ.out.below.size hk), by have := HGR.out; have := blk_lt HJ.out.br; rcases hk with hk | hk <;> (intro he; subst he; (try have := hk.2); omega)⟩)); have HB5 := Aside0.mk (below_step HJ.out.below hb); have HGG := Aside0.mk (blk_below HJR.out hb); obtain ⟨D1, d1, D4, d4, rfl, m1, q1, m4, q4⟩ := hN; have HNF := Aside0.mk (show NodeF _ _ r (.agg #[.int .i64 r.f0, .slice D1 r.f1.length d1, .int .i64 r.f2, .int .i64 r.f3, .slice D4 r.f4.length d4]) from HNF.out); have t0 := blk_cell HGG.out 0; have t1 := blk_cell HGG.out 1; have t2 := blk_cell HGG.out 2; have t3 := blk_cell HGG.out 3; have t4 := blk_cell HGG.out 4; have f0 := blk_frozen HGG.out 0; have f1 := blk_frozen HGG.out 1; have f2 := blk_frozen HGG.out 2; have f3 := blk_frozen HGG.out 3; have f4 := blk_frozen HGG.out 4; clear m1 q1 m4 q4 hb)
    refine bodyPost_ret (results_cell_row rfl _ _ gr 25 #[.int .i64 r.f0, .slice D1 r.f1.length d1, .int .i64 r.f2, .int .i64 r.f3, .slice D4 r.f4.length d4] (0, 0) _ rfl (blk_put (blk_put (blk_put (blk_put (blk_put HGG.out 0 _ rfl) 1 _ rfl) 2 _ rfl) 3 _ rfl) 4 _ rfl) Try.underlying25 rfl (by kernel_rfl)) rfl ?_
    exact ⟨_, rfl, (((((HNF.out.far (fun k hk => hk.2) _).far (fun k hk => hk.2) _).far (fun k hk => hk.2) _).far (fun k hk => hk.2) _).far (fun k hk => hk.2) _).mono (fun k hk => hk.1), below_set (below_set (below_set (below_set (below_set HB5.out HGR.out) HGR.out) HGR.out) HGR.out) HGR.out⟩
  have k3 : (x0 == 3) = false := beq_eq_false_iff_ne.mpr e3
  by_cases e5 : x0 = 5
  · have h := HH.out
    rw [if_neg e2, if_neg e3, if_neg (by omega), if_pos e5] at h
    subst e5
    by_cases hl : x4.length = 1
    · rw [if_pos hl] at h
      have HC := Aside0.mk (HRN.out (fun k => P k ∧ k < w.heap.size) ⟨5, x1, x2, x3, x4⟩ _ r w3 (HFX.out.below HJ.out.below) hl h)
      have kl : ((x4.length : Int) == 1) = true := beq_iff_eq.mpr (by omega)
      clear h HH e2 e3 e345 hl
      go_wp2_with (go_at_call 38; (with_reducible refine HC.out.mono ?_); rintro e_ w5 ⟨rv, rfl, hN, hb⟩; have HNF := Aside0.mk (NodeF.mono (P' := fun k => (P k ∨ w.heap.size ≤ k) ∧ k ≠ gr) hN (fun k hk => ⟨by rcases hk with hk | hk; exact .inl hk.1; exact .inr (Nat.le_trans HJ.out.below.size hk), by have := HGR.out; have := blk_lt HJ.out.br; rcases hk with hk | hk <;> (intro he; subst he; (try have := hk.2); omega)⟩)); have HB5 := Aside0.mk (below_step HJ.out.below hb); have HGG := Aside0.mk (blk_below HJR.out hb); obtain ⟨D1, d1, D4, d4, rfl, m1, q1, m4, q4⟩ := hN; have HNF := Aside0.mk (show NodeF _ _ r (.agg #[.int .i64 r.f0, .slice D1 r.f1.length d1, .int .i64 r.f2, .int .i64 r.f3, .slice D4 r.f4.length d4]) from HNF.out); have t0 := blk_cell HGG.out 0; have t1 := blk_cell HGG.out 1; have t2 := blk_cell HGG.out 2; have t3 := blk_cell HGG.out 3; have t4 := blk_cell HGG.out 4; have f0 := blk_frozen HGG.out 0; have f1 := blk_frozen HGG.out 1; have f2 := blk_frozen HGG.out 2; have f3 := blk_frozen HGG.out 3; have f4 := blk_frozen HGG.out 4; clear m1 q1 m4 q4 hb)
      refine bodyPost_ret (results_cell_row rfl _ _ gr 25 #[.int .i64 r.f0, .slice D1 r.f1.length d1, .int .i64 r.f2, .int .i64 r.f3, .slice D4 r.f4.length d4] (0, 0) _ rfl (blk_put (blk_put (blk_put (blk_put (blk_put HGG.out 0 _ rfl) 1 _ rfl) 2 _ rfl) 3 _ rfl) 4 _ rfl) Try.underlying25 rfl (by kernel_rfl)) rfl ?_
      exact ⟨_, rfl, (((((HNF.out.far (fun k hk => hk.2) _).far (fun k hk => hk.2) _).far (fun k hk => hk.2) _).far (fun k hk => hk.2) _).far (fun k hk => hk.2) _).mono (fun k hk => hk.1), below_set (below_set (below_set (below_set (below_set HB5.out HGR.out) HGR.out) HGR.out) HGR.out) HGR.out⟩
    · rw [if_neg hl] at h
      obtain rfl := Option.some.inj h
      have kl : ((x4.length : Int) == 1) = false := beq_eq_false_iff_ne.mpr (by omega)
      clear h HH e2 e3 e345 hl
      go_wp2_with (go_at_call 27; (with_reducible refine (deriv_none.calls 0 [] 0 0 [] _ rfl).mono ?_); rintro e_ w5 ⟨v1, v4, rfl, hv1, hv4, hb⟩; obtain ⟨D1, d1, rfl⟩ := Kd.R_slice hv1; obtain ⟨D4, d4, rfl⟩ := Kd.R_slice hv4; have HB5 := Aside0.mk (below_step HJB.out hb); have HGG := Aside0.mk (blk_below HJR.out hb); have t0 := blk_cell HGG.out 0; have t1 := blk_cell HGG.out 1; have t2 := blk_cell HGG.out 2; have t3 := blk_cell HGG.out 3; have t4 := blk_cell HGG.out 4; have f0 := blk_frozen HGG.out 0; have f1 := blk_frozen HGG.out 1; have f2 := blk_frozen HGG.out 2; have f3 := blk_frozen HGG.out 3; have f4 := blk_frozen HGG.out 4; clear hv1 hv4 hb)
      refine bodyPost_ret (results_cell_row rfl _ _ gr 25 #[.int .i64 0, .slice D1 0 d1, .int .i64 0, .int .i64 0, .slice D4 0 d4] (0, 0) _ rfl (blk_put (blk_put (blk_put (blk_put (blk_put HGG.out 0 _ rfl) 1 _ rfl) 2 _ rfl) 3 _ rfl) 4 _ rfl) Try.underlying25 rfl (by kernel_rfl)) rfl ?_
      exact ⟨_, rfl, ⟨D1, d1, D4, d4, rfl, Nat.zero_le _, F_zero _, Nat.zero_le _, F_zero _⟩, below_set (below_set (below_set (below_set (below_set HB5.out HGR.out) HGR.out) HGR.out) HGR.out) HGR.out⟩
  obtain rfl : x0 = 4 := by omega
  have h := HH.out
  rw [if_neg e2, if_neg e3, if_pos rfl] at h
  obtain ⟨all9, hall, hor⟩ := Option.bind_eq_some_iff.mp h
  have HAL := Aside0.mk hall
  have HOR := Aside0.mk hor
  have HN := Aside0.mk (Kd.F_max HQ.out.2.2.2)
  clear h hall hor HH e2 e3 e5 e345
  go_wp2
  clear z0 z1 z2 z3 z4 y0 y1
  go_loopw [5, 29] (fun s5 s29 wx => ∃ (i : Nat) (acc : List DNode), s29 = .int .i64 (i : Int) ∧ i ≤ x4.length ∧ Aside0 (mapO (stepS k c st n) (x4.drop i) acc = some all9) ∧ Aside0 (Kd.N k25 25 wx w.heap.size (okS w P gs gx gr) s5 acc) ∧ Aside0 (SI w wx gs gx gr #[.int .i64 c, .bool st] #[.int .i64 4, .slice A1 x1.length c1, .int .i64 x2, .int .i64 x3, .slice A4 x4.length c4])) (fun _ s29 _ => x4.length - (intOf s29).toNat)
  case atStart => exact ⟨0, [], rfl, by omega, by simpa using HAL, ⟨Kd.N_nil _ _ _ _ _⟩, HJ⟩
  case round =>
    clear HAL HJ HJB HJR
    obtain ⟨i, acc, rfl, hi, HAL, HO, HJ⟩ := hrel
    by_cases hlt : i < x4.length
    · obtain ⟨ad, E1, e1, E4, e4, ee, h0, h1, h2, h3, h4, q1, q2, q3, q4⟩ := at_F (Kd.F_below (Kd.F_bound HQ.out.2.2.2) HJ.out.below) i hlt
      cases ee
      have hh := HAL.out
      rw [sn_drop z25 x4 i hlt] at hh
      obtain ⟨y, hyy⟩ : ∃ y, x4.getD i z25 = y := ⟨_, rfl⟩
      rw [hyy] at h0 h1 h2 h3 h4 q1 q2 q3 q4 hh
      obtain ⟨y0, y1, y2, y3, y4⟩ := y
      simp only [mapO] at hh
      dsimp only at h0 h1 h2 h3 h4 q1 q2 q3 q4
      by_cases ca : acc.length < 1099511627776
      rotate_left
      · rw [if_neg ca] at hh
        cases hh
      rw [if_pos ca] at hh
      obtain ⟨s, hs, hrest⟩ := Option.bind_eq_some_iff.mp hh
      have HAC := Aside0.mk ca
      have HRS := Aside0.mk hrest
      have HLI := Aside0.mk hlt
      have g1 : decide ((i : Int) < (x4.length : Int)) = true := decide_eq_true (by omega)
      have g2 : ((0 : Int) ≤ (i : Int)) = True := eq_true (by omega)
      have g3 : ((i : Int) < (x4.length : Int)) = True := eq_true (by omega)
      have hw := sn_wrap i (by have := HN.out; have := HLI.out; omega)
      have hm : x4.length - (i + 1) < x4.length - i := by have := HLI.out; omega
      have HWA := Aside0.mk (below_alloc (Below.refl wr.heap.size wr) (.cells #[.int .i64 y0, .slice E1 y1.length e1, .int .i64 y2, .int .i64 y3, .slice E4 y4.length e4] 25))
      have HYN := Aside0.mk (show NodeF wr (fun k => P k ∧ k < w.heap.size) ⟨y0, y1, y2, y3, y4⟩ (.agg #[.int .i64 y0, .slice E1 y1.length e1, .int .i64 y2, .int .i64 y3, .slice E4 y4.length e4]) from ⟨E1, e1, E4, e4, rfl, q1, q2, q3, q4⟩)
      have HC := Aside0.mk (HIH.out _ ⟨y0, y1, y2, y3, y4⟩ _ s (wr.alloc (.cells #[.int .i64 y0, .slice E1 y1.length e1, .int .i64 y2, .int .i64 y3, .slice E4 y4.length e4] 25)) (HYN.out.below HWA.out) hs)
      have HJA := Aside0.mk (HJ.out.more HWA.out)
      have y0' := blk_cell HJA.out.bs 0
      have y1' := blk_cell HJA.out.bs 1
      clear hyy q1 q2 q3 q4 hlt hh hrest hs ca HAL HYN
      go_wp2_with (first
        | (go_at_call 25; (with_reducible refine HC.out.mono ?_); rintro e_ w5 ⟨rv, rfl, hN, hb⟩; have HO5 := Aside0.mk (Kd.N_below (Kd.N_bound HO.out) (below_step HWA.out hb)); have HJ5 := Aside0.mk (HJA.out.more hb); have HSZ := Aside0.mk (show wr.heap.size < w5.heap.size by have := hb.size; simp only [World.size_alloc] at this; omega); obtain ⟨D1, d1, D4, d4, rfl, m1, r1, m4, r4⟩ := hN; have HSN := Aside0.mk (And.intro m1 (And.intro r1 (And.intro m4 r4))); clear m1 r1 m4 r4 hb)
        | ((with_reducible refine gate_builtin (b := .append) (xs := #[.tmp 33, .tmp 37]) rfl ?_); at_builtin; refine Kd.N_append k25 (w0 := w) w.heap.size rfl (.tmp 33) (.tmp 37) 23 25 (.agg #[.int .i64 0, .slice none 0 0, .int .i64 0, .int .i64 0, .slice none 0 0]) 72 rfl Try.underlying23 ninfo rfl (by decide) (by decide) _ acc s [.int .i64 s.f0, .slice D1 s.f1.length d1, .int .i64 s.f2, .int .i64 s.f3, .slice D4 s.f4.length d4] (okS w P gs gx gr) (fun k => (P k ∧ k < w.heap.size) ∨ (wr.alloc (.cells #[.int .i64 y0, .slice E1 y1.length e1, .int .i64 y2, .int .i64 y3, .slice E4 y4.length e4] 25)).heap.size ≤ k) rfl rfl (k25_mkF _ _ s HSN.out.1 HSN.out.2.1 HSN.out.2.2.1 HSN.out.2.2.2) ?sK ?sF (Kd.N_drop HO5.out) ?sB ?sS ?sL ?_; (case sK => (intro k hk; rcases hk with hk | hk; exact ⟨HJ.out.old hk.1 hk.2, fun he => by have := Kd.N_base HO.out k he.symm; have := hk.2; omega⟩; simp only [World.size_alloc] at hk; exact ⟨HJ.out.new P (by omega), fun he => by have := Kd.N_lt HO.out k he.symm; omega⟩)); (case sF => (intro k hk; exact HJ5.out.new P hk)); (case sB => exact HJ5.out.below); (case sS => exact HJ5.out.below.size); (case sL => (have := HAC.out; omega)); intro v1 w6 hn hb hg hat; have HO6 := Aside0.mk hn; have HJ6 := Aside0.mk (HJ5.out.grown hg hb (fun k hk => (HO5.out.1 k hk).1)); clear hn hb hg hat))
      refine ⟨⟨i + 1, _, by rw [hw], HLI.out, HRS, HO6, HJ6⟩, ?_⟩
      rw [hw]
      show x4.length - (((i + 1 : Nat) : Int)).toNat < x4.length - ((i : Int)).toNat
      simp only [Int.toNat_natCast]
      exact hm
    · have hn : i = x4.length := by omega
      subst hn
      have g1 : decide ((x4.length : Int) < (x4.length : Int)) = false := decide_eq_false (by omega)
      have hh := HAL.out
      rw [List.drop_length] at hh
      simp only [mapO] at hh
      obtain rfl := Option.some.inj hh
      obtain ⟨A3, c3, e3⟩ := Kd.N_slice HO.out
      subst e3
      obtain ⟨ks, hks, rfl⟩ := Option.map_eq_some_iff.mp HOR.out
      have HC := Aside0.mk (or_calls k k _ A3 c3 acc ks wr (Kd.N_F HO.out) hks)
      clear hh HAL hi hks HOR
      go_wp2_with (go_at_call 37; (with_reducible refine HC.out.mono ?_); rintro e_ w5 ⟨rv, rfl, hN, hb⟩; have HNF := Aside0.mk (NodeF.mono (P' := fun k => (P k ∨ w.heap.size ≤ k) ∧ k ≠ gr) hN (fun k hk => ⟨by rcases hk with hk | hk; exact hk.1; exact .inr (Nat.le_trans HJ.out.below.size hk), by have := blk_lt HJ.out.br; rcases hk with hk | hk; exact hk.2.1; omega⟩)); have HB5 := Aside0.mk (below_step HJ.out.below hb); have HGG := Aside0.mk (blk_below HJ.out.br hb); obtain ⟨D1, d1, D4, d4, rfl, m1, q1, m4, q4⟩ := hN; have HNF := Aside0.mk (show NodeF _ _ (orK ks) (.agg #[.int .i64 (orK ks).f0, .slice D1 (orK ks).f1.length d1, .int .i64 (orK ks).f2, .int .i64 (orK ks).f3, .slice D4 (orK ks).f4.length d4]) from HNF.out); have t0 := blk_cell HGG.out 0; have t1 := blk_cell HGG.out 1; have t2 := blk_cell HGG.out 2; have t3 := blk_cell HGG.out 3; have t4 := blk_cell HGG.out 4; have f0 := blk_frozen HGG.out 0; have f1 := blk_frozen HGG.out 1; have f2 := blk_frozen HGG.out 2; have f3 := blk_frozen HGG.out 3; have f4 := blk_frozen HGG.out 4; clear m1 q1 m4 q4 hb)
      refine bodyPost_ret (results_cell_row rfl _ _ gr 25 #[.int .i64 (orK ks).f0, .slice D1 (orK ks).f1.length d1, .int .i64 (orK ks).f2, .int .i64 (orK ks).f3, .slice D4 (orK ks).f4.length d4] (0, 0) _ rfl (blk_put (blk_put (blk_put (blk_put (blk_put HGG.out 0 _ rfl) 1 _ rfl) 2 _ rfl) 3 _ rfl) 4 _ rfl) Try.underlying25 rfl (by kernel_rfl)) rfl ?_
      exact ⟨_, rfl, (((((HNF.out.far (fun k hk => hk.2) _).far (fun k hk => hk.2) _).far (fun k hk => hk.2) _).far (fun k hk => hk.2) _).far (fun k hk => hk.2) _).mono (fun k hk => hk.1), below_set (below_set (below_set (below_set (below_set HB5.out HGR.out) HGR.out) HGR.out) HGR.out) HGR.out⟩
end Go.Proofs.Ytaphbechnjmlgaa.P
namespace Go.Proofs.Ytaphbechnjmlgaa.P
open Go.RowKit Go.Proofs.YtaphbechnjmlgaaW.PrintWords Go.Proofs.YtaphbechnjmlgaaW.PrintLast Go.Proofs.YtaphbechnjmlgaaW.PrintMore
set_option linter.unusedVariables false
set_option linter.unusedSimpArgs false

/-- The call's own blocks, as they stand. -/
structure Own (w W : World) (bl : List (Nat × Array Value × Nat)) : Prop where
  below : Below w.heap.size w W
  blk : ∀ g cs t, (g, cs, t) ∈ bl → W.heap[g]? = some (.cells cs t (0, 0))
  low : ∀ g cs t, (g, cs, t) ∈ bl → w.heap.size ≤ g
theorem Own.more {w W W2 : World} {bl : List (Nat × Array Value × Nat)} (h : Own w W bl) (hb : Below W.heap.size W W2) : Own w W2 bl :=
  ⟨below_step h.below hb, fun g cs t hm => blk_below (h.blk g cs t hm) hb, h.low⟩
/-- What the call's own rows may lie in, and lead to. -/
abbrev okO (w : World) (P : Nat → Prop) (bl : List (Nat × Array Value × Nat)) (k : Nat) : Prop := (P k ∨ w.heap.size ≤ k) ∧ ∀ g cs t, (g, cs, t) ∈ bl → k ≠ g
theorem Own.new {w W : World} {bl : List (Nat × Array Value × Nat)} (h : Own w W bl) (P : Nat → Prop) {k : Nat} (hk : W.heap.size ≤ k) : okO w P bl k := by
  have := h.below.size
  refine ⟨.inr (by omega), fun g cs t hm he => ?_⟩
  have := blk_lt (h.blk g cs t hm)
  omega
theorem Own.old {w W : World} {bl : List (Nat × Array Value × Nat)} (h : Own w W bl) {P : Nat → Prop} {k : Nat} (hp : P k) (hk : k < w.heap.size) : okO w P bl k := by
  refine ⟨.inl hp, fun g cs t hm he => ?_⟩
  have := h.low g cs t hm
  omega
theorem Own.grown {w W W2 : World} {P : Nat → Prop} {bl : List (Nat × Array Value × Nat)} (h : Own w W bl) {row : Option Nat} (hg : W.grownBy W2 row) (hb : Below w.heap.size w W2) (hr : ∀ k, row = some k → okO w P bl k) : Own w W2 bl :=
  ⟨hb, fun g cs t hm => blk_grown (h.blk g cs t hm) hg (fun he => (hr g he.symm).2 g cs t hm rfl), h.low⟩
theorem Own.alloc {w W : World} {bl : List (Nat × Array Value × Nat)} (h : Own w W bl) (cs : Array Value) (t : Nat) : Own w (W.alloc (.cells cs t (0, 0))) ((W.heap.size, cs, t) :: bl) := by
  have hb := below_alloc (Below.refl W.heap.size W) (.cells cs t (0, 0))
  refine ⟨below_step h.below hb, fun g c t' hm => ?_, fun g c t' hm => ?_⟩
  · rcases List.mem_cons.mp hm with hm | hm
    · injection hm with h1 h2
      injection h2 with h2 h3
      subst h1
      subst h2
      subst h3
      exact heap_alloc_new W _
    · exact blk_below (h.blk g c t' hm) hb
  · rcases List.mem_cons.mp hm with hm | hm
    · injection hm with h1 h2
      subst h1
      exact h.below.size
    · exact h.low g c t' hm
theorem Own.sub {w W : World} {bl bl' : List (Nat × Array Value × Nat)} (h : Own w W bl) (hs : ∀ p, p ∈ bl' → p ∈ bl) : Own w W bl' :=
  ⟨h.below, fun g cs t hm => h.blk g cs t (hs _ hm), fun g cs t hm => h.low g cs t (hs _ hm)⟩
set_option maxHeartbeats 8000000 in
set_option maxRecDepth 100000 in
theorem join_of_step (k : Nat) (c : Int) (st : Bool) (n : Nat) (ih : StepN k c st n) : JoinN k c st n := by
  intro P A cc l r w hlc hl h
  have hu := Try.underlying25
  have hus := Try.underlying45
  have HL := Aside0.mk (Kd.F_bound hl)
  have HIH := Aside0.mk ih
  have HN := Aside0.mk (Kd.F_max hl)
  obtain ⟨all9, hall, hor⟩ := Option.bind_eq_some_iff.mp h
  have HAL0 := Aside0.mk hall
  have HOR := Aside0.mk hor
  have HLC := Aside0.mk hlc
  have HB := Aside0.mk (Below.refl w.heap.size w)
  clear hl h ih hall hor hlc
  go_enter Try.func36, Try.ntmps36
  go_upto_region 1 with (first
    | ((with_reducible refine gate_dst (N := 2) rfl ?_); (try (refine gate_guard (by rfl) ?_; dsimp only)); refine box_event ?hg (N := 2) ?hd (cs := #[.int .i64 c, .bool st]) (t := 45) ?hr ?_; (case hd => rfl); (case hg => rfl); (case hr => first | (go_simp; done) | (go_simp; rfl)); intro gs hg w1 hbox hb; have HGS := Aside0.mk (by rw [hg]; exact Nat.le_refl _ : w.heap.size ≤ gs); have HB1 := Aside0.mk (below_step HB.out hb); have HBS := Aside0.mk hbox; clear hb hbox hg)
    | ((with_reducible refine gate_dst (N := 4) rfl ?_); refine box_event ?hg (N := 4) ?hd (cs := #[.int .i64 0, .slice none 0 0, .int .i64 0, .int .i64 0, .slice none 0 0]) (t := 25) ?hr ?_; (case hd => rfl); (case hg => rfl); (case hr => first | (go_simp; done) | (go_simp; rfl)); intro gr hg w3 hbox hb; have HGR := Aside0.mk (by rw [hg]; exact HB1.out.size : w.heap.size ≤ gr); have HJ0 := Aside0.mk (show Own w w3 [(gs, #[.int .i64 c, .bool st], 45), (gr, #[.int .i64 0, .slice none 0 0, .int .i64 0, .int .i64 0, .slice none 0 0], 25)] from ⟨below_step HB1.out hb, by intro g cs t hm; simp only [List.mem_cons, List.not_mem_nil, or_false, Prod.mk.injEq] at hm; rcases hm with ⟨rfl, rfl, rfl⟩ | ⟨rfl, rfl, rfl⟩; exact blk_below HBS.out hb; exact hbox, by intro g cs t hm; simp only [List.mem_cons, List.not_mem_nil, or_false, Prod.mk.injEq] at hm; rcases hm with ⟨rfl, rfl, rfl⟩ | ⟨rfl, rfl, rfl⟩; exact HGS.out; exact HGR.out⟩); clear hb hbox hg))
  clear HB HB1 HBS
  (try simp only [Act.put, List.setIfInBounds_toArray, List.set_cons_zero, List.set_cons_succ])
  go_wp2
  generalize hbl : ([(gs, #[.int .i64 c, .bool st], 45), (gr, #[.int .i64 0, .slice none 0 0, .int .i64 0, .int .i64 0, .slice none 0 0], 25)] : List (Nat × Array Value × Nat)) = bl at HJ0
  have HMS := Aside0.mk (show (gs, #[.int .i64 c, .bool st], 45) ∈ bl by rw [← hbl]; simp)
  have HMR := Aside0.mk (show (gr, #[.int .i64 0, .slice none 0 0, .int .i64 0, .int .i64 0, .slice none 0 0], 25) ∈ bl by rw [← hbl]; simp)
  clear hbl
  -- what stands at the loop's end, on both ways out
  have hEnd : ∀ (acc : List DNode) (vv : Value) (wz : World), acc = all9 → Own w wz bl → Kd.N k25 25 wz w.heap.size (okO w P bl) vv acc → ∃ A3 c3 ks, vv = .slice A3 acc.length c3 ∧ r = orK ks ∧ Calls Try.prog 37 #[.slice A3 acc.length c3] wz fun e w' => ∃ v, e = .returned v ∧ NodeF w' (fun k => okO w P bl k ∨ wz.heap.size ≤ k) (orK ks) v ∧ Below wz.heap.size wz w' := by
    intro acc vv wz ha hJ hN
    obtain ⟨A3, c3, rfl⟩ := Kd.N_slice hN
    subst ha
    obtain ⟨ks, hks, hr⟩ := Option.map_eq_some_iff.mp HOR.out
    exact ⟨A3, c3, ks, rfl, hr.symm, or_calls k k _ A3 c3 acc ks wz (Kd.N_F hN) hks⟩
  have HEND := Aside0.mk hEnd
  clear hEnd HOR
  go_loopw [5, 10] (fun s5 s10 wx => ∃ (i : Nat) (acc : List DNode), s10 = .int .i64 (i : Int) ∧ i ≤ l.length ∧ Aside0 (sjoinL (stepS k c st n) (nullS st false k) (l.drop i) acc = some all9) ∧ Aside0 (Kd.N k25 25 wx w.heap.size (okO w P bl) s5 acc) ∧ Aside0 (Own w wx bl)) (fun _ s10 _ => l.length - (intOf s10).toNat)
  case atStart => exact ⟨0, [], rfl, by omega, by simpa using HAL0, ⟨Kd.N_nil _ _ _ _ _⟩, HJ0⟩
  case round =>
    clear HAL0 HJ0
    obtain ⟨i, acc, rfl, hi, HAL, HO, HJ⟩ := hrel
    by_cases hlt : i < l.length
    · obtain ⟨ad, E1, e1, E4, e4, ee, h0, h1, h2, h3, h4, q1, q2, q3, q4⟩ := at_F (Kd.F_below HL.out HJ.out.below) i hlt
      cases ee
      have hh := HAL.out
      rw [sn_drop z25 l i hlt] at hh
      obtain ⟨y, hyy⟩ : ∃ y, l.getD i z25 = y := ⟨_, rfl⟩
      rw [hyy] at h0 h1 h2 h3 h4 q1 q2 q3 q4 hh
      obtain ⟨y0, y1, y2, y3, y4⟩ := y
      simp only [sjoinL] at hh
      dsimp only at h0 h1 h2 h3 h4 q1 q2 q3 q4
      by_cases ca : acc.length < 1099511627776 ∧ (l.drop (i + 1)).length < 1099511627776
      rotate_left
      · rw [if_neg ca] at hh
        cases hh
      rw [if_pos ca] at hh
      obtain ⟨s, hs, hrest⟩ := Option.bind_eq_some_iff.mp hh
      obtain ⟨d, hd, hrest⟩ := Option.bind_eq_some_iff.mp hrest
      obtain ⟨b, hb, hrest⟩ := Option.bind_eq_some_iff.mp hrest
      have HAC := Aside0.mk ca
      have HRS := Aside0.mk hrest
      have HDD := Aside0.mk hd
      have HNB := Aside0.mk hb
      have HLI := Aside0.mk hlt
      have g1 : decide ((i : Int) < (l.length : Int)) = true := decide_eq_true (by omega)
      have g2 : ((0 : Int) ≤ (i : Int)) = True := eq_true (by omega)
      have g3 : ((i : Int) < (l.length : Int)) = True := eq_true (by omega)
      have hw := sn_wrap i (by have := HN.out; have := HLI.out; omega)
      have hm : l.length - (i + 1) < l.length - i := by have := HLI.out; omega
      have HWA := Aside0.mk (below_alloc (Below.refl wr.heap.size wr) (.cells #[.int .i64 y0, .slice E1 y1.length e1, .int .i64 y2, .int .i64 y3, .slice E4 y4.length e4] 25))
      have HYN := Aside0.mk (show NodeF wr (fun k => P k ∧ k < w.heap.size) ⟨y0, y1, y2, y3, y4⟩ (.agg #[.int .i64 y0, .slice E1 y1.length e1, .int .i64 y2, .int .i64 y3, .slice E4 y4.length e4]) from ⟨E1, e1, E4, e4, rfl, q1, q2, q3, q4⟩)
      have HC := Aside0.mk (HIH.out _ ⟨y0, y1, y2, y3, y4⟩ _ s (wr.alloc (.cells #[.int .i64 y0, .slice E1 y1.length e1, .int .i64 y2, .int .i64 y3, .slice E4 y4.length e4] 25)).drew ((HYN.out.below HWA.out).below (below_drew1 (Below.refl _ _))) hs)
      have HJA := Aside0.mk (HJ.out.alloc #[.int .i64 y0, .slice E1 y1.length e1, .int .i64 y2, .int .i64 y3, .slice E4 y4.length e4] 25)
      have HOA := Aside0.mk (Kd.N_below (Kd.N_bound HO.out) HWA.out)
      have HSZ := Aside0.mk (show wr.heap.size < (wr.alloc (.cells #[.int .i64 y0, .slice E1 y1.length e1, .int .i64 y2, .int .i64 y3, .slice E4 y4.length e4] 25)).heap.size by simp)
      clear hyy q1 q2 q3 q4 hlt hh hrest hs ca HAL hd hb
      go_upto_region 5 with (fail)
      clear h0 h1 h2 h3 h4
      have HF := Aside0.mk (Kd.F_cut (c := cc) (m := i + 1) (Kd.F_below HL.out (below_step HJ.out.below (below_step HWA.out (below_drew1 (Below.refl _ _))))) HLI.out HLC.out)
      obtain ⟨Ac, hAc⟩ : ∃ A1, A1 = (if cc = i + 1 then some ad else some (ad.add ((i + 1) * 5))) := ⟨_, rfl⟩
      rw [show (if cc = i + 1 then some ad else (some ad : Option Addr).map (·.add ((i + 1) * (k25).sz))) = Ac from hAc.symm, List.length_drop] at HF
      have HAC2 := Aside0.mk hAc
      have g5 : ((0 : Int) ≤ (i : Int) + 1) = True := eq_true (by omega)
      have g6 : ((i : Int) + 1 ≤ (l.length : Int)) = True := eq_true (by have := HLI.out; omega)
      have HYD := Aside0.mk ((HYN.out.below HWA.out).below (below_drew1 (Below.refl _ _)))
      have HJD := Aside0.mk (HJA.out.more (below_drew1 (Below.refl _ _)))
      have HOD := Aside0.mk (Kd.N_below HOA.out (below_drew1 (Below.refl _ _)))
      have HSD := Aside0.mk (show wr.heap.size < (wr.alloc (.cells #[.int .i64 y0, .slice E1 y1.length e1, .int .i64 y2, .int .i64 y3, .slice E4 y4.length e4] 25)).drew.heap.size by simp)
      clear hAc HYN HJA HOA HSZ HWA
      generalize hW2 : wr.alloc (.cells #[.int .i64 y0, .slice E1 y1.length e1, .int .i64 y2, .int .i64 y3, .slice E4 y4.length e4] 25) = W at HJD HOD HYD HSD HC HF ⊢
      generalize hg7 : wr.heap.size = g7 at HJD ⊢
      have HG7 := Aside0.mk hg7
      clear hW2 hg7
      refine start_ (n := 14) (S := fun w' => Own w w' ((g7, #[.int .i64 y0, .slice E1 y1.length e1, .int .i64 y2, .int .i64 y3, .slice E4 y4.length e4], 25) :: bl)) (ds := []) #[false, false, false, false, false, false, false, false, false, false, false, false, false, false] (by kernel_rfl) rfl rfl HJD.out (fun hHeld => ?_)
      have hk5 : ∀ k, W.drew.heap.size ≤ k → okO w P ((g7, #[.int .i64 y0, .slice E1 y1.length e1, .int .i64 y2, .int .i64 y3, .slice E4 y4.length e4], 25) :: bl) k := fun k hk => hHeld.new P hk
      generalize W.drew = W5 at hk5 HJD HOD HYD HSD HC HF hHeld ⊢
      clear HJD
      have HK5 := Aside0.mk hk5
      have HBW5 := Aside0.mk hHeld.below
      clear hk5
      refine pure_ (i := 0) (N := some 15) (v := ?_) (a' := ?_) #[true, false, false, false, false, false, false, false, false, false, false, false, false, false] rfl rfl (by kernel_rfl) (fun _ _ _ h => h) (Or.inl ⟨by rfl, ?_⟩) ?_ ?_
      rotate_left
      · intro w'
        go_simp
        with_reducible rfl
      rotate_left
      · simp only [Act.put, List.setIfInBounds_toArray, List.set_cons_zero, List.set_cons_succ, i64_w, i32_w, hw]
        rfl
      refine take_ (i := 1) (N := some 16) (v := ?_) (a' := ?_) #[true, true, false, false, false, false, false, false, false, false, false, false, false, false] rfl rfl (by kernel_rfl) (fun _ _ _ h => h) (Or.inl ⟨by rfl, ?_⟩) hHeld ?_ ?_
      rotate_left
      · rintro w' hS
        have hm := hS.blk _ _ _ (List.mem_cons_of_mem _ HMS.out)
        have a0 := blk_cell hm 0
        have a1 := blk_cell hm 1
        clear hm
        go_simp
        with_reducible rfl
      rotate_left
      · simp only [Act.put, List.setIfInBounds_toArray, List.set_cons_zero, List.set_cons_succ, i64_w, i32_w, hw]
        rfl
      refine take_ (i := 2) (N := some 17) (v := ?_) (a' := ?_) #[true, true, true, false, false, false, false, false, false, false, false, false, false, false] rfl rfl (by kernel_rfl) (fun _ _ _ h => h) (Or.inl ⟨by rfl, ?_⟩) hHeld ?_ ?_
      rotate_left
      · rintro w' hS
        have hm := hS.blk _ _ _ (List.mem_cons_self ..)
        have a0 := blk_cell hm 0
        have a1 := blk_cell hm 1
        have a2 := blk_cell hm 2
        have a3 := blk_cell hm 3
        have a4 := blk_cell hm 4
        clear hm
        go_simp
        with_reducible rfl
      rotate_left
      · simp only [Act.put, List.setIfInBounds_toArray, List.set_cons_zero, List.set_cons_succ, i64_w, i32_w, hw]
        rfl
      refine pure_ (i := 5) (N := some 20) (v := ?_) (a' := ?_) #[true, true, true, false, false, true, false, false, false, false, false, false, false, false] rfl rfl (by kernel_rfl) (fun _ _ _ h => h) (Or.inl ⟨by rfl, ?_⟩) ?_ ?_
      rotate_left
      · intro w'
        go_simp
        with_reducible rfl
      rotate_left
      · simp only [Act.put, List.setIfInBounds_toArray, List.set_cons_zero, List.set_cons_succ, i64_w, i32_w, hw]
        rfl
      refine pure_ (i := 6) (N := some 21) (v := ?_) (a' := ?_) #[true, true, true, false, false, true, true, false, false, false, false, false, false, false] rfl rfl (by kernel_rfl) (fun _ _ _ h => h) (Or.inl ⟨by rfl, ?_⟩) ?_ ?_
      rotate_left
      · intro w'
        go_simp
        with_reducible rfl
      rotate_left
      · simp only [Act.put, List.setIfInBounds_toArray, List.set_cons_zero, List.set_cons_succ, i64_w, i32_w, hw]
        rfl
      refine pure_ (i := 7) (N := some 22) (v := ?_) (a' := ?_) #[true, true, true, false, false, true, true, true, false, false, false, false, false, false] rfl rfl (by kernel_rfl) (fun _ _ _ h => h) (Or.inl ⟨by rfl, ?_⟩) ?_ ?_
      rotate_left
      · intro w'
        go_simp
        with_reducible rfl
      rotate_left
      · simp only [Act.put, List.setIfInBounds_toArray, List.set_cons_zero, List.set_cons_succ, i64_w, i32_w, hw]
        rfl
      refine pure_ (i := 8) (N := some 23) (v := ?_) (a' := ?_) #[true, true, true, false, false, true, true, true, true, false, false, false, false, false] rfl rfl (by kernel_rfl) (fun _ _ _ h => h) (Or.inl ⟨by rfl, ?_⟩) ?_ ?_
      rotate_left
      · intro w'
        go_simp
        rw [← HAC2.out]
      rotate_left
      · simp only [Act.put, List.setIfInBounds_toArray, List.set_cons_zero, List.set_cons_succ, i64_w, i32_w, hw]
        rfl
      refine one_ (i := 3) (N := some 18) #[true, true, true, true, false, true, true, true, true, false, false, false, false, false] rfl rfl (by kernel_rfl) (by decide) (fun K hK => ?_)
      refine goes_ Try.func25 (by kernel_rfl) rfl #[.agg #[.int .i64 c, .bool st], .agg #[.int .i64 y0, .slice E1 y1.length e1, .int .i64 y2, .int .i64 y3, .slice E4 y4.length e4]] (by rfl) rfl rfl (by (try simp only [List.map_toArray, List.map_cons, List.map_nil]); rfl) ?_
      refine HC.out.mono ?_
      rintro e_ w6 ⟨rv, rfl, hN, hb⟩
      refine ⟨_, rfl, ?_⟩
      refine hK.out _ _ (hHeld.more hb) (fun hHeld => ?_)
      clear hK K
      have HO6 := Aside0.mk (Kd.N_below HOD.out hb)
      have HF6 := Aside0.mk (Kd.F_below HF.out hb)
      have HB56 := Aside0.mk hb
      obtain ⟨D1, d1, D4, d4, rfl, m1, r1, m4, r4⟩ := hN
      have HSN := Aside0.mk (And.intro m1 (And.intro r1 (And.intro m4 r4)))
      clear m1 r1 m4 r4 hb
      refine norm_ (a' := ?_) ?_ ?_
      rotate_left
      · show Act.put _ (some 18) _ = _
        simp only [Act.put, List.setIfInBounds_toArray, List.set_cons_zero, List.set_cons_succ, i64_w, i32_w]
        rfl
      refine one_ (i := 4) (N := some 19) #[true, true, true, true, true, true, true, true, true, false, false, false, false, false] rfl rfl (by kernel_rfl) (by decide) (fun K hK => ?_)
      refine Kd.N_lit_step k25 (w0 := w) w.heap.size 25 (by rfl) rfl (xs := [s]) (inner := [.int .i64 s.f0, .slice D1 s.f1.length d1, .int .i64 s.f2, .int .i64 s.f3, .slice D4 s.f4.length d4]) (ok := (fun k => (P k ∧ k < w.heap.size) ∨ W5.heap.size ≤ k)) (okp := fun k => (P k ∧ k < w.heap.size) ∨ W5.heap.size ≤ k) ?hrun ?hrep ?hok ?hfr hHeld.below hHeld.below.size (by simp only [List.length_cons, List.length_nil]; omega) ?_
      case hrun => go_simp
      case hrep => exact (Reps.none _ _).snoc (k25_mkF _ _ s HSN.out.1 HSN.out.2.1 HSN.out.2.2.1 HSN.out.2.2.2) rfl
      case hfr => exact .inr HB56.out.size
      case hok => exact fun k hk => hk
      intro v1 w7 hn hb hg hat
      refine hK.out _ _ (hHeld.grown (P := P) hg hb (by simp)) (fun hHeld => ?_)
      clear hK K
      have HN7 := Aside0.mk hn
      have HO7 := Aside0.mk (Kd.N_step HO6.out (fun k _ hk => hg.block k hk (by simp)))
      have HF7 := Aside0.mk (Kd.F_step HF6.out (fun k _ hk => hg.block k hk (by simp)))
      have HV1 := Aside0.mk (show ∀ k, v1.ownBlock = some k → w6.heap.size ≤ k by intro k hk; obtain ⟨b9, hb9, hle⟩ := hat; rw [hb9] at hk; injection hk with hk; omega)
      have HS67 := Aside0.mk hg.size
      clear hn hb hg hat
      refine norm_ (a' := ?_) ?_ ?_
      rotate_left
      · show Act.put _ (some 19) _ = _
        simp only [Act.put, List.setIfInBounds_toArray, List.set_cons_zero, List.set_cons_succ, i64_w, i32_w]
        rfl
      refine one_ (i := 9) (N := some 24) #[true, true, true, true, true, true, true, true, true, true, false, false, false, false] rfl rfl (by kernel_rfl) (by decide) (fun K hK => ?_)
      refine Kd.N_append_rows_step k25 (w0 := w) w.heap.size (by rfl) (.tmp 19) (.tmp 23) 23 25 (.agg #[.int .i64 0, .slice none 0 0, .int .i64 0, .int .i64 0, .slice none 0 0]) 72 rfl Try.underlying23 ninfo rfl (by decide) (by decide) v1 [s] (l.drop (i + 1)) Ac (l.length - (i + 1)) (cc - (i + 1)) (fun k => (P k ∧ k < w.heap.size) ∨ W5.heap.size ≤ k) (fun k => P k ∧ k < w.heap.size) rfl rfl HN7.out HF7.out ?sK ?sF hHeld.below hHeld.below.size ?sL ?_
      case sK => (intro k hk; exact ⟨.inl hk, fun he => by have := Kd.N_base HN7.out k he.symm; have := hk.2; omega⟩)
      case sF => (intro k hk; exact .inr (by have := HB56.out.size; have := HS67.out; omega))
      case sL => (have := HAC.out.2; rw [List.length_drop] at this; simp only [List.length_cons, List.length_nil]; omega)
      intro v2 w8 hn hb hg hat
      refine hK.out _ _ (hHeld.grown (P := P) hg hb (fun k hk => by rcases HN7.out.1 k hk with hk | hk; exact hHeld.old hk.1 hk.2; exact HK5.out k hk)) (fun hHeld => ?_)
      clear hK K
      have HN8 := Aside0.mk hn
      have HO8 := Aside0.mk (Kd.N_step HO7.out (fun k hk hlt => hg.block k hlt (fun he => by have := HV1.out k he.symm; have := hk.2; have := HSD.out; have := HB56.out.size; omega)))
      have HS78 := Aside0.mk hg.size
      clear hn hb hg hat HN7 HV1
      refine norm_ (a' := ?_) ?_ ?_
      rotate_left
      · show Act.put _ (some 24) _ = _
        simp only [Act.put, List.setIfInBounds_toArray, List.set_cons_zero, List.set_cons_succ, i64_w, i32_w]
        rfl
      obtain ⟨A2, c2, e2⟩ := Kd.N_slice HN8.out
      subst e2
      refine one_ (i := 10) (N := some 25) #[true, true, true, true, true, true, true, true, true, true, true, false, false, false] rfl rfl (by kernel_rfl) (by decide) (fun K hK => ?_)
      refine goes_ Try.func45 (by kernel_rfl) rfl #[.slice A2 ([s] ++ l.drop (i + 1)).length c2] (by rfl) rfl rfl (by (try simp only [List.map_toArray, List.map_cons, List.map_nil]); rfl) ?_
      refine (join_calls _ A2 c2 ([s] ++ l.drop (i + 1)) d w8 (Kd.N_F HN8.out) HDD.out).mono ?_
      rintro e_ w9 ⟨rv, rfl, hN, hb⟩
      refine ⟨_, rfl, ?_⟩
      refine hK.out _ _ (hHeld.more hb) (fun hHeld => ?_)
      clear hK K
      have HO9 := Aside0.mk (Kd.N_below HO8.out hb)
      have HB89 := Aside0.mk hb.size
      obtain ⟨D1', d1', D4', d4', rfl, m1, r1, m4, r4⟩ := hN
      have HTN := Aside0.mk (And.intro m1 (And.intro r1 (And.intro m4 r4)))
      clear m1 r1 m4 r4 hb
      refine norm_ (a' := ?_) ?_ ?_
      rotate_left
      · show Act.put _ (some 25) _ = _
        simp only [Act.put, List.setIfInBounds_toArray, List.set_cons_zero, List.set_cons_succ, i64_w, i32_w]
        rfl
      refine one_ (i := 11) (N := some 26) #[true, true, true, true, true, true, true, true, true, true, true, true, false, false] rfl rfl (by kernel_rfl) (by decide) (fun K hK => ?_)
      refine value_ (v := .slice (some ⟨w9.heap.size, 0, none⟩) 1 1) (w1 := w9.alloc (.cells #[.int .i64 (joinK d).f0, .slice D1' (joinK d).f1.length d1', .int .i64 (joinK d).f2, .int .i64 (joinK d).f3, .slice D4' (joinK d).f4.length d4'] 25)) (by rfl) rfl ?hrun ?_
      case hrun => go_simp
      refine hK.out _ _ (hHeld.more (below_alloc (Below.refl _ _) _)) (fun _ => ?_)
      clear hK K
      refine norm_ (a' := ?_) ?_ ?_
      rotate_left
      · show Act.put _ (some 26) _ = _
        simp only [Act.put, List.setIfInBounds_toArray, List.set_cons_zero, List.set_cons_succ, i64_w, i32_w]
        rfl
      refine one_ (i := 12) (N := some 27) #[true, true, true, true, true, true, true, true, true, true, true, true, true, false] rfl rfl (by kernel_rfl) (by decide) (fun K hK => ?_)
      refine Kd.N_append_step k25 (w0 := w) w.heap.size (by rfl) (.tmp 15) (.tmp 26) 23 25 (.agg #[.int .i64 0, .slice none 0 0, .int .i64 0, .int .i64 0, .slice none 0 0]) 72 rfl Try.underlying23 ninfo rfl (by decide) (by decide) u5 acc (joinK d) [.int .i64 (joinK d).f0, .slice D1' (joinK d).f1.length d1', .int .i64 (joinK d).f2, .int .i64 (joinK d).f3, .slice D4' (joinK d).f4.length d4'] (okO w P bl) (fun k => ((P k ∧ k < w.heap.size) ∨ W5.heap.size ≤ k) ∨ w8.heap.size ≤ k) rfl rfl (k25_mkF _ _ (joinK d) HTN.out.1 HTN.out.2.1 HTN.out.2.2.1 HTN.out.2.2.2) ?sK ?sF (Kd.N_drop HO9.out) hHeld.below hHeld.below.size ?sL ?_
      case sK =>
        intro k hk
        have hk' : (P k ∧ k < w.heap.size) ∨ W5.heap.size ≤ k := by
          rcases hk with hk | hk
          · exact hk
          · exact .inr (by have := HB56.out.size; have := HS67.out; have := HS78.out; omega)
        rcases hk' with hk | hk
        · exact ⟨(hHeld.sub (fun p hp => List.mem_cons_of_mem _ hp)).old hk.1 hk.2, fun he => by have := Kd.N_base HO.out k he.symm; have := hk.2; omega⟩
        · have h7 := HK5.out k hk
          exact ⟨⟨h7.1, fun g cs t hm => h7.2 g cs t (List.mem_cons_of_mem _ hm)⟩, fun he => by have := Kd.N_lt HO.out k he.symm; have := HSD.out; omega⟩
      case sF => (intro k hk; exact (hHeld.sub (fun p hp => List.mem_cons_of_mem _ hp)).new P hk)
      case sL => (have := HAC.out.1; omega)
      intro v3 w10 hn hb hg hat
      refine hK.out _ _ (hHeld.grown (P := P) hg hb (fun k hk => ?_)) (fun hHeld => ?_)
      · have h7 := HO.out.1 k hk
        refine ⟨h7.1, fun g cs t hm => ?_⟩
        rcases List.mem_cons.mp hm with hm | hm
        · injection hm with h8 h9
          have := Kd.N_lt HO.out k hk
          have := HG7.out
          omega
        · exact h7.2 g cs t hm
      clear hK K
      have HO10 := Aside0.mk hn
      clear hn hb hg hat HO9 HTN
      refine norm_ (a' := ?_) ?_ ?_
      rotate_left
      · show Act.put _ (some 27) _ = _
        simp only [Act.put, List.setIfInBounds_toArray, List.set_cons_zero, List.set_cons_succ, i64_w, i32_w]
        rfl
      refine pure_ (i := 13) (N := some 5) (v := ?_) (a' := ?_) #[true, true, true, true, true, true, true, true, true, true, true, true, true, true] rfl rfl (by kernel_rfl) (fun _ _ _ h => h) (Or.inl ⟨by rfl, ?_⟩) ?_ ?_
      rotate_left
      · intro w'
        go_simp
        with_reducible rfl
      rotate_left
      · simp only [Act.put, List.setIfInBounds_toArray, List.set_cons_zero, List.set_cons_succ, i64_w, i32_w, hw]
        rfl
      refine done_ (by kernel_rfl) ?_
      have m7 := hHeld.blk _ _ _ (List.mem_cons_self ..)
      have z0 := blk_cell m7 0
      have z1 := blk_cell m7 1
      have z2 := blk_cell m7 2
      have z3 := blk_cell m7 3
      have z4 := blk_cell m7 4
      have y1' := blk_cell (hHeld.blk _ _ _ (List.mem_cons_of_mem _ HMS.out)) 1
      have HJ10 := Aside0.mk (hHeld.sub (bl' := bl) (fun p hp => List.mem_cons_of_mem _ hp))
      have HYW := HYD.out.step (w1 := w10) (fun k hk _ => (hHeld.below.block k hk.2).trans (HBW5.out.block k hk.2).symm)
      have HNC := Aside0.mk (null_calls st false k _ _ b w10 HYW.now HNB.out)
      clear HYW m7 hHeld HYD
      cases b with
      | true =>
        have HRR := Aside0.mk (show sjoinL (stepS k c st n) (nullS st false k) (l.drop (i + 1)) (acc ++ [joinK d]) = some all9 from by have h9 := HRS.out; first | (rw [if_pos rfl] at h9; exact h9) | (rw [if_pos trivial] at h9; exact h9))
        clear HRS
        go_wp2_with (go_at_call 12; (with_reducible refine HNC.out.mono ?_); rintro e_ w11 ⟨rfl, hb⟩; have HO11 := Aside0.mk (Kd.N_below HO10.out hb); have HJ11 := Aside0.mk (HJ10.out.more hb); clear hb)
        refine ⟨⟨i + 1, _, by first | (rw [hw]; done) | rfl | simp, HLI.out, HRR, HO11, HJ11⟩, ?_⟩
        first | (rw [hw]) | skip
        show l.length - _ < l.length - _
        have := HLI.out
        simp only [intOf, Int.toNat_natCast]
        omega
      | false =>
        have HRR := Aside0.mk (show acc ++ [joinK d] = all9 from by have h9 := HRS.out; rw [if_neg (by simp)] at h9; exact Option.some.inj h9)
        clear HRS
        go_wp2_with (first | (go_at_call 12; (with_reducible refine HNC.out.mono ?_); rintro e_ w11 ⟨rfl, hb⟩; have h9 := Kd.N_below HO10.out hb; rw [HRR.out] at h9; have HO11 := Aside0.mk h9; clear h9; have HJ11 := Aside0.mk (HJ10.out.more hb); clear hb; obtain ⟨A3, c3, ks, rfl, rfl, hc⟩ := HEND.out _ _ _ rfl HJ11.out HO11.out; have HC := Aside0.mk hc; clear hc) | (go_at_call 37; (with_reducible refine HC.out.mono ?_); rintro e_ w12 ⟨rv, rfl, hN, hb⟩; have HNF := Aside0.mk (NodeF.mono (P' := fun k => (P k ∨ w.heap.size ≤ k) ∧ k ≠ gr) hN (fun k hk => ⟨by rcases hk with hk | hk; exact hk.1; exact .inr (Nat.le_trans HJ11.out.below.size hk), by have := blk_lt (HJ11.out.blk _ _ _ HMR.out); rcases hk with hk | hk; exact hk.2 _ _ _ HMR.out; omega⟩)); have HB5 := Aside0.mk (below_step HJ11.out.below hb); have HGG := Aside0.mk (blk_below (HJ11.out.blk _ _ _ HMR.out) hb); obtain ⟨D1, d1, D4, d4, rfl, m1, q1, m4, q4⟩ := hN; have HNF := Aside0.mk (show NodeF _ _ (orK ks) (.agg #[.int .i64 (orK ks).f0, .slice D1 (orK ks).f1.length d1, .int .i64 (orK ks).f2, .int .i64 (orK ks).f3, .slice D4 (orK ks).f4.length d4]) from HNF.out); have t0 := blk_cell HGG.out 0; have t1 := blk_cell HGG.out 1; have t2 := blk_cell HGG.out 2; have t3 := blk_cell HGG.out 3; have t4 := blk_cell HGG.out 4; have f0 := blk_frozen HGG.out 0; have f1 := blk_frozen HGG.out 1; have f2 := blk_frozen HGG.out 2; have f3 := blk_frozen HGG.out 3; have f4 := blk_frozen HGG.out 4; clear m1 q1 m4 q4 hb))
        refine bodyPost_ret (results_cell_row rfl _ _ gr 25 #[.int .i64 (orK ks).f0, .slice D1 (orK ks).f1.length d1, .int .i64 (orK ks).f2, .int .i64 (orK ks).f3, .slice D4 (orK ks).f4.length d4] (0, 0) _ rfl (blk_put (blk_put (blk_put (blk_put (blk_put HGG.out 0 _ rfl) 1 _ rfl) 2 _ rfl) 3 _ rfl) 4 _ rfl) Try.underlying25 rfl (by kernel_rfl)) rfl ?_
        exact ⟨_, rfl, (((((HNF.out.far (fun k hk => hk.2) _).far (fun k hk => hk.2) _).far (fun k hk => hk.2) _).far (fun k hk => hk.2) _).far (fun k hk => hk.2) _).mono (fun k hk => hk.1), below_set (below_set (below_set (below_set (below_set HB5.out HGR.out) HGR.out) HGR.out) HGR.out) HGR.out⟩
    · have hn : i = l.length := by omega
      subst hn
      have g1 : decide ((l.length : Int) < (l.length : Int)) = false := decide_eq_false (by omega)
      have hh := HAL.out
      rw [List.drop_length] at hh
      simp only [sjoinL] at hh
      obtain ⟨A3, c3, ks, rfl, rfl, hc⟩ := HEND.out _ _ _ (Option.some.inj hh) HJ.out HO.out
      have HC := Aside0.mk hc
      clear hh HAL hi hc
      go_wp2_with (go_at_call 37; (with_reducible refine HC.out.mono ?_); rintro e_ w5 ⟨rv, rfl, hN, hb⟩; have HNF := Aside0.mk (NodeF.mono (P' := fun k => (P k ∨ w.heap.size ≤ k) ∧ k ≠ gr) hN (fun k hk => ⟨by rcases hk with hk | hk; exact hk.1; exact .inr (Nat.le_trans HJ.out.below.size hk), by have := blk_lt (HJ.out.blk _ _ _ HMR.out); rcases hk with hk | hk; exact hk.2 _ _ _ HMR.out; omega⟩)); have HB5 := Aside0.mk (below_step HJ.out.below hb); have HGG := Aside0.mk (blk_below (HJ.out.blk _ _ _ HMR.out) hb); obtain ⟨D1, d1, D4, d4, rfl, m1, q1, m4, q4⟩ := hN; have HNF := Aside0.mk (show NodeF _ _ (orK ks) (.agg #[.int .i64 (orK ks).f0, .slice D1 (orK ks).f1.length d1, .int .i64 (orK ks).f2, .int .i64 (orK ks).f3, .slice D4 (orK ks).f4.length d4]) from HNF.out); have t0 := blk_cell HGG.out 0; have t1 := blk_cell HGG.out 1; have t2 := blk_cell HGG.out 2; have t3 := blk_cell HGG.out 3; have t4 := blk_cell HGG.out 4; have f0 := blk_frozen HGG.out 0; have f1 := blk_frozen HGG.out 1; have f2 := blk_frozen HGG.out 2; have f3 := blk_frozen HGG.out 3; have f4 := blk_frozen HGG.out 4; clear m1 q1 m4 q4 hb)
      refine bodyPost_ret (results_cell_row rfl _ _ gr 25 #[.int .i64 (orK ks).f0, .slice D1 (orK ks).f1.length d1, .int .i64 (orK ks).f2, .int .i64 (orK ks).f3, .slice D4 (orK ks).f4.length d4] (0, 0) _ rfl (blk_put (blk_put (blk_put (blk_put (blk_put HGG.out 0 _ rfl) 1 _ rfl) 2 _ rfl) 3 _ rfl) 4 _ rfl) Try.underlying25 rfl (by kernel_rfl)) rfl ?_
      exact ⟨_, rfl, (((((HNF.out.far (fun k hk => hk.2) _).far (fun k hk => hk.2) _).far (fun k hk => hk.2) _).far (fun k hk => hk.2) _).far (fun k hk => hk.2) _).mono (fun k hk => hk.1), below_set (below_set (below_set (below_set (below_set HB5.out HGR.out) HGR.out) HGR.out) HGR.out) HGR.out⟩
end Go.Proofs.Ytaphbechnjmlgaa.P
namespace Go.Proofs.Ytaphbechnjmlgaa.P
open Go.RowKit Go.Proofs.YtaphbechnjmlgaaW.PrintWords Go.Proofs.YtaphbechnjmlgaaW.PrintLast Go.Proofs.YtaphbechnjmlgaaW.PrintMore
set_option linter.unusedVariables false
set_option linter.unusedSimpArgs false

set_option maxHeartbeats 4000000 in
set_option maxRecDepth 100000 in
theorem fewer_no (x0 x2 : Int) (A1 : Option Addr) (n1 c1 : Nat) (A4 : Option Addr) (n4 c4 : Nat) (w : World) :
    Calls Try.prog 48 #[.agg #[.int .i64 x0, .slice A1 n1 c1, .int .i64 x2, .int .i64 0, .slice A4 n4 c4]] w fun e w' => ∃ D1 d1 D4 d4, e = .returned (.tuple #[.agg #[.int .i64 0, .slice D1 0 d1, .int .i64 0, .int .i64 0, .slice D4 0 d4], .bool false]) ∧ Below w.heap.size w w' := by
  go_enter Try.func48, Try.ntmps48
  have HB0 := Aside0.mk (Below.refl w.heap.size w)
  have hu := Try.underlying25
  go_upto_region 1 with (first
    | ((with_reducible refine gate_dst (N := 1) rfl ?_); (try (refine gate_guard (by rfl) ?_; dsimp only)); refine box_event ?hg (N := 1) ?hd (cs := #[.int .i64 x0, .slice A1 n1 c1, .int .i64 x2, .int .i64 0, .slice A4 n4 c4]) (t := 25) ?hr ?_; (case hd => rfl); (case hg => rfl); (case hr => first | (go_simp; done) | (go_simp; rfl)); intro gx hg w1 hbox hb; have HGX := Aside0.mk (by rw [hg]; exact Nat.le_refl _ : w.heap.size ≤ gx); have HB1 := Aside0.mk (below_step HB0.out hb); have HX1 := Aside0.mk hbox; clear hb hbox hg)
    | ((with_reducible refine gate_dst (N := 2) rfl ?_); (try (refine gate_guard (by rfl) ?_; dsimp only)); refine box_event ?hg (N := 2) ?hd (cs := #[.int .i64 0, .slice none 0 0, .int .i64 0, .int .i64 0, .slice none 0 0]) (t := 25) ?hr ?_; (case hd => rfl); (case hg => rfl); (case hr => first | (go_simp; done) | (go_simp; rfl)); intro gr hg w2 hbox hb; have HGR := Aside0.mk (by rw [hg]; exact HB1.out.size : w.heap.size ≤ gr); have HN0 := Aside0.mk (show gx < gr by rw [hg]; exact blk_lt HX1.out); have HB := Aside0.mk (below_step HB1.out hb); have HX := Aside0.mk (blk_below HX1.out hb); have HR := Aside0.mk hbox; clear HX1; clear hb hbox hg))
  clear HB0 HB1
  (try simp only [Act.put, List.setIfInBounds_toArray, List.set_cons_zero, List.set_cons_succ])
  have z0 := blk_cell HX.out 0
  have z1 := blk_cell HX.out 1
  have z2 := blk_cell HX.out 2
  have z3 := blk_cell HX.out 3
  have z4 := blk_cell HX.out 4
  have y2 := blk_frozen HX.out 2
  have y3 := blk_frozen HX.out 3
  have hne : gx ≠ gr := by have := HN0.out; omega
  go_wp2_with (go_at_call 27; (with_reducible refine (deriv_none.calls 0 [] 0 0 [] _ rfl).mono ?_); rintro e_ w5 ⟨v1, v4, rfl, hv1, hv4, hb⟩; obtain ⟨D1, d1, rfl⟩ := Kd.R_slice hv1; obtain ⟨D4, d4, rfl⟩ := Kd.R_slice hv4; have HB5 := Aside0.mk (below_step HB.out hb); have HGG := Aside0.mk (blk_below HR.out hb); have t0 := blk_cell HGG.out 0; have t1 := blk_cell HGG.out 1; have t2 := blk_cell HGG.out 2; have t3 := blk_cell HGG.out 3; have t4 := blk_cell HGG.out 4; have f0 := blk_frozen HGG.out 0; have f1 := blk_frozen HGG.out 1; have f2 := blk_frozen HGG.out 2; have f3 := blk_frozen HGG.out 3; have f4 := blk_frozen HGG.out 4; clear hv1 hv4 hb)
  refine bodyPost_ret (results_ct rfl _ _ gr 25 #[.int .i64 0, .slice D1 0 d1, .int .i64 0, .int .i64 0, .slice D4 0 d4] (0, 0) _ rfl (blk_put (blk_put (blk_put (blk_put (blk_put (HGG.out) 0 _ rfl) 1 _ rfl) 2 _ rfl) 3 _ rfl) 4 _ rfl) Try.underlying25 rfl (by kernel_rfl)) rfl ?_
  exact ⟨D1, d1, D4, d4, rfl, below_set (below_set (below_set (below_set (below_set (HB5.out) HGR.out) HGR.out) HGR.out) HGR.out) HGR.out⟩
set_option maxHeartbeats 4000000 in
set_option maxRecDepth 100000 in
theorem fewer_yes (x0 x2 x3 : Int) (A1 : Option Addr) (n1 c1 : Nat) (A4 : Option Addr) (n4 c4 : Nat) (w : World) (h : x3 ≠ 0) :
    Calls Try.prog 48 #[.agg #[.int .i64 x0, .slice A1 n1 c1, .int .i64 x2, .int .i64 x3, .slice A4 n4 c4]] w fun e w' => e = .returned (.tuple #[.agg #[.int .i64 x0, .slice A1 n1 c1, .int .i64 (mx 0 (wrap64 (x2 - 1))), .int .i64 (if x3 > 0 then wrap64 (x3 - 1) else x3), .slice A4 n4 c4], .bool true]) ∧ Below w.heap.size w w' := by
  have k3 : (x3 == 0) = false := beq_eq_false_iff_ne.mpr h
  obtain ⟨j2, hj⟩ : ∃ j_ : Int, (mx 0 (wrap64 (x2 - 1))) = j_ := ⟨_, rfl⟩
  have hj_ : (if 0 < (wrap64 (x2 - 1)) then (wrap64 (x2 - 1)) else 0) = j2 := hj
  rw [hj]
  obtain ⟨j3, hj3⟩ : ∃ j_ : Int, (if x3 > 0 then wrap64 (x3 - 1) else x3) = j_ := ⟨_, rfl⟩
  rw [hj3]
  have HJ3 := Aside0.mk hj3
  clear hj h hj3
  go_enter Try.func48, Try.ntmps48
  have HB0 := Aside0.mk (Below.refl w.heap.size w)
  have hu := Try.underlying25
  go_upto_region 1 with (first
    | ((with_reducible refine gate_dst (N := 1) rfl ?_); (try (refine gate_guard (by rfl) ?_; dsimp only)); refine box_event ?hg (N := 1) ?hd (cs := #[.int .i64 x0, .slice A1 n1 c1, .int .i64 x2, .int .i64 x3, .slice A4 n4 c4]) (t := 25) ?hr ?_; (case hd => rfl); (case hg => rfl); (case hr => first | (go_simp; done) | (go_simp; rfl)); intro gx hg w1 hbox hb; have HGX := Aside0.mk (by rw [hg]; exact Nat.le_refl _ : w.heap.size ≤ gx); have HB1 := Aside0.mk (below_step HB0.out hb); have HX1 := Aside0.mk hbox; clear hb hbox hg)
    | ((with_reducible refine gate_dst (N := 2) rfl ?_); (try (refine gate_guard (by rfl) ?_; dsimp only)); refine box_event ?hg (N := 2) ?hd (cs := #[.int .i64 0, .slice none 0 0, .int .i64 0, .int .i64 0, .slice none 0 0]) (t := 25) ?hr ?_; (case hd => rfl); (case hg => rfl); (case hr => first | (go_simp; done) | (go_simp; rfl)); intro gr hg w2 hbox hb; have HGR := Aside0.mk (by rw [hg]; exact HB1.out.size : w.heap.size ≤ gr); have HN0 := Aside0.mk (show gx < gr by rw [hg]; exact blk_lt HX1.out); have HB := Aside0.mk (below_step HB1.out hb); have HX := Aside0.mk (blk_below HX1.out hb); have HR := Aside0.mk hbox; clear HX1; clear hb hbox hg))
  clear HB0 HB1
  (try simp only [Act.put, List.setIfInBounds_toArray, List.set_cons_zero, List.set_cons_succ])
  have z0 := blk_cell HX.out 0
  have z1 := blk_cell HX.out 1
  have z2 := blk_cell HX.out 2
  have z3 := blk_cell HX.out 3
  have z4 := blk_cell HX.out 4
  have y2 := blk_frozen HX.out 2
  have y3 := blk_frozen HX.out 3
  have hne : gx ≠ gr := by have := HN0.out; omega
  by_cases hp : x3 > 0
  · have hj3 := HJ3.out
    rw [if_pos hp] at hj3
    subst hj3
    have kp : decide (0 < x3) = true := decide_eq_true hp
    clear hp HJ3
    go_upto_region 6 with (fail)
    have hX9 := blk_put (blk_put HX.out 2 (.int .i64 j2) rfl) 3 (.int .i64 (wrap64 (x3 - 1))) rfl
    have hR9 := blk_far (p := ⟨gx, 3, none⟩) (blk_far (p := ⟨gx, 2, none⟩) HR.out hne.symm (.int .i64 j2)) hne.symm (.int .i64 (wrap64 (x3 - 1)))
    have hB9 := below_set (j := 3) (v := .int .i64 (wrap64 (x3 - 1))) (below_set (j := 2) (v := .int .i64 j2) HB.out HGX.out) HGX.out
    generalize (w2.setCell ⟨gx, 2, none⟩ (.int .i64 j2)).setCell ⟨gx, 3, none⟩ (.int .i64 (wrap64 (x3 - 1))) = W9 at hX9 hR9 hB9 ⊢
    have HX9 := Aside0.mk hX9
    have HR9 := Aside0.mk hR9
    have HB9 := Aside0.mk hB9
    clear z0 z1 z2 z3 z4 y2 y3 hX9 hR9 hB9 hne HX HR HB
    have z0 := blk_cell HX9.out 0
    have z1 := blk_cell HX9.out 1
    have z2 := blk_cell HX9.out 2
    have z3 := blk_cell HX9.out 3
    have z4 := blk_cell HX9.out 4
    have q0 := blk_cell HR9.out 0; have q1 := blk_cell HR9.out 1; have q2 := blk_cell HR9.out 2; have q3 := blk_cell HR9.out 3; have q4 := blk_cell HR9.out 4; have f0 := blk_frozen HR9.out 0; have f1 := blk_frozen HR9.out 1; have f2 := blk_frozen HR9.out 2; have f3 := blk_frozen HR9.out 3; have f4 := blk_frozen HR9.out 4
    go_wp2
    refine bodyPost_ret (results_ct rfl _ _ gr 25 #[.int .i64 x0, .slice A1 n1 c1, .int .i64 j2, .int .i64 (wrap64 (x3 - 1)), .slice A4 n4 c4] (0, 0) _ rfl (blk_put (blk_put (blk_put (blk_put (blk_put (HR9.out) 0 _ rfl) 1 _ rfl) 2 _ rfl) 3 _ rfl) 4 _ rfl) Try.underlying25 rfl (by kernel_rfl)) rfl ?_
    exact ⟨rfl, below_set (below_set (below_set (below_set (below_set (HB9.out) HGR.out) HGR.out) HGR.out) HGR.out) HGR.out⟩
  · have hj3 := HJ3.out
    rw [if_neg hp] at hj3
    subst hj3
    have kp : decide (0 < x3) = false := decide_eq_false hp
    clear hp HJ3
    go_upto_region 6 with (fail)
    have hX9 := blk_put HX.out 2 (.int .i64 j2) rfl
    have hR9 := blk_far (p := ⟨gx, 2, none⟩) HR.out hne.symm (.int .i64 j2)
    have hB9 := below_set (j := 2) (v := .int .i64 j2) HB.out HGX.out
    generalize w2.setCell ⟨gx, 2, none⟩ (.int .i64 j2) = W9 at hX9 hR9 hB9 ⊢
    have HX9 := Aside0.mk hX9
    have HR9 := Aside0.mk hR9
    have HB9 := Aside0.mk hB9
    clear z0 z1 z2 z3 z4 y2 y3 hX9 hR9 hB9 hne HX HR HB
    have z0 := blk_cell HX9.out 0
    have z1 := blk_cell HX9.out 1
    have z2 := blk_cell HX9.out 2
    have z3 := blk_cell HX9.out 3
    have z4 := blk_cell HX9.out 4
    have q0 := blk_cell HR9.out 0; have q1 := blk_cell HR9.out 1; have q2 := blk_cell HR9.out 2; have q3 := blk_cell HR9.out 3; have q4 := blk_cell HR9.out 4; have f0 := blk_frozen HR9.out 0; have f1 := blk_frozen HR9.out 1; have f2 := blk_frozen HR9.out 2; have f3 := blk_frozen HR9.out 3; have f4 := blk_frozen HR9.out 4
    go_wp2
    refine bodyPost_ret (results_ct rfl _ _ gr 25 #[.int .i64 x0, .slice A1 n1 c1, .int .i64 j2, .int .i64 x3, .slice A4 n4 c4] (0, 0) _ rfl (blk_put (blk_put (blk_put (blk_put (blk_put (HR9.out) 0 _ rfl) 1 _ rfl) 2 _ rfl) 3 _ rfl) 4 _ rfl) Try.underlying25 rfl (by kernel_rfl)) rfl ?_
    exact ⟨rfl, below_set (below_set (below_set (below_set (below_set (HB9.out) HGR.out) HGR.out) HGR.out) HGR.out) HGR.out⟩
theorem C_of_block {α : Type} {d : Kd α} {w : World} {b : Nat} {t : Nat} {cs : List Value} {xs : List α} (hb : w.heap[b]? = some (.cells cs.toArray t (0, 0))) (hr : Reps (d.K w) d.sz xs cs) (hm : xs.length ≤ 9223372036854775807) : d.C w (some ⟨b, 0, none⟩) xs.length xs := by
  refine ⟨rfl, hm, fun _ => ⟨_, rfl, fun j p hj => ⟨(cs.drop (j * d.sz)).take d.sz, ?_, hr.2 j p hj, fun i u hu => ?_⟩⟩⟩
  · have hjl := (List.getElem?_eq_some_iff.1 hj).1
    have h1 : j * d.sz + d.sz ≤ cs.length := by rw [hr.1, ← Nat.succ_mul]; exact Nat.mul_le_mul_right _ hjl
    rw [List.length_take, List.length_drop]
    omega
  · rw [add_plain, blk_cell hb]
    rw [List.getElem?_take] at hu
    split at hu
    · rw [List.getElem?_drop] at hu
      simpa using hu
    · cases hu
/-- A row of two that was just laid. -/
theorem F_two {w : World} {P0 : Nat → Prop} {b : Nat} {x y : DNode} {cx cy : List Value} (hb : w.heap[b]? = some (.cells (cx ++ cy).toArray 25 (0, 0))) (hx : Kd.FK k25 w P0 x cx) (hy : Kd.FK k25 w P0 y cy) : Kd.F k25 w (fun k => P0 k ∨ k = b) (some ⟨b, 0, none⟩) 2 [x, y] := by
  intro W' hW
  have hb' : W'.heap[b]? = some (.cells (cx ++ cy).toArray 25 (0, 0)) := (hW b (.inr rfl) (blk_lt hb)).trans hb
  have h1 : k25.K W' x cx := Kd.FK_now (Kd.FK_step hx fun k hk hl => hW k (.inl hk) hl)
  have h2 : k25.K W' y cy := Kd.FK_now (Kd.FK_step hy fun k hk hl => hW k (.inl hk) hl)
  exact C_of_block (d := k25) (xs := [x, y]) hb' (by have h3 := ((Reps.none (k25.K W') k25.sz).snoc h1 (k25.K_len h1)).snoc h2 (k25.K_len h2); simpa using h3) (by simp)
theorem NodeF.after {w w1 : World} {okx : Nat → Prop} {v v1 : Value} {x : DNode} {u : Value} (h : NodeF w (fun k => okx k ∧ some k ≠ v.ownBlock) x u) (hg : w.grownBy w1 v.ownBlock) (hat : v1.ownBlock = v.ownBlock ∨ ∃ b, v1.ownBlock = some b ∧ w.heap.size ≤ b) : NodeF w1 (fun k => okx k ∧ some k ≠ v1.ownBlock) x u := by
  obtain ⟨A1, c1, A4, c4, rfl, l1, g1, l4, g4⟩ := h
  exact ⟨A1, c1, A4, c4, rfl, l1, Kd.F_after g1 hg hat, l4, Kd.F_after g4 hg hat⟩
theorem Own.far {w W : World} {bl : List (Nat × Array Value × Nat)} (h : Own w W bl) {g j : Nat} (u : Value) (hw : w.heap.size ≤ g) (hn : ∀ g' cs t, (g', cs, t) ∈ bl → g' ≠ g) : Own w (W.setCell ⟨g, j, none⟩ u) bl :=
  ⟨below_set h.below hw, fun g' cs t hm => blk_far (p := ⟨g, j, none⟩) (h.blk g' cs t hm) (hn g' cs t hm) u, h.low⟩
/-- What its rows may lie in, beside the node's own block. -/
abbrev okR (w : World) (P : Nat → Prop) (bl : List (Nat × Array Value × Nat)) (gx : Nat) (k : Nat) : Prop := okO w P bl k ∧ k ≠ gx
theorem NodeF.fk {w : World} {P : Nat → Prop} {x : DNode} {A1 A4 : Option Addr} {c1 c4 : Nat} (h : NodeF w P x (.agg #[.int .i64 x.f0, .slice A1 x.f1.length c1, .int .i64 x.f2, .int .i64 x.f3, .slice A4 x.f4.length c4])) : Kd.FK k25 w P x [.int .i64 x.f0, .slice A1 x.f1.length c1, .int .i64 x.f2, .int .i64 x.f3, .slice A4 x.f4.length c4] := by
  obtain ⟨B1, d1, B4, d4, e, l1, g1, l4, g4⟩ := h
  cases e
  exact k25_mkF _ _ x l1 g1 l4 g4
theorem okR_new {w W : World} {bl : List (Nat × Array Value × Nat)} {gx t : Nat} {cs : Array Value} (h : Own w W bl) (hx : W.heap[gx]? = some (.cells cs t (0, 0))) (P : Nat → Prop) {k : Nat} (hk : W.heap.size ≤ k) : okR w P bl gx k := ⟨h.new P hk, by have := blk_lt hx; omega⟩
theorem okR_old {w W : World} {bl : List (Nat × Array Value × Nat)} {gx : Nat} (h : Own w W bl) (hx : w.heap.size ≤ gx) {P : Nat → Prop} {k : Nat} (hp : P k) (hk : k < w.heap.size) : okR w P bl gx k := ⟨h.old hp hk, by omega⟩
set_option maxHeartbeats 8000000 in
set_option maxRecDepth 100000 in
theorem rep_step (k : Nat) (c : Int) (st : Bool) (n : Nat) (ih : StepN k c st n) (P : Nat → Prop) (x0 : Int) (A1 : Option Addr) (c1 : Nat) (x1 : List S52) (x2 x3 : Int) (A4 : Option Addr) (c4 : Nat) (y : DNode) (w : World) (r first : DNode)
    (l1 : x1.length ≤ c1) (q1 : Kd.F k52 w P A1 x1.length x1) (l4 : 1 ≤ c4) (q4 : Kd.F k25 w P A4 1 [y]) (hf : stepS k c st n y = some first) (h : (srepL k first (nullS st false k y) k ⟨x0, x1, x2, x3, [y]⟩ []).bind (orN' k) = some r) :
    Calls Try.prog 38 #[.agg #[.int .i64 c, .bool st], .agg #[.int .i64 x0, .slice A1 x1.length c1, .int .i64 x2, .int .i64 x3, .slice A4 1 c4]] w fun e w' => ∃ rv, e = .returned rv ∧ NodeF w' (fun k => P k ∨ w.heap.size ≤ k) r rv ∧ Below w.heap.size w w' := by
  have hu := Try.underlying25
  have hus := Try.underlying45
  obtain ⟨all9, hall, hor⟩ := Option.bind_eq_some_iff.mp h
  have HAL0 := Aside0.mk hall
  have HOR := Aside0.mk hor
  have HQ := Aside0.mk (And.intro l1 (And.intro (Kd.F_bound q1) (And.intro l4 (Kd.F_bound q4))))
  have HIH := Aside0.mk ih
  have HF := Aside0.mk hf
  have HB0 := Aside0.mk (Below.refl w.heap.size w)
  clear h hall hor l1 q1 l4 q4 hf ih
  go_enter Try.func38, Try.ntmps38
  go_upto_region 1 with (first
    | ((with_reducible refine gate_dst (N := 2) rfl ?_); (try (refine gate_guard (by rfl) ?_; dsimp only)); refine box_event ?hg (N := 2) ?hd (cs := #[.int .i64 c, .bool st]) (t := 45) ?hr ?_; (case hd => rfl); (case hg => rfl); (case hr => first | (go_simp; done) | (go_simp; rfl)); intro gs hg w1 hbox hb; have HGS := Aside0.mk (by rw [hg]; exact Nat.le_refl _ : w.heap.size ≤ gs); have HB1 := Aside0.mk (below_step HB0.out hb); have HS1 := Aside0.mk hbox; clear hb hbox hg)
    | ((with_reducible refine gate_dst (N := 3) rfl ?_); (try (refine gate_guard (by rfl) ?_; dsimp only)); refine box_event ?hg (N := 3) ?hd (cs := #[.int .i64 x0, .slice A1 x1.length c1, .int .i64 x2, .int .i64 x3, .slice A4 1 c4]) (t := 25) ?hr ?_; (case hd => rfl); (case hg => rfl); (case hr => first | (go_simp; done) | (go_simp; rfl)); intro gx hg w2 hbox hb; have HGX := Aside0.mk (by rw [hg]; exact HB1.out.size : w.heap.size ≤ gx); have HNSX := Aside0.mk (show gs < gx by rw [hg]; exact blk_lt HS1.out); have HB2 := Aside0.mk (below_step HB1.out hb); have HS2 := Aside0.mk (blk_below HS1.out hb); have HX2 := Aside0.mk hbox; clear hb hbox hg)
    | ((with_reducible refine gate_dst (N := 4) rfl ?_); (try (refine gate_guard (by rfl) ?_; dsimp only)); refine box_event ?hg (N := 4) ?hd (cs := #[.int .i64 0, .slice none 0 0, .int .i64 0, .int .i64 0, .slice none 0 0]) (t := 25) ?hr ?_; (case hd => rfl); (case hg => rfl); (case hr => first | (go_simp; done) | (go_simp; rfl)); intro gr hg w3 hbox hb; have HGR := Aside0.mk (by rw [hg]; exact HB2.out.size : w.heap.size ≤ gr); have HNXR := Aside0.mk (show gx < gr by rw [hg]; exact blk_lt HX2.out); have HB := Aside0.mk (below_step HB2.out hb); have HS := Aside0.mk (blk_below HS2.out hb); have HX := Aside0.mk (blk_below HX2.out hb); have HR := Aside0.mk hbox; clear hb hbox hg))
  clear HB0 HB1 HB2 HS1 HS2 HX2
  (try simp only [Act.put, List.setIfInBounds_toArray, List.set_cons_zero, List.set_cons_succ])
  obtain ⟨ad, E1, e1, E4, e4, ee, h0, h1, h2, h3, h4, p1, p2, p3, p4⟩ := at_F (Kd.F_below HQ.out.2.2.2 HB.out) 0 (by simp)
  cases ee
  have hy : ([y] : List DNode).getD 0 z25 = y := rfl
  rw [hy] at h0 h1 h2 h3 h4 p1 p2 p3 p4
  have ea : ad.add (0 * 5) = ad := by
    show ad.add 0 = ad
    cases ad
    simp [Addr.add]
  rw [ea] at h0 h1 h2 h3 h4
  have HYF := Aside0.mk (show NodeF w3 (fun k => P k ∧ k < w.heap.size) y (.agg #[.int .i64 y.f0, .slice E1 y.f1.length e1, .int .i64 y.f2, .int .i64 y.f3, .slice E4 y.f4.length e4]) from ⟨E1, e1, E4, e4, rfl, p1, p2, p3, p4⟩)
  have z4 := blk_cell HX.out 4
  have u1 : ((0 : Int) < (1 : Int)) = True := eq_true (by omega)
  clear hy ea p1 p2 p3 p4
  go_upto_region 2 with (fail)
  clear h0 h1 h2 h3 h4 z4
  have HWA := Aside0.mk (below_alloc (Below.refl w3.heap.size w3) (.cells #[.int .i64 y.f0, .slice E1 y.f1.length e1, .int .i64 y.f2, .int .i64 y.f3, .slice E4 y.f4.length e4] 25))
  have HG5 := Aside0.mk (heap_alloc_new w3 (.cells #[.int .i64 y.f0, .slice E1 y.f1.length e1, .int .i64 y.f2, .int .i64 y.f3, .slice E4 y.f4.length e4] 25))
  have HY4 := Aside0.mk (HYF.out.below HWA.out)
  have HS4 := Aside0.mk (blk_below HS.out HWA.out)
  have HX4 := Aside0.mk (blk_below HX.out HWA.out)
  have HR4 := Aside0.mk (blk_below HR.out HWA.out)
  have HB4 := Aside0.mk (below_step HB.out HWA.out)
  have HNR5 := Aside0.mk (show gr < w3.heap.size from blk_lt HR.out)
  have HL5 := Aside0.mk (show w.heap.size ≤ w3.heap.size from HB.out.size)
  have HYF9 := HYF
  have HB39 := HB
  clear HWA HYF HS HX HR HB
  generalize w3.alloc (.cells #[.int .i64 y.f0, .slice E1 y.f1.length e1, .int .i64 y.f2, .int .i64 y.f3, .slice E4 y.f4.length e4] 25) = W4 at HG5 HY4 HS4 HX4 HR4 HB4 ⊢
  generalize w3.heap.size = g5 at HG5 HNR5 HL5 ⊢
  have v0 := blk_cell HG5.out 0
  have v1 := blk_cell HG5.out 1
  have v2 := blk_cell HG5.out 2
  have v3 := blk_cell HG5.out 3
  have v4 := blk_cell HG5.out 4
  have y0 := blk_cell HS4.out 0
  have y1 := blk_cell HS4.out 1
  have HC := Aside0.mk (HIH.out _ y _ first W4 HY4.out HF.out)
  go_upto_region 3 with (go_at_call 25; (with_reducible refine HC.out.mono ?_); rintro e_ w5 ⟨rv, rfl, hN, hb⟩; have HB5 := Aside0.mk (below_step HB4.out hb); have HS5 := Aside0.mk (blk_below HS4.out hb); have HX5 := Aside0.mk (blk_below HX4.out hb); have HR5 := Aside0.mk (blk_below HR4.out hb); have HG55 := Aside0.mk (blk_below HG5.out hb); have HY5 := Aside0.mk (HY4.out.below hb); have HZ5 := Aside0.mk hb.size; obtain ⟨G1, d1, G4, d4, rfl, m1, r1, m4, r4⟩ := hN; have HFF5 := Aside0.mk (And.intro m1 (And.intro r1 (And.intro m4 r4))); clear m1 r1 m4 r4 hb)
  clear v0 v1 v2 v3 v4 y0 y1
  have HWA := Aside0.mk (below_alloc (Below.refl w5.heap.size w5) (.cells #[.int .i64 first.f0, .slice G1 first.f1.length d1, .int .i64 first.f2, .int .i64 first.f3, .slice G4 first.f4.length d4] 25))
  have HG6 := Aside0.mk (heap_alloc_new w5 (.cells #[.int .i64 first.f0, .slice G1 first.f1.length d1, .int .i64 first.f2, .int .i64 first.f3, .slice G4 first.f4.length d4] 25))
  have HN56 := Aside0.mk (show g5 < w5.heap.size from blk_lt HG55.out)
  have hJ0 : Own w (w5.alloc (.cells #[.int .i64 first.f0, .slice G1 first.f1.length d1, .int .i64 first.f2, .int .i64 first.f3, .slice G4 first.f4.length d4] 25)) [(gs, #[.int .i64 c, .bool st], 45), (gr, #[.int .i64 0, .slice none 0 0, .int .i64 0, .int .i64 0, .slice none 0 0], 25), (g5, #[.int .i64 y.f0, .slice E1 y.f1.length e1, .int .i64 y.f2, .int .i64 y.f3, .slice E4 y.f4.length e4], 25), (w5.heap.size, #[.int .i64 first.f0, .slice G1 first.f1.length d1, .int .i64 first.f2, .int .i64 first.f3, .slice G4 first.f4.length d4], 25)] := by
    refine ⟨below_step HB5.out HWA.out, fun g cs t hm => ?_, fun g cs t hm => ?_⟩
    · simp only [List.mem_cons, List.not_mem_nil, or_false, Prod.mk.injEq] at hm
      rcases hm with ⟨rfl, rfl, rfl⟩ | ⟨rfl, rfl, rfl⟩ | ⟨rfl, rfl, rfl⟩ | ⟨rfl, rfl, rfl⟩
      · exact blk_below HS5.out HWA.out
      · exact blk_below HR5.out HWA.out
      · exact blk_below HG55.out HWA.out
      · exact HG6.out
    · simp only [List.mem_cons, List.not_mem_nil, or_false, Prod.mk.injEq] at hm
      rcases hm with ⟨rfl, rfl, rfl⟩ | ⟨rfl, rfl, rfl⟩ | ⟨rfl, rfl, rfl⟩ | ⟨rfl, rfl, rfl⟩
      · exact HGS.out
      · exact HGR.out
      · exact HL5.out
      · exact HB5.out.size
  have HJ0 := Aside0.mk hJ0
  have HX6 := Aside0.mk (blk_below HX5.out HWA.out)
  have HFN0 := Aside0.mk (show NodeF (w5.alloc (.cells #[.int .i64 first.f0, .slice G1 first.f1.length d1, .int .i64 first.f2, .int .i64 first.f3, .slice G4 first.f4.length d4] 25)) (fun k => ((P k ∧ k < w.heap.size) ∨ W4.heap.size ≤ k) ∧ k < w5.heap.size) first (.agg #[.int .i64 first.f0, .slice G1 first.f1.length d1, .int .i64 first.f2, .int .i64 first.f3, .slice G4 first.f4.length d4]) from NodeF.below (NodeF.bound ⟨G1, d1, G4, d4, rfl, HFF5.out.1, HFF5.out.2.1, HFF5.out.2.2.1, HFF5.out.2.2.2⟩) HWA.out)
  have HN4 := Aside0.mk (blk_lt HG5.out)
  clear hJ0 HWA HG6 HS5 HX5 HR5 HB5 HG55
  generalize w5.alloc (.cells #[.int .i64 first.f0, .slice G1 first.f1.length d1, .int .i64 first.f2, .int .i64 first.f3, .slice G4 first.f4.length d4] 25) = W6 at HJ0 HX6 HFN0 ⊢
  generalize w5.heap.size = g6 at HJ0 HFN0 HN56 ⊢
  generalize hbl : ([(gs, #[.int .i64 c, .bool st], 45), (gr, #[.int .i64 0, .slice none 0 0, .int .i64 0, .int .i64 0, .slice none 0 0], 25), (g5, #[.int .i64 y.f0, .slice E1 y.f1.length e1, .int .i64 y.f2, .int .i64 y.f3, .slice E4 y.f4.length e4], 25), (g6, #[.int .i64 first.f0, .slice G1 first.f1.length d1, .int .i64 first.f2, .int .i64 first.f3, .slice G4 first.f4.length d4], 25)] : List (Nat × Array Value × Nat)) = bl at HJ0
  have HMS := Aside0.mk (show (gs, #[.int .i64 c, .bool st], 45) ∈ bl by rw [← hbl]; simp)
  have HMR := Aside0.mk (show (gr, #[.int .i64 0, .slice none 0 0, .int .i64 0, .int .i64 0, .slice none 0 0], 25) ∈ bl by rw [← hbl]; simp)
  have HM5 := Aside0.mk (show (g5, #[.int .i64 y.f0, .slice E1 y.f1.length e1, .int .i64 y.f2, .int .i64 y.f3, .slice E4 y.f4.length e4], 25) ∈ bl by rw [← hbl]; simp)
  have HM6 := Aside0.mk (show (g6, #[.int .i64 first.f0, .slice G1 first.f1.length d1, .int .i64 first.f2, .int .i64 first.f3, .slice G4 first.f4.length d4], 25) ∈ bl by rw [← hbl]; simp)
  have HXN := Aside0.mk (show ∀ g cs t, (g, cs, t) ∈ bl → g ≠ gx by
    rw [← hbl]
    intro g cs t hm
    have := HNSX.out
    have := HNXR.out
    have := HNR5.out
    have := HN56.out
    simp only [List.mem_cons, List.not_mem_nil, or_false, Prod.mk.injEq] at hm
    rcases hm with ⟨rfl, _, _⟩ | ⟨rfl, _, _⟩ | ⟨rfl, _, _⟩ | ⟨rfl, _, _⟩ <;> omega)
  have HFN := Aside0.mk (show NodeF W6 (fun k => okR w P bl gx k ∧ some k ≠ (Value.slice none 0 0).ownBlock) first (.agg #[.int .i64 first.f0, .slice G1 first.f1.length d1, .int .i64 first.f2, .int .i64 first.f3, .slice G4 first.f4.length d4]) from NodeF.mono HFN0.out (fun k hk => by
    refine ⟨⟨⟨by rcases hk.1 with h | h; exact .inl h.1; exact .inr (by have := HB4.out.size; omega), ?_⟩, ?_⟩, by simp [Value.ownBlock]⟩
    · rw [← hbl]
      intro g cs t hm
      have := HNSX.out
      have := HNXR.out
      have := HNR5.out
      have := HN56.out
      have := HN4.out
      have := HGS.out
      have := HGR.out
      have := HL5.out
      have := hk.2
      simp only [List.mem_cons, List.not_mem_nil, or_false, Prod.mk.injEq] at hm
      rcases hk.1 with h | h <;> (try have := h.2) <;> rcases hm with ⟨rfl, _, _⟩ | ⟨rfl, _, _⟩ | ⟨rfl, _, _⟩ | ⟨rfl, _, _⟩ <;> omega
    · have := HNXR.out
      have := HNR5.out
      have := HN4.out
      have := HGX.out
      rcases hk.1 with h | h <;> (try have := h.2) <;> omega))
  have HYN : ∀ W', Below w.heap.size w W' → NodeF W' (fun k => P k ∧ k < w.heap.size) y (.agg #[.int .i64 y.f0, .slice E1 y.f1.length e1, .int .i64 y.f2, .int .i64 y.f3, .slice E4 y.f4.length e4]) := fun W' hb => HYF9.out.step (fun k hk _ => (hb.block k hk.2).trans (HB39.out.block k hk.2).symm)
  clear hbl HFN0 HN4 HN56 HNR5 HNXR HNSX HL5 HB4 HGS HZ5 HFF5 HY5 HG5 HY4 HS4 HX4 HR4 HIH HC HF
  have hEnd : ∀ (acc : List DNode) (vv : Value) (wz : World), acc = all9 → Own w wz bl → Kd.N k25 25 wz w.heap.size (okR w P bl gx) vv acc → ∃ A3 c3 ks, vv = .slice A3 acc.length c3 ∧ r = orK ks ∧ Calls Try.prog 37 #[.slice A3 acc.length c3] wz fun e w' => ∃ v, e = .returned v ∧ NodeF w' (fun k => okR w P bl gx k ∨ wz.heap.size ≤ k) (orK ks) v ∧ Below wz.heap.size wz w' := by
    intro acc vv wz ha hJ hN
    obtain ⟨A3, c3, rfl⟩ := Kd.N_slice hN
    subst ha
    obtain ⟨ks, hks, hr⟩ := Option.map_eq_some_iff.mp HOR.out
    exact ⟨A3, c3, ks, rfl, hr.symm, or_calls k k _ A3 c3 acc ks wz (Kd.N_F hN) hks⟩
  have HEND := Aside0.mk hEnd
  clear hEnd HOR
  go_wp2
  go_loopg [7] k (fun kq s7 wx => ∃ (lo hi : Int) (acc : List DNode), Aside0 (srepL k first (nullS st false k y) kq ⟨x0, x1, lo, hi, [y]⟩ acc = some all9) ∧ Aside0 (Kd.N k25 25 wx w.heap.size (okR w P bl gx) s7 acc) ∧ Aside0 (Own w wx bl) ∧ Aside0 (wx.heap[gx]? = some (.cells #[.int .i64 x0, .slice A1 x1.length c1, .int .i64 lo, .int .i64 hi, .slice (some ad) 1 c4] 25 (0, 0))) ∧ Aside0 (NodeF wx (fun k => okR w P bl gx k ∧ some k ≠ s7.ownBlock) first (.agg #[.int .i64 first.f0, .slice G1 first.f1.length d1, .int .i64 first.f2, .int .i64 first.f3, .slice G4 first.f4.length d4])))
  case atStart => exact ⟨x2, x3, [], HAL0, ⟨Kd.N_nil _ _ _ _ _⟩, HJ0, HX6, HFN⟩
  case round =>
    clear HAL0 HJ0 HX6 HFN
    obtain ⟨lo, hi, acc, HAL, HO, HJ, HX, HFN⟩ := hrel
    cases gk with
    | zero => exact absurd HAL.out (by simp [srepL])
    | succ k1 =>
    have hh := HAL.out
    simp only [srepL] at hh
    have z0 := blk_cell HX.out 0
    have z1 := blk_cell HX.out 1
    have z2 := blk_cell HX.out 2
    have z3 := blk_cell HX.out 3
    have z4 := blk_cell HX.out 4
    by_cases hz : hi = 0
    · rw [if_pos hz] at hh
      have HRR := Aside0.mk (Option.some.inj hh)
      subst hz
      clear hh HAL
      go_wp2_with (first | (go_at_call 48; (with_reducible refine (fewer_no x0 lo A1 _ c1 _ 1 c4 wr).mono ?_); rintro e_ w7 ⟨D1, i1, D4, i4, rfl, hb⟩; have HB8 := Aside0.mk (below_alloc hb (.cells #[.int .i64 0, .slice D1 0 i1, .int .i64 0, .int .i64 0, .slice D4 0 i4] 25)); have HJ8 := Aside0.mk (HJ.out.more HB8.out); have h9 := Kd.N_below HO.out HB8.out; rw [HRR.out] at h9; obtain ⟨A3, c3, ks, rfl, rfl, hc⟩ := HEND.out _ _ _ rfl HJ8.out h9; have HC := Aside0.mk hc; clear hc h9; clear hb) | (go_at_call 37; (with_reducible refine HC.out.mono ?_); rintro e_ w12 ⟨rv, rfl, hN, hb⟩; have HNF := Aside0.mk (NodeF.mono (P' := fun k => (P k ∨ w.heap.size ≤ k) ∧ k ≠ gr) hN (fun k hk => ⟨by rcases hk with hk | hk; exact hk.1.1; exact .inr (Nat.le_trans HJ8.out.below.size hk), by have := blk_lt (HJ8.out.blk _ _ _ HMR.out); rcases hk with hk | hk; exact hk.1.2 _ _ _ HMR.out; omega⟩)); have HB5 := Aside0.mk (below_step HJ8.out.below hb); have HGG := Aside0.mk (blk_below (HJ8.out.blk _ _ _ HMR.out) hb); obtain ⟨D1, d1, D4, d4, rfl, m1, q1, m4, q4⟩ := hN; have HNF := Aside0.mk (show NodeF _ _ (orK ks) (.agg #[.int .i64 (orK ks).f0, .slice D1 (orK ks).f1.length d1, .int .i64 (orK ks).f2, .int .i64 (orK ks).f3, .slice D4 (orK ks).f4.length d4]) from HNF.out); have t0 := blk_cell HGG.out 0; have t1 := blk_cell HGG.out 1; have t2 := blk_cell HGG.out 2; have t3 := blk_cell HGG.out 3; have t4 := blk_cell HGG.out 4; have f0 := blk_frozen HGG.out 0; have f1 := blk_frozen HGG.out 1; have f2 := blk_frozen HGG.out 2; have f3 := blk_frozen HGG.out 3; have f4 := blk_frozen HGG.out 4; clear m1 q1 m4 q4 hb))
      refine bodyPost_ret (results_cell_row rfl _ _ gr 25 #[.int .i64 (orK ks).f0, .slice D1 (orK ks).f1.length d1, .int .i64 (orK ks).f2, .int .i64 (orK ks).f3, .slice D4 (orK ks).f4.length d4] (0, 0) _ rfl (blk_put (blk_put (blk_put (blk_put (blk_put HGG.out 0 _ rfl) 1 _ rfl) 2 _ rfl) 3 _ rfl) 4 _ rfl) Try.underlying25 rfl (by kernel_rfl)) rfl ?_
      exact ⟨_, rfl, (((((HNF.out.far (fun k hk => hk.2) _).far (fun k hk => hk.2) _).far (fun k hk => hk.2) _).far (fun k hk => hk.2) _).far (fun k hk => hk.2) _).mono (fun k hk => hk.1), below_set (below_set (below_set (below_set (below_set HB5.out HGR.out) HGR.out) HGR.out) HGR.out) HGR.out⟩
    rw [if_neg hz] at hh
    by_cases ca : acc.length < 1099511627776
    rotate_left
    · rw [if_neg ca] at hh
      cases hh
    rw [if_pos ca] at hh
    have HAC := Aside0.mk ca
    have hfw : fewerN ⟨x0, x1, lo, hi, [y]⟩ = ⟨x0, x1, mx 0 (wrap64 (lo - 1)), if hi > 0 then wrap64 (hi - 1) else hi, [y]⟩ := rfl
    rw [hfw] at hh
    have hct := fewer_yes x0 lo hi A1 x1.length c1 (some ad) 1 c4 wr hz
    obtain ⟨lo2, hlo⟩ : ∃ j_ : Int, mx 0 (wrap64 (lo - 1)) = j_ := ⟨_, rfl⟩
    obtain ⟨hi2, hhi⟩ : ∃ j_ : Int, (if hi > 0 then wrap64 (hi - 1) else hi) = j_ := ⟨_, rfl⟩
    rw [hlo, hhi] at hh hct
    dsimp only at hh
    have HCT := Aside0.mk hct
    obtain ⟨acc2, hacc, hh⟩ := Option.bind_eq_some_iff.mp hh
    obtain ⟨b, hsm, hh⟩ := Option.bind_eq_some_iff.mp hh
    have HACC := Aside0.mk hacc
    have HSM := Aside0.mk hsm
    have HHH := Aside0.mk hh
    have HLO := Aside0.mk hlo
    clear hfw hct hlo hhi hh hsm hacc ca HAL
    go_upto_region 7 with (go_at_call 48; (with_reducible refine HCT.out.mono ?_); rintro e_ w7 ⟨rfl, hb⟩; have HW7 := Aside0.mk hb; clear hb)
    have HB8 := Aside0.mk (below_alloc HW7.out (.cells #[.int .i64 x0, .slice A1 x1.length c1, .int .i64 lo2, .int .i64 hi2, .slice (some ad) 1 c4] 25))
    have HLB := Aside0.mk (heap_alloc_new w7 (.cells #[.int .i64 x0, .slice A1 x1.length c1, .int .i64 lo2, .int .i64 hi2, .slice (some ad) 1 c4] 25))
    have HO8 := Aside0.mk (Kd.N_below HO.out HB8.out)
    have HJ8 := Aside0.mk (HJ.out.more HB8.out)
    have HX8 := Aside0.mk (blk_below HX.out HB8.out)
    have HF8 := Aside0.mk (HFN.out.below HB8.out)
    have HG8 := Aside0.mk (Nat.le_trans HJ.out.below.size HW7.out.size)
    have HX78 := Aside0.mk (Nat.lt_of_lt_of_le (blk_lt HX.out) HW7.out.size)
    have HO78 := Aside0.mk (show ∀ k, u7.ownBlock = some k → k < w7.heap.size from fun k hk => Nat.lt_of_lt_of_le (Kd.N_lt HO.out k hk) HW7.out.size)
    have HBL8 := Aside0.mk (show ∀ g cs t, (g, cs, t) ∈ bl → g < w7.heap.size from fun g cs t hm => Nat.lt_of_lt_of_le (blk_lt (HJ.out.blk g cs t hm)) HW7.out.size)
    clear z0 z1 z2 z3 z4 HO HJ HX HFN HCT
    generalize w7.alloc (.cells #[.int .i64 x0, .slice A1 x1.length c1, .int .i64 lo2, .int .i64 hi2, .slice (some ad) 1 c4] 25) = W8 at HB8 HLB HO8 HJ8 HX8 HF8 ⊢
    generalize w7.heap.size = g8 at HLB HG8 HX78 HO78 HBL8 ⊢
    have m0 := blk_cell HLB.out 3
    have m6 := HJ8.out.blk _ _ _ HM6.out
    have s0 := blk_cell m6 0
    have s1 := blk_cell m6 1
    have s2 := blk_cell m6 2
    have s3 := blk_cell m6 3
    have s4 := blk_cell m6 4
    clear m6
    by_cases h2 : hi2 = 0
    · have hac := HACC.out
      rw [if_pos h2] at hac
      have e2 : acc ++ [first] = acc2 := Option.some.inj hac
      have k2 : (hi2 == 0) = true := beq_iff_eq.mpr h2
      clear hac HACC h2
      go_upto_region 10 with (((with_reducible refine gate_builtin (b := .append) (xs := #[.tmp 29, .tmp 31]) rfl ?_); at_builtin; refine Kd.N_append k25 (w0 := w) w.heap.size rfl (.tmp 29) (.tmp 31) 23 25 (.agg #[.int .i64 0, .slice none 0 0, .int .i64 0, .int .i64 0, .slice none 0 0]) 72 rfl Try.underlying23 ninfo rfl (by decide) (by decide) _ acc first [.int .i64 first.f0, .slice G1 first.f1.length d1, .int .i64 first.f2, .int .i64 first.f3, .slice G4 first.f4.length d4] (okR w P bl gx) (fun k => okR w P bl gx k ∧ some k ≠ u7.ownBlock) rfl rfl (NodeF.fk HF8.out) ?sK ?sF (HO8.out) ?sB ?sS ?sL ?_; (case sK => exact fun k hk => hk); (case sF => (intro k hk; exact okR_new HJ8.out HX8.out P hk)); (case sB => exact (HJ8.out).below); (case sS => exact (HJ8.out).below.size); (case sL => (have := HAC.out; omega)); intro v w10 hn hb hg hat; have HJ10 := Aside0.mk (Own.grown (P := P) HJ8.out hg hb (fun k hk => (HO8.out.1 k hk).1)); have HX10 := Aside0.mk (blk_grown HX8.out hg (fun he => (HO8.out.1 gx he.symm).2 rfl)); have HL10 := Aside0.mk (blk_grown HLB.out hg (fun he => by have := HO78.out g8 he.symm; omega)); have HF10 := Aside0.mk (NodeF.after HF8.out hg hat); have HO10 := Aside0.mk hn; clear hn hb hg hat))
      clear m0 s0 s1 s2 s3 s4 HB8 HLB HO8 HJ8 HX8 HF8
      rw [e2] at HO10
      clear e2
      have HSC := Aside0.mk (same_calls k k ⟨x0, x1, lo2, hi2, [y]⟩ ⟨x0, x1, lo, hi, [y]⟩ (.agg #[.int .i64 x0, .slice A1 x1.length c1, .int .i64 lo2, .int .i64 hi2, .slice (some ad) 1 c4]) (.agg #[.int .i64 x0, .slice A1 x1.length c1, .int .i64 lo, .int .i64 hi, .slice (some ad) 1 c4]) b w10 ⟨A1, c1, some ad, c4, rfl, HQ.out.1, Kd.F_now (Kd.F_below HQ.out.2.1 HJ10.out.below), HQ.out.2.2.1, Kd.F_now (Kd.F_below HQ.out.2.2.2 HJ10.out.below)⟩ ⟨A1, c1, some ad, c4, rfl, HQ.out.1, Kd.F_now (Kd.F_below HQ.out.2.1 HJ10.out.below), HQ.out.2.2.1, Kd.F_now (Kd.F_below HQ.out.2.2.2 HJ10.out.below)⟩ HSM.out)
      have z0 := blk_cell HX10.out 0
      have z1 := blk_cell HX10.out 1
      have z2 := blk_cell HX10.out 2
      have z3 := blk_cell HX10.out 3
      have z4 := blk_cell HX10.out 4
      have m0 := blk_cell HL10.out 0
      have m1 := blk_cell HL10.out 1
      have m2 := blk_cell HL10.out 2
      have m3 := blk_cell HL10.out 3
      have m4 := blk_cell HL10.out 4
      cases b with
      | true =>
        have HRR := Aside0.mk (show acc2 = all9 from by have h9 := HHH.out; first | (rw [if_pos rfl] at h9; exact Option.some.inj h9) | (rw [if_pos trivial] at h9; exact Option.some.inj h9))
        clear HHH HSM
        go_wp2_with (first | (go_at_call 47; (with_reducible refine HSC.out.mono ?_); rintro e_ w11 ⟨rfl, hb⟩; have HS11 := Aside0.mk hb; have HJ11 := Aside0.mk (HJ10.out.more HS11.out); have h9 := Kd.N_below HO10.out HS11.out; rw [HRR.out] at h9; obtain ⟨A3, c3, ks, rfl, rfl, hc⟩ := HEND.out _ _ _ rfl HJ11.out h9; have HC := Aside0.mk hc; clear hc h9; clear hb) | (go_at_call 37; (with_reducible refine HC.out.mono ?_); rintro e_ w12 ⟨rv, rfl, hN, hb⟩; have HNF := Aside0.mk (NodeF.mono (P' := fun k => (P k ∨ w.heap.size ≤ k) ∧ k ≠ gr) hN (fun k hk => ⟨by rcases hk with hk | hk; exact hk.1.1; exact .inr (Nat.le_trans HJ11.out.below.size hk), by have := blk_lt (HJ11.out.blk _ _ _ HMR.out); rcases hk with hk | hk; exact hk.1.2 _ _ _ HMR.out; omega⟩)); have HB5 := Aside0.mk (below_step HJ11.out.below hb); have HGG := Aside0.mk (blk_below (HJ11.out.blk _ _ _ HMR.out) hb); obtain ⟨D1, d1, D4, d4, rfl, m1, q1, m4, q4⟩ := hN; have HNF := Aside0.mk (show NodeF _ _ (orK ks) (.agg #[.int .i64 (orK ks).f0, .slice D1 (orK ks).f1.length d1, .int .i64 (orK ks).f2, .int .i64 (orK ks).f3, .slice D4 (orK ks).f4.length d4]) from HNF.out); have t0 := blk_cell HGG.out 0; have t1 := blk_cell HGG.out 1; have t2 := blk_cell HGG.out 2; have t3 := blk_cell HGG.out 3; have t4 := blk_cell HGG.out 4; have f0 := blk_frozen HGG.out 0; have f1 := blk_frozen HGG.out 1; have f2 := blk_frozen HGG.out 2; have f3 := blk_frozen HGG.out 3; have f4 := blk_frozen HGG.out 4; clear m1 q1 m4 q4 hb))
        refine bodyPost_ret (results_cell_row rfl _ _ gr 25 #[.int .i64 (orK ks).f0, .slice D1 (orK ks).f1.length d1, .int .i64 (orK ks).f2, .int .i64 (orK ks).f3, .slice D4 (orK ks).f4.length d4] (0, 0) _ rfl (blk_put (blk_put (blk_put (blk_put (blk_put HGG.out 0 _ rfl) 1 _ rfl) 2 _ rfl) 3 _ rfl) 4 _ rfl) Try.underlying25 rfl (by kernel_rfl)) rfl ?_
        exact ⟨_, rfl, (((((HNF.out.far (fun k hk => hk.2) _).far (fun k hk => hk.2) _).far (fun k hk => hk.2) _).far (fun k hk => hk.2) _).far (fun k hk => hk.2) _).mono (fun k hk => hk.1), below_set (below_set (below_set (below_set (below_set HB5.out HGR.out) HGR.out) HGR.out) HGR.out) HGR.out⟩
      | false =>
        have h9 := HHH.out
        rw [if_neg (by simp)] at h9
        obtain ⟨z, hz, h9⟩ := Option.bind_eq_some_iff.mp h9
        have HNC := Aside0.mk (fun (W' : World) (hb : Below w10.heap.size w10 W') => null_calls st false k y (.agg #[.int .i64 y.f0, .slice E1 y.f1.length e1, .int .i64 y.f2, .int .i64 y.f3, .slice E4 y.f4.length e4]) z W' (NodeF.now (NodeF.below (HYN w10 HJ10.out.below) hb)) hz)
        clear HHH HSM hz
        cases z with
        | true =>
          have HRR := Aside0.mk (show srepL k first (nullS st false k y) k1 ⟨x0, x1, lo2, hi2, [y]⟩ acc2 = some all9 from by first | (rw [if_pos rfl] at h9; exact h9) | (rw [if_pos trivial] at h9; exact h9))
          clear h9
          go_wp2_with (first | (go_at_call 47; (with_reducible refine HSC.out.mono ?_); rintro e_ w11 ⟨rfl, hb⟩; have HS11 := Aside0.mk hb; have q5 := blk_below (HJ10.out.blk _ _ _ HM5.out) HS11.out; have v0 := blk_cell q5 0; have v1 := blk_cell q5 1; have v2 := blk_cell q5 2; have v3 := blk_cell q5 3; have v4 := blk_cell q5 4; have v5 := blk_cell (blk_below (HJ10.out.blk _ _ _ HMS.out) HS11.out) 1; clear q5; clear hb) | ((with_reducible refine gate_callee (f := 12) rfl ?_); (try (refine gate_guard (by rfl) ?_; dsimp only)); refine goesL_ (some 47) rfl rfl Try.func12 (by kernel_rfl) rfl #[.agg #[.int .i64 y.f0, .slice E1 y.f1.length e1, .int .i64 y.f2, .int .i64 y.f3, .slice E4 y.f4.length e4], .bool st, .bool false] rfl (by (try simp only [List.map_toArray, List.map_cons, List.map_nil]); first | done | rfl) ?_; (with_reducible refine (HNC.out _ HS11.out).mono ?_); rintro e_ w13 ⟨rfl, hb⟩; refine ⟨_, rfl, ?_⟩; have HS13 := Aside0.mk (below_step HS11.out hb); have HL13 := Aside0.mk (blk_below HL10.out HS13.out); have HX13 := Aside0.mk (blk_below HX10.out HS13.out); have n0 := blk_cell HL13.out 0; have n1 := blk_cell HL13.out 1; have n2 := blk_cell HL13.out 2; have n3 := blk_cell HL13.out 3; have n4 := blk_cell HL13.out 4; have f0 := blk_frozen HX13.out 0; have x0_ := blk_cell HX13.out 0; have f1 := blk_frozen HX13.out 1; have x1_ := blk_cell HX13.out 1; have f2 := blk_frozen HX13.out 2; have x2_ := blk_cell HX13.out 2; have f3 := blk_frozen HX13.out 3; have x3_ := blk_cell HX13.out 3; have f4 := blk_frozen HX13.out 4; have x4_ := blk_cell HX13.out 4; clear hb))
          go_roundg k1
          case measure => omega
          case rel => exact ⟨lo2, hi2, acc2, HRR, ⟨Kd.N_far (p := ⟨gx, 4, none⟩) (Kd.N_far (p := ⟨gx, 3, none⟩) (Kd.N_far (p := ⟨gx, 2, none⟩) (Kd.N_far (p := ⟨gx, 1, none⟩) (Kd.N_far (p := ⟨gx, 0, none⟩) (Kd.N_below HO10.out HS13.out) (fun k hk => hk.2) _) (fun k hk => hk.2) _) (fun k hk => hk.2) _) (fun k hk => hk.2) _) (fun k hk => hk.2) _⟩, ⟨Own.far (j := 4) (Own.far (j := 3) (Own.far (j := 2) (Own.far (j := 1) (Own.far (j := 0) (HJ10.out.more HS13.out) _ HGX.out HXN.out) _ HGX.out HXN.out) _ HGX.out HXN.out) _ HGX.out HXN.out) _ HGX.out HXN.out⟩, ⟨blk_put (blk_put (blk_put (blk_put (blk_put HX13.out 0 _ rfl) 1 _ rfl) 2 _ rfl) 3 _ rfl) 4 _ rfl⟩, ⟨NodeF.far (j := 4) (NodeF.far (j := 3) (NodeF.far (j := 2) (NodeF.far (j := 1) (NodeF.far (j := 0) (HF10.out.below HS13.out) (fun k hk => hk.1.2) _) (fun k hk => hk.1.2) _) (fun k hk => hk.1.2) _) (fun k hk => hk.1.2) _) (fun k hk => hk.1.2) _⟩⟩
        | false =>
          have HRR := Aside0.mk (show acc2 = all9 from by rw [if_neg (by simp)] at h9; exact Option.some.inj h9)
          clear h9
          go_wp2_with (first | (go_at_call 47; (with_reducible refine HSC.out.mono ?_); rintro e_ w11 ⟨rfl, hb⟩; have HS11 := Aside0.mk hb; have q5 := blk_below (HJ10.out.blk _ _ _ HM5.out) HS11.out; have v0 := blk_cell q5 0; have v1 := blk_cell q5 1; have v2 := blk_cell q5 2; have v3 := blk_cell q5 3; have v4 := blk_cell q5 4; have v5 := blk_cell (blk_below (HJ10.out.blk _ _ _ HMS.out) HS11.out) 1; clear q5; clear hb) | ((with_reducible refine gate_callee (f := 12) rfl ?_); (try (refine gate_guard (by rfl) ?_; dsimp only)); refine goesL_ (some 47) rfl rfl Try.func12 (by kernel_rfl) rfl #[.agg #[.int .i64 y.f0, .slice E1 y.f1.length e1, .int .i64 y.f2, .int .i64 y.f3, .slice E4 y.f4.length e4], .bool st, .bool false] rfl (by (try simp only [List.map_toArray, List.map_cons, List.map_nil]); first | done | rfl) ?_; (with_reducible refine (HNC.out _ HS11.out).mono ?_); rintro e_ w13 ⟨rfl, hb⟩; refine ⟨_, rfl, ?_⟩; have HS13 := Aside0.mk (below_step HS11.out hb); have HJ11 := Aside0.mk (HJ10.out.more HS13.out); have h9 := Kd.N_below HO10.out HS13.out; rw [HRR.out] at h9; obtain ⟨A3, c3, ks, rfl, rfl, hc⟩ := HEND.out _ _ _ rfl HJ11.out h9; have HC := Aside0.mk hc; clear hc h9; clear hb) | (go_at_call 37; (with_reducible refine HC.out.mono ?_); rintro e_ w14 ⟨rv, rfl, hN, hb⟩; have HNF := Aside0.mk (NodeF.mono (P' := fun k => (P k ∨ w.heap.size ≤ k) ∧ k ≠ gr) hN (fun k hk => ⟨by rcases hk with hk | hk; exact hk.1.1; exact .inr (Nat.le_trans HJ11.out.below.size hk), by have := blk_lt (HJ11.out.blk _ _ _ HMR.out); rcases hk with hk | hk; exact hk.1.2 _ _ _ HMR.out; omega⟩)); have HB5 := Aside0.mk (below_step HJ11.out.below hb); have HGG := Aside0.mk (blk_below (HJ11.out.blk _ _ _ HMR.out) hb); obtain ⟨D1, d1, D4, d4, rfl, m1, q1, m4, q4⟩ := hN; have HNF := Aside0.mk (show NodeF _ _ (orK ks) (.agg #[.int .i64 (orK ks).f0, .slice D1 (orK ks).f1.length d1, .int .i64 (orK ks).f2, .int .i64 (orK ks).f3, .slice D4 (orK ks).f4.length d4]) from HNF.out); have t0 := blk_cell HGG.out 0; have t1 := blk_cell HGG.out 1; have t2 := blk_cell HGG.out 2; have t3 := blk_cell HGG.out 3; have t4 := blk_cell HGG.out 4; have f0 := blk_frozen HGG.out 0; have f1 := blk_frozen HGG.out 1; have f2 := blk_frozen HGG.out 2; have f3 := blk_frozen HGG.out 3; have f4 := blk_frozen HGG.out 4; clear m1 q1 m4 q4 hb))
          refine bodyPost_ret (results_cell_row rfl _ _ gr 25 #[.int .i64 (orK ks).f0, .slice D1 (orK ks).f1.length d1, .int .i64 (orK ks).f2, .int .i64 (orK ks).f3, .slice D4 (orK ks).f4.length d4] (0, 0) _ rfl (blk_put (blk_put (blk_put (blk_put (blk_put HGG.out 0 _ rfl) 1 _ rfl) 2 _ rfl) 3 _ rfl) 4 _ rfl) Try.underlying25 rfl (by kernel_rfl)) rfl ?_
          exact ⟨_, rfl, (((((HNF.out.far (fun k hk => hk.2) _).far (fun k hk => hk.2) _).far (fun k hk => hk.2) _).far (fun k hk => hk.2) _).far (fun k hk => hk.2) _).mono (fun k hk => hk.1), below_set (below_set (below_set (below_set (below_set HB5.out HGR.out) HGR.out) HGR.out) HGR.out) HGR.out⟩
    · have hac := HACC.out
      rw [if_neg h2] at hac
      obtain ⟨d, hd, e2⟩ := Option.map_eq_some_iff.mp hac
      have k2 : (hi2 == 0) = false := beq_eq_false_iff_ne.mpr h2
      have m1 := blk_cell HLB.out 0
      have m2 := blk_cell HLB.out 1
      have m3 := blk_cell HLB.out 2
      have m4 := blk_cell HLB.out 4
      have HWT := Aside0.mk (below_alloc (Below.refl W8.heap.size W8) (.cells #[.int .i64 first.f0, .slice G1 first.f1.length d1, .int .i64 first.f2, .int .i64 first.f3, .slice G4 first.f4.length d4, .int .i64 x0, .slice A1 x1.length c1, .int .i64 lo2, .int .i64 hi2, .slice (some ad) 1 c4] 25))
      have HJC := Aside0.mk (show Calls Try.prog 45 #[.slice (some ⟨W8.heap.size, 0, none⟩) 2 2] _ _ from join_calls _ (some ⟨W8.heap.size, 0, none⟩) 2 [first, ⟨x0, x1, lo2, hi2, [y]⟩] d (W8.alloc (.cells #[.int .i64 first.f0, .slice G1 first.f1.length d1, .int .i64 first.f2, .int .i64 first.f3, .slice G4 first.f4.length d4, .int .i64 x0, .slice A1 x1.length c1, .int .i64 lo2, .int .i64 hi2, .slice (some ad) 1 c4] 25)) (F_two (P0 := fun k => okR w P bl gx k ∧ some k ≠ u7.ownBlock) (cx := [.int .i64 first.f0, .slice G1 first.f1.length d1, .int .i64 first.f2, .int .i64 first.f3, .slice G4 first.f4.length d4]) (cy := [.int .i64 x0, .slice A1 x1.length c1, .int .i64 lo2, .int .i64 hi2, .slice (some ad) 1 c4]) (heap_alloc_new W8 _) (NodeF.fk (HF8.out.below HWT.out)) (Kd.FK_mono (k25_mkF _ (fun k => P k ∧ k < w.heap.size) ⟨x0, x1, lo2, hi2, [y]⟩ HQ.out.1 (Kd.F_below HQ.out.2.1 (below_step HJ8.out.below HWT.out)) HQ.out.2.2.1 (Kd.F_below HQ.out.2.2.2 (below_step HJ8.out.below HWT.out))) (fun k hk => ⟨okR_old HJ8.out HGX.out hk.1 hk.2, fun he => by have := Kd.N_base HO8.out k he.symm; have := hk.2; omega⟩))) hd)
      have HSZ := Aside0.mk (show W8.heap.size < (W8.alloc (.cells #[.int .i64 first.f0, .slice G1 first.f1.length d1, .int .i64 first.f2, .int .i64 first.f3, .slice G4 first.f4.length d4, .int .i64 x0, .slice A1 x1.length c1, .int .i64 lo2, .int .i64 hi2, .slice (some ad) 1 c4] 25)).heap.size by simp)
      clear hac HACC h2 hd
      go_upto_region 10 with (first
        | (go_at_call 45; (with_reducible refine HJC.out.mono ?_); rintro e_ w9 ⟨rv, rfl, hN, hb⟩; have HB9 := Aside0.mk (below_step HWT.out hb); have HNF9 := Aside0.mk hN; obtain ⟨D1, i1, D4, i4, rfl, n1, r1, n4, r4⟩ := hN; have HNJ := Aside0.mk (And.intro n1 (And.intro r1 (And.intro n4 r4))); clear n1 r1 n4 r4 hb)
        | ((with_reducible refine gate_builtin (b := .append) (xs := #[.tmp 33, .tmp 38]) rfl ?_); at_builtin; refine Kd.N_append k25 (w0 := w) w.heap.size rfl (.tmp 33) (.tmp 38) 23 25 (.agg #[.int .i64 0, .slice none 0 0, .int .i64 0, .int .i64 0, .slice none 0 0]) 72 rfl Try.underlying23 ninfo rfl (by decide) (by decide) _ acc (joinK d) [.int .i64 (joinK d).f0, .slice D1 (joinK d).f1.length i1, .int .i64 (joinK d).f2, .int .i64 (joinK d).f3, .slice D4 (joinK d).f4.length i4] (okR w P bl gx) (fun k => ((okR w P bl gx k ∧ some k ≠ u7.ownBlock) ∨ k = W8.heap.size) ∨ (W8.alloc (.cells #[.int .i64 first.f0, .slice G1 first.f1.length d1, .int .i64 first.f2, .int .i64 first.f3, .slice G4 first.f4.length d4, .int .i64 x0, .slice A1 x1.length c1, .int .i64 lo2, .int .i64 hi2, .slice (some ad) 1 c4] 25)).heap.size ≤ k) rfl rfl (k25_mkF _ _ (joinK d) HNJ.out.1 HNJ.out.2.1 HNJ.out.2.2.1 HNJ.out.2.2.2) ?sK ?sF (Kd.N_below HO8.out HB9.out) ?sB ?sS ?sL ?_; (case sK => (intro k hk; rcases hk with (hk | hk) | hk; exact hk; exact ⟨okR_new HJ8.out HX8.out P (by omega), fun he => by have := Kd.N_lt HO8.out k he.symm; omega⟩; exact ⟨okR_new HJ8.out HX8.out P (by have := HSZ.out; omega), fun he => by have := Kd.N_lt HO8.out k he.symm; have := HSZ.out; omega⟩)); (case sF => (intro k hk; exact okR_new (HJ8.out.more HB9.out) (blk_below HX8.out HB9.out) P hk)); (case sB => exact ((HJ8.out.more HB9.out)).below); (case sS => exact ((HJ8.out.more HB9.out)).below.size); (case sL => (have := HAC.out; omega)); intro v w10 hn hb hg hat; have HJ10 := Aside0.mk (Own.grown (P := P) (HJ8.out.more HB9.out) hg hb (fun k hk => (HO8.out.1 k hk).1)); have HX10 := Aside0.mk (blk_grown (blk_below HX8.out HB9.out) hg (fun he => (HO8.out.1 gx he.symm).2 rfl)); have HL10 := Aside0.mk (blk_grown (blk_below HLB.out HB9.out) hg (fun he => by have := HO78.out g8 he.symm; omega)); have HF10 := Aside0.mk (NodeF.after (HF8.out.below HB9.out) hg hat); have HO10 := Aside0.mk hn; clear hn hb hg hat))
      clear m0 m1 m2 m3 m4 s0 s1 s2 s3 s4 HB8 HLB HO8 HJ8 HX8 HF8 HWT HJC HSZ HB9 HNF9 HNJ
      rw [e2] at HO10
      clear e2
      have HSC := Aside0.mk (same_calls k k ⟨x0, x1, lo2, hi2, [y]⟩ ⟨x0, x1, lo, hi, [y]⟩ (.agg #[.int .i64 x0, .slice A1 x1.length c1, .int .i64 lo2, .int .i64 hi2, .slice (some ad) 1 c4]) (.agg #[.int .i64 x0, .slice A1 x1.length c1, .int .i64 lo, .int .i64 hi, .slice (some ad) 1 c4]) b w10 ⟨A1, c1, some ad, c4, rfl, HQ.out.1, Kd.F_now (Kd.F_below HQ.out.2.1 HJ10.out.below), HQ.out.2.2.1, Kd.F_now (Kd.F_below HQ.out.2.2.2 HJ10.out.below)⟩ ⟨A1, c1, some ad, c4, rfl, HQ.out.1, Kd.F_now (Kd.F_below HQ.out.2.1 HJ10.out.below), HQ.out.2.2.1, Kd.F_now (Kd.F_below HQ.out.2.2.2 HJ10.out.below)⟩ HSM.out)
      have z0 := blk_cell HX10.out 0
      have z1 := blk_cell HX10.out 1
      have z2 := blk_cell HX10.out 2
      have z3 := blk_cell HX10.out 3
      have z4 := blk_cell HX10.out 4
      have m0 := blk_cell HL10.out 0
      have m1 := blk_cell HL10.out 1
      have m2 := blk_cell HL10.out 2
      have m3 := blk_cell HL10.out 3
      have m4 := blk_cell HL10.out 4
      cases b with
      | true =>
        have HRR := Aside0.mk (show acc2 = all9 from by have h9 := HHH.out; first | (rw [if_pos rfl] at h9; exact Option.some.inj h9) | (rw [if_pos trivial] at h9; exact Option.some.inj h9))
        clear HHH HSM
        go_wp2_with (first | (go_at_call 47; (with_reducible refine HSC.out.mono ?_); rintro e_ w11 ⟨rfl, hb⟩; have HS11 := Aside0.mk hb; have HJ11 := Aside0.mk (HJ10.out.more HS11.out); have h9 := Kd.N_below HO10.out HS11.out; rw [HRR.out] at h9; obtain ⟨A3, c3, ks, rfl, rfl, hc⟩ := HEND.out _ _ _ rfl HJ11.out h9; have HC := Aside0.mk hc; clear hc h9; clear hb) | (go_at_call 37; (with_reducible refine HC.out.mono ?_); rintro e_ w12 ⟨rv, rfl, hN, hb⟩; have HNF := Aside0.mk (NodeF.mono (P' := fun k => (P k ∨ w.heap.size ≤ k) ∧ k ≠ gr) hN (fun k hk => ⟨by rcases hk with hk | hk; exact hk.1.1; exact .inr (Nat.le_trans HJ11.out.below.size hk), by have := blk_lt (HJ11.out.blk _ _ _ HMR.out); rcases hk with hk | hk; exact hk.1.2 _ _ _ HMR.out; omega⟩)); have HB5 := Aside0.mk (below_step HJ11.out.below hb); have HGG := Aside0.mk (blk_below (HJ11.out.blk _ _ _ HMR.out) hb); obtain ⟨D1, d1, D4, d4, rfl, m1, q1, m4, q4⟩ := hN; have HNF := Aside0.mk (show NodeF _ _ (orK ks) (.agg #[.int .i64 (orK ks).f0, .slice D1 (orK ks).f1.length d1, .int .i64 (orK ks).f2, .int .i64 (orK ks).f3, .slice D4 (orK ks).f4.length d4]) from HNF.out); have t0 := blk_cell HGG.out 0; have t1 := blk_cell HGG.out 1; have t2 := blk_cell HGG.out 2; have t3 := blk_cell HGG.out 3; have t4 := blk_cell HGG.out 4; have f0 := blk_frozen HGG.out 0; have f1 := blk_frozen HGG.out 1; have f2 := blk_frozen HGG.out 2; have f3 := blk_frozen HGG.out 3; have f4 := blk_frozen HGG.out 4; clear m1 q1 m4 q4 hb))
        refine bodyPost_ret (results_cell_row rfl _ _ gr 25 #[.int .i64 (orK ks).f0, .slice D1 (orK ks).f1.length d1, .int .i64 (orK ks).f2, .int .i64 (orK ks).f3, .slice D4 (orK ks).f4.length d4] (0, 0) _ rfl (blk_put (blk_put (blk_put (blk_put (blk_put HGG.out 0 _ rfl) 1 _ rfl) 2 _ rfl) 3 _ rfl) 4 _ rfl) Try.underlying25 rfl (by kernel_rfl)) rfl ?_
        exact ⟨_, rfl, (((((HNF.out.far (fun k hk => hk.2) _).far (fun k hk => hk.2) _).far (fun k hk => hk.2) _).far (fun k hk => hk.2) _).far (fun k hk => hk.2) _).mono (fun k hk => hk.1), below_set (below_set (below_set (below_set (below_set HB5.out HGR.out) HGR.out) HGR.out) HGR.out) HGR.out⟩
      | false =>
        have h9 := HHH.out
        rw [if_neg (by simp)] at h9
        obtain ⟨z, hz, h9⟩ := Option.bind_eq_some_iff.mp h9
        have HNC := Aside0.mk (fun (W' : World) (hb : Below w10.heap.size w10 W') => null_calls st false k y (.agg #[.int .i64 y.f0, .slice E1 y.f1.length e1, .int .i64 y.f2, .int .i64 y.f3, .slice E4 y.f4.length e4]) z W' (NodeF.now (NodeF.below (HYN w10 HJ10.out.below) hb)) hz)
        clear HHH HSM hz
        cases z with
        | true =>
          have HRR := Aside0.mk (show srepL k first (nullS st false k y) k1 ⟨x0, x1, lo2, hi2, [y]⟩ acc2 = some all9 from by first | (rw [if_pos rfl] at h9; exact h9) | (rw [if_pos trivial] at h9; exact h9))
          clear h9
          go_wp2_with (first | (go_at_call 47; (with_reducible refine HSC.out.mono ?_); rintro e_ w11 ⟨rfl, hb⟩; have HS11 := Aside0.mk hb; have q5 := blk_below (HJ10.out.blk _ _ _ HM5.out) HS11.out; have v0 := blk_cell q5 0; have v1 := blk_cell q5 1; have v2 := blk_cell q5 2; have v3 := blk_cell q5 3; have v4 := blk_cell q5 4; have v5 := blk_cell (blk_below (HJ10.out.blk _ _ _ HMS.out) HS11.out) 1; clear q5; clear hb) | ((with_reducible refine gate_callee (f := 12) rfl ?_); (try (refine gate_guard (by rfl) ?_; dsimp only)); refine goesL_ (some 47) rfl rfl Try.func12 (by kernel_rfl) rfl #[.agg #[.int .i64 y.f0, .slice E1 y.f1.length e1, .int .i64 y.f2, .int .i64 y.f3, .slice E4 y.f4.length e4], .bool st, .bool false] rfl (by (try simp only [List.map_toArray, List.map_cons, List.map_nil]); first | done | rfl) ?_; (with_reducible refine (HNC.out _ HS11.out).mono ?_); rintro e_ w13 ⟨rfl, hb⟩; refine ⟨_, rfl, ?_⟩; have HS13 := Aside0.mk (below_step HS11.out hb); have HL13 := Aside0.mk (blk_below HL10.out HS13.out); have HX13 := Aside0.mk (blk_below HX10.out HS13.out); have n0 := blk_cell HL13.out 0; have n1 := blk_cell HL13.out 1; have n2 := blk_cell HL13.out 2; have n3 := blk_cell HL13.out 3; have n4 := blk_cell HL13.out 4; have f0 := blk_frozen HX13.out 0; have x0_ := blk_cell HX13.out 0; have f1 := blk_frozen HX13.out 1; have x1_ := blk_cell HX13.out 1; have f2 := blk_frozen HX13.out 2; have x2_ := blk_cell HX13.out 2; have f3 := blk_frozen HX13.out 3; have x3_ := blk_cell HX13.out 3; have f4 := blk_frozen HX13.out 4; have x4_ := blk_cell HX13.out 4; clear hb))
          go_roundg k1
          case measure => omega
          case rel => exact ⟨lo2, hi2, acc2, HRR, ⟨Kd.N_far (p := ⟨gx, 4, none⟩) (Kd.N_far (p := ⟨gx, 3, none⟩) (Kd.N_far (p := ⟨gx, 2, none⟩) (Kd.N_far (p := ⟨gx, 1, none⟩) (Kd.N_far (p := ⟨gx, 0, none⟩) (Kd.N_below HO10.out HS13.out) (fun k hk => hk.2) _) (fun k hk => hk.2) _) (fun k hk => hk.2) _) (fun k hk => hk.2) _) (fun k hk => hk.2) _⟩, ⟨Own.far (j := 4) (Own.far (j := 3) (Own.far (j := 2) (Own.far (j := 1) (Own.far (j := 0) (HJ10.out.more HS13.out) _ HGX.out HXN.out) _ HGX.out HXN.out) _ HGX.out HXN.out) _ HGX.out HXN.out) _ HGX.out HXN.out⟩, ⟨blk_put (blk_put (blk_put (blk_put (blk_put HX13.out 0 _ rfl) 1 _ rfl) 2 _ rfl) 3 _ rfl) 4 _ rfl⟩, ⟨NodeF.far (j := 4) (NodeF.far (j := 3) (NodeF.far (j := 2) (NodeF.far (j := 1) (NodeF.far (j := 0) (HF10.out.below HS13.out) (fun k hk => hk.1.2) _) (fun k hk => hk.1.2) _) (fun k hk => hk.1.2) _) (fun k hk => hk.1.2) _) (fun k hk => hk.1.2) _⟩⟩
        | false =>
          have HRR := Aside0.mk (show acc2 = all9 from by rw [if_neg (by simp)] at h9; exact Option.some.inj h9)
          clear h9
          go_wp2_with (first | (go_at_call 47; (with_reducible refine HSC.out.mono ?_); rintro e_ w11 ⟨rfl, hb⟩; have HS11 := Aside0.mk hb; have q5 := blk_below (HJ10.out.blk _ _ _ HM5.out) HS11.out; have v0 := blk_cell q5 0; have v1 := blk_cell q5 1; have v2 := blk_cell q5 2; have v3 := blk_cell q5 3; have v4 := blk_cell q5 4; have v5 := blk_cell (blk_below (HJ10.out.blk _ _ _ HMS.out) HS11.out) 1; clear q5; clear hb) | ((with_reducible refine gate_callee (f := 12) rfl ?_); (try (refine gate_guard (by rfl) ?_; dsimp only)); refine goesL_ (some 47) rfl rfl Try.func12 (by kernel_rfl) rfl #[.agg #[.int .i64 y.f0, .slice E1 y.f1.length e1, .int .i64 y.f2, .int .i64 y.f3, .slice E4 y.f4.length e4], .bool st, .bool false] rfl (by (try simp only [List.map_toArray, List.map_cons, List.map_nil]); first | done | rfl) ?_; (with_reducible refine (HNC.out _ HS11.out).mono ?_); rintro e_ w13 ⟨rfl, hb⟩; refine ⟨_, rfl, ?_⟩; have HS13 := Aside0.mk (below_step HS11.out hb); have HJ11 := Aside0.mk (HJ10.out.more HS13.out); have h9 := Kd.N_below HO10.out HS13.out; rw [HRR.out] at h9; obtain ⟨A3, c3, ks, rfl, rfl, hc⟩ := HEND.out _ _ _ rfl HJ11.out h9; have HC := Aside0.mk hc; clear hc h9; clear hb) | (go_at_call 37; (with_reducible refine HC.out.mono ?_); rintro e_ w14 ⟨rv, rfl, hN, hb⟩; have HNF := Aside0.mk (NodeF.mono (P' := fun k => (P k ∨ w.heap.size ≤ k) ∧ k ≠ gr) hN (fun k hk => ⟨by rcases hk with hk | hk; exact hk.1.1; exact .inr (Nat.le_trans HJ11.out.below.size hk), by have := blk_lt (HJ11.out.blk _ _ _ HMR.out); rcases hk with hk | hk; exact hk.1.2 _ _ _ HMR.out; omega⟩)); have HB5 := Aside0.mk (below_step HJ11.out.below hb); have HGG := Aside0.mk (blk_below (HJ11.out.blk _ _ _ HMR.out) hb); obtain ⟨D1, d1, D4, d4, rfl, m1, q1, m4, q4⟩ := hN; have HNF := Aside0.mk (show NodeF _ _ (orK ks) (.agg #[.int .i64 (orK ks).f0, .slice D1 (orK ks).f1.length d1, .int .i64 (orK ks).f2, .int .i64 (orK ks).f3, .slice D4 (orK ks).f4.length d4]) from HNF.out); have t0 := blk_cell HGG.out 0; have t1 := blk_cell HGG.out 1; have t2 := blk_cell HGG.out 2; have t3 := blk_cell HGG.out 3; have t4 := blk_cell HGG.out 4; have f0 := blk_frozen HGG.out 0; have f1 := blk_frozen HGG.out 1; have f2 := blk_frozen HGG.out 2; have f3 := blk_frozen HGG.out 3; have f4 := blk_frozen HGG.out 4; clear m1 q1 m4 q4 hb))
          refine bodyPost_ret (results_cell_row rfl _ _ gr 25 #[.int .i64 (orK ks).f0, .slice D1 (orK ks).f1.length d1, .int .i64 (orK ks).f2, .int .i64 (orK ks).f3, .slice D4 (orK ks).f4.length d4] (0, 0) _ rfl (blk_put (blk_put (blk_put (blk_put (blk_put HGG.out 0 _ rfl) 1 _ rfl) 2 _ rfl) 3 _ rfl) 4 _ rfl) Try.underlying25 rfl (by kernel_rfl)) rfl ?_
          exact ⟨_, rfl, (((((HNF.out.far (fun k hk => hk.2) _).far (fun k hk => hk.2) _).far (fun k hk => hk.2) _).far (fun k hk => hk.2) _).far (fun k hk => hk.2) _).mono (fun k hk => hk.1), below_set (below_set (below_set (below_set (below_set HB5.out HGR.out) HGR.out) HGR.out) HGR.out) HGR.out⟩
end Go.Proofs.Ytaphbechnjmlgaa.P
