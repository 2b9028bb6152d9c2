/- Texts of this claim put together by a program of its own (PRight, POpen, PCase, PureSwapBalance), what the law does not use left out: each part's statements bear their own conditions. -/
import Derived.Test.YthgmkbghdobmlaaC8
import Derived.Test.YthgmkbghdobmlaaC7
import Derived.OpenShut
import Derived.Lib.SmallJoins
import Derived.Deep.Fields
import Derived.Deep.Grids
import Derived.SizedLaws
import Derived.Test.YthgmkbghdobmlaaC0
import Derived.Deep.SlicePairs
import Derived.ChangeSlices
namespace Go.Proofs.Ythgmkbghdobmlaa.P
open Go.RowKit Go.Proofs.YthgmkbghdobmlaaW.PrintWords Go.Proofs.YthgmkbghdobmlaaW.PrintLast Go.Proofs.YthgmkbghdobmlaaW.PrintMore
set_option linter.unusedVariables false
set_option linter.unusedSimpArgs false

theorem j3_some (l : List Int) (hl : l.length ≤ 9000) (i : Nat) (hi : i < l.length) (next : ∀ (op : List Int) (m : Int), op.length ≤ i + 1 → ∃ r, Ev (fun k => ductusref26_walk.l0 k l op m ((i + 1 : Nat) : Int)) r) (op : List Int) (m q : Int) (b : Bool) (ho : op.length ≤ i) (hq : b = false → q < 0 → 0 < op.length) :
    ∃ r, Ev (fun k => ductusref26_walk.j3 k l op m (i : Int) q b) r := by
  have hw : wrap64 ((i : Int) + 1) = ((i + 1 : Nat) : Int) := wrap_succ i (by omega)
  cases b with
  | true => exact ⟨_, ev_one fun k => by simp only [ductusref26_walk.j3, if_true]; rfl⟩
  | false =>
    by_cases c : q < 0
    · have hp := hq rfl c
      have hw2 : wrap64 ((op.length : Int) - 1) = ((op.length - 1 : Nat) : Int) := by
        rw [wrap_id (by omega) (by omega)]
        omega
      obtain ⟨r, hr⟩ := next (op.take (op.length - 1)) m (by rw [List.length_take]; omega)
      refine ⟨r, ev_step hr fun k hk => ?_⟩
      simp only [ductusref26_walk.j3, Bool.false_eq_true, if_false]
      rw [if_pos c, hw2, if_pos (by omega), if_pos (by omega), Int.toNat_natCast, hw]
      exact hk
    · obtain ⟨r, hr⟩ := next op m (by omega)
      refine ⟨r, ev_step hr fun k hk => ?_⟩
      simp only [ductusref26_walk.j3, Bool.false_eq_true, if_false]
      rw [if_neg c, hw]
      exact hk
theorem j2_some (l : List Int) (hl : l.length ≤ 9000) (i : Nat) (hi : i < l.length) (next : ∀ (op : List Int) (m : Int), op.length ≤ i + 1 → ∃ r, Ev (fun k => ductusref26_walk.l0 k l op m ((i + 1 : Nat) : Int)) r) (op : List Int) (m q : Int) (b : Bool) (ho : op.length ≤ i) (hq : b = false → q < 0 → 0 < op.length) :
    ∃ r, Ev (fun k => ductusref26_walk.j2 k l op m (i : Int) q b) r := by
  cases b with
  | true =>
    obtain ⟨r, hr⟩ := j3_some l hl i hi next op m q true ho (fun h => by cases h)
    refine ⟨r, ev_step hr fun k hk => ?_⟩
    simp only [ductusref26_walk.j2, if_true]
    exact hk
  | false =>
    by_cases c : q = 3
    · obtain ⟨r, hr⟩ := j3_some l hl i hi next op m q (decide ((op.length : Int) > 0)) ho (fun _ h => by omega)
      refine ⟨r, ev_step hr fun k hk => ?_⟩
      simp only [ductusref26_walk.j2, Bool.false_eq_true, if_false]
      rw [if_pos c]
      exact hk
    · obtain ⟨r, hr⟩ := j3_some l hl i hi next op m q false ho hq
      refine ⟨r, ev_step hr fun k hk => ?_⟩
      simp only [ductusref26_walk.j2, Bool.false_eq_true, if_false]
      rw [if_neg c]
      exact hk
theorem walk_some (l : List Int) (hl : l.length ≤ 9000) (d : Nat) : ∀ (i : Nat) (op : List Int) (m : Int), i + d = l.length → op.length ≤ i → ∃ r, Ev (fun k => ductusref26_walk.l0 k l op m (i : Int)) r := by
  induction d with
  | zero =>
    intro i op m hi ho
    by_cases c : (op.length : Int) > 0
    · exact ⟨_, ev_one fun k => by
        simp only [ductusref26_walk.l0]
        rw [if_neg (by omega), if_pos c]⟩
    · exact ⟨_, ev_one fun k => by
        simp only [ductusref26_walk.l0]
        rw [if_neg (by omega), if_neg c]⟩
  | succ d ih =>
    intro i op m hi ho
    have hw : wrap64 ((i : Int) + 1) = ((i + 1 : Nat) : Int) := wrap_succ i (by omega)
    have next : ∀ (op : List Int) (m : Int), op.length ≤ i + 1 → ∃ r, Ev (fun k => ductusref26_walk.l0 k l op m ((i + 1 : Nat) : Int)) r := fun op m h => ih (i + 1) op m (by omega) h
    have hr := role_ev (rd l (i : Int))
    obtain ⟨q, hq⟩ : ∃ q, roleK (cls (rd l (i : Int))) = q := ⟨_, rfl⟩
    rw [hq] at hr
    have hjT : ∃ r, Ev (fun k => ductusref26_walk.j1 k l op m (i : Int) q true) r := by
      obtain ⟨r, hx⟩ := next (op ++ [q]) (mx m (((op ++ [q]).length : Nat) : Int)) (by rw [List.length_append]; simp; omega)
      refine ⟨r, ev_step hx fun k hk => ?_⟩
      simp only [ductusref26_walk.j1, if_true, Option.bind_some, List.nil_append]
      rw [if_pos (by simp; omega), if_pos (by omega), hw]
      exact hk
    have hjF : ∃ r, Ev (fun k => ductusref26_walk.j1 k l op m (i : Int) q false) r := by
      by_cases c : q < 0
      · by_cases c2 : (op.length : Int) = 0
        · obtain ⟨r, hx⟩ := j2_some l hl i (by omega) next op m q true ho (fun h => by cases h)
          refine ⟨r, ev_step hx fun k hk => ?_⟩
          simp only [ductusref26_walk.j1, Bool.false_eq_true, if_false]
          rw [if_pos c, if_pos c2]
          exact hk
        · have hw2 : wrap64 ((op.length : Int) - 1) = ((op.length - 1 : Nat) : Int) := by
            rw [wrap_id (by omega) (by omega)]
            omega
          obtain ⟨r, hx⟩ := j2_some l hl i (by omega) next op m q ((rd op (((op.length - 1 : Nat) : Int))) != (wrap64 (-q))) ho (fun _ _ => by omega)
          refine ⟨r, ev_step hx fun k hk => ?_⟩
          simp only [ductusref26_walk.j1, Bool.false_eq_true, if_false]
          rw [if_pos c, if_neg c2, hw2, if_pos (by omega), if_pos (by omega)]
          exact hk
      · obtain ⟨r, hx⟩ := j2_some l hl i (by omega) next op m q false ho (fun _ h => (c h).elim)
        refine ⟨r, ev_step hx fun k hk => ?_⟩
        simp only [ductusref26_walk.j1, Bool.false_eq_true, if_false]
        rw [if_neg c]
        exact hk
    by_cases c1 : q = 1
    · obtain ⟨r, hx⟩ := hjT
      refine ⟨r, ev_step2 hr hx fun k hk hk2 => ?_⟩
      simp only [ductusref26_walk.l0]
      rw [if_pos (by omega), if_pos (by omega), hk, Option.bind_some, if_pos c1]
      exact hk2
    · by_cases c2 : q = 2
      · obtain ⟨r, hx⟩ := hjT
        refine ⟨r, ev_step2 hr hx fun k hk hk2 => ?_⟩
        simp only [ductusref26_walk.l0]
        rw [if_pos (by omega), if_pos (by omega), hk, Option.bind_some, if_neg c1, show (q == 2) = true from beq_iff_eq.2 c2]
        exact hk2
      · obtain ⟨r, hx⟩ := hjF
        refine ⟨r, ev_step2 hr hx fun k hk hk2 => ?_⟩
        simp only [ductusref26_walk.l0]
        rw [if_pos (by omega), if_pos (by omega), hk, Option.bind_some, if_neg c1, show (q == 2) = false from beq_eq_false_iff_ne.2 c2]
        exact hk2
theorem right_some (l : List Int) (hl : l.length ≤ 9000) : ∃ b, Ev (fun k => ductusref26_Right.f k l) b := by
  obtain ⟨r, hr⟩ := walk_some l hl l.length 0 [] 0 (by omega) (by simp)
  refine ⟨decide (r.1 < 0), ev_same hr fun k hk => ?_⟩
  unfold ductusref26_Right.f ductusref26_Wrong.f ductusref26_walk.f
  have hk2 : ductusref26_walk.l0 k l [] 0 0 = some r := hk
  rw [hk2, Option.bind_some, Option.bind_some]
end Go.Proofs.Ythgmkbghdobmlaa.P
namespace Go.Proofs.Ythgmkbghdobmlaa.P
open Go.Joins Go.Deep Go.ChangeShapes Go.WideShapes
set_option linter.unusedVariables false
variable {H : Type} {enc : TypeId × Value → H} {P : Program} {w : World} {base : Nat} {spare : Nat → Bool} {held : Bool}

theorem open_str3 {r : Reach} {b0 : Nat} {t : TypeId} {f0 f1 f2 : Field} {v : Value} {d : DataW H} {p : List MemPlace} (hs : P.underlying t = some (.struct #[f0, f1, f2])) (hone : oneCellFields P #[f0, f1, f2] = true) (hC : P.cellsOf t = 3) (hv : Value.okWide P w r b0 t v) (h : DataW.Trod enc P w base spare held t v d p) :
    ∃ (v0 v1 v2 : Value) (y0 y1 y2 : DataW H × List MemPlace) (n : Nat), v = .agg #[v0, v1, v2] ∧ True ∧ True ∧ DataW.trod enc P w base spare held n f0.type [v0] = some y0 ∧ DataW.trod enc P w base spare held n f1.type [v1] = some y1 ∧ DataW.trod enc P w base spare held n f2.type [v2] = some y2 := by
  obtain ⟨v0, v1, v2, y0, y1, y2, n, h1, _, _, h2, h3, h4⟩ := open_agg3 hs hone hC hv h
  exact ⟨v0, v1, v2, y0, y1, y2, n, h1, trivial, trivial, h2, h3, h4⟩

end Go.Proofs.Ythgmkbghdobmlaa.P
namespace Go.Proofs.Ythgmkbghdobmlaa.P
open Go.Joins Go.Deep Go.ChangeShapes Go.WideShapes
open Go.Proofs.YthgmkbghdobmlaaW.PrintWords
set_option linter.unusedVariables false
variable {H : Type} {enc : TypeId × Value → H} {P : Program} {w : World} {base : Nat} {held : Bool}

/-- A whole number that its kind holds. -/
abbrev fits (k : IntKind) (x : Int) : Prop := (Lit.int k x).wf = true
theorem open_ints1 {t e : TypeId} {k : IntKind} {n : Nat} {v : Value} {y : DataW H × List MemPlace} (ht : P.underlying t = some (.slice e)) (he : P.underlying e = some (.int k)) (hc : P.cellsOf e = 1)
    (hf : DataW.trod enc P w base (fun _ => true) held n t [v] = some y) : ∃ (a : Option Addr) (cap : Nat) (l : List Int), v = .slice a l.length cap ∧ l.length ≤ cap ∧ l.length ≤ maxLen ∧ Kd.C (Kd.int k) w a l.length l ∧ ∀ x ∈ l, fits k x := by
  have hv : ∃ (a : Option Addr) (len cap : Nat) (zs : List Int), v = .slice a len cap ∧ ((a = none ∧ len = 0 ∧ cap = 0 ∧ zs = []) ∨ ∃ x, a = some x ∧ len ≤ cap ∧ cap ≤ maxLen ∧ zs.length = cap ∧ (∀ i, i < zs.length → w.cell? (x.add i) = some (.int k (zs.getD i 0))) ∧ ∀ n ∈ zs, (Lit.int k n).wf = true) := by
    rcases open_ints ht he hc hf with ⟨hcs, _⟩ | ⟨x, l, c, zs, hcs, _, hl, hm, hz, _, hcell, hwz⟩
    · exact ⟨none, 0, 0, [], (List.cons.inj hcs).1, .inl ⟨rfl, rfl, rfl, rfl⟩⟩
    · exact ⟨some x, l, c, zs, (List.cons.inj hcs).1, .inr ⟨x, rfl, hl, hm, by simpa using hz, hcell, hwz⟩⟩
  obtain ⟨a, len, cap, zs, rfl, h⟩ := hv
  obtain ⟨l0, rfl, hr0, hm0, hw0, hc0⟩ := ReadsInt.ofRowC h
  exact ⟨a, cap, l0, rfl, hc0, hm0, Kd.C_of_reads (d := (0 : Int)) (h1 := fun _ => rfl) hr0, hw0⟩
instance : Inhabited S39 := ⟨z39⟩
theorem open_spans1 {t e : TypeId} {f0 f1 : Field} {n : Nat} {v : Value} {y : DataW H × List MemPlace} (ht : P.underlying t = some (.slice e)) (he : P.underlying e = some (.struct #[f0, f1]))
    (ce : P.cellsOf e = 2) (o0 : f0.offset = 0) (o1 : f1.offset = 1) (c0 : P.cellsOf f0.type = 1) (c1 : P.cellsOf f1.type = 1) (h0 : P.underlying f0.type = some (.int .i64)) (h1 : P.underlying f1.type = some (.int .i64))
    (hf : DataW.trod enc P w base (fun _ => true) held n t [v] = some y) : ∃ (a : Option Addr) (cap : Nat) (l : List S39), v = .slice a l.length cap ∧ l.length ≤ cap ∧ l.length ≤ maxLen ∧ Kd.C k39 w a l.length l ∧ ∀ x ∈ l, fits .i64 x.f0 ∧ fits .i64 x.f1 := by
  rcases open_slice_pairs ht he ce o0 o1 c0 c1 hf with ⟨hcs, _⟩ | ⟨a, len, cap, m, n', V0, V1, D0, D1, P0, P1, hcs, _, hl, hm, hmm, _, hx⟩
  · obtain rfl := (List.cons.inj hcs).1
    exact ⟨none, 0, [], rfl, Nat.le_refl _, Nat.zero_le _, ⟨rfl, by simp, fun h => absurd h (Nat.lt_irrefl 0)⟩, by simp⟩
  · obtain rfl := (List.cons.inj hcs).1
    have hml : m = cap := by rw [hmm, if_pos rfl]
    have ex : ∀ i, i < len → ∃ p : S39, w.cell? (a.add (i * 2)) = some (.int .i64 p.f0) ∧ w.cell? (a.add (i * 2 + 1)) = some (.int .i64 p.f1) ∧ fits .i64 p.f0 ∧ fits .i64 p.f1 := by
      intro i hi
      obtain ⟨g0, g1, g2, g3⟩ := hx i (by omega)
      obtain ⟨x0, e0, _, w0⟩ := DataW.trod_int h0 g2
      obtain ⟨x1, e1, _, w1⟩ := DataW.trod_int h1 g3
      exact ⟨⟨x0, x1⟩, by rw [g0, (List.cons.inj e0).1], by rw [g1, (List.cons.inj e1).1], w0, w1⟩
    obtain ⟨q, hq⟩ := choose_lt ex
    have hlen : ((List.range len).map q).length = len := by simp
    refine ⟨some a, cap, (List.range len).map q, by rw [hlen], by rw [hlen]; exact hl, by rw [hlen]; exact Nat.le_trans hl hm, ?_, ?_⟩
    · rw [hlen]
      refine ⟨hlen, by have := Nat.le_trans hl hm; simp only [maxLen] at this; omega, fun _ => ⟨a, rfl, fun j p hp => ?_⟩⟩
      have hj : j < len := by
        have := List.getElem?_eq_some_iff.1 hp
        obtain ⟨h, _⟩ := this
        rw [hlen] at h
        exact h
      have hpq : p = q j := by
        rw [List.getElem?_map, List.getElem?_range hj] at hp
        exact (Option.some.inj hp).symm
      subst hpq
      obtain ⟨r0, r1, _, _⟩ := hq j hj
      refine ⟨_, rfl, k39_mk w (q j), fun i u hu => ?_⟩
      match i, hu with
      | 0, hu =>
        obtain rfl := Option.some.inj hu
        exact r0
      | 1, hu =>
        obtain rfl := Option.some.inj hu
        exact r1
      | i + 2, hu => simp at hu
    · intro x hx'
      obtain ⟨j, hj, rfl⟩ := List.mem_map.1 hx'
      obtain ⟨_, _, r2, r3⟩ := hq j (List.mem_range.1 hj)
      exact ⟨r2, r3⟩
end Go.Proofs.Ythgmkbghdobmlaa.P
namespace Go.Proofs.Ythgmkbghdobmlaa.Pure
open Go.RowKit Go.Proofs.Ythgmkbghdobmlaa.P Go.Proofs.YthgmkbghdobmlaaW.PrintWords Go.Proofs.YthgmkbghdobmlaaW.PrintLast Go.Proofs.YthgmkbghdobmlaaW.PrintMore
set_option linter.unusedVariables false
set_option linter.unusedSimpArgs false

theorem bare_ev (l : List Int) (hl : l.length ≤ 9000) : Ev (fun k => ductuslaw27_bare.f k l) (l.filter opc) := ev_same (rctlB_ev l hl) fun k hk => by
  unfold ductuslaw27_bare.f
  rw [hk, Option.bind_some]
theorem bal_loop (o l w : List Int) (sp : List S39) (ho : o.length ≤ 8000) (hl : l.length ≤ 500) (hr : allR o) (he : o.filter opc = l.filter opc) (d : Nat) : ∀ i : Nat, i + d = o.length → Ev (fun k => ductuslaw27_SwapBalance.l0 k o (i : Int) l sp w) true := by
  induction d with
  | zero =>
    intro i hi
    have hA := bare_ev l (by omega)
    have hB := bare_ev o (by omega)
    rw [he] at hB
    have hfl := List.length_filter_le opc l
    obtain ⟨b, hR⟩ := right_some (l.filter opc) (by omega)
    refine ev_step3 hA hB hR fun k h1 h2 h3 => ?_
    simp only [ductuslaw27_SwapBalance.l0]
    rw [if_neg (by omega), h1, Option.bind_some, h2, Option.bind_some, h3, Option.bind_some]
    cases b with
    | true => rw [if_pos rfl]; rfl
    | false => rw [if_neg (by simp)]
  | succ d ih =>
    intro i hi
    have hw : wrap64 ((i : Int) + 1) = ((i + 1 : Nat) : Int) := wrap_succ i (by omega)
    refine ev_step (ih (i + 1) (by omega)) fun k hk => ?_
    simp only [ductuslaw27_SwapBalance.l0]
    rw [if_pos (by omega), if_pos (by omega), rightR, decide_eq_true (allR_at hr i (by omega)), Option.bind_some, if_pos rfl, hw]
    exact hk
theorem SwapBalance (l0 : List Int) (l1 : List S39) (l2 : List Int) (h0 : ∀ x ∈ l0, P.fits .i64 x) (h1 : ∀ x ∈ l1, P.fits .i64 x.f0 ∧ P.fits .i64 x.f1) (h2 : ∀ x ∈ l2, P.fits .i64 x) : ∃ k, ductuslaw27_SwapBalance.f k l0 l1 l2 = some true := by
  refine Ev.rounds ?_
  by_cases hg : l0.length ≤ 500 ∧ l1.length ≤ 500 ∧ l2.length ≤ 500
  · obtain ⟨g0, g1, g2⟩ := hg
    have hA := all_ev l0 l2 l1 g0 g1 g2
    by_cases c : okM l0 l2 l1 = true
    · have hgd := right_good (okM_right c)
      have hr : allR l0 ∧ allR l2 := by
        unfold okM at c
        simp only [Bool.and_eq_true, decide_eq_true_eq] at c
        exact ⟨c.1, c.2.1⟩
      have eA : allM l0 l1 l2 = exM l0 (plcs l0) (l2.filter nctl) l1 [] 0 := by
        unfold allM
        rw [if_pos c]
      rcases ex_ends l0 (plcs l0) (l2.filter nctl) l1 [] 0 with h | ⟨o, h, ho⟩
      · rw [eA, h] at hA
        refine ev_same2 alive27 hA fun k ha h1 => ?_
        unfold ductuslaw27_SwapBalance.f
        rw [ha, Option.bind_some, if_pos rfl, great_no g0 g1 g2, Option.bind_some, if_neg (by simp), h1, Option.bind_some, if_neg (show ¬ (2 : Int) = 0 by decide)]
        rfl
      · rw [eA, h] at hA
        have hc := ex_ctl l0 l2 (plcs l0) l1 [] 0 o (fits0 l0 (by omega) l1 hgd) h
        simp only [List.filter_nil, List.nil_append, Int.toNat_zero, List.drop_zero] at hc
        have hro := ex_allR l0 (plcs l0) (l2.filter nctl) hr.1 (fun x hx => hr.2 x (List.mem_filter.1 hx).1) l1 [] 0 o (fun x hx => by cases hx) h
        have hfl := List.length_filter_le opc l0
        have hC := rctlB_ev o (by omega)
        rw [hc] at hC
        refine ev_same2 (ev_and alive27 (ev_and hA hC)) (ev_and (rctlB_ev l0 (by omega)) (ev_and (P.ints_ev (l0.filter opc) (by omega)) (bal_loop o l0 l2 l1 ho g0 hro hc o.length 0 (by omega)))) fun k hk hk2 => ?_
        obtain ⟨e1, e23⟩ := ev_fst hk
        obtain ⟨e2, e3⟩ := ev_fst e23
        obtain ⟨e4, e56⟩ := ev_fst hk2
        obtain ⟨e5, e6⟩ := ev_fst e56
        unfold ductuslaw27_SwapBalance.f
        rw [e1, Option.bind_some, if_pos rfl, great_no g0 g1 g2, Option.bind_some, if_neg (by simp), e2, Option.bind_some, if_pos rfl, e3, Option.bind_some, e4, Option.bind_some, e5, Option.bind_some, if_pos rfl]
        exact e6
    · have eA : allM l0 l1 l2 = ([], 1) := by
        unfold allM
        rw [if_neg c]
      rw [eA] at hA
      refine ev_same2 alive27 hA fun k ha h1 => ?_
      unfold ductuslaw27_SwapBalance.f
      rw [ha, Option.bind_some, if_pos rfl, great_no g0 g1 g2, Option.bind_some, if_neg (by simp), h1, Option.bind_some, if_neg (show ¬ (1 : Int) = 0 by decide)]
      rfl
  · refine ev_same alive27 fun k ha => ?_
    unfold ductuslaw27_SwapBalance.f
    rw [ha, Option.bind_some, if_pos rfl, great_yes hg, Option.bind_some, if_pos rfl]
end Go.Proofs.Ythgmkbghdobmlaa.Pure
