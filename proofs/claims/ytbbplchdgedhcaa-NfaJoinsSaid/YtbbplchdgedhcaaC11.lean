/- Texts of this claim put together by a program of its own (SComp, SRightN, Px1, Px4, SAlive19), what the law does not use left out: each part's statements bear their own conditions. -/
import Derived.Test.YtbbplchdgedhcaaC10
import Derived.Lib.SliceRun
import Derived.WalkKit
import Derived.WalkSpells
import Derived.ProofKit
import Derived.Laws.EntriesVeiled
namespace Go.Proofs.Ytbbplchdgedhcaa.P
open Go.RowKit Go.Proofs.YtbbplchdgedhcaaW.PrintWords Go.Proofs.YtbbplchdgedhcaaW.PrintLast
set_option linter.unusedVariables false
set_option linter.unusedSimpArgs false

/-- What Compile answers. -/
def compT (p : List Inst) : List Inst × Int := if (p.length : Int) > 1000 then ([], 10) else (p, 0)
def compX (k : Nat) (x : Node) : Option (List Inst × Int) := (letS k x).bind fun b => if b = true then (nodeC k x []).bind fun p => (layI p ⟨0, [], 0, 0⟩).map compT else some ([], 1)
def nfa_Compile.f (k : Nat) (a0_0 : Int) (l0_1 : List (S42)) (a0_2 : Int) (a0_3 : Int) (l0_4 : List (S25)) : Option ((List (S39)) × Int) := compX k ⟨a0_0, l0_1, a0_2, a0_3, l0_4⟩
set_option maxHeartbeats 8000000 in
set_option maxRecDepth 100000 in
theorem nfa_Compile.calls (k : Nat) (a0_0 : Int) (A0_1 : Option Addr) (c0_1 : Nat) (l0_1 : List (S42)) (a0_2 : Int) (a0_3 : Int) (A0_4 : Option Addr) (c0_4 : Nat) (l0_4 : List (S25)) (r1 : List (S39)) (r2 : Int) (w : World) (hr0_1 : Kd.C k42 w A0_1 l0_1.length l0_1) (hc0_1 : l0_1.length ≤ c0_1) (hr0_4 : Kd.C k25 w A0_4 l0_4.length l0_4) (hc0_4 : l0_4.length ≤ c0_4) (h : nfa_Compile.f k a0_0 l0_1 a0_2 a0_3 l0_4 = some (r1, r2)) :
    Calls Try.prog 10 #[.agg #[.int .i64 a0_0, .slice A0_1 l0_1.length c0_1, .int .i64 a0_2, .int .i64 a0_3, .slice A0_4 l0_4.length c0_4]] w fun e w' => ∃ v0_ : Value, e = .returned (.tuple #[v0_, .int .i64 r2]) ∧ Kd.R k39 39 w' w.heap.size (fun _ => True) v0_ r1 ∧ Below w.heap.size w w' := by
  have hu := Try.underlying25
  have hui := Try.underlying39
  have hN : NodeAt w ⟨a0_0, l0_1, a0_2, a0_3, l0_4⟩ (.agg #[.int .i64 a0_0, .slice A0_1 l0_1.length c0_1, .int .i64 a0_2, .int .i64 a0_3, .slice A0_4 l0_4.length c0_4]) := ⟨A0_1, c0_1, A0_4, c0_4, rfl, hc0_1, hr0_1, hc0_4, hr0_4⟩
  unfold nfa_Compile.f compX at h
  obtain ⟨b, hb, h⟩ := Option.bind_eq_some_iff.mp h
  have HN := Aside0.mk hN
  have HLET := Aside0.mk hb
  have HB1 := Aside0.mk (below_alloc (Below.refl w.heap.size w) (.cells #[.int .i64 a0_0, .slice A0_1 l0_1.length c0_1, .int .i64 a0_2, .int .i64 a0_3, .slice A0_4 l0_4.length c0_4] 25))
  have HX := Aside0.mk (show (w.alloc (.cells #[.int .i64 a0_0, .slice A0_1 l0_1.length c0_1, .int .i64 a0_2, .int .i64 a0_3, .slice A0_4 l0_4.length c0_4] 25)).heap[w.heap.size]? = some (.cells #[.int .i64 a0_0, .slice A0_1 l0_1.length c0_1, .int .i64 a0_2, .int .i64 a0_3, .slice A0_4 l0_4.length c0_4] 25 (0, 0)) from heap_alloc_new w _)
  clear hN hb hr0_1 hc0_1 hr0_4 hc0_4
  cases b with
  | false =>
    rw [if_neg (by decide)] at h
    simp only [Option.some.injEq, Prod.mk.injEq] at h
    obtain ⟨rfl, rfl⟩ := h
    go_enter Try.func10, Try.ntmps10
    go_wp2_with (go_at_call 19; (with_reducible refine (let_calls k _ _ false _ (HN.out.below HB1.out) HLET.out).mono ?_); rintro e w2 ⟨rfl, hb2⟩; have HB2 := Aside0.mk hb2; clear hb2)
    go_ret2
    exact ⟨_, rfl, Kd.R_nil _ _ _ _ _, below_step HB1.out HB2.out⟩
  | true =>
    rw [if_pos rfl] at h
    obtain ⟨p, hp, h⟩ := Option.bind_eq_some_iff.mp h
    obtain ⟨p2, hp2, h⟩ := Option.map_eq_some_iff.mp h
    have HP := Aside0.mk hp
    have HP2 := Aside0.mk hp2
    unfold compT at h
    clear hp hp2
    by_cases c : (p2.length : Int) > 1000
    · rw [if_pos c] at h
      simp only [Prod.mk.injEq] at h
      obtain ⟨rfl, rfl⟩ := h
      have g1 : decide ((p2.length : Int) > 1000) = true := decide_eq_true c
      have g2 : decide (1000 < (p2.length : Int)) = true := decide_eq_true c
      clear c
      go_enter Try.func10, Try.ntmps10
      go_wp2_with (first
        | (go_at_call 19; (with_reducible refine (let_calls k _ _ true _ (HN.out.below HB1.out) HLET.out).mono ?_); rintro e w2 ⟨rfl, hb2⟩; have HB2 := Aside0.mk hb2; have HX2 := Aside0.mk (blk_below HX.out hb2); have x0 := blk_cell (blk_alloc HX2.out (.cells #[.slice none 0 0] 44)) 0; have x1 := blk_cell (blk_alloc HX2.out (.cells #[.slice none 0 0] 44)) 1; have x2 := blk_cell (blk_alloc HX2.out (.cells #[.slice none 0 0] 44)) 2; have x3 := blk_cell (blk_alloc HX2.out (.cells #[.slice none 0 0] 44)) 3; have x4 := blk_cell (blk_alloc HX2.out (.cells #[.slice none 0 0] 44)) 4; clear hb2)
        | (go_at_call 20; (refine (node_calls k _ _ _ _ _ _ _ _ ⟨a0_0, l0_1, a0_2, a0_3, l0_4⟩ _ (Acc.start (w0 := w) (heap_alloc_new w2 _) (Kd.R_nil _ _ _ _ _) (below_alloc (below_step HB1.out HB2.out) _)) (below_step HB1.out HB2.out).size HN.out HP.out).mono ?_); rintro e w3 ⟨rfl, hst⟩; obtain ⟨va, ha⟩ := (Acc.start (w0 := w) (heap_alloc_new w2 _) (Kd.R_nil _ _ _ _ _) (below_alloc (below_step HB1.out HB2.out) _)).step hst; have HAa := Aside0.mk ha; clear hst ha)
        | (go_at_call 21; (with_reducible refine (HAa.out.lay (below_step HB1.out HB2.out).size ⟨0, [], 0, 0⟩ _ (Kd.R_nil _ _ _ _ _) HP2.out).mono ?_); rintro e w5 ⟨rfl, hst⟩; obtain ⟨vc, hc⟩ := HAa.out.step hst; obtain ⟨Ac, cc, rfl⟩ := Kd.R_slice hc.row; have y0 := blk_cell hc.blk 0; have HAc := Aside0.mk hc; clear hst hc))
      go_ret2
      exact ⟨_, rfl, Kd.R_nil _ _ _ _ _, HAc.out.all⟩
    · rw [if_neg c] at h
      simp only [Prod.mk.injEq] at h
      obtain ⟨rfl, rfl⟩ := h
      have g1 : decide ((p2.length : Int) > 1000) = false := decide_eq_false c
      have g2 : decide (1000 < (p2.length : Int)) = false := decide_eq_false c
      clear c
      go_enter Try.func10, Try.ntmps10
      go_wp2_with (first
        | (go_at_call 19; (with_reducible refine (let_calls k _ _ true _ (HN.out.below HB1.out) HLET.out).mono ?_); rintro e w2 ⟨rfl, hb2⟩; have HB2 := Aside0.mk hb2; have HX2 := Aside0.mk (blk_below HX.out hb2); have x0 := blk_cell (blk_alloc HX2.out (.cells #[.slice none 0 0] 44)) 0; have x1 := blk_cell (blk_alloc HX2.out (.cells #[.slice none 0 0] 44)) 1; have x2 := blk_cell (blk_alloc HX2.out (.cells #[.slice none 0 0] 44)) 2; have x3 := blk_cell (blk_alloc HX2.out (.cells #[.slice none 0 0] 44)) 3; have x4 := blk_cell (blk_alloc HX2.out (.cells #[.slice none 0 0] 44)) 4; clear hb2)
        | (go_at_call 20; (refine (node_calls k _ _ _ _ _ _ _ _ ⟨a0_0, l0_1, a0_2, a0_3, l0_4⟩ _ (Acc.start (w0 := w) (heap_alloc_new w2 _) (Kd.R_nil _ _ _ _ _) (below_alloc (below_step HB1.out HB2.out) _)) (below_step HB1.out HB2.out).size HN.out HP.out).mono ?_); rintro e w3 ⟨rfl, hst⟩; obtain ⟨va, ha⟩ := (Acc.start (w0 := w) (heap_alloc_new w2 _) (Kd.R_nil _ _ _ _ _) (below_alloc (below_step HB1.out HB2.out) _)).step hst; have HAa := Aside0.mk ha; clear hst ha)
        | (go_at_call 21; (with_reducible refine (HAa.out.lay (below_step HB1.out HB2.out).size ⟨0, [], 0, 0⟩ _ (Kd.R_nil _ _ _ _ _) HP2.out).mono ?_); rintro e w5 ⟨rfl, hst⟩; obtain ⟨vc, hc⟩ := HAa.out.step hst; obtain ⟨Ac, cc, rfl⟩ := Kd.R_slice hc.row; have y0 := blk_cell hc.blk 0; have HAc := Aside0.mk hc; clear hst hc))
      go_ret2
      exact ⟨_, rfl, HAc.out.row, HAc.out.all⟩
end Go.Proofs.Ytbbplchdgedhcaa.P
namespace Go.Proofs.Ytbbplchdgedhcaa.P
open Go.RowKit Go.Proofs.YtbbplchdgedhcaaW.PrintWords Go.Proofs.YtbbplchdgedhcaaW.PrintLast
set_option linter.unusedVariables false
set_option linter.unusedSimpArgs false

/-- Is a place within a program? -/
def inI (n x : Int) : Bool := decide (0 ≤ x ∧ x < n)
/-- May an instruction not be? -/
def badV (n f0 f2 f3 : Int) : Bool :=
  if f0 = 0 ∨ f0 = 1 ∨ f0 = 4 ∨ f0 = 5 then false
  else if f0 = 2 then !(inI n f2) || !(inI n f3)
  else if f0 = 3 then !(inI n f2) else true
def badI (n : Int) (x : S39) : Bool := badV n x.f0 x.f2 x.f3
def rightI (l : List S39) : Bool := if l.length = 0 then false else if (l.length : Int) > 1000 then false else if (rd_T39 l ((l.length : Int) - 1)).f0 ≠ 0 then false else !(l.any (badI (l.length : Int)))
def nfa_Right.f (l0 : List S39) : Option Bool := some (rightI l0)
set_option maxHeartbeats 1000000 in
theorem in_calls (n x : Int) (c : Nat) (w : World) (hc : w.cell? ⟨c, 0, none⟩ = some (.int .i64 n)) :
    Calls Try.prog 25 #[.int .i64 x, .pointer (some ⟨c, 0, none⟩)] w fun e w' => e = .returned (.bool (inI n x)) ∧ w' = w := by
  by_cases h0 : x ≥ 0
  · have k0 : decide (x ≥ 0) = true := decide_eq_true h0
    have k0' : decide (0 ≤ x) = true := decide_eq_true h0
    have hi : inI n x = decide (x < n) := by unfold inI; simp [h0]
    rw [hi]
    clear hi h0
    go_enter Try.func25, Try.ntmps25
    go_wp2
    go_ret
    exact ⟨rfl, rfl⟩
  · have k0 : decide (x ≥ 0) = false := decide_eq_false h0
    have k0' : decide (0 ≤ x) = false := decide_eq_false h0
    have hi : inI n x = false := by unfold inI; exact decide_eq_false (by omega)
    rw [hi]
    clear hi h0
    go_enter Try.func25, Try.ntmps25
    go_wp2
    go_ret
    exact ⟨rfl, rfl⟩
set_option maxHeartbeats 4000000 in
theorem bad_calls (n : Int) (c d : Nat) (f0 : Int) (A1 : Option Addr) (n1 c1 : Nat) (f2 f3 : Int) (w : World) (hc : w.cell? ⟨c, 0, none⟩ = some (.int .i64 n)) (hd : w.cell? ⟨d, 0, none⟩ = some (.func (.func 25) #[] #[.pointer (some ⟨c, 0, none⟩)])) :
    Calls Try.prog 27 #[.agg #[.int .i64 f0, .slice A1 n1 c1, .int .i64 f2, .int .i64 f3], .pointer (some ⟨d, 0, none⟩)] w fun e w' => e = .returned (.bool (badV n f0 f2 f3)) ∧ Below w.heap.size w w' := by
  have hu := Try.underlying39
  have hw2 := fun W y (h : W.cell? ⟨c, 0, none⟩ = some (.int .i64 n)) => in_calls n y c W h
  have HC := Aside0.mk hc
  have HW := Aside0.mk hw2
  have hd2 : ∀ o, (w.alloc o).cell? ⟨d, 0, none⟩ = some (.func (.func 25) #[] #[.pointer (some ⟨c, 0, none⟩)]) := fun o => cell_later (below_alloc (Below.refl _ _) o) hd
  clear hw2 hc hd
  unfold badV
  by_cases a0 : f0 = 0 ∨ f0 = 1 ∨ f0 = 4 ∨ f0 = 5
  · rw [if_pos a0]
    rcases a0 with rfl | rfl | rfl | rfl
    all_goals
      go_enter Try.func27, Try.ntmps27
      go_wp2
      go_ret
      exact ⟨rfl, below_alloc (Below.refl _ _) _⟩
  rw [if_neg a0]
  by_cases a2 : f0 = 2
  · rw [if_pos a2]
    subst a2
    clear a0
    have hd3 := hd2 (.cells #[.int .i64 2, .slice A1 n1 c1, .int .i64 f2, .int .i64 f3] 39)
    clear hd2
    cases hb : inI n f2 with
    | true =>
      go_enter Try.func27, Try.ntmps27
      go_wp2_with (refine (HW.out _ _ (cell_later (below_alloc (Below.refl _ _) _) HC.out)).mono ?_; rintro e w' ⟨rfl, rfl⟩; try rw [hb])
      go_ret
      exact ⟨by simp, below_alloc (Below.refl _ _) _⟩
    | false =>
      go_enter Try.func27, Try.ntmps27
      go_wp2_with (refine (HW.out _ _ (cell_later (below_alloc (Below.refl _ _) _) HC.out)).mono ?_; rintro e w' ⟨rfl, rfl⟩; try rw [hb])
      go_ret
      exact ⟨by simp, below_alloc (Below.refl _ _) _⟩
  rw [if_neg a2]
  by_cases a3 : f0 = 3
  · rw [if_pos a3]
    subst a3
    clear a0 a2
    have hd3 := hd2 (.cells #[.int .i64 3, .slice A1 n1 c1, .int .i64 f2, .int .i64 f3] 39)
    clear hd2
    go_enter Try.func27, Try.ntmps27
    go_wp2_with (refine (HW.out _ _ (cell_later (below_alloc (Below.refl _ _) _) HC.out)).mono ?_; rintro e w' ⟨rfl, rfl⟩)
    go_ret
    exact ⟨rfl, below_alloc (Below.refl _ _) _⟩
  · rw [if_neg a3]
    have k0 : (f0 == 0) = false := beq_eq_false_iff_ne.mpr (by omega)
    have k1 : (f0 == 1) = false := beq_eq_false_iff_ne.mpr (by omega)
    have k2 : (f0 == 2) = false := beq_eq_false_iff_ne.mpr (by omega)
    have k3 : (f0 == 3) = false := beq_eq_false_iff_ne.mpr (by omega)
    have k4 : (f0 == 4) = false := beq_eq_false_iff_ne.mpr (by omega)
    have k5 : (f0 == 5) = false := beq_eq_false_iff_ne.mpr (by omega)
    clear a0 a2 a3
    go_enter Try.func27, Try.ntmps27
    go_wp2
    go_ret
    exact ⟨rfl, below_alloc (Below.refl _ _) _⟩
theorem si_drop {α : Type} (z : α) (xs : List α) (i : Nat) (h : i < xs.length) : xs.drop i = xs.getD i z :: xs.drop (i + 1) := by
  rw [List.getD_eq_getElem?_getD, List.getElem?_eq_getElem h, Option.getD_some]
  exact List.drop_eq_getElem_cons h
theorem si_wrap (i : Nat) (h : i < 9223372036854775807) : wrap64 ((i : Int) + 1) = ((i + 1 : Nat) : Int) := by
  unfold wrap64
  omega
set_option maxHeartbeats 4000000 in
set_option maxRecDepth 100000 in
theorem index_inst (g : Nat) (caps : Array Value) (t : S39 → Bool) (A0 : Option Addr) (c0 : Nat) (l0 : List S39) (w : World) (hr0 : k39.C w A0 l0.length l0)
    (ht : ∀ (x : S39) (A1 : Option Addr) (c1 : Nat) (W : World), Below w.heap.size w W → Calls Try.prog g (#[.agg #[.int .i64 x.f0, .slice A1 x.f1.length c1, .int .i64 x.f2, .int .i64 x.f3]] ++ caps) W fun e w' => e = .returned (.bool (t x)) ∧ Below W.heap.size W w')
    (hgo : ∀ (v : Value) (W : World), (callFunc g (#[v] ++ caps)).run Try.prog W = .ok (.enter g (#[v] ++ caps)) W) :
    Calls Try.prog 36 #[.slice A0 l0.length c0, .func (.func g) #[] caps] w fun e w' => (∃ i : Int, e = .returned (.int .i64 i) ∧ decide (i ≥ 0) = l0.any t) ∧ Below w.heap.size w w' := by
  have HL := Aside0.mk (Kd.C_max hr0)
  have HR0 := Aside0.mk hr0
  have HT := Aside0.mk ht
  obtain ⟨r, hr⟩ : ∃ r, l0.any t = r := ⟨_, rfl⟩
  rw [hr]
  have HH := Aside0.mk hr
  clear hr0 ht hr
  go_enter Try.func36, Try.ntmps36
  go_wp2
  go_loopw [8] (fun v wr => ∃ i : Nat, v = .int .i64 (i : Int) ∧ i ≤ l0.length ∧ Below w.heap.size w wr ∧ (l0.drop i).any t = r) (fun v wr => l0.length - (intOf v).toNat)
  case atStart => exact ⟨0, rfl, by omega, Below.refl _ _, by simpa using HH.out⟩
  case round =>
    obtain ⟨i, rfl, hi, hB, hidx⟩ := hrel
    have HB := Aside0.mk hB
    by_cases h : i < l0.length
    · obtain ⟨ad, A1, c1, e, h0, h1, h2, h3, q1, q2⟩ := at_T39 (Kd.C_below HR0.out hB) (i : Int) (by omega) (by omega)
      cases e
      rw [Int.toNat_natCast] at h0 h1 h2 h3
      rw [si_drop z39 l0 i h] at hidx
      have hx : rd_T39 l0 (i : Int) = l0.getD i z39 := rfl
      rw [hx] at h0 h1 h2 h3 q1 q2
      obtain ⟨x, hxx⟩ : ∃ x, l0.getD i z39 = x := ⟨_, rfl⟩
      rw [hxx] at h0 h1 h2 h3 q1 q2 hidx
      simp only [List.any_cons] at hidx
      have hcall := HT.out x A1 c1 wr hB
      have p1 : decide ((i : Int) < (l0.length : Int)) = true := decide_eq_true (by omega)
      have p2 : ((0 : Int) ≤ (i : Int)) = True := eq_true (by omega)
      have p3 : ((i : Int) < (l0.length : Int)) = True := eq_true (by omega)
      have hgo1 := hgo (.agg #[.int .i64 x.f0, .slice A1 x.f1.length c1, .int .i64 x.f2, .int .i64 x.f3])
      obtain ⟨b, hb⟩ : ∃ b, t x = b := ⟨_, rfl⟩
      rw [hb] at hcall hidx
      have H := Aside0.mk hidx
      clear hidx hB hx hxx hb q1 q2
      cases b with
      | true =>
        go_wp2_with (refine hcall.mono ?_; rintro e w' ⟨rfl, hb1⟩; have HB1 := Aside0.mk hb1; clear hb1)
        go_ret
        refine ⟨⟨_, rfl, ?_⟩, below_step HB.out HB1.out⟩
        have := H.out
        rw [Bool.true_or] at this
        rw [← this]
        exact decide_eq_true (by omega)
      | false =>
        go_wp2_with (refine hcall.mono ?_; rintro e w' ⟨rfl, hb1⟩; have HB1 := Aside0.mk hb1; clear hb1)
        have hw := si_wrap i (by have := HL.out; omega)
        refine ⟨⟨i + 1, by rw [hw], by omega, below_step HB.out HB1.out, ?_⟩, ?_⟩
        · have := H.out
          rw [Bool.false_or] at this
          exact this
        · rw [hw]
          show l0.length - (((i + 1 : Nat) : Int)).toNat < l0.length - ((i : Int)).toNat
          clear hw
          omega
    · have hn : i = l0.length := by omega
      subst hn
      have p1 : decide ((l0.length : Int) < (l0.length : Int)) = false := decide_eq_false (by omega)
      have H := Aside0.mk hidx
      clear hidx hB
      go_wp2
      go_ret
      refine ⟨⟨_, rfl, ?_⟩, HB.out⟩
      have := H.out
      rw [List.drop_length] at this
      rw [← this]
      exact decide_eq_false (by omega)
set_option maxHeartbeats 4000000 in
theorem contains_inst (g : Nat) (caps : Array Value) (t : S39 → Bool) (A0 : Option Addr) (c0 : Nat) (l0 : List S39) (w : World) (hr0 : k39.C w A0 l0.length l0)
    (ht : ∀ (x : S39) (A1 : Option Addr) (c1 : Nat) (W : World), Below w.heap.size w W → Calls Try.prog g (#[.agg #[.int .i64 x.f0, .slice A1 x.f1.length c1, .int .i64 x.f2, .int .i64 x.f3]] ++ caps) W fun e w' => e = .returned (.bool (t x)) ∧ Below W.heap.size W w')
    (hgo : ∀ (v : Value) (W : World), (callFunc g (#[v] ++ caps)).run Try.prog W = .ok (.enter g (#[v] ++ caps)) W) :
    Calls Try.prog 26 #[.slice A0 l0.length c0, .func (.func g) #[] caps] w fun e w' => e = .returned (.bool (l0.any t)) ∧ Below w.heap.size w w' := by
  have hct := index_inst g caps t A0 c0 l0 w hr0 ht hgo
  clear hr0 ht hgo
  go_enter Try.func26, Try.ntmps26
  go_wp2_with (go_at_call 36; (with_reducible refine hct.mono ?_); rintro e w' ⟨⟨i, rfl, hi⟩, hb⟩; have HB := Aside0.mk hb; have HI := Aside0.mk hi; clear hb hi)
  go_ret
  exact ⟨by rw [← HI.out]; rfl, HB.out⟩
theorem alloc2_cell (w : World) (o : Obj) (cs : Array Value) (t : TypeId) : ((w.alloc o).alloc (.cells cs t)).cell? ⟨w.heap.size + 1, 0, none⟩ = cs[0]? := by
  have h := blk_cell (heap_alloc_new (w.alloc o) (.cells cs t)) 0
  rwa [show (w.alloc o).heap.size = w.heap.size + 1 from by simp] at h
set_option maxHeartbeats 4000000 in
theorem nfa_Right.calls (A0 : Option Addr) (c0 : Nat) (l0 : List S39) (r : Bool) (w : World) (hr0 : Kd.C k39 w A0 l0.length l0) (hc0 : l0.length ≤ c0) (h : nfa_Right.f l0 = some r) :
    Calls Try.prog 14 #[.slice A0 l0.length c0] w fun e w' => e = .returned (.bool r) ∧ Below w.heap.size w w' := by
  obtain rfl := Option.some.inj h
  clear h hc0
  have HL := Aside0.mk (Kd.C_max hr0)
  have HR0 := Aside0.mk hr0
  unfold rightI
  by_cases a0 : l0.length = 0
  · rw [if_pos a0]
    rw [a0]
    clear hr0
    go_enter Try.func14, Try.ntmps14
    go_wp2
    go_ret
    exact ⟨rfl, below_alloc (Below.refl _ _) _⟩
  rw [if_neg a0]
  obtain ⟨m, hm⟩ : ∃ m, l0.length = m + 1 := ⟨l0.length - 1, by omega⟩
  have hct := fun (A0 : Option Addr) (hr0 : k39.C w A0 l0.length l0) (W : World) (c d : Nat) (hb : Below w.heap.size w W) (hc : W.cell? ⟨c, 0, none⟩ = some (.int .i64 (l0.length : Int))) (hd : W.cell? ⟨d, 0, none⟩ = some (.func (.func 25) #[] #[.pointer (some ⟨c, 0, none⟩)])) =>
    contains_inst 27 #[.pointer (some ⟨d, 0, none⟩)] (badI (l0.length : Int)) A0 c0 l0 W (Kd.C_below hr0 hb) (fun x A1 c1 W2 hb2 => bad_calls _ c d _ _ _ _ _ _ W2 (cell_later hb2 hc) (cell_later hb2 hd)) (fun v W => enters_ Try.func27 (by kernel_rfl) rfl _ W)
  obtain ⟨ad, A1, c1, e, h0, h1, h2, h3, q1, q2⟩ := at_T39 hr0 (m : Int) (by omega) (by omega)
  cases e
  replace hct := hct _ hr0
  have hr9 : l0.any (badI ((m + 1 : Nat) : Int)) = l0.any (badI (l0.length : Int)) := by rw [hm]
  have e9 : (l0.length : Int) - 1 = (m : Int) := by omega
  rw [e9]
  rw [hm] at hct ⊢
  rw [Int.toNat_natCast] at h0
  have k0 : ((m : Int) + 1 == 0) = false := beq_eq_false_iff_ne.mpr (by omega)
  obtain ⟨y, hy⟩ : ∃ y, (rd_T39 l0 (m : Int)).f0 = y := ⟨_, rfl⟩
  rw [hy] at h0 ⊢
  have HM : m < 9223372036854775807 := by have := HL.out; omega
  have HCT := Aside0.mk hct
  clear hr0 h1 h2 h3 q1 q2 hy hr9 e9 hct HL HR0 hm a0
  by_cases a1 : (((m + 1 : Nat)) : Int) > 1000
  · rw [if_pos a1]
    have k1 : decide ((m : Int) + 1 > 1000) = true := decide_eq_true (by omega)
    have k1' : decide (1000 < (m : Int) + 1) = true := decide_eq_true (by omega)
    clear a1
    go_enter Try.func14, Try.ntmps14
    go_wp2
    go_ret
    exact ⟨rfl, below_alloc (Below.refl _ _) _⟩
  rw [if_neg a1]
  have k1 : decide ((m : Int) + 1 > 1000) = false := decide_eq_false (by omega)
  have k1' : decide (1000 < (m : Int) + 1) = false := decide_eq_false (by omega)
  have i1 : IntKind.i64.wrap (((m + 1 : Nat) : Int) - 1) = (m : Int) := by rw [IntKind.wrap_i64]; omega
  clear a1
  have h02 : (w.alloc (.cells #[.int .i64 ((m : Int) + 1)] 3)).cell? (ad.add (m * 4)) = some (.int .i64 y) := cell_later (below_alloc (Below.refl _ _) _) h0
  by_cases a2 : y ≠ 0
  · rw [if_pos a2]
    have k2 : (y != 0) = true := bne_iff_ne.mpr a2
    clear a2
    go_enter Try.func14, Try.ntmps14
    go_wp2
    go_ret
    exact ⟨rfl, below_alloc (Below.refl _ _) _⟩
  rw [if_neg a2]
  have k2 : (y != 0) = false := bne_eq_false_iff_eq.mpr (Decidable.not_not.1 a2)
  clear a2
  go_enter Try.func14, Try.ntmps14
  go_wp2_with (go_at_call 26; refine (HCT.out _ w.heap.size _ ?sb ?sc ?sd).mono ?_; (case sb => exact below_alloc (below_alloc (Below.refl _ _) _) _); (case sc => exact cell_later (below_alloc (Below.refl _ _) _) (blk_cell (heap_alloc_new w _) 0)); (case sd => exact alloc2_cell _ _ _ _); rintro e w' ⟨rfl, hb⟩; have HB := Aside0.mk hb; clear hb)
  go_ret
  exact ⟨rfl, below_step (below_alloc (below_alloc (Below.refl _ _) _) _) HB.out⟩
end Go.Proofs.Ytbbplchdgedhcaa.P
namespace Go.Proofs.Ytbbplchdgedhcaa.P
open Go.RowKit Go.Proofs.YtbbplchdgedhcaaW.PrintWords Go.Proofs.YtbbplchdgedhcaaW.PrintLast Go.Proofs.YtbbplchdgedhcaaW.PrintMore
attribute [local go_sem] max2_int min2_int max_two min_two
set_option linter.unusedVariables false
set_option linter.unusedSimpArgs false

theorem eqA42 (d : Nat) (w : World) (x0 y0 : Int) (x1 y1 : Int) :
    (Op.equalIn (d + 2) 42 (.agg #[.int .i64 x0, .int .i64 x1]) (.agg #[.int .i64 y0, .int .i64 y1])).run Try.prog w = .ok (x0 == y0 && (x1 == y1)) w := by
  refine eqA_of Try.underlying42 (by kernel_rfl) ?_
  refine eqf_cons (by rfl) (by go_simp; rfl) (by go_simp; rfl) (by go_simp) ?_
  exact eqf_last (by rfl) (by go_simp; rfl) (by go_simp; rfl) (by go_simp)
end Go.Proofs.Ytbbplchdgedhcaa.P
namespace Go.Proofs.Ytbbplchdgedhcaa.P
open Go.RowKit Go.Proofs.YtbbplchdgedhcaaW.PrintWords Go.Proofs.YtbbplchdgedhcaaW.PrintLast Go.Proofs.YtbbplchdgedhcaaW.PrintMore
attribute [local go_sem] max2_int min2_int max_two min_two
set_option linter.unusedVariables false
set_option linter.unusedSimpArgs false

attribute [local go_sem high] eqA42
def nfa_Count.l0 : Nat → Int → Int → List (S39) → Int → Int → Option (Int)
  | 0, _, _, _, _, _ => none
  | k + 1, x1, x5, x8, x9, x10 => if x10 < x9 then (if 0 ≤ x10 then (if x10 < (x8.length : Int) then (if ((rd_T39 x8 x10).f0) = x1 then (nfa_Count.l0 k x1 (wrap64 (x5 + 1)) x8 x9 (wrap64 (x10 + 1))) else (nfa_Count.l0 k x1 x5 x8 x9 (wrap64 (x10 + 1)))) else (none)) else (none)) else (some x5)
def nfa_Count.f (k : Nat) (l0 : List (S39)) (a1 : Int) : Option (Int) := nfa_Count.l0 k a1 0 l0 (l0.length : Int) 0
set_option maxHeartbeats 8000000 in
set_option maxRecDepth 100000 in
theorem nfa_Count.calls (k : Nat) (A0 : Option Addr) (c0 : Nat) (l0 : List (S39)) (a1 : Int) (r : Int) (w : World) (hr0 : Kd.C k39 w A0 l0.length l0) (hc0 : l0.length ≤ c0) (h : nfa_Count.f k l0 a1 = some r) :
    Calls Try.prog 16 #[.slice A0 l0.length c0, .int .i64 a1] w fun e w' => e = .returned (.int .i64 r) ∧ Below w.heap.size w w' := by
  have hu39 := Try.underlying39
  have HR0 := Aside0.mk hr0
  have HC0 := Aside0.mk hc0
  clear hr0 hc0
  have HB := Aside0.mk (Below.refl w.heap.size w)
  have H : (nfa_Count.l0 k a1 0 l0 (l0.length : Int) 0) = some r := h
  clear h
  have H' := Aside0.mk H
  clear H
  go_enter Try.func16, Try.ntmps16
  go_wp2
  go_loopg [5, 10] k (fun kq v5 v10 w' => ∃ (x5_1 : Int) (x10_1 : Int), v5 = .int .i64 x5_1 ∧ v10 = .int .i64 x10_1 ∧ Aside0 (nfa_Count.l0 kq a1 x5_1 l0 (l0.length : Int) x10_1 = some r) ∧ Aside0 (kq ≤ k) ∧ Aside0 (Below w.heap.size w w'))
  case atStart => exact ⟨(0), (0), (by first | rfl | (simp; done) | (simp [*]; done)), (by first | rfl | (simp; done) | (simp [*]; done)), H', ⟨Nat.le_refl _⟩, ⟨by repeat (first | (with_reducible first | exact HB.out | apply below_alloc | apply pw_below_drewN | apply below_drew1) | exact HB.out)⟩⟩
  case round =>
    clear H'
    try clear c1
    try clear p2
    obtain ⟨x5_1, x10_1, rfl, rfl, HA, HK1, HB⟩ := hrel
    cases gk with
    | zero => exact absurd HA.out (by simp [nfa_Count.l0])
    | succ k1 =>
      have H := HA.out
      clear HA
      simp only [nfa_Count.l0] at H
      by_cases c3 : x10_1 < (l0.length : Int)
      rotate_left
      · rw [if_neg c3] at H
        have c3b0 : decide (x10_1 < (l0.length : Int)) = false := decide_eq_false c3
        clear c3
        obtain rfl := Option.some.inj H
        go_wp2
        go_ret
        exact ⟨by first | rfl | (simp [errW_none, errW_some] <;> rfl) | (simp [*, errW_none, errW_some] <;> rfl), by repeat (first | (with_reducible first | exact HB.out | apply below_alloc | apply pw_below_drewN | apply below_drew1) | exact HB.out)⟩
      rw [if_pos c3] at H
      have c3b0 : decide (x10_1 < (l0.length : Int)) = true := decide_eq_true c3
      clear c3
      by_cases c4 : 0 ≤ x10_1
      rotate_left
      · rw [if_neg c4] at H
        exact absurd H (by simp)
      rw [if_pos c4] at H
      have c4b0 : decide (0 ≤ x10_1) = true := decide_eq_true c4
      clear c4
      by_cases c5 : x10_1 < (l0.length : Int)
      rotate_left
      · rw [if_neg c5] at H
        exact absurd H (by simp)
      rw [if_pos c5] at H
      have c5b0 : decide (x10_1 < (l0.length : Int)) = true := decide_eq_true c5
      clear c5
      by_cases c6 : ((rd_T39 l0 x10_1).f0) = a1
      rotate_left
      · rw [if_neg c6] at H
        have c6b0 : (((rd_T39 l0 x10_1).f0) == a1) = false := beq_eq_false_iff_ne.mpr c6
        have c6b1 : (((rd_T39 l0 x10_1).f0) != a1) = true := bne_iff_ne.mpr c6
        have H' := Aside0.mk H
        clear H
        have p113 : 0 ≤ (x10_1 : Int) := of_decide_eq_true (by first | (with_reducible assumption) | assumption)
        have q113 : x10_1 < (l0.length : Int) := of_decide_eq_true (by first | (with_reducible assumption) | assumption)
        obtain ⟨ad113, A113_1, c113_1, e113, hx113_0, hx113_1, hx113_2, hx113_3, hl113_1, hi113_1⟩ := at_T39 HR0.out x10_1 p113 q113
        cases e113
        replace hx113_0 := (HB.out.cell (World.block_lt_of_cell? w _ hx113_0)).trans hx113_0
        replace hx113_1 := (HB.out.cell (World.block_lt_of_cell? w _ hx113_1)).trans hx113_1
        replace hx113_2 := (HB.out.cell (World.block_lt_of_cell? w _ hx113_2)).trans hx113_2
        replace hx113_3 := (HB.out.cell (World.block_lt_of_cell? w _ hx113_3)).trans hx113_3
        have HR113_1 := Aside0.mk hi113_1
        have HC113_1 := Aside0.mk hl113_1
        clear hi113_1 hl113_1
        replace p113 := eq_true p113
        replace q113 := eq_true q113
        go_wp2_with (first | ((with_reducible refine gate_dst (N := 7) rfl ?_); refine box_event ?hg (N := 7) ?hd (cs := #[.int .i64 0, .slice none 0 0, .int .i64 0, .int .i64 0]) (t := 39) ?hr ?_; (case hd => rfl); (case hg => rfl); (case hr => first | (go_simp; done) | (go_simp; rfl)); intro gb114 hg w9 hbox hb; have n0_ := Aside0.mk (below_step (by repeat (first | (with_reducible first | exact HB.out | apply below_alloc | apply pw_below_drewN | apply below_drew1) | exact HB.out)) hb); have n1_ := Aside0.mk (hbox); have n2_ := Aside0.mk ((by rw [hg]; exact (below_size (by repeat (first | (with_reducible first | exact HB.out | apply below_alloc | apply pw_below_drewN | apply below_drew1) | exact HB.out))) : w.heap.size ≤ gb114)); have n3_ := Aside0.mk ((by rw [hg]; exact (below_size (by repeat (first | (with_reducible first | exact HB.out | apply below_alloc | apply pw_below_drewN | apply below_drew1) | exact HB.out))) : w.heap.size ≤ gb114)); clear HB; have HB := n0_; have BK114 := n1_; have GW114 := n2_; have GE114 := n3_; clear n0_ n1_ n2_ n3_; clear hb hbox hg; have hcz10_0 : w9.cell? ⟨gb114, 0, none⟩ = some (.int .i64 0) := (blk_cell BK114.out 0).trans rfl; have hcz10_1 : w9.cell? ⟨gb114, 1, none⟩ = some (.slice none 0 0) := (blk_cell BK114.out 1).trans rfl; have hcz10_2 : w9.cell? ⟨gb114, 2, none⟩ = some (.int .i64 0) := (blk_cell BK114.out 2).trans rfl; have hcz10_3 : w9.cell? ⟨gb114, 3, none⟩ = some (.int .i64 0) := (blk_cell BK114.out 3).trans rfl; have hfz10_0 := blk_frozen BK114.out 0; have hfz10_1 := blk_frozen BK114.out 1; have hfz10_2 := blk_frozen BK114.out 2; have hfz10_3 := blk_frozen BK114.out 3))
        go_roundg k1
        case measure => have := HK1.out; omega
        case rel => exact ⟨(x5_1), (wrap64 (x10_1 + 1)), (by first | rfl | (simp; done) | (simp [*]; done)), (by first | rfl | (simp; done) | (simp [*]; done)), H', ⟨by have := HK1.out; omega⟩, ⟨by repeat (first | (with_reducible first | exact HB.out | apply below_alloc | apply pw_below_drewN | apply below_drew1 | refine below_set ?_ GE114.out) | exact HB.out)⟩⟩
      rw [if_pos c6] at H
      have c6b0 : (((rd_T39 l0 x10_1).f0) == a1) = true := beq_iff_eq.mpr c6
      have c6b1 : (((rd_T39 l0 x10_1).f0) != a1) = false := bne_eq_false_iff_eq.mpr c6
      clear c6
      have H' := Aside0.mk H
      clear H
      have p113 : 0 ≤ (x10_1 : Int) := of_decide_eq_true (by first | (with_reducible assumption) | assumption)
      have q113 : x10_1 < (l0.length : Int) := of_decide_eq_true (by first | (with_reducible assumption) | assumption)
      obtain ⟨ad113, A113_1, c113_1, e113, hx113_0, hx113_1, hx113_2, hx113_3, hl113_1, hi113_1⟩ := at_T39 HR0.out x10_1 p113 q113
      cases e113
      replace hx113_0 := (HB.out.cell (World.block_lt_of_cell? w _ hx113_0)).trans hx113_0
      replace hx113_1 := (HB.out.cell (World.block_lt_of_cell? w _ hx113_1)).trans hx113_1
      replace hx113_2 := (HB.out.cell (World.block_lt_of_cell? w _ hx113_2)).trans hx113_2
      replace hx113_3 := (HB.out.cell (World.block_lt_of_cell? w _ hx113_3)).trans hx113_3
      have HR113_1 := Aside0.mk hi113_1
      have HC113_1 := Aside0.mk hl113_1
      clear hi113_1 hl113_1
      replace p113 := eq_true p113
      replace q113 := eq_true q113
      go_wp2_with (first | ((with_reducible refine gate_dst (N := 7) rfl ?_); refine box_event ?hg (N := 7) ?hd (cs := #[.int .i64 0, .slice none 0 0, .int .i64 0, .int .i64 0]) (t := 39) ?hr ?_; (case hd => rfl); (case hg => rfl); (case hr => first | (go_simp; done) | (go_simp; rfl)); intro gb114 hg w7 hbox hb; have n0_ := Aside0.mk (below_step (by repeat (first | (with_reducible first | exact HB.out | apply below_alloc | apply pw_below_drewN | apply below_drew1) | exact HB.out)) hb); have n1_ := Aside0.mk (hbox); have n2_ := Aside0.mk ((by rw [hg]; exact (below_size (by repeat (first | (with_reducible first | exact HB.out | apply below_alloc | apply pw_below_drewN | apply below_drew1) | exact HB.out))) : w.heap.size ≤ gb114)); have n3_ := Aside0.mk ((by rw [hg]; exact (below_size (by repeat (first | (with_reducible first | exact HB.out | apply below_alloc | apply pw_below_drewN | apply below_drew1) | exact HB.out))) : w.heap.size ≤ gb114)); clear HB; have HB := n0_; have BK114 := n1_; have GW114 := n2_; have GE114 := n3_; clear n0_ n1_ n2_ n3_; clear hb hbox hg; have hcz8_0 : w7.cell? ⟨gb114, 0, none⟩ = some (.int .i64 0) := (blk_cell BK114.out 0).trans rfl; have hcz8_1 : w7.cell? ⟨gb114, 1, none⟩ = some (.slice none 0 0) := (blk_cell BK114.out 1).trans rfl; have hcz8_2 : w7.cell? ⟨gb114, 2, none⟩ = some (.int .i64 0) := (blk_cell BK114.out 2).trans rfl; have hcz8_3 : w7.cell? ⟨gb114, 3, none⟩ = some (.int .i64 0) := (blk_cell BK114.out 3).trans rfl; have hfz8_0 := blk_frozen BK114.out 0; have hfz8_1 := blk_frozen BK114.out 1; have hfz8_2 := blk_frozen BK114.out 2; have hfz8_3 := blk_frozen BK114.out 3))
      go_roundg k1
      case measure => have := HK1.out; omega
      case rel => exact ⟨(wrap64 (x5_1 + 1)), (wrap64 (x10_1 + 1)), (by first | rfl | (simp; done) | (simp [*]; done)), (by first | rfl | (simp; done) | (simp [*]; done)), H', ⟨by have := HK1.out; omega⟩, ⟨by repeat (first | (with_reducible first | exact HB.out | apply below_alloc | apply pw_below_drewN | apply below_drew1 | refine below_set ?_ GE114.out) | exact HB.out)⟩⟩

-- NOT PRINTED: function 28 (slices_EqualFunc_api_Inst_api_Inst)

def slices_Equal_api_Range.l0 : Nat → List (S42) → List (S42) → Int → Int → Option (Bool)
  | 0, _, _, _, _ => none
  | k + 1, x0, x1, x12, x13 => if x13 < x12 then (if 0 ≤ x13 then (if x13 < (x0.length : Int) then (if x13 < (x1.length : Int) then (if (!(((rd_T42 x0 x13).f0) == ((rd_T42 x1 x13).f0)) || (!(((rd_T42 x0 x13).f1) == ((rd_T42 x1 x13).f1)))) = true then (some false) else (slices_Equal_api_Range.l0 k x0 x1 x12 (wrap64 (x13 + 1)))) else (none)) else (none)) else (none)) else (some true)
def slices_Equal_api_Range.f (k : Nat) (l0 : List (S42)) (l1 : List (S42)) : Option (Bool) := if (l0.length : Int) = (l1.length : Int) then (slices_Equal_api_Range.l0 k l0 l1 (l0.length : Int) 0) else (some false)
set_option maxHeartbeats 8000000 in
set_option maxRecDepth 100000 in
theorem slices_Equal_api_Range.calls (k : Nat) (A0 : Option Addr) (c0 : Nat) (l0 : List (S42)) (A1 : Option Addr) (c1 : Nat) (l1 : List (S42)) (r : Bool) (w : World) (hr0 : Kd.C k42 w A0 l0.length l0) (hc0 : l0.length ≤ c0) (hr1 : Kd.C k42 w A1 l1.length l1) (hc1 : l1.length ≤ c1) (h : slices_Equal_api_Range.f k l0 l1 = some r) :
    Calls Try.prog 30 #[.slice A0 l0.length c0, .slice A1 l1.length c1] w fun e w' => e = .returned (.bool r) ∧ Drawn0 w w' := by
  have hu42 := Try.underlying42
  have HR0 := Aside0.mk hr0
  have HC0 := Aside0.mk hc0
  clear hr0 hc0
  have HR1 := Aside0.mk hr1
  have HC1 := Aside0.mk hc1
  clear hr1 hc1
  have H : (if (l0.length : Int) = (l1.length : Int) then (slices_Equal_api_Range.l0 k l0 l1 (l0.length : Int) 0) else (some false)) = some r := h
  clear h
  by_cases c3 : (l0.length : Int) = (l1.length : Int)
  rotate_left
  · rw [if_neg c3] at H
    have c3b0 : ((l0.length : Int) == (l1.length : Int)) = false := beq_eq_false_iff_ne.mpr c3
    have c3b1 : ((l0.length : Int) != (l1.length : Int)) = true := bne_iff_ne.mpr c3
    have c3b2 : (l0.length == l1.length) = false := by first | simpa using c3 | (simp at c3 ⊢; omega)
    obtain rfl := Option.some.inj H
    go_enter Try.func30, Try.ntmps30
    go_wp2
    repeat (go_quiet (fail); try go_wp2)
    go_ret
    exact ⟨by first | rfl | (simp; done) | (simp [*]; done), by repeat (first | exact Drawn0.refl _ | apply Drawn0.step)⟩
  rw [if_pos c3] at H
  have c3b0 : ((l0.length : Int) == (l1.length : Int)) = true := beq_iff_eq.mpr c3
  have c3b1 : ((l0.length : Int) != (l1.length : Int)) = false := bne_eq_false_iff_eq.mpr c3
  have c3b2 : (l0.length == l1.length) = true := by first | simpa using c3 | (simp at c3 ⊢; omega)
  clear c3
  have H' := Aside0.mk H
  clear H
  go_enter Try.func30, Try.ntmps30
  go_wp2
  repeat (go_quiet (fail); try go_wp2)
  go_loopg [13] k (fun kq v13 w' => ∃ (x13_1 : Int), v13 = .int .i64 x13_1 ∧ Aside0 (slices_Equal_api_Range.l0 kq l0 l1 (l0.length : Int) x13_1 = some r) ∧ Aside0 (kq ≤ k) ∧ Drawn0 w w')
  case atStart => exact ⟨(0), (by first | rfl | (simp; done) | (simp [*]; done)), H', ⟨Nat.le_refl _⟩, by repeat (first | exact Drawn0.refl _ | apply Drawn0.step)⟩
  case round =>
    clear H'
    try clear c1
    try clear p2
    try clear c3
    try clear c3b0
    try clear c3b1
    try clear c3b2
    obtain ⟨x13_1, rfl, HA, HK1, ⟨m1, rfl⟩⟩ := hrel
    cases gk with
    | zero => exact absurd HA.out (by simp [slices_Equal_api_Range.l0])
    | succ k1 =>
      have H := HA.out
      clear HA
      simp only [slices_Equal_api_Range.l0] at H
      by_cases c4 : x13_1 < (l0.length : Int)
      rotate_left
      · rw [if_neg c4] at H
        have c4b0 : decide (x13_1 < (l0.length : Int)) = false := decide_eq_false c4
        clear c4
        obtain rfl := Option.some.inj H
        go_wp2
        repeat (go_quiet (fail); try go_wp2)
        go_ret
        exact ⟨by first | rfl | (simp; done) | (simp [*]; done), by repeat (first | exact Drawn0.refl _ | apply Drawn0.step)⟩
      rw [if_pos c4] at H
      have c4b0 : decide (x13_1 < (l0.length : Int)) = true := decide_eq_true c4
      clear c4
      by_cases c5 : 0 ≤ x13_1
      rotate_left
      · rw [if_neg c5] at H
        exact absurd H (by simp)
      rw [if_pos c5] at H
      have c5b0 : decide (0 ≤ x13_1) = true := decide_eq_true c5
      clear c5
      by_cases c6 : x13_1 < (l0.length : Int)
      rotate_left
      · rw [if_neg c6] at H
        exact absurd H (by simp)
      rw [if_pos c6] at H
      have c6b0 : decide (x13_1 < (l0.length : Int)) = true := decide_eq_true c6
      clear c6
      by_cases c7 : x13_1 < (l1.length : Int)
      rotate_left
      · rw [if_neg c7] at H
        exact absurd H (by simp)
      rw [if_pos c7] at H
      have c7b0 : decide (x13_1 < (l1.length : Int)) = true := decide_eq_true c7
      clear c7
      by_cases c8 : (!(((rd_T42 l0 x13_1).f0) == ((rd_T42 l1 x13_1).f0)) || (!(((rd_T42 l0 x13_1).f1) == ((rd_T42 l1 x13_1).f1)))) = true
      · rw [if_pos c8] at H
        have c8b0 : (!(((rd_T42 l0 x13_1).f0) == ((rd_T42 l1 x13_1).f0)) || (!(((rd_T42 l0 x13_1).f1) == ((rd_T42 l1 x13_1).f1)))) = true := c8
        clear c8
        obtain rfl := Option.some.inj H
        have p115 : 0 ≤ (x13_1 : Int) := of_decide_eq_true (by first | (with_reducible assumption) | assumption)
        have q115 : x13_1 < (l0.length : Int) := of_decide_eq_true (by first | (with_reducible assumption) | assumption)
        obtain ⟨ad115, e115, hx115_0, hx115_1⟩ := at_T42 HR0.out x13_1 p115 q115
        cases e115
        replace p115 := eq_true p115
        replace q115 := eq_true q115
        have p116 : 0 ≤ (x13_1 : Int) := of_decide_eq_true (by first | (with_reducible assumption) | assumption)
        have q116 : x13_1 < (l1.length : Int) := of_decide_eq_true (by first | (with_reducible assumption) | assumption)
        obtain ⟨ad116, e116, hx116_0, hx116_1⟩ := at_T42 HR1.out x13_1 p116 q116
        cases e116
        replace p116 := eq_true p116
        replace q116 := eq_true q116
        go_wp2
        repeat (go_quiet (fail); try go_wp2)
        go_ret
        exact ⟨by first | rfl | (simp; done) | (simp [*]; done), by repeat (first | exact Drawn0.refl _ | apply Drawn0.step)⟩
      rw [if_neg c8] at H
      have c8b0 : (!(((rd_T42 l0 x13_1).f0) == ((rd_T42 l1 x13_1).f0)) || (!(((rd_T42 l0 x13_1).f1) == ((rd_T42 l1 x13_1).f1)))) = false := by simpa using c8
      clear c8
      have H' := Aside0.mk H
      clear H
      have p115 : 0 ≤ (x13_1 : Int) := of_decide_eq_true (by first | (with_reducible assumption) | assumption)
      have q115 : x13_1 < (l0.length : Int) := of_decide_eq_true (by first | (with_reducible assumption) | assumption)
      obtain ⟨ad115, e115, hx115_0, hx115_1⟩ := at_T42 HR0.out x13_1 p115 q115
      cases e115
      replace p115 := eq_true p115
      replace q115 := eq_true q115
      have p116 : 0 ≤ (x13_1 : Int) := of_decide_eq_true (by first | (with_reducible assumption) | assumption)
      have q116 : x13_1 < (l1.length : Int) := of_decide_eq_true (by first | (with_reducible assumption) | assumption)
      obtain ⟨ad116, e116, hx116_0, hx116_1⟩ := at_T42 HR1.out x13_1 p116 q116
      cases e116
      replace p116 := eq_true p116
      replace q116 := eq_true q116
      go_wp2
      repeat (go_quiet (fail); try go_wp2)
      go_roundg k1
      case measure => have := HK1.out; omega
      case rel => exact ⟨(wrap64 (x13_1 + 1)), (by first | rfl | (simp; done) | (simp [*]; done)), H', ⟨by have := HK1.out; omega⟩, by repeat (first | exact Drawn0.refl _ | apply Drawn0.step)⟩

def nfa_Same_1.f (k : Nat) (a0_0 : Int) (l0_1 : List (S42)) (a0_2 : Int) (a0_3 : Int) (a1_0 : Int) (l1_1 : List (S42)) (a1_2 : Int) (a1_3 : Int) : Option (Bool) := if a0_0 = a1_0 then (if a0_2 = a1_2 then (if a0_3 = a1_3 then ((slices_Equal_api_Range.f k l0_1 l1_1).bind fun t119 => (some t119)) else (some false)) else (some false)) else (some false)
set_option maxHeartbeats 8000000 in
set_option maxRecDepth 100000 in
theorem nfa_Same_1.calls (k : Nat) (a0_0 : Int) (A0_1 : Option Addr) (c0_1 : Nat) (l0_1 : List (S42)) (a0_2 : Int) (a0_3 : Int) (a1_0 : Int) (A1_1 : Option Addr) (c1_1 : Nat) (l1_1 : List (S42)) (a1_2 : Int) (a1_3 : Int) (r : Bool) (w : World) (hr0_1 : Kd.C k42 w A0_1 l0_1.length l0_1) (hc0_1 : l0_1.length ≤ c0_1) (hr1_1 : Kd.C k42 w A1_1 l1_1.length l1_1) (hc1_1 : l1_1.length ≤ c1_1) (h : nfa_Same_1.f k a0_0 l0_1 a0_2 a0_3 a1_0 l1_1 a1_2 a1_3 = some r) :
    Calls Try.prog 29 #[.agg #[.int .i64 a0_0, .slice A0_1 l0_1.length c0_1, .int .i64 a0_2, .int .i64 a0_3], .agg #[.int .i64 a1_0, .slice A1_1 l1_1.length c1_1, .int .i64 a1_2, .int .i64 a1_3]] w fun e w' => e = .returned (.bool r) ∧ Below w.heap.size w w' := by
  have hu39 := Try.underlying39
  have HR0_1 := Aside0.mk hr0_1
  have HC0_1 := Aside0.mk hc0_1
  clear hr0_1 hc0_1
  have HR1_1 := Aside0.mk hr1_1
  have HC1_1 := Aside0.mk hc1_1
  clear hr1_1 hc1_1
  have HB := Aside0.mk (Below.refl w.heap.size w)
  have H : (if a0_0 = a1_0 then (if a0_2 = a1_2 then (if a0_3 = a1_3 then ((slices_Equal_api_Range.f k l0_1 l1_1).bind fun t119 => (some t119)) else (some false)) else (some false)) else (some false)) = some r := h
  clear h
  by_cases c3 : a0_0 = a1_0
  rotate_left
  · rw [if_neg c3] at H
    have c3b0 : (a0_0 == a1_0) = false := beq_eq_false_iff_ne.mpr c3
    have c3b1 : (a0_0 != a1_0) = true := bne_iff_ne.mpr c3
    obtain rfl := Option.some.inj H
    go_enter Try.func29, Try.ntmps29
    go_wp2_with (first | ((with_reducible refine gate_dst (N := 2) rfl ?_); refine box_event ?hg (N := 2) ?hd (cs := #[.int .i64 a0_0, .slice A0_1 l0_1.length c0_1, .int .i64 a0_2, .int .i64 a0_3]) (t := 39) ?hr ?_; (case hd => rfl); (case hg => rfl); (case hr => first | (go_simp; done) | (go_simp; rfl)); intro gb117 hg w22 hbox hb; have n0_ := Aside0.mk (below_step (by repeat (first | (with_reducible first | exact HB.out | apply below_alloc | apply pw_below_drewN | apply below_drew1) | exact HB.out)) hb); have n1_ := Aside0.mk (hbox); have n2_ := Aside0.mk ((by rw [hg]; exact (below_size (by repeat (first | (with_reducible first | exact HB.out | apply below_alloc | apply pw_below_drewN | apply below_drew1) | exact HB.out))) : w.heap.size ≤ gb117)); have n3_ := Aside0.mk ((by rw [hg]; exact (below_size (by repeat (first | (with_reducible first | exact HB.out | apply below_alloc | apply pw_below_drewN | apply below_drew1) | exact HB.out))) : w.heap.size ≤ gb117)); clear HB; have HB := n0_; have BK117 := n1_; have GW117 := n2_; have GE117 := n3_; clear n0_ n1_ n2_ n3_; clear hb hbox hg) | ((with_reducible refine gate_dst (N := 3) rfl ?_); refine box_event ?hg (N := 3) ?hd (cs := #[.int .i64 a1_0, .slice A1_1 l1_1.length c1_1, .int .i64 a1_2, .int .i64 a1_3]) (t := 39) ?hr ?_; (case hd => rfl); (case hg => rfl); (case hr => first | (go_simp; done) | (go_simp; rfl)); intro gb118 hg w23 hbox hb; have n0_ := Aside0.mk (blk_below (g := gb117) (o := .cells #[.int .i64 a0_0, .slice A0_1 l0_1.length c0_1, .int .i64 a0_2, .int .i64 a0_3] 39 (0, 0)) (by (with_reducible repeat (first | refine blk_drewN ?_ _ | refine blk_drew ?_ | refine blk_alloc ?_ _)); exact BK117.out) hb); have n1_ := Aside0.mk (below_step (by repeat (first | (with_reducible first | exact HB.out | apply below_alloc | apply pw_below_drewN | apply below_drew1 | refine below_set ?_ GE117.out) | exact HB.out)) hb); have n2_ := Aside0.mk (hbox); have n3_ := Aside0.mk ((by rw [hg]; exact (below_size (by repeat (first | (with_reducible first | exact HB.out | apply below_alloc | apply pw_below_drewN | apply below_drew1 | refine below_set ?_ GE117.out) | exact HB.out))) : w.heap.size ≤ gb118)); have n4_ := Aside0.mk ((by rw [hg]; exact (below_size (by repeat (first | (with_reducible first | exact HB.out | apply below_alloc | apply pw_below_drewN | apply below_drew1 | refine below_set ?_ GE117.out) | exact HB.out))) : w.heap.size ≤ gb118)); have n5_ := Aside0.mk ((by rw [hg]; exact Nat.ne_of_lt (blk_lt (g := gb117) (o := .cells #[.int .i64 a0_0, .slice A0_1 l0_1.length c0_1, .int .i64 a0_2, .int .i64 a0_3] 39 (0, 0)) (by (with_reducible repeat (first | refine blk_drewN ?_ _ | refine blk_drew ?_ | refine blk_alloc ?_ _)); exact BK117.out)) : gb117 ≠ gb118)); have n6_ := Aside0.mk ((by rw [hg]; exact Nat.ne_of_gt (blk_lt (g := gb117) (o := .cells #[.int .i64 a0_0, .slice A0_1 l0_1.length c0_1, .int .i64 a0_2, .int .i64 a0_3] 39 (0, 0)) (by (with_reducible repeat (first | refine blk_drewN ?_ _ | refine blk_drew ?_ | refine blk_alloc ?_ _)); exact BK117.out)) : gb118 ≠ gb117)); clear BK117; clear HB; have BK117 := n0_; have HB := n1_; have BK118 := n2_; have GW118 := n3_; have GE118 := n4_; have NB117_118 := n5_; have NB118_117 := n6_; clear n0_ n1_ n2_ n3_ n4_ n5_ n6_; clear hb hbox hg; have hnb24 := NB117_118.out; have hnc24 := NB118_117.out; have hcz25_0 : w23.cell? ⟨gb117, 0, none⟩ = some (.int .i64 a0_0) := (blk_cell BK117.out 0).trans rfl; have hcz25_1 : w23.cell? ⟨gb117, 1, none⟩ = some (.slice A0_1 l0_1.length c0_1) := (blk_cell BK117.out 1).trans rfl; have hcz25_2 : w23.cell? ⟨gb117, 2, none⟩ = some (.int .i64 a0_2) := (blk_cell BK117.out 2).trans rfl; have hcz25_3 : w23.cell? ⟨gb117, 3, none⟩ = some (.int .i64 a0_3) := (blk_cell BK117.out 3).trans rfl; have hfz25_0 := blk_frozen BK117.out 0; have hfz25_1 := blk_frozen BK117.out 1; have hfz25_2 := blk_frozen BK117.out 2; have hfz25_3 := blk_frozen BK117.out 3; have hcz26_0 : w23.cell? ⟨gb118, 0, none⟩ = some (.int .i64 a1_0) := (blk_cell BK118.out 0).trans rfl; have hcz26_1 : w23.cell? ⟨gb118, 1, none⟩ = some (.slice A1_1 l1_1.length c1_1) := (blk_cell BK118.out 1).trans rfl; have hcz26_2 : w23.cell? ⟨gb118, 2, none⟩ = some (.int .i64 a1_2) := (blk_cell BK118.out 2).trans rfl; have hcz26_3 : w23.cell? ⟨gb118, 3, none⟩ = some (.int .i64 a1_3) := (blk_cell BK118.out 3).trans rfl; have hfz26_0 := blk_frozen BK118.out 0; have hfz26_1 := blk_frozen BK118.out 1; have hfz26_2 := blk_frozen BK118.out 2; have hfz26_3 := blk_frozen BK118.out 3))
    go_ret
    exact ⟨by first | rfl | (simp [errW_none, errW_some] <;> rfl) | (simp [*, errW_none, errW_some] <;> rfl), by repeat (first | (with_reducible first | exact HB.out | apply below_alloc | apply pw_below_drewN | apply below_drew1 | refine below_set ?_ GE117.out | refine below_set ?_ GE118.out) | exact HB.out)⟩
  rw [if_pos c3] at H
  have c3b0 : (a0_0 == a1_0) = true := beq_iff_eq.mpr c3
  have c3b1 : (a0_0 != a1_0) = false := bne_eq_false_iff_eq.mpr c3
  clear c3
  by_cases c4 : a0_2 = a1_2
  rotate_left
  · rw [if_neg c4] at H
    have c4b0 : (a0_2 == a1_2) = false := beq_eq_false_iff_ne.mpr c4
    have c4b1 : (a0_2 != a1_2) = true := bne_iff_ne.mpr c4
    obtain rfl := Option.some.inj H
    go_enter Try.func29, Try.ntmps29
    go_wp2_with (first | ((with_reducible refine gate_dst (N := 2) rfl ?_); refine box_event ?hg (N := 2) ?hd (cs := #[.int .i64 a0_0, .slice A0_1 l0_1.length c0_1, .int .i64 a0_2, .int .i64 a0_3]) (t := 39) ?hr ?_; (case hd => rfl); (case hg => rfl); (case hr => first | (go_simp; done) | (go_simp; rfl)); intro gb117 hg w17 hbox hb; have n0_ := Aside0.mk (below_step (by repeat (first | (with_reducible first | exact HB.out | apply below_alloc | apply pw_below_drewN | apply below_drew1) | exact HB.out)) hb); have n1_ := Aside0.mk (hbox); have n2_ := Aside0.mk ((by rw [hg]; exact (below_size (by repeat (first | (with_reducible first | exact HB.out | apply below_alloc | apply pw_below_drewN | apply below_drew1) | exact HB.out))) : w.heap.size ≤ gb117)); have n3_ := Aside0.mk ((by rw [hg]; exact (below_size (by repeat (first | (with_reducible first | exact HB.out | apply below_alloc | apply pw_below_drewN | apply below_drew1) | exact HB.out))) : w.heap.size ≤ gb117)); clear HB; have HB := n0_; have BK117 := n1_; have GW117 := n2_; have GE117 := n3_; clear n0_ n1_ n2_ n3_; clear hb hbox hg) | ((with_reducible refine gate_dst (N := 3) rfl ?_); refine box_event ?hg (N := 3) ?hd (cs := #[.int .i64 a1_0, .slice A1_1 l1_1.length c1_1, .int .i64 a1_2, .int .i64 a1_3]) (t := 39) ?hr ?_; (case hd => rfl); (case hg => rfl); (case hr => first | (go_simp; done) | (go_simp; rfl)); intro gb118 hg w18 hbox hb; have n0_ := Aside0.mk (blk_below (g := gb117) (o := .cells #[.int .i64 a0_0, .slice A0_1 l0_1.length c0_1, .int .i64 a0_2, .int .i64 a0_3] 39 (0, 0)) (by (with_reducible repeat (first | refine blk_drewN ?_ _ | refine blk_drew ?_ | refine blk_alloc ?_ _)); exact BK117.out) hb); have n1_ := Aside0.mk (below_step (by repeat (first | (with_reducible first | exact HB.out | apply below_alloc | apply pw_below_drewN | apply below_drew1 | refine below_set ?_ GE117.out) | exact HB.out)) hb); have n2_ := Aside0.mk (hbox); have n3_ := Aside0.mk ((by rw [hg]; exact (below_size (by repeat (first | (with_reducible first | exact HB.out | apply below_alloc | apply pw_below_drewN | apply below_drew1 | refine below_set ?_ GE117.out) | exact HB.out))) : w.heap.size ≤ gb118)); have n4_ := Aside0.mk ((by rw [hg]; exact (below_size (by repeat (first | (with_reducible first | exact HB.out | apply below_alloc | apply pw_below_drewN | apply below_drew1 | refine below_set ?_ GE117.out) | exact HB.out))) : w.heap.size ≤ gb118)); have n5_ := Aside0.mk ((by rw [hg]; exact Nat.ne_of_lt (blk_lt (g := gb117) (o := .cells #[.int .i64 a0_0, .slice A0_1 l0_1.length c0_1, .int .i64 a0_2, .int .i64 a0_3] 39 (0, 0)) (by (with_reducible repeat (first | refine blk_drewN ?_ _ | refine blk_drew ?_ | refine blk_alloc ?_ _)); exact BK117.out)) : gb117 ≠ gb118)); have n6_ := Aside0.mk ((by rw [hg]; exact Nat.ne_of_gt (blk_lt (g := gb117) (o := .cells #[.int .i64 a0_0, .slice A0_1 l0_1.length c0_1, .int .i64 a0_2, .int .i64 a0_3] 39 (0, 0)) (by (with_reducible repeat (first | refine blk_drewN ?_ _ | refine blk_drew ?_ | refine blk_alloc ?_ _)); exact BK117.out)) : gb118 ≠ gb117)); clear BK117; clear HB; have BK117 := n0_; have HB := n1_; have BK118 := n2_; have GW118 := n3_; have GE118 := n4_; have NB117_118 := n5_; have NB118_117 := n6_; clear n0_ n1_ n2_ n3_ n4_ n5_ n6_; clear hb hbox hg; have hnb19 := NB117_118.out; have hnc19 := NB118_117.out; have hcz20_0 : w18.cell? ⟨gb117, 0, none⟩ = some (.int .i64 a0_0) := (blk_cell BK117.out 0).trans rfl; have hcz20_1 : w18.cell? ⟨gb117, 1, none⟩ = some (.slice A0_1 l0_1.length c0_1) := (blk_cell BK117.out 1).trans rfl; have hcz20_2 : w18.cell? ⟨gb117, 2, none⟩ = some (.int .i64 a0_2) := (blk_cell BK117.out 2).trans rfl; have hcz20_3 : w18.cell? ⟨gb117, 3, none⟩ = some (.int .i64 a0_3) := (blk_cell BK117.out 3).trans rfl; have hfz20_0 := blk_frozen BK117.out 0; have hfz20_1 := blk_frozen BK117.out 1; have hfz20_2 := blk_frozen BK117.out 2; have hfz20_3 := blk_frozen BK117.out 3; have hcz21_0 : w18.cell? ⟨gb118, 0, none⟩ = some (.int .i64 a1_0) := (blk_cell BK118.out 0).trans rfl; have hcz21_1 : w18.cell? ⟨gb118, 1, none⟩ = some (.slice A1_1 l1_1.length c1_1) := (blk_cell BK118.out 1).trans rfl; have hcz21_2 : w18.cell? ⟨gb118, 2, none⟩ = some (.int .i64 a1_2) := (blk_cell BK118.out 2).trans rfl; have hcz21_3 : w18.cell? ⟨gb118, 3, none⟩ = some (.int .i64 a1_3) := (blk_cell BK118.out 3).trans rfl; have hfz21_0 := blk_frozen BK118.out 0; have hfz21_1 := blk_frozen BK118.out 1; have hfz21_2 := blk_frozen BK118.out 2; have hfz21_3 := blk_frozen BK118.out 3))
    go_ret
    exact ⟨by first | rfl | (simp [errW_none, errW_some] <;> rfl) | (simp [*, errW_none, errW_some] <;> rfl), by repeat (first | (with_reducible first | exact HB.out | apply below_alloc | apply pw_below_drewN | apply below_drew1 | refine below_set ?_ GE117.out | refine below_set ?_ GE118.out) | exact HB.out)⟩
  rw [if_pos c4] at H
  have c4b0 : (a0_2 == a1_2) = true := beq_iff_eq.mpr c4
  have c4b1 : (a0_2 != a1_2) = false := bne_eq_false_iff_eq.mpr c4
  clear c4
  by_cases c5 : a0_3 = a1_3
  rotate_left
  · rw [if_neg c5] at H
    have c5b0 : (a0_3 == a1_3) = false := beq_eq_false_iff_ne.mpr c5
    have c5b1 : (a0_3 != a1_3) = true := bne_iff_ne.mpr c5
    obtain rfl := Option.some.inj H
    go_enter Try.func29, Try.ntmps29
    go_wp2_with (first | ((with_reducible refine gate_dst (N := 2) rfl ?_); refine box_event ?hg (N := 2) ?hd (cs := #[.int .i64 a0_0, .slice A0_1 l0_1.length c0_1, .int .i64 a0_2, .int .i64 a0_3]) (t := 39) ?hr ?_; (case hd => rfl); (case hg => rfl); (case hr => first | (go_simp; done) | (go_simp; rfl)); intro gb117 hg w12 hbox hb; have n0_ := Aside0.mk (below_step (by repeat (first | (with_reducible first | exact HB.out | apply below_alloc | apply pw_below_drewN | apply below_drew1) | exact HB.out)) hb); have n1_ := Aside0.mk (hbox); have n2_ := Aside0.mk ((by rw [hg]; exact (below_size (by repeat (first | (with_reducible first | exact HB.out | apply below_alloc | apply pw_below_drewN | apply below_drew1) | exact HB.out))) : w.heap.size ≤ gb117)); have n3_ := Aside0.mk ((by rw [hg]; exact (below_size (by repeat (first | (with_reducible first | exact HB.out | apply below_alloc | apply pw_below_drewN | apply below_drew1) | exact HB.out))) : w.heap.size ≤ gb117)); clear HB; have HB := n0_; have BK117 := n1_; have GW117 := n2_; have GE117 := n3_; clear n0_ n1_ n2_ n3_; clear hb hbox hg) | ((with_reducible refine gate_dst (N := 3) rfl ?_); refine box_event ?hg (N := 3) ?hd (cs := #[.int .i64 a1_0, .slice A1_1 l1_1.length c1_1, .int .i64 a1_2, .int .i64 a1_3]) (t := 39) ?hr ?_; (case hd => rfl); (case hg => rfl); (case hr => first | (go_simp; done) | (go_simp; rfl)); intro gb118 hg w13 hbox hb; have n0_ := Aside0.mk (blk_below (g := gb117) (o := .cells #[.int .i64 a0_0, .slice A0_1 l0_1.length c0_1, .int .i64 a0_2, .int .i64 a0_3] 39 (0, 0)) (by (with_reducible repeat (first | refine blk_drewN ?_ _ | refine blk_drew ?_ | refine blk_alloc ?_ _)); exact BK117.out) hb); have n1_ := Aside0.mk (below_step (by repeat (first | (with_reducible first | exact HB.out | apply below_alloc | apply pw_below_drewN | apply below_drew1 | refine below_set ?_ GE117.out) | exact HB.out)) hb); have n2_ := Aside0.mk (hbox); have n3_ := Aside0.mk ((by rw [hg]; exact (below_size (by repeat (first | (with_reducible first | exact HB.out | apply below_alloc | apply pw_below_drewN | apply below_drew1 | refine below_set ?_ GE117.out) | exact HB.out))) : w.heap.size ≤ gb118)); have n4_ := Aside0.mk ((by rw [hg]; exact (below_size (by repeat (first | (with_reducible first | exact HB.out | apply below_alloc | apply pw_below_drewN | apply below_drew1 | refine below_set ?_ GE117.out) | exact HB.out))) : w.heap.size ≤ gb118)); have n5_ := Aside0.mk ((by rw [hg]; exact Nat.ne_of_lt (blk_lt (g := gb117) (o := .cells #[.int .i64 a0_0, .slice A0_1 l0_1.length c0_1, .int .i64 a0_2, .int .i64 a0_3] 39 (0, 0)) (by (with_reducible repeat (first | refine blk_drewN ?_ _ | refine blk_drew ?_ | refine blk_alloc ?_ _)); exact BK117.out)) : gb117 ≠ gb118)); have n6_ := Aside0.mk ((by rw [hg]; exact Nat.ne_of_gt (blk_lt (g := gb117) (o := .cells #[.int .i64 a0_0, .slice A0_1 l0_1.length c0_1, .int .i64 a0_2, .int .i64 a0_3] 39 (0, 0)) (by (with_reducible repeat (first | refine blk_drewN ?_ _ | refine blk_drew ?_ | refine blk_alloc ?_ _)); exact BK117.out)) : gb118 ≠ gb117)); clear BK117; clear HB; have BK117 := n0_; have HB := n1_; have BK118 := n2_; have GW118 := n3_; have GE118 := n4_; have NB117_118 := n5_; have NB118_117 := n6_; clear n0_ n1_ n2_ n3_ n4_ n5_ n6_; clear hb hbox hg; have hnb14 := NB117_118.out; have hnc14 := NB118_117.out; have hcz15_0 : w13.cell? ⟨gb117, 0, none⟩ = some (.int .i64 a0_0) := (blk_cell BK117.out 0).trans rfl; have hcz15_1 : w13.cell? ⟨gb117, 1, none⟩ = some (.slice A0_1 l0_1.length c0_1) := (blk_cell BK117.out 1).trans rfl; have hcz15_2 : w13.cell? ⟨gb117, 2, none⟩ = some (.int .i64 a0_2) := (blk_cell BK117.out 2).trans rfl; have hcz15_3 : w13.cell? ⟨gb117, 3, none⟩ = some (.int .i64 a0_3) := (blk_cell BK117.out 3).trans rfl; have hfz15_0 := blk_frozen BK117.out 0; have hfz15_1 := blk_frozen BK117.out 1; have hfz15_2 := blk_frozen BK117.out 2; have hfz15_3 := blk_frozen BK117.out 3; have hcz16_0 : w13.cell? ⟨gb118, 0, none⟩ = some (.int .i64 a1_0) := (blk_cell BK118.out 0).trans rfl; have hcz16_1 : w13.cell? ⟨gb118, 1, none⟩ = some (.slice A1_1 l1_1.length c1_1) := (blk_cell BK118.out 1).trans rfl; have hcz16_2 : w13.cell? ⟨gb118, 2, none⟩ = some (.int .i64 a1_2) := (blk_cell BK118.out 2).trans rfl; have hcz16_3 : w13.cell? ⟨gb118, 3, none⟩ = some (.int .i64 a1_3) := (blk_cell BK118.out 3).trans rfl; have hfz16_0 := blk_frozen BK118.out 0; have hfz16_1 := blk_frozen BK118.out 1; have hfz16_2 := blk_frozen BK118.out 2; have hfz16_3 := blk_frozen BK118.out 3))
    go_ret
    exact ⟨by first | rfl | (simp [errW_none, errW_some] <;> rfl) | (simp [*, errW_none, errW_some] <;> rfl), by repeat (first | (with_reducible first | exact HB.out | apply below_alloc | apply pw_below_drewN | apply below_drew1 | refine below_set ?_ GE117.out | refine below_set ?_ GE118.out) | exact HB.out)⟩
  rw [if_pos c5] at H
  have c5b0 : (a0_3 == a1_3) = true := beq_iff_eq.mpr c5
  have c5b1 : (a0_3 != a1_3) = false := bne_eq_false_iff_eq.mpr c5
  clear c5
  replace H := Option.bind_eq_some_iff.mp H
  obtain ⟨t119, A60, H⟩ := H
  replace H : (some t119) = some r := H
  have A6 := Aside0.mk A60
  clear A60
  obtain rfl := Option.some.inj H
  go_enter Try.func29, Try.ntmps29
  go_wp2_with (first | ((with_reducible refine gate_dst (N := 2) rfl ?_); refine box_event ?hg (N := 2) ?hd (cs := #[.int .i64 a0_0, .slice A0_1 l0_1.length c0_1, .int .i64 a0_2, .int .i64 a0_3]) (t := 39) ?hr ?_; (case hd => rfl); (case hg => rfl); (case hr => first | (go_simp; done) | (go_simp; rfl)); intro gb117 hg w7 hbox hb; have n0_ := Aside0.mk (below_step (by repeat (first | (with_reducible first | exact HB.out | apply below_alloc | apply pw_below_drewN | apply below_drew1) | exact HB.out)) hb); have n1_ := Aside0.mk (hbox); have n2_ := Aside0.mk ((by rw [hg]; exact (below_size (by repeat (first | (with_reducible first | exact HB.out | apply below_alloc | apply pw_below_drewN | apply below_drew1) | exact HB.out))) : w.heap.size ≤ gb117)); have n3_ := Aside0.mk ((by rw [hg]; exact (below_size (by repeat (first | (with_reducible first | exact HB.out | apply below_alloc | apply pw_below_drewN | apply below_drew1) | exact HB.out))) : w.heap.size ≤ gb117)); clear HB; have HB := n0_; have BK117 := n1_; have GW117 := n2_; have GE117 := n3_; clear n0_ n1_ n2_ n3_; clear hb hbox hg) | ((with_reducible refine gate_dst (N := 3) rfl ?_); refine box_event ?hg (N := 3) ?hd (cs := #[.int .i64 a1_0, .slice A1_1 l1_1.length c1_1, .int .i64 a1_2, .int .i64 a1_3]) (t := 39) ?hr ?_; (case hd => rfl); (case hg => rfl); (case hr => first | (go_simp; done) | (go_simp; rfl)); intro gb118 hg w8 hbox hb; have n0_ := Aside0.mk (blk_below (g := gb117) (o := .cells #[.int .i64 a0_0, .slice A0_1 l0_1.length c0_1, .int .i64 a0_2, .int .i64 a0_3] 39 (0, 0)) (by (with_reducible repeat (first | refine blk_drewN ?_ _ | refine blk_drew ?_ | refine blk_alloc ?_ _)); exact BK117.out) hb); have n1_ := Aside0.mk (below_step (by repeat (first | (with_reducible first | exact HB.out | apply below_alloc | apply pw_below_drewN | apply below_drew1 | refine below_set ?_ GE117.out) | exact HB.out)) hb); have n2_ := Aside0.mk (hbox); have n3_ := Aside0.mk ((by rw [hg]; exact (below_size (by repeat (first | (with_reducible first | exact HB.out | apply below_alloc | apply pw_below_drewN | apply below_drew1 | refine below_set ?_ GE117.out) | exact HB.out))) : w.heap.size ≤ gb118)); have n4_ := Aside0.mk ((by rw [hg]; exact (below_size (by repeat (first | (with_reducible first | exact HB.out | apply below_alloc | apply pw_below_drewN | apply below_drew1 | refine below_set ?_ GE117.out) | exact HB.out))) : w.heap.size ≤ gb118)); have n5_ := Aside0.mk ((by rw [hg]; exact Nat.ne_of_lt (blk_lt (g := gb117) (o := .cells #[.int .i64 a0_0, .slice A0_1 l0_1.length c0_1, .int .i64 a0_2, .int .i64 a0_3] 39 (0, 0)) (by (with_reducible repeat (first | refine blk_drewN ?_ _ | refine blk_drew ?_ | refine blk_alloc ?_ _)); exact BK117.out)) : gb117 ≠ gb118)); have n6_ := Aside0.mk ((by rw [hg]; exact Nat.ne_of_gt (blk_lt (g := gb117) (o := .cells #[.int .i64 a0_0, .slice A0_1 l0_1.length c0_1, .int .i64 a0_2, .int .i64 a0_3] 39 (0, 0)) (by (with_reducible repeat (first | refine blk_drewN ?_ _ | refine blk_drew ?_ | refine blk_alloc ?_ _)); exact BK117.out)) : gb118 ≠ gb117)); clear BK117; clear HB; have BK117 := n0_; have HB := n1_; have BK118 := n2_; have GW118 := n3_; have GE118 := n4_; have NB117_118 := n5_; have NB118_117 := n6_; clear n0_ n1_ n2_ n3_ n4_ n5_ n6_; clear hb hbox hg; have hnb9 := NB117_118.out; have hnc9 := NB118_117.out; have hcz10_0 : w8.cell? ⟨gb117, 0, none⟩ = some (.int .i64 a0_0) := (blk_cell BK117.out 0).trans rfl; have hcz10_1 : w8.cell? ⟨gb117, 1, none⟩ = some (.slice A0_1 l0_1.length c0_1) := (blk_cell BK117.out 1).trans rfl; have hcz10_2 : w8.cell? ⟨gb117, 2, none⟩ = some (.int .i64 a0_2) := (blk_cell BK117.out 2).trans rfl; have hcz10_3 : w8.cell? ⟨gb117, 3, none⟩ = some (.int .i64 a0_3) := (blk_cell BK117.out 3).trans rfl; have hfz10_0 := blk_frozen BK117.out 0; have hfz10_1 := blk_frozen BK117.out 1; have hfz10_2 := blk_frozen BK117.out 2; have hfz10_3 := blk_frozen BK117.out 3; have hcz11_0 : w8.cell? ⟨gb118, 0, none⟩ = some (.int .i64 a1_0) := (blk_cell BK118.out 0).trans rfl; have hcz11_1 : w8.cell? ⟨gb118, 1, none⟩ = some (.slice A1_1 l1_1.length c1_1) := (blk_cell BK118.out 1).trans rfl; have hcz11_2 : w8.cell? ⟨gb118, 2, none⟩ = some (.int .i64 a1_2) := (blk_cell BK118.out 2).trans rfl; have hcz11_3 : w8.cell? ⟨gb118, 3, none⟩ = some (.int .i64 a1_3) := (blk_cell BK118.out 3).trans rfl; have hfz11_0 := blk_frozen BK118.out 0; have hfz11_1 := blk_frozen BK118.out 1; have hfz11_2 := blk_frozen BK118.out 2; have hfz11_3 := blk_frozen BK118.out 3) | (go_at_call 30; (with_reducible refine (slices_Equal_api_Range.calls k _ _ l0_1 _ _ l1_1 t119 _ ?side1 ?side2 ?side3 ?side4 A6.out).mono ?_); (case side1 => repeat (first | exact (Kd.C_below HR0_1.out HB.out) | (with_reducible refine Kd.C_alloc ?_ _) | (with_reducible refine Kd.C_drewN ?_ _) | (with_reducible refine Kd.C_drew ?_))); (case side2 => exact HC0_1.out); (case side3 => repeat (first | exact (Kd.C_below HR1_1.out HB.out) | (with_reducible refine Kd.C_alloc ?_ _) | (with_reducible refine Kd.C_drewN ?_ _) | (with_reducible refine Kd.C_drew ?_))); (case side4 => exact HC1_1.out); rintro e w' ⟨rfl, ⟨nd, rfl⟩⟩))
  go_ret
  exact ⟨by first | rfl | (simp [errW_none, errW_some] <;> rfl) | (simp [*, errW_none, errW_some] <;> rfl), by repeat (first | (with_reducible first | exact HB.out | apply below_alloc | apply pw_below_drewN | apply below_drew1 | refine below_set ?_ GE117.out | refine below_set ?_ GE118.out) | exact HB.out)⟩

def slices_EqualFunc_api_Inst_api_Inst_nfa_Same_1.l0 : Nat → List (S39) → List (S39) → Int → Int → Option (Bool)
  | 0, _, _, _, _ => none
  | k + 1, x1, x15, x16, x17 => if x17 < x16 then (if 0 ≤ x17 then (if x17 < (x15.length : Int) then (if x17 < (x1.length : Int) then ((nfa_Same_1.f k ((rd_T39 x15 x17).f0) ((rd_T39 x15 x17).f1) ((rd_T39 x15 x17).f2) ((rd_T39 x15 x17).f3) ((rd_T39 x1 x17).f0) ((rd_T39 x1 x17).f1) ((rd_T39 x1 x17).f2) ((rd_T39 x1 x17).f3)).bind fun t124 => (if t124 = true then (slices_EqualFunc_api_Inst_api_Inst_nfa_Same_1.l0 k x1 x15 x16 (wrap64 (x17 + 1))) else (some false))) else (none)) else (none)) else (none)) else (some true)
def slices_EqualFunc_api_Inst_api_Inst_nfa_Same_1.f (k : Nat) (l0 : List (S39)) (l1 : List (S39))  : Option (Bool) := if (l0.length : Int) = (l1.length : Int) then (slices_EqualFunc_api_Inst_api_Inst_nfa_Same_1.l0 k l1 l0 (l0.length : Int) 0) else (some false)
set_option maxHeartbeats 8000000 in
set_option maxRecDepth 100000 in
theorem slices_EqualFunc_api_Inst_api_Inst_nfa_Same_1.calls (k : Nat) (A0 : Option Addr) (c0 : Nat) (l0 : List (S39)) (A1 : Option Addr) (c1 : Nat) (l1 : List (S39))  (r : Bool) (w : World) (hr0 : Kd.C k39 w A0 l0.length l0) (hc0 : l0.length ≤ c0) (hr1 : Kd.C k39 w A1 l1.length l1) (hc1 : l1.length ≤ c1) (h : slices_EqualFunc_api_Inst_api_Inst_nfa_Same_1.f k l0 l1 = some r) :
    Calls Try.prog 28 #[.slice A0 l0.length c0, .slice A1 l1.length c1, .func (.func 29) #[] #[]] w fun e w' => e = .returned (.bool r) ∧ Below w.heap.size w w' := by
  have hu39 := Try.underlying39
  have HR0 := Aside0.mk hr0
  have HC0 := Aside0.mk hc0
  clear hr0 hc0
  have HR1 := Aside0.mk hr1
  have HC1 := Aside0.mk hc1
  clear hr1 hc1
  have HB := Aside0.mk (Below.refl w.heap.size w)
  have H : (if (l0.length : Int) = (l1.length : Int) then (slices_EqualFunc_api_Inst_api_Inst_nfa_Same_1.l0 k l1 l0 (l0.length : Int) 0) else (some false)) = some r := h
  clear h
  by_cases c4 : (l0.length : Int) = (l1.length : Int)
  rotate_left
  · rw [if_neg c4] at H
    have c4b0 : ((l0.length : Int) == (l1.length : Int)) = false := beq_eq_false_iff_ne.mpr c4
    have c4b1 : ((l0.length : Int) != (l1.length : Int)) = true := bne_iff_ne.mpr c4
    have c4b2 : (l0.length == l1.length) = false := by first | simpa using c4 | (simp at c4 ⊢; omega)
    obtain rfl := Option.some.inj H
    go_enter Try.func28, Try.ntmps28
    go_wp2
    go_ret
    exact ⟨by first | rfl | (simp [errW_none, errW_some] <;> rfl) | (simp [*, errW_none, errW_some] <;> rfl), by repeat (first | (with_reducible first | exact HB.out | apply below_alloc | apply pw_below_drewN | apply below_drew1) | exact HB.out)⟩
  rw [if_pos c4] at H
  have c4b0 : ((l0.length : Int) == (l1.length : Int)) = true := beq_iff_eq.mpr c4
  have c4b1 : ((l0.length : Int) != (l1.length : Int)) = false := bne_eq_false_iff_eq.mpr c4
  have c4b2 : (l0.length == l1.length) = true := by first | simpa using c4 | (simp at c4 ⊢; omega)
  clear c4
  have H' := Aside0.mk H
  clear H
  go_enter Try.func28, Try.ntmps28
  go_wp2
  go_loopg [17] k (fun kq v17 w' => ∃ (x17_1 : Int), v17 = .int .i64 x17_1 ∧ Aside0 (slices_EqualFunc_api_Inst_api_Inst_nfa_Same_1.l0 kq l1 l0 (l0.length : Int) x17_1 = some r) ∧ Aside0 (kq ≤ k) ∧ Aside0 (Below w.heap.size w w'))
  case atStart => exact ⟨(0), (by first | rfl | (simp; done) | (simp [*]; done)), H', ⟨Nat.le_refl _⟩, ⟨by repeat (first | (with_reducible first | exact HB.out | apply below_alloc | apply pw_below_drewN | apply below_drew1) | exact HB.out)⟩⟩
  case round =>
    clear H'
    try clear c1
    try clear p2
    try clear c4
    try clear c4b0
    try clear c4b1
    try clear c4b2
    obtain ⟨x17_1, rfl, HA, HK1, HB⟩ := hrel
    cases gk with
    | zero => exact absurd HA.out (by simp [slices_EqualFunc_api_Inst_api_Inst_nfa_Same_1.l0])
    | succ k1 =>
      have H := HA.out
      clear HA
      simp only [slices_EqualFunc_api_Inst_api_Inst_nfa_Same_1.l0] at H
      by_cases c5 : x17_1 < (l0.length : Int)
      rotate_left
      · rw [if_neg c5] at H
        have c5b0 : decide (x17_1 < (l0.length : Int)) = false := decide_eq_false c5
        clear c5
        obtain rfl := Option.some.inj H
        go_wp2
        go_ret
        exact ⟨by first | rfl | (simp [errW_none, errW_some] <;> rfl) | (simp [*, errW_none, errW_some] <;> rfl), by repeat (first | (with_reducible first | exact HB.out | apply below_alloc | apply pw_below_drewN | apply below_drew1) | exact HB.out)⟩
      rw [if_pos c5] at H
      have c5b0 : decide (x17_1 < (l0.length : Int)) = true := decide_eq_true c5
      clear c5
      by_cases c6 : 0 ≤ x17_1
      rotate_left
      · rw [if_neg c6] at H
        exact absurd H (by simp)
      rw [if_pos c6] at H
      have c6b0 : decide (0 ≤ x17_1) = true := decide_eq_true c6
      clear c6
      by_cases c7 : x17_1 < (l0.length : Int)
      rotate_left
      · rw [if_neg c7] at H
        exact absurd H (by simp)
      rw [if_pos c7] at H
      have c7b0 : decide (x17_1 < (l0.length : Int)) = true := decide_eq_true c7
      clear c7
      by_cases c8 : x17_1 < (l1.length : Int)
      rotate_left
      · rw [if_neg c8] at H
        exact absurd H (by simp)
      rw [if_pos c8] at H
      have c8b0 : decide (x17_1 < (l1.length : Int)) = true := decide_eq_true c8
      clear c8
      replace H := Option.bind_eq_some_iff.mp H
      obtain ⟨t124, A90, H⟩ := H
      replace H : (if t124 = true then (slices_EqualFunc_api_Inst_api_Inst_nfa_Same_1.l0 k1 l1 l0 (l0.length : Int) (wrap64 (x17_1 + 1))) else (some false)) = some r := H
      have A9 := Aside0.mk A90
      clear A90
      by_cases c10 : t124 = true
      rotate_left
      · replace c10 := Bool.eq_false_iff.mpr c10
        subst c10
        have H1 : (some false) = some r := by rw [if_neg (show ¬ (false = true) by decide)] at H; exact H
        clear H
        have H := H1
        clear H1
        obtain rfl := Option.some.inj H
        have p120 : 0 ≤ (x17_1 : Int) := of_decide_eq_true (by first | (with_reducible assumption) | assumption)
        have q120 : x17_1 < (l0.length : Int) := of_decide_eq_true (by first | (with_reducible assumption) | assumption)
        obtain ⟨ad120, A120_1, c120_1, e120, hx120_0, hx120_1, hx120_2, hx120_3, hl120_1, hi120_1⟩ := at_T39 HR0.out x17_1 p120 q120
        cases e120
        replace hx120_0 := (HB.out.cell (World.block_lt_of_cell? w _ hx120_0)).trans hx120_0
        replace hx120_1 := (HB.out.cell (World.block_lt_of_cell? w _ hx120_1)).trans hx120_1
        replace hx120_2 := (HB.out.cell (World.block_lt_of_cell? w _ hx120_2)).trans hx120_2
        replace hx120_3 := (HB.out.cell (World.block_lt_of_cell? w _ hx120_3)).trans hx120_3
        have HR120_1 := Aside0.mk hi120_1
        have HC120_1 := Aside0.mk hl120_1
        clear hi120_1 hl120_1
        replace p120 := eq_true p120
        replace q120 := eq_true q120
        go_wp2_with (first | ((with_reducible refine gate_dst (N := 8) rfl ?_); refine box_event ?hg (N := 8) ?hd (cs := #[.int .i64 0, .slice none 0 0, .int .i64 0, .int .i64 0]) (t := 39) ?hr ?_; (case hd => rfl); (case hg => rfl); (case hr => first | (go_simp; done) | (go_simp; rfl)); intro gb121 hg w18 hbox hb; have n0_ := Aside0.mk (below_step (by repeat (first | (with_reducible first | exact HB.out | apply below_alloc | apply pw_below_drewN | apply below_drew1) | exact HB.out)) hb); have n1_ := Aside0.mk (hbox); have n2_ := Aside0.mk ((by rw [hg]; exact (below_size (by repeat (first | (with_reducible first | exact HB.out | apply below_alloc | apply pw_below_drewN | apply below_drew1) | exact HB.out))) : w.heap.size ≤ gb121)); have n3_ := Aside0.mk ((by rw [hg]; exact (below_size (by repeat (first | (with_reducible first | exact HB.out | apply below_alloc | apply pw_below_drewN | apply below_drew1) | exact HB.out))) : w.heap.size ≤ gb121)); clear HB; have HB := n0_; have BK121 := n1_; have GW121 := n2_; have GE121 := n3_; clear n0_ n1_ n2_ n3_; clear hb hbox hg; have hcz19_0 : w18.cell? ⟨gb121, 0, none⟩ = some (.int .i64 0) := (blk_cell BK121.out 0).trans rfl; have hcz19_1 : w18.cell? ⟨gb121, 1, none⟩ = some (.slice none 0 0) := (blk_cell BK121.out 1).trans rfl; have hcz19_2 : w18.cell? ⟨gb121, 2, none⟩ = some (.int .i64 0) := (blk_cell BK121.out 2).trans rfl; have hcz19_3 : w18.cell? ⟨gb121, 3, none⟩ = some (.int .i64 0) := (blk_cell BK121.out 3).trans rfl; have hfz19_0 := blk_frozen BK121.out 0; have hfz19_1 := blk_frozen BK121.out 1; have hfz19_2 := blk_frozen BK121.out 2; have hfz19_3 := blk_frozen BK121.out 3; have p122 : 0 ≤ (x17_1 : Int) := of_decide_eq_true (by first | (with_reducible assumption) | assumption); have q122 : x17_1 < (l1.length : Int) := of_decide_eq_true (by first | (with_reducible assumption) | assumption); obtain ⟨ad122, A122_1, c122_1, e122, hx122_0, hx122_1, hx122_2, hx122_3, hl122_1, hi122_1⟩ := at_T39 HR1.out x17_1 p122 q122; cases e122; have hn122_0 : ad122.block ≠ gb121 := Nat.ne_of_lt (Nat.lt_of_lt_of_le (by have := World.block_lt_of_cell? _ _ hx122_0; first | rwa [add_block] at this | exact this) GW121.out); have hn122_1 : ad122.block ≠ gb121 := Nat.ne_of_lt (Nat.lt_of_lt_of_le (by have := World.block_lt_of_cell? _ _ hx122_0; first | rwa [add_block] at this | exact this) GW121.out); have hn122_2 : ad122.block ≠ gb121 := Nat.ne_of_lt (Nat.lt_of_lt_of_le (by have := World.block_lt_of_cell? _ _ hx122_0; first | rwa [add_block] at this | exact this) GW121.out); have hn122_3 : ad122.block ≠ gb121 := Nat.ne_of_lt (Nat.lt_of_lt_of_le (by have := World.block_lt_of_cell? _ _ hx122_0; first | rwa [add_block] at this | exact this) GW121.out); replace hx122_0 := (HB.out.cell (World.block_lt_of_cell? w _ hx122_0)).trans hx122_0; replace hx122_1 := (HB.out.cell (World.block_lt_of_cell? w _ hx122_1)).trans hx122_1; replace hx122_2 := (HB.out.cell (World.block_lt_of_cell? w _ hx122_2)).trans hx122_2; replace hx122_3 := (HB.out.cell (World.block_lt_of_cell? w _ hx122_3)).trans hx122_3; have HR122_1 := Aside0.mk hi122_1; have HC122_1 := Aside0.mk hl122_1; clear hi122_1 hl122_1; replace hx122_0 := (cell_far (p := ⟨gb121, 0, none⟩) (by first | (rw [add_block]; exact hn122_0) | (show (Addr.add _ _).block ≠ _; rw [add_block]; exact hn122_0) | exact hn122_0) (.int .i64 ((rd_T39 l0 x17_1).f0))).trans hx122_0; replace hx122_1 := (cell_far (p := ⟨gb121, 0, none⟩) (by first | (rw [add_block]; exact hn122_0) | (show (Addr.add _ _).block ≠ _; rw [add_block]; exact hn122_0) | exact hn122_0) (.int .i64 ((rd_T39 l0 x17_1).f0))).trans hx122_1; replace hx122_2 := (cell_far (p := ⟨gb121, 0, none⟩) (by first | (rw [add_block]; exact hn122_0) | (show (Addr.add _ _).block ≠ _; rw [add_block]; exact hn122_0) | exact hn122_0) (.int .i64 ((rd_T39 l0 x17_1).f0))).trans hx122_2; replace hx122_3 := (cell_far (p := ⟨gb121, 0, none⟩) (by first | (rw [add_block]; exact hn122_0) | (show (Addr.add _ _).block ≠ _; rw [add_block]; exact hn122_0) | exact hn122_0) (.int .i64 ((rd_T39 l0 x17_1).f0))).trans hx122_3; replace hx122_0 := (cell_far (p := ⟨gb121, 1, none⟩) (by first | (rw [add_block]; exact hn122_1) | (show (Addr.add _ _).block ≠ _; rw [add_block]; exact hn122_1) | exact hn122_1) (.slice A120_1 ((rd_T39 l0 x17_1).f1).length c120_1)).trans hx122_0; replace hx122_1 := (cell_far (p := ⟨gb121, 1, none⟩) (by first | (rw [add_block]; exact hn122_1) | (show (Addr.add _ _).block ≠ _; rw [add_block]; exact hn122_1) | exact hn122_1) (.slice A120_1 ((rd_T39 l0 x17_1).f1).length c120_1)).trans hx122_1; replace hx122_2 := (cell_far (p := ⟨gb121, 1, none⟩) (by first | (rw [add_block]; exact hn122_1) | (show (Addr.add _ _).block ≠ _; rw [add_block]; exact hn122_1) | exact hn122_1) (.slice A120_1 ((rd_T39 l0 x17_1).f1).length c120_1)).trans hx122_2; replace hx122_3 := (cell_far (p := ⟨gb121, 1, none⟩) (by first | (rw [add_block]; exact hn122_1) | (show (Addr.add _ _).block ≠ _; rw [add_block]; exact hn122_1) | exact hn122_1) (.slice A120_1 ((rd_T39 l0 x17_1).f1).length c120_1)).trans hx122_3; replace hx122_0 := (cell_far (p := ⟨gb121, 2, none⟩) (by first | (rw [add_block]; exact hn122_2) | (show (Addr.add _ _).block ≠ _; rw [add_block]; exact hn122_2) | exact hn122_2) (.int .i64 ((rd_T39 l0 x17_1).f2))).trans hx122_0; replace hx122_1 := (cell_far (p := ⟨gb121, 2, none⟩) (by first | (rw [add_block]; exact hn122_2) | (show (Addr.add _ _).block ≠ _; rw [add_block]; exact hn122_2) | exact hn122_2) (.int .i64 ((rd_T39 l0 x17_1).f2))).trans hx122_1; replace hx122_2 := (cell_far (p := ⟨gb121, 2, none⟩) (by first | (rw [add_block]; exact hn122_2) | (show (Addr.add _ _).block ≠ _; rw [add_block]; exact hn122_2) | exact hn122_2) (.int .i64 ((rd_T39 l0 x17_1).f2))).trans hx122_2; replace hx122_3 := (cell_far (p := ⟨gb121, 2, none⟩) (by first | (rw [add_block]; exact hn122_2) | (show (Addr.add _ _).block ≠ _; rw [add_block]; exact hn122_2) | exact hn122_2) (.int .i64 ((rd_T39 l0 x17_1).f2))).trans hx122_3; replace hx122_0 := (cell_far (p := ⟨gb121, 3, none⟩) (by first | (rw [add_block]; exact hn122_3) | (show (Addr.add _ _).block ≠ _; rw [add_block]; exact hn122_3) | exact hn122_3) (.int .i64 ((rd_T39 l0 x17_1).f3))).trans hx122_0; replace hx122_1 := (cell_far (p := ⟨gb121, 3, none⟩) (by first | (rw [add_block]; exact hn122_3) | (show (Addr.add _ _).block ≠ _; rw [add_block]; exact hn122_3) | exact hn122_3) (.int .i64 ((rd_T39 l0 x17_1).f3))).trans hx122_1; replace hx122_2 := (cell_far (p := ⟨gb121, 3, none⟩) (by first | (rw [add_block]; exact hn122_3) | (show (Addr.add _ _).block ≠ _; rw [add_block]; exact hn122_3) | exact hn122_3) (.int .i64 ((rd_T39 l0 x17_1).f3))).trans hx122_2; replace hx122_3 := (cell_far (p := ⟨gb121, 3, none⟩) (by first | (rw [add_block]; exact hn122_3) | (show (Addr.add _ _).block ≠ _; rw [add_block]; exact hn122_3) | exact hn122_3) (.int .i64 ((rd_T39 l0 x17_1).f3))).trans hx122_3; clear hn122_0; clear hn122_1; clear hn122_2; clear hn122_3; replace p122 := eq_true p122; replace q122 := eq_true q122) | ((with_reducible refine gate_dst (N := 9) rfl ?_); refine box_event ?hg (N := 9) ?hd (cs := #[.int .i64 0, .slice none 0 0, .int .i64 0, .int .i64 0]) (t := 39) ?hr ?_; (case hd => rfl); (case hg => rfl); (case hr => first | (go_simp; done) | (go_simp; rfl)); intro gb123 hg w20 hbox hb; have n0_ := Aside0.mk (blk_below (g := gb121) (o := .cells #[.int .i64 ((rd_T39 l0 x17_1).f0), .slice A120_1 ((rd_T39 l0 x17_1).f1).length c120_1, .int .i64 ((rd_T39 l0 x17_1).f2), .int .i64 ((rd_T39 l0 x17_1).f3)] 39 (0, 0)) (by (with_reducible repeat (first | refine blk_drewN ?_ _ | refine blk_drew ?_ | refine blk_alloc ?_ _)); refine blk_put (cs := #[.int .i64 ((rd_T39 l0 x17_1).f0), .slice A120_1 ((rd_T39 l0 x17_1).f1).length c120_1, .int .i64 ((rd_T39 l0 x17_1).f2), .int .i64 0]) ?_ 3 _ rfl; (with_reducible repeat (first | refine blk_drewN ?_ _ | refine blk_drew ?_ | refine blk_alloc ?_ _)); refine blk_put (cs := #[.int .i64 ((rd_T39 l0 x17_1).f0), .slice A120_1 ((rd_T39 l0 x17_1).f1).length c120_1, .int .i64 0, .int .i64 0]) ?_ 2 _ rfl; (with_reducible repeat (first | refine blk_drewN ?_ _ | refine blk_drew ?_ | refine blk_alloc ?_ _)); refine blk_put (cs := #[.int .i64 ((rd_T39 l0 x17_1).f0), .slice none 0 0, .int .i64 0, .int .i64 0]) ?_ 1 _ rfl; (with_reducible repeat (first | refine blk_drewN ?_ _ | refine blk_drew ?_ | refine blk_alloc ?_ _)); refine blk_put (cs := #[.int .i64 0, .slice none 0 0, .int .i64 0, .int .i64 0]) ?_ 0 _ rfl; (with_reducible repeat (first | refine blk_drewN ?_ _ | refine blk_drew ?_ | refine blk_alloc ?_ _)); exact BK121.out) hb); have n1_ := Aside0.mk (below_step (by repeat (first | (with_reducible first | exact HB.out | apply below_alloc | apply pw_below_drewN | apply below_drew1 | refine below_set ?_ GE121.out) | exact HB.out)) hb); have n2_ := Aside0.mk (hbox); have n3_ := Aside0.mk ((by rw [hg]; exact (below_size (by repeat (first | (with_reducible first | exact HB.out | apply below_alloc | apply pw_below_drewN | apply below_drew1 | refine below_set ?_ GE121.out) | exact HB.out))) : w.heap.size ≤ gb123)); have n4_ := Aside0.mk ((by rw [hg]; exact (below_size (by repeat (first | (with_reducible first | exact HB.out | apply below_alloc | apply pw_below_drewN | apply below_drew1 | refine below_set ?_ GE121.out) | exact HB.out))) : w.heap.size ≤ gb123)); have n5_ := Aside0.mk ((by rw [hg]; exact Nat.ne_of_lt (blk_lt (g := gb121) (o := .cells #[.int .i64 ((rd_T39 l0 x17_1).f0), .slice A120_1 ((rd_T39 l0 x17_1).f1).length c120_1, .int .i64 ((rd_T39 l0 x17_1).f2), .int .i64 ((rd_T39 l0 x17_1).f3)] 39 (0, 0)) (by (with_reducible repeat (first | refine blk_drewN ?_ _ | refine blk_drew ?_ | refine blk_alloc ?_ _)); refine blk_put (cs := #[.int .i64 ((rd_T39 l0 x17_1).f0), .slice A120_1 ((rd_T39 l0 x17_1).f1).length c120_1, .int .i64 ((rd_T39 l0 x17_1).f2), .int .i64 0]) ?_ 3 _ rfl; (with_reducible repeat (first | refine blk_drewN ?_ _ | refine blk_drew ?_ | refine blk_alloc ?_ _)); refine blk_put (cs := #[.int .i64 ((rd_T39 l0 x17_1).f0), .slice A120_1 ((rd_T39 l0 x17_1).f1).length c120_1, .int .i64 0, .int .i64 0]) ?_ 2 _ rfl; (with_reducible repeat (first | refine blk_drewN ?_ _ | refine blk_drew ?_ | refine blk_alloc ?_ _)); refine blk_put (cs := #[.int .i64 ((rd_T39 l0 x17_1).f0), .slice none 0 0, .int .i64 0, .int .i64 0]) ?_ 1 _ rfl; (with_reducible repeat (first | refine blk_drewN ?_ _ | refine blk_drew ?_ | refine blk_alloc ?_ _)); refine blk_put (cs := #[.int .i64 0, .slice none 0 0, .int .i64 0, .int .i64 0]) ?_ 0 _ rfl; (with_reducible repeat (first | refine blk_drewN ?_ _ | refine blk_drew ?_ | refine blk_alloc ?_ _)); exact BK121.out)) : gb121 ≠ gb123)); have n6_ := Aside0.mk ((by rw [hg]; exact Nat.ne_of_gt (blk_lt (g := gb121) (o := .cells #[.int .i64 ((rd_T39 l0 x17_1).f0), .slice A120_1 ((rd_T39 l0 x17_1).f1).length c120_1, .int .i64 ((rd_T39 l0 x17_1).f2), .int .i64 ((rd_T39 l0 x17_1).f3)] 39 (0, 0)) (by (with_reducible repeat (first | refine blk_drewN ?_ _ | refine blk_drew ?_ | refine blk_alloc ?_ _)); refine blk_put (cs := #[.int .i64 ((rd_T39 l0 x17_1).f0), .slice A120_1 ((rd_T39 l0 x17_1).f1).length c120_1, .int .i64 ((rd_T39 l0 x17_1).f2), .int .i64 0]) ?_ 3 _ rfl; (with_reducible repeat (first | refine blk_drewN ?_ _ | refine blk_drew ?_ | refine blk_alloc ?_ _)); refine blk_put (cs := #[.int .i64 ((rd_T39 l0 x17_1).f0), .slice A120_1 ((rd_T39 l0 x17_1).f1).length c120_1, .int .i64 0, .int .i64 0]) ?_ 2 _ rfl; (with_reducible repeat (first | refine blk_drewN ?_ _ | refine blk_drew ?_ | refine blk_alloc ?_ _)); refine blk_put (cs := #[.int .i64 ((rd_T39 l0 x17_1).f0), .slice none 0 0, .int .i64 0, .int .i64 0]) ?_ 1 _ rfl; (with_reducible repeat (first | refine blk_drewN ?_ _ | refine blk_drew ?_ | refine blk_alloc ?_ _)); refine blk_put (cs := #[.int .i64 0, .slice none 0 0, .int .i64 0, .int .i64 0]) ?_ 0 _ rfl; (with_reducible repeat (first | refine blk_drewN ?_ _ | refine blk_drew ?_ | refine blk_alloc ?_ _)); exact BK121.out)) : gb123 ≠ gb121)); clear BK121; clear HB; have BK121 := n0_; have HB := n1_; have BK123 := n2_; have GW123 := n3_; have GE123 := n4_; have NB121_123 := n5_; have NB123_121 := n6_; clear n0_ n1_ n2_ n3_ n4_ n5_ n6_; clear hb hbox hg; have hnb21 := NB123_121.out; have hnc21 := NB121_123.out; have hcz22_0 : w20.cell? ⟨gb123, 0, none⟩ = some (.int .i64 0) := (blk_cell BK123.out 0).trans rfl; have hcz22_1 : w20.cell? ⟨gb123, 1, none⟩ = some (.slice none 0 0) := (blk_cell BK123.out 1).trans rfl; have hcz22_2 : w20.cell? ⟨gb123, 2, none⟩ = some (.int .i64 0) := (blk_cell BK123.out 2).trans rfl; have hcz22_3 : w20.cell? ⟨gb123, 3, none⟩ = some (.int .i64 0) := (blk_cell BK123.out 3).trans rfl; have hfz22_0 := blk_frozen BK123.out 0; have hfz22_1 := blk_frozen BK123.out 1; have hfz22_2 := blk_frozen BK123.out 2; have hfz22_3 := blk_frozen BK123.out 3; have hcz23_0 : w20.cell? ⟨gb121, 0, none⟩ = some (.int .i64 ((rd_T39 l0 x17_1).f0)) := (blk_cell BK121.out 0).trans rfl; have hcz23_1 : w20.cell? ⟨gb121, 1, none⟩ = some (.slice A120_1 ((rd_T39 l0 x17_1).f1).length c120_1) := (blk_cell BK121.out 1).trans rfl; have hcz23_2 : w20.cell? ⟨gb121, 2, none⟩ = some (.int .i64 ((rd_T39 l0 x17_1).f2)) := (blk_cell BK121.out 2).trans rfl; have hcz23_3 : w20.cell? ⟨gb121, 3, none⟩ = some (.int .i64 ((rd_T39 l0 x17_1).f3)) := (blk_cell BK121.out 3).trans rfl; have hfz23_0 := blk_frozen BK121.out 0; have hfz23_1 := blk_frozen BK121.out 1; have hfz23_2 := blk_frozen BK121.out 2; have hfz23_3 := blk_frozen BK121.out 3) | (go_at_call 29; (with_reducible refine (nfa_Same_1.calls k1 ((rd_T39 l0 x17_1).f0) _ _ ((rd_T39 l0 x17_1).f1) ((rd_T39 l0 x17_1).f2) ((rd_T39 l0 x17_1).f3) ((rd_T39 l1 x17_1).f0) _ _ ((rd_T39 l1 x17_1).f1) ((rd_T39 l1 x17_1).f2) ((rd_T39 l1 x17_1).f3) false _ ?side1 ?side2 ?side3 ?side4 A9.out).mono ?_); (case side1 => exact Kd.C_below HR120_1.out (by repeat (first | (with_reducible first | exact HB.out | apply below_alloc | apply pw_below_drewN | apply below_drew1 | refine below_set ?_ GE121.out | refine below_set ?_ GE123.out) | exact HB.out))); (case side2 => exact HC120_1.out); (case side3 => exact Kd.C_below HR122_1.out (by repeat (first | (with_reducible first | exact HB.out | apply below_alloc | apply pw_below_drewN | apply below_drew1 | refine below_set ?_ GE121.out | refine below_set ?_ GE123.out) | exact HB.out))); (case side4 => exact HC122_1.out); rintro e w24 ⟨rfl, hb⟩; have n0_ := Aside0.mk (blk_below (g := gb121) (o := .cells #[.int .i64 ((rd_T39 l0 x17_1).f0), .slice A120_1 ((rd_T39 l0 x17_1).f1).length c120_1, .int .i64 ((rd_T39 l0 x17_1).f2), .int .i64 ((rd_T39 l0 x17_1).f3)] 39 (0, 0)) (by (with_reducible repeat (first | refine blk_drewN ?_ _ | refine blk_drew ?_ | refine blk_alloc ?_ _)); refine blk_far ?_ NB121_123.out _; (with_reducible repeat (first | refine blk_drewN ?_ _ | refine blk_drew ?_ | refine blk_alloc ?_ _)); refine blk_far ?_ NB121_123.out _; (with_reducible repeat (first | refine blk_drewN ?_ _ | refine blk_drew ?_ | refine blk_alloc ?_ _)); refine blk_far ?_ NB121_123.out _; (with_reducible repeat (first | refine blk_drewN ?_ _ | refine blk_drew ?_ | refine blk_alloc ?_ _)); refine blk_far ?_ NB121_123.out _; (with_reducible repeat (first | refine blk_drewN ?_ _ | refine blk_drew ?_ | refine blk_alloc ?_ _)); exact BK121.out) hb); have n1_ := Aside0.mk (blk_below (g := gb123) (o := .cells #[.int .i64 ((rd_T39 l1 x17_1).f0), .slice A122_1 ((rd_T39 l1 x17_1).f1).length c122_1, .int .i64 ((rd_T39 l1 x17_1).f2), .int .i64 ((rd_T39 l1 x17_1).f3)] 39 (0, 0)) (by (with_reducible repeat (first | refine blk_drewN ?_ _ | refine blk_drew ?_ | refine blk_alloc ?_ _)); refine blk_put (cs := #[.int .i64 ((rd_T39 l1 x17_1).f0), .slice A122_1 ((rd_T39 l1 x17_1).f1).length c122_1, .int .i64 ((rd_T39 l1 x17_1).f2), .int .i64 0]) ?_ 3 _ rfl; (with_reducible repeat (first | refine blk_drewN ?_ _ | refine blk_drew ?_ | refine blk_alloc ?_ _)); refine blk_put (cs := #[.int .i64 ((rd_T39 l1 x17_1).f0), .slice A122_1 ((rd_T39 l1 x17_1).f1).length c122_1, .int .i64 0, .int .i64 0]) ?_ 2 _ rfl; (with_reducible repeat (first | refine blk_drewN ?_ _ | refine blk_drew ?_ | refine blk_alloc ?_ _)); refine blk_put (cs := #[.int .i64 ((rd_T39 l1 x17_1).f0), .slice none 0 0, .int .i64 0, .int .i64 0]) ?_ 1 _ rfl; (with_reducible repeat (first | refine blk_drewN ?_ _ | refine blk_drew ?_ | refine blk_alloc ?_ _)); refine blk_put (cs := #[.int .i64 0, .slice none 0 0, .int .i64 0, .int .i64 0]) ?_ 0 _ rfl; (with_reducible repeat (first | refine blk_drewN ?_ _ | refine blk_drew ?_ | refine blk_alloc ?_ _)); exact BK123.out) hb); have n2_ := Aside0.mk (below_step (by repeat (first | (with_reducible first | exact HB.out | apply below_alloc | apply pw_below_drewN | apply below_drew1 | refine below_set ?_ GE121.out | refine below_set ?_ GE123.out) | exact HB.out)) hb); clear BK121; clear BK123; clear HB; have BK121 := n0_; have BK123 := n1_; have HB := n2_; clear n0_ n1_ n2_; (try clear hb); (try clear hb2); (try clear hk); (try clear hi)))
        go_ret
        exact ⟨by first | rfl | (simp [errW_none, errW_some] <;> rfl) | (simp [*, errW_none, errW_some] <;> rfl), by repeat (first | (with_reducible first | exact HB.out | apply below_alloc | apply pw_below_drewN | apply below_drew1 | refine below_set ?_ GE121.out | refine below_set ?_ GE123.out) | exact HB.out)⟩
      subst c10
      have H1 : (slices_EqualFunc_api_Inst_api_Inst_nfa_Same_1.l0 k1 l1 l0 (l0.length : Int) (wrap64 (x17_1 + 1))) = some r := by rw [if_pos rfl] at H; exact H
      clear H
      have H := H1
      clear H1
      have H' := Aside0.mk H
      clear H
      have p120 : 0 ≤ (x17_1 : Int) := of_decide_eq_true (by first | (with_reducible assumption) | assumption)
      have q120 : x17_1 < (l0.length : Int) := of_decide_eq_true (by first | (with_reducible assumption) | assumption)
      obtain ⟨ad120, A120_1, c120_1, e120, hx120_0, hx120_1, hx120_2, hx120_3, hl120_1, hi120_1⟩ := at_T39 HR0.out x17_1 p120 q120
      cases e120
      replace hx120_0 := (HB.out.cell (World.block_lt_of_cell? w _ hx120_0)).trans hx120_0
      replace hx120_1 := (HB.out.cell (World.block_lt_of_cell? w _ hx120_1)).trans hx120_1
      replace hx120_2 := (HB.out.cell (World.block_lt_of_cell? w _ hx120_2)).trans hx120_2
      replace hx120_3 := (HB.out.cell (World.block_lt_of_cell? w _ hx120_3)).trans hx120_3
      have HR120_1 := Aside0.mk hi120_1
      have HC120_1 := Aside0.mk hl120_1
      clear hi120_1 hl120_1
      replace p120 := eq_true p120
      replace q120 := eq_true q120
      go_wp2_with (first | ((with_reducible refine gate_dst (N := 8) rfl ?_); refine box_event ?hg (N := 8) ?hd (cs := #[.int .i64 0, .slice none 0 0, .int .i64 0, .int .i64 0]) (t := 39) ?hr ?_; (case hd => rfl); (case hg => rfl); (case hr => first | (go_simp; done) | (go_simp; rfl)); intro gb121 hg w11 hbox hb; have n0_ := Aside0.mk (below_step (by repeat (first | (with_reducible first | exact HB.out | apply below_alloc | apply pw_below_drewN | apply below_drew1) | exact HB.out)) hb); have n1_ := Aside0.mk (hbox); have n2_ := Aside0.mk ((by rw [hg]; exact (below_size (by repeat (first | (with_reducible first | exact HB.out | apply below_alloc | apply pw_below_drewN | apply below_drew1) | exact HB.out))) : w.heap.size ≤ gb121)); have n3_ := Aside0.mk ((by rw [hg]; exact (below_size (by repeat (first | (with_reducible first | exact HB.out | apply below_alloc | apply pw_below_drewN | apply below_drew1) | exact HB.out))) : w.heap.size ≤ gb121)); clear HB; have HB := n0_; have BK121 := n1_; have GW121 := n2_; have GE121 := n3_; clear n0_ n1_ n2_ n3_; clear hb hbox hg; have hcz12_0 : w11.cell? ⟨gb121, 0, none⟩ = some (.int .i64 0) := (blk_cell BK121.out 0).trans rfl; have hcz12_1 : w11.cell? ⟨gb121, 1, none⟩ = some (.slice none 0 0) := (blk_cell BK121.out 1).trans rfl; have hcz12_2 : w11.cell? ⟨gb121, 2, none⟩ = some (.int .i64 0) := (blk_cell BK121.out 2).trans rfl; have hcz12_3 : w11.cell? ⟨gb121, 3, none⟩ = some (.int .i64 0) := (blk_cell BK121.out 3).trans rfl; have hfz12_0 := blk_frozen BK121.out 0; have hfz12_1 := blk_frozen BK121.out 1; have hfz12_2 := blk_frozen BK121.out 2; have hfz12_3 := blk_frozen BK121.out 3; have p122 : 0 ≤ (x17_1 : Int) := of_decide_eq_true (by first | (with_reducible assumption) | assumption); have q122 : x17_1 < (l1.length : Int) := of_decide_eq_true (by first | (with_reducible assumption) | assumption); obtain ⟨ad122, A122_1, c122_1, e122, hx122_0, hx122_1, hx122_2, hx122_3, hl122_1, hi122_1⟩ := at_T39 HR1.out x17_1 p122 q122; cases e122; have hn122_0 : ad122.block ≠ gb121 := Nat.ne_of_lt (Nat.lt_of_lt_of_le (by have := World.block_lt_of_cell? _ _ hx122_0; first | rwa [add_block] at this | exact this) GW121.out); have hn122_1 : ad122.block ≠ gb121 := Nat.ne_of_lt (Nat.lt_of_lt_of_le (by have := World.block_lt_of_cell? _ _ hx122_0; first | rwa [add_block] at this | exact this) GW121.out); have hn122_2 : ad122.block ≠ gb121 := Nat.ne_of_lt (Nat.lt_of_lt_of_le (by have := World.block_lt_of_cell? _ _ hx122_0; first | rwa [add_block] at this | exact this) GW121.out); have hn122_3 : ad122.block ≠ gb121 := Nat.ne_of_lt (Nat.lt_of_lt_of_le (by have := World.block_lt_of_cell? _ _ hx122_0; first | rwa [add_block] at this | exact this) GW121.out); replace hx122_0 := (HB.out.cell (World.block_lt_of_cell? w _ hx122_0)).trans hx122_0; replace hx122_1 := (HB.out.cell (World.block_lt_of_cell? w _ hx122_1)).trans hx122_1; replace hx122_2 := (HB.out.cell (World.block_lt_of_cell? w _ hx122_2)).trans hx122_2; replace hx122_3 := (HB.out.cell (World.block_lt_of_cell? w _ hx122_3)).trans hx122_3; have HR122_1 := Aside0.mk hi122_1; have HC122_1 := Aside0.mk hl122_1; clear hi122_1 hl122_1; replace hx122_0 := (cell_far (p := ⟨gb121, 0, none⟩) (by first | (rw [add_block]; exact hn122_0) | (show (Addr.add _ _).block ≠ _; rw [add_block]; exact hn122_0) | exact hn122_0) (.int .i64 ((rd_T39 l0 x17_1).f0))).trans hx122_0; replace hx122_1 := (cell_far (p := ⟨gb121, 0, none⟩) (by first | (rw [add_block]; exact hn122_0) | (show (Addr.add _ _).block ≠ _; rw [add_block]; exact hn122_0) | exact hn122_0) (.int .i64 ((rd_T39 l0 x17_1).f0))).trans hx122_1; replace hx122_2 := (cell_far (p := ⟨gb121, 0, none⟩) (by first | (rw [add_block]; exact hn122_0) | (show (Addr.add _ _).block ≠ _; rw [add_block]; exact hn122_0) | exact hn122_0) (.int .i64 ((rd_T39 l0 x17_1).f0))).trans hx122_2; replace hx122_3 := (cell_far (p := ⟨gb121, 0, none⟩) (by first | (rw [add_block]; exact hn122_0) | (show (Addr.add _ _).block ≠ _; rw [add_block]; exact hn122_0) | exact hn122_0) (.int .i64 ((rd_T39 l0 x17_1).f0))).trans hx122_3; replace hx122_0 := (cell_far (p := ⟨gb121, 1, none⟩) (by first | (rw [add_block]; exact hn122_1) | (show (Addr.add _ _).block ≠ _; rw [add_block]; exact hn122_1) | exact hn122_1) (.slice A120_1 ((rd_T39 l0 x17_1).f1).length c120_1)).trans hx122_0; replace hx122_1 := (cell_far (p := ⟨gb121, 1, none⟩) (by first | (rw [add_block]; exact hn122_1) | (show (Addr.add _ _).block ≠ _; rw [add_block]; exact hn122_1) | exact hn122_1) (.slice A120_1 ((rd_T39 l0 x17_1).f1).length c120_1)).trans hx122_1; replace hx122_2 := (cell_far (p := ⟨gb121, 1, none⟩) (by first | (rw [add_block]; exact hn122_1) | (show (Addr.add _ _).block ≠ _; rw [add_block]; exact hn122_1) | exact hn122_1) (.slice A120_1 ((rd_T39 l0 x17_1).f1).length c120_1)).trans hx122_2; replace hx122_3 := (cell_far (p := ⟨gb121, 1, none⟩) (by first | (rw [add_block]; exact hn122_1) | (show (Addr.add _ _).block ≠ _; rw [add_block]; exact hn122_1) | exact hn122_1) (.slice A120_1 ((rd_T39 l0 x17_1).f1).length c120_1)).trans hx122_3; replace hx122_0 := (cell_far (p := ⟨gb121, 2, none⟩) (by first | (rw [add_block]; exact hn122_2) | (show (Addr.add _ _).block ≠ _; rw [add_block]; exact hn122_2) | exact hn122_2) (.int .i64 ((rd_T39 l0 x17_1).f2))).trans hx122_0; replace hx122_1 := (cell_far (p := ⟨gb121, 2, none⟩) (by first | (rw [add_block]; exact hn122_2) | (show (Addr.add _ _).block ≠ _; rw [add_block]; exact hn122_2) | exact hn122_2) (.int .i64 ((rd_T39 l0 x17_1).f2))).trans hx122_1; replace hx122_2 := (cell_far (p := ⟨gb121, 2, none⟩) (by first | (rw [add_block]; exact hn122_2) | (show (Addr.add _ _).block ≠ _; rw [add_block]; exact hn122_2) | exact hn122_2) (.int .i64 ((rd_T39 l0 x17_1).f2))).trans hx122_2; replace hx122_3 := (cell_far (p := ⟨gb121, 2, none⟩) (by first | (rw [add_block]; exact hn122_2) | (show (Addr.add _ _).block ≠ _; rw [add_block]; exact hn122_2) | exact hn122_2) (.int .i64 ((rd_T39 l0 x17_1).f2))).trans hx122_3; replace hx122_0 := (cell_far (p := ⟨gb121, 3, none⟩) (by first | (rw [add_block]; exact hn122_3) | (show (Addr.add _ _).block ≠ _; rw [add_block]; exact hn122_3) | exact hn122_3) (.int .i64 ((rd_T39 l0 x17_1).f3))).trans hx122_0; replace hx122_1 := (cell_far (p := ⟨gb121, 3, none⟩) (by first | (rw [add_block]; exact hn122_3) | (show (Addr.add _ _).block ≠ _; rw [add_block]; exact hn122_3) | exact hn122_3) (.int .i64 ((rd_T39 l0 x17_1).f3))).trans hx122_1; replace hx122_2 := (cell_far (p := ⟨gb121, 3, none⟩) (by first | (rw [add_block]; exact hn122_3) | (show (Addr.add _ _).block ≠ _; rw [add_block]; exact hn122_3) | exact hn122_3) (.int .i64 ((rd_T39 l0 x17_1).f3))).trans hx122_2; replace hx122_3 := (cell_far (p := ⟨gb121, 3, none⟩) (by first | (rw [add_block]; exact hn122_3) | (show (Addr.add _ _).block ≠ _; rw [add_block]; exact hn122_3) | exact hn122_3) (.int .i64 ((rd_T39 l0 x17_1).f3))).trans hx122_3; clear hn122_0; clear hn122_1; clear hn122_2; clear hn122_3; replace p122 := eq_true p122; replace q122 := eq_true q122) | ((with_reducible refine gate_dst (N := 9) rfl ?_); refine box_event ?hg (N := 9) ?hd (cs := #[.int .i64 0, .slice none 0 0, .int .i64 0, .int .i64 0]) (t := 39) ?hr ?_; (case hd => rfl); (case hg => rfl); (case hr => first | (go_simp; done) | (go_simp; rfl)); intro gb123 hg w13 hbox hb; have n0_ := Aside0.mk (blk_below (g := gb121) (o := .cells #[.int .i64 ((rd_T39 l0 x17_1).f0), .slice A120_1 ((rd_T39 l0 x17_1).f1).length c120_1, .int .i64 ((rd_T39 l0 x17_1).f2), .int .i64 ((rd_T39 l0 x17_1).f3)] 39 (0, 0)) (by (with_reducible repeat (first | refine blk_drewN ?_ _ | refine blk_drew ?_ | refine blk_alloc ?_ _)); refine blk_put (cs := #[.int .i64 ((rd_T39 l0 x17_1).f0), .slice A120_1 ((rd_T39 l0 x17_1).f1).length c120_1, .int .i64 ((rd_T39 l0 x17_1).f2), .int .i64 0]) ?_ 3 _ rfl; (with_reducible repeat (first | refine blk_drewN ?_ _ | refine blk_drew ?_ | refine blk_alloc ?_ _)); refine blk_put (cs := #[.int .i64 ((rd_T39 l0 x17_1).f0), .slice A120_1 ((rd_T39 l0 x17_1).f1).length c120_1, .int .i64 0, .int .i64 0]) ?_ 2 _ rfl; (with_reducible repeat (first | refine blk_drewN ?_ _ | refine blk_drew ?_ | refine blk_alloc ?_ _)); refine blk_put (cs := #[.int .i64 ((rd_T39 l0 x17_1).f0), .slice none 0 0, .int .i64 0, .int .i64 0]) ?_ 1 _ rfl; (with_reducible repeat (first | refine blk_drewN ?_ _ | refine blk_drew ?_ | refine blk_alloc ?_ _)); refine blk_put (cs := #[.int .i64 0, .slice none 0 0, .int .i64 0, .int .i64 0]) ?_ 0 _ rfl; (with_reducible repeat (first | refine blk_drewN ?_ _ | refine blk_drew ?_ | refine blk_alloc ?_ _)); exact BK121.out) hb); have n1_ := Aside0.mk (below_step (by repeat (first | (with_reducible first | exact HB.out | apply below_alloc | apply pw_below_drewN | apply below_drew1 | refine below_set ?_ GE121.out) | exact HB.out)) hb); have n2_ := Aside0.mk (hbox); have n3_ := Aside0.mk ((by rw [hg]; exact (below_size (by repeat (first | (with_reducible first | exact HB.out | apply below_alloc | apply pw_below_drewN | apply below_drew1 | refine below_set ?_ GE121.out) | exact HB.out))) : w.heap.size ≤ gb123)); have n4_ := Aside0.mk ((by rw [hg]; exact (below_size (by repeat (first | (with_reducible first | exact HB.out | apply below_alloc | apply pw_below_drewN | apply below_drew1 | refine below_set ?_ GE121.out) | exact HB.out))) : w.heap.size ≤ gb123)); have n5_ := Aside0.mk ((by rw [hg]; exact Nat.ne_of_lt (blk_lt (g := gb121) (o := .cells #[.int .i64 ((rd_T39 l0 x17_1).f0), .slice A120_1 ((rd_T39 l0 x17_1).f1).length c120_1, .int .i64 ((rd_T39 l0 x17_1).f2), .int .i64 ((rd_T39 l0 x17_1).f3)] 39 (0, 0)) (by (with_reducible repeat (first | refine blk_drewN ?_ _ | refine blk_drew ?_ | refine blk_alloc ?_ _)); refine blk_put (cs := #[.int .i64 ((rd_T39 l0 x17_1).f0), .slice A120_1 ((rd_T39 l0 x17_1).f1).length c120_1, .int .i64 ((rd_T39 l0 x17_1).f2), .int .i64 0]) ?_ 3 _ rfl; (with_reducible repeat (first | refine blk_drewN ?_ _ | refine blk_drew ?_ | refine blk_alloc ?_ _)); refine blk_put (cs := #[.int .i64 ((rd_T39 l0 x17_1).f0), .slice A120_1 ((rd_T39 l0 x17_1).f1).length c120_1, .int .i64 0, .int .i64 0]) ?_ 2 _ rfl; (with_reducible repeat (first | refine blk_drewN ?_ _ | refine blk_drew ?_ | refine blk_alloc ?_ _)); refine blk_put (cs := #[.int .i64 ((rd_T39 l0 x17_1).f0), .slice none 0 0, .int .i64 0, .int .i64 0]) ?_ 1 _ rfl; (with_reducible repeat (first | refine blk_drewN ?_ _ | refine blk_drew ?_ | refine blk_alloc ?_ _)); refine blk_put (cs := #[.int .i64 0, .slice none 0 0, .int .i64 0, .int .i64 0]) ?_ 0 _ rfl; (with_reducible repeat (first | refine blk_drewN ?_ _ | refine blk_drew ?_ | refine blk_alloc ?_ _)); exact BK121.out)) : gb121 ≠ gb123)); have n6_ := Aside0.mk ((by rw [hg]; exact Nat.ne_of_gt (blk_lt (g := gb121) (o := .cells #[.int .i64 ((rd_T39 l0 x17_1).f0), .slice A120_1 ((rd_T39 l0 x17_1).f1).length c120_1, .int .i64 ((rd_T39 l0 x17_1).f2), .int .i64 ((rd_T39 l0 x17_1).f3)] 39 (0, 0)) (by (with_reducible repeat (first | refine blk_drewN ?_ _ | refine blk_drew ?_ | refine blk_alloc ?_ _)); refine blk_put (cs := #[.int .i64 ((rd_T39 l0 x17_1).f0), .slice A120_1 ((rd_T39 l0 x17_1).f1).length c120_1, .int .i64 ((rd_T39 l0 x17_1).f2), .int .i64 0]) ?_ 3 _ rfl; (with_reducible repeat (first | refine blk_drewN ?_ _ | refine blk_drew ?_ | refine blk_alloc ?_ _)); refine blk_put (cs := #[.int .i64 ((rd_T39 l0 x17_1).f0), .slice A120_1 ((rd_T39 l0 x17_1).f1).length c120_1, .int .i64 0, .int .i64 0]) ?_ 2 _ rfl; (with_reducible repeat (first | refine blk_drewN ?_ _ | refine blk_drew ?_ | refine blk_alloc ?_ _)); refine blk_put (cs := #[.int .i64 ((rd_T39 l0 x17_1).f0), .slice none 0 0, .int .i64 0, .int .i64 0]) ?_ 1 _ rfl; (with_reducible repeat (first | refine blk_drewN ?_ _ | refine blk_drew ?_ | refine blk_alloc ?_ _)); refine blk_put (cs := #[.int .i64 0, .slice none 0 0, .int .i64 0, .int .i64 0]) ?_ 0 _ rfl; (with_reducible repeat (first | refine blk_drewN ?_ _ | refine blk_drew ?_ | refine blk_alloc ?_ _)); exact BK121.out)) : gb123 ≠ gb121)); clear BK121; clear HB; have BK121 := n0_; have HB := n1_; have BK123 := n2_; have GW123 := n3_; have GE123 := n4_; have NB121_123 := n5_; have NB123_121 := n6_; clear n0_ n1_ n2_ n3_ n4_ n5_ n6_; clear hb hbox hg; have hnb14 := NB123_121.out; have hnc14 := NB121_123.out; have hcz15_0 : w13.cell? ⟨gb123, 0, none⟩ = some (.int .i64 0) := (blk_cell BK123.out 0).trans rfl; have hcz15_1 : w13.cell? ⟨gb123, 1, none⟩ = some (.slice none 0 0) := (blk_cell BK123.out 1).trans rfl; have hcz15_2 : w13.cell? ⟨gb123, 2, none⟩ = some (.int .i64 0) := (blk_cell BK123.out 2).trans rfl; have hcz15_3 : w13.cell? ⟨gb123, 3, none⟩ = some (.int .i64 0) := (blk_cell BK123.out 3).trans rfl; have hfz15_0 := blk_frozen BK123.out 0; have hfz15_1 := blk_frozen BK123.out 1; have hfz15_2 := blk_frozen BK123.out 2; have hfz15_3 := blk_frozen BK123.out 3; have hcz16_0 : w13.cell? ⟨gb121, 0, none⟩ = some (.int .i64 ((rd_T39 l0 x17_1).f0)) := (blk_cell BK121.out 0).trans rfl; have hcz16_1 : w13.cell? ⟨gb121, 1, none⟩ = some (.slice A120_1 ((rd_T39 l0 x17_1).f1).length c120_1) := (blk_cell BK121.out 1).trans rfl; have hcz16_2 : w13.cell? ⟨gb121, 2, none⟩ = some (.int .i64 ((rd_T39 l0 x17_1).f2)) := (blk_cell BK121.out 2).trans rfl; have hcz16_3 : w13.cell? ⟨gb121, 3, none⟩ = some (.int .i64 ((rd_T39 l0 x17_1).f3)) := (blk_cell BK121.out 3).trans rfl; have hfz16_0 := blk_frozen BK121.out 0; have hfz16_1 := blk_frozen BK121.out 1; have hfz16_2 := blk_frozen BK121.out 2; have hfz16_3 := blk_frozen BK121.out 3) | (go_at_call 29; (with_reducible refine (nfa_Same_1.calls k1 ((rd_T39 l0 x17_1).f0) _ _ ((rd_T39 l0 x17_1).f1) ((rd_T39 l0 x17_1).f2) ((rd_T39 l0 x17_1).f3) ((rd_T39 l1 x17_1).f0) _ _ ((rd_T39 l1 x17_1).f1) ((rd_T39 l1 x17_1).f2) ((rd_T39 l1 x17_1).f3) true _ ?side1 ?side2 ?side3 ?side4 A9.out).mono ?_); (case side1 => exact Kd.C_below HR120_1.out (by repeat (first | (with_reducible first | exact HB.out | apply below_alloc | apply pw_below_drewN | apply below_drew1 | refine below_set ?_ GE121.out | refine below_set ?_ GE123.out) | exact HB.out))); (case side2 => exact HC120_1.out); (case side3 => exact Kd.C_below HR122_1.out (by repeat (first | (with_reducible first | exact HB.out | apply below_alloc | apply pw_below_drewN | apply below_drew1 | refine below_set ?_ GE121.out | refine below_set ?_ GE123.out) | exact HB.out))); (case side4 => exact HC122_1.out); rintro e w17 ⟨rfl, hb⟩; have n0_ := Aside0.mk (blk_below (g := gb121) (o := .cells #[.int .i64 ((rd_T39 l0 x17_1).f0), .slice A120_1 ((rd_T39 l0 x17_1).f1).length c120_1, .int .i64 ((rd_T39 l0 x17_1).f2), .int .i64 ((rd_T39 l0 x17_1).f3)] 39 (0, 0)) (by (with_reducible repeat (first | refine blk_drewN ?_ _ | refine blk_drew ?_ | refine blk_alloc ?_ _)); refine blk_far ?_ NB121_123.out _; (with_reducible repeat (first | refine blk_drewN ?_ _ | refine blk_drew ?_ | refine blk_alloc ?_ _)); refine blk_far ?_ NB121_123.out _; (with_reducible repeat (first | refine blk_drewN ?_ _ | refine blk_drew ?_ | refine blk_alloc ?_ _)); refine blk_far ?_ NB121_123.out _; (with_reducible repeat (first | refine blk_drewN ?_ _ | refine blk_drew ?_ | refine blk_alloc ?_ _)); refine blk_far ?_ NB121_123.out _; (with_reducible repeat (first | refine blk_drewN ?_ _ | refine blk_drew ?_ | refine blk_alloc ?_ _)); exact BK121.out) hb); have n1_ := Aside0.mk (blk_below (g := gb123) (o := .cells #[.int .i64 ((rd_T39 l1 x17_1).f0), .slice A122_1 ((rd_T39 l1 x17_1).f1).length c122_1, .int .i64 ((rd_T39 l1 x17_1).f2), .int .i64 ((rd_T39 l1 x17_1).f3)] 39 (0, 0)) (by (with_reducible repeat (first | refine blk_drewN ?_ _ | refine blk_drew ?_ | refine blk_alloc ?_ _)); refine blk_put (cs := #[.int .i64 ((rd_T39 l1 x17_1).f0), .slice A122_1 ((rd_T39 l1 x17_1).f1).length c122_1, .int .i64 ((rd_T39 l1 x17_1).f2), .int .i64 0]) ?_ 3 _ rfl; (with_reducible repeat (first | refine blk_drewN ?_ _ | refine blk_drew ?_ | refine blk_alloc ?_ _)); refine blk_put (cs := #[.int .i64 ((rd_T39 l1 x17_1).f0), .slice A122_1 ((rd_T39 l1 x17_1).f1).length c122_1, .int .i64 0, .int .i64 0]) ?_ 2 _ rfl; (with_reducible repeat (first | refine blk_drewN ?_ _ | refine blk_drew ?_ | refine blk_alloc ?_ _)); refine blk_put (cs := #[.int .i64 ((rd_T39 l1 x17_1).f0), .slice none 0 0, .int .i64 0, .int .i64 0]) ?_ 1 _ rfl; (with_reducible repeat (first | refine blk_drewN ?_ _ | refine blk_drew ?_ | refine blk_alloc ?_ _)); refine blk_put (cs := #[.int .i64 0, .slice none 0 0, .int .i64 0, .int .i64 0]) ?_ 0 _ rfl; (with_reducible repeat (first | refine blk_drewN ?_ _ | refine blk_drew ?_ | refine blk_alloc ?_ _)); exact BK123.out) hb); have n2_ := Aside0.mk (below_step (by repeat (first | (with_reducible first | exact HB.out | apply below_alloc | apply pw_below_drewN | apply below_drew1 | refine below_set ?_ GE121.out | refine below_set ?_ GE123.out) | exact HB.out)) hb); clear BK121; clear BK123; clear HB; have BK121 := n0_; have BK123 := n1_; have HB := n2_; clear n0_ n1_ n2_; (try clear hb); (try clear hb2); (try clear hk); (try clear hi)))
      go_roundg k1
      case measure => have := HK1.out; omega
      case rel => exact ⟨(wrap64 (x17_1 + 1)), (by first | rfl | (simp; done) | (simp [*]; done)), H', ⟨by have := HK1.out; omega⟩, ⟨by repeat (first | (with_reducible first | exact HB.out | apply below_alloc | apply pw_below_drewN | apply below_drew1 | refine below_set ?_ GE121.out | refine below_set ?_ GE123.out) | exact HB.out)⟩⟩

def nfa_Same.f (k : Nat) (l0 : List (S39)) (l1 : List (S39)) : Option (Bool) := (slices_EqualFunc_api_Inst_api_Inst_nfa_Same_1.f k l0 l1).bind fun t125 => (some t125)
set_option maxHeartbeats 8000000 in
set_option maxRecDepth 100000 in
theorem nfa_Same.calls (k : Nat) (A0 : Option Addr) (c0 : Nat) (l0 : List (S39)) (A1 : Option Addr) (c1 : Nat) (l1 : List (S39)) (r : Bool) (w : World) (hr0 : Kd.C k39 w A0 l0.length l0) (hc0 : l0.length ≤ c0) (hr1 : Kd.C k39 w A1 l1.length l1) (hc1 : l1.length ≤ c1) (h : nfa_Same.f k l0 l1 = some r) :
    Calls Try.prog 18 #[.slice A0 l0.length c0, .slice A1 l1.length c1] w fun e w' => e = .returned (.bool r) ∧ Below w.heap.size w w' := by
  have HR0 := Aside0.mk hr0
  have HC0 := Aside0.mk hc0
  clear hr0 hc0
  have HR1 := Aside0.mk hr1
  have HC1 := Aside0.mk hc1
  clear hr1 hc1
  have HB := Aside0.mk (Below.refl w.heap.size w)
  have H : ((slices_EqualFunc_api_Inst_api_Inst_nfa_Same_1.f k l0 l1).bind fun t125 => (some t125)) = some r := h
  clear h
  replace H := Option.bind_eq_some_iff.mp H
  obtain ⟨t125, A30, H⟩ := H
  replace H : (some t125) = some r := H
  have A3 := Aside0.mk A30
  clear A30
  obtain rfl := Option.some.inj H
  go_enter Try.func18, Try.ntmps18
  go_wp2_with (first | ((with_reducible refine gate_callee (f := 28) rfl ?_); refine goesL_ (some 7) rfl rfl Try.func28 (by kernel_rfl) rfl #[.slice A0 l0.length c0, .slice A1 l1.length c1, .func (.func 29) #[] #[]] rfl (by (try simp only [List.map_toArray, List.map_cons, List.map_nil]); first | done | rfl | (simp only [List.length_drop, List.length_take]; rfl)) ?_; (with_reducible refine (slices_EqualFunc_api_Inst_api_Inst_nfa_Same_1.calls k _ _ l0 _ _ l1  t125 _ ?side1 ?side2 ?side3 ?side4 A3.out).mono ?_); (case side1 => repeat (first | exact HR0.out | (with_reducible refine Kd.C_alloc ?_ _) | (with_reducible refine Kd.C_drewN ?_ _) | (with_reducible refine Kd.C_drew ?_))); (case side2 => exact HC0.out); (case side3 => repeat (first | exact HR1.out | (with_reducible refine Kd.C_alloc ?_ _) | (with_reducible refine Kd.C_drewN ?_ _) | (with_reducible refine Kd.C_drew ?_))); (case side4 => exact HC1.out); rintro e w4 ⟨rfl, hb⟩; refine ⟨_, rfl, ?_⟩; have n0_ := Aside0.mk (below_step (by repeat (first | (with_reducible first | exact HB.out | apply below_alloc | apply pw_below_drewN | apply below_drew1) | exact HB.out)) hb); clear HB; have HB := n0_; clear n0_; (try clear hb); (try clear hb2); (try clear hk); (try clear hi)))
  go_ret
  exact ⟨by first | rfl | (simp [errW_none, errW_some] <;> rfl) | (simp [*, errW_none, errW_some] <;> rfl), by repeat (first | (with_reducible first | exact HB.out | apply below_alloc | apply pw_below_drewN | apply below_drew1) | exact HB.out)⟩

end Go.Proofs.Ytbbplchdgedhcaa.P
namespace Go.Proofs.Ytbbplchdgedhcaa.P
open Go.RowKit Go.Proofs.YtbbplchdgedhcaaW.PrintWords Go.Proofs.YtbbplchdgedhcaaW.PrintLast
set_option linter.unusedVariables false
set_option linter.unusedSimpArgs false

/-- A row that lies in a block of its own is read. -/
theorem C_of_block {α : Type} {d : Kd α} {w : World} {b : Nat} {t : TypeId} {cs : List Value} {xs : List α} (hb : w.heap[b]? = some (.cells cs.toArray t (0, 0))) (hr : Reps (d.K w) d.sz xs cs) (hm : xs.length ≤ 9223372036854775807) : d.C w (some ⟨b, 0, none⟩) xs.length xs := by
  refine ⟨rfl, hm, fun _ => ⟨_, rfl, fun j p hj => ⟨(cs.drop (j * d.sz)).take d.sz, ?_, hr.2 j p hj, fun i u hu => ?_⟩⟩⟩
  · have hjl := (List.getElem?_eq_some_iff.1 hj).1
    have h1 : j * d.sz + d.sz ≤ cs.length := by rw [hr.1, ← Nat.succ_mul]; exact Nat.mul_le_mul_right _ hjl
    rw [List.length_take, List.length_drop]
    omega
  · rw [add_plain, blk_cell hb]
    rw [List.getElem?_take] at hu
    split at hu
    · rw [List.getElem?_drop] at hu
      simpa using hu
    · cases hu
def ductuslaw19_alive.f : Option Bool := some true
def setA : Node := ⟨2, [⟨97, 97⟩], 0, 0, []⟩
def startA : Node := ⟨6, [], 0, 0, []⟩
def progP : List Inst := [⟨2, [], 1, 3⟩, ⟨1, [⟨97, 97⟩], 0, 0⟩, ⟨3, [], 0, 0⟩, ⟨0, [], 0, 0⟩]
def progQ : List Inst := [⟨2, [], 1, 3⟩, ⟨1, [⟨97, 97⟩], 0, 0⟩, ⟨3, [], 7, 0⟩, ⟨2, [], 4, 6⟩, ⟨4, [], 0, 0⟩, ⟨3, [], 7, 0⟩, ⟨1, [⟨97, 97⟩], 0, 0⟩, ⟨0, [], 0, 0⟩]
theorem comp_p : nfa_Compile.f 4 5 [] 0 (-1) [setA] = some (progP, 0) := by kernel_rfl
theorem comp_q : nfa_Compile.f 4 4 [] 0 0 [setA, startA, setA] = some (progQ, 0) := by kernel_rfl
theorem comp_n : nfa_Compile.f 4 0 [] 0 0 [] = some ([], 1) := by kernel_rfl
theorem right_q : nfa_Right.f progQ = some true := by kernel_rfl
theorem count_q : nfa_Count.f 20 progQ 1 = some 2 := by kernel_rfl
theorem same_q : nfa_Same.f 20 progQ progQ = some true := by kernel_rfl
theorem setA_K {w : World} {b : Nat} (hb : w.heap[b]? = some (.cells #[.int .i64 97, .int .i64 97] 42 (0, 0))) : k25.K w setA [.int .i64 2, .slice (some ⟨b, 0, none⟩) 1 1, .int .i64 0, .int .i64 0, .slice none 0 0] :=
  k25_mk w setA (A1 := some ⟨b, 0, none⟩) (c1 := 1) (Nat.le_refl _) (C_of_block (cs := [.int .i64 97, .int .i64 97]) hb ((Reps.none _ _).snoc (k42_mk w ⟨97, 97⟩) rfl) (by decide)) (A4 := none) (c4 := 0) (Nat.le_refl _) (Kd.C_nil _ _)
theorem startA_K (w : World) : k25.K w startA [.int .i64 6, .slice none 0 0, .int .i64 0, .int .i64 0, .slice none 0 0] :=
  k25_mk w startA (A1 := none) (c1 := 0) (Nat.le_refl _) (Kd.C_nil _ _) (A4 := none) (c4 := 0) (Nat.le_refl _) (Kd.C_nil _ _)
set_option maxHeartbeats 8000000 in
set_option maxRecDepth 100000 in
theorem ductuslaw19_alive.calls (r : Bool) (w : World) (h : ductuslaw19_alive.f = some r) : Calls Try.prog 7 #[] w fun e w' => e = .returned (.bool r) ∧ Below w.heap.size w w' := by
  obtain rfl := Option.some.inj h
  clear h
  have hu := Try.underlying25
  have hui := Try.underlying39
  go_enter Try.func7, Try.ntmps7
  go_upto_region 2 with (fail)
  have h1 : ((w.alloc (.cells #[.int .i64 97, .int .i64 97] 42)).alloc (.cells #[.int .i64 2, .slice (some ⟨w.heap.size, 0, none⟩) 1 1, .int .i64 0, .int .i64 0, .slice none 0 0] 25)).heap[w.heap.size]? = some (.cells #[.int .i64 97, .int .i64 97] 42 (0, 0)) := blk_alloc (heap_alloc_new w _) _
  have h2 : ((w.alloc (.cells #[.int .i64 97, .int .i64 97] 42)).alloc (.cells #[.int .i64 2, .slice (some ⟨w.heap.size, 0, none⟩) 1 1, .int .i64 0, .int .i64 0, .slice none 0 0] 25)).heap[w.heap.size + 1]? = some (.cells #[.int .i64 2, .slice (some ⟨w.heap.size, 0, none⟩) 1 1, .int .i64 0, .int .i64 0, .slice none 0 0] 25 (0, 0)) := by
    have h9 := heap_alloc_new (w.alloc (.cells #[.int .i64 97, .int .i64 97] 42)) (.cells #[.int .i64 2, .slice (some ⟨w.heap.size, 0, none⟩) 1 1, .int .i64 0, .int .i64 0, .slice none 0 0] 25)
    rwa [show (w.alloc (.cells #[.int .i64 97, .int .i64 97] 42)).heap.size = w.heap.size + 1 from by simp] at h9
  have hB : Below w.heap.size w ((w.alloc (.cells #[.int .i64 97, .int .i64 97] 42)).alloc (.cells #[.int .i64 2, .slice (some ⟨w.heap.size, 0, none⟩) 1 1, .int .i64 0, .int .i64 0, .slice none 0 0] 25)) := below_alloc (below_alloc (Below.refl _ _) _) _
  generalize (w.alloc (.cells #[.int .i64 97, .int .i64 97] 42)).alloc (.cells #[.int .i64 2, .slice (some ⟨w.heap.size, 0, none⟩) 1 1, .int .i64 0, .int .i64 0, .slice none 0 0] 25) = W2 at h1 h2 hB ⊢
  obtain ⟨r0, hr0⟩ : ∃ r0, w.heap.size = r0 := ⟨_, rfl⟩
  obtain ⟨n0, hn0⟩ : ∃ n0, w.heap.size + 1 = n0 := ⟨_, rfl⟩
  rw [hn0] at h2 ⊢
  rw [hr0] at h1 h2 ⊢
  rw [← hr0]
  have HB := Aside0.mk hB
  have H1 := Aside0.mk h1
  have H2 := Aside0.mk h2
  clear hB h1 h2 hr0 hn0
  have x0 : W2.cell? ⟨n0, 0, none⟩ = some (.int .i64 2) := blk_cell H2.out 0
  have x1 : W2.cell? ⟨n0, 1, none⟩ = some (.slice (some ⟨r0, 0, none⟩) 1 1) := blk_cell H2.out 1
  have x2 : W2.cell? ⟨n0, 2, none⟩ = some (.int .i64 0) := blk_cell H2.out 2
  have x3 : W2.cell? ⟨n0, 3, none⟩ = some (.int .i64 0) := blk_cell H2.out 3
  have x4 : W2.cell? ⟨n0, 4, none⟩ = some (.slice none 0 0) := blk_cell H2.out 4
  go_upto_region 3 with (go_at_call 10; refine (nfa_Compile.calls 4 5 none 0 [] 0 (-1) (some ⟨W2.heap.size, 0, none⟩) 1 [setA] progP 0 _ ?s1 (Nat.le_refl _) ?s2 (Nat.le_refl _) comp_p).mono ?_; (case s1 => exact Kd.C_nil _ _); (case s2 => exact C_of_block (cs := [.int .i64 2, .slice (some ⟨r0, 0, none⟩) 1 1, .int .i64 0, .int .i64 0, .slice none 0 0]) (heap_alloc_new W2 _) ((Reps.none _ _).snoc (setA_K (blk_alloc H1.out _)) rfl) (by decide)); rintro e w3 ⟨vp, rfl, hp, hb⟩; have HP := Aside0.mk hp; have HB3 := Aside0.mk (below_step (below_alloc HB.out _) hb); have H13 := Aside0.mk (blk_below (blk_alloc H1.out _) hb); have H23 := Aside0.mk (blk_below (blk_alloc H2.out _) hb); clear hp hb)
  clear x0 x1 x2 x3 x4
  have x0 : w3.cell? ⟨n0, 0, none⟩ = some (.int .i64 2) := blk_cell H23.out 0
  have x1 : w3.cell? ⟨n0, 1, none⟩ = some (.slice (some ⟨r0, 0, none⟩) 1 1) := blk_cell H23.out 1
  have x2 : w3.cell? ⟨n0, 2, none⟩ = some (.int .i64 0) := blk_cell H23.out 2
  have x3 : w3.cell? ⟨n0, 3, none⟩ = some (.int .i64 0) := blk_cell H23.out 3
  have x4 : w3.cell? ⟨n0, 4, none⟩ = some (.slice none 0 0) := blk_cell H23.out 4
  go_upto_region 4 with (go_at_call 10; refine (nfa_Compile.calls 4 4 none 0 [] 0 0 (some ⟨w3.heap.size, 0, none⟩) 3 [setA, startA, setA] progQ 0 _ ?s1 (Nat.le_refl _) ?s2 (Nat.le_refl _) comp_q).mono ?_; (case s1 => exact Kd.C_nil _ _); (case s2 => exact C_of_block (cs := [.int .i64 2, .slice (some ⟨r0, 0, none⟩) 1 1, .int .i64 0, .int .i64 0, .slice none 0 0] ++ [.int .i64 6, .slice none 0 0, .int .i64 0, .int .i64 0, .slice none 0 0] ++ [.int .i64 2, .slice (some ⟨r0, 0, none⟩) 1 1, .int .i64 0, .int .i64 0, .slice none 0 0]) (heap_alloc_new w3 _) ((((Reps.none _ _).snoc (setA_K (blk_alloc H13.out _)) rfl).snoc (startA_K _) rfl).snoc (setA_K (blk_alloc H13.out _)) rfl) (by decide)); rintro e w4 ⟨vq, rfl, hq, hb⟩; have HQ := Aside0.mk hq; have HP4 := Aside0.mk (Kd.R_below (Kd.R_alloc HP.out _) hb); have HB4 := Aside0.mk (below_step (below_alloc HB3.out _) hb); clear hq hb)
  clear x0 x1 x2 x3 x4
  obtain ⟨gp, cp, ep, _, _, _⟩ := Kd.R_form HP4.out (by decide)
  obtain ⟨gq, cq, eq, _, _, _⟩ := Kd.R_form HQ.out (by decide)
  have ep2 : vp = .slice (some ⟨gp, 0, none⟩) 4 cp := ep
  have eq2 : vq = .slice (some ⟨gq, 0, none⟩) 8 cq := eq
  subst ep2 eq2
  clear ep eq HP
  go_upto_region 5 with (go_at_call 10; refine (nfa_Compile.calls 4 0 none 0 [] 0 0 none 0 [] [] 1 _ ?s1 (Nat.le_refl _) ?s2 (Nat.le_refl _) comp_n).mono ?_; (case s1 => exact Kd.C_nil _ _); (case s2 => exact Kd.C_nil _ _); rintro e w5 ⟨vn, rfl, _, hb⟩; have HQ5 := Aside0.mk (Kd.R_below HQ.out hb); have HP5 := Aside0.mk (Kd.R_below HP4.out hb); have HB5 := Aside0.mk (below_step HB4.out hb); clear hb)
  obtain ⟨ceP0, _, hMP0, hccP0, _⟩ := Kd.R_elem HP5.out z39 (0 : Int) (by decide) (by decide)
  obtain ⟨v1P0, rfl, _⟩ := k39_openM hMP0
  obtain ⟨ceP2, _, hMP2, hccP2, _⟩ := Kd.R_elem HP5.out z39 (2 : Int) (by decide) (by decide)
  obtain ⟨v1P2, rfl, _⟩ := k39_openM hMP2
  obtain ⟨ceQ0, _, hMQ0, hccQ0, _⟩ := Kd.R_elem HQ5.out z39 (0 : Int) (by decide) (by decide)
  obtain ⟨v1Q0, rfl, _⟩ := k39_openM hMQ0
  obtain ⟨ceQ2, _, hMQ2, hccQ2, _⟩ := Kd.R_elem HQ5.out z39 (2 : Int) (by decide) (by decide)
  obtain ⟨v1Q2, rfl, _⟩ := k39_openM hMQ2
  obtain ⟨ceQ3, _, hMQ3, hccQ3, _⟩ := Kd.R_elem HQ5.out z39 (3 : Int) (by decide) (by decide)
  obtain ⟨v1Q3, rfl, _⟩ := k39_openM hMQ3
  obtain ⟨ceQ5, _, hMQ5, hccQ5, _⟩ := Kd.R_elem HQ5.out z39 (5 : Int) (by decide) (by decide)
  obtain ⟨v1Q5, rfl, _⟩ := k39_openM hMQ5
  have y0 : w5.cell? ⟨gp, 0, none⟩ = some (.int .i64 2) := hccP0 0 _ rfl
  have y1 : w5.cell? ⟨gp, 2, none⟩ = some (.int .i64 1) := hccP0 2 _ rfl
  have y2 : w5.cell? ⟨gp, 3, none⟩ = some (.int .i64 3) := hccP0 3 _ rfl
  have y3 : w5.cell? ⟨gp, 8, none⟩ = some (.int .i64 3) := hccP2 0 _ rfl
  have y4 : w5.cell? ⟨gp, 10, none⟩ = some (.int .i64 0) := hccP2 2 _ rfl
  have y5 : w5.cell? ⟨gq, 3, none⟩ = some (.int .i64 3) := hccQ0 3 _ rfl
  have y6 : w5.cell? ⟨gq, 10, none⟩ = some (.int .i64 7) := hccQ2 2 _ rfl
  have y7 : w5.cell? ⟨gq, 15, none⟩ = some (.int .i64 6) := hccQ3 3 _ rfl
  have y8 : w5.cell? ⟨gq, 22, none⟩ = some (.int .i64 7) := hccQ5 2 _ rfl
  clear hMP0 hccP0 hMP2 hccP2 hMQ0 hccQ0 hMQ2 hccQ2 hMQ3 hccQ3 hMQ5 hccQ5 HQ HP4
  have HC := Aside0.mk (show k39.C w5 (some ⟨gq, 0, none⟩) progQ.length progQ from (Kd.R_reads' HQ5.out).2.2)
  have HCL := Aside0.mk (show progQ.length ≤ cq from (Kd.R_reads' HQ5.out).2.1)
  go_wp2_with (first
    | (go_at_call 14; refine (nfa_Right.calls (some ⟨gq, 0, none⟩) cq progQ true _ HC.out HCL.out right_q).mono ?_; rintro e w6 ⟨rfl, hb⟩; have HB6 := Aside0.mk hb; clear hb)
    | (go_at_call 16; refine (nfa_Count.calls 20 (some ⟨gq, 0, none⟩) cq progQ 1 2 _ (Kd.C_below HC.out HB6.out) HCL.out count_q).mono ?_; rintro e w7 ⟨rfl, hb⟩; have HB7 := Aside0.mk (below_step HB6.out hb); clear hb)
    | (go_at_call 18; refine (nfa_Same.calls 20 (some ⟨gq, 0, none⟩) cq progQ (some ⟨gq, 0, none⟩) cq progQ true _ (Kd.C_below HC.out HB7.out) HCL.out (Kd.C_below HC.out HB7.out) HCL.out same_q).mono ?_; rintro e w8 ⟨rfl, hb⟩; have HB8 := Aside0.mk hb; clear hb))
  go_ret
  exact ⟨rfl, below_step (below_step HB5.out HB7.out) HB8.out⟩
end Go.Proofs.Ytbbplchdgedhcaa.P
