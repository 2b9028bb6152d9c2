/- Texts of this claim put together by a program of its own (PShift, POpenN, PWf, PureDerivShifts, POpenL), what the law does not use left out: each part's statements bear their own conditions. -/
import Derived.Test.YtaphbechnjmlgaaC19
import Derived.Test.YtaphbechnjmlgaaC13
import Derived.OpenShut
import Derived.Deep.Slices
import Derived.ChangeSlices
import Derived.SizedLaws
import Derived.Test.YtaphbechnjmlgaaC12
namespace Go.Proofs.Ytaphbechnjmlgaa.P
open Go.RowKit Go.Proofs.YtaphbechnjmlgaaW.PrintWords Go.Proofs.YtaphbechnjmlgaaW.PrintLast
set_option linter.unusedVariables false
set_option linter.unusedSimpArgs false

theorem allP_ev : ∀ l : List TNode, (∀ y ∈ l, ∃ b, Ev (fun k => parsedS k y) b ∧ (b = true → GoodN y)) → ∃ b, Ev (fun k => allP (parsedS k) l) b ∧ (b = true → ∀ y ∈ l, GoodN y)
  | [], _ => ⟨true, ev_now fun k => rfl, fun _ y hy => by simp at hy⟩
  | y :: l, h => by
    obtain ⟨b, e1, h1⟩ := h y (by simp)
    obtain ⟨c, e2, h2⟩ := allP_ev l (fun z hz => h z (by simp [hz]))
    cases b with
    | false => exact ⟨false, ev_same e1 fun k e => by rw [allP, e, Option.bind_some, if_neg (by decide)], fun h => by cases h⟩
    | true =>
      refine ⟨c, ev_same2 e1 e2 fun k e e' => by rw [allP, e, Option.bind_some, if_pos rfl]; exact e', fun hc z hz => ?_⟩
      rcases List.mem_cons.1 hz with rfl | hz
      · exact h1 rfl
      · exact h2 hc z hz
theorem parsed_ev (x : TNode) : ∃ b, Ev (fun k => parsedS k x) b ∧ (b = true → GoodN x) := by
  induction x using node_ind with
  | h x ih =>
    by_cases c : badP x = true
    · exact ⟨false, ev_one fun k => by rw [parsedS, if_pos c], fun h => by cases h⟩
    · obtain ⟨b, e, h⟩ := allP_ev x.f4 ih
      refine ⟨b, ev_step e fun k e => by rw [parsedS, if_neg c]; exact e, fun hb => ⟨x, fun h5 => ?_, h hb⟩⟩
      simp only [badP, Bool.not_eq_true, Bool.or_eq_false_iff, Bool.and_eq_false_iff, decide_eq_false_iff_not] at c
      omega
abbrev smallE (k : Nat) (x : TNode) (l : List Int) : Option Bool := ductuslaw18_small.f k x.f0 x.f1 x.f2 x.f3 x.f4 l
theorem small_ev (x : TNode) (l : List Int) (hw : WfN x) : ∃ b, Ev (fun k => smallE k x l) b ∧ (b = true → l.length ≤ 40 ∧ GoodN x) := by
  obtain ⟨W, e1, _⟩ := weight_ev x hw 0 (by omega)
  obtain ⟨b, e2, h2⟩ := parsed_ev x
  by_cases c1 : W ≤ 300
  · by_cases c2 : (l.length : Int) ≤ 40
    · refine ⟨b, ev_same2 e1 e2 fun k e e' => ?_, fun hb => ⟨by omega, h2 hb⟩⟩
      have e'' : ductusref18_Parsed.f k x.f0 x.f1 x.f2 x.f3 x.f4 = some b := by cases x; exact e'
      unfold smallE ductuslaw18_small.f
      rw [show ductusref16_Weight.f k x.f0 x.f1 x.f2 x.f3 x.f4 0 = some W from e, Option.bind_some, if_pos c1, if_pos c2, e'', Option.bind_some]
    · refine ⟨false, ev_same e1 fun k e => ?_, fun h => by cases h⟩
      unfold smallE ductuslaw18_small.f
      rw [show ductusref16_Weight.f k x.f0 x.f1 x.f2 x.f3 x.f4 0 = some W from e, Option.bind_some, if_pos c1, if_neg c2]
  · refine ⟨false, ev_same e1 fun k e => ?_, fun h => by cases h⟩
    unfold smallE ductuslaw18_small.f
    rw [show ductusref16_Weight.f k x.f0 x.f1 x.f2 x.f3 x.f4 0 = some W from e, Option.bind_some, if_neg c1]
theorem ends_ev (l : List Int) (hl : l.length ≤ 64) (x : TNode) (hg : GoodN x) (a : Int) (ha : 0 ≤ a ∧ a ≤ (l.length : Int)) : Ev (fun k => deriv_Ends.f k x.f0 x.f1 x.f2 x.f3 x.f4 l a) (endsM l x a) :=
  ⟨200 + dep x, fun k hk => by
    have := ends_ok (k := k) l hl x hg (by omega) (by omega) a ha
    cases x
    exact this⟩
inductive PlainN : TNode → Prop
  | mk (x : TNode) (h : x.f0 ≠ 6 ∧ x.f0 ≠ 7) (hk : ∀ y ∈ x.f4, PlainN y) : PlainN x
abbrev anchE (k : Nat) (x : TNode) : Option Bool := ductuslaw18_anchored.f k x.f0 x.f1 x.f2 x.f3 x.f4
theorem anch_loop (x : TNode) (hl : x.f4.length < 2199023255552) (hk : ∀ y ∈ x.f4, ∃ b, Ev (fun k => anchE k y) b ∧ (b = false → PlainN y)) (d : Nat) : ∀ i : Nat, i + d = x.f4.length →
    ∃ b, Ev (fun k => ductuslaw18_anchored.l0 k (i : Int) x.f0 x.f1 x.f2 x.f3 x.f4) b ∧ (b = false → ∀ y ∈ x.f4.drop i, PlainN y) := by
  induction d with
  | zero =>
    intro i hi
    refine ⟨false, ev_one fun k => ?_, fun _ y hy => ?_⟩
    · simp only [ductuslaw18_anchored.l0]
      rw [if_neg (by omega)]
    · rw [List.drop_eq_nil_of_le (by omega)] at hy
      simp at hy
  | succ d ih =>
    intro i hi
    obtain ⟨b, e1, h1⟩ := hk _ (tn_mem x.f4 i (by omega))
    obtain ⟨c, e2, h2⟩ := ih (i + 1) (by omega)
    have e1' : Ev (fun k => ductuslaw18_anchored.f k (rd_T25 x.f4 (i : Int)).f0 (rd_T25 x.f4 (i : Int)).f1 (rd_T25 x.f4 (i : Int)).f2 (rd_T25 x.f4 (i : Int)).f3 (rd_T25 x.f4 (i : Int)).f4) b := e1
    cases b with
    | true =>
      refine ⟨true, ev_step e1' fun k e => ?_, fun h => by cases h⟩
      simp only [ductuslaw18_anchored.l0]
      rw [if_pos (by omega), if_pos (by omega), e, Option.bind_some, if_pos rfl]
    | false =>
      refine ⟨c, ev_step2 e1' e2 fun k e e' => ?_, fun hc y hy => ?_⟩
      · simp only [ductuslaw18_anchored.l0]
        rw [if_pos (by omega), if_pos (by omega), e, Option.bind_some, if_neg (by decide), wrap_succ i (by omega)]
        exact e'
      · rw [List.drop_eq_getElem_cons (by omega : i < x.f4.length)] at hy
        rcases List.mem_cons.1 hy with rfl | hy
        · have := h1 rfl
          rw [tn_rd x.f4 i (by omega)] at this
          exact this
        · exact h2 hc y hy
theorem anch_ev (x : TNode) : WfN x → ∃ b, Ev (fun k => anchE k x) b ∧ (b = false → PlainN x) := by
  induction x using node_ind with
  | h x ih =>
    intro hw
    obtain ⟨_, h0, h1, l1, h2, h3, l4, hk⟩ := hw
    by_cases c : x.f0 = 6 ∨ x.f0 = 7
    · refine ⟨true, ⟨2, fun k hk => ?_⟩, fun h => by cases h⟩
      obtain ⟨k, rfl⟩ : ∃ m, k = m + 1 + 1 := ⟨k - 2, by omega⟩
      simp only [anchE, ductuslaw18_anchored.f, ductuslaw18_anchored.j0]
      rcases c with c | c
      · rw [if_pos c]
        simp
      · rw [if_neg (by omega), c]
        simp
    · obtain ⟨b, e, h⟩ := anch_loop x l4 (fun y hy => ih y hy (hk y hy)) x.f4.length 0 (by omega)
      have e0 : Ev (fun k => ductuslaw18_anchored.j0 k false x.f0 x.f1 x.f2 x.f3 x.f4) b := ev_step e fun k e => by
        simp only [ductuslaw18_anchored.j0]
        rw [if_neg (by decide)]
        exact e
      refine ⟨b, ev_step e0 fun k e => ?_, fun hb => ⟨x, by omega, fun y hy => h hb y (by simpa using hy)⟩⟩
      · simp only [anchE, ductuslaw18_anchored.f]
        rw [if_neg (by omega), beq_eq_false_iff_ne.2 (by omega)]
        exact e
theorem any_ev {t : Nat → TNode → Option Bool} : ∀ l : List TNode, (∀ y ∈ l, ∃ b, Ev (fun k => t k y) b) → ∃ b, Ev (fun k => anyS (t k) l) b
  | [], _ => ⟨false, ev_now fun k => rfl⟩
  | y :: l, h => by
    obtain ⟨b, e1⟩ := h y (by simp)
    obtain ⟨c, e2⟩ := any_ev l (fun z hz => h z (by simp [hz]))
    cases b with
    | true => exact ⟨true, ev_same e1 fun k e => by rw [anyS, e, Option.bind_some, if_pos rfl]⟩
    | false => exact ⟨c, ev_same2 e1 e2 fun k e e' => by rw [anyS, e, Option.bind_some, if_neg (by decide)]; exact e'⟩
theorem anyS_congr {t u : TNode → Option Bool} : ∀ l : List TNode, (∀ y ∈ l, t y = u y) → anyS t l = anyS u l
  | [], _ => rfl
  | y :: l, h => by rw [anyS, anyS, h y (by simp), anyS_congr l (fun z hz => h z (by simp [hz]))]
theorem null_plain (x : TNode) : PlainN x → ∀ k, nullS true true k x = nullS false false k x := by
  induction x using node_ind with
  | h x ih =>
    rintro ⟨_, hp, hk⟩ k
    cases k with
    | zero => rfl
    | succ k =>
      have e : ∀ y ∈ x.f4, nullS true true k y = nullS false false k y := fun y hy => ih y hy (hk y hy) k
      rw [nullS, nullS, if_neg hp.1, if_neg hp.2, if_neg hp.1, if_neg hp.2, anyS_congr x.f4 e, anyS_congr (t := fun k_1 => (nullS true true k k_1).map (!·)) (u := fun k_1 => (nullS false false k k_1).map (!·)) x.f4 (fun y hy => by rw [e y hy])]
      by_cases c : x.f4.length = 1
      · obtain ⟨y, hy⟩ : ∃ y, x.f4 = [y] := List.length_eq_one_iff.1 c
        rw [show x.f4.getD 0 z25 = y by rw [hy]; rfl, e y (by rw [hy]; simp)]
      · simp only [c, false_and, if_false]
theorem null_ev (st sp : Bool) (x : TNode) : ∃ b, Ev (fun k => nullS st sp k x) b := by
  induction x using node_ind with
  | h x ih =>
    obtain ⟨b3, e3⟩ := any_ev (t := fun k y => (nullS st sp k y).map (!·)) x.f4 (fun y hy => by
      obtain ⟨b, e⟩ := ih y hy
      exact ⟨!b, ev_same e fun k e => by rw [e]; rfl⟩)
    obtain ⟨b4, e4⟩ := any_ev (t := fun k y => nullS st sp k y) x.f4 ih
    by_cases c1 : x.f0 = 1
    · exact ⟨true, ev_one fun k => by rw [nullS, if_pos c1]⟩
    by_cases c6 : x.f0 = 6
    · exact ⟨st, ev_one fun k => by rw [nullS, if_neg c1, if_pos c6]⟩
    by_cases c7 : x.f0 = 7
    · exact ⟨sp, ev_one fun k => by rw [nullS, if_neg c1, if_neg c6, if_pos c7]⟩
    by_cases c3 : x.f0 = 3
    · exact ⟨!b3, ev_step e3 fun k e => by rw [nullS, if_neg c1, if_neg c6, if_neg c7, if_pos c3, e]; rfl⟩
    by_cases c4 : x.f0 = 4
    · exact ⟨b4, ev_step e4 fun k e => by rw [nullS, if_neg c1, if_neg c6, if_neg c7, if_neg c3, if_pos c4]; exact e⟩
    by_cases c5 : x.f0 = 5
    · by_cases cl : x.f4.length = 1 ∧ (x.f3 < 0 ∨ x.f3 ≥ x.f2)
      · obtain ⟨y, hy⟩ : ∃ y, x.f4 = [y] := List.length_eq_one_iff.1 cl.1
        by_cases c2 : x.f2 ≤ 0
        · exact ⟨true, ev_one fun k => by rw [nullS, if_neg c1, if_neg c6, if_neg c7, if_neg c3, if_neg c4, if_pos c5, if_pos cl, if_pos c2]⟩
        · obtain ⟨b, e⟩ := ih y (by rw [hy]; simp)
          exact ⟨b, ev_step e fun k e => by rw [nullS, if_neg c1, if_neg c6, if_neg c7, if_neg c3, if_neg c4, if_pos c5, if_pos cl, if_neg c2, show x.f4.getD 0 z25 = y by rw [hy]; rfl]; exact e⟩
      · exact ⟨false, ev_one fun k => by rw [nullS, if_neg c1, if_neg c6, if_neg c7, if_neg c3, if_neg c4, if_pos c5, if_neg cl]⟩
    · exact ⟨false, ev_one fun k => by rw [nullS, if_neg c1, if_neg c6, if_neg c7, if_neg c3, if_neg c4, if_neg c5]⟩
section
variable (l : List Int) (s : Nat) (hs : s ≤ l.length)
abbrev Moved (s : Nat) (R S : Int → Int → Prop) (n : Int) : Prop := ∀ i j, 0 ≤ i → i ≤ n → (R (i + (s : Int)) (j + (s : Int)) ↔ S i j)
include hs in
theorem move_times {R S : Int → Int → Prop} (h : Moved s R S ((l.drop s).length : Int)) (hb : Bnd (l.length : Int) R) (hb2 : Bnd ((l.drop s).length : Int) S) : ∀ m, Moved s (Times R m) (Times S m) ((l.drop s).length : Int)
  | 0, i, j, h1, h2 => by
    simp only [Times]
    omega
  | m + 1, i, j, h1, h2 => by
    have hl : ((l.drop s).length : Int) = (l.length : Int) - (s : Int) := by rw [List.length_drop]; omega
    constructor
    · rintro ⟨t, ht, hm⟩
      have := hb _ _ ht (by omega) (by omega)
      rw [show t = (t - (s : Int)) + (s : Int) by omega] at ht hm
      exact ⟨_, (h i _ h1 h2).1 ht, (move_times h hb hb2 m _ _ (by omega) (by omega)).1 hm⟩
    · rintro ⟨t, ht, hm⟩
      have := hb2 _ _ ht (by omega) (by omega)
      exact ⟨_, (h i _ h1 h2).2 ht, (move_times h hb hb2 m _ _ (by omega) (by omega)).2 hm⟩
include hs in
theorem move_MJ : ∀ ys : List TNode, (∀ y ∈ ys, Moved s (M l y) (M (l.drop s) y) ((l.drop s).length : Int)) → Moved s (MJ l ys) (MJ (l.drop s) ys) ((l.drop s).length : Int)
  | [], _, i, j, h1, h2 => by
    simp only [MJ]
    omega
  | y :: ys, h, i, j, h1, h2 => by
    have hl : ((l.drop s).length : Int) = (l.length : Int) - (s : Int) := by rw [List.length_drop]; omega
    simp only [MJ]
    constructor
    · rintro ⟨t, ht, hm⟩
      have := bnd_M l y _ _ ht (by omega) (by omega)
      rw [show t = (t - (s : Int)) + (s : Int) by omega] at ht hm
      exact ⟨_, (h y (by simp) i _ h1 h2).1 ht, (move_MJ ys (fun z hz => h z (by simp [hz])) _ _ (by omega) (by omega)).1 hm⟩
    · rintro ⟨t, ht, hm⟩
      have := bnd_M (l.drop s) y _ _ ht (by omega) (by omega)
      exact ⟨_, (h y (by simp) i _ h1 h2).2 ht, (move_MJ ys (fun z hz => h z (by simp [hz])) _ _ (by omega) (by omega)).2 hm⟩
include hs in
theorem move_M (x : TNode) : PlainN x → Moved s (M l x) (M (l.drop s) x) ((l.drop s).length : Int) := by
  have hl : ((l.drop s).length : Int) = (l.length : Int) - (s : Int) := by rw [List.length_drop]; omega
  induction x using node_ind with
  | h x ih =>
    rintro ⟨_, hp, hk⟩ i j h1 h2
    by_cases c1 : x.f0 = 1
    · rw [M_1 _ _ _ _ c1, M_1 _ _ _ _ c1]
      omega
    by_cases c2 : x.f0 = 2
    · rw [M_2 _ _ _ _ c2, M_2 _ _ _ _ c2, hl]
      have : rd (l.drop s) i = rd l (i + (s : Int)) := by
        rw [show i = ((i.toNat : Nat) : Int) by omega, show ((i.toNat : Nat) : Int) + (s : Int) = ((s + i.toNat : Nat) : Int) by omega, rd_nat, rd_nat]
        simp [List.getElem?_drop]
      rw [this]
      constructor
      · rintro ⟨h3, h4, h5⟩
        exact ⟨by omega, h4, by omega⟩
      · rintro ⟨h3, h4, h5⟩
        exact ⟨by omega, h4, by omega⟩
    by_cases c3 : x.f0 = 3
    · rw [M_3 _ _ _ _ c3, M_3 _ _ _ _ c3]
      exact move_MJ l s hs x.f4 (fun y hy => ih y hy (hk y hy)) i j h1 h2
    by_cases c4 : x.f0 = 4
    · rw [M_4 _ _ _ _ c4, M_4 _ _ _ _ c4, MO_iff, MO_iff]
      exact ⟨fun ⟨y, hy, h⟩ => ⟨y, hy, (ih y hy (hk y hy) i j h1 h2).1 h⟩, fun ⟨y, hy, h⟩ => ⟨y, hy, (ih y hy (hk y hy) i j h1 h2).2 h⟩⟩
    by_cases c5 : x.f0 = 5
    · rw [M_5 _ _ _ _ c5, M_5 _ _ _ _ c5]
      by_cases cl : x.f4.length = 1
      · obtain ⟨y, hy⟩ : ∃ y, x.f4 = [y] := List.length_eq_one_iff.1 cl
        have hym : y ∈ x.f4 := by rw [hy]; simp
        rw [hy, show M1 l [y] = M l y by funext a b; rw [M1], show M1 (l.drop s) [y] = M (l.drop s) y by funext a b; rw [M1]]
        have hm := move_times l s hs (ih y hym (hk y hym)) (bnd_M l y) (bnd_M (l.drop s) y)
        constructor
        · rintro ⟨q1, q2, m, q3, q4, q5⟩
          exact ⟨q1, q2, m, q3, q4, (hm m i j h1 h2).1 q5⟩
        · rintro ⟨q1, q2, m, q3, q4, q5⟩
          exact ⟨q1, q2, m, q3, q4, (hm m i j h1 h2).2 q5⟩
      · simp [cl]
    · have := hp.1
      have := hp.2
      exact ⟨fun h => absurd h (M_0 l x _ _ (by omega)), fun h => absurd h (M_0 _ x _ _ (by omega))⟩
end
theorem ends_move (l : List Int) (s : Nat) (hs : s ≤ l.length) (x : TNode) (hp : PlainN x) : endsM l x (s : Int) = (endsM (l.drop s) x 0).map fun j => j + (s : Int) := by
  have hl : ((l.drop s).length : Int) = (l.length : Int) - (s : Int) := by rw [List.length_drop]; omega
  refine srt_ext (endsM_srt _ _ _) ?_ fun p => ?_
  · show Srt _
    unfold Srt
    rw [List.pairwise_map]
    exact List.Pairwise.imp (fun h => by omega) (endsM_srt (l.drop s) x 0)
  · rw [mem_endsM l x (s : Int) p (by omega), List.mem_map]
    have hm := fun j => move_M l s hs x hp 0 j (by omega) (by omega)
    rw [show (0 : Int) + (s : Int) = (s : Int) by omega] at hm
    constructor
    · intro h
      refine ⟨p - (s : Int), (mem_endsM _ _ _ _ (by omega)).2 ((hm _).1 ?_), by omega⟩
      rw [show p - (s : Int) + (s : Int) = p by omega]
      exact h
    · rintro ⟨j, hj, rfl⟩
      exact (hm j).2 ((mem_endsM _ _ _ _ (by omega)).1 hj)
end Go.Proofs.Ytaphbechnjmlgaa.P
namespace Go.Proofs.Ytaphbechnjmlgaa.P
open Go.Deep Go.ChangeShapes Go.WideShapes Go.Proofs.YtaphbechnjmlgaaW.PrintWords
set_option linter.unusedVariables false
set_option linter.unusedSimpArgs false

/-- What an argument's data weigh is within the reach. -/
def Lite {H : Type} (P : Program) (t : TypeId) (d : DataW H) : Prop := ∀ q ∈ d.weights P t, q ≤ reachBytes
/-- What reads by a type, within m steps, is of a kind. -/
def Opens {α H : Type} (enc : TypeId × Value → H) (P : Program) (w : World) (base : Nat) (held : Bool) (t : TypeId) (d : Kd α) (wf : α → Prop) (m : Nat) : Prop :=
  ∀ (cs : List Value) (y : DataW H × List MemPlace), DataW.trod enc P w base (fun _ => true) held m t cs = some y → Lite P t y.1 → ∃ v, d.K w v cs ∧ wf v
section
variable {α H : Type} {enc : TypeId × Value → H} {P : Program} {w : World} {base : Nat} {held : Bool}
theorem opens_int {t : TypeId} {k : IntKind} (ht : P.underlying t = some (.int k)) (m : Nat) : Opens enc P w base held t (Kd.int k) (fun x => (Lit.int k x).wf = true) m := by
  intro cs y h _
  obtain ⟨n, rfl, _, hw⟩ := DataW.trod_int ht h
  exact ⟨n, rfl, hw⟩
theorem weightsAll_mem {e : TypeId} {n : Nat} {d : DataW H} : ∀ {l : List (DataW H)}, d ∈ l → n ∈ d.weights P e → n ∈ DataW.weightsAll P e l
  | [], h, _ => by simp at h
  | x :: l, h, hn => by
    simp only [DataW.weightsAll, List.mem_append]
    rcases List.mem_cons.1 h with rfl | h
    · exact .inl hn
    · exact .inr (weightsAll_mem h hn)
theorem opens_slice [Inhabited α] {t e : TypeId} {d : Kd α} {wf : α → Prop} {B : Nat} (ht : P.underlying t = some (.slice e)) (hc : P.cellsOf e = d.sz) (hB : P.bytesOf e = B) (m : Nat) (ih : ∀ n, m = n + 1 → Opens enc P w base held e d wf n) :
    Opens enc P w base held t (Kd.slice e d) (fun l => l.length * B ≤ 140737488351232 ∧ ∀ x ∈ l, wf x) m := by
  intro cs y h hw
  rcases DataW.trod_slice ht h with ⟨rfl, _⟩ | ⟨a, len, cap, elems, rest, n, hn, rfl, rfl, hb, hl, hm, hlen, hel, _, _⟩
  · exact ⟨[], ⟨none, 0, rfl, Nat.le_refl _, ⟨rfl, by simp, fun h => absurd h (Nat.lt_irrefl 0)⟩⟩, by simp, by simp⟩
  · have hO := ih n hn
    have ex : ∀ i, i < len → ∃ v : α, (∃ c : List Value, c.length = d.sz ∧ d.K w v c ∧ ∀ j u, c[j]? = some u → w.cell? (a.add (i * d.sz + j)) = some u) ∧ wf v := by
      intro i hi
      have h1 := hel i hi
      rw [hc] at h1
      have h2 : elems[i]? = some (elems[i]'(by omega)) := List.getElem?_eq_getElem (by omega)
      rw [h2] at h1
      obtain ⟨c, hc1, hc2⟩ := Option.bind_eq_some_iff.mp h1
      obtain ⟨_, hcl, hcell⟩ := World.cells?_some hc1
      obtain ⟨v, hv, hwf⟩ := hO c _ hc2 (fun q hq => hw q (by
        simp only [DataW.weights, ht, List.mem_cons, List.mem_append]
        exact .inr (.inl (weightsAll_mem (List.mem_map_of_mem (List.getElem_mem (by omega))) hq))))
      refine ⟨v, ⟨c, hcl, hv, fun j u hu => ?_⟩, hwf⟩
      have hj : j < d.sz := by rw [← hcl]; exact (List.getElem?_eq_some_iff.1 hu).1
      rw [← Go.Deep.add_add, hcell j hj]
      exact hu
    obtain ⟨q, hq⟩ := choose_lt ex
    have hlen2 : ((List.range len).map q).length = len := by simp
    refine ⟨(List.range len).map q, ⟨some a, cap, by rw [hlen2], by rw [hlen2]; exact hl, ?_⟩, ?_, ?_⟩
    · rw [hlen2]
      refine ⟨hlen2, by have := Nat.le_trans hl hm; simp only [maxLen] at this; omega, fun _ => ⟨a, rfl, fun j p hp => ?_⟩⟩
      have hj : j < len := by
        have := (List.getElem?_eq_some_iff.1 hp).1
        rwa [hlen2] at this
      have hpq : p = q j := by
        rw [List.getElem?_map, List.getElem?_range hj] at hp
        exact (Option.some.inj hp).symm
      subst hpq
      obtain ⟨⟨c, h1, h2, h3⟩, _⟩ := hq j hj
      exact ⟨c, h1, h2, h3⟩
    · rw [hlen2]
      have := hw ((elems.length + rest.length) * B) (by simp only [DataW.weights, ht, List.length_map, hB]; exact List.mem_cons_self)
      have h2 : len * B ≤ (elems.length + rest.length) * B := Nat.mul_le_mul_right _ (by omega)
      exact Nat.le_trans h2 this
    · intro x hx
      obtain ⟨j, hj, rfl⟩ := List.mem_map.1 hx
      exact (hq j (List.mem_range.1 hj)).2
theorem okWide_struct {r : Reach} {b0 : Nat} {t : TypeId} {fs : Array Field} {v : Value} (ht : P.underlying t = some (.struct fs)) (h : Value.okWide P w r b0 t v) : ∃ cs, v = .agg cs ∧ cs.size = P.cellsOf t := by
  simp only [Value.okWide, ht] at h
  obtain ⟨cs, h1, h2, _⟩ := h
  exact ⟨cs, h1, h2⟩
end
section
variable {H : Type} {enc : TypeId × Value → H} {w : World} {base : Nat} {held : Bool}
def w64 (x : Int) : Prop := -9223372036854775808 ≤ x ∧ x ≤ 9223372036854775807
theorem w64_of {x : Int} (h : (Lit.int .i64 x).wf = true) : w64 x := by
  have hmin : IntKind.i64.min = -9223372036854775808 := rfl
  have hmax : IntKind.i64.max = 9223372036854775807 := rfl
  simp only [Lit.wf, Bool.and_eq_true, decide_eq_true_eq] at h
  unfold w64
  omega
theorem cells_int : Try.prog.cellsOf 3 = 1 := by kernel_rfl
theorem cells_ranges : Try.prog.cellsOf 22 = 1 := by kernel_rfl
theorem cells_nodes : Try.prog.cellsOf 23 = 1 := by kernel_rfl
theorem cells_range : Try.prog.cellsOf 52 = 2 := by kernel_rfl
theorem cells_node : Try.prog.cellsOf 25 = 5 := by kernel_rfl
theorem bytes_range : Try.prog.bytesOf 52 = 16 := by kernel_rfl
theorem bytes_node : Try.prog.bytesOf 25 = 72 := by kernel_rfl
instance : Inhabited S52 := ⟨z52⟩
instance : Inhabited S25 := ⟨z25⟩
theorem opens_range (m : Nat) : Opens enc Try.prog w base held 52 k52 (fun r => w64 r.f0 ∧ w64 r.f1) m := by
  intro cs y h _
  obtain ⟨xs, n, rfl, _, hl, hxl, hf⟩ := DataW.trod_struct Try.underlying52 h
  rw [cells_range] at hl
  match xs, hxl, cs, hl with
  | [y0, y1], _, [c0, c1], _ =>
    have g0 := hf 0 _ rfl
    have g1 := hf 1 _ rfl
    simp [cells_int] at g0 g1
    obtain ⟨x0, e0, _, w0⟩ := DataW.trod_int Try.underlying3 g0
    obtain ⟨x1, e1, _, w1⟩ := DataW.trod_int Try.underlying3 g1
    obtain rfl := (List.cons.inj e0).1
    obtain rfl := (List.cons.inj e1).1
    exact ⟨⟨x0, x1⟩, k52_mk w ⟨x0, x1⟩, w64_of w0, w64_of w1⟩
/-- A tree that was read. -/
inductive WfT : S25 → Prop
  | mk (x : S25) (h0 : w64 x.f0) (l1 : x.f1.length * 16 ≤ 140737488351232) (h1 : ∀ r ∈ x.f1, w64 r.f0 ∧ w64 r.f1) (h2 : w64 x.f2) (h3 : w64 x.f3) (l4 : x.f4.length * 72 ≤ 140737488351232) (hk : ∀ y ∈ x.f4, WfT y) : WfT x
theorem opens_ranges (m : Nat) : Opens enc Try.prog w base held 22 (Kd.slice 52 k52) (fun l => l.length * 16 ≤ 140737488351232 ∧ ∀ r ∈ l, w64 r.f0 ∧ w64 r.f1) m :=
  opens_slice Try.underlying22 (by rw [cells_range]; rfl) bytes_range m (fun n _ => opens_range n)
theorem opens_node : ∀ m : Nat, Opens enc Try.prog w base held 25 k25 WfT m := by
  intro m
  induction m using Nat.strongRecOn with
  | ind m ih =>
    intro cs y h hw
    obtain ⟨xs, n, rfl, rfl, hl, hxl, hf⟩ := DataW.trod_struct Try.underlying25 h
    rw [cells_node] at hl
    match xs, hxl, cs, hl with
    | [y0, y1, y2, y3, y4], _, [c0, c1, c2, c3, c4], _ =>
      have g0 := hf 0 _ rfl
      have g1 := hf 1 _ rfl
      have g2 := hf 2 _ rfl
      have g3 := hf 3 _ rfl
      have g4 := hf 4 _ rfl
      simp [cells_int, cells_ranges, cells_nodes] at g0 g1 g2 g3 g4
      obtain ⟨x0, e0, _, w0⟩ := DataW.trod_int Try.underlying3 g0
      obtain ⟨x2, e2, _, w2⟩ := DataW.trod_int Try.underlying3 g2
      obtain ⟨x3, e3, _, w3⟩ := DataW.trod_int Try.underlying3 g3
      obtain rfl := (List.cons.inj e0).1
      obtain rfl := (List.cons.inj e2).1
      obtain rfl := (List.cons.inj e3).1
      have hwe : ∀ (j : Nat) (t : TypeId) (d : DataW H), [3, 22, 3, 3, 23][j]? = some t → [y0.1, y1.1, y2.1, y3.1, y4.1][j]? = some d → Lite Try.prog t d := by
        intro j t d ht hd q hq
        refine hw q ?_
        simp only [DataW.weights, Try.underlying25]
        exact DataW.weights_mem_each (j := j) ht hd q hq
      obtain ⟨l1, hk1, hl1⟩ := opens_ranges n [c1] y1 g1 (hwe 1 _ _ rfl rfl)
      obtain ⟨l4, hk4, hl4⟩ := opens_slice (wf := WfT) Try.underlying23 (by rw [cells_node]; rfl) bytes_node n (fun q hq => ih q (by omega)) [c4] y4 g4 (hwe 4 _ _ rfl rfl)
      obtain ⟨A1, d1, he1, hd1, hC1⟩ := hk1
      obtain ⟨A4, d4, he4, hd4, hC4⟩ := hk4
      obtain rfl := (List.cons.inj he1).1
      obtain rfl := (List.cons.inj he4).1
      exact ⟨⟨x0, l1, x2, x3, l4⟩, k25_mk w ⟨x0, l1, x2, x3, l4⟩ hd1 hC1 hd4 hC4, .mk _ (w64_of w0) hl1.1 hl1.2 (w64_of w2) (w64_of w3) hl4.1 hl4.2⟩
/-- An argument that is a tree. -/
theorem open_node {r : Reach} {b0 : Nat} {v : Value} {d : DataW H} {p : List MemPlace} (hv : Value.okWide Try.prog w r b0 25 v) (h : DataW.Trod enc Try.prog w base (fun _ => true) held 25 v d p) (hw : Lite Try.prog 25 d) :
    ∃ (x : S25) (A1 : Option Addr) (c1 : Nat) (A4 : Option Addr) (c4 : Nat), v = .agg #[.int .i64 x.f0, .slice A1 x.f1.length c1, .int .i64 x.f2, .int .i64 x.f3, .slice A4 x.f4.length c4] ∧ x.f1.length ≤ c1 ∧ Kd.C k52 w A1 x.f1.length x.f1 ∧ x.f4.length ≤ c4 ∧ Kd.C k25 w A4 x.f4.length x.f4 ∧ WfT x := by
  obtain ⟨cs, rfl, hs⟩ := okWide_struct Try.underlying25 hv
  obtain ⟨fuel, hf⟩ := h
  obtain ⟨x, hK, hwf⟩ := opens_node fuel _ _ hf hw
  obtain ⟨A1, c1, A4, c4, he, l1, g1, l4, g4⟩ := k25_open hK
  refine ⟨x, A1, c1, A4, c4, ?_, l1, g1, l4, g4, hwf⟩
  have he2 : cs.toList = [.int .i64 x.f0, .slice A1 x.f1.length c1, .int .i64 x.f2, .int .i64 x.f3, .slice A4 x.f4.length c4] := he
  rw [show cs = #[.int .i64 x.f0, .slice A1 x.f1.length c1, .int .i64 x.f2, .int .i64 x.f3, .slice A4 x.f4.length c4] from Array.toList_inj.1 (by simpa using he2)]
theorem lite_of {ts : List TypeId} {ds : List (DataW H)} {j : Nat} {t : TypeId} {d : DataW H} (hsz : (DataW.weightsEach Try.prog ts ds).all (· ≤ reachBytes) = true) (ht : ts[j]? = some t) (hd : ds[j]? = some d) : Lite Try.prog t d := fun q hq => by
  simpa using List.all_eq_true.1 hsz q (DataW.weights_mem_each ht hd q hq)
end
end Go.Proofs.Ytaphbechnjmlgaa.P
namespace Go.Proofs.Ytaphbechnjmlgaa.P
open Go.RowKit Go.Proofs.YtaphbechnjmlgaaW.PrintWords Go.Proofs.YtaphbechnjmlgaaW.PrintLast
theorem wf_of (x : TNode) : WfT x → WfN x := by
  induction x using node_ind with
  | h x ih =>
    intro hw
    obtain ⟨_, h0, l1, h1, h2, h3, l4, hk⟩ := hw
    exact .mk x h0 h1 (by omega) h2 h3 (by omega) fun y hy => ih y hy (hk y hy)
end Go.Proofs.Ytaphbechnjmlgaa.P
namespace Go.Proofs.Ytaphbechnjmlgaa.Pure
open Go.RowKit Go.Proofs.Ytaphbechnjmlgaa.P Go.Proofs.YtaphbechnjmlgaaW.PrintWords Go.Proofs.YtaphbechnjmlgaaW.PrintLast
set_option linter.unusedVariables false
set_option linter.unusedSimpArgs false

theorem shift_loop (x : TNode) (s : Nat) (hs : s ≤ 64) (b : List Int) (hb : ∀ j ∈ b, 0 ≤ j ∧ j ≤ 64) (hn : ∃ v, Ev (fun k => deriv_Null.f k x.f0 x.f1 x.f2 x.f3 x.f4 false false) v ∧ Ev (fun k => deriv_Null.f k x.f0 x.f1 x.f2 x.f3 x.f4 true true) v) (hl : b.length ≤ 65) (d : Nat) : ∀ i : Nat, i + d = b.length →
    Ev (fun k => ductuslaw18_DerivShifts.l0 k (s : Int) (b.map fun j => j + (s : Int)) b (i : Int) x.f0 x.f1 x.f2 x.f3 x.f4) true := by
  induction d with
  | zero =>
    intro i hi
    obtain ⟨v, e1, e2⟩ := hn
    refine ev_step2 e1 e2 fun k e e' => ?_
    simp only [ductuslaw18_DerivShifts.l0, List.length_map]
    rw [if_neg (by omega), e, Option.bind_some, e', Option.bind_some, beq_self_eq_true]
  | succ d ih =>
    intro i hi
    refine ev_step (ih (i + 1) (by omega)) fun k e => ?_
    have h1 : rd (b.map fun j => j + (s : Int)) (i : Int) = rd b (i : Int) + (s : Int) := by
      rw [rd_get _ i (by rw [List.length_map]; omega), rd_get b i (by omega), List.getElem_map]
    have h2 := hb (rd b (i : Int)) (by rw [rd_get b i (by omega)]; exact List.getElem_mem _)
    simp only [ductuslaw18_DerivShifts.l0]
    rw [if_pos (by rw [List.length_map]; omega), if_pos (by omega), if_pos (by omega), h1, wrap_id (x := rd b (i : Int) + (s : Int)) (by omega) (by omega), if_pos rfl, wrap_succ i (by omega)]
    exact e
theorem DerivShifts (x : TNode) (h : WfT x) (l : List Int) (hl : l.length * 8 ≤ 140737488351232 ∧ ∀ e ∈ l, (Lit.int .i64 e).wf = true) (a : Int) (ha : (Lit.int .u8 a).wf = true) : ∃ k, ductuslaw18_DerivShifts.f k x.f0 x.f1 x.f2 x.f3 x.f4 l a = some true := by
  have hw := wf_of x h
  have ha0 : 0 ≤ a ∧ a ≤ 255 := by
    have hmin : IntKind.u8.min = 0 := rfl
    have hmax : IntKind.u8.max = 255 := rfl
    simp only [Lit.wf, Bool.and_eq_true, decide_eq_true_eq] at ha
    omega
  obtain ⟨sm, e1, h1⟩ := small_ev x l hw
  have e1' : Ev (fun k => ductuslaw18_small.f k x.f0 x.f1 x.f2 x.f3 x.f4 l) sm := e1
  have jt : Ev (fun k => ductuslaw18_DerivShifts.j0 k l a true x.f0 x.f1 x.f2 x.f3 x.f4) true := ev_one fun k => by rw [ductuslaw18_DerivShifts.j0, if_pos rfl]
  suffices hE : Ev (fun k => ductuslaw18_DerivShifts.f k x.f0 x.f1 x.f2 x.f3 x.f4 l a) true by
    obtain ⟨K, hK⟩ := hE
    exact ⟨K, hK K (Nat.le_refl _)⟩
  have hS : Ev (fun k => ductusref16_Size.f k x.f0 x.f1 x.f2 x.f3 x.f4) (sizeT x) := size_ev x hw
  obtain ⟨an, e3, h3⟩ := anch_ev x hw
  have e3' : Ev (fun k => ductuslaw18_anchored.f k x.f0 x.f1 x.f2 x.f3 x.f4) an := e3
  have hf : ∀ k, ductuslaw18_DerivShifts.f k x.f0 x.f1 x.f2 x.f3 x.f4 l a = ((ductuslaw18_small.f k x.f0 x.f1 x.f2 x.f3 x.f4 l).bind fun t271 => (if t271 = true then (if (l.length : Int) > 20 then (ductuslaw18_DerivShifts.j0 k l a true x.f0 x.f1 x.f2 x.f3 x.f4) else ((ductusref16_Size.f k x.f0 x.f1 x.f2 x.f3 x.f4).bind fun t272 => (if t272 > 500 then (ductuslaw18_DerivShifts.j0 k l a true x.f0 x.f1 x.f2 x.f3 x.f4) else ((ductuslaw18_anchored.f k x.f0 x.f1 x.f2 x.f3 x.f4).bind fun t273 => (ductuslaw18_DerivShifts.j0 k l a t273 x.f0 x.f1 x.f2 x.f3 x.f4))))) else (ductuslaw18_DerivShifts.j0 k l a true x.f0 x.f1 x.f2 x.f3 x.f4))) := by
    intro k
    unfold ductuslaw18_DerivShifts.f ductuslaw18_alive.f
    rw [Option.bind_some, if_pos rfl]
  cases sm with
  | false => exact ev_same2 e1' jt fun k e e' => by rw [hf, e, Option.bind_some, if_neg (by decide)]; exact e'
  | true =>
    by_cases c1 : (l.length : Int) > 20
    · exact ev_same2 e1' jt fun k e e' => by rw [hf, e, Option.bind_some, if_pos rfl, if_pos c1]; exact e'
    by_cases c2 : sizeT x > 500
    · exact ev_same3 e1' jt hS fun k e e' e'' => by rw [hf, e, Option.bind_some, if_pos rfl, if_neg c1, e'', Option.bind_some, if_pos c2]; exact e'
    suffices hj : Ev (fun k => ductuslaw18_DerivShifts.j0 k l a an x.f0 x.f1 x.f2 x.f3 x.f4) true from
      ev_same2 (ev_and e1' hj) (ev_and hS e3') fun k e e' => by
        obtain ⟨q1, q2⟩ := ev_fst e
        obtain ⟨q3, q4⟩ := ev_fst e'
        rw [hf, q1, Option.bind_some, if_pos rfl, if_neg c1, q3, Option.bind_some, if_neg c2, q4, Option.bind_some]
        exact q2
    cases an with
    | true => exact jt
    | false =>
      obtain ⟨hl40, hg⟩ := h1 rfl
      have hp := h3 rfl
      obtain ⟨s, hs⟩ : ∃ s, a.toNat % (l.length + 1) = s := ⟨_, rfl⟩
      have hs2 : s ≤ l.length := by
        have := Nat.mod_lt a.toNat (show 0 < l.length + 1 by omega)
        omega
      have hk : Int.tmod (wrap64 a) (wrap64 ((l.length : Int) + 1)) = (s : Int) := by
        rw [wrap_id (x := a) (by omega) (by omega), wrap_succ l.length (by omega), show a = ((a.toNat : Nat) : Int) by omega, ← hs]
        exact (Int.ofNat_tmod _ _).symm
      have hdl : (l.drop s).length ≤ 64 := by rw [List.length_drop]; omega
      have hb : ∀ j ∈ endsM (l.drop s) x 0, 0 ≤ j ∧ j ≤ 64 := by
        intro j hj
        have := bnd_M _ x _ _ ((mem_endsM _ _ _ _ (by omega)).1 hj) (by omega) (by omega)
        omega
      have hlen : (endsM (l.drop s) x 0).length ≤ 65 := by
        have := (srt_len _ (upto 64) (endsM_srt (l.drop s) x 0) (upto_srt 64) (fun p hp => (mem_upto 64 p).2 (hb p hp))).1
        rw [upto_len] at this
        exact this
      have hn : ∃ v, Ev (fun k => deriv_Null.f k x.f0 x.f1 x.f2 x.f3 x.f4 false false) v ∧ Ev (fun k => deriv_Null.f k x.f0 x.f1 x.f2 x.f3 x.f4 true true) v := by
        obtain ⟨v, hv⟩ := null_ev false false x
        refine ⟨v, ev_same hv fun k e => ?_, ev_same hv fun k e => ?_⟩
        · cases x
          exact e
        · have := null_plain x hp k
          rw [e] at this
          cases x
          exact this
      refine ev_step3 (ends_ev l (by omega) x hg (s : Int) (by omega)) (ends_ev (l.drop s) hdl x hg 0 (by omega)) (shift_loop x s (by omega) (endsM (l.drop s) x 0) hb hn hlen _ 0 (Nat.zero_add _)) fun k q1 q2 q3 => ?_
      rw [ductuslaw18_DerivShifts.j0, if_neg (by decide), if_neg (by rw [wrap_succ l.length (by omega)]; omega), hk, q1, Option.bind_some, if_pos (by omega), if_pos (by omega), Int.toNat_natCast, q2, Option.bind_some, if_pos (by rw [ends_move l s hs2 x hp, List.length_map]), ends_move l s hs2 x hp]
      exact q3
end Go.Proofs.Ytaphbechnjmlgaa.Pure
namespace Go.Proofs.Ytaphbechnjmlgaa.P
open Go.Deep Go.ChangeShapes Go.WideShapes Go.Proofs.YtaphbechnjmlgaaW.PrintWords
set_option linter.unusedVariables false
set_option linter.unusedSimpArgs false

section
variable {H : Type} {enc : TypeId × Value → H} {w : World} {base : Nat} {held : Bool}
theorem bytes_int : Try.prog.bytesOf 3 = 8 := by kernel_rfl
theorem opens_list (m : Nat) : Opens enc Try.prog w base held 26 (Kd.slice 3 (Kd.int .i64)) (fun l => l.length * 8 ≤ 140737488351232 ∧ ∀ e ∈ l, (Lit.int .i64 e).wf = true) m :=
  opens_slice Try.underlying26 (by rw [cells_int]; rfl) bytes_int m (fun n _ => opens_int Try.underlying3 n)
/-- An argument that is a list of whole numbers. -/
theorem open_list {r : Reach} {b0 : Nat} {v : Value} {d : DataW H} {p : List MemPlace} (hv : Value.okWide Try.prog w r b0 26 v) (h : DataW.Trod enc Try.prog w base (fun _ => true) held 26 v d p) (hw : Lite Try.prog 26 d) :
    ∃ (A : Option Addr) (c : Nat) (l : List Int), v = .slice A l.length c ∧ l.length ≤ c ∧ Kd.C (Kd.int .i64) w A l.length l ∧ (l.length * 8 ≤ 140737488351232 ∧ ∀ e ∈ l, (Lit.int .i64 e).wf = true) := by
  obtain ⟨a, len, cap, rfl⟩ := okWide_slice Try.underlying26 hv
  obtain ⟨fuel, hf⟩ := h
  obtain ⟨l, hk, hwf⟩ := opens_list fuel _ _ hf hw
  obtain ⟨A1, d1, he1, hd1, hC1⟩ := hk
  obtain rfl | he := (show (.slice a len cap : Value) = .slice A1 l.length d1 from (List.cons.inj he1).1)
  exact ⟨_, _, l, rfl, hd1, hC1, hwf⟩
end
end Go.Proofs.Ytaphbechnjmlgaa.P
