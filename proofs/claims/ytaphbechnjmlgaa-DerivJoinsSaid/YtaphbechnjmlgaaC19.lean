/- Texts of this claim put together by a program of its own (PMore, PShift, PKinds, POpenN, PWf, PureDerivJoins, POpenL), what the law does not use left out: each part's statements bear their own conditions. -/
import Derived.Test.YtaphbechnjmlgaaC18
import Derived.Test.YtaphbechnjmlgaaC11
import Derived.Test.YtaphbechnjmlgaaC17
import Derived.Test.YtaphbechnjmlgaaC16
import Derived.OpenShut
import Derived.Deep.Slices
import Derived.ChangeSlices
import Derived.SizedLaws
namespace Go.Proofs.Ytaphbechnjmlgaa.P
open Go.RowKit Go.Proofs.YtaphbechnjmlgaaW.PrintWords Go.Proofs.YtaphbechnjmlgaaW.PrintLast
set_option linter.unusedVariables false
set_option linter.unusedSimpArgs false

theorem times_ok {n : Nat} {R : Int → Int → Prop} {f : List Int → Option (List Int)} (hf : Lifts n R f) : ∀ m, Lifts n (Times R m) (timesRS f m)
  | 0 => fun xs hx => ⟨xs, rfl, hx, fun j => by simp [Times]⟩
  | m + 1 => fun xs hx => by
    obtain ⟨r, e1, h1, h2⟩ := hf xs hx
    obtain ⟨s, e2, h3, h4⟩ := times_ok hf m r h1
    refine ⟨s, by rw [timesRS, e1, Option.bind_some, e2], h3, fun j => ?_⟩
    rw [h4]
    constructor
    · rintro ⟨t, ht, hm⟩
      obtain ⟨i, hi, hr⟩ := (h2 t).1 ht
      exact ⟨i, hi, t, hr, hm⟩
    · rintro ⟨i, hi, t, hr, hm⟩
      exact ⟨t, (h2 t).2 ⟨i, hi, hr⟩, hm⟩
theorem img_right {R : Int → Int → Prop} {at_ : List Int} {m : Nat} {j : Int} : Img (Times R (m + 1)) at_ j ↔ ∃ t, Img (Times R m) at_ t ∧ R t j := by
  constructor
  · rintro ⟨i, hi, h⟩
    obtain ⟨t, h1, h2⟩ := (times_right R m i j).1 h
    exact ⟨t, ⟨i, hi, h1⟩, h2⟩
  · rintro ⟨t, ⟨i, hi, h1⟩, h2⟩
    exact ⟨i, hi, (times_right R m i j).2 ⟨t, h1, h2⟩⟩
theorem more_ok {n k : Nat} (hn : n ≤ 64) (hk : 100 ≤ k) {R : Int → Int → Prop} {f : List Int → Option (List Int)} (hf : Lifts n R f) (at_ : List Int) (lo : Nat) (hi : Int) : ∀ (fuel d m : Nat) (last all : List Int),
    d < fuel → lo ≤ m → m + d ≤ 1000 → (hi < 0 ∨ (m : Int) ≤ hi) → SetOK n last → SetOK n all → (∀ j, j ∈ last ↔ Img (Times R m) at_ j) → (∀ j, j ∈ all ↔ ∃ m' : Nat, lo ≤ m' ∧ m' ≤ m ∧ Img (Times R m') at_ j) →
    (hi < 0 → n + 1 ≤ all.length + d) → (0 ≤ hi → hi ≤ (m : Int) + (d : Int)) → ∃ r, moreS k f hi fuel (m : Int) last all = some r ∧ SetOK n r ∧ ∀ j, j ∈ r ↔ Img (Often (lo : Int) hi R) at_ j
  | 0, d, m, last, all, h, _, _, _, _, _, _, _, _, _ => absurd h (by omega)
  | fuel + 1, d, m, last, all, hd, hlo, hmd, hm, hl, ha, il, ia, d1, d2 => by
    rw [moreS]
    by_cases c : hi < 0 ∨ (m : Int) < hi
    · rw [if_pos c]
      obtain ⟨l2, e1, h1, h2⟩ := hf last hl
      obtain ⟨a2, e2, h3, h4⟩ := withs_ok hn hk l2 ha h1.rng
      have il2 : ∀ j, j ∈ l2 ↔ Img (Times R (m + 1)) at_ j := by
        intro j
        rw [h2, img_right]
        exact ⟨fun ⟨t, ht, hr⟩ => ⟨t, (il t).1 ht, hr⟩, fun ⟨t, ht, hr⟩ => ⟨t, (il t).2 ht, hr⟩⟩
      have ia2 : ∀ j, j ∈ a2 ↔ ∃ m' : Nat, lo ≤ m' ∧ m' ≤ m + 1 ∧ Img (Times R m') at_ j := by
        intro j
        rw [h4, il2, ia]
        constructor
        · rintro (h | ⟨m', q1, q2, q3⟩)
          · exact ⟨m + 1, by omega, by omega, h⟩
          · exact ⟨m', q1, by omega, q3⟩
        · rintro ⟨m', q1, q2, q3⟩
          by_cases cm : m' = m + 1
          · subst cm
            exact .inl q3
          · exact .inr ⟨m', q1, by omega, q3⟩
      have hsub := srt_len all a2 ha.srt h3.srt (fun p hp => (h4 p).2 (.inr hp))
      rw [e1, Option.bind_some, e2, Option.bind_some]
      by_cases st : (a2.length = all.length ∧ hi < 0) ∨ l2.length = 0
      · rw [if_pos st]
        refine ⟨a2, rfl, h3, fun j => ?_⟩
        rw [ia2]
        constructor
        · rintro ⟨m', q1, q2, i, q3, q4⟩
          exact ⟨i, q3, m', by omega, by omega, q4⟩
        · rintro ⟨i, q3, m', q1, q2, q4⟩
          rcases st with ⟨st, _⟩ | st
          · have heq := hsub.2 st.symm
            have cl : ∀ c : Nat, ∀ j, Img (Times R (lo + c)) at_ j → j ∈ all := by
              intro c
              induction c with
              | zero =>
                intro j h
                exact (ia j).2 ⟨lo, by omega, by omega, h⟩
              | succ c ih =>
                intro j h
                obtain ⟨t, q5, q6⟩ := img_right.1 h
                obtain ⟨m'', q7, q8, q9⟩ := (ia t).1 (ih t q5)
                rw [heq]
                exact (ia2 j).2 ⟨m'' + 1, by omega, by omega, img_right.2 ⟨t, q9, q6⟩⟩
            have := cl (m' - lo) j (by rw [show lo + (m' - lo) = m' by omega]; exact ⟨i, q3, q4⟩)
            rw [heq] at this
            exact (ia2 j).1 this
          · by_cases cm : m' ≤ m + 1
            · exact ⟨m', by omega, cm, i, q3, q4⟩
            · rw [show m' = (m + 1) + (m' - (m + 1)) by omega] at q4
              obtain ⟨t, q5, q6⟩ := (times_add R _ _ i j).1 q4
              have := (il2 t).2 ⟨i, q3, q5⟩
              rw [List.length_eq_zero_iff.1 st] at this
              simp at this
      · rw [if_neg st, wrap_succ m (by omega)]
        have hl3 := h3.len
        refine more_ok hn hk hf at_ lo hi fuel (d - 1) (m + 1) l2 a2 ?_ (by omega) ?_ (by omega) h1 h3 il2 ia2 ?_ ?_
        · rcases c with c | c
          · have := d1 c
            have : a2.length ≠ all.length := fun h => st (.inl ⟨h, c⟩)
            omega
          · have := d2 (by omega)
            omega
        · rcases c with c | c
          · have := d1 c
            have : a2.length ≠ all.length := fun h => st (.inl ⟨h, c⟩)
            omega
          · have := d2 (by omega)
            omega
        · intro c
          have := d1 c
          have : a2.length ≠ all.length := fun h => st (.inl ⟨h, c⟩)
          omega
        · intro c2
          have := d2 c2
          omega
    · rw [if_neg c]
      refine ⟨all, rfl, ha, fun j => ?_⟩
      rw [ia]
      constructor
      · rintro ⟨m', q1, q2, i, q3, q4⟩
        exact ⟨i, q3, m', by omega, by omega, q4⟩
      · rintro ⟨i, q3, m', q1, q2, q4⟩
        exact ⟨m', by omega, by omega, i, q3, q4⟩
theorem again_ok {n k : Nat} (hn : n ≤ 64) (hk : 200 ≤ k) {R : Int → Int → Prop} {f : List Int → Option (List Int)} (hf : Lifts n R f) (lo hi : Int) (h0 : 0 ≤ lo ∧ lo ≤ 20) (h1 : hi ≤ 20) (h2 : hi < 0 ∨ lo ≤ hi) : Lifts n (Often lo hi R) (againS k f lo hi) := by
  intro xs hx
  obtain ⟨r, e1, h3, h4⟩ := times_ok hf lo.toNat xs hx
  obtain ⟨s, e2, h5, h6⟩ := more_ok (k := k) hn (by omega) hf xs lo.toNat hi k 100 lo.toNat r r (by omega) (by omega) (by omega) (by omega) h3 h3 h4 (fun j => by
    rw [h4]
    constructor
    · intro h
      exact ⟨_, Nat.le_refl _, Nat.le_refl _, h⟩
    · rintro ⟨m', q1, q2, q3⟩
      rw [show lo.toNat = m' by omega]
      exact q3) (by omega) (by omega)
  rw [show ((lo.toNat : Nat) : Int) = lo by omega] at e2 h6
  exact ⟨s, by rw [againS, if_pos (by omega), e1, Option.bind_some, e2], h5, h6⟩
/-- Bounds of repeats that are not great. -/
inductive GoodN : TNode → Prop
  | mk (x : TNode) (h : x.f0 = 5 → 0 ≤ x.f2 ∧ x.f2 ≤ 20 ∧ x.f3 ≤ 20) (hk : ∀ y ∈ x.f4, GoodN y) : GoodN x
mutual
/-- How deep a tree is. -/
def dep : TNode → Nat
  | ⟨_, _, _, _, f4⟩ => deps f4 + 1
def deps : List TNode → Nat
  | [] => 0
  | y :: ys => max (dep y) (deps ys)
end
theorem dep_mem : ∀ (ys : List TNode) (y : TNode), y ∈ ys → dep y ≤ deps ys
  | z :: ys, y, h => by
    rw [deps]
    rcases List.mem_cons.1 h with rfl | h
    · omega
    · have := dep_mem ys y h
      omega
theorem dep_eq (x : TNode) : dep x = deps x.f4 + 1 := by
  cases x
  rw [dep]
theorem dep_kid {x y : TNode} (h : y ∈ x.f4) : dep y < dep x := by
  have := dep_mem _ y h
  rw [dep_eq x]
  omega
theorem reach_ok {k : Nat} (hk : 200 ≤ k) (l : List Int) (hl : l.length ≤ 64) (x : TNode) : GoodN x → ∀ m, dep x ≤ m → Lifts l.length (M l x) (reachS k l m x) := by
  induction x using node_ind with
  | h x ih =>
    rintro ⟨_, hg, hgk⟩ m hm
    obtain ⟨m, rfl⟩ : ∃ m', m = m' + 1 := ⟨m - 1, by rw [dep_eq] at hm; omega⟩
    have ihk : ∀ y ∈ x.f4, Lifts l.length (M l y) (reachS k l m y) := fun y hy => ih y hy (hgk y hy) m (by have := dep_kid hy; omega)
    intro xs hx
    rw [reachS]
    by_cases c1 : x.f0 = 1
    · rw [if_pos c1]
      refine ⟨xs, rfl, hx, fun j => ?_⟩
      simp [Img, M_1 l x _ j c1]
    rw [if_neg c1]
    by_cases c2 : x.f0 = 2
    · rw [if_pos c2]
      obtain ⟨r, e1, h1, h2⟩ := set_ok (by omega : 100 ≤ k) x.f1 l hl xs [] (setOK_nil _) hx.rng
      refine ⟨r, e1, h1, fun j => ?_⟩
      rw [h2]
      simp only [List.not_mem_nil, or_false, Img, M_2 l x _ j c2]
    rw [if_neg c2]
    by_cases c6 : x.f0 = 6
    · rw [if_pos c6]
      obtain ⟨r, e1, h1, h2⟩ := edge_ok hl (by omega : 100 ≤ k) 0 (by omega) xs hx
      refine ⟨r, e1, h1, fun j => ?_⟩
      rw [h2]
      simp only [Img, M_6 l x _ j c6]
    rw [if_neg c6]
    by_cases c7 : x.f0 = 7
    · rw [if_pos c7]
      obtain ⟨r, e1, h1, h2⟩ := edge_ok hl (by omega : 100 ≤ k) (l.length : Int) (by omega) xs hx
      refine ⟨r, e1, h1, fun j => ?_⟩
      rw [h2]
      simp only [Img, M_7 l x _ j c7]
    rw [if_neg c7]
    by_cases c3 : x.f0 = 3
    · rw [if_pos c3]
      obtain ⟨r, e1, h1, h2⟩ := join_ok l (reachS k l m) x.f4 ihk xs hx
      refine ⟨r, e1, h1, fun j => ?_⟩
      rw [h2]
      simp only [Img, M_3 l x _ j c3]
    rw [if_neg c3]
    by_cases c4 : x.f0 = 4
    · rw [if_pos c4]
      obtain ⟨r, e1, h1, h2⟩ := or_ok hl (by omega : 100 ≤ k) l xs (fun y => reachS k l m y xs) x.f4 [] (fun y hy => ihk y hy xs hx) (setOK_nil _)
      refine ⟨r, e1, h1, fun j => ?_⟩
      rw [h2]
      simp only [List.not_mem_nil, or_false, Img, M_4 l x _ j c4]
    rw [if_neg c4]
    by_cases c5 : x.f0 = 5
    · rw [if_pos c5]
      by_cases cl : x.f4.length = 1 ∧ (x.f3 < 0 ∨ x.f3 ≥ x.f2)
      · rw [if_pos cl]
        obtain ⟨y, hy⟩ : ∃ y, x.f4 = [y] := List.length_eq_one_iff.1 cl.1
        have hyl := ihk y (by rw [hy]; simp)
        rw [show x.f4.getD 0 z25 = y by rw [hy]; rfl]
        obtain ⟨r, e1, h1, h2⟩ := again_ok hl hk hyl x.f2 x.f3 ⟨(hg c5).1, (hg c5).2.1⟩ (hg c5).2.2 (by omega) xs hx
        refine ⟨r, e1, h1, fun j => ?_⟩
        rw [h2]
        have : x.f3 < 0 ∨ x.f2 ≤ x.f3 := by omega
        simp only [Img, M_5' l x _ j c5 y hy, this, true_and]
      · rw [if_neg cl]
        refine ⟨[], rfl, setOK_nil _, fun j => ?_⟩
        simp only [List.not_mem_nil, false_iff]
        rintro ⟨i, _, h⟩
        rw [M_5 l x i j c5] at h
        exact cl ⟨h.1, by omega⟩
    · rw [if_neg c5]
      refine ⟨[], rfl, setOK_nil _, fun j => ?_⟩
      simp only [List.not_mem_nil, false_iff]
      rintro ⟨i, _, h⟩
      exact M_0 l x i j (by omega) h
theorem ends_ok {k : Nat} (l : List Int) (hl : l.length ≤ 64) (x : TNode) (hg : GoodN x) (hk : 200 ≤ k) (hd : dep x ≤ k) (a : Int) (ha : 0 ≤ a ∧ a ≤ (l.length : Int)) : endsS k x l a = some (endsM l x a) := by
  unfold endsS
  rw [if_neg (by omega)]
  obtain ⟨r, e, h1, h2⟩ := reach_ok hk l hl x hg k hd [a] (setOK_one ha)
  rw [e]
  congr 1
  refine srt_ext h1.srt (endsM_srt l x a) fun j => ?_
  rw [h2, mem_endsM l x a j ha]
  simp [Img]
end Go.Proofs.Ytaphbechnjmlgaa.P
namespace Go.Proofs.Ytaphbechnjmlgaa.P
open Go.RowKit Go.Proofs.YtaphbechnjmlgaaW.PrintWords Go.Proofs.YtaphbechnjmlgaaW.PrintLast
set_option linter.unusedVariables false
set_option linter.unusedSimpArgs false

theorem allP_ev : ∀ l : List TNode, (∀ y ∈ l, ∃ b, Ev (fun k => parsedS k y) b ∧ (b = true → GoodN y)) → ∃ b, Ev (fun k => allP (parsedS k) l) b ∧ (b = true → ∀ y ∈ l, GoodN y)
  | [], _ => ⟨true, ev_now fun k => rfl, fun _ y hy => by simp at hy⟩
  | y :: l, h => by
    obtain ⟨b, e1, h1⟩ := h y (by simp)
    obtain ⟨c, e2, h2⟩ := allP_ev l (fun z hz => h z (by simp [hz]))
    cases b with
    | false => exact ⟨false, ev_same e1 fun k e => by rw [allP, e, Option.bind_some, if_neg (by decide)], fun h => by cases h⟩
    | true =>
      refine ⟨c, ev_same2 e1 e2 fun k e e' => by rw [allP, e, Option.bind_some, if_pos rfl]; exact e', fun hc z hz => ?_⟩
      rcases List.mem_cons.1 hz with rfl | hz
      · exact h1 rfl
      · exact h2 hc z hz
theorem parsed_ev (x : TNode) : ∃ b, Ev (fun k => parsedS k x) b ∧ (b = true → GoodN x) := by
  induction x using node_ind with
  | h x ih =>
    by_cases c : badP x = true
    · exact ⟨false, ev_one fun k => by rw [parsedS, if_pos c], fun h => by cases h⟩
    · obtain ⟨b, e, h⟩ := allP_ev x.f4 ih
      refine ⟨b, ev_step e fun k e => by rw [parsedS, if_neg c]; exact e, fun hb => ⟨x, fun h5 => ?_, h hb⟩⟩
      simp only [badP, Bool.not_eq_true, Bool.or_eq_false_iff, Bool.and_eq_false_iff, decide_eq_false_iff_not] at c
      omega
abbrev smallE (k : Nat) (x : TNode) (l : List Int) : Option Bool := ductuslaw18_small.f k x.f0 x.f1 x.f2 x.f3 x.f4 l
theorem small_ev (x : TNode) (l : List Int) (hw : WfN x) : ∃ b, Ev (fun k => smallE k x l) b ∧ (b = true → l.length ≤ 40 ∧ GoodN x) := by
  obtain ⟨W, e1, _⟩ := weight_ev x hw 0 (by omega)
  obtain ⟨b, e2, h2⟩ := parsed_ev x
  by_cases c1 : W ≤ 300
  · by_cases c2 : (l.length : Int) ≤ 40
    · refine ⟨b, ev_same2 e1 e2 fun k e e' => ?_, fun hb => ⟨by omega, h2 hb⟩⟩
      have e'' : ductusref18_Parsed.f k x.f0 x.f1 x.f2 x.f3 x.f4 = some b := by cases x; exact e'
      unfold smallE ductuslaw18_small.f
      rw [show ductusref16_Weight.f k x.f0 x.f1 x.f2 x.f3 x.f4 0 = some W from e, Option.bind_some, if_pos c1, if_pos c2, e'', Option.bind_some]
    · refine ⟨false, ev_same e1 fun k e => ?_, fun h => by cases h⟩
      unfold smallE ductuslaw18_small.f
      rw [show ductusref16_Weight.f k x.f0 x.f1 x.f2 x.f3 x.f4 0 = some W from e, Option.bind_some, if_pos c1, if_neg c2]
  · refine ⟨false, ev_same e1 fun k e => ?_, fun h => by cases h⟩
    unfold smallE ductuslaw18_small.f
    rw [show ductusref16_Weight.f k x.f0 x.f1 x.f2 x.f3 x.f4 0 = some W from e, Option.bind_some, if_neg c1]
section
variable (l : List Int) (s : Nat) (hs : s ≤ l.length)
abbrev Moved (s : Nat) (R S : Int → Int → Prop) (n : Int) : Prop := ∀ i j, 0 ≤ i → i ≤ n → (R (i + (s : Int)) (j + (s : Int)) ↔ S i j)
include hs in
end
end Go.Proofs.Ytaphbechnjmlgaa.P
namespace Go.Proofs.Ytaphbechnjmlgaa.Pure
open Go.RowKit Go.Proofs.Ytaphbechnjmlgaa.P Go.Proofs.YtaphbechnjmlgaaW.PrintWords Go.Proofs.YtaphbechnjmlgaaW.PrintLast
set_option linter.unusedVariables false
set_option linter.unusedSimpArgs false

theorem M_or (l : List Int) (x y : TNode) (i j : Int) : M l (orX x y) i j ↔ M l x i j ∨ M l y i j := by
  rw [M_4 l (orX x y) i j rfl]
  show MO l [x, y] i j ↔ _
  simp only [MO, or_false]
theorem M_join (l : List Int) (x y : TNode) (i j : Int) : M l (joinX x y) i j ↔ ∃ t, M l x i t ∧ M l y t j := by
  rw [M_3 l (joinX x y) i j rfl]
  show MJ l [x, y] i j ↔ _
  rw [MJ]
  simp only [MJ_one]
theorem good_two (kd lo hi : Int) (x y : TNode) (hx : GoodN x) (hy : GoodN y) (h : kd ≠ 5) : GoodN ⟨kd, [], lo, hi, [x, y]⟩ :=
  .mk _ (fun e => absurd e h) fun z hz => by
    rcases List.mem_cons.1 hz with rfl | hz
    · exact hx
    · rw [List.mem_singleton.1 hz]
      exact hy
theorem dep_two (kd lo hi : Int) (x y : TNode) : dep ⟨kd, [], lo, hi, [x, y]⟩ = max (dep x) (dep y) + 1 := by
  rw [dep, deps, deps, deps]
  omega
end Go.Proofs.Ytaphbechnjmlgaa.Pure
namespace Go.Proofs.Ytaphbechnjmlgaa.P
open Go.Deep Go.ChangeShapes Go.WideShapes Go.Proofs.YtaphbechnjmlgaaW.PrintWords
set_option linter.unusedVariables false
set_option linter.unusedSimpArgs false

/-- What an argument's data weigh is within the reach. -/
def Lite {H : Type} (P : Program) (t : TypeId) (d : DataW H) : Prop := ∀ q ∈ d.weights P t, q ≤ reachBytes
/-- What reads by a type, within m steps, is of a kind. -/
def Opens {α H : Type} (enc : TypeId × Value → H) (P : Program) (w : World) (base : Nat) (held : Bool) (t : TypeId) (d : Kd α) (wf : α → Prop) (m : Nat) : Prop :=
  ∀ (cs : List Value) (y : DataW H × List MemPlace), DataW.trod enc P w base (fun _ => true) held m t cs = some y → Lite P t y.1 → ∃ v, d.K w v cs ∧ wf v
section
variable {α H : Type} {enc : TypeId × Value → H} {P : Program} {w : World} {base : Nat} {held : Bool}
theorem opens_int {t : TypeId} {k : IntKind} (ht : P.underlying t = some (.int k)) (m : Nat) : Opens enc P w base held t (Kd.int k) (fun x => (Lit.int k x).wf = true) m := by
  intro cs y h _
  obtain ⟨n, rfl, _, hw⟩ := DataW.trod_int ht h
  exact ⟨n, rfl, hw⟩
theorem weightsAll_mem {e : TypeId} {n : Nat} {d : DataW H} : ∀ {l : List (DataW H)}, d ∈ l → n ∈ d.weights P e → n ∈ DataW.weightsAll P e l
  | [], h, _ => by simp at h
  | x :: l, h, hn => by
    simp only [DataW.weightsAll, List.mem_append]
    rcases List.mem_cons.1 h with rfl | h
    · exact .inl hn
    · exact .inr (weightsAll_mem h hn)
theorem opens_slice [Inhabited α] {t e : TypeId} {d : Kd α} {wf : α → Prop} {B : Nat} (ht : P.underlying t = some (.slice e)) (hc : P.cellsOf e = d.sz) (hB : P.bytesOf e = B) (m : Nat) (ih : ∀ n, m = n + 1 → Opens enc P w base held e d wf n) :
    Opens enc P w base held t (Kd.slice e d) (fun l => l.length * B ≤ 140737488351232 ∧ ∀ x ∈ l, wf x) m := by
  intro cs y h hw
  rcases DataW.trod_slice ht h with ⟨rfl, _⟩ | ⟨a, len, cap, elems, rest, n, hn, rfl, rfl, hb, hl, hm, hlen, hel, _, _⟩
  · exact ⟨[], ⟨none, 0, rfl, Nat.le_refl _, ⟨rfl, by simp, fun h => absurd h (Nat.lt_irrefl 0)⟩⟩, by simp, by simp⟩
  · have hO := ih n hn
    have ex : ∀ i, i < len → ∃ v : α, (∃ c : List Value, c.length = d.sz ∧ d.K w v c ∧ ∀ j u, c[j]? = some u → w.cell? (a.add (i * d.sz + j)) = some u) ∧ wf v := by
      intro i hi
      have h1 := hel i hi
      rw [hc] at h1
      have h2 : elems[i]? = some (elems[i]'(by omega)) := List.getElem?_eq_getElem (by omega)
      rw [h2] at h1
      obtain ⟨c, hc1, hc2⟩ := Option.bind_eq_some_iff.mp h1
      obtain ⟨_, hcl, hcell⟩ := World.cells?_some hc1
      obtain ⟨v, hv, hwf⟩ := hO c _ hc2 (fun q hq => hw q (by
        simp only [DataW.weights, ht, List.mem_cons, List.mem_append]
        exact .inr (.inl (weightsAll_mem (List.mem_map_of_mem (List.getElem_mem (by omega))) hq))))
      refine ⟨v, ⟨c, hcl, hv, fun j u hu => ?_⟩, hwf⟩
      have hj : j < d.sz := by rw [← hcl]; exact (List.getElem?_eq_some_iff.1 hu).1
      rw [← Go.Deep.add_add, hcell j hj]
      exact hu
    obtain ⟨q, hq⟩ := choose_lt ex
    have hlen2 : ((List.range len).map q).length = len := by simp
    refine ⟨(List.range len).map q, ⟨some a, cap, by rw [hlen2], by rw [hlen2]; exact hl, ?_⟩, ?_, ?_⟩
    · rw [hlen2]
      refine ⟨hlen2, by have := Nat.le_trans hl hm; simp only [maxLen] at this; omega, fun _ => ⟨a, rfl, fun j p hp => ?_⟩⟩
      have hj : j < len := by
        have := (List.getElem?_eq_some_iff.1 hp).1
        rwa [hlen2] at this
      have hpq : p = q j := by
        rw [List.getElem?_map, List.getElem?_range hj] at hp
        exact (Option.some.inj hp).symm
      subst hpq
      obtain ⟨⟨c, h1, h2, h3⟩, _⟩ := hq j hj
      exact ⟨c, h1, h2, h3⟩
    · rw [hlen2]
      have := hw ((elems.length + rest.length) * B) (by simp only [DataW.weights, ht, List.length_map, hB]; exact List.mem_cons_self)
      have h2 : len * B ≤ (elems.length + rest.length) * B := Nat.mul_le_mul_right _ (by omega)
      exact Nat.le_trans h2 this
    · intro x hx
      obtain ⟨j, hj, rfl⟩ := List.mem_map.1 hx
      exact (hq j (List.mem_range.1 hj)).2
theorem okWide_struct {r : Reach} {b0 : Nat} {t : TypeId} {fs : Array Field} {v : Value} (ht : P.underlying t = some (.struct fs)) (h : Value.okWide P w r b0 t v) : ∃ cs, v = .agg cs ∧ cs.size = P.cellsOf t := by
  simp only [Value.okWide, ht] at h
  obtain ⟨cs, h1, h2, _⟩ := h
  exact ⟨cs, h1, h2⟩
end
section
variable {H : Type} {enc : TypeId × Value → H} {w : World} {base : Nat} {held : Bool}
def w64 (x : Int) : Prop := -9223372036854775808 ≤ x ∧ x ≤ 9223372036854775807
theorem w64_of {x : Int} (h : (Lit.int .i64 x).wf = true) : w64 x := by
  have hmin : IntKind.i64.min = -9223372036854775808 := rfl
  have hmax : IntKind.i64.max = 9223372036854775807 := rfl
  simp only [Lit.wf, Bool.and_eq_true, decide_eq_true_eq] at h
  unfold w64
  omega
theorem cells_int : Try.prog.cellsOf 3 = 1 := by kernel_rfl
theorem cells_ranges : Try.prog.cellsOf 22 = 1 := by kernel_rfl
theorem cells_nodes : Try.prog.cellsOf 23 = 1 := by kernel_rfl
theorem cells_range : Try.prog.cellsOf 52 = 2 := by kernel_rfl
theorem cells_node : Try.prog.cellsOf 25 = 5 := by kernel_rfl
theorem bytes_range : Try.prog.bytesOf 52 = 16 := by kernel_rfl
theorem bytes_node : Try.prog.bytesOf 25 = 72 := by kernel_rfl
instance : Inhabited S52 := ⟨z52⟩
instance : Inhabited S25 := ⟨z25⟩
theorem opens_range (m : Nat) : Opens enc Try.prog w base held 52 k52 (fun r => w64 r.f0 ∧ w64 r.f1) m := by
  intro cs y h _
  obtain ⟨xs, n, rfl, _, hl, hxl, hf⟩ := DataW.trod_struct Try.underlying52 h
  rw [cells_range] at hl
  match xs, hxl, cs, hl with
  | [y0, y1], _, [c0, c1], _ =>
    have g0 := hf 0 _ rfl
    have g1 := hf 1 _ rfl
    simp [cells_int] at g0 g1
    obtain ⟨x0, e0, _, w0⟩ := DataW.trod_int Try.underlying3 g0
    obtain ⟨x1, e1, _, w1⟩ := DataW.trod_int Try.underlying3 g1
    obtain rfl := (List.cons.inj e0).1
    obtain rfl := (List.cons.inj e1).1
    exact ⟨⟨x0, x1⟩, k52_mk w ⟨x0, x1⟩, w64_of w0, w64_of w1⟩
/-- A tree that was read. -/
inductive WfT : S25 → Prop
  | mk (x : S25) (h0 : w64 x.f0) (l1 : x.f1.length * 16 ≤ 140737488351232) (h1 : ∀ r ∈ x.f1, w64 r.f0 ∧ w64 r.f1) (h2 : w64 x.f2) (h3 : w64 x.f3) (l4 : x.f4.length * 72 ≤ 140737488351232) (hk : ∀ y ∈ x.f4, WfT y) : WfT x
theorem opens_ranges (m : Nat) : Opens enc Try.prog w base held 22 (Kd.slice 52 k52) (fun l => l.length * 16 ≤ 140737488351232 ∧ ∀ r ∈ l, w64 r.f0 ∧ w64 r.f1) m :=
  opens_slice Try.underlying22 (by rw [cells_range]; rfl) bytes_range m (fun n _ => opens_range n)
theorem opens_node : ∀ m : Nat, Opens enc Try.prog w base held 25 k25 WfT m := by
  intro m
  induction m using Nat.strongRecOn with
  | ind m ih =>
    intro cs y h hw
    obtain ⟨xs, n, rfl, rfl, hl, hxl, hf⟩ := DataW.trod_struct Try.underlying25 h
    rw [cells_node] at hl
    match xs, hxl, cs, hl with
    | [y0, y1, y2, y3, y4], _, [c0, c1, c2, c3, c4], _ =>
      have g0 := hf 0 _ rfl
      have g1 := hf 1 _ rfl
      have g2 := hf 2 _ rfl
      have g3 := hf 3 _ rfl
      have g4 := hf 4 _ rfl
      simp [cells_int, cells_ranges, cells_nodes] at g0 g1 g2 g3 g4
      obtain ⟨x0, e0, _, w0⟩ := DataW.trod_int Try.underlying3 g0
      obtain ⟨x2, e2, _, w2⟩ := DataW.trod_int Try.underlying3 g2
      obtain ⟨x3, e3, _, w3⟩ := DataW.trod_int Try.underlying3 g3
      obtain rfl := (List.cons.inj e0).1
      obtain rfl := (List.cons.inj e2).1
      obtain rfl := (List.cons.inj e3).1
      have hwe : ∀ (j : Nat) (t : TypeId) (d : DataW H), [3, 22, 3, 3, 23][j]? = some t → [y0.1, y1.1, y2.1, y3.1, y4.1][j]? = some d → Lite Try.prog t d := by
        intro j t d ht hd q hq
        refine hw q ?_
        simp only [DataW.weights, Try.underlying25]
        exact DataW.weights_mem_each (j := j) ht hd q hq
      obtain ⟨l1, hk1, hl1⟩ := opens_ranges n [c1] y1 g1 (hwe 1 _ _ rfl rfl)
      obtain ⟨l4, hk4, hl4⟩ := opens_slice (wf := WfT) Try.underlying23 (by rw [cells_node]; rfl) bytes_node n (fun q hq => ih q (by omega)) [c4] y4 g4 (hwe 4 _ _ rfl rfl)
      obtain ⟨A1, d1, he1, hd1, hC1⟩ := hk1
      obtain ⟨A4, d4, he4, hd4, hC4⟩ := hk4
      obtain rfl := (List.cons.inj he1).1
      obtain rfl := (List.cons.inj he4).1
      exact ⟨⟨x0, l1, x2, x3, l4⟩, k25_mk w ⟨x0, l1, x2, x3, l4⟩ hd1 hC1 hd4 hC4, .mk _ (w64_of w0) hl1.1 hl1.2 (w64_of w2) (w64_of w3) hl4.1 hl4.2⟩
/-- An argument that is a tree. -/
theorem open_node {r : Reach} {b0 : Nat} {v : Value} {d : DataW H} {p : List MemPlace} (hv : Value.okWide Try.prog w r b0 25 v) (h : DataW.Trod enc Try.prog w base (fun _ => true) held 25 v d p) (hw : Lite Try.prog 25 d) :
    ∃ (x : S25) (A1 : Option Addr) (c1 : Nat) (A4 : Option Addr) (c4 : Nat), v = .agg #[.int .i64 x.f0, .slice A1 x.f1.length c1, .int .i64 x.f2, .int .i64 x.f3, .slice A4 x.f4.length c4] ∧ x.f1.length ≤ c1 ∧ Kd.C k52 w A1 x.f1.length x.f1 ∧ x.f4.length ≤ c4 ∧ Kd.C k25 w A4 x.f4.length x.f4 ∧ WfT x := by
  obtain ⟨cs, rfl, hs⟩ := okWide_struct Try.underlying25 hv
  obtain ⟨fuel, hf⟩ := h
  obtain ⟨x, hK, hwf⟩ := opens_node fuel _ _ hf hw
  obtain ⟨A1, c1, A4, c4, he, l1, g1, l4, g4⟩ := k25_open hK
  refine ⟨x, A1, c1, A4, c4, ?_, l1, g1, l4, g4, hwf⟩
  have he2 : cs.toList = [.int .i64 x.f0, .slice A1 x.f1.length c1, .int .i64 x.f2, .int .i64 x.f3, .slice A4 x.f4.length c4] := he
  rw [show cs = #[.int .i64 x.f0, .slice A1 x.f1.length c1, .int .i64 x.f2, .int .i64 x.f3, .slice A4 x.f4.length c4] from Array.toList_inj.1 (by simpa using he2)]
theorem lite_of {ts : List TypeId} {ds : List (DataW H)} {j : Nat} {t : TypeId} {d : DataW H} (hsz : (DataW.weightsEach Try.prog ts ds).all (· ≤ reachBytes) = true) (ht : ts[j]? = some t) (hd : ds[j]? = some d) : Lite Try.prog t d := fun q hq => by
  simpa using List.all_eq_true.1 hsz q (DataW.weights_mem_each ht hd q hq)
end
end Go.Proofs.Ytaphbechnjmlgaa.P
namespace Go.Proofs.Ytaphbechnjmlgaa.P
open Go.RowKit Go.Proofs.YtaphbechnjmlgaaW.PrintWords Go.Proofs.YtaphbechnjmlgaaW.PrintLast
theorem wf_of (x : TNode) : WfT x → WfN x := by
  induction x using node_ind with
  | h x ih =>
    intro hw
    obtain ⟨_, h0, l1, h1, h2, h3, l4, hk⟩ := hw
    exact .mk x h0 h1 (by omega) h2 h3 (by omega) fun y hy => ih y hy (hk y hy)
end Go.Proofs.Ytaphbechnjmlgaa.P
namespace Go.Proofs.Ytaphbechnjmlgaa.Pure
open Go.RowKit Go.Proofs.Ytaphbechnjmlgaa.P Go.Proofs.YtaphbechnjmlgaaW.PrintWords Go.Proofs.YtaphbechnjmlgaaW.PrintLast
set_option linter.unusedVariables false
set_option linter.unusedSimpArgs false

theorem index_int (xs : List Int) (p : Int) (hl : xs.length ≤ 500) (d : Nat) : ∀ (k i : Nat), i + d = xs.length → d < k → ∃ m : Int, slices_Index_int.l0 k xs p (xs.length : Int) (i : Int) = some m ∧ (0 ≤ m ↔ p ∈ xs.drop i) := by
  induction d with
  | zero =>
    intro k i hi hk
    obtain ⟨k, rfl⟩ : ∃ m, k = m + 1 := ⟨k - 1, by omega⟩
    refine ⟨-1, ?_, ?_⟩
    · unfold slices_Index_int.l0
      rw [if_neg (by omega)]
    · rw [List.drop_eq_nil_of_le (by omega)]
      simp
  | succ d ih =>
    intro k i hi hk
    obtain ⟨k, rfl⟩ : ∃ m, k = m + 1 := ⟨k - 1, by omega⟩
    rw [drop_cons xs i (by omega)]
    unfold slices_Index_int.l0
    rw [if_pos (by omega), if_pos (by omega), if_pos (by omega)]
    by_cases c : p = rd xs (i : Int)
    · exact ⟨i, by rw [if_pos c], by simp [c]⟩
    · obtain ⟨m, h1, h2⟩ := ih k (i + 1) (by omega) (by omega)
      refine ⟨m, by rw [if_neg c, wrap_succ i (by omega), h1], ?_⟩
      rw [h2, List.mem_cons]
      simp [c]
theorem contains_int (k : Nat) (xs : List Int) (p : Int) (hl : xs.length ≤ 500) (hk : xs.length < k) : slices_Contains_int.f k xs p = some (decide (p ∈ xs)) := by
  obtain ⟨m, h1, h2⟩ := index_int xs p hl xs.length k 0 (by omega) hk
  unfold slices_Contains_int.f
  rw [show slices_Index_int.f k xs p = some m from h1, Option.bind_some]
  rw [List.drop_zero] at h2
  rw [Option.some.injEq, decide_eq_decide]
  exact h2
theorem ends_len (l : List Int) (hl : l.length ≤ 64) (y : TNode) (p : Int) (hp : 0 ≤ p ∧ p ≤ (l.length : Int)) : (endsM l y p).length ≤ 65 := by
  have := (srt_len (endsM l y p) (upto 64) (endsM_srt l y p) (upto_srt 64) (fun q hq => (mem_upto 64 q).2 (by
    have := bnd_M l y _ _ ((mem_endsM _ _ _ _ hp).1 hq) (by omega) (by omega)
    omega))).1
  rw [upto_len] at this
  exact this
theorem whole_ok (k : Nat) (l : List Int) (hl : l.length ≤ 64) (x : TNode) (hg : GoodN x) (hk : 200 ≤ k) (hd : dep x ≤ k) (a b : Int) (ha : 0 ≤ a ∧ a ≤ (l.length : Int)) : deriv_Whole.f k x.f0 x.f1 x.f2 x.f3 x.f4 l a b = some (decide (b ∈ endsM l x a)) := by
  have h := ends_ok l hl x hg hk hd a ha
  have hlen := ends_len l hl x a ha
  unfold deriv_Whole.f
  rw [show deriv_Ends.f k x.f0 x.f1 x.f2 x.f3 x.f4 l a = some (endsM l x a) by cases x; exact h, Option.bind_some, contains_int k _ b (by omega) (by omega)]
  rfl
theorem DerivJoins (x : TNode) (hx : WfT x) (y : TNode) (hy : WfT y) (l : List Int) (hl : l.length * 8 ≤ 140737488351232 ∧ ∀ e ∈ l, (Lit.int .i64 e).wf = true) : ∃ k sa sb Sa Sb ex ey ez, JoinsOk k x y l sa sb Sa Sb ex ey ez := by
  have hwx := wf_of x hx
  have hwy := wf_of y hy
  obtain ⟨sa, e1, h1⟩ := small_ev x l hwx
  obtain ⟨sb, e2, h2⟩ := small_ev y l hwy
  have hSa := size_ev x hwx
  have hSb := size_ev y hwy
  obtain ⟨K1, e1⟩ := e1
  obtain ⟨K2, e2⟩ := e2
  obtain ⟨K3, hSa⟩ := hSa
  obtain ⟨K4, hSb⟩ := hSb
  obtain ⟨k, hk⟩ : ∃ k, K1 + K2 + K3 + K4 + dep x + dep y + 300 = k := ⟨_, rfl⟩
  refine ⟨k, sa, sb, sizeT x, sizeT y, endsM l x 0, endsM l y 0, fun p => endsM l y p, ⟨e1 _ (by omega), e2 _ (by omega), hSa _ (by omega), hSb _ (by omega), fun hsa hsb hlen _ _ => ?_⟩⟩
  obtain ⟨_, hgx⟩ := h1 hsa
  obtain ⟨_, hgy⟩ := h2 hsb
  have hr : (0 : Int) ≤ 0 ∧ (0 : Int) ≤ (l.length : Int) := by omega
  have rng : ∀ (z : TNode) (a : Int), 0 ≤ a ∧ a ≤ (l.length : Int) → ∀ p ∈ endsM l z a, 0 ≤ p ∧ p ≤ (l.length : Int) := by
    intro z a ha p hp
    have := bnd_M l z _ _ ((mem_endsM _ _ _ _ ha).1 hp) ha.1 ha.2
    omega
  refine ⟨ends_ok l (by omega) x hgx (by omega) (by omega) 0 hr, ends_ok l (by omega) y hgy (by omega) (by omega) 0 hr, fun p hp => ends_ok l (by omega) y hgy (by omega) (by omega) p (rng x 0 hr p hp), rng x 0 hr, rng y 0 hr, fun p hp => rng y p (rng x 0 hr p hp), ?_, ?_, fun p hp => ?_, fun i hi => ?_, fun i hi => ?_⟩
  · have := ends_len l (by omega) x 0 hr
    omega
  · have := ends_len l (by omega) y 0 hr
    omega
  · have := ends_len l (by omega) y p (rng x 0 hr p hp)
    omega
  · refine ⟨_, whole_ok k l (by omega) (joinX x y) (good_two 3 0 0 x y hgx hgy (by decide)) (by omega) (by have := dep_two 3 0 0 x y; unfold joinX; omega) 0 (i : Int) hr, ?_⟩
    rw [decide_eq_true_iff, mem_endsM _ _ _ _ hr, M_join]
    constructor
    · rintro ⟨t, q1, q2⟩
      have hb := bnd_M l x _ _ q1 (by omega) (by omega)
      exact ⟨t, (mem_endsM _ _ _ _ hr).2 q1, (mem_endsM _ _ _ _ (by omega)).2 q2⟩
    · rintro ⟨t, q1, q2⟩
      exact ⟨t, (mem_endsM _ _ _ _ hr).1 q1, (mem_endsM _ _ _ _ (rng x 0 hr t q1)).1 q2⟩
  · refine ⟨_, whole_ok k l (by omega) (orX x y) (good_two 4 0 0 x y hgx hgy (by decide)) (by omega) (by have := dep_two 4 0 0 x y; unfold orX; omega) 0 (i : Int) hr, ?_⟩
    rw [decide_eq_true_iff, mem_endsM _ _ _ _ hr, M_or, mem_endsM _ _ _ _ hr, mem_endsM _ _ _ _ hr]
    exact or_comm
end Go.Proofs.Ytaphbechnjmlgaa.Pure
namespace Go.Proofs.Ytaphbechnjmlgaa.P
open Go.Deep Go.ChangeShapes Go.WideShapes Go.Proofs.YtaphbechnjmlgaaW.PrintWords
set_option linter.unusedVariables false
set_option linter.unusedSimpArgs false

section
variable {H : Type} {enc : TypeId × Value → H} {w : World} {base : Nat} {held : Bool}
theorem bytes_int : Try.prog.bytesOf 3 = 8 := by kernel_rfl
theorem opens_list (m : Nat) : Opens enc Try.prog w base held 26 (Kd.slice 3 (Kd.int .i64)) (fun l => l.length * 8 ≤ 140737488351232 ∧ ∀ e ∈ l, (Lit.int .i64 e).wf = true) m :=
  opens_slice Try.underlying26 (by rw [cells_int]; rfl) bytes_int m (fun n _ => opens_int Try.underlying3 n)
/-- An argument that is a list of whole numbers. -/
theorem open_list {r : Reach} {b0 : Nat} {v : Value} {d : DataW H} {p : List MemPlace} (hv : Value.okWide Try.prog w r b0 26 v) (h : DataW.Trod enc Try.prog w base (fun _ => true) held 26 v d p) (hw : Lite Try.prog 26 d) :
    ∃ (A : Option Addr) (c : Nat) (l : List Int), v = .slice A l.length c ∧ l.length ≤ c ∧ Kd.C (Kd.int .i64) w A l.length l ∧ (l.length * 8 ≤ 140737488351232 ∧ ∀ e ∈ l, (Lit.int .i64 e).wf = true) := by
  obtain ⟨a, len, cap, rfl⟩ := okWide_slice Try.underlying26 hv
  obtain ⟨fuel, hf⟩ := h
  obtain ⟨l, hk, hwf⟩ := opens_list fuel _ _ hf hw
  obtain ⟨A1, d1, he1, hd1, hC1⟩ := hk
  obtain rfl | he := (show (.slice a len cap : Value) = .slice A1 l.length d1 from (List.cons.inj he1).1)
  exact ⟨_, _, l, rfl, hd1, hC1, hwf⟩
end
end Go.Proofs.Ytaphbechnjmlgaa.P
