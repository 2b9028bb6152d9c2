/- Texts of this claim put together by a program of its own (PMat, PReach, PMore, PShift, POpenN, PWf, PNode18, POr18, PStep18, PStepM, PRef18, POpenL), what the law does not use left out: each part's statements bear their own conditions. -/
import Derived.Test.YtaphbechnjmlgaaC20
import Derived.Test.YtaphbechnjmlgaaC12
import Derived.Test.YtaphbechnjmlgaaC16
import Derived.Test.YtaphbechnjmlgaaC19
import Derived.OpenShut
import Derived.Deep.Slices
import Derived.ChangeSlices
import Derived.SizedLaws
import Derived.Test.YtaphbechnjmlgaaC14
import Derived.Test.YtaphbechnjmlgaaC17
namespace Go.Proofs.Ytaphbechnjmlgaa.P
open Go.RowKit Go.Proofs.YtaphbechnjmlgaaW.PrintWords Go.Proofs.YtaphbechnjmlgaaW.PrintLast
set_option linter.unusedVariables false
set_option linter.unusedSimpArgs false

/-- So often, one behind the other. -/
def Times (R : Int → Int → Prop) : Nat → Int → Int → Prop
  | 0, i, j => i = j
  | m + 1, i, j => ∃ t, R i t ∧ Times R m t j
theorem times_right (R : Int → Int → Prop) : ∀ (m : Nat) (i j : Int), Times R (m + 1) i j ↔ ∃ t, Times R m i t ∧ R t j
  | 0, i, j => by
    simp only [Times]
    exact ⟨fun ⟨t, h1, h2⟩ => ⟨i, rfl, h2 ▸ h1⟩, fun ⟨t, h1, h2⟩ => ⟨j, h1 ▸ h2, rfl⟩⟩
  | m + 1, i, j => by
    constructor
    · rintro ⟨t, h1, h2⟩
      obtain ⟨s, h3, h4⟩ := (times_right R m t j).1 h2
      exact ⟨s, ⟨t, h1, h3⟩, h4⟩
    · rintro ⟨s, ⟨t, h1, h3⟩, h4⟩
      exact ⟨t, h1, (times_right R m t j).2 ⟨s, h3, h4⟩⟩
/-- How often a repeat may be. -/
def Often (lo hi : Int) (R : Int → Int → Prop) (i j : Int) : Prop := ∃ m : Nat, lo ≤ (m : Int) ∧ (hi < 0 ∨ (m : Int) ≤ hi) ∧ Times R m i j
mutual
/-- A tree matches a text from a place up to another one. -/
def M (l : List Int) : TNode → Int → Int → Prop
  | ⟨f0, f1, f2, f3, f4⟩, i, j => if f0 = 1 then i = j
    else if f0 = 2 then i < (l.length : Int) ∧ hasM f1 (rd l i) = true ∧ j = i + 1
    else if f0 = 6 then i = 0 ∧ j = 0
    else if f0 = 7 then i = (l.length : Int) ∧ j = (l.length : Int)
    else if f0 = 3 then MJ l f4 i j
    else if f0 = 4 then MO l f4 i j
    else if f0 = 5 then f4.length = 1 ∧ (f3 < 0 ∨ f2 ≤ f3) ∧ Often f2 f3 (M1 l f4) i j
    else False
def MJ (l : List Int) : List TNode → Int → Int → Prop
  | [], i, j => i = j
  | y :: ys, i, j => ∃ t, M l y i t ∧ MJ l ys t j
def MO (l : List Int) : List TNode → Int → Int → Prop
  | [], i, j => False
  | y :: ys, i, j => M l y i j ∨ MO l ys i j
def M1 (l : List Int) : List TNode → Int → Int → Prop
  | [], i, j => False
  | y :: _, i, j => M l y i j
end
theorem M_eq (l : List Int) (x : TNode) (i j : Int) : M l x i j ↔ (if x.f0 = 1 then i = j
    else if x.f0 = 2 then i < (l.length : Int) ∧ hasM x.f1 (rd l i) = true ∧ j = i + 1
    else if x.f0 = 6 then i = 0 ∧ j = 0
    else if x.f0 = 7 then i = (l.length : Int) ∧ j = (l.length : Int)
    else if x.f0 = 3 then MJ l x.f4 i j
    else if x.f0 = 4 then MO l x.f4 i j
    else if x.f0 = 5 then x.f4.length = 1 ∧ (x.f3 < 0 ∨ x.f2 ≤ x.f3) ∧ Often x.f2 x.f3 (M1 l x.f4) i j
    else False) := by
  cases x
  rw [M]
section
variable (l : List Int) (x : TNode) (i j : Int)
theorem M_1 (h : x.f0 = 1) : M l x i j ↔ i = j := by rw [M_eq, h]; simp
theorem M_2 (h : x.f0 = 2) : M l x i j ↔ i < (l.length : Int) ∧ hasM x.f1 (rd l i) = true ∧ j = i + 1 := by rw [M_eq, h]; simp
theorem M_6 (h : x.f0 = 6) : M l x i j ↔ i = 0 ∧ j = 0 := by rw [M_eq, h]; simp
theorem M_7 (h : x.f0 = 7) : M l x i j ↔ i = (l.length : Int) ∧ j = (l.length : Int) := by rw [M_eq, h]; simp
theorem M_3 (h : x.f0 = 3) : M l x i j ↔ MJ l x.f4 i j := by rw [M_eq, h]; simp
theorem M_4 (h : x.f0 = 4) : M l x i j ↔ MO l x.f4 i j := by rw [M_eq, h]; simp
theorem M_5 (h : x.f0 = 5) : M l x i j ↔ x.f4.length = 1 ∧ (x.f3 < 0 ∨ x.f2 ≤ x.f3) ∧ Often x.f2 x.f3 (M1 l x.f4) i j := by rw [M_eq, h]; simp
theorem M_5' (h : x.f0 = 5) (y : TNode) (hy : x.f4 = [y]) : M l x i j ↔ (x.f3 < 0 ∨ x.f2 ≤ x.f3) ∧ Often x.f2 x.f3 (M l y) i j := by
  rw [M_5 l x i j h, hy, show M1 l [y] = M l y by funext a b; rw [M1]]
  simp
theorem M_0 (h : x.f0 < 1 ∨ x.f0 > 7) : ¬ M l x i j := by
  rw [M_eq, if_neg (by omega), if_neg (by omega), if_neg (by omega), if_neg (by omega), if_neg (by omega), if_neg (by omega), if_neg (by omega)]
  exact id
end
theorem MO_iff (l : List Int) (i j : Int) : ∀ ys : List TNode, MO l ys i j ↔ ∃ y ∈ ys, M l y i j
  | [] => by rw [MO]; simp
  | y :: ys => by rw [MO, MO_iff l i j ys]; simp
theorem MJ_app (l : List Int) : ∀ (xs ys : List TNode) (i j : Int), MJ l (xs ++ ys) i j ↔ ∃ t, MJ l xs i t ∧ MJ l ys t j
  | [], ys, i, j => by
    rw [List.nil_append]
    simp only [MJ]
    exact ⟨fun h => ⟨i, rfl, h⟩, fun ⟨t, h1, h2⟩ => h1 ▸ h2⟩
  | x :: xs, ys, i, j => by
    rw [List.cons_append]
    simp only [MJ]
    constructor
    · rintro ⟨t, h1, h2⟩
      obtain ⟨s, h3, h4⟩ := (MJ_app l xs ys t j).1 h2
      exact ⟨s, ⟨t, h1, h3⟩, h4⟩
    · rintro ⟨s, ⟨t, h1, h3⟩, h4⟩
      exact ⟨t, h1, (MJ_app l xs ys t j).2 ⟨s, h3, h4⟩⟩
theorem MJ_one (l : List Int) (y : TNode) (i j : Int) : MJ l [y] i j ↔ M l y i j := by
  simp only [MJ]
  exact ⟨fun ⟨t, h1, h2⟩ => h2 ▸ h1, fun h => ⟨j, h, rfl⟩⟩
abbrev Bnd (n : Int) (R : Int → Int → Prop) : Prop := ∀ i j, R i j → 0 ≤ i → i ≤ n → i ≤ j ∧ j ≤ n
theorem bnd_times {n : Int} {R : Int → Int → Prop} (h : Bnd n R) : ∀ m, Bnd n (Times R m)
  | 0, i, j, hr, h1, h2 => by
    obtain rfl : i = j := hr
    omega
  | m + 1, i, j, ⟨t, hr, ht⟩, h1, h2 => by
    have := h i t hr h1 h2
    have := bnd_times h m t j ht (by omega) (by omega)
    omega
theorem bnd_often {n lo hi : Int} {R : Int → Int → Prop} (h : Bnd n R) : Bnd n (Often lo hi R) := fun i j ⟨m, _, _, ht⟩ h1 h2 => bnd_times h m i j ht h1 h2
theorem bnd_MJ (l : List Int) : ∀ ys : List TNode, (∀ y ∈ ys, Bnd (l.length : Int) (M l y)) → Bnd (l.length : Int) (MJ l ys)
  | [], h, i, j, hm, h1, h2 => by
    rw [MJ] at hm
    omega
  | y :: ys, h, i, j, hm, h1, h2 => by
    rw [MJ] at hm
    obtain ⟨t, ht, hm⟩ := hm
    have := h y (by simp) i t ht h1 h2
    have := bnd_MJ l ys (fun z hz => h z (by simp [hz])) t j hm (by omega) (by omega)
    omega
theorem bnd_M (l : List Int) (x : TNode) : Bnd (l.length : Int) (M l x) := by
  induction x using node_ind with
  | h x ih =>
    intro i j hm h1 h2
    rw [M_eq] at hm
    split at hm
    · omega
    split at hm
    · omega
    split at hm
    · omega
    split at hm
    · omega
    split at hm
    · exact bnd_MJ l _ ih i j hm h1 h2
    split at hm
    · obtain ⟨y, hy, hm⟩ := (MO_iff l i j _).1 hm
      exact ih y hy i j hm h1 h2
    split at hm
    · obtain ⟨hl, _, hm⟩ := hm
      obtain ⟨y, hy⟩ : ∃ y, x.f4 = [y] := List.length_eq_one_iff.1 hl
      rw [hy, show M1 l [y] = M l y by funext a b; rw [M1]] at hm
      exact bnd_often (ih y (by rw [hy]; simp)) i j hm h1 h2
    · exact hm.elim
abbrev Srt (xs : List Int) : Prop := xs.Pairwise (· < ·)
theorem srt_len : ∀ (a b : List Int), Srt a → Srt b → (∀ p ∈ a, p ∈ b) → a.length ≤ b.length ∧ (a.length = b.length → a = b)
  | [], b, _, _, _ => ⟨Nat.zero_le _, fun h => (List.length_eq_zero_iff.1 h.symm).symm⟩
  | p :: a, b, ha, hb, hs => by
    obtain ⟨u, v, rfl⟩ := List.append_of_mem (hs p (by simp))
    replace ha := List.pairwise_cons.1 ha
    have h2 : ∀ q ∈ a, q ∈ v := by
      intro q hq
      have h3 := hs q (by simp [hq])
      have h4 := ha.1 q hq
      rw [List.mem_append, List.mem_cons] at h3
      rcases h3 with h3 | h3 | h3
      · have := (List.pairwise_append.1 hb).2.2 q h3 p (by simp)
        omega
      · omega
      · exact h3
    have hv : Srt v := (List.pairwise_cons.1 (List.pairwise_append.1 hb).2.1).2
    obtain ⟨h5, h6⟩ := srt_len a v ha.2 hv h2
    constructor
    · simp only [List.length_cons, List.length_append]
      omega
    · intro hl
      simp only [List.length_cons, List.length_append] at hl
      have : u = [] := List.length_eq_zero_iff.1 (by omega)
      subst this
      rw [h6 (by omega), List.nil_append]
theorem srt_ext {a b : List Int} (ha : Srt a) (hb : Srt b) (h : ∀ p, p ∈ a ↔ p ∈ b) : a = b :=
  (srt_len a b ha hb fun p hp => (h p).1 hp).2 (Nat.le_antisymm (srt_len a b ha hb fun p hp => (h p).1 hp).1 (srt_len b a hb ha fun p hp => (h p).2 hp).1)
def upto (n : Nat) : List Int := (List.range (n + 1)).map fun i : Nat => (i : Int)
theorem upto_srt (n : Nat) : Srt (upto n) := by
  unfold upto Srt
  rw [List.pairwise_map]
  exact List.Pairwise.imp (fun h => by omega) List.pairwise_lt_range
theorem mem_upto (n : Nat) (p : Int) : p ∈ upto n ↔ 0 ≤ p ∧ p ≤ (n : Int) := by
  unfold upto
  simp only [List.mem_map, List.mem_range]
  exact ⟨fun ⟨i, h1, h2⟩ => by omega, fun h => ⟨p.toNat, by omega, by omega⟩⟩
theorem upto_len (n : Nat) : (upto n).length = n + 1 := by simp [upto]
open Classical in
/-- The places of a text that a tree matches up to, from a place. -/
noncomputable def endsM (l : List Int) (x : TNode) (i : Int) : List Int := (upto l.length).filter fun j => decide (M l x i j)
theorem endsM_srt (l : List Int) (x : TNode) (i : Int) : Srt (endsM l x i) := List.Pairwise.filter _ (upto_srt _)
open Classical in
theorem mem_endsM (l : List Int) (x : TNode) (i j : Int) (h : 0 ≤ i ∧ i ≤ (l.length : Int)) : j ∈ endsM l x i ↔ M l x i j := by
  unfold endsM
  rw [List.mem_filter, mem_upto, decide_eq_true_iff]
  exact ⟨fun h => h.2, fun hm => ⟨by have := bnd_M l x i j hm h.1 h.2; omega, hm⟩⟩
end Go.Proofs.Ytaphbechnjmlgaa.P
namespace Go.Proofs.Ytaphbechnjmlgaa.P
open Go.RowKit Go.Proofs.YtaphbechnjmlgaaW.PrintWords Go.Proofs.YtaphbechnjmlgaaW.PrintLast
set_option linter.unusedVariables false
set_option linter.unusedSimpArgs false

theorem rd_srt {xs : List Int} (hs : Srt xs) {a b : Nat} (h : a < b) (hb : b < xs.length) : rd xs (a : Int) < rd xs (b : Int) := by
  rw [rd_get xs a (by omega), rd_get xs b hb]
  exact List.pairwise_iff_getElem.1 hs a b (by omega) hb h
theorem mem_rd {xs : List Int} {p : Int} : p ∈ xs ↔ ∃ i : Nat, i < xs.length ∧ rd xs (i : Int) = p := by
  constructor
  · intro h
    obtain ⟨i, hi, rfl⟩ := List.getElem_of_mem h
    exact ⟨i, hi, rd_get xs i hi⟩
  · rintro ⟨i, hi, rfl⟩
    rw [rd_get xs i hi]
    exact List.getElem_mem hi
end Go.Proofs.Ytaphbechnjmlgaa.P
namespace Go.Proofs.Ytaphbechnjmlgaa.P
open Go.RowKit Go.Proofs.YtaphbechnjmlgaaW.PrintWords Go.Proofs.YtaphbechnjmlgaaW.PrintLast
set_option linter.unusedVariables false
set_option linter.unusedSimpArgs false

/-- Bounds of repeats that are not great. -/
inductive GoodN : TNode → Prop
  | mk (x : TNode) (h : x.f0 = 5 → 0 ≤ x.f2 ∧ x.f2 ≤ 20 ∧ x.f3 ≤ 20) (hk : ∀ y ∈ x.f4, GoodN y) : GoodN x
mutual
/-- How deep a tree is. -/
def dep : TNode → Nat
  | ⟨_, _, _, _, f4⟩ => deps f4 + 1
def deps : List TNode → Nat
  | [] => 0
  | y :: ys => max (dep y) (deps ys)
end
theorem dep_mem : ∀ (ys : List TNode) (y : TNode), y ∈ ys → dep y ≤ deps ys
  | z :: ys, y, h => by
    rw [deps]
    rcases List.mem_cons.1 h with rfl | h
    · omega
    · have := dep_mem ys y h
      omega
theorem dep_eq (x : TNode) : dep x = deps x.f4 + 1 := by
  cases x
  rw [dep]
theorem dep_kid {x y : TNode} (h : y ∈ x.f4) : dep y < dep x := by
  have := dep_mem _ y h
  rw [dep_eq x]
  omega
end Go.Proofs.Ytaphbechnjmlgaa.P
namespace Go.Proofs.Ytaphbechnjmlgaa.P
open Go.RowKit Go.Proofs.YtaphbechnjmlgaaW.PrintWords Go.Proofs.YtaphbechnjmlgaaW.PrintLast
set_option linter.unusedVariables false
set_option linter.unusedSimpArgs false

theorem allP_ev : ∀ l : List TNode, (∀ y ∈ l, ∃ b, Ev (fun k => parsedS k y) b ∧ (b = true → GoodN y)) → ∃ b, Ev (fun k => allP (parsedS k) l) b ∧ (b = true → ∀ y ∈ l, GoodN y)
  | [], _ => ⟨true, ev_now fun k => rfl, fun _ y hy => by simp at hy⟩
  | y :: l, h => by
    obtain ⟨b, e1, h1⟩ := h y (by simp)
    obtain ⟨c, e2, h2⟩ := allP_ev l (fun z hz => h z (by simp [hz]))
    cases b with
    | false => exact ⟨false, ev_same e1 fun k e => by rw [allP, e, Option.bind_some, if_neg (by decide)], fun h => by cases h⟩
    | true =>
      refine ⟨c, ev_same2 e1 e2 fun k e e' => by rw [allP, e, Option.bind_some, if_pos rfl]; exact e', fun hc z hz => ?_⟩
      rcases List.mem_cons.1 hz with rfl | hz
      · exact h1 rfl
      · exact h2 hc z hz
theorem parsed_ev (x : TNode) : ∃ b, Ev (fun k => parsedS k x) b ∧ (b = true → GoodN x) := by
  induction x using node_ind with
  | h x ih =>
    by_cases c : badP x = true
    · exact ⟨false, ev_one fun k => by rw [parsedS, if_pos c], fun h => by cases h⟩
    · obtain ⟨b, e, h⟩ := allP_ev x.f4 ih
      refine ⟨b, ev_step e fun k e => by rw [parsedS, if_neg c]; exact e, fun hb => ⟨x, fun h5 => ?_, h hb⟩⟩
      simp only [badP, Bool.not_eq_true, Bool.or_eq_false_iff, Bool.and_eq_false_iff, decide_eq_false_iff_not] at c
      omega
abbrev smallE (k : Nat) (x : TNode) (l : List Int) : Option Bool := ductuslaw18_small.f k x.f0 x.f1 x.f2 x.f3 x.f4 l
theorem small_ev (x : TNode) (l : List Int) (hw : WfN x) : ∃ b, Ev (fun k => smallE k x l) b ∧ (b = true → l.length ≤ 40 ∧ GoodN x) := by
  obtain ⟨W, e1, _⟩ := weight_ev x hw 0 (by omega)
  obtain ⟨b, e2, h2⟩ := parsed_ev x
  by_cases c1 : W ≤ 300
  · by_cases c2 : (l.length : Int) ≤ 40
    · refine ⟨b, ev_same2 e1 e2 fun k e e' => ?_, fun hb => ⟨by omega, h2 hb⟩⟩
      have e'' : ductusref18_Parsed.f k x.f0 x.f1 x.f2 x.f3 x.f4 = some b := by cases x; exact e'
      unfold smallE ductuslaw18_small.f
      rw [show ductusref16_Weight.f k x.f0 x.f1 x.f2 x.f3 x.f4 0 = some W from e, Option.bind_some, if_pos c1, if_pos c2, e'', Option.bind_some]
    · refine ⟨false, ev_same e1 fun k e => ?_, fun h => by cases h⟩
      unfold smallE ductuslaw18_small.f
      rw [show ductusref16_Weight.f k x.f0 x.f1 x.f2 x.f3 x.f4 0 = some W from e, Option.bind_some, if_pos c1, if_neg c2]
  · refine ⟨false, ev_same e1 fun k e => ?_, fun h => by cases h⟩
    unfold smallE ductuslaw18_small.f
    rw [show ductusref16_Weight.f k x.f0 x.f1 x.f2 x.f3 x.f4 0 = some W from e, Option.bind_some, if_neg c1]
section
variable (l : List Int) (s : Nat) (hs : s ≤ l.length)
abbrev Moved (s : Nat) (R S : Int → Int → Prop) (n : Int) : Prop := ∀ i j, 0 ≤ i → i ≤ n → (R (i + (s : Int)) (j + (s : Int)) ↔ S i j)
include hs in
end
end Go.Proofs.Ytaphbechnjmlgaa.P
namespace Go.Proofs.Ytaphbechnjmlgaa.P
open Go.Deep Go.ChangeShapes Go.WideShapes Go.Proofs.YtaphbechnjmlgaaW.PrintWords
set_option linter.unusedVariables false
set_option linter.unusedSimpArgs false

/-- What an argument's data weigh is within the reach. -/
def Lite {H : Type} (P : Program) (t : TypeId) (d : DataW H) : Prop := ∀ q ∈ d.weights P t, q ≤ reachBytes
/-- What reads by a type, within m steps, is of a kind. -/
def Opens {α H : Type} (enc : TypeId × Value → H) (P : Program) (w : World) (base : Nat) (held : Bool) (t : TypeId) (d : Kd α) (wf : α → Prop) (m : Nat) : Prop :=
  ∀ (cs : List Value) (y : DataW H × List MemPlace), DataW.trod enc P w base (fun _ => true) held m t cs = some y → Lite P t y.1 → ∃ v, d.K w v cs ∧ wf v
section
variable {α H : Type} {enc : TypeId × Value → H} {P : Program} {w : World} {base : Nat} {held : Bool}
theorem opens_int {t : TypeId} {k : IntKind} (ht : P.underlying t = some (.int k)) (m : Nat) : Opens enc P w base held t (Kd.int k) (fun x => (Lit.int k x).wf = true) m := by
  intro cs y h _
  obtain ⟨n, rfl, _, hw⟩ := DataW.trod_int ht h
  exact ⟨n, rfl, hw⟩
theorem weightsAll_mem {e : TypeId} {n : Nat} {d : DataW H} : ∀ {l : List (DataW H)}, d ∈ l → n ∈ d.weights P e → n ∈ DataW.weightsAll P e l
  | [], h, _ => by simp at h
  | x :: l, h, hn => by
    simp only [DataW.weightsAll, List.mem_append]
    rcases List.mem_cons.1 h with rfl | h
    · exact .inl hn
    · exact .inr (weightsAll_mem h hn)
theorem opens_slice [Inhabited α] {t e : TypeId} {d : Kd α} {wf : α → Prop} {B : Nat} (ht : P.underlying t = some (.slice e)) (hc : P.cellsOf e = d.sz) (hB : P.bytesOf e = B) (m : Nat) (ih : ∀ n, m = n + 1 → Opens enc P w base held e d wf n) :
    Opens enc P w base held t (Kd.slice e d) (fun l => l.length * B ≤ 140737488351232 ∧ ∀ x ∈ l, wf x) m := by
  intro cs y h hw
  rcases DataW.trod_slice ht h with ⟨rfl, _⟩ | ⟨a, len, cap, elems, rest, n, hn, rfl, rfl, hb, hl, hm, hlen, hel, _, _⟩
  · exact ⟨[], ⟨none, 0, rfl, Nat.le_refl _, ⟨rfl, by simp, fun h => absurd h (Nat.lt_irrefl 0)⟩⟩, by simp, by simp⟩
  · have hO := ih n hn
    have ex : ∀ i, i < len → ∃ v : α, (∃ c : List Value, c.length = d.sz ∧ d.K w v c ∧ ∀ j u, c[j]? = some u → w.cell? (a.add (i * d.sz + j)) = some u) ∧ wf v := by
      intro i hi
      have h1 := hel i hi
      rw [hc] at h1
      have h2 : elems[i]? = some (elems[i]'(by omega)) := List.getElem?_eq_getElem (by omega)
      rw [h2] at h1
      obtain ⟨c, hc1, hc2⟩ := Option.bind_eq_some_iff.mp h1
      obtain ⟨_, hcl, hcell⟩ := World.cells?_some hc1
      obtain ⟨v, hv, hwf⟩ := hO c _ hc2 (fun q hq => hw q (by
        simp only [DataW.weights, ht, List.mem_cons, List.mem_append]
        exact .inr (.inl (weightsAll_mem (List.mem_map_of_mem (List.getElem_mem (by omega))) hq))))
      refine ⟨v, ⟨c, hcl, hv, fun j u hu => ?_⟩, hwf⟩
      have hj : j < d.sz := by rw [← hcl]; exact (List.getElem?_eq_some_iff.1 hu).1
      rw [← Go.Deep.add_add, hcell j hj]
      exact hu
    obtain ⟨q, hq⟩ := choose_lt ex
    have hlen2 : ((List.range len).map q).length = len := by simp
    refine ⟨(List.range len).map q, ⟨some a, cap, by rw [hlen2], by rw [hlen2]; exact hl, ?_⟩, ?_, ?_⟩
    · rw [hlen2]
      refine ⟨hlen2, by have := Nat.le_trans hl hm; simp only [maxLen] at this; omega, fun _ => ⟨a, rfl, fun j p hp => ?_⟩⟩
      have hj : j < len := by
        have := (List.getElem?_eq_some_iff.1 hp).1
        rwa [hlen2] at this
      have hpq : p = q j := by
        rw [List.getElem?_map, List.getElem?_range hj] at hp
        exact (Option.some.inj hp).symm
      subst hpq
      obtain ⟨⟨c, h1, h2, h3⟩, _⟩ := hq j hj
      exact ⟨c, h1, h2, h3⟩
    · rw [hlen2]
      have := hw ((elems.length + rest.length) * B) (by simp only [DataW.weights, ht, List.length_map, hB]; exact List.mem_cons_self)
      have h2 : len * B ≤ (elems.length + rest.length) * B := Nat.mul_le_mul_right _ (by omega)
      exact Nat.le_trans h2 this
    · intro x hx
      obtain ⟨j, hj, rfl⟩ := List.mem_map.1 hx
      exact (hq j (List.mem_range.1 hj)).2
theorem okWide_struct {r : Reach} {b0 : Nat} {t : TypeId} {fs : Array Field} {v : Value} (ht : P.underlying t = some (.struct fs)) (h : Value.okWide P w r b0 t v) : ∃ cs, v = .agg cs ∧ cs.size = P.cellsOf t := by
  simp only [Value.okWide, ht] at h
  obtain ⟨cs, h1, h2, _⟩ := h
  exact ⟨cs, h1, h2⟩
end
section
variable {H : Type} {enc : TypeId × Value → H} {w : World} {base : Nat} {held : Bool}
def w64 (x : Int) : Prop := -9223372036854775808 ≤ x ∧ x ≤ 9223372036854775807
theorem w64_of {x : Int} (h : (Lit.int .i64 x).wf = true) : w64 x := by
  have hmin : IntKind.i64.min = -9223372036854775808 := rfl
  have hmax : IntKind.i64.max = 9223372036854775807 := rfl
  simp only [Lit.wf, Bool.and_eq_true, decide_eq_true_eq] at h
  unfold w64
  omega
theorem cells_int : Try.prog.cellsOf 3 = 1 := by kernel_rfl
theorem cells_ranges : Try.prog.cellsOf 22 = 1 := by kernel_rfl
theorem cells_nodes : Try.prog.cellsOf 23 = 1 := by kernel_rfl
theorem cells_range : Try.prog.cellsOf 52 = 2 := by kernel_rfl
theorem cells_node : Try.prog.cellsOf 25 = 5 := by kernel_rfl
theorem bytes_range : Try.prog.bytesOf 52 = 16 := by kernel_rfl
theorem bytes_node : Try.prog.bytesOf 25 = 72 := by kernel_rfl
instance : Inhabited S52 := ⟨z52⟩
instance : Inhabited S25 := ⟨z25⟩
theorem opens_range (m : Nat) : Opens enc Try.prog w base held 52 k52 (fun r => w64 r.f0 ∧ w64 r.f1) m := by
  intro cs y h _
  obtain ⟨xs, n, rfl, _, hl, hxl, hf⟩ := DataW.trod_struct Try.underlying52 h
  rw [cells_range] at hl
  match xs, hxl, cs, hl with
  | [y0, y1], _, [c0, c1], _ =>
    have g0 := hf 0 _ rfl
    have g1 := hf 1 _ rfl
    simp [cells_int] at g0 g1
    obtain ⟨x0, e0, _, w0⟩ := DataW.trod_int Try.underlying3 g0
    obtain ⟨x1, e1, _, w1⟩ := DataW.trod_int Try.underlying3 g1
    obtain rfl := (List.cons.inj e0).1
    obtain rfl := (List.cons.inj e1).1
    exact ⟨⟨x0, x1⟩, k52_mk w ⟨x0, x1⟩, w64_of w0, w64_of w1⟩
/-- A tree that was read. -/
inductive WfT : S25 → Prop
  | mk (x : S25) (h0 : w64 x.f0) (l1 : x.f1.length * 16 ≤ 140737488351232) (h1 : ∀ r ∈ x.f1, w64 r.f0 ∧ w64 r.f1) (h2 : w64 x.f2) (h3 : w64 x.f3) (l4 : x.f4.length * 72 ≤ 140737488351232) (hk : ∀ y ∈ x.f4, WfT y) : WfT x
theorem opens_ranges (m : Nat) : Opens enc Try.prog w base held 22 (Kd.slice 52 k52) (fun l => l.length * 16 ≤ 140737488351232 ∧ ∀ r ∈ l, w64 r.f0 ∧ w64 r.f1) m :=
  opens_slice Try.underlying22 (by rw [cells_range]; rfl) bytes_range m (fun n _ => opens_range n)
theorem opens_node : ∀ m : Nat, Opens enc Try.prog w base held 25 k25 WfT m := by
  intro m
  induction m using Nat.strongRecOn with
  | ind m ih =>
    intro cs y h hw
    obtain ⟨xs, n, rfl, rfl, hl, hxl, hf⟩ := DataW.trod_struct Try.underlying25 h
    rw [cells_node] at hl
    match xs, hxl, cs, hl with
    | [y0, y1, y2, y3, y4], _, [c0, c1, c2, c3, c4], _ =>
      have g0 := hf 0 _ rfl
      have g1 := hf 1 _ rfl
      have g2 := hf 2 _ rfl
      have g3 := hf 3 _ rfl
      have g4 := hf 4 _ rfl
      simp [cells_int, cells_ranges, cells_nodes] at g0 g1 g2 g3 g4
      obtain ⟨x0, e0, _, w0⟩ := DataW.trod_int Try.underlying3 g0
      obtain ⟨x2, e2, _, w2⟩ := DataW.trod_int Try.underlying3 g2
      obtain ⟨x3, e3, _, w3⟩ := DataW.trod_int Try.underlying3 g3
      obtain rfl := (List.cons.inj e0).1
      obtain rfl := (List.cons.inj e2).1
      obtain rfl := (List.cons.inj e3).1
      have hwe : ∀ (j : Nat) (t : TypeId) (d : DataW H), [3, 22, 3, 3, 23][j]? = some t → [y0.1, y1.1, y2.1, y3.1, y4.1][j]? = some d → Lite Try.prog t d := by
        intro j t d ht hd q hq
        refine hw q ?_
        simp only [DataW.weights, Try.underlying25]
        exact DataW.weights_mem_each (j := j) ht hd q hq
      obtain ⟨l1, hk1, hl1⟩ := opens_ranges n [c1] y1 g1 (hwe 1 _ _ rfl rfl)
      obtain ⟨l4, hk4, hl4⟩ := opens_slice (wf := WfT) Try.underlying23 (by rw [cells_node]; rfl) bytes_node n (fun q hq => ih q (by omega)) [c4] y4 g4 (hwe 4 _ _ rfl rfl)
      obtain ⟨A1, d1, he1, hd1, hC1⟩ := hk1
      obtain ⟨A4, d4, he4, hd4, hC4⟩ := hk4
      obtain rfl := (List.cons.inj he1).1
      obtain rfl := (List.cons.inj he4).1
      exact ⟨⟨x0, l1, x2, x3, l4⟩, k25_mk w ⟨x0, l1, x2, x3, l4⟩ hd1 hC1 hd4 hC4, .mk _ (w64_of w0) hl1.1 hl1.2 (w64_of w2) (w64_of w3) hl4.1 hl4.2⟩
/-- An argument that is a tree. -/
theorem open_node {r : Reach} {b0 : Nat} {v : Value} {d : DataW H} {p : List MemPlace} (hv : Value.okWide Try.prog w r b0 25 v) (h : DataW.Trod enc Try.prog w base (fun _ => true) held 25 v d p) (hw : Lite Try.prog 25 d) :
    ∃ (x : S25) (A1 : Option Addr) (c1 : Nat) (A4 : Option Addr) (c4 : Nat), v = .agg #[.int .i64 x.f0, .slice A1 x.f1.length c1, .int .i64 x.f2, .int .i64 x.f3, .slice A4 x.f4.length c4] ∧ x.f1.length ≤ c1 ∧ Kd.C k52 w A1 x.f1.length x.f1 ∧ x.f4.length ≤ c4 ∧ Kd.C k25 w A4 x.f4.length x.f4 ∧ WfT x := by
  obtain ⟨cs, rfl, hs⟩ := okWide_struct Try.underlying25 hv
  obtain ⟨fuel, hf⟩ := h
  obtain ⟨x, hK, hwf⟩ := opens_node fuel _ _ hf hw
  obtain ⟨A1, c1, A4, c4, he, l1, g1, l4, g4⟩ := k25_open hK
  refine ⟨x, A1, c1, A4, c4, ?_, l1, g1, l4, g4, hwf⟩
  have he2 : cs.toList = [.int .i64 x.f0, .slice A1 x.f1.length c1, .int .i64 x.f2, .int .i64 x.f3, .slice A4 x.f4.length c4] := he
  rw [show cs = #[.int .i64 x.f0, .slice A1 x.f1.length c1, .int .i64 x.f2, .int .i64 x.f3, .slice A4 x.f4.length c4] from Array.toList_inj.1 (by simpa using he2)]
theorem lite_of {ts : List TypeId} {ds : List (DataW H)} {j : Nat} {t : TypeId} {d : DataW H} (hsz : (DataW.weightsEach Try.prog ts ds).all (· ≤ reachBytes) = true) (ht : ts[j]? = some t) (hd : ds[j]? = some d) : Lite Try.prog t d := fun q hq => by
  simpa using List.all_eq_true.1 hsz q (DataW.weights_mem_each ht hd q hq)
end
end Go.Proofs.Ytaphbechnjmlgaa.P
namespace Go.Proofs.Ytaphbechnjmlgaa.P
open Go.RowKit Go.Proofs.YtaphbechnjmlgaaW.PrintWords Go.Proofs.YtaphbechnjmlgaaW.PrintLast
theorem wf_of (x : TNode) : WfT x → WfN x := by
  induction x using node_ind with
  | h x ih =>
    intro hw
    obtain ⟨_, h0, l1, h1, h2, h3, l4, hk⟩ := hw
    exact .mk x h0 h1 (by omega) h2 h3 (by omega) fun y hy => ih y hy (hk y hy)
end Go.Proofs.Ytaphbechnjmlgaa.P
namespace Go.Proofs.Ytaphbechnjmlgaa.P
open Go.RowKit Go.Proofs.YtaphbechnjmlgaaW.PrintWords Go.Proofs.YtaphbechnjmlgaaW.PrintLast
set_option linter.unusedVariables false
set_option linter.unusedSimpArgs false

mutual
/-- How many nodes. -/
def nd : TNode → Nat
  | ⟨_, _, _, _, f4⟩ => nds f4 + 1
def nds : List TNode → Nat
  | [] => 0
  | y :: ys => nd y + nds ys
end
theorem nd_eq (x : TNode) : nd x = nds x.f4 + 1 := by
  cases x
  rw [nd]
theorem nds_app : ∀ (a b : List TNode), nds (a ++ b) = nds a + nds b
  | [], b => by rw [List.nil_append, nds]; omega
  | y :: a, b => by rw [List.cons_append, nds, nds, nds_app a b]; omega
theorem nds_len : ∀ a : List TNode, a.length ≤ nds a
  | [] => Nat.le_refl _
  | y :: a => by
    have := nds_len a
    have := nd_eq y
    rw [nds, List.length_cons]
    omega
theorem nds_mem : ∀ (a : List TNode) (y : TNode), y ∈ a → nd y ≤ nds a
  | z :: a, y, h => by
    rw [nds]
    rcases List.mem_cons.1 h with rfl | h
    · omega
    · have := nds_mem a y h
      omega
/-- How often a node's kids are told. -/
def mulN (f0 f2 f3 : Int) : Nat := if f0 = 5 then (if f3 < 0 then f2.toNat + 1 else max 1 f3.toNat) else 1
mutual
/-- How great a tree is. -/
def szN : TNode → Nat
  | ⟨f0, _, f2, f3, f4⟩ => mulN f0 f2 f3 * szNs f4 + 1
def szNs : List TNode → Nat
  | [] => 0
  | y :: ys => szN y + szNs ys
end
theorem szN_eq (x : TNode) : szN x = mulN x.f0 x.f2 x.f3 * szNs x.f4 + 1 := by
  cases x
  rw [szN]
theorem mulN_pos (a b c : Int) : 1 ≤ mulN a b c := by
  unfold mulN
  split
  · split <;> omega
  · omega
/-- What a tree that is looked at, and its steps, are like. -/
inductive SaneN : TNode → Prop
  | mk (x : TNode) (h0 : 0 ≤ x.f0 ∧ x.f0 ≤ 7) (h1 : ∀ r ∈ x.f1, i64b r.f0 ∧ i64b r.f1) (l1 : x.f1.length < 8796093022208) (h2 : i64b x.f2) (h3 : i64b x.f3) (h5 : x.f0 = 5 → x.f4.length = 1 ∧ 0 ≤ x.f2 ∧ x.f2 ≤ 20 ∧ -1 ≤ x.f3 ∧ x.f3 ≤ 20 ∧ (x.f3 < 0 ∨ x.f2 ≤ x.f3)) (hk : ∀ y ∈ x.f4, SaneN y) : SaneN x
theorem sane_wf (x : TNode) : SaneN x → nd x < 100000 → WfN x := by
  induction x using node_ind with
  | h x ih =>
    rintro ⟨_, h0, h1, l1, h2, h3, h5, hk⟩ hn
    have := nd_eq x
    have := nds_len x.f4
    refine .mk x (by unfold i64b; omega) h1 l1 h2 h3 (by omega) fun y hy => ih y hy (hk y hy) ?_
    have := nds_mem x.f4 y hy
    omega
/-- What Parsed lets in is so. -/
inductive ParN : TNode → Prop
  | mk (x : TNode) (h0 : 0 ≤ x.f0 ∧ x.f0 ≤ 7) (h5 : x.f0 = 5 → x.f4.length = 1 ∧ 0 ≤ x.f2 ∧ x.f2 ≤ 20 ∧ -1 ≤ x.f3 ∧ x.f3 ≤ 20 ∧ (x.f3 < 0 ∨ x.f2 ≤ x.f3)) (hk : ∀ y ∈ x.f4, ParN y) : ParN x
theorem par_sane (x : TNode) : ParN x → WfN x → SaneN x := by
  induction x using node_ind with
  | h x ih =>
    rintro ⟨_, h0, h5, hk⟩ ⟨_, w0, w1, w2, w3, w4, w5, wk⟩
    exact .mk x h0 w1 w2 w3 w4 h5 fun y hy => ih y hy (hk y hy) (wk y hy)
theorem allP_par (k : Nat) (h : ∀ y, parsedS k y = some true → ParN y) : ∀ l : List TNode, allP (parsedS k) l = some true → ∀ y ∈ l, ParN y
  | [], _, y, hy => by simp at hy
  | z :: l, e, y, hy => by
    rw [allP] at e
    obtain ⟨b, e1, e2⟩ := Option.bind_eq_some_iff.1 e
    cases b with
    | false => rw [if_neg (by decide)] at e2; cases e2
    | true =>
      rw [if_pos rfl] at e2
      rcases List.mem_cons.1 hy with rfl | hy
      · exact h y e1
      · exact allP_par k h l e2 y hy
theorem parsed_par : ∀ (k : Nat) (x : TNode), parsedS k x = some true → ParN x
  | 0, x, h => by simp [parsedS] at h
  | k + 1, x, h => by
    rw [parsedS] at h
    by_cases c : badP x = true
    · rw [if_pos c] at h
      cases h
    · rw [if_neg c] at h
      simp only [badP, Bool.not_eq_true, Bool.or_eq_false_iff, Bool.and_eq_false_iff, decide_eq_false_iff_not] at c
      exact .mk x (by omega) (fun e => by omega) (allP_par k (parsed_par k) x.f4 h)
theorem small_par (x : TNode) (l : List Int) (b : Bool) (h : Ev (fun k => smallE k x l) b) (hb : b = true) : ParN x := by
  subst hb
  obtain ⟨K, h⟩ := h
  have e := h K (Nat.le_refl _)
  unfold smallE ductuslaw18_small.f at e
  obtain ⟨W, _, e⟩ := Option.bind_eq_some_iff.1 e
  split at e
  · split at e
    · obtain ⟨p, e1, e⟩ := Option.bind_eq_some_iff.1 e
      obtain rfl := Option.some.inj e
      exact parsed_par K x (by cases x; exact e1)
    · cases e
  · cases e
theorem nodes_loop (f : List TNode) (hl : nds f < 100000) (hk : ∀ y ∈ f, Ev (fun k => deriv_nodes.f k y.f0 y.f1 y.f2 y.f3 y.f4) (nd y : Int)) (d : Nat) : ∀ (i : Nat) (s : Nat), i + d = f.length → s + nds (f.drop i) < 200000 → Ev (fun k => deriv_nodes.l0 k (s : Int) f (f.length : Int) (i : Int)) ((s + nds (f.drop i) : Nat) : Int) := by
  have hll := nds_len f
  induction d with
  | zero =>
    intro i s hi hs
    refine ev_one fun k => ?_
    simp only [deriv_nodes.l0]
    rw [if_neg (by omega), List.drop_eq_nil_of_le (by omega), nds]
    rfl
  | succ d ih =>
    intro i s hi hs
    have h1 := tn_rd f i (by omega)
    have hm := tn_mem f i (by omega)
    have he := hk _ hm
    have hd : f.drop i = rd_T25 f (i : Int) :: f.drop (i + 1) := by rw [h1, List.drop_eq_getElem_cons (by omega : i < f.length)]
    have hn := nds_mem f _ hm
    rw [hd, nds] at hs ⊢
    obtain ⟨y, hy⟩ : ∃ y, rd_T25 f (i : Int) = y := ⟨_, rfl⟩
    rw [hy] at hs he hn ⊢
    have := ih (i + 1) (s + nd y) (by omega) (by omega)
    refine ev_step2 he this fun k e1 e2 => ?_
    simp only [deriv_nodes.l0]
    rw [if_pos (by omega), if_pos (by omega), if_pos (by omega), hy, e1, Option.bind_some, wrap_id (x := (s : Int) + (nd y : Int)) (by omega) (by omega), wrap_succ i (by omega), show (s : Int) + (nd y : Int) = ((s + nd y : Nat) : Int) by omega, e2]
    congr 2
    omega
theorem nodes_ev (x : TNode) : nd x < 100000 → Ev (fun k => deriv_nodes.f k x.f0 x.f1 x.f2 x.f3 x.f4) (nd x : Int) := by
  induction x using node_ind with
  | h x ih =>
    intro hn
    rw [nd_eq] at hn
    have h1 := nodes_loop x.f4 (by omega) (fun y hy => ih y hy (by have := nds_mem x.f4 y hy; omega)) x.f4.length 0 1 (by omega) (by rw [List.drop_zero]; omega)
    refine ev_step h1 fun k e => ?_
    simp only [deriv_nodes.f]
    rw [show ((0 : Nat) : Int) = 0 from rfl, show ((1 : Nat) : Int) = 1 from rfl] at e
    rw [e, List.drop_zero, nd_eq]
    congr 2
    omega
theorem multT_N (x : TNode) (h : SaneN x) : multT x.f0 x.f2 x.f3 = (mulN x.f0 x.f2 x.f3 : Int) ∧ mulN x.f0 x.f2 x.f3 ≤ 21 := by
  obtain ⟨_, h0, h1, l1, h2, h3, h5, hk⟩ := h
  unfold multT mulN mn mx
  by_cases c : x.f0 = 5
  · have := h5 c
    rw [if_pos c, if_pos c]
    by_cases c3 : x.f3 < 0
    · rw [if_pos c3, if_pos c3]
      repeat' split
      all_goals omega
    · rw [if_neg c3, if_neg c3]
      repeat' split
      all_goals omega
  · rw [if_neg c, if_neg c]
    repeat' split
    all_goals omega
theorem sizes_N (t : Nat) (ht : 1 ≤ t) : ∀ (l : List TNode), (∀ y ∈ l, sizeT y ≤ 25 → (szN y : Int) = sizeT y) → ∀ s : Int, 1 ≤ s → sizesT (t : Int) l s ≤ 25 → s + (t : Int) * (szNs l : Int) = sizesT (t : Int) l s
  | [], _, s, _, h => by
    simp only [sizesT, szNs]
    omega
  | y :: l, hy, s, h1, h => by
    simp only [sizesT, szNs] at h ⊢
    have hr := size_rng y
    have hp : sizeT y ≤ (t : Int) * sizeT y := by
      have := Int.mul_le_mul_of_nonneg_right (show (1 : Int) ≤ (t : Int) by omega) (show (0 : Int) ≤ sizeT y by omega)
      omega
    have hm : mn 1000000 (s + (t : Int) * sizeT y) ≤ 25 := by
      have : ∀ (l : List TNode) (a : Int), a ≤ 1000000 → 1 ≤ a → a ≤ sizesT (t : Int) l a := by
        intro l
        induction l with
        | nil => intro a _ _; simp only [sizesT]; omega
        | cons z l ih =>
          intro a ha ha1
          simp only [sizesT]
          have hz := size_rng z
          have : 0 ≤ (t : Int) * sizeT z := Int.mul_nonneg (by omega) (by omega)
          have h2 : a ≤ mn 1000000 (a + (t : Int) * sizeT z) ∧ mn 1000000 (a + (t : Int) * sizeT z) ≤ 1000000 := by unfold mn; split <;> omega
          have := ih _ h2.2 (by omega)
          omega
      have h2 : 1 ≤ mn 1000000 (s + (t : Int) * sizeT y) ∧ mn 1000000 (s + (t : Int) * sizeT y) ≤ 1000000 := by unfold mn; split <;> omega
      have := this l _ h2.2 h2.1
      omega
    have he : mn 1000000 (s + (t : Int) * sizeT y) = s + (t : Int) * sizeT y := by unfold mn at hm ⊢; split at hm <;> (split <;> omega)
    rw [he] at h hm ⊢
    have := sizes_N t ht l (fun z hz => hy z (by simp [hz])) (s + (t : Int) * sizeT y) (by omega) h
    rw [← this, ← hy y (by simp) (by omega), show ((szN y + szNs l : Nat) : Int) = (szN y : Int) + (szNs l : Int) by omega, Int.mul_add]
    omega
theorem size_N (x : TNode) : SaneN x → sizeT x ≤ 25 → (szN x : Int) = sizeT x := by
  induction x using node_ind with
  | h x ih =>
    intro hs h
    have hm := multT_N x hs
    obtain ⟨_, h0, h1, l1, h2, h3, h5, hk⟩ := hs
    have hx : sizeT x = sizesT (multT x.f0 x.f2 x.f3) x.f4 1 := by
      cases x
      rw [sizeT]
    rw [hx, hm.1] at h
    rw [hx, hm.1, szN_eq]
    have := sizes_N (mulN x.f0 x.f2 x.f3) (mulN_pos _ _ _) x.f4 (fun y hy hz => ih y hy (hk y hy) hz) 1 (by omega) h
    rw [← this, Int.natCast_add, Int.natCast_mul]
    omega
theorem nd_sz (x : TNode) : nd x ≤ szN x := by
  induction x using node_ind with
  | h x ih =>
    rw [nd_eq, szN_eq]
    have h1 : ∀ l : List TNode, (∀ y ∈ l, nd y ≤ szN y) → nds l ≤ szNs l := by
      intro l
      induction l with
      | nil => intro _; simp [nds, szNs]
      | cons z l ih2 =>
        intro h
        have := h z (by simp)
        have := ih2 (fun y hy => h y (by simp [hy]))
        simp only [nds, szNs]
        omega
    have h2 := h1 x.f4 ih
    have h3 := Nat.mul_le_mul_right (szNs x.f4) (mulN_pos x.f0 x.f2 x.f3)
    omega
end Go.Proofs.Ytaphbechnjmlgaa.P
namespace Go.Proofs.Ytaphbechnjmlgaa.P
open Go.RowKit Go.Proofs.YtaphbechnjmlgaaW.PrintWords Go.Proofs.YtaphbechnjmlgaaW.PrintLast
set_option linter.unusedVariables false
set_option linter.unusedSimpArgs false

/-- From some numbers of rounds on. -/
def Ev2 {β : Type} (g : Nat → Nat → Option β) (r : β) : Prop := ∃ K, ∀ k n, K ≤ k → K ≤ n → g k n = some r
theorem ev2_now {β : Type} {g : Nat → Nat → Option β} {r : β} (h : ∀ k n, g k n = some r) : Ev2 g r := ⟨0, fun k n _ _ => h k n⟩
theorem ev2_same {α β : Type} {f : Nat → Nat → Option α} {g : Nat → Nat → Option β} {a : α} {r : β} (H : Ev2 f a) (h : ∀ k n, f k n = some a → g k n = some r) : Ev2 g r := by
  obtain ⟨K, H⟩ := H
  exact ⟨K, fun k n hk hn => h k n (H k n hk hn)⟩
theorem ev2_same2 {α β γ : Type} {f : Nat → Nat → Option α} {f2 : Nat → Nat → Option γ} {g : Nat → Nat → Option β} {a : α} {b : γ} {r : β} (H : Ev2 f a) (H2 : Ev2 f2 b) (h : ∀ k n, f k n = some a → f2 k n = some b → g k n = some r) : Ev2 g r := by
  obtain ⟨K, H⟩ := H
  obtain ⟨K2, H2⟩ := H2
  exact ⟨K + K2, fun k n hk hn => h k n (H k n (by omega) (by omega)) (H2 k n (by omega) (by omega))⟩
theorem ev2_step {α β : Type} {f : Nat → Nat → Option α} {g : Nat → Nat → Option β} {a : α} {r : β} (H : Ev2 f a) (h : ∀ k n, f k n = some a → g k (n + 1) = some r) : Ev2 g r := by
  obtain ⟨K, H⟩ := H
  refine ⟨K + 1, fun k n hk hn => ?_⟩
  obtain ⟨n, rfl⟩ : ∃ m, n = m + 1 := ⟨n - 1, by omega⟩
  exact h k n (H k n (by omega) (by omega))
theorem ev2_one {β : Type} {g : Nat → Nat → Option β} {r : β} (h : ∀ k n, g k (n + 1) = some r) : Ev2 g r := ⟨1, fun k n _ hn => by
  obtain ⟨n, rfl⟩ : ∃ m, n = m + 1 := ⟨n - 1, by omega⟩
  exact h k n⟩
theorem ev2_of {α : Type} {f : Nat → Option α} {a : α} (H : Ev f a) : Ev2 (fun k _ => f k) a := by
  obtain ⟨K, H⟩ := H
  exact ⟨K, fun k n hk _ => H k hk⟩
theorem ev_diag {α : Type} {f : Nat → Nat → Option α} {a : α} (H : Ev2 f a) : Ev (fun k => f k k) a := by
  obtain ⟨K, H⟩ := H
  exact ⟨K, fun k hk => H k k hk hk⟩
theorem tr_rd (l : List TRange) (i : Nat) (h : i < l.length) : rd_T52 l (i : Int) = l[i] := by
  unfold rd_T52
  rw [Int.toNat_natCast, List.getD_eq_getElem?_getD, List.getElem?_eq_getElem h, Option.getD_some]
theorem ranges18_loop (a b : List TRange) (hl : a.length = b.length) (hb : a.length < 1152921504606846976) (m : Nat) : ∀ i : Nat, i + m = a.length → ∃ r, Ev (fun k => slices_Equal_api_Range.l0 k a b (a.length : Int) (i : Int)) r ∧ (r = true → a.drop i = b.drop i) := by
  induction m with
  | zero =>
    intro i hi
    refine ⟨true, ev_one fun k => ?_, fun _ => ?_⟩
    · simp only [slices_Equal_api_Range.l0]
      rw [if_neg (by omega)]
    · rw [List.drop_eq_nil_of_le (by omega), List.drop_eq_nil_of_le (by omega)]
  | succ m ih =>
    intro i hi
    obtain ⟨r, e, h⟩ := ih (i + 1) (by omega)
    have ha := tr_rd a i (by omega)
    have hbb := tr_rd b i (by omega)
    by_cases c : (!(((rd_T52 a (i : Int)).f0) == ((rd_T52 b (i : Int)).f0)) || (!(((rd_T52 a (i : Int)).f1) == ((rd_T52 b (i : Int)).f1)))) = true
    · refine ⟨false, ev_one fun k => ?_, fun h => by cases h⟩
      simp only [slices_Equal_api_Range.l0]
      rw [if_pos (by omega), if_pos (by omega), if_pos (by omega), if_pos (by omega), if_pos c]
    · refine ⟨r, ev_step e fun k e => ?_, fun hr => ?_⟩
      · simp only [slices_Equal_api_Range.l0]
        rw [if_pos (by omega), if_pos (by omega), if_pos (by omega), if_pos (by omega), if_neg c, wrap_succ i (by omega)]
        exact e
      · rw [List.drop_eq_getElem_cons (by omega : i < a.length), List.drop_eq_getElem_cons (by omega : i < b.length), h hr, ← ha, ← hbb]
        have hc : (rd_T52 a (i : Int)).f0 = (rd_T52 b (i : Int)).f0 ∧ (rd_T52 a (i : Int)).f1 = (rd_T52 b (i : Int)).f1 := by simpa using c
        congr 1
        generalize rd_T52 a (i : Int) = u at hc
        generalize rd_T52 b (i : Int) = v at hc
        cases u
        cases v
        obtain ⟨rfl, rfl⟩ := hc
        rfl
theorem ranges18_ev (a b : List TRange) (hb : a.length < 1152921504606846976) : ∃ r, Ev (fun k => slices_Equal_api_Range.f k a b) r ∧ (r = true → a = b) := by
  by_cases hl : a.length = b.length
  · obtain ⟨r, e, h⟩ := ranges18_loop a b hl hb a.length 0 (by omega)
    refine ⟨r, ev_same e fun k e => ?_, fun hr => by simpa using h hr⟩
    unfold slices_Equal_api_Range.f
    rw [if_pos (by omega)]
    exact e
  · refine ⟨false, ev_now fun k => ?_, fun h => by cases h⟩
    unfold slices_Equal_api_Range.f
    rw [if_neg (by omega)]
theorem eqS_ev {t : Nat → Nat → TNode → TNode → Option Bool} : ∀ l m : List TNode, l.length = m.length → (∀ x ∈ l, ∀ y, ∃ b, Ev2 (fun k n => t k n x y) b ∧ (b = true → x = y)) → ∃ b, Ev2 (fun k n => eqS (t k n) l m) b ∧ (b = true → l = m)
  | [], [], _, _ => ⟨true, ev2_now fun k n => rfl, fun _ => rfl⟩
  | x :: l, y :: m, hl, h => by
    obtain ⟨b, e, hb⟩ := h x (by simp) y
    obtain ⟨c, e2, hc⟩ := eqS_ev l m (by simpa using hl) (fun z hz => h z (by simp [hz]))
    cases b with
    | false => exact ⟨false, ev2_same e fun k n e => by rw [eqS, e, Option.bind_some, if_neg (by decide)], fun h => by cases h⟩
    | true => exact ⟨c, ev2_same2 e e2 fun k n e e2 => by rw [eqS, e, Option.bind_some, if_pos rfl]; exact e2, fun h => by rw [hb rfl, hc h]⟩
theorem same18_ev (x : TNode) : SaneN x → ∀ y : TNode, ∃ b, Ev2 (fun k n => sameS k n x y) b ∧ (b = true → x = y) := by
  induction x using node_ind with
  | h x ih =>
    rintro ⟨_, h0, h1, l1, h2, h3, h5, hk⟩ y
    by_cases c0 : x.f0 = y.f0
    rotate_left
    · exact ⟨false, ev2_one fun k n => by rw [sameS, if_neg c0], fun h => by cases h⟩
    by_cases c2 : x.f2 = y.f2
    rotate_left
    · exact ⟨false, ev2_one fun k n => by rw [sameS, if_pos c0, if_neg c2], fun h => by cases h⟩
    by_cases c3 : x.f3 = y.f3
    rotate_left
    · exact ⟨false, ev2_one fun k n => by rw [sameS, if_pos c0, if_pos c2, if_neg c3], fun h => by cases h⟩
    obtain ⟨b, e, hb⟩ := ranges18_ev x.f1 y.f1 (by omega)
    have e := ev2_of e
    cases b with
    | false => exact ⟨false, ev2_step e fun k n e => by rw [sameS, if_pos c0, if_pos c2, if_pos c3, e, Option.bind_some, if_neg (by decide)], fun h => by cases h⟩
    | true =>
      by_cases c4 : x.f4.length = y.f4.length
      · obtain ⟨d, e2, hd⟩ := eqS_ev (t := fun k n => sameS k n) x.f4 y.f4 c4 (fun z hz u => ih z hz (hk z hz) u)
        obtain ⟨K, e⟩ := e
        obtain ⟨K2, e2⟩ := e2
        refine ⟨d, ⟨K + K2 + 1, fun k n hk hn => ?_⟩, fun h => ?_⟩
        · obtain ⟨n, rfl⟩ : ∃ m, n = m + 1 := ⟨n - 1, by omega⟩
          show sameS k (n + 1) x y = some d
          rw [sameS, if_pos c0, if_pos c2, if_pos c3, show slices_Equal_api_Range.f k x.f1 y.f1 = some true from e k n (by omega) (by omega), Option.bind_some, if_pos rfl, if_pos c4]
          exact e2 k n (by omega) (by omega)
        · have h1 := hb rfl
          have h4 := hd h
          cases x
          cases y
          simp only at c0 c2 c3 h1 h4
          rw [c0, c2, c3, h1, h4]
      · exact ⟨false, ev2_step e fun k n e => by rw [sameS, if_pos c0, if_pos c2, if_pos c3, e, Option.bind_some, if_pos rfl, if_neg c4], fun h => by cases h⟩
theorem any18_ev {t : Nat → Nat → TNode → Option Bool} {P : TNode → Prop} : ∀ l : List TNode, (∀ x ∈ l, ∃ b, Ev2 (fun k n => t k n x) b ∧ (b = true → P x)) → ∃ b, Ev2 (fun k n => anyS (t k n) l) b ∧ (b = true → ∃ x ∈ l, P x)
  | [], _ => ⟨false, ev2_now fun k n => rfl, fun h => by cases h⟩
  | x :: l, h => by
    obtain ⟨b, e, hb⟩ := h x (by simp)
    obtain ⟨c, e2, hc⟩ := any18_ev l (fun z hz => h z (by simp [hz]))
    cases b with
    | true => exact ⟨true, ev2_same e fun k n e => by rw [anyS, e, Option.bind_some, if_pos rfl], fun _ => ⟨x, by simp, hb rfl⟩⟩
    | false =>
      refine ⟨c, ev2_same2 e e2 fun k n e e2 => by rw [anyS, e, Option.bind_some, if_neg (by decide)]; exact e2, fun h => ?_⟩
      obtain ⟨z, hz, hp⟩ := hc h
      exact ⟨z, by simp [hz], hp⟩
/-- What was put together of some trees: the same of them, no more nodes. -/
structure Gath (acc zs res : List TNode) : Prop where
  mem : ∀ z, z ∈ res ↔ z ∈ acc ∨ z ∈ zs
  nod : nds res ≤ nds acc + nds zs
theorem addO_ev (acc : List TNode) (y : TNode) (ha : ∀ z ∈ acc, SaneN z) (hn : nds acc < 1000000) : ∃ res, Ev2 (fun k n => addO k n acc y) res ∧ Gath acc [y] res := by
  obtain ⟨b, e, hb⟩ := any18_ev (t := fun k n x => sameS k n x y) (P := fun x => x = y) acc (fun x hx => same18_ev x (ha x hx) y)
  have := nds_len acc
  cases b with
  | true =>
    obtain ⟨x, hx, rfl⟩ := hb rfl
    exact ⟨acc, ev2_same e fun k n e => by rw [addO, e, Option.bind_some, if_pos rfl], ⟨fun z => by simp only [List.mem_singleton]; exact ⟨.inl, fun h => by rcases h with h | rfl; exact h; exact hx⟩, by omega⟩⟩
  | false => exact ⟨acc ++ [y], ev2_same e fun k n e => by rw [addO, e, Option.bind_some, if_neg (by decide), if_pos (by omega)], ⟨fun z => by simp, by rw [nds_app]; omega⟩⟩
theorem addsO_ev : ∀ (zs acc : List TNode), (∀ z ∈ acc, SaneN z) → (∀ z ∈ zs, SaneN z) → nds acc + nds zs < 1000000 → ∃ res, Ev2 (fun k n => addsO k n acc zs) res ∧ Gath acc zs res
  | [], acc, _, _, _ => ⟨acc, ev2_now fun k n => rfl, ⟨fun z => by simp, by omega⟩⟩
  | y :: zs, acc, ha, hz, hn => by
    rw [nds] at hn
    obtain ⟨a, e1, g1⟩ := addO_ev acc y ha (by omega)
    have hy1 : nds [y] = nd y := by rw [nds, nds]; omega
    have := g1.nod
    obtain ⟨r, e2, g2⟩ := addsO_ev zs a (fun z hz2 => by
      rcases (g1.mem z).1 hz2 with h | h
      · exact ha z h
      · exact hz z (by simp at h; simp [h])) (fun z h => hz z (by simp [h])) (by omega)
    have := g2.nod
    refine ⟨r, ev2_same2 e1 e2 fun k n e1 e2 => by rw [addsO, e1, Option.bind_some]; exact e2, ⟨fun z => ?_, by rw [nds]; omega⟩⟩
    simp only [g2.mem, g1.mem, List.mem_cons, List.not_mem_nil, or_false]
    constructor
    · rintro ((h | h) | h)
      · exact .inl h
      · exact .inr (.inl h)
      · exact .inr (.inr h)
    · rintro (h | h | h)
      · exact .inl (.inl h)
      · exact .inl (.inr h)
      · exact .inr h
/-- What a tree is put into an or as. -/
def flat (x : TNode) : List TNode := if x.f0 = 0 then [] else if x.f0 = 4 then x.f4 else [x]
theorem sane_kids {x : TNode} (h : SaneN x) : ∀ y ∈ x.f4, SaneN y := by
  obtain ⟨_, h0, h1, l1, h2, h3, h5, hk⟩ := h
  exact hk
theorem flat_sane {x : TNode} (h : SaneN x) : ∀ y ∈ flat x, SaneN y := by
  unfold flat
  split
  · simp
  · split
    · exact sane_kids h
    · simp [h]
theorem flat_nds (x : TNode) : nds (flat x) ≤ nd x := by
  unfold flat
  split
  · simp [nds]
  · split
    · rw [nd_eq]; omega
    · rw [nds, nds]; omega
theorem flat_M (l : List Int) (x : TNode) (i j : Int) : (∃ y ∈ flat x, M l y i j) ↔ M l x i j := by
  unfold flat
  split
  · rename_i c
    have := M_0 l x i j (by omega)
    simp [this]
  · split
    · rename_i c
      rw [M_4 l x i j c, MO_iff]
    · simp
theorem okids_ev : ∀ (zs acc : List TNode), (∀ z ∈ acc, SaneN z) → (∀ z ∈ zs, SaneN z) → nds acc + nds zs < 1000000 → ∃ res, Ev2 (fun k n => okids k n zs acc) res ∧ (∀ z, z ∈ res ↔ z ∈ acc ∨ ∃ x ∈ zs, z ∈ flat x) ∧ nds res ≤ nds acc + nds zs
  | [], acc, _, _, _ => ⟨acc, ev2_now fun k n => rfl, fun z => by simp, by omega⟩
  | x :: zs, acc, ha, hz, hn => by
    rw [nds] at hn ⊢
    have hf := flat_nds x
    obtain ⟨a, e1, g1⟩ := addsO_ev (flat x) acc ha (flat_sane (hz x (by simp))) (by omega)
    have := g1.nod
    obtain ⟨r, e2, g2, g3⟩ := okids_ev zs a (fun z hz2 => by
      rcases (g1.mem z).1 hz2 with h | h
      · exact ha z h
      · exact flat_sane (hz x (by simp)) z h) (fun z h => hz z (by simp [h])) (by omega)
    refine ⟨r, ?_, fun z => ?_, by omega⟩
    · refine ev2_same2 e1 e2 fun k n e1 e2 => ?_
      rw [okids]
      unfold flat at e1
      by_cases c : x.f0 = 0
      · rw [if_pos c] at e1 ⊢
        rw [addsO] at e1
        obtain rfl := Option.some.inj e1
        exact e2
      · rw [if_neg c] at e1 ⊢
        rw [e1, Option.bind_some]
        exact e2
    · rw [g2, g1.mem]
      constructor
      · rintro ((h | h) | ⟨y, hy, h⟩)
        · exact .inl h
        · exact .inr ⟨x, by simp, h⟩
        · exact .inr ⟨y, by simp [hy], h⟩
      · rintro (h | ⟨y, hy, h⟩)
        · exact .inl (.inl h)
        · rcases List.mem_cons.1 hy with rfl | hy
          · exact .inl (.inr h)
          · exact .inr ⟨y, hy, h⟩
theorem sane_none : SaneN ⟨0, [], 0, 0, []⟩ := .mk _ ⟨by decide, by decide⟩ (fun r hr => by cases hr) (by decide) (by unfold i64b; decide) (by unfold i64b; decide) (fun e => absurd e (by decide)) (fun y hy => by cases hy)
theorem sane_empty : SaneN ⟨1, [], 0, 0, []⟩ := .mk _ ⟨by decide, by decide⟩ (fun r hr => by cases hr) (by decide) (by unfold i64b; decide) (by unfold i64b; decide) (fun e => absurd e (by decide)) (fun y hy => by cases hy)
theorem sane_list (kd : Int) (hk : kd = 3 ∨ kd = 4) (ks : List TNode) (h : ∀ y ∈ ks, SaneN y) : SaneN ⟨kd, [], 0, 0, ks⟩ := .mk _ (show 0 ≤ kd ∧ kd ≤ 7 by omega) (fun r hr => by cases hr) (show ([] : List TRange).length < 8796093022208 by decide) (show i64b 0 by unfold i64b; decide) (show i64b 0 by unfold i64b; decide) (fun e => absurd (show kd = 5 from e) (by omega)) h
/-- Either of some trees: an answer, which matches what they match. -/
theorem or18 (l : List Int) (zs : List TNode) (hz : ∀ z ∈ zs, SaneN z) (hn : nds zs < 1000000) : ∃ y, Ev (fun k => orN' k zs) y ∧ SaneN y ∧ nd y ≤ nds zs + 1 ∧ ∀ i j, M l y i j ↔ ∃ z ∈ zs, M l z i j := by
  obtain ⟨ks, e, hm, hd⟩ := okids_ev zs [] (fun z h => by cases h) hz (by rw [nds]; omega)
  rw [nds] at hd
  have hs : ∀ z ∈ ks, SaneN z := fun z h => by
    rcases (hm z).1 h with h | ⟨x, hx, h⟩
    · cases h
    · exact flat_sane (hz x hx) z h
  refine ⟨orK ks, ev_same (ev_diag e) fun k e => by rw [orN', e]; rfl, ?_, ?_, fun i j => ?_⟩
  · match ks, hs with
    | [], _ => exact sane_none
    | [y], hs => exact hs y (by simp)
    | a :: b :: r, hs => exact sane_list 4 (.inr rfl) _ hs
  · match ks, hd with
    | [], _ => rw [orK, nd, nds]; omega
    | [y], hd => rw [orK]; rw [nds, nds] at hd; omega
    | a :: b :: r, hd =>
      show nd ⟨4, [], 0, 0, a :: b :: r⟩ ≤ _
      rw [nd]
      omega
  · have h1 : M l (orK ks) i j ↔ ∃ z ∈ ks, M l z i j := by
      match ks with
      | [] =>
        have := M_0 l (orK []) i j (.inl (by decide))
        simp [this]
      | [y] => simp [orK]
      | a :: b :: r => exact (M_4 l _ i j rfl).trans (MO_iff l i j _)
    rw [h1]
    constructor
    · rintro ⟨z, hz2, h⟩
      rcases (hm z).1 hz2 with h2 | ⟨x, hx, h2⟩
      · cases h2
      · exact ⟨x, hx, (flat_M l x i j).1 ⟨z, h2, h⟩⟩
    · rintro ⟨x, hx, h⟩
      obtain ⟨z, hz2, h2⟩ := (flat_M l x i j).2 h
      exact ⟨z, (hm z).2 (.inr ⟨x, hx, hz2⟩), h2⟩
theorem dkids_ev (l : List Int) : ∀ (zs acc : List TNode), (∀ z ∈ acc, SaneN z) → (∀ z ∈ zs, SaneN z) → nds acc + nds zs < 1000000 → ∃ d, dkids zs acc = some d ∧ (∀ ks, d = some ks → (∀ z ∈ ks, SaneN z) ∧ nds ks ≤ nds acc + nds zs ∧ ∀ i j, MJ l ks i j ↔ ∃ t, MJ l acc i t ∧ MJ l zs t j) ∧ (d = none → ∀ i j, ¬ MJ l zs i j)
  | [], acc, ha, _, _ => ⟨some acc, rfl, fun ks h => by
      obtain rfl := Option.some.inj h
      refine ⟨ha, by omega, fun i j => ?_⟩
      simp only [MJ]
      exact ⟨fun h => ⟨j, h, rfl⟩, fun ⟨t, h1, h2⟩ => h2 ▸ h1⟩, fun h => by cases h⟩
  | z :: zs, acc, ha, hz, hn => by
    rw [nds] at hn
    have hzz := hz z (by simp)
    have := nds_len acc
    have := nd_eq z
    have := nds_len z.f4
    rw [dkids]
    by_cases c0 : z.f0 = 0
    · rw [if_pos c0]
      refine ⟨none, rfl, (fun ks h => by cases h), fun _ i j h => ?_⟩
      rw [MJ] at h
      obtain ⟨t, h, _⟩ := h
      exact M_0 l z i t (by omega) h
    rw [if_neg c0]
    by_cases c1 : z.f0 = 1
    · rw [if_pos c1]
      obtain ⟨d, e, h1, h2⟩ := dkids_ev l zs acc ha (fun y hy => hz y (by simp [hy])) (by omega)
      have hq : ∀ i j, MJ l (z :: zs) i j ↔ MJ l zs i j := fun i j => by
        rw [MJ]
        constructor
        · rintro ⟨t, h, h'⟩
          rw [M_1 l z i t c1] at h
          exact h ▸ h'
        · intro h
          exact ⟨i, (M_1 l z i i c1).2 rfl, h⟩
      refine ⟨d, e, fun ks h => ?_, fun h i j h' => h2 h i j ((hq i j).1 h')⟩
      obtain ⟨g1, g2, g3⟩ := h1 ks h
      refine ⟨g1, by rw [nds]; omega, fun i j => ?_⟩
      rw [g3]
      simp only [hq]
    rw [if_neg c1]
    by_cases c3 : z.f0 = 3
    · rw [if_pos c3, if_pos (by omega)]
      obtain ⟨d, e, h1, h2⟩ := dkids_ev l zs (acc ++ z.f4) (fun y hy => by
        rcases List.mem_append.1 hy with h | h
        · exact ha y h
        · exact sane_kids hzz y h) (fun y hy => hz y (by simp [hy])) (by rw [nds_app]; omega)
      refine ⟨d, e, fun ks h => ?_, fun h i j h' => ?_⟩
      · obtain ⟨g1, g2, g3⟩ := h1 ks h
        rw [nds_app] at g2
        refine ⟨g1, by rw [nds]; omega, fun i j => ?_⟩
        rw [g3]
        simp only [MJ_app]
        constructor
        · rintro ⟨t, ⟨u, q1, q2⟩, q3⟩
          exact ⟨u, q1, by rw [MJ]; exact ⟨t, (M_3 l z u t c3).2 q2, q3⟩⟩
        · rintro ⟨u, q1, q2⟩
          rw [MJ] at q2
          obtain ⟨t, q2, q3⟩ := q2
          exact ⟨t, ⟨u, q1, (M_3 l z u t c3).1 q2⟩, q3⟩
      · rw [MJ] at h'
        obtain ⟨t, _, q⟩ := h'
        exact h2 h t j q
    rw [if_neg c3, if_pos (by omega)]
    obtain ⟨d, e, h1, h2⟩ := dkids_ev l zs (acc ++ [z]) (fun y hy => by
      rcases List.mem_append.1 hy with h | h
      · exact ha y h
      · rw [List.mem_singleton.1 h]; exact hzz) (fun y hy => hz y (by simp [hy])) (by rw [nds_app, nds, nds]; omega)
    refine ⟨d, e, fun ks h => ?_, fun h i j h' => ?_⟩
    · obtain ⟨g1, g2, g3⟩ := h1 ks h
      rw [nds_app, nds, nds] at g2
      refine ⟨g1, by rw [nds]; omega, fun i j => ?_⟩
      rw [g3]
      simp only [MJ_app, MJ_one]
      constructor
      · rintro ⟨t, ⟨u, q1, q2⟩, q3⟩
        exact ⟨u, q1, by rw [MJ]; exact ⟨t, q2, q3⟩⟩
      · rintro ⟨u, q1, q2⟩
        rw [MJ] at q2
        obtain ⟨t, q2, q3⟩ := q2
        exact ⟨t, ⟨u, q1, q2⟩, q3⟩
    · rw [MJ] at h'
      obtain ⟨t, _, q⟩ := h'
      exact h2 h t j q
theorem join18 (l : List Int) (zs : List TNode) (hz : ∀ z ∈ zs, SaneN z) (hn : nds zs < 1000000) : ∃ d, dkids zs [] = some d ∧ SaneN (joinK d) ∧ nd (joinK d) ≤ nds zs + 1 ∧ ∀ i j, M l (joinK d) i j ↔ MJ l zs i j := by
  obtain ⟨d, e, h1, h2⟩ := dkids_ev l zs [] (fun z h => by cases h) hz (by rw [nds]; omega)
  refine ⟨d, e, ?_⟩
  cases d with
  | none =>
    refine ⟨sane_none, by rw [joinK, nd, nds]; omega, fun i j => ⟨fun h => absurd h (M_0 l _ i j (.inl (by decide))), fun h => absurd h (h2 rfl i j)⟩⟩
  | some ks =>
    obtain ⟨g1, g2, g3⟩ := h1 ks rfl
    have g4 : ∀ i j, MJ l ks i j ↔ MJ l zs i j := fun i j => by
      rw [g3]
      simp only [MJ]
      exact ⟨fun ⟨t, q1, q2⟩ => q1 ▸ q2, fun h => ⟨i, rfl, h⟩⟩
    rw [nds] at g2
    match ks, g1, g2, g4 with
    | [], _, _, g4 => exact ⟨sane_empty, by rw [joinK, nd, nds]; omega, fun i j => by rw [← g4, MJ]; exact M_1 l _ i j rfl⟩
    | [y], g1, g2, g4 => exact ⟨g1 y (by simp), by rw [joinK]; rw [nds, nds] at g2; omega, fun i j => by rw [← g4, MJ_one]; rfl⟩
    | a :: b :: r, g1, g2, g4 => exact ⟨sane_list 3 (.inl rfl) _ g1, by show nd ⟨3, [], 0, 0, a :: b :: r⟩ ≤ _; rw [nd]; omega, fun i j => by rw [← g4]; exact M_3 l _ i j rfl⟩
end Go.Proofs.Ytaphbechnjmlgaa.P
namespace Go.Proofs.Ytaphbechnjmlgaa.P
open Go.RowKit Go.Proofs.YtaphbechnjmlgaaW.PrintWords Go.Proofs.YtaphbechnjmlgaaW.PrintLast
set_option linter.unusedVariables false
set_option linter.unusedSimpArgs false

theorem anyB_ok {t : TNode → Option Bool} {Q : TNode → Prop} : ∀ l : List TNode, (∀ y ∈ l, ∃ b, t y = some b ∧ (b = true ↔ Q y)) → ∃ b, anyS t l = some b ∧ (b = true ↔ ∃ y ∈ l, Q y)
  | [], _ => ⟨false, rfl, by simp⟩
  | y :: l, h => by
    obtain ⟨b, e, hb⟩ := h y (by simp)
    obtain ⟨c, e2, hc⟩ := anyB_ok l (fun z hz => h z (by simp [hz]))
    rw [anyS, e, Option.bind_some]
    cases b with
    | true => exact ⟨true, by rw [if_pos rfl], by simp [hb.1 rfl]⟩
    | false =>
      have hn : ¬ Q y := fun q => by have := hb.2 q; cases this
      exact ⟨c, by rw [if_neg (by decide), e2], by simp [hc, hn]⟩
theorem MJ_null (l : List Int) (i : Int) (h0 : 0 ≤ i) (h1 : i ≤ (l.length : Int)) : ∀ ys : List TNode, MJ l ys i i ↔ ∀ y ∈ ys, M l y i i
  | [] => by simp [MJ]
  | y :: ys => by
    rw [MJ]
    constructor
    · rintro ⟨t, q1, q2⟩
      have b1 := bnd_M l y i t q1 h0 h1
      have b2 := bnd_MJ l ys (fun z _ => bnd_M l z) t i q2 (by omega) (by omega)
      obtain rfl : t = i := by omega
      have := (MJ_null l t h0 h1 ys).1 q2
      intro z hz
      rcases List.mem_cons.1 hz with rfl | hz
      · exact q1
      · exact this z hz
    · intro h
      exact ⟨i, h y (by simp), (MJ_null l i h0 h1 ys).2 fun z hz => h z (by simp [hz])⟩
theorem times_null {R : Int → Int → Prop} {i : Int} (h : R i i) : ∀ m, Times R m i i
  | 0 => rfl
  | m + 1 => ⟨i, h, times_null h m⟩
theorem null_M (l : List Int) (i : Nat) (hi : i ≤ l.length) (x : TNode) : SaneN x → ∀ k, dep x ≤ k → ∃ b, nullS ((i : Int) == 0) ((i : Int) == (l.length : Int)) k x = some b ∧ (b = true ↔ M l x i i) := by
  induction x using node_ind with
  | h x ih =>
    rintro ⟨_, h0, h1, l1, h2, h3, h5, hk⟩ k hd
    obtain ⟨k, rfl⟩ : ∃ m', k = m' + 1 := ⟨k - 1, by rw [dep_eq] at hd; omega⟩
    have ihk : ∀ y ∈ x.f4, ∃ b, nullS ((i : Int) == 0) ((i : Int) == (l.length : Int)) k y = some b ∧ (b = true ↔ M l y i i) := fun y hy => ih y hy (hk y hy) k (by have := dep_kid hy; omega)
    rw [nullS]
    by_cases c1 : x.f0 = 1
    · exact ⟨true, by rw [if_pos c1], by rw [M_1 l x _ _ c1]; simp⟩
    rw [if_neg c1]
    by_cases c6 : x.f0 = 6
    · exact ⟨_, by rw [if_pos c6], by rw [M_6 l x _ _ c6, beq_iff_eq]; simp⟩
    rw [if_neg c6]
    by_cases c7 : x.f0 = 7
    · exact ⟨_, by rw [if_pos c7], by rw [M_7 l x _ _ c7, beq_iff_eq]; simp⟩
    rw [if_neg c7]
    by_cases c3 : x.f0 = 3
    · rw [if_pos c3]
      obtain ⟨b, e, hb⟩ := anyB_ok (t := fun y => (nullS ((i : Int) == 0) ((i : Int) == (l.length : Int)) k y).map (!·)) (Q := fun y => ¬ M l y i i) x.f4 (fun y hy => by
        obtain ⟨b, e, hb⟩ := ihk y hy
        exact ⟨!b, by rw [e]; rfl, by rw [← hb]; cases b <;> simp⟩)
      refine ⟨!b, by rw [e]; rfl, ?_⟩
      rw [M_3 l x _ _ c3, MJ_null l i (by omega) (by omega)]
      cases b with
      | true =>
        obtain ⟨y, hy, hq⟩ := hb.1 rfl
        constructor
        · intro h
          cases h
        · intro h
          exact absurd (h y hy) hq
      | false =>
        refine ⟨fun _ y hy => ?_, fun _ => rfl⟩
        by_cases q : M l y i i
        · exact q
        · have := hb.2 ⟨y, hy, q⟩
          cases this
    rw [if_neg c3]
    by_cases c4 : x.f0 = 4
    · rw [if_pos c4]
      obtain ⟨b, e, hb⟩ := anyB_ok x.f4 ihk
      exact ⟨b, e, by rw [hb, M_4 l x _ _ c4, MO_iff]⟩
    rw [if_neg c4]
    by_cases c5 : x.f0 = 5
    · rw [if_pos c5]
      have g := h5 c5
      obtain ⟨y, hy⟩ : ∃ y, x.f4 = [y] := List.length_eq_one_iff.1 g.1
      rw [if_pos ⟨g.1, by omega⟩, M_5' l x _ _ c5 y hy]
      by_cases c2 : x.f2 ≤ 0
      · rw [if_pos c2]
        refine ⟨true, rfl, fun _ => ⟨by omega, 0, by omega, by omega, rfl⟩, fun _ => rfl⟩
      · rw [if_neg c2, show x.f4.getD 0 z25 = y by rw [hy]; rfl]
        obtain ⟨b, e, hb⟩ := ihk y (by rw [hy]; simp)
        refine ⟨b, e, hb.trans ⟨fun h => ⟨by omega, x.f2.toNat, by omega, by omega, times_null h _⟩, ?_⟩⟩
        rintro ⟨_, m, q1, q2, q3⟩
        obtain ⟨m, rfl⟩ : ∃ m', m = m' + 1 := ⟨m - 1, by omega⟩
        obtain ⟨t, q4, q5⟩ := q3
        have b1 := bnd_M l y _ _ q4 (by omega) (by omega)
        have b2 := bnd_times (bnd_M l y) m _ _ q5 (by omega) (by omega)
        obtain rfl : t = i := by omega
        exact q4
    · rw [if_neg c5]
      refine ⟨false, rfl, ?_⟩
      simp only [Bool.false_eq_true, false_iff]
      by_cases c2 : x.f0 = 2
      · rw [M_2 l x _ _ c2]
        omega
      · exact M_0 l x _ _ (by omega)
theorem same18_refl (x : TNode) : SaneN x → Ev2 (fun k n => sameS k n x x) true := by
  induction x using node_ind with
  | h x ih =>
    rintro ⟨_, h0, h1, l1, h2, h3, h5, hk⟩
    have hr : ∀ (a : List TRange) (m : Nat), a.length < 1152921504606846976 → ∀ i : Nat, i + m = a.length → Ev (fun k => slices_Equal_api_Range.l0 k a a (a.length : Int) (i : Int)) true := by
      intro a m ha
      induction m with
      | zero =>
        intro i hi
        refine ev_one fun k => ?_
        simp only [slices_Equal_api_Range.l0]
        rw [if_neg (by omega)]
      | succ m ihm =>
        intro i hi
        refine ev_step (ihm (i + 1) (by omega)) fun k e => ?_
        simp only [slices_Equal_api_Range.l0]
        rw [if_pos (by omega), if_pos (by omega), if_pos (by omega), if_pos (by omega), if_neg (by simp), wrap_succ i (by omega)]
        exact e
    have he : ∀ ks : List TNode, (∀ y ∈ ks, Ev2 (fun k n => sameS k n y y) true) → Ev2 (fun k n => eqS (sameS k n) ks ks) true := by
      intro ks
      induction ks with
      | nil => intro _; exact ev2_now fun k n => rfl
      | cons y ks ihk =>
        intro h
        exact ev2_same2 (h y (by simp)) (ihk fun z hz => h z (by simp [hz])) fun k n e e2 => by rw [eqS, e, Option.bind_some, if_pos rfl]; exact e2
    obtain ⟨K, e⟩ := hr x.f1 x.f1.length (by omega) 0 (by omega)
    obtain ⟨K2, e2⟩ := he x.f4 (fun y hy => ih y hy (hk y hy))
    refine ⟨K + K2 + 1, fun k n hk hn => ?_⟩
    obtain ⟨n, rfl⟩ : ∃ m, n = m + 1 := ⟨n - 1, by omega⟩
    show sameS k (n + 1) x x = some true
    have e3 : slices_Equal_api_Range.f k x.f1 x.f1 = some true := by
      unfold slices_Equal_api_Range.f
      rw [if_pos rfl]
      exact e k (by omega)
    rw [sameS, if_pos rfl, if_pos rfl, if_pos rfl, e3, Option.bind_some, if_pos rfl, if_pos rfl]
    exact e2 k n (by omega) (by omega)
/-- What is wanted of what is left of a tree behind the character at a place. -/
structure Left (l : List Int) (i : Nat) (x y : TNode) : Prop where
  sane : SaneN y
  nod : nd y ≤ 3 * (szN x * szN x)
  sem : ∀ j, M l y ((i : Int) + 1) j ↔ M l x i j ∧ (i : Int) < j
section
variable (l : List Int) (i : Nat) (hi : i < l.length)
abbrev stepE (l : List Int) (i : Nat) (k n : Nat) (x : TNode) : Option TNode := stepS k (rd l (i : Int)) ((i : Int) == 0) n x
def bJ : List TNode → Nat
  | [] => 0
  | y :: ys => 3 * (szN y * szN y) + nds ys + 1 + bJ ys
def bO : List TNode → Nat
  | [] => 0
  | y :: ys => 3 * (szN y * szN y) + bO ys
theorem nds_szs : ∀ ys : List TNode, nds ys ≤ szNs ys
  | [] => Nat.le_refl _
  | y :: ys => by
    have := nd_sz y
    have := nds_szs ys
    rw [nds, szNs]
    omega
theorem szN_pos (x : TNode) : 1 ≤ szN x := by
  rw [szN_eq]
  omega
theorem sq_add (a b : Nat) : (a + b) * (a + b) = a * a + b * b + 2 * (a * b) := by
  rw [Nat.add_mul, Nat.mul_add, Nat.mul_add, Nat.mul_comm b a]
  omega
theorem bO_le : ∀ ys : List TNode, bO ys ≤ 3 * (szNs ys * szNs ys)
  | [] => Nat.zero_le _
  | y :: ys => by
    have := bO_le ys
    rw [bO, szNs, sq_add]
    omega
theorem bJ_le : ∀ ys : List TNode, bJ ys ≤ 3 * (szNs ys * szNs ys) + szNs ys
  | [] => Nat.zero_le _
  | y :: ys => by
    have h1 := bJ_le ys
    have h2 := nds_szs ys
    have h3 := szN_pos y
    have h4 : szNs ys ≤ szN y * szNs ys := Nat.le_mul_of_pos_left _ h3
    rw [bJ, szNs, sq_add]
    omega
theorem sq25 {a : Nat} (h : a ≤ 25) : a * a ≤ 625 := Nat.le_trans (Nat.mul_le_mul h h) (by decide)
theorem map_ev : ∀ (ks all : List TNode), (∀ y ∈ ks, ∃ z, Ev2 (fun k n => stepE l i k n y) z ∧ Left l i y z) → (∀ z ∈ all, SaneN z) → nds all + bO ks < 1000000 →
    ∃ res, Ev2 (fun k n => mapO (stepS k (rd l (i : Int)) ((i : Int) == 0) n) ks all) res ∧ (∀ z ∈ res, SaneN z) ∧ nds res ≤ nds all + bO ks ∧ ∀ j, (∃ z ∈ res, M l z ((i : Int) + 1) j) ↔ (∃ z ∈ all, M l z ((i : Int) + 1) j) ∨ ((∃ y ∈ ks, M l y i j) ∧ (i : Int) < j)
  | [], all, _, ha, _ => ⟨all, ev2_now fun k n => rfl, ha, by rw [bO]; omega, fun j => by simp⟩
  | y :: ks, all, h, ha, hn => by
    rw [bO] at hn
    obtain ⟨z, e, g⟩ := h y (by simp)
    have := g.nod
    have hlen := nds_len all
    have h1 : nds (all ++ [z]) = nds all + nd z := by rw [nds_app, nds, nds]; omega
    obtain ⟨res, e2, s2, n2, m2⟩ := map_ev ks (all ++ [z]) (fun u hu => h u (by simp [hu])) (fun u hu => by
      rcases List.mem_append.1 hu with hu | hu
      · exact ha u hu
      · rw [List.mem_singleton.1 hu]; exact g.sane) (by omega)
    refine ⟨res, ev2_same2 e e2 fun k n e e2 => by rw [mapO, if_pos (by omega), show stepS k (rd l (i : Int)) ((i : Int) == 0) n y = some z from e, Option.bind_some]; exact e2, s2, by rw [bO]; omega, fun j => ?_⟩
    rw [m2]
    constructor
    · rintro (⟨u, hu, q⟩ | ⟨⟨u, hu, q⟩, q2⟩)
      · rcases List.mem_append.1 hu with hu | hu
        · exact .inl ⟨u, hu, q⟩
        · rw [List.mem_singleton.1 hu] at q
          have := (g.sem j).1 q
          exact .inr ⟨⟨y, by simp, this.1⟩, this.2⟩
      · exact .inr ⟨⟨u, by simp [hu], q⟩, q2⟩
    · rintro (⟨u, hu, q⟩ | ⟨⟨u, hu, q⟩, q2⟩)
      · exact .inl ⟨u, by simp [hu], q⟩
      · rcases List.mem_cons.1 hu with rfl | hu
        · exact .inl ⟨z, by simp, (g.sem j).2 ⟨q, q2⟩⟩
        · exact .inr ⟨⟨u, hu, q⟩, q2⟩
include hi in
theorem null_E (x : TNode) (hx : SaneN x) : ∃ b, Ev2 (fun k _ => nullS ((i : Int) == 0) false k x) b ∧ (b = true ↔ M l x i i) := by
  have hf : ((i : Int) == (l.length : Int)) = false := beq_eq_false_iff_ne.mpr (by omega)
  obtain ⟨b, e, hb⟩ := null_M l i (by omega) x hx (dep x) (Nat.le_refl _)
  refine ⟨b, ⟨dep x, fun k n hk _ => ?_⟩, hb⟩
  obtain ⟨b', e', hb'⟩ := null_M l i (by omega) x hx k hk
  rw [hf] at e'
  show nullS ((i : Int) == 0) false k x = some b
  rw [e', show b' = b by rw [Bool.eq_iff_iff, hb, hb']]
include hi in
theorem sjoin_ev : ∀ (ks all : List TNode), (∀ y ∈ ks, SaneN y) → (∀ y ∈ ks, ∃ z, Ev2 (fun k n => stepE l i k n y) z ∧ Left l i y z) → (∀ z ∈ all, SaneN z) → nds all + bJ ks < 1000000 →
    ∃ res, Ev2 (fun k n => sjoinL (stepS k (rd l (i : Int)) ((i : Int) == 0) n) (nullS ((i : Int) == 0) false k) ks all) res ∧ (∀ z ∈ res, SaneN z) ∧ nds res ≤ nds all + bJ ks ∧ ∀ j, (∃ z ∈ res, M l z ((i : Int) + 1) j) ↔ (∃ z ∈ all, M l z ((i : Int) + 1) j) ∨ (MJ l ks i j ∧ (i : Int) < j)
  | [], all, _, _, ha, _ => ⟨all, ev2_now fun k n => rfl, ha, by rw [bJ]; omega, fun j => by
      simp only [MJ]
      constructor
      · exact .inl
      · rintro (h | h)
        · exact h
        · omega⟩
  | y :: ks, all, hs, h, ha, hn => by
    rw [bJ] at hn
    obtain ⟨z, e, g⟩ := h y (by simp)
    have hg := g.nod
    have hlen := nds_len all
    have hlk := nds_len ks
    obtain ⟨d, ed, sd, nd2, md⟩ := join18 l (z :: ks) (fun u hu => by
      rcases List.mem_cons.1 hu with rfl | hu
      · exact g.sane
      · exact hs u (by simp [hu])) (by rw [nds]; omega)
    rw [nds] at nd2
    obtain ⟨b, eb, hb⟩ := null_E l i hi y (hs y (by simp))
    have h1 : nds (all ++ [joinK d]) = nds all + nd (joinK d) := by rw [nds_app, nds, nds]; omega
    have hsa : ∀ u ∈ all ++ [joinK d], SaneN u := fun u hu => by
      rcases List.mem_append.1 hu with hu | hu
      · exact ha u hu
      · rw [List.mem_singleton.1 hu]; exact sd
    -- what the first one's step gives
    have ht : ∀ j, M l (joinK d) ((i : Int) + 1) j ↔ ∃ t, (M l y i t ∧ (i : Int) < t) ∧ MJ l ks t j := fun j => by
      rw [md, MJ]
      exact ⟨fun ⟨t, q1, q2⟩ => ⟨t, (g.sem t).1 q1, q2⟩, fun ⟨t, q1, q2⟩ => ⟨t, (g.sem t).2 q1, q2⟩⟩
    have hall : ∀ j, (∃ u ∈ all ++ [joinK d], M l u ((i : Int) + 1) j) ↔ (∃ u ∈ all, M l u ((i : Int) + 1) j) ∨ ∃ t, (M l y i t ∧ (i : Int) < t) ∧ MJ l ks t j := fun j => by
      rw [← ht]
      constructor
      · rintro ⟨u, hu, q⟩
        rcases List.mem_append.1 hu with hu | hu
        · exact .inl ⟨u, hu, q⟩
        · rw [List.mem_singleton.1 hu] at q
          exact .inr q
      · rintro (⟨u, hu, q⟩ | q)
        · exact ⟨u, by simp [hu], q⟩
        · exact ⟨_, by simp, q⟩
    have hsp : ∀ j, (MJ l (y :: ks) i j ∧ (i : Int) < j) ↔ (∃ t, (M l y i t ∧ (i : Int) < t) ∧ MJ l ks t j) ∨ (M l y i i ∧ MJ l ks i j ∧ (i : Int) < j) := fun j => by
      rw [MJ]
      constructor
      · rintro ⟨⟨t, q1, q2⟩, q3⟩
        have b1 := bnd_M l y _ _ q1 (by omega) (by omega)
        by_cases c : (i : Int) < t
        · exact .inl ⟨t, ⟨q1, c⟩, q2⟩
        · obtain rfl : t = i := by omega
          exact .inr ⟨q1, q2, q3⟩
      · rintro (⟨t, ⟨q1, q3⟩, q2⟩ | ⟨q1, q2, q3⟩)
        · have b1 := bnd_M l y _ _ q1 (by omega) (by omega)
          have b2 := bnd_MJ l ks (fun u _ => bnd_M l u) t j q2 (by omega) (by omega)
          exact ⟨⟨t, q1, q2⟩, by omega⟩
        · exact ⟨⟨i, q1, q2⟩, q3⟩
    cases b with
    | false =>
      have hnn : ¬ M l y i i := fun q => by have := hb.2 q; cases this
      refine ⟨all ++ [joinK d], ev2_same2 e eb fun k n e eb => ?_, hsa, by rw [bJ]; omega, fun j => ?_⟩
      · rw [sjoinL, if_pos ⟨by omega, by omega⟩, show stepS k (rd l (i : Int)) ((i : Int) == 0) n y = some z from e, Option.bind_some, ed, Option.bind_some, eb, Option.bind_some, if_neg (by decide)]
      · rw [hall, hsp]
        constructor
        · rintro (q | q)
          · exact .inl q
          · exact .inr (.inl q)
        · rintro (q | q | q)
          · exact .inl q
          · exact .inr q
          · exact absurd q.1 hnn
    | true =>
      obtain ⟨res, e2, s2, n2, m2⟩ := sjoin_ev ks (all ++ [joinK d]) (fun u hu => hs u (by simp [hu])) (fun u hu => h u (by simp [hu])) hsa (by omega)
      obtain ⟨K, e⟩ := e
      obtain ⟨K1, eb⟩ := eb
      obtain ⟨K2, e2⟩ := e2
      refine ⟨res, ⟨K + K1 + K2, fun k n hk hn => ?_⟩, s2, by rw [bJ]; omega, fun j => ?_⟩
      · show sjoinL _ _ (y :: ks) all = some res
        rw [sjoinL, if_pos ⟨by omega, by omega⟩, show stepS k (rd l (i : Int)) ((i : Int) == 0) n y = some z from e k n (by omega) (by omega), Option.bind_some, ed, Option.bind_some, show nullS ((i : Int) == 0) false k y = some true from eb k n (by omega) (by omega), Option.bind_some, if_pos rfl]
        exact e2 k n (by omega) (by omega)
      · rw [m2, hall, hsp]
        have := hb.1 rfl
        constructor
        · rintro ((q | q) | q)
          · exact .inl q
          · exact .inr (.inl q)
          · exact .inr (.inr ⟨this, q⟩)
        · rintro (q | q | q)
          · exact .inl (.inl q)
          · exact .inl (.inr q)
          · exact .inr q.2
def lessLo (lo : Int) : Int := mx 0 (wrap64 (lo - 1))
def lessHi (hi : Int) : Int := if hi > 0 then wrap64 (hi - 1) else hi
theorem less_ok (lo hi : Int) (h : 0 ≤ lo ∧ lo ≤ 20 ∧ -1 ≤ hi ∧ hi ≤ 20 ∧ (hi < 0 ∨ lo ≤ hi)) (h0 : hi ≠ 0) : lessLo lo = (if lo = 0 then 0 else lo - 1) ∧ lessHi hi = (if hi > 0 then hi - 1 else hi) := by
  unfold lessLo lessHi mx
  rw [wrap_id (x := lo - 1) (by omega) (by omega), wrap_id (x := hi - 1) (by omega) (by omega)]
  constructor
  · repeat' split
    all_goals omega
  · rfl
theorem often_less (R : Int → Int → Prop) (n : Int) (hb : Bnd n R) (i j lo hi : Int) (hi0 : 0 ≤ i ∧ i ≤ n) (h : 0 ≤ lo ∧ lo ≤ 20 ∧ -1 ≤ hi ∧ hi ≤ 20 ∧ (hi < 0 ∨ lo ≤ hi)) (h0 : hi ≠ 0) :
    (Often lo hi R i j ∧ i < j) ↔ (∃ t, (R i t ∧ i < t) ∧ Often (lessLo lo) (lessHi hi) R t j) ∨ (R i i ∧ Often (lessLo lo) (lessHi hi) R i j ∧ i < j) := by
  obtain ⟨e1, e2⟩ := less_ok lo hi h h0
  rw [e1, e2]
  constructor
  · rintro ⟨⟨m, q1, q2, q3⟩, q4⟩
    obtain ⟨m, rfl⟩ : ∃ m', m = m' + 1 := by
      cases m with
      | zero =>
        simp only [Times] at q3
        omega
      | succ m => exact ⟨m, rfl⟩
    obtain ⟨t, q5, q6⟩ := q3
    have b1 := hb i t q5 hi0.1 hi0.2
    have q7 : Often (if lo = 0 then 0 else lo - 1) (if hi > 0 then hi - 1 else hi) R t j := ⟨m, by split <;> omega, by split <;> omega, q6⟩
    by_cases c : i < t
    · exact .inl ⟨t, ⟨q5, c⟩, q7⟩
    · obtain rfl : t = i := by omega
      exact .inr ⟨q5, q7, q4⟩
  · rintro (⟨t, ⟨q5, q8⟩, m, q1, q2, q3⟩ | ⟨q5, ⟨m, q1, q2, q3⟩, q4⟩)
    · have b1 := hb i t q5 hi0.1 hi0.2
      have b2 := bnd_times hb m t j q3 (by omega) (by omega)
      exact ⟨⟨m + 1, by split at q1 <;> omega, by split at q2 <;> omega, t, q5, q3⟩, by omega⟩
    · exact ⟨⟨m + 1, by split at q1 <;> omega, by split at q2 <;> omega, i, q5, q3⟩, q4⟩
theorem star_first (R : Int → Int → Prop) (n : Int) (hb : Bnd n R) (i j hi : Int) (hi0 : 0 ≤ i ∧ i ≤ n) (hh : hi < 0) : (Often 0 hi R i j ∧ i < j) → ∃ t, (R i t ∧ i < t) ∧ Often 0 hi R t j := by
  rintro ⟨⟨m, q1, q2, q3⟩, q4⟩
  clear q1 q2
  induction m with
  | zero =>
    simp only [Times] at q3
    omega
  | succ m ih =>
    obtain ⟨t, q5, q6⟩ := q3
    have b1 := hb i t q5 hi0.1 hi0.2
    by_cases c : i < t
    · exact ⟨t, ⟨q5, c⟩, m, by omega, .inl hh, q6⟩
    · obtain rfl : t = i := by omega
      exact ih q6
abbrev repN (f1 : List TRange) (lo hi : Int) (y : TNode) : TNode := ⟨5, f1, lo, hi, [y]⟩
theorem repN_M (f1 : List TRange) (lo hi : Int) (y : TNode) (a b : Int) (h : hi < 0 ∨ lo ≤ hi) : M l (repN f1 lo hi y) a b ↔ Often lo hi (M l y) a b := by
  rw [M_5' l (repN f1 lo hi y) a b rfl y rfl]
  exact ⟨fun q => q.2, fun q => ⟨h, q⟩⟩
theorem rep_sane (f1 : List TRange) (lo hi : Int) (y : TNode) (h1 : ∀ r ∈ f1, i64b r.f0 ∧ i64b r.f1) (l1 : f1.length < 8796093022208) (hy : SaneN y) (h : 0 ≤ lo ∧ lo ≤ 20 ∧ -1 ≤ hi ∧ hi ≤ 20 ∧ (hi < 0 ∨ lo ≤ hi)) : SaneN (repN f1 lo hi y) :=
  .mk _ (show (0 : Int) ≤ 5 ∧ (5 : Int) ≤ 7 by omega) h1 l1 (show i64b lo by unfold i64b; omega) (show i64b hi by unfold i64b; omega) (fun _ => ⟨rfl, h.1, h.2.1, h.2.2.1, h.2.2.2.1, h.2.2.2.2⟩) fun z hz => by
    rw [List.mem_singleton.1 hz]
    exact hy
theorem rep_ev (f1 : List TRange) (h1 : ∀ r ∈ f1, i64b r.f0 ∧ i64b r.f1) (l1 : f1.length < 8796093022208) (y z : TNode) (hy : SaneN y) (g : Left l i y z) (hsz : nd y ≤ 25) (hz : nd z ≤ 2000) (hil : i < l.length) (b : Bool) (eb : Ev2 (fun k _ => nullS ((i : Int) == 0) false k y) b) (hb : b = true ↔ M l y i i) :
    ∀ (d : Nat) (lo hi : Int) (all : List TNode), (0 ≤ lo ∧ lo ≤ 20 ∧ -1 ≤ hi ∧ hi ≤ 20 ∧ (hi < 0 ∨ lo ≤ hi)) → (if hi < 0 then lo.toNat + 1 else hi.toNat) ≤ d → (∀ u ∈ all, SaneN u) → nds all + d * 3000 < 1000000 →
    ∃ res, Ev2 (fun k n => srepL k z (nullS ((i : Int) == 0) false k y) n (repN f1 lo hi y) all) res ∧ (∀ u ∈ res, SaneN u) ∧ nds res ≤ nds all + d * (nd z + nd y + 2) ∧ ∀ j, (∃ u ∈ res, M l u ((i : Int) + 1) j) ↔ (∃ u ∈ all, M l u ((i : Int) + 1) j) ∨ (Often lo hi (M l y) i j ∧ (i : Int) < j)
  | 0, lo, hi, all, h, hd, ha, hn => by
    have h0 : hi = 0 := by split at hd <;> omega
    subst h0
    refine ⟨all, ev2_one fun k n => by rw [srepL, if_pos rfl], ha, by omega, fun j => ⟨.inl, ?_⟩⟩
    rintro (q | ⟨⟨m, q1, q2, q3⟩, q4⟩)
    · exact q
    · obtain rfl : m = 0 := by omega
      simp only [Times] at q3
      omega
  | d + 1, lo, hi, all, h, hd, ha, hn => by
    rw [Nat.add_mul] at hn
    by_cases h0 : hi = 0
    · subst h0
      refine ⟨all, ev2_one fun k n => by rw [srepL, if_pos rfl], ha, by omega, fun j => ⟨.inl, ?_⟩⟩
      rintro (q | ⟨⟨m, q1, q2, q3⟩, q4⟩)
      · exact q
      · obtain rfl : m = 0 := by omega
        simp only [Times] at q3
        omega
    obtain ⟨e1, e2⟩ := less_ok lo hi h h0
    have hlen := nds_len all
    -- once less often
    have hL : 0 ≤ lessLo lo ∧ lessLo lo ≤ 20 ∧ -1 ≤ lessHi hi ∧ lessHi hi ≤ 20 ∧ (lessHi hi < 0 ∨ lessLo lo ≤ lessHi hi) := by
      rw [e1, e2]
      repeat' split
      all_goals omega
    have hleft : fewerN (repN f1 lo hi y) = repN f1 (lessLo lo) (lessHi hi) y := rfl
    have hsl := rep_sane f1 _ _ y h1 l1 hy hL
    have hsn := rep_sane f1 lo hi y h1 l1 hy h
    have hbd := bnd_M l y
    -- what is added
    obtain ⟨a1, ea, sa, na, ma⟩ : ∃ a1, (if (fewerN (repN f1 lo hi y)).f3 = 0 then some (all ++ [z]) else (dkids [z, fewerN (repN f1 lo hi y)] []).map fun d => all ++ [joinK d]) = some (all ++ [a1]) ∧ SaneN a1 ∧ nd a1 ≤ nd z + nd y + 2 ∧ ∀ j, M l a1 ((i : Int) + 1) j ↔ ∃ t, (M l y i t ∧ (i : Int) < t) ∧ Often (lessLo lo) (lessHi hi) (M l y) t j := by
      rw [hleft]
      by_cases c : (repN f1 (lessLo lo) (lessHi hi) y).f3 = 0
      · have c' : lessHi hi = 0 := c
        refine ⟨z, by rw [if_pos c], g.sane, by omega, fun j => ?_⟩
        rw [g.sem, c']
        constructor
        · rintro ⟨q1, q2⟩
          exact ⟨j, ⟨q1, q2⟩, 0, by omega, by omega, rfl⟩
        · rintro ⟨t, ⟨q1, q2⟩, m, q3, q4, q5⟩
          obtain rfl : m = 0 := by omega
          simp only [Times] at q5
          exact q5 ▸ ⟨q1, q2⟩
      · have hn2 : nd (repN f1 (lessLo lo) (lessHi hi) y) = nd y + 1 := by rw [nd, nds, nds]
        obtain ⟨d2, ed, sd, n2, md⟩ := join18 l [z, repN f1 (lessLo lo) (lessHi hi) y] (fun u hu => by
          rcases List.mem_cons.1 hu with rfl | hu
          · exact g.sane
          · rw [List.mem_singleton.1 hu]; exact hsl) (by rw [nds, nds, nds]; omega)
        rw [nds, nds, nds] at n2
        refine ⟨joinK d2, by rw [if_neg c, ed]; rfl, sd, by omega, fun j => ?_⟩
        rw [md, MJ]
        simp only [MJ_one, repN_M l f1 _ _ y _ _ hL.2.2.2.2]
        exact ⟨fun ⟨t, q1, q2⟩ => ⟨t, (g.sem t).1 q1, q2⟩, fun ⟨t, q1, q2⟩ => ⟨t, (g.sem t).2 q1, q2⟩⟩
    have hsa : ∀ u ∈ all ++ [a1], SaneN u := fun u hu => by
      rcases List.mem_append.1 hu with hu | hu
      · exact ha u hu
      · rw [List.mem_singleton.1 hu]; exact sa
    have hna : nds (all ++ [a1]) = nds all + nd a1 := by rw [nds_app, nds, nds]; omega
    have hall : ∀ j, (∃ u ∈ all ++ [a1], M l u ((i : Int) + 1) j) ↔ (∃ u ∈ all, M l u ((i : Int) + 1) j) ∨ ∃ t, (M l y i t ∧ (i : Int) < t) ∧ Often (lessLo lo) (lessHi hi) (M l y) t j := fun j => by
      rw [← ma]
      constructor
      · rintro ⟨u, hu, q⟩
        rcases List.mem_append.1 hu with hu | hu
        · exact .inl ⟨u, hu, q⟩
        · rw [List.mem_singleton.1 hu] at q
          exact .inr q
      · rintro (⟨u, hu, q⟩ | q)
        · exact ⟨u, by simp [hu], q⟩
        · exact ⟨_, by simp, q⟩
    have hless := fun j => often_less (M l y) (l.length : Int) hbd (i : Int) j lo hi (by omega) h h0
    have hbnd : (d + 1) * (nd z + nd y + 2) = d * (nd z + nd y + 2) + (nd z + nd y + 2) := by rw [Nat.add_mul, Nat.one_mul]
    have h3 : (repN f1 lo hi y).f3 ≠ 0 := h0
    -- does it end here?
    by_cases cs : lo = 0 ∧ hi < 0
    · have hsm : fewerN (repN f1 lo hi y) = repN f1 lo hi y := by
        rw [hleft, e1, e2, if_pos cs.1, if_neg (by omega), cs.1]
      obtain ⟨K, es⟩ := same18_refl (repN f1 lo hi y) hsn
      refine ⟨all ++ [a1], ⟨K + 1, fun k n hk hn2 => ?_⟩, hsa, by omega, fun j => ?_⟩
      · obtain ⟨n, rfl⟩ : ∃ m, n = m + 1 := ⟨n - 1, by omega⟩
        show srepL k z _ (n + 1) (repN f1 lo hi y) all = _
        rw [srepL, if_neg h3, if_pos (by omega), ea, Option.bind_some, hsm, show sameS k k (repN f1 lo hi y) (repN f1 lo hi y) = some true from es k k (by omega) (by omega), Option.bind_some, if_pos rfl]
      · rw [hall]
        have hl2 : lessLo lo = 0 := by rw [e1, if_pos cs.1]
        have hh2 : lessHi hi = hi := by rw [e2, if_neg (by omega)]
        constructor
        · rintro (q | q)
          · exact .inl q
          · exact .inr ((hless j).2 (.inl q))
        · rintro (q | q)
          · exact .inl q
          · rw [cs.1] at q
            have := star_first (M l y) (l.length : Int) hbd (i : Int) j hi (by omega) cs.2 q
            rw [hl2, hh2]
            exact .inr this
    · obtain ⟨bs, es, hbs⟩ := same18_ev (fewerN (repN f1 lo hi y)) (by rw [hleft]; exact hsl) (repN f1 lo hi y)
      have hns : bs = false := by
        cases bs with
        | false => rfl
        | true =>
          have := hbs rfl
          rw [hleft] at this
          have q1 : lessLo lo = lo := congrArg S25.f2 this
          have q2 : lessHi hi = hi := congrArg S25.f3 this
          rw [e1] at q1
          rw [e2] at q2
          split at q1 <;> split at q2 <;> omega
      subst hns
      obtain ⟨K, es⟩ := es
      obtain ⟨K1, eb'⟩ := eb
      cases hbv : b with
      | false =>
        subst hbv
        have hnn : ¬ M l y i i := fun q => by have := hb.2 q; cases this
        refine ⟨all ++ [a1], ⟨K + K1 + 1, fun k n hk hn2 => ?_⟩, hsa, by omega, fun j => ?_⟩
        · obtain ⟨n, rfl⟩ : ∃ m, n = m + 1 := ⟨n - 1, by omega⟩
          show srepL k z _ (n + 1) (repN f1 lo hi y) all = _
          rw [srepL, if_neg h3, if_pos (by omega), ea, Option.bind_some, show sameS k k (fewerN (repN f1 lo hi y)) (repN f1 lo hi y) = some false from es k k (by omega) (by omega), Option.bind_some, if_neg (by decide), show nullS ((i : Int) == 0) false k y = some false from eb' k n (by omega) (by omega), Option.bind_some, if_neg (by decide)]
        · rw [hall, hless]
          constructor
          · rintro (q | q)
            · exact .inl q
            · exact .inr (.inl q)
          · rintro (q | q | q)
            · exact .inl q
            · exact .inr q
            · exact absurd q.1 hnn
      | true =>
        subst hbv
        obtain ⟨res, er, sr, nr, mr⟩ := rep_ev f1 h1 l1 y z hy g hsz hz hil true ⟨K1, eb'⟩ hb d (lessLo lo) (lessHi hi) (all ++ [a1]) hL (by
          rw [e1, e2]
          repeat' split
          all_goals (split at hd <;> omega)) hsa (by omega)
        obtain ⟨K2, er⟩ := er
        refine ⟨res, ⟨K + K1 + K2 + 1, fun k n hk hn2 => ?_⟩, sr, by omega, fun j => ?_⟩
        · obtain ⟨n, rfl⟩ : ∃ m, n = m + 1 := ⟨n - 1, by omega⟩
          show srepL k z _ (n + 1) (repN f1 lo hi y) all = _
          rw [srepL, if_neg h3, if_pos (by omega), ea, Option.bind_some, show sameS k k (fewerN (repN f1 lo hi y)) (repN f1 lo hi y) = some false from es k k (by omega) (by omega), Option.bind_some, if_neg (by decide)]
          have hnu : nullS ((i : Int) == 0) false k y = some true := eb' k n (by omega) (by omega)
          rw [hnu, Option.bind_some, if_pos rfl, hleft]
          have := er k n (by omega) (by omega)
          simp only [hnu] at this
          exact this
        · rw [mr, hall, hless]
          have hm := hb.1 rfl
          constructor
          · rintro ((q | q) | q)
            · exact .inl q
            · exact .inr (.inl q)
            · exact .inr (.inr ⟨hm, q⟩)
          · rintro (q | q | q)
            · exact .inl (.inl q)
            · exact .inl (.inr q)
            · exact .inr q.2
end
end Go.Proofs.Ytaphbechnjmlgaa.P
namespace Go.Proofs.Ytaphbechnjmlgaa.P
open Go.RowKit Go.Proofs.YtaphbechnjmlgaaW.PrintWords Go.Proofs.YtaphbechnjmlgaaW.PrintLast
set_option linter.unusedVariables false
set_option linter.unusedSimpArgs false

theorem szs_mem : ∀ (ys : List TNode) (y : TNode), y ∈ ys → szN y ≤ szNs ys
  | z :: ys, y, h => by
    rw [szNs]
    rcases List.mem_cons.1 h with rfl | h
    · omega
    · have := szs_mem ys y h
      omega
theorem or_left (l : List Int) (i : Nat) (x : TNode) (res : List TNode) (hs : ∀ z ∈ res, SaneN z) (hn : nds res + 1 ≤ 3 * (szN x * szN x)) (h2 : nds res < 100000) (hm : ∀ j, (∃ z ∈ res, M l z ((i : Int) + 1) j) ↔ M l x i j ∧ (i : Int) < j) :
    ∃ y, Ev (fun k => orN' k res) y ∧ Left l i x y := by
  obtain ⟨y, e, s, n, m⟩ := or18 l res hs (by omega)
  exact ⟨y, e, ⟨s, by omega, fun j => by rw [m, hm]⟩⟩
theorem none_left (l : List Int) (i : Nat) (x : TNode) (h : ∀ j, ¬ (M l x i j ∧ (i : Int) < j)) : Left l i x ⟨0, [], 0, 0, []⟩ :=
  ⟨sane_none, by
    have := szN_pos x
    have : 1 ≤ szN x * szN x := Nat.mul_pos this this
    rw [nd, nds]
    omega, fun j => ⟨fun q => absurd q (M_0 l _ _ _ (.inl (by decide))), fun q => absurd q (h j)⟩⟩
theorem step_left (l : List Int) (i : Nat) (hi : i < l.length) (x : TNode) : SaneN x → szN x ≤ 25 → ∃ y, Ev2 (fun k n => stepE l i k n x) y ∧ Left l i x y := by
  induction x using node_ind with
  | h x ih =>
    intro hs hz
    have hsk := sane_kids hs
    obtain ⟨_, h0, h1, l1, h2, h3, h5, _⟩ := hs
    have hzx := szN_eq x
    have hzp := szN_pos x
    have hmp := mulN_pos x.f0 x.f2 x.f3
    have hsz : szNs x.f4 ≤ 24 := by
      have := Nat.mul_le_mul_right (szNs x.f4) hmp
      omega
    have ihk : ∀ y ∈ x.f4, ∃ z, Ev2 (fun k n => stepE l i k n y) z ∧ Left l i y z := fun y hy => ih y hy (hsk y hy) (by have := szs_mem _ y hy; omega)
    by_cases c2 : x.f0 = 2
    · by_cases ch : hasM x.f1 (rd l (i : Int)) = true
      · refine ⟨⟨1, [], 0, 0, []⟩, ev2_one fun k n => by show stepS _ _ _ (n + 1) x = _; rw [stepS, if_pos c2, if_pos ch], ⟨sane_empty, ?_, fun j => ?_⟩⟩
        · have : 1 ≤ szN x * szN x := Nat.mul_pos hzp hzp
          rw [nd, nds]
          omega
        · rw [M_1 l _ _ _ rfl, M_2 l x _ _ c2]
          constructor
          · rintro rfl
            exact ⟨⟨by omega, ch, rfl⟩, by omega⟩
          · rintro ⟨⟨_, _, h⟩, _⟩
            exact h.symm
      · refine ⟨_, ev2_one fun k n => by show stepS _ _ _ (n + 1) x = _; rw [stepS, if_pos c2, if_neg ch], none_left l i x fun j q => ?_⟩
        rw [M_2 l x _ _ c2] at q
        exact ch q.1.2.1
    by_cases c3 : x.f0 = 3
    · obtain ⟨res, e, s, n, m⟩ := sjoin_ev l i hi x.f4 [] hsk ihk (fun z hz => by cases hz) (by
        have := bJ_le x.f4
        have := sq25 (show szNs x.f4 ≤ 25 by omega)
        rw [nds]
        omega)
      rw [nds] at n
      have hb := bJ_le x.f4
      have hq := sq25 (show szNs x.f4 ≤ 25 by omega)
      have hm1 : szN x = szNs x.f4 + 1 := by rw [hzx, show mulN x.f0 x.f2 x.f3 = 1 by unfold mulN; rw [if_neg (by omega)], Nat.one_mul]
      obtain ⟨y, ey, g⟩ := or_left l i x res s (by rw [hm1, sq_add]; omega) (by omega) (fun j => by
        rw [m]
        simp only [M_3 l x _ _ c3]
        constructor
        · rintro (⟨z, hz, _⟩ | q)
          · cases hz
          · exact q
        · exact .inr)
      obtain ⟨K, e⟩ := e
      obtain ⟨K2, ey⟩ := ey
      refine ⟨y, ⟨K + K2 + 1, fun k n hk hn => ?_⟩, g⟩
      obtain ⟨n, rfl⟩ : ∃ m, n = m + 1 := ⟨n - 1, by omega⟩
      show stepS _ _ _ (n + 1) x = _
      have e' : sjoinL (stepS k (rd l (i : Int)) ((i : Int) == 0) n) (nullS ((i : Int) == 0) false k) x.f4 [] = some res := e k n (by omega) (by omega)
      rw [stepS, if_neg c2, if_pos c3, e', Option.bind_some]
      exact ey k (by omega)
    by_cases c4 : x.f0 = 4
    · obtain ⟨res, e, s, n, m⟩ := map_ev l i x.f4 [] ihk (fun z hz => by cases hz) (by
        have := bO_le x.f4
        have := sq25 (show szNs x.f4 ≤ 25 by omega)
        rw [nds]
        omega)
      rw [nds] at n
      have hb := bO_le x.f4
      have hq := sq25 (show szNs x.f4 ≤ 25 by omega)
      have hm1 : szN x = szNs x.f4 + 1 := by rw [hzx, show mulN x.f0 x.f2 x.f3 = 1 by unfold mulN; rw [if_neg (by omega)], Nat.one_mul]
      obtain ⟨y, ey, g⟩ := or_left l i x res s (by rw [hm1, sq_add]; omega) (by omega) (fun j => by
        rw [m]
        simp only [M_4 l x _ _ c4, MO_iff]
        constructor
        · rintro (⟨z, hz, _⟩ | q)
          · cases hz
          · exact q
        · exact .inr)
      obtain ⟨K, e⟩ := e
      obtain ⟨K2, ey⟩ := ey
      refine ⟨y, ⟨K + K2 + 1, fun k n hk hn => ?_⟩, g⟩
      obtain ⟨n, rfl⟩ : ∃ m, n = m + 1 := ⟨n - 1, by omega⟩
      show stepS _ _ _ (n + 1) x = _
      have e' : mapO (stepS k (rd l (i : Int)) ((i : Int) == 0) n) x.f4 [] = some res := e k n (by omega) (by omega)
      rw [stepS, if_neg c2, if_neg c3, if_pos c4, e', Option.bind_some]
      exact ey k (by omega)
    by_cases c5 : x.f0 = 5
    · have g5 := h5 c5
      obtain ⟨y, hy⟩ : ∃ y, x.f4 = [y] := List.length_eq_one_iff.1 g5.1
      have hym : y ∈ x.f4 := by rw [hy]; simp
      obtain ⟨z, ez, gz⟩ := ihk y hym
      obtain ⟨b, eb, hb⟩ := null_E l i hi y (hsk y hym)
      have hxr : x = repN x.f1 x.f2 x.f3 y := by
        cases x
        simp only at c5 hy
        rw [c5, hy]
      have hszy : szNs x.f4 = szN y := by rw [hy, szNs, szNs]; omega
      have hy25 : szN y ≤ 25 := by omega
      have hyq := sq25 hy25
      have hyp := szN_pos y
      have hnz := gz.nod
      have hny := nd_sz y
      have ht : (if x.f3 < 0 then x.f2.toNat + 1 else x.f3.toNat) ≤ mulN x.f0 x.f2 x.f3 := by
        unfold mulN
        rw [if_pos c5]
        split <;> omega
      obtain ⟨t, htt⟩ : ∃ t, mulN x.f0 x.f2 x.f3 = t := ⟨_, rfl⟩
      rw [htt] at ht hzx hmp
      rw [hszy] at hzx
      have ht25 : t ≤ 25 := by
        have := Nat.mul_le_mul_left t hyp
        omega
      obtain ⟨res, e, s, n, m⟩ := rep_ev l i x.f1 h1 l1 y z (hsk y hym) gz (by omega) (by omega) hi b eb hb t x.f2 x.f3 [] ⟨g5.2.1, g5.2.2.1, g5.2.2.2.1, g5.2.2.2.2.1, g5.2.2.2.2.2⟩ ht (fun u hu => by cases hu) (by rw [nds]; omega)
      rw [nds] at n
      -- how many nodes
      have q1 : t * (nd z + nd y + 2) ≤ t * (3 * (szN y * szN y) + szN y + 2) := Nat.mul_le_mul_left t (by omega)
      have q2 : t * (3 * (szN y * szN y) + szN y + 2) = 3 * (t * (szN y * szN y)) + t * szN y + 2 * t := by
        rw [Nat.mul_add, Nat.mul_add, ← Nat.mul_assoc t 3, Nat.mul_comm t 3, Nat.mul_assoc 3 t, Nat.mul_comm t 2]
      have q3 : t * (szN y * szN y) ≤ (t * szN y) * (t * szN y) := by
        rw [← Nat.mul_assoc, show (t * szN y) * (t * szN y) = t * (t * szN y * szN y) by rw [Nat.mul_assoc t (szN y) (t * szN y), Nat.mul_comm (szN y) (t * szN y)]]
        exact Nat.le_mul_of_pos_left _ hmp
      have q4 : t ≤ t * szN y := Nat.le_mul_of_pos_right _ hyp
      have q5 : szN x * szN x = (t * szN y) * (t * szN y) + 1 * 1 + 2 * ((t * szN y) * 1) := by rw [hzx, sq_add]
      have q6 := sq25 (show t * szN y ≤ 25 by omega)
      obtain ⟨w, ew, g⟩ := or_left l i x res s (by rw [q5]; omega) (by omega) (fun j => by
        rw [m, M_5' l x _ _ c5 y hy]
        constructor
        · rintro (⟨u, hu, _⟩ | q)
          · cases hu
          · exact ⟨⟨by omega, q.1⟩, q.2⟩
        · rintro ⟨⟨_, q⟩, q2⟩
          exact .inr ⟨q, q2⟩)
      obtain ⟨K, e⟩ := e
      obtain ⟨K2, ew⟩ := ew
      obtain ⟨K3, ez⟩ := ez
      refine ⟨w, ⟨K + K2 + K3 + 1, fun k n hk hn => ?_⟩, g⟩
      obtain ⟨n, rfl⟩ : ∃ m, n = m + 1 := ⟨n - 1, by omega⟩
      show stepS _ _ _ (n + 1) x = _
      have e' : srepL k z (nullS ((i : Int) == 0) false k y) k x [] = some res := by rw [hxr]; exact e k k (by omega) (by omega)
      rw [stepS, if_neg c2, if_neg c3, if_neg c4, if_pos c5, if_pos g5.1, show x.f4.getD 0 z25 = y by rw [hy]; rfl, show stepS k (rd l (i : Int)) ((i : Int) == 0) n y = some z from ez k n (by omega) (by omega), Option.bind_some, e', Option.bind_some]
      exact ew k (by omega)
    · refine ⟨_, ev2_one fun k n => by show stepS _ _ _ (n + 1) x = _; rw [stepS, if_neg c2, if_neg c3, if_neg c4, if_neg c5], none_left l i x fun j q => ?_⟩
      by_cases c1 : x.f0 = 1
      · rw [M_1 l x _ _ c1] at q
        omega
      by_cases c6 : x.f0 = 6
      · rw [M_6 l x _ _ c6] at q
        omega
      by_cases c7 : x.f0 = 7
      · rw [M_7 l x _ _ c7] at q
        omega
      exact M_0 l x _ _ (by omega) q.1
/-- deriv.Step answers it. -/
theorem stepT_ev (l : List Int) (i : Nat) (hi : i < l.length) (x : TNode) (hs : SaneN x) (hz : szN x ≤ 25) : ∃ y, Ev (fun k => stepT k x (rd l (i : Int)) ((i : Int) == 0)) y ∧ Left l i x y := by
  obtain ⟨y, e, g⟩ := step_left l i hi x hs hz
  have hn := g.nod
  have hq := sq25 hz
  have hd := nodes_ev y (by omega)
  refine ⟨y, ev_same2 (ev_diag e) hd fun k e e2 => ?_, g⟩
  unfold stepT
  rw [show stepS k (rd l (i : Int)) ((i : Int) == 0) k x = some y from e, Option.bind_some, e2, Option.bind_some, if_pos (by omega)]
end Go.Proofs.Ytaphbechnjmlgaa.P
namespace Go.Proofs.Ytaphbechnjmlgaa.P
open Go.RowKit Go.Proofs.YtaphbechnjmlgaaW.PrintWords Go.Proofs.YtaphbechnjmlgaaW.PrintLast
set_option linter.unusedVariables false
set_option linter.unusedSimpArgs false

/-- What Parsed lets in: few ranges, bounds of repeats. -/
inductive RefX : TNode → Prop
  | mk (x : TNode) (h1 : x.f1.length ≤ 60) (h5 : x.f0 = 5 → x.f4.length = 1 ∧ 0 ≤ x.f2 ∧ x.f2 ≤ 20 ∧ -1 ≤ x.f3 ∧ x.f3 ≤ 20 ∧ (x.f3 < 0 ∨ x.f2 ≤ x.f3)) (hk : ∀ y ∈ x.f4, RefX y) : RefX x
theorem allP_ref (k : Nat) (h : ∀ y, parsedS k y = some true → RefX y) : ∀ l : List TNode, allP (parsedS k) l = some true → ∀ y ∈ l, RefX y
  | [], _, y, hy => by simp at hy
  | z :: l, e, y, hy => by
    rw [allP] at e
    obtain ⟨b, e1, e2⟩ := Option.bind_eq_some_iff.1 e
    cases b with
    | false => rw [if_neg (by decide)] at e2; cases e2
    | true =>
      rw [if_pos rfl] at e2
      rcases List.mem_cons.1 hy with rfl | hy
      · exact h y e1
      · exact allP_ref k h l e2 y hy
theorem parsed_ref : ∀ (k : Nat) (x : TNode), parsedS k x = some true → RefX x
  | 0, x, h => by simp [parsedS] at h
  | k + 1, x, h => by
    rw [parsedS] at h
    by_cases c : badP x = true
    · rw [if_pos c] at h
      cases h
    · rw [if_neg c] at h
      simp only [badP, Bool.not_eq_true, Bool.or_eq_false_iff, Bool.and_eq_false_iff, decide_eq_false_iff_not] at c
      exact .mk x (by omega) (fun e => by omega) (allP_ref k (parsed_ref k) x.f4 h)
theorem small_ref (x : TNode) (l : List Int) (h : Ev (fun k => smallE k x l) true) : RefX x := by
  obtain ⟨K, h⟩ := h
  have e := h K (Nat.le_refl _)
  unfold smallE ductuslaw18_small.f at e
  obtain ⟨W, _, e⟩ := Option.bind_eq_some_iff.1 e
  split at e
  · split at e
    · obtain ⟨p, e1, e⟩ := Option.bind_eq_some_iff.1 e
      obtain rfl := Option.some.inj e
      exact parsed_ref K x (by cases x; exact e1)
    · cases e
  · cases e
theorem rdOf_nat (xs : List Bool) (i : Nat) : rdOf false xs (i : Int) = xs.getD i false := by
  unfold rdOf
  rw [Int.toNat_natCast]
theorem getD_set (xs : List Bool) (i j : Nat) (b : Bool) (h : i < xs.length) : (xs.set i b).getD j false = if i = j then b else xs.getD j false := by
  rw [List.getD_eq_getElem?_getD, List.getD_eq_getElem?_getD, List.getElem?_set]
  by_cases c : i = j
  · subst c
    rw [if_pos rfl, if_pos rfl, if_pos h]
    rfl
  · rw [if_neg c, if_neg c]
theorem places_get (n j : Nat) : (placesB n).getD j false = false := by
  unfold placesB
  rw [List.getD_eq_getElem?_getD, List.getElem?_replicate]
  split <;> rfl
theorem places_len (n : Nat) : (placesB n).length = n + 1 := by simp [placesB]
theorem has_ok (rl : List TRange) (c : Int) (hl : rl.length ≤ 1000) (d : Nat) : ∀ (k i : Nat), i + d = rl.length → d < k → ductusref16_Has.l0 k rl c (i : Int) = some (hasM (rl.drop i) c) := by
  induction d with
  | zero =>
    intro k i hi hk
    obtain ⟨k, rfl⟩ : ∃ m, k = m + 1 := ⟨k - 1, by omega⟩
    simp only [ductusref16_Has.l0]
    rw [if_neg (by omega), List.drop_eq_nil_of_le (by omega)]
    rfl
  | succ d ih =>
    intro k i hi hk
    obtain ⟨k, rfl⟩ : ∃ m, k = m + 1 := ⟨k - 1, by omega⟩
    have h1 : rd_T52 rl (i : Int) = rl[i] := by
      unfold rd_T52
      rw [Int.toNat_natCast, List.getD_eq_getElem?_getD, List.getElem?_eq_getElem (by omega), Option.getD_some]
    have h2 := ih k (i + 1) (by omega) (by omega)
    have h3 : hasM (rl.drop i) c = (inRg c rl[i] || hasM (rl.drop (i + 1)) c) := by
      rw [List.drop_eq_getElem_cons (by omega : i < rl.length)]
      rfl
    simp only [ductusref16_Has.l0]
    rw [if_pos (by omega), if_pos (by omega), wrap_succ i (by omega), h2, h1, h3]
    unfold inRg
    by_cases c1 : c ≥ rl[i].f0
    · rw [if_pos c1]
      by_cases c2 : c ≤ rl[i].f1
      · rw [if_pos c2, decide_eq_true (show rl[i].f0 ≤ c from c1), decide_eq_true c2]
        rfl
      · rw [if_neg c2, decide_eq_false c2]
        simp
    · rw [if_neg c1, decide_eq_false (show ¬ rl[i].f0 ≤ c from c1)]
      simp
theorem either_loop (a b : List Bool) (n : Nat) (hn : n ≤ 1000) (ha : a.length = n) (hb : b.length = n) (d : Nat) : ∀ (k i : Nat) (o : List Bool), i + d = n → d < k → o.length = n → ∃ r, ductusref18_either.l0 k a b o (i : Int) = some r ∧ r.length = n ∧ ∀ j, j < n → r.getD j false = if j < i then o.getD j false else (a.getD j false || b.getD j false) := by
  induction d with
  | zero =>
    intro k i o hi hk ho
    obtain ⟨k, rfl⟩ : ∃ m, k = m + 1 := ⟨k - 1, by omega⟩
    refine ⟨o, ?_, ho, fun j hj => by rw [if_pos (by omega)]⟩
    simp only [ductusref18_either.l0]
    rw [if_neg (by omega)]
  | succ d ih =>
    intro k i o hi hk ho
    obtain ⟨k, rfl⟩ : ∃ m, k = m + 1 := ⟨k - 1, by omega⟩
    have hstep : ∀ v, v = (a.getD i false || b.getD i false) → ∃ r, ductusref18_either.l0 k a b (o.set i v) ((i + 1 : Nat) : Int) = some r ∧ r.length = n ∧ ∀ j, j < n → r.getD j false = if j < i then o.getD j false else (a.getD j false || b.getD j false) := by
      rintro v rfl
      obtain ⟨r, e, h1, h2⟩ := ih k (i + 1) (o.set i (a.getD i false || b.getD i false)) (by omega) (by omega) (by rw [List.length_set]; exact ho)
      refine ⟨r, e, h1, fun j hj => ?_⟩
      rw [h2 j hj, getD_set o i j _ (by omega)]
      by_cases c : i = j
      · subst c
        rw [if_pos (by omega), if_pos rfl, if_neg (by omega)]
      · by_cases c2 : j < i
        · rw [if_pos (by omega), if_neg c, if_pos c2]
        · rw [if_neg (by omega), if_neg c2]
    simp only [ductusref18_either.l0]
    rw [if_pos (by omega), if_pos (by omega), rdOf_nat, wrap_succ i (by omega), Int.toNat_natCast, rdOf_nat]
    by_cases c : a.getD i false = true
    · rw [if_pos c, if_pos (by omega)]
      exact hstep true (by rw [c]; rfl)
    · rw [if_neg c, if_pos (by omega), if_pos (by omega)]
      exact hstep (b.getD i false) (by rw [Bool.eq_false_iff.2 c, Bool.false_or])
theorem either_ok (k : Nat) (a b : List Bool) (n : Nat) (hn : n ≤ 1000) (ha : a.length = n) (hb : b.length = n) (hk : n < k) : ∃ r, ductusref18_either.f k a b = some r ∧ r.length = n ∧ ∀ j, j < n → (r.getD j false = true ↔ a.getD j false = true ∨ b.getD j false = true) := by
  obtain ⟨r, e, h1, h2⟩ := either_loop a b n hn ha hb n k 0 (List.replicate n false) (by omega) hk (by simp)
  refine ⟨r, ?_, h1, fun j hj => ?_⟩
  · unfold ductusref18_either.f
    rw [if_pos (by omega), if_pos (by omega), Int.toNat_natCast, ha]
    exact e
  · rw [h2 j hj, if_neg (by omega), Bool.or_eq_true]
/-- A step over rows of truths answers what a relation reaches. -/
def LiftB (n : Nat) (R : Int → Int → Prop) (f : List Bool → Option (List Bool)) : Prop := ∀ a, a.length = n + 1 → ∃ r, f a = some r ∧ r.length = n + 1 ∧ ∀ j : Nat, j ≤ n → (r.getD j false = true ↔ ∃ i : Nat, i ≤ n ∧ a.getD i false = true ∧ R i j)
theorem setB_ok (k : Nat) (rl : List TRange) (hr : rl.length ≤ 60) (hk : 100 ≤ k) (l : List Int) (a : List Bool) (d : Nat) : ∀ (i : Nat) (o : List Bool), i + d = l.length → o.length = l.length + 1 → ∃ r, setB k rl l a d i o = some r ∧ r.length = l.length + 1 ∧ ∀ j, j ≤ l.length → (r.getD j false = true ↔ o.getD j false = true ∨ ∃ q, i ≤ q ∧ q < l.length ∧ a.getD q false = true ∧ hasM rl (rd l (q : Int)) = true ∧ j = q + 1) := by
  induction d with
  | zero =>
    intro i o hi ho
    refine ⟨o, rfl, ho, fun j hj => ⟨.inl, ?_⟩⟩
    rintro (h | ⟨q, h1, h2, _⟩)
    · exact h
    · omega
  | succ d ih =>
    intro i o hi ho
    rw [setB, rdOf_nat]
    have hh : ductusref16_Has.f k rl (rd l (i : Int)) = some (hasM rl (rd l (i : Int))) := by
      have := has_ok rl (rd l (i : Int)) (by omega) rl.length k 0 (by omega) (by omega)
      rw [List.drop_zero] at this
      exact this
    by_cases c : a.getD i false = true ∧ hasM rl (rd l (i : Int)) = true
    · rw [if_pos c.1, hh, Option.bind_some, if_pos c.2]
      obtain ⟨r, e, h1, h2⟩ := ih (i + 1) (o.set (i + 1) true) (by omega) (by rw [List.length_set]; exact ho)
      refine ⟨r, e, h1, fun j hj => ?_⟩
      rw [h2 j hj, getD_set o (i + 1) j true (by omega)]
      constructor
      · rintro (h | ⟨q, q1, q2, q3⟩)
        · split at h
          · exact .inr ⟨i, by omega, by omega, c.1, c.2, by omega⟩
          · exact .inl h
        · exact .inr ⟨q, by omega, q2, q3⟩
      · rintro (h | ⟨q, q1, q2, q3, q4, q5⟩)
        · exact .inl (by split; rfl; exact h)
        · by_cases cq : q = i
          · exact .inl (by rw [if_pos (by omega)])
          · exact .inr ⟨q, by omega, q2, q3, q4, q5⟩
    · obtain ⟨r, e, h1, h2⟩ := ih (i + 1) o (by omega) ho
      refine ⟨r, ?_, h1, fun j hj => ?_⟩
      · by_cases c1 : a.getD i false = true
        · rw [if_pos c1, hh, Option.bind_some, if_neg (fun h => c ⟨c1, h⟩)]
          exact e
        · rw [if_neg c1]
          exact e
      · rw [h2 j hj]
        constructor
        · rintro (h | ⟨q, q1, q2, q3⟩)
          · exact .inl h
          · exact .inr ⟨q, by omega, q2, q3⟩
        · rintro (h | ⟨q, q1, q2, q3, q4, q5⟩)
          · exact .inl h
          · by_cases cq : q = i
            · subst cq
              exact absurd ⟨q3, q4⟩ c
            · exact .inr ⟨q, by omega, q2, q3, q4, q5⟩
theorem joinB_ok (l : List Int) (f : TNode → List Bool → Option (List Bool)) : ∀ ys : List TNode, (∀ y ∈ ys, LiftB l.length (M l y) (f y)) → LiftB l.length (MJ l ys) (joinB f ys)
  | [], _, a, ha => ⟨a, rfl, ha, fun j hj => by
      simp only [MJ]
      constructor
      · intro h
        exact ⟨j, hj, h, rfl⟩
      · rintro ⟨i, _, h, e⟩
        rw [show i = j by omega] at h
        exact h⟩
  | y :: ys, h, a, ha => by
    obtain ⟨r, e1, h1, h2⟩ := h y (by simp) a ha
    obtain ⟨s, e2, h3, h4⟩ := joinB_ok l f ys (fun z hz => h z (by simp [hz])) r h1
    refine ⟨s, by rw [joinB, e1, Option.bind_some, e2], h3, fun j hj => ?_⟩
    rw [h4 j hj]
    constructor
    · rintro ⟨t, ht, q1, q2⟩
      obtain ⟨i, hi, q3, q4⟩ := (h2 t ht).1 q1
      exact ⟨i, hi, q3, by rw [MJ]; exact ⟨t, q4, q2⟩⟩
    · rintro ⟨i, hi, q3, q4⟩
      rw [MJ] at q4
      obtain ⟨t, q4, q2⟩ := q4
      have := bnd_M l y i t q4 (by omega) (by omega)
      refine ⟨t.toNat, by omega, (h2 _ (by omega)).2 ⟨i, hi, q3, ?_⟩, ?_⟩
      · rw [show ((t.toNat : Nat) : Int) = t by omega]; exact q4
      · rw [show ((t.toNat : Nat) : Int) = t by omega]; exact q2
theorem orB_ok (k : Nat) (l : List Int) (hl : l.length ≤ 64) (hk : 100 ≤ k) (a : List Bool) (f : TNode → Option (List Bool)) : ∀ (ys : List TNode) (o : List Bool), (∀ y ∈ ys, ∃ r, f y = some r ∧ r.length = l.length + 1 ∧ ∀ j : Nat, j ≤ l.length → (r.getD j false = true ↔ ∃ i : Nat, i ≤ l.length ∧ a.getD i false = true ∧ M l y i j)) → o.length = l.length + 1 →
    ∃ r, orB k f ys o = some r ∧ r.length = l.length + 1 ∧ ∀ j : Nat, j ≤ l.length → (r.getD j false = true ↔ o.getD j false = true ∨ ∃ i : Nat, i ≤ l.length ∧ a.getD i false = true ∧ MO l ys i j)
  | [], o, _, ho => ⟨o, rfl, ho, fun j hj => by simp [MO]⟩
  | y :: ys, o, h, ho => by
    obtain ⟨t, e1, h1, h2⟩ := h y (by simp)
    obtain ⟨u, e2, h3, h4⟩ := either_ok k o t (l.length + 1) (by omega) ho h1 (by omega)
    obtain ⟨s, e3, h5, h6⟩ := orB_ok k l hl hk a f ys u (fun z hz => h z (by simp [hz])) h3
    refine ⟨s, by rw [orB, e1, Option.bind_some, e2, Option.bind_some, e3], h5, fun j hj => ?_⟩
    rw [h6 j hj, h4 j (by omega), h2 j hj]
    constructor
    · rintro ((q | ⟨i, q1, q2, q3⟩) | ⟨i, q1, q2, q3⟩)
      · exact .inl q
      · exact .inr ⟨i, q1, q2, by rw [MO]; exact .inl q3⟩
      · exact .inr ⟨i, q1, q2, by rw [MO]; exact .inr q3⟩
    · rintro (q | ⟨i, q1, q2, q3⟩)
      · exact .inl (.inl q)
      · rw [MO] at q3
        rcases q3 with q3 | q3
        · exact .inl (.inr ⟨i, q1, q2, q3⟩)
        · exact .inr ⟨i, q1, q2, q3⟩
theorem times_drop (R : Int → Int → Prop) (n : Int) (hb : Bnd n R) : ∀ (m : Nat) (i j : Int), 0 ≤ i → i ≤ n → Times R (m + 1) i j → n - i < (m : Int) + 1 → Times R m i j
  | 0, i, j, h0, h1, ⟨t, q1, q2⟩, hm => by
    have := hb i t q1 h0 h1
    simp only [Times] at q2 ⊢
    omega
  | m + 1, i, j, h0, h1, ⟨t, q1, q2⟩, hm => by
    have := hb i t q1 h0 h1
    by_cases c : t = i
    · subst c
      exact q2
    · exact ⟨t, q1, times_drop R n hb m t j (by omega) (by omega) q2 (by omega)⟩
theorem times_cut (R : Int → Int → Prop) (n : Nat) (hb : Bnd (n : Int) R) (lo : Nat) (i j : Int) (h0 : 0 ≤ i) (h1 : i ≤ (n : Int)) : ∀ (d m : Nat), m = lo + (n + 1) + d → Times R m i j → ∃ m', lo ≤ m' ∧ m' ≤ lo + (n + 1) ∧ Times R m' i j
  | 0, m, hm, h => ⟨m, by omega, by omega, h⟩
  | d + 1, m, hm, h => by
    obtain ⟨m, rfl⟩ : ∃ q, m = q + 1 := ⟨m - 1, by omega⟩
    exact times_cut R n hb lo i j h0 h1 d m (by omega) (times_drop R n hb m i j h0 h1 h (by omega))
section
variable (RR : RefReach) (l : List Int) (hl : l.length ≤ 64) (y : TNode) (K : Nat) (hR : ∀ k, K ≤ k → LiftB l.length (M l y) (fun t => RR.f k y.f0 y.f1 y.f2 y.f3 y.f4 l t))
/-- What is reached so often from some places. -/
abbrev From (l : List Int) (a : List Bool) (R : Int → Int → Prop) (m : Nat) (j : Nat) : Prop := ∃ i : Nat, i ≤ l.length ∧ a.getD i false = true ∧ Times R m i j
theorem from_next (a b r : List Bool) (m : Nat) (hb : ∀ j : Nat, j ≤ l.length → (b.getD j false = true ↔ From l a (M l y) m j)) (hr : ∀ j : Nat, j ≤ l.length → (r.getD j false = true ↔ ∃ i : Nat, i ≤ l.length ∧ b.getD i false = true ∧ M l y i j)) : ∀ j : Nat, j ≤ l.length → (r.getD j false = true ↔ From l a (M l y) (m + 1) j) := by
  intro j hj
  rw [hr j hj]
  constructor
  · rintro ⟨t, ht, q1, q2⟩
    obtain ⟨i, hi, q3, q4⟩ := (hb t ht).1 q1
    exact ⟨i, hi, q3, (times_right _ m i j).2 ⟨t, q4, q2⟩⟩
  · rintro ⟨i, hi, q3, q4⟩
    obtain ⟨t, q5, q6⟩ := (times_right _ m i j).1 q4
    have := bnd_times (bnd_M l y) m _ _ q5 (by omega) (by omega)
    refine ⟨t.toNat, by omega, (hb _ (by omega)).2 ⟨i, hi, q3, ?_⟩, ?_⟩
    · rw [show ((t.toNat : Nat) : Int) = t by omega]; exact q5
    · rw [show ((t.toNat : Nat) : Int) = t by omega]; exact q6
include hl hR in
theorem rep_more (x0 : Int) (x1 : List TRange) (lo hi : Int) (hlh : hi < 0 ∨ lo ≤ hi) (a : List Bool) (s most : Nat) (hs : s + most ≤ 200) (d : Nat) : ∀ (k i : Nat) (all last : List Bool), i + d = most → K + d < k → 100 + d < k → all.length = l.length + 1 → last.length = l.length + 1 → (∀ j : Nat, j ≤ l.length → (last.getD j false = true ↔ From l a (M l y) (s + i) j)) → (∀ j : Nat, j ≤ l.length → (all.getD j false = true ↔ ∃ m, s ≤ m ∧ m ≤ s + i ∧ From l a (M l y) m j)) →
    ∃ r, ductusref18_repeat.l1 RR k l all (most : Int) last (i : Int) x0 x1 lo hi [y] = some r ∧ r.length = l.length + 1 ∧ ∀ j : Nat, j ≤ l.length → (r.getD j false = true ↔ ∃ m, s ≤ m ∧ m ≤ s + most ∧ From l a (M l y) m j) := by
  induction d with
  | zero =>
    intro k i all last hin hk hk2 h1 h2 h3 h4
    obtain ⟨k, rfl⟩ : ∃ m, k = m + 1 := ⟨k - 1, by omega⟩
    obtain rfl : i = most := by omega
    refine ⟨all, ?_, h1, h4⟩
    simp only [ductusref18_repeat.l1]
    rw [if_neg (by omega)]
    by_cases c : hi ≥ 0
    · rw [if_pos c, if_neg (by omega)]
    · rw [if_neg c]
  | succ d ih =>
    intro k i all last hin hk hk2 h1 h2 h3 h4
    obtain ⟨k, rfl⟩ : ∃ m, k = m + 1 := ⟨k - 1, by omega⟩
    obtain ⟨r, e1, h5, h6⟩ := hR k (by omega) last h2
    obtain ⟨u, e2, h7, h8⟩ := either_ok k all r (l.length + 1) (by omega) h1 h5 (by omega)
    have h9 := from_next l y a last r (s + i) h3 h6
    obtain ⟨w, e3, h10, h11⟩ := ih k (i + 1) u r (by omega) (by omega) (by omega) h7 h5 (by rw [show s + (i + 1) = s + i + 1 by omega]; exact h9) (fun j hj => by
      rw [h8 j (by omega), h4 j hj, h9 j hj]
      constructor
      · rintro (⟨m, q1, q2, q3⟩ | q)
        · exact ⟨m, q1, by omega, q3⟩
        · exact ⟨s + i + 1, by omega, by omega, q⟩
      · rintro ⟨m, q1, q2, q3⟩
        by_cases c : m = s + i + 1
        · subst c
          exact .inr q3
        · exact .inl ⟨m, q1, by omega, q3⟩)
    refine ⟨w, ?_, h10, h11⟩
    have hy : rd_T25 [y] 0 = y := rfl
    simp only [ductusref18_repeat.l1]
    rw [if_pos (by omega), if_pos (by simp), hy, show RR.f k y.f0 y.f1 y.f2 y.f3 y.f4 l last = some r from e1, Option.bind_some, e2, Option.bind_some, wrap_succ i (by omega)]
    exact e3
include hl hR in
theorem rep_times (x0 : Int) (x1 : List TRange) (lo hi : Int) (h : 0 ≤ lo ∧ lo ≤ 20 ∧ -1 ≤ hi ∧ hi ≤ 20 ∧ (hi < 0 ∨ lo ≤ hi)) (a : List Bool) (d : Nat) : ∀ (k i : Nat) (b : List Bool), (i : Int) + (d : Int) = lo → K + d + 80 < k → 200 + d < k → b.length = l.length + 1 → (∀ j : Nat, j ≤ l.length → (b.getD j false = true ↔ From l a (M l y) i j)) →
    ∃ r, ductusref18_repeat.l0 RR k l b (i : Int) x0 x1 lo hi [y] = some r ∧ r.length = l.length + 1 ∧ ∀ j : Nat, j ≤ l.length → (r.getD j false = true ↔ ∃ q : Nat, q ≤ l.length ∧ a.getD q false = true ∧ Often lo hi (M l y) q j) := by
  induction d with
  | zero =>
    intro k i b hi' hk hk2 h1 h2
    obtain ⟨k, rfl⟩ : ∃ m, k = m + 1 + 1 + 1 := ⟨k - 3, by omega⟩
    have hlo : lo = (i : Int) := by omega
    have hw := wrap_succ l.length (by omega)
    -- how many rounds more
    obtain ⟨most, hmo, hm1⟩ : ∃ most : Nat, (if hi ≥ 0 then mn (wrap64 ((l.length : Int) + 1)) (wrap64 (hi - (mx 0 lo))) else wrap64 ((l.length : Int) + 1)) = (most : Int) ∧ most ≤ l.length + 1 ∧ (hi ≥ 0 → (most : Int) ≤ hi - lo ∧ ((most : Int) = hi - lo ∨ most = l.length + 1)) ∧ (hi < 0 → most = l.length + 1) := by
      rw [hw, show mx 0 lo = lo by unfold mx; split <;> omega, wrap_id (x := hi - lo) (by omega) (by omega)]
      by_cases c : hi ≥ 0
      · rw [if_pos c]
        refine ⟨(mn (((l.length + 1 : Nat)) : Int) (hi - lo)).toNat, ?_, ?_, fun _ => ?_, fun _ => by omega⟩
        all_goals (unfold mn; split <;> omega)
      · rw [if_neg c]
        exact ⟨l.length + 1, rfl, by omega, fun _ => by omega, fun _ => rfl⟩
    obtain ⟨r, e, h3, h4⟩ := rep_more RR l hl y K hR x0 x1 lo hi h.2.2.2.2 a i most (by omega) most k 0 b b (by omega) (by omega) (by omega) h1 h1 h2 (fun j hj => by
      rw [h2 j hj]
      constructor
      · intro q
        exact ⟨i, by omega, by omega, q⟩
      · rintro ⟨m, q1, q2, q3⟩
        rw [show m = i by omega] at q3
        exact q3)
    refine ⟨r, ?_, h3, fun j hj => ?_⟩
    · rw [ductusref18_repeat.l0, if_neg (by omega), ductusref18_repeat.j1]
      by_cases c : hi ≥ 0
      · rw [if_pos c] at hmo ⊢
        rw [hmo, ductusref18_repeat.j2]
        exact e
      · rw [if_neg c] at hmo ⊢
        rw [hmo, ductusref18_repeat.j2]
        exact e
    · rw [h4 j hj]
      constructor
      · rintro ⟨m, q1, q2, q, q3, q4, q5⟩
        refine ⟨q, q3, q4, m, by omega, ?_, q5⟩
        by_cases c : hi < 0
        · exact .inl c
        · have := hm1.2.1 (by omega)
          exact .inr (by omega)
      · rintro ⟨q, q3, q4, m, q1, q2, q5⟩
        by_cases c : m ≤ i + most
        · exact ⟨m, by omega, c, q, q3, q4, q5⟩
        · have hme : most = l.length + 1 := by
            rcases q2 with q2 | q2
            · exact hm1.2.2 q2
            · have := hm1.2.1 (by omega)
              omega
          obtain ⟨m', q6, q7, q8⟩ := times_cut (M l y) l.length (bnd_M l y) i (q : Int) (j : Int) (by omega) (by omega) (m - (i + (l.length + 1))) m (by omega) q5
          exact ⟨m', q6, by omega, q, q3, q4, q8⟩
  | succ d ih =>
    intro k i b hi' hk hk2 h1 h2
    obtain ⟨k, rfl⟩ : ∃ m, k = m + 1 := ⟨k - 1, by omega⟩
    obtain ⟨r, e1, h5, h6⟩ := hR k (by omega) b h1
    obtain ⟨w, e2, h7, h8⟩ := ih k (i + 1) r (by omega) (by omega) (by omega) h5 (from_next l y a b r i h2 h6)
    refine ⟨w, ?_, h7, h8⟩
    have hy : rd_T25 [y] 0 = y := rfl
    simp only [ductusref18_repeat.l0]
    rw [if_pos (by omega), if_pos (by omega), if_pos (by simp), hy, show RR.f k y.f0 y.f1 y.f2 y.f3 y.f4 l b = some r from e1, Option.bind_some, wrap_succ i (by omega)]
    exact e2
end
theorem ref_ok (l : List Int) (hl : l.length ≤ 64) (x : TNode) : RefX x → ∀ n, dep x ≤ n → ∀ k, 400 * dep x ≤ k → LiftB l.length (M l x) (fun t => (refN n).f k x.f0 x.f1 x.f2 x.f3 x.f4 l t) := by
  induction x using node_ind with
  | h x ih =>
    rintro ⟨_, h1, h5, hk⟩ n hn k hkk a ha
    have hdp : 1 ≤ dep x := by rw [dep_eq]; omega
    obtain ⟨n, rfl⟩ : ∃ m, n = m + 1 := ⟨n - 1, by omega⟩
    have ihk : ∀ y ∈ x.f4, ∀ k', 400 * (dep x - 1) ≤ k' → LiftB l.length (M l y) (fun t => (refN n).f k' y.f0 y.f1 y.f2 y.f3 y.f4 l t) := fun y hy k' hk' => ih y hy (hk y hy) n (by have := dep_kid hy; omega) k' (by have := dep_kid hy; have := Nat.mul_le_mul_left 400 (show dep y ≤ dep x - 1 by omega); omega)
    have hk1 : 400 * (dep x - 1) + 400 ≤ k := by omega
    show ∃ r, refStep (refN n) k x.f0 x.f1 x.f2 x.f3 x.f4 l a = some r ∧ _
    unfold refStep
    rw [if_pos ⟨ha, by omega⟩]
    by_cases c1 : x.f0 = 1
    · rw [if_pos c1]
      refine ⟨a, rfl, ha, fun j hj => ?_⟩
      simp only [M_1 l x _ _ c1]
      constructor
      · intro h
        exact ⟨j, hj, h, rfl⟩
      · rintro ⟨i, _, h, e⟩
        rw [show i = j by omega] at h
        exact h
    rw [if_neg c1]
    by_cases c2 : x.f0 = 2
    · rw [if_pos c2]
      obtain ⟨r, e, g1, g2⟩ := setB_ok k x.f1 h1 (by omega) l a l.length 0 (placesB l.length) (by omega) (places_len _)
      refine ⟨r, e, g1, fun j hj => ?_⟩
      rw [g2 j hj, places_get]
      simp only [M_2 l x _ _ c2, Bool.false_eq_true, false_or]
      constructor
      · rintro ⟨q, _, q2, q3, q4, q5⟩
        exact ⟨q, by omega, q3, by omega, q4, by omega⟩
      · rintro ⟨q, _, q3, q2, q4, q5⟩
        exact ⟨q, by omega, by omega, q3, q4, by omega⟩
    rw [if_neg c2]
    by_cases c3 : x.f0 = 3
    · rw [if_pos c3]
      obtain ⟨r, e, g1, g2⟩ := joinB_ok l (fun y t => (refN n).f k y.f0 y.f1 y.f2 y.f3 y.f4 l t) x.f4 (fun y hy => ihk y hy k (by omega)) a ha
      refine ⟨r, e, g1, fun j hj => ?_⟩
      rw [g2 j hj]
      simp only [M_3 l x _ _ c3]
    rw [if_neg c3]
    by_cases c4 : x.f0 = 4
    · rw [if_pos c4]
      obtain ⟨r, e, g1, g2⟩ := orB_ok k l hl (by omega) a (fun y => (refN n).f k y.f0 y.f1 y.f2 y.f3 y.f4 l a) x.f4 (placesB l.length) (fun y hy => ihk y hy k (by omega) a ha) (places_len _)
      refine ⟨r, e, g1, fun j hj => ?_⟩
      rw [g2 j hj, places_get]
      simp only [M_4 l x _ _ c4, Bool.false_eq_true, false_or]
    rw [if_neg c4]
    by_cases c5 : x.f0 = 5
    · rw [if_pos c5]
      have g := h5 c5
      obtain ⟨y, hy⟩ : ∃ y, x.f4 = [y] := List.length_eq_one_iff.1 g.1
      rw [if_pos g.1, hy]
      obtain ⟨r, e, g1, g2⟩ := rep_times (refN n) l hl y (400 * (dep x - 1)) (fun k' hk' => ihk y (by rw [hy]; simp) k' hk') x.f0 x.f1 x.f2 x.f3 g.2 a x.f2.toNat k 0 a (by omega) (by omega) (by omega) ha (fun j hj => by
        constructor
        · intro h
          exact ⟨j, hj, h, rfl⟩
        · rintro ⟨i, _, h, e⟩
          simp only [Times] at e
          rw [show i = j by omega] at h
          exact h)
      refine ⟨r, ?_, g1, fun j hj => ?_⟩
      · unfold ductusref18_repeat.f
        rw [Option.bind_some, if_pos (by rw [ha]; simp only [List.length_nil]; omega), List.nil_append]
        exact e
      · rw [g2 j hj]
        simp only [M_5' l x _ _ c5 y hy, g.2.2.2.2.2, true_and]
    rw [if_neg c5]
    by_cases c6 : x.f0 = 6
    · rw [if_pos c6]
      refine ⟨_, rfl, by rw [List.length_set]; exact places_len _, fun j hj => ?_⟩
      rw [getD_set _ 0 j _ (by rw [places_len]; omega), places_get]
      simp only [M_6 l x _ _ c6]
      have h0 : rdOf false a 0 = a.getD 0 false := rdOf_nat a 0
      constructor
      · intro h
        split at h
        · exact ⟨0, by omega, by rw [← h0]; exact h, by omega, by omega⟩
        · cases h
      · rintro ⟨i, _, q, q1, q2⟩
        rw [if_pos (by omega), h0, ← show i = 0 by omega]
        exact q
    rw [if_neg c6]
    by_cases c7 : x.f0 = 7
    · rw [if_pos c7]
      refine ⟨_, rfl, by rw [List.length_set]; exact places_len _, fun j hj => ?_⟩
      rw [getD_set _ l.length j _ (by rw [places_len]; omega), places_get, rdOf_nat]
      simp only [M_7 l x _ _ c7]
      constructor
      · intro h
        split at h
        · exact ⟨l.length, by omega, h, by omega, by omega⟩
        · cases h
      · rintro ⟨i, _, q, q1, q2⟩
        rw [if_pos (by omega), ← show i = l.length by omega]
        exact q
    · rw [if_neg c7]
      refine ⟨_, rfl, places_len _, fun j hj => ?_⟩
      rw [places_get]
      simp only [Bool.false_eq_true, false_iff]
      rintro ⟨i, _, _, h⟩
      exact M_0 l x _ _ (by omega) h
theorem ends_loop (r : List Bool) (n : Nat) (hn : n ≤ 64) (hr : r.length = n + 1) (d : Nat) : ∀ (k i : Nat) (acc : List Int), i + d = n + 1 → d < k → acc.length ≤ i → ∃ es, ductusref18_Ends.l0 k acc r (i : Int) = some (acc ++ es) ∧ Srt es ∧ ∀ p : Int, p ∈ es ↔ (i : Int) ≤ p ∧ p ≤ (n : Int) ∧ r.getD p.toNat false = true := by
  induction d with
  | zero =>
    intro k i acc hi hk ha
    obtain ⟨k, rfl⟩ : ∃ m, k = m + 1 := ⟨k - 1, by omega⟩
    refine ⟨[], ?_, List.Pairwise.nil, fun p => ?_⟩
    · simp only [ductusref18_Ends.l0]
      rw [if_neg (by omega), List.append_nil]
    · simp only [List.not_mem_nil, false_iff]
      omega
  | succ d ih =>
    intro k i acc hi hk ha
    obtain ⟨k, rfl⟩ : ∃ m, k = m + 1 := ⟨k - 1, by omega⟩
    by_cases c : r.getD i false = true
    · obtain ⟨es, e, h1, h2⟩ := ih k (i + 1) (acc ++ [(i : Int)]) (by omega) (by omega) (by rw [List.length_append, List.length_singleton]; omega)
      refine ⟨(i : Int) :: es, ?_, List.pairwise_cons.2 ⟨fun q hq => by have := (h2 q).1 hq; omega, h1⟩, fun p => ?_⟩
      · simp only [ductusref18_Ends.l0]
        rw [if_pos (by omega), if_pos (by omega), rdOf_nat, if_pos c, if_pos (by omega), wrap_succ i (by omega), e, List.append_assoc]
        rfl
      · rw [List.mem_cons, h2]
        constructor
        · rintro (rfl | q)
          · exact ⟨by omega, by omega, by rw [Int.toNat_natCast]; exact c⟩
          · exact ⟨by omega, q.2⟩
        · rintro ⟨q1, q2, q3⟩
          by_cases cp : p = (i : Int)
          · exact .inl cp
          · exact .inr ⟨by omega, q2, q3⟩
    · obtain ⟨es, e, h1, h2⟩ := ih k (i + 1) acc (by omega) (by omega) (by omega)
      refine ⟨es, ?_, h1, fun p => ?_⟩
      · simp only [ductusref18_Ends.l0]
        rw [if_pos (by omega), if_pos (by omega), rdOf_nat, if_neg c, wrap_succ i (by omega), e]
      · rw [h2]
        constructor
        · rintro ⟨q1, q2, q3⟩
          exact ⟨by omega, q2, q3⟩
        · rintro ⟨q1, q2, q3⟩
          refine ⟨?_, q2, q3⟩
          by_cases cp : p = (i : Int)
          · subst cp
            rw [Int.toNat_natCast] at q3
            exact absurd q3 c
          · omega
theorem ref_ends (l : List Int) (hl : l.length ≤ 64) (x : TNode) (hx : RefX x) (s : Nat) (hs : s ≤ l.length) : Ev (fun k => ductusref18_Ends.f k x.f0 x.f1 x.f2 x.f3 x.f4 l (s : Int)) (endsM l x (s : Int)) := by
  refine ⟨400 * dep x + 100, fun k hk => ?_⟩
  obtain ⟨k, rfl⟩ : ∃ m, k = m + 1 := ⟨k - 1, by omega⟩
  obtain ⟨r, e, h1, h2⟩ := ref_ok l hl x hx k (by omega) k (by omega) ((placesB l.length).set s true) (by rw [List.length_set]; exact places_len _)
  obtain ⟨es, e2, h3, h4⟩ := ends_loop r l.length hl h1 (l.length + 1) k 0 [] (by omega) (by omega) (by simp)
  have hp := places_ok l (by omega)
  show ductusref18_Ends.f (k + 1) x.f0 x.f1 x.f2 x.f3 x.f4 l (s : Int) = _
  unfold ductusref18_Ends.f
  rw [if_neg (by omega), show decide ((s : Int) > (l.length : Int)) = false from decide_eq_false (by omega)]
  simp only [ductusref18_Ends.j0]
  rw [if_neg (by decide), hp, Option.bind_some, if_pos (by omega), if_pos (by rw [places_len]; omega), Int.toNat_natCast]
  rw [show ductusref18_reach.f k x.f0 x.f1 x.f2 x.f3 x.f4 l ((placesB l.length).set s true) = some r from e, Option.bind_some]
  rw [show ((0 : Nat) : Int) = 0 from rfl, List.nil_append] at e2
  rw [e2]
  congr 1
  refine srt_ext h3 (endsM_srt _ _ _) fun p => ?_
  rw [h4, mem_endsM _ _ _ _ (by omega)]
  have hg : ∀ i : Nat, ((placesB l.length).set s true).getD i false = true ↔ i = s := fun i => by
    rw [getD_set _ s i _ (by rw [places_len]; omega), places_get]
    constructor
    · intro h
      split at h
      · omega
      · cases h
    · rintro rfl
      rw [if_pos rfl]
  constructor
  · rintro ⟨q1, q2, q3⟩
    obtain ⟨i, _, q4, q5⟩ := (h2 p.toNat (by omega)).1 q3
    rw [(hg i).1 q4, show ((p.toNat : Nat) : Int) = p by omega] at q5
    exact q5
  · intro h
    have := bnd_M l x _ _ h (by omega) (by omega)
    refine ⟨by omega, by omega, (h2 p.toNat (by omega)).2 ⟨s, hs, (hg s).2 rfl, ?_⟩⟩
    rw [show ((p.toNat : Nat) : Int) = p by omega]
    exact h
end Go.Proofs.Ytaphbechnjmlgaa.P
namespace Go.Proofs.Ytaphbechnjmlgaa.P
open Go.Deep Go.ChangeShapes Go.WideShapes Go.Proofs.YtaphbechnjmlgaaW.PrintWords
set_option linter.unusedVariables false
set_option linter.unusedSimpArgs false

theorem u8_rng {x : Int} (h : (Lit.int .u8 x).wf = true) : 0 ≤ x ∧ x ≤ 255 := by
  have hmin : IntKind.u8.min = 0 := rfl
  have hmax : IntKind.u8.max = 255 := rfl
  simp only [Lit.wf, Bool.and_eq_true, decide_eq_true_eq] at h
  omega
section
variable {H : Type} {enc : TypeId × Value → H} {w : World} {base : Nat} {held : Bool}
theorem bytes_int : Try.prog.bytesOf 3 = 8 := by kernel_rfl
theorem opens_list (m : Nat) : Opens enc Try.prog w base held 26 (Kd.slice 3 (Kd.int .i64)) (fun l => l.length * 8 ≤ 140737488351232 ∧ ∀ e ∈ l, (Lit.int .i64 e).wf = true) m :=
  opens_slice Try.underlying26 (by rw [cells_int]; rfl) bytes_int m (fun n _ => opens_int Try.underlying3 n)
/-- An argument that is a list of whole numbers. -/
theorem open_list {r : Reach} {b0 : Nat} {v : Value} {d : DataW H} {p : List MemPlace} (hv : Value.okWide Try.prog w r b0 26 v) (h : DataW.Trod enc Try.prog w base (fun _ => true) held 26 v d p) (hw : Lite Try.prog 26 d) :
    ∃ (A : Option Addr) (c : Nat) (l : List Int), v = .slice A l.length c ∧ l.length ≤ c ∧ Kd.C (Kd.int .i64) w A l.length l ∧ (l.length * 8 ≤ 140737488351232 ∧ ∀ e ∈ l, (Lit.int .i64 e).wf = true) := by
  obtain ⟨a, len, cap, rfl⟩ := okWide_slice Try.underlying26 hv
  obtain ⟨fuel, hf⟩ := h
  obtain ⟨l, hk, hwf⟩ := opens_list fuel _ _ hf hw
  obtain ⟨A1, d1, he1, hd1, hC1⟩ := hk
  obtain rfl | he := (show (.slice a len cap : Value) = .slice A1 l.length d1 from (List.cons.inj he1).1)
  exact ⟨_, _, l, rfl, hd1, hC1, hwf⟩
end
end Go.Proofs.Ytaphbechnjmlgaa.P
