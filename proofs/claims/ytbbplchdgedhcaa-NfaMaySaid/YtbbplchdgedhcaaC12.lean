/- Texts of this claim put together by a program of its own (PLayC, PLet, Px12, PSameI, POpenN, PComp, PureNfaMay), what the law does not use left out: each part's statements bear their own conditions. -/
import Derived.Test.YtbbplchdgedhcaaC11
import Derived.Test.YtbbplchdgedhcaaC10
import Derived.Test.YtbbplchdgedhcaaC9
import Derived.OpenShut
import Derived.Deep.Slices
import Derived.ChangeSlices
import Derived.SizedLaws
namespace Go.Proofs.Ytbbplchdgedhcaa.P
open Go.RowKit Go.Proofs.YtbbplchdgedhcaaW.PrintWords Go.Proofs.YtbbplchdgedhcaaW.PrintLast
set_option linter.unusedVariables false
set_option linter.unusedSimpArgs false

theorem toP_app (n : Int) (p m : List TInst) (j : Int) (h : 0 ≤ j ∧ j < (p.length : Int)) : toP n (p ++ m) j = toP n p j ++ m ∧ (toP n p j).length = p.length := by
  obtain ⟨k, rfl⟩ : ∃ k : Nat, j = (k : Int) := ⟨j.toNat, by omega⟩
  have hk : k < p.length := by omega
  unfold toP
  simp only [Int.toNat_natCast, List.length_set, and_true]
  have e : (p ++ m).getD k z39 = p.getD k z39 := by
    rw [List.getD_eq_getElem?_getD, List.getD_eq_getElem?_getD, List.getElem?_append_left hk]
  rw [e, List.set_append_left _ _ hk]
theorem altP_app (n : Int) (p m : List TInst) (j : Int) (h : 0 ≤ j ∧ j < (p.length : Int)) : altP n (p ++ m) j = altP n p j ++ m ∧ (altP n p j).length = p.length := by
  obtain ⟨k, rfl⟩ : ∃ k : Nat, j = (k : Int) := ⟨j.toNat, by omega⟩
  have hk : k < p.length := by omega
  unfold altP
  simp only [Int.toNat_natCast, List.length_set, and_true]
  have e : (p ++ m).getD k z39 = p.getD k z39 := by
    rw [List.getD_eq_getElem?_getD, List.getD_eq_getElem?_getD, List.getElem?_append_left hk]
  rw [e, List.set_append_left _ _ hk]
theorem toP_at (n : Int) (p m : List TInst) (e : TInst) (k : Nat) (hk : k = p.length) : toP n (p ++ e :: m) (k : Int) = p ++ ⟨e.f0, e.f1, n, e.f3⟩ :: m := by
  subst hk
  unfold toP
  have h : (p ++ e :: m).getD p.length z39 = e := by
    rw [List.getD_eq_getElem?_getD, List.getElem?_append_right (Nat.le_refl _), Nat.sub_self]
    rfl
  rw [Int.toNat_natCast, h, List.set_append_right _ _ (Nat.le_refl _), Nat.sub_self]
  rfl
theorem altP_at (n : Int) (p m : List TInst) (e : TInst) (k : Nat) (hk : k = p.length) : altP n (p ++ e :: m) (k : Int) = p ++ ⟨e.f0, e.f1, e.f2, n⟩ :: m := by
  subst hk
  unfold altP
  have h : (p ++ e :: m).getD p.length z39 = e := by
    rw [List.getD_eq_getElem?_getD, List.getElem?_append_right (Nat.le_refl _), Nat.sub_self]
    rfl
  rw [Int.toNat_natCast, h, List.set_append_right _ _ (Nat.le_refl _), Nat.sub_self]
  rfl
def inR (js : List Int) (n : Nat) : Prop := ∀ j ∈ js, 0 ≤ j ∧ j < (n : Int)
theorem inR.mono {js : List Int} {n m : Nat} (h : inR js n) (hm : n ≤ m) : inR js m := fun j hj => by
  have := h j hj
  omega
theorem inR.snoc {js : List Int} {n m k : Nat} (h : inR js n) (hm : n ≤ m) (hk : k < m) : inR (js ++ [(k : Int)]) m := fun j hj => by
  rcases List.mem_append.1 hj with hj | hj
  · have := h j hj
    omega
  · rw [List.mem_singleton.1 hj]
    omega
theorem fold_app (F : List TInst → Int → List TInst) (hF : ∀ p m j, 0 ≤ j ∧ j < (p.length : Int) → F (p ++ m) j = F p j ++ m ∧ (F p j).length = p.length) : ∀ (js : List Int) (p m : List TInst), inR js p.length → js.foldl F (p ++ m) = js.foldl F p ++ m ∧ (js.foldl F p).length = p.length
  | [], p, m, _ => ⟨rfl, rfl⟩
  | j :: js, p, m, h => by
    have h1 := hF p m j (h j (by simp))
    have h2 := fold_app F hF js (F p j) m (by rw [h1.2]; exact fun i hi => h i (by simp [hi]))
    rw [List.foldl_cons, List.foldl_cons, h1.1, h2.1, h2.2, h1.2]
    exact ⟨rfl, rfl⟩
theorem tosC_ok (p : List TInst) (js : List Int) (h : inR js p.length) : tosC p js = some (js.foldl (toP (p.length : Int)) p) := if_pos h
theorem altsC_ok (p : List TInst) (js : List Int) (h : inR js p.length) : altsC p js = some (js.foldl (altP (p.length : Int)) p) := if_pos h
theorem inR_one {k n : Nat} (h : k < n) : inR [(k : Int)] n := fun j hj => by
  rw [List.mem_singleton.1 hj]
  omega
/-- What a node does to a program, from some depth on. -/
def LaysC (x : TNode) : Prop := ∀ p : List TInst, p.length + lenM x ≤ 1000000000000 → Ev (fun k => nodeC k x p) (p ++ layM x p.length)
theorem layI_ok (p : List TInst) (x : TInst) (h : p.length < 1000000000000) : layI p x = some (p ++ [x]) := by
  rw [layI, if_pos (by omega)]
theorem joinC_ev : ∀ (l : List TNode), (∀ y ∈ l, LaysC y) → ∀ p : List TInst, p.length + joinN l ≤ 1000000000000 → Ev (fun k => joinC (nodeC k) l p) (p ++ joinM l p.length)
  | [], _, p, hp => ev_now fun k => by simp [joinC, joinM]
  | y :: l, h, p, hp => by
    rw [joinN] at hp
    have hl := layM_len y p.length
    refine ev_same2 (h y (by simp) p (by omega)) (joinC_ev l (fun z hz => h z (by simp [hz])) (p ++ layM y p.length) (by rw [List.length_append, hl]; omega)) fun k h1 h2 => ?_
    rw [joinC, h1, Option.bind_some, h2, joinM, List.length_append, hl, List.append_assoc]
theorem timesC_ev (y : TNode) (h : LaysC y) : ∀ (n : Nat) (p : List TInst), p.length + n * lenM y ≤ 1000000000000 → Ev (fun k => timesC (nodeC k y) n p) (p ++ timesM (fun b => layM y b) (lenM y) n p.length)
  | 0, p, hp => ev_now fun k => by simp [timesC, timesM]
  | n + 1, p, hp => by
    rw [Nat.succ_mul] at hp
    have hl := layM_len y p.length
    refine ev_same2 (h p (by omega)) (timesC_ev y h n (p ++ layM y p.length) (by rw [List.length_append, hl]; omega)) fun k h1 h2 => ?_
    rw [timesC, h1, Option.bind_some, h2, timesM, List.length_append, hl, List.append_assoc]
theorem orC_ev (fin : Nat) : ∀ (l : List TNode), (∀ y ∈ l, LaysC y) → ∀ (p : List TInst) (js : List Int), p.length + orN l = fin → fin ≤ 1000000000000 → inR js p.length → js.length ≤ p.length →
    Ev (fun k => (orL (nodeC k) l p js).bind fun q => tosC q.1 q.2) (js.foldl (toP (fin : Int)) p ++ orM l p.length fin)
  | [], _, p, js, hf, hb, hj, hn => ev_now fun k => by
    rw [orN, Nat.add_zero] at hf
    rw [orL, Option.bind_some, tosC_ok _ _ hj, orM, List.append_nil, ← hf]
  | y :: l, h, p, js, hf, hb, hj, hn => by
    rw [orN] at hf
    by_cases c : l.length = 0
    · rw [if_pos c] at hf
      have hl := layM_len y p.length
      refine ev_same (h y (by simp) p (by omega)) fun k h1 => ?_
      have hq : (p ++ layM y p.length).length = fin := by rw [List.length_append, hl, hf]
      rw [orL, if_pos c, h1, Option.map_some, Option.bind_some, tosC_ok _ _ (hj.mono (by rw [hq]; omega)), hq, (fold_app _ (toP_app _) js p _ hj).1, orM, if_pos c]
    · rw [if_neg c] at hf
      have hl := layM_len y (p.length + 1)
      have F := fold_app _ (toP_app (fin : Int)) js p
      have e3 : (p ++ [(⟨2, [], (p.length : Int) + 1, 0⟩ : TInst)] ++ layM y (p.length + 1) ++ [(⟨3, [], 0, 0⟩ : TInst)]).length = p.length + 2 + lenM y := by
        simp only [List.length_append, List.length_singleton, hl]
        omega
      have ih := orC_ev fin l (fun z hz => h z (by simp [hz])) (p ++ ⟨2, [], (p.length : Int) + 1, ((p.length + 2 + lenM y : Nat) : Int)⟩ :: (layM y (p.length + 1) ++ [⟨3, [], 0, 0⟩])) (js ++ [((p.length + 1 + lenM y : Nat) : Int)])
        (by simp only [List.length_append, List.length_cons, List.length_nil, hl]; omega) hb (hj.snoc (by simp only [List.length_append]; omega) (by simp only [List.length_append, List.length_cons, List.length_nil, hl]; omega))
        (by simp only [List.length_append, List.length_cons, List.length_nil, hl]; omega)
      refine ev_same2 (h y (by simp) (p ++ [⟨2, [], (p.length : Int) + 1, 0⟩]) (by simp only [List.length_append, List.length_singleton]; omega)) ih fun k h1 h2 => ?_
      rw [List.length_append, List.length_singleton] at h1
      have e2 : (p ++ [(⟨2, [], (p.length : Int) + 1, 0⟩ : TInst)] ++ layM y (p.length + 1)).length = p.length + 1 + lenM y := by
        simp only [List.length_append, List.length_singleton, hl]
      rw [orL, if_neg c, if_pos (by omega), layI_ok p _ (by omega), Option.bind_some, h1, Option.bind_some, layI_ok _ _ (by rw [e2]; omega), Option.bind_some, altsC_ok _ _ (inR_one (by rw [e3]; omega)), e3, e2, Option.bind_some, List.foldl_cons, List.foldl_nil]
      have e4 : altP ((p.length + 2 + lenM y : Nat) : Int) (p ++ [(⟨2, [], (p.length : Int) + 1, 0⟩ : TInst)] ++ layM y (p.length + 1) ++ [⟨3, [], 0, 0⟩]) (p.length : Int) = p ++ ⟨2, [], (p.length : Int) + 1, ((p.length + 2 + lenM y : Nat) : Int)⟩ :: (layM y (p.length + 1) ++ [⟨3, [], 0, 0⟩]) := by
        have := altP_at ((p.length + 2 + lenM y : Nat) : Int) p (layM y (p.length + 1) ++ [⟨3, [], 0, 0⟩]) ⟨2, [], (p.length : Int) + 1, 0⟩ p.length rfl
        rw [← this]
        simp only [List.append_assoc, List.singleton_append, List.cons_append, List.nil_append]
      rw [e4, h2, List.foldl_append, List.foldl_cons, List.foldl_nil, (F _ hj).1]
      have F2 := (F [] hj).2
      have e5 : List.foldl (toP (fin : Int)) p js ++ (⟨2, [], (p.length : Int) + 1, ((p.length + 2 + lenM y : Nat) : Int)⟩ : TInst) :: (layM y (p.length + 1) ++ [⟨3, [], 0, 0⟩]) = (List.foldl (toP (fin : Int)) p js ++ (⟨2, [], (p.length : Int) + 1, ((p.length + 2 + lenM y : Nat) : Int)⟩ : TInst) :: layM y (p.length + 1)) ++ ⟨3, [], 0, 0⟩ :: [] := by
        simp only [List.append_assoc, List.cons_append, List.nil_append]
      have e6 : (p ++ (⟨2, [], (p.length : Int) + 1, ((p.length + 2 + lenM y : Nat) : Int)⟩ : TInst) :: (layM y (p.length + 1) ++ [⟨3, [], 0, 0⟩])).length = p.length + 2 + lenM y := by
        simp only [List.length_append, List.length_cons, List.length_nil, hl]
        omega
      rw [e5, toP_at (fin : Int) _ _ _ _ (by rw [List.length_append, F2, List.length_cons, hl]; omega), e6, orM, if_neg c]
      simp only [List.append_assoc, List.cons_append, List.nil_append]
theorem optC_ev (y : TNode) (h : LaysC y) (fin : Nat) : ∀ (n : Nat) (p : List TInst) (js : List Int), p.length + n * (lenM y + 1) = fin → fin ≤ 1000000000000 → inR js p.length → js.length ≤ p.length →
    Ev (fun k => (optC (nodeC k y) n p js).bind fun q => altsC q.1 q.2) (js.foldl (altP (fin : Int)) p ++ optM (fun b => layM y b) (lenM y) fin n p.length)
  | 0, p, js, hf, hb, hj, hn => ev_now fun k => by
    rw [Nat.zero_mul, Nat.add_zero] at hf
    rw [optC, Option.bind_some, altsC_ok _ _ hj, optM, List.append_nil, ← hf]
  | n + 1, p, js, hf, hb, hj, hn => by
    rw [Nat.succ_mul] at hf
    have hl := layM_len y (p.length + 1)
    have F := fold_app _ (altP_app (fin : Int)) js p
    have e2 : (p ++ [(⟨2, [], (p.length : Int) + 1, 0⟩ : TInst)] ++ layM y (p.length + 1)).length = p.length + 1 + lenM y := by
      simp only [List.length_append, List.length_singleton, hl]
    have ih := optC_ev y h fin n (p ++ [⟨2, [], (p.length : Int) + 1, 0⟩] ++ layM y (p.length + 1)) (js ++ [(p.length : Int)]) (by rw [e2]; omega) hb (hj.snoc (by rw [e2]; omega) (by rw [e2]; omega))
      (by rw [e2, List.length_append, List.length_singleton]; omega)
    refine ev_same2 (h (p ++ [⟨2, [], (p.length : Int) + 1, 0⟩]) (by simp only [List.length_append, List.length_singleton]; omega)) ih fun k h1 h2 => ?_
    rw [List.length_append, List.length_singleton] at h1
    rw [optC, if_pos (by omega), layI_ok p _ (by omega), Option.bind_some, h1, Option.bind_some, h2, List.foldl_append, List.foldl_cons, List.foldl_nil, List.append_assoc, (F _ hj).1]
    have F2 := (F [] hj).2
    rw [List.singleton_append, altP_at (fin : Int) _ _ _ _ F2.symm, List.length_append, List.length_cons, hl, optM]
    simp only [List.append_assoc, List.cons_append, List.nil_append]
    have e7 : p.length + (lenM y + 1) = p.length + 1 + lenM y := by omega
    rw [e7]
theorem laysC (x : TNode) : WfN x → letB x = true → LaysC x := by
  induction x using node_ind with
  | h x ih =>
    intro hw hl p hp
    obtain ⟨_, h0, h1, l1, h2, h3, l4, hk⟩ := hw
    obtain ⟨f0, f1, f2, f3, f4⟩ := x
    simp only at ih l1 l4 hk
    rw [letB] at hl
    rw [lenM] at hp
    rw [layM]
    by_cases c0 : f0 < 1 ∨ f0 > 7
    · rw [if_pos c0] at hl
      cases hl
    rw [if_neg c0] at hl
    by_cases c2 : f0 = 2
    · rw [if_pos c2] at hp ⊢
      refine ev_one fun k => ?_
      rw [nodeC, if_pos c2, if_pos l1, layI_ok _ _ (by omega)]
    rw [if_neg c2] at hp ⊢
    by_cases c6 : f0 = 6
    · rw [if_pos c6] at hp ⊢
      refine ev_one fun k => ?_
      rw [nodeC, if_neg c2, if_pos c6, layI_ok _ _ (by omega)]
    rw [if_neg c6] at hp ⊢
    by_cases c7 : f0 = 7
    · rw [if_pos c7] at hp ⊢
      refine ev_one fun k => ?_
      rw [nodeC, if_neg c2, if_neg c6, if_pos c7, layI_ok _ _ (by omega)]
    rw [if_neg c7] at hp ⊢
    by_cases c3 : f0 = 3
    · rw [if_pos c3] at hp ⊢
      rw [if_neg (by omega), if_pos (.inl c3)] at hl
      refine ev_step (joinC_ev f4 (fun y hy => ih y hy (hk y hy) (letsB_all f4 hl y hy)) p hp) fun k h => ?_
      rw [nodeC, if_neg c2, if_neg c6, if_neg c7, if_pos c3]
      exact h
    rw [if_neg c3] at hp ⊢
    by_cases c4 : f0 = 4
    · rw [if_pos c4] at hp ⊢
      rw [if_neg (by omega), if_pos (.inr c4)] at hl
      refine ev_step (orC_ev _ f4 (fun y hy => ih y hy (hk y hy) (letsB_all f4 hl y hy)) p [] rfl hp (fun j hj => by simp at hj) (Nat.zero_le _)) fun k h => ?_
      rw [nodeC, if_neg c2, if_neg c6, if_neg c7, if_neg c3, if_pos c4]
      exact h
    rw [if_neg c4] at hp ⊢
    by_cases c5 : f0 = 5
    · rw [if_pos c5] at hp ⊢
      rw [if_pos c5, Bool.and_eq_true] at hl
      obtain ⟨r1, r2, r3, r4, r5, r6⟩ := repB_iff hl.1
      obtain ⟨y, rfl⟩ := List.length_eq_one_iff.1 r1
      have hy := ih y (by simp) (hk y (by simp)) (letsB_all [y] hl.2 y (by simp))
      rw [headN] at hp ⊢
      have em : (fun b => headM [y] b) = fun b => layM y b := by
        funext b
        rw [headM]
      rw [em]
      have hg : ([y] : List TNode).getD 0 z25 = y := rfl
      have ht := timesC_ev y hy f2.toNat p (by omega)
      have hq : (p ++ timesM (fun b => layM y b) (lenM y) f2.toNat p.length).length = p.length + f2.toNat * lenM y := by
        rw [List.length_append, timesM_len _ _ (layM_len y)]
      by_cases c8 : f3 < 0
      · rw [if_pos c8] at hp ⊢
        have hs := hy (p ++ timesM (fun b => layM y b) (lenM y) f2.toNat p.length ++ [⟨2, [], ((p.length + f2.toNat * lenM y : Nat) : Int) + 1, 0⟩]) (by rw [List.length_append, hq, List.length_singleton]; omega)
        refine ev_step2 ht hs fun k g1 g2 => ?_
        rw [List.length_append, hq, List.length_singleton] at g2
        rw [nodeC, if_neg c2, if_neg c6, if_neg c7, if_neg c3, if_neg c4, if_pos c5, repC]
        dsimp only
        rw [if_neg (by simp), if_pos ⟨r2, r3, r4, r5⟩, hg, g1, Option.bind_some, if_pos c8, layI_ok _ _ (by omega), Option.bind_some, hq, g2, Option.bind_some]
        generalize timesM (fun b => layM y b) (lenM y) f2.toNat p.length = tm at *
        have hl2 := layM_len y (p.length + f2.toNat * lenM y + 1)
        have e9 : (p ++ tm ++ [(⟨2, [], ((p.length + f2.toNat * lenM y : Nat) : Int) + 1, 0⟩ : TInst)] ++ layM y (p.length + f2.toNat * lenM y + 1)).length = p.length + f2.toNat * lenM y + 1 + lenM y := by
          rw [List.length_append, List.length_append, hq, hl2, List.length_singleton]
        rw [layI_ok _ _ (by rw [e9]; omega), Option.bind_some, altsC_ok _ _ (inR_one (by rw [List.length_append, e9, List.length_singleton]; omega)), List.foldl_cons, List.foldl_nil, List.length_append, e9, List.length_singleton]
        have e11 : ∀ (Q L : List TInst) (s j : TInst), Q ++ [s] ++ L ++ [j] = Q ++ s :: (L ++ [j]) := fun Q L s j => by simp
        rw [e11, altP_at _ (p ++ tm) _ _ _ hq.symm, starM, List.append_assoc]
        have e10 : p.length + f2.toNat * lenM y + 1 + lenM y + 1 = p.length + f2.toNat * lenM y + 2 + lenM y := by omega
        rw [e10]
      · rw [if_neg c8] at hp ⊢
        have ho := optC_ev y hy (p.length + f2.toNat * lenM y + (f3 - f2).toNat * (lenM y + 1)) (f3 - f2).toNat (p ++ timesM (fun b => layM y b) (lenM y) f2.toNat p.length) [] (by rw [hq]) (by omega) (fun j hj => by simp at hj) (Nat.zero_le _)
        refine ev_step2 ht ho fun k g1 g2 => ?_
        rw [nodeC, if_neg c2, if_neg c6, if_neg c7, if_neg c3, if_neg c4, if_pos c5, repC]
        dsimp only
        rw [if_neg (by simp), if_pos ⟨r2, r3, r4, r5⟩, hg, g1, Option.bind_some, if_neg c8, g2, List.foldl_nil, hq, List.append_assoc]
    rw [if_neg c5] at hp ⊢
    refine ev_one fun k => ?_
    rw [nodeC, if_neg c2, if_neg c6, if_neg c7, if_neg c3, if_neg c4, if_neg c5, List.append_nil]
end Go.Proofs.Ytbbplchdgedhcaa.P
namespace Go.Proofs.Ytbbplchdgedhcaa.P
open Go.RowKit Go.Proofs.YtbbplchdgedhcaaW.PrintWords Go.Proofs.YtbbplchdgedhcaaW.PrintLast
set_option linter.unusedVariables false
set_option linter.unusedSimpArgs false

theorem anyS_ev : ∀ (l : List TNode), (∀ y ∈ l, Ev (fun k => letS k y) (letB y)) → Ev (fun k => anyS (fun y => (letS k y).map (!·)) l) (!letsB l)
  | [], _ => ev_now fun k => by simp [anyS, letsB]
  | x :: l, h => by
    refine ev_same2 (h x (by simp)) (anyS_ev l fun y hy => h y (by simp [hy])) fun k h1 h2 => ?_
    rw [anyS, h1, letsB]
    cases letB x with
    | false => rfl
    | true => exact h2
theorem letS_ev (x : TNode) : Ev (fun k => letS k x) (letB x) := by
  induction x using node_ind with
  | h x ih =>
    obtain ⟨f0, f1, f2, f3, f4⟩ := x
    refine ev_step (anyS_ev f4 ih) fun k h => ?_
    rw [letS, letB]
    dsimp only
    by_cases c1 : f0 = 1 ∨ f0 = 2 ∨ f0 = 6 ∨ f0 = 7
    · rw [if_pos c1, if_neg (by omega), if_neg (by omega), if_neg (by omega)]
    rw [if_neg c1]
    by_cases c0 : f0 < 1 ∨ f0 > 7
    · rw [if_pos c0, if_neg (by omega), if_neg (by omega)]
    rw [if_neg c0]
    by_cases c5 : f0 = 5
    · rw [if_pos c5]
      by_cases c6 : (f4.length ≠ 1 ∨ f2 < 0 ∨ f2 > 20 ∨ f3 < -1 ∨ f3 > 20 ∨ f3 ≥ 0 ∧ f3 < f2)
      · have e : repB f2 f3 f4.length = false := by
          rw [repB, decide_eq_true c6]
          rfl
        rw [if_pos ⟨c5, c6⟩, e]
        rfl
      · have e : repB f2 f3 f4.length = true := by
          rw [repB, decide_eq_false c6]
          rfl
        rw [if_neg (fun hh => c6 hh.2), if_pos (.inr (.inr c5)), h, e]
        simp
    · rw [if_neg c5, if_neg (fun hh => c5 hh.1), if_pos (by omega), h]
      simp
      omega
end Go.Proofs.Ytbbplchdgedhcaa.P
namespace Go.Proofs.Ytbbplchdgedhcaa.P
open Go.RowKit Go.Proofs.YtbbplchdgedhcaaW.PrintWords Go.Proofs.YtbbplchdgedhcaaW.PrintLast Go.Proofs.YtbbplchdgedhcaaW.PrintMore
attribute [local go_sem] max2_int min2_int max_two min_two
set_option linter.unusedVariables false
set_option linter.unusedSimpArgs false

def ductusref19_Count.l0 : Nat → List (S39) → Int → Int → Int → Option (Int)
  | 0, _, _, _, _ => none
  | k + 1, x0, x1, x5, x6 => if x6 < (x0.length : Int) then (if 0 ≤ x6 then (if ((rd_T39 x0 x6).f0) = x1 then (ductusref19_Count.l0 k x0 x1 (wrap64 (x5 + 1)) (wrap64 (x6 + 1))) else (ductusref19_Count.l0 k x0 x1 x5 (wrap64 (x6 + 1)))) else (none)) else (some x5)
def ductusref19_Count.f (k : Nat) (l0 : List (S39)) (a1 : Int) : Option (Int) := ductusref19_Count.l0 k l0 a1 0 0
end Go.Proofs.Ytbbplchdgedhcaa.P
namespace Go.Proofs.Ytbbplchdgedhcaa.P
open Go.RowKit Go.Proofs.YtbbplchdgedhcaaW.PrintWords Go.Proofs.YtbbplchdgedhcaaW.PrintLast
set_option linter.unusedVariables false
set_option linter.unusedSimpArgs false

abbrev QI : Type := S39
/-- How many of an Op, from a place on. -/
def cntI (op : Int) : List QI → Int
  | [] => 0
  | e :: l => (if e.f0 = op then 1 else 0) + cntI op l
theorem ti_drop (l : List QI) (i : Nat) (h : i < l.length) : l.drop i = rd_T39 l (i : Int) :: l.drop (i + 1) := by
  unfold rd_T39
  rw [Int.toNat_natCast, List.getD_eq_getElem?_getD, List.getElem?_eq_getElem h, Option.getD_some]
  exact List.drop_eq_getElem_cons h
theorem count_ev (l : List QI) (op : Int) (hb : l.length < 1152921504606846976) (m : Nat) : ∀ (i n : Nat), i + m = l.length → n ≤ i →
    Ev (fun k => nfa_Count.l0 k op (n : Int) l (l.length : Int) (i : Int)) ((n : Int) + cntI op (l.drop i)) ∧ Ev (fun k => ductusref19_Count.l0 k l op (n : Int) (i : Int)) ((n : Int) + cntI op (l.drop i)) := by
  induction m with
  | zero =>
    intro i n hi hn
    rw [List.drop_eq_nil_of_le (by omega), cntI, Int.add_zero]
    refine ⟨ev_one fun k => ?_, ev_one fun k => ?_⟩
    · rw [nfa_Count.l0, if_neg (by omega)]
    · rw [ductusref19_Count.l0, if_neg (by omega)]
  | succ m ih =>
    intro i n hi hn
    rw [ti_drop l i (by omega), cntI]
    by_cases c : (rd_T39 l (i : Int)).f0 = op
    · obtain ⟨h1, h2⟩ := ih (i + 1) (n + 1) (by omega) (by omega)
      have e : (((n + 1 : Nat) : Int) + cntI op (l.drop (i + 1))) = ((n : Int) + (1 + cntI op (l.drop (i + 1)))) := by omega
      rw [e] at h1 h2
      rw [if_pos c]
      refine ⟨ev_step h1 fun k h => ?_, ev_step h2 fun k h => ?_⟩
      · rw [nfa_Count.l0, if_pos (by omega), if_pos (by omega), if_pos (by omega), if_pos c, wrap_succ i (by omega), wrap_succ n (by omega)]
        exact h
      · rw [ductusref19_Count.l0, if_pos (by omega), if_pos (by omega), if_pos c, wrap_succ i (by omega), wrap_succ n (by omega)]
        exact h
    · obtain ⟨h1, h2⟩ := ih (i + 1) n (by omega) (by omega)
      rw [if_neg c, Int.zero_add]
      refine ⟨ev_step h1 fun k h => ?_, ev_step h2 fun k h => ?_⟩
      · rw [nfa_Count.l0, if_pos (by omega), if_pos (by omega), if_pos (by omega), if_neg c, wrap_succ i (by omega)]
        exact h
      · rw [ductusref19_Count.l0, if_pos (by omega), if_pos (by omega), if_neg c, wrap_succ i (by omega)]
        exact h
theorem counts (l : List QI) (op : Int) (hb : l.length < 1152921504606846976) : Ev (fun k => nfa_Count.f k l op) (cntI op l) ∧ Ev (fun k => ductusref19_Count.f k l op) (cntI op l) := by
  have := count_ev l op hb l.length 0 0 (by omega) (by omega)
  rw [List.drop_zero] at this
  have e : (((0 : Nat) : Int) + cntI op l) = cntI op l := Int.zero_add _
  rw [e] at this
  exact this
end Go.Proofs.Ytbbplchdgedhcaa.P
namespace Go.Proofs.Ytbbplchdgedhcaa.P
open Go.Deep Go.ChangeShapes Go.WideShapes Go.Proofs.YtbbplchdgedhcaaW.PrintWords
set_option linter.unusedVariables false
set_option linter.unusedSimpArgs false

/-- What an argument's data weigh is within the reach. -/
def Lite {H : Type} (P : Program) (t : TypeId) (d : DataW H) : Prop := ∀ q ∈ d.weights P t, q ≤ reachBytes
/-- What reads by a type, within m steps, is of a kind. -/
def Opens {α H : Type} (enc : TypeId × Value → H) (P : Program) (w : World) (base : Nat) (held : Bool) (t : TypeId) (d : Kd α) (wf : α → Prop) (m : Nat) : Prop :=
  ∀ (cs : List Value) (y : DataW H × List MemPlace), DataW.trod enc P w base (fun _ => true) held m t cs = some y → Lite P t y.1 → ∃ v, d.K w v cs ∧ wf v
section
variable {α H : Type} {enc : TypeId × Value → H} {P : Program} {w : World} {base : Nat} {held : Bool}
theorem weightsAll_mem {e : TypeId} {n : Nat} {d : DataW H} : ∀ {l : List (DataW H)}, d ∈ l → n ∈ d.weights P e → n ∈ DataW.weightsAll P e l
  | [], h, _ => by simp at h
  | x :: l, h, hn => by
    simp only [DataW.weightsAll, List.mem_append]
    rcases List.mem_cons.1 h with rfl | h
    · exact .inl hn
    · exact .inr (weightsAll_mem h hn)
theorem opens_slice [Inhabited α] {t e : TypeId} {d : Kd α} {wf : α → Prop} {B : Nat} (ht : P.underlying t = some (.slice e)) (hc : P.cellsOf e = d.sz) (hB : P.bytesOf e = B) (m : Nat) (ih : ∀ n, m = n + 1 → Opens enc P w base held e d wf n) :
    Opens enc P w base held t (Kd.slice e d) (fun l => l.length * B ≤ 140737488351232 ∧ ∀ x ∈ l, wf x) m := by
  intro cs y h hw
  rcases DataW.trod_slice ht h with ⟨rfl, _⟩ | ⟨a, len, cap, elems, rest, n, hn, rfl, rfl, hb, hl, hm, hlen, hel, _, _⟩
  · exact ⟨[], ⟨none, 0, rfl, Nat.le_refl _, ⟨rfl, by simp, fun h => absurd h (Nat.lt_irrefl 0)⟩⟩, by simp, by simp⟩
  · have hO := ih n hn
    have ex : ∀ i, i < len → ∃ v : α, (∃ c : List Value, c.length = d.sz ∧ d.K w v c ∧ ∀ j u, c[j]? = some u → w.cell? (a.add (i * d.sz + j)) = some u) ∧ wf v := by
      intro i hi
      have h1 := hel i hi
      rw [hc] at h1
      have h2 : elems[i]? = some (elems[i]'(by omega)) := List.getElem?_eq_getElem (by omega)
      rw [h2] at h1
      obtain ⟨c, hc1, hc2⟩ := Option.bind_eq_some_iff.mp h1
      obtain ⟨_, hcl, hcell⟩ := World.cells?_some hc1
      obtain ⟨v, hv, hwf⟩ := hO c _ hc2 (fun q hq => hw q (by
        simp only [DataW.weights, ht, List.mem_cons, List.mem_append]
        exact .inr (.inl (weightsAll_mem (List.mem_map_of_mem (List.getElem_mem (by omega))) hq))))
      refine ⟨v, ⟨c, hcl, hv, fun j u hu => ?_⟩, hwf⟩
      have hj : j < d.sz := by rw [← hcl]; exact (List.getElem?_eq_some_iff.1 hu).1
      rw [← Go.Deep.add_add, hcell j hj]
      exact hu
    obtain ⟨q, hq⟩ := choose_lt ex
    have hlen2 : ((List.range len).map q).length = len := by simp
    refine ⟨(List.range len).map q, ⟨some a, cap, by rw [hlen2], by rw [hlen2]; exact hl, ?_⟩, ?_, ?_⟩
    · rw [hlen2]
      refine ⟨hlen2, by have := Nat.le_trans hl hm; simp only [maxLen] at this; omega, fun _ => ⟨a, rfl, fun j p hp => ?_⟩⟩
      have hj : j < len := by
        have := (List.getElem?_eq_some_iff.1 hp).1
        rwa [hlen2] at this
      have hpq : p = q j := by
        rw [List.getElem?_map, List.getElem?_range hj] at hp
        exact (Option.some.inj hp).symm
      subst hpq
      obtain ⟨⟨c, h1, h2, h3⟩, _⟩ := hq j hj
      exact ⟨c, h1, h2, h3⟩
    · rw [hlen2]
      have := hw ((elems.length + rest.length) * B) (by simp only [DataW.weights, ht, List.length_map, hB]; exact List.mem_cons_self)
      have h2 : len * B ≤ (elems.length + rest.length) * B := Nat.mul_le_mul_right _ (by omega)
      exact Nat.le_trans h2 this
    · intro x hx
      obtain ⟨j, hj, rfl⟩ := List.mem_map.1 hx
      exact (hq j (List.mem_range.1 hj)).2
theorem okWide_struct {r : Reach} {b0 : Nat} {t : TypeId} {fs : Array Field} {v : Value} (ht : P.underlying t = some (.struct fs)) (h : Value.okWide P w r b0 t v) : ∃ cs, v = .agg cs ∧ cs.size = P.cellsOf t := by
  simp only [Value.okWide, ht] at h
  obtain ⟨cs, h1, h2, _⟩ := h
  exact ⟨cs, h1, h2⟩
end
section
variable {H : Type} {enc : TypeId × Value → H} {w : World} {base : Nat} {held : Bool}
def w64 (x : Int) : Prop := -9223372036854775808 ≤ x ∧ x ≤ 9223372036854775807
theorem w64_of {x : Int} (h : (Lit.int .i64 x).wf = true) : w64 x := by
  have hmin : IntKind.i64.min = -9223372036854775808 := rfl
  have hmax : IntKind.i64.max = 9223372036854775807 := rfl
  simp only [Lit.wf, Bool.and_eq_true, decide_eq_true_eq] at h
  unfold w64
  omega
theorem cells_int : Try.prog.cellsOf 3 = 1 := by kernel_rfl
theorem cells_ranges : Try.prog.cellsOf 22 = 1 := by kernel_rfl
theorem cells_nodes : Try.prog.cellsOf 23 = 1 := by kernel_rfl
theorem cells_range : Try.prog.cellsOf 42 = 2 := by kernel_rfl
theorem cells_node : Try.prog.cellsOf 25 = 5 := by kernel_rfl
theorem bytes_range : Try.prog.bytesOf 42 = 16 := by kernel_rfl
theorem bytes_node : Try.prog.bytesOf 25 = 72 := by kernel_rfl
instance : Inhabited S42 := ⟨z42⟩
instance : Inhabited S25 := ⟨z25⟩
theorem opens_range (m : Nat) : Opens enc Try.prog w base held 42 k42 (fun r => w64 r.f0 ∧ w64 r.f1) m := by
  intro cs y h _
  obtain ⟨xs, n, rfl, _, hl, hxl, hf⟩ := DataW.trod_struct Try.underlying42 h
  rw [cells_range] at hl
  match xs, hxl, cs, hl with
  | [y0, y1], _, [c0, c1], _ =>
    have g0 := hf 0 _ rfl
    have g1 := hf 1 _ rfl
    simp [cells_int] at g0 g1
    obtain ⟨x0, e0, _, w0⟩ := DataW.trod_int Try.underlying3 g0
    obtain ⟨x1, e1, _, w1⟩ := DataW.trod_int Try.underlying3 g1
    obtain rfl := (List.cons.inj e0).1
    obtain rfl := (List.cons.inj e1).1
    exact ⟨⟨x0, x1⟩, k42_mk w ⟨x0, x1⟩, w64_of w0, w64_of w1⟩
/-- A tree that was read. -/
inductive WfT : S25 → Prop
  | mk (x : S25) (h0 : w64 x.f0) (l1 : x.f1.length * 16 ≤ 140737488351232) (h1 : ∀ r ∈ x.f1, w64 r.f0 ∧ w64 r.f1) (h2 : w64 x.f2) (h3 : w64 x.f3) (l4 : x.f4.length * 72 ≤ 140737488351232) (hk : ∀ y ∈ x.f4, WfT y) : WfT x
theorem opens_ranges (m : Nat) : Opens enc Try.prog w base held 22 (Kd.slice 42 k42) (fun l => l.length * 16 ≤ 140737488351232 ∧ ∀ r ∈ l, w64 r.f0 ∧ w64 r.f1) m :=
  opens_slice Try.underlying22 (by rw [cells_range]; rfl) bytes_range m (fun n _ => opens_range n)
theorem opens_node : ∀ m : Nat, Opens enc Try.prog w base held 25 k25 WfT m := by
  intro m
  induction m using Nat.strongRecOn with
  | ind m ih =>
    intro cs y h hw
    obtain ⟨xs, n, rfl, rfl, hl, hxl, hf⟩ := DataW.trod_struct Try.underlying25 h
    rw [cells_node] at hl
    match xs, hxl, cs, hl with
    | [y0, y1, y2, y3, y4], _, [c0, c1, c2, c3, c4], _ =>
      have g0 := hf 0 _ rfl
      have g1 := hf 1 _ rfl
      have g2 := hf 2 _ rfl
      have g3 := hf 3 _ rfl
      have g4 := hf 4 _ rfl
      simp [cells_int, cells_ranges, cells_nodes] at g0 g1 g2 g3 g4
      obtain ⟨x0, e0, _, w0⟩ := DataW.trod_int Try.underlying3 g0
      obtain ⟨x2, e2, _, w2⟩ := DataW.trod_int Try.underlying3 g2
      obtain ⟨x3, e3, _, w3⟩ := DataW.trod_int Try.underlying3 g3
      obtain rfl := (List.cons.inj e0).1
      obtain rfl := (List.cons.inj e2).1
      obtain rfl := (List.cons.inj e3).1
      have hwe : ∀ (j : Nat) (t : TypeId) (d : DataW H), [3, 22, 3, 3, 23][j]? = some t → [y0.1, y1.1, y2.1, y3.1, y4.1][j]? = some d → Lite Try.prog t d := by
        intro j t d ht hd q hq
        refine hw q ?_
        simp only [DataW.weights, Try.underlying25]
        exact DataW.weights_mem_each (j := j) ht hd q hq
      obtain ⟨l1, hk1, hl1⟩ := opens_ranges n [c1] y1 g1 (hwe 1 _ _ rfl rfl)
      obtain ⟨l4, hk4, hl4⟩ := opens_slice (wf := WfT) Try.underlying23 (by rw [cells_node]; rfl) bytes_node n (fun q hq => ih q (by omega)) [c4] y4 g4 (hwe 4 _ _ rfl rfl)
      obtain ⟨A1, d1, he1, hd1, hC1⟩ := hk1
      obtain ⟨A4, d4, he4, hd4, hC4⟩ := hk4
      obtain rfl := (List.cons.inj he1).1
      obtain rfl := (List.cons.inj he4).1
      exact ⟨⟨x0, l1, x2, x3, l4⟩, k25_mk w ⟨x0, l1, x2, x3, l4⟩ hd1 hC1 hd4 hC4, .mk _ (w64_of w0) hl1.1 hl1.2 (w64_of w2) (w64_of w3) hl4.1 hl4.2⟩
/-- An argument that is a tree. -/
theorem open_node {r : Reach} {b0 : Nat} {v : Value} {d : DataW H} {p : List MemPlace} (hv : Value.okWide Try.prog w r b0 25 v) (h : DataW.Trod enc Try.prog w base (fun _ => true) held 25 v d p) (hw : Lite Try.prog 25 d) :
    ∃ (x : S25) (A1 : Option Addr) (c1 : Nat) (A4 : Option Addr) (c4 : Nat), v = .agg #[.int .i64 x.f0, .slice A1 x.f1.length c1, .int .i64 x.f2, .int .i64 x.f3, .slice A4 x.f4.length c4] ∧ x.f1.length ≤ c1 ∧ Kd.C k42 w A1 x.f1.length x.f1 ∧ x.f4.length ≤ c4 ∧ Kd.C k25 w A4 x.f4.length x.f4 ∧ WfT x := by
  obtain ⟨cs, rfl, hs⟩ := okWide_struct Try.underlying25 hv
  obtain ⟨fuel, hf⟩ := h
  obtain ⟨x, hK, hwf⟩ := opens_node fuel _ _ hf hw
  obtain ⟨A1, c1, A4, c4, he, l1, g1, l4, g4⟩ := k25_open hK
  refine ⟨x, A1, c1, A4, c4, ?_, l1, g1, l4, g4, hwf⟩
  have he2 : cs.toList = [.int .i64 x.f0, .slice A1 x.f1.length c1, .int .i64 x.f2, .int .i64 x.f3, .slice A4 x.f4.length c4] := he
  rw [show cs = #[.int .i64 x.f0, .slice A1 x.f1.length c1, .int .i64 x.f2, .int .i64 x.f3, .slice A4 x.f4.length c4] from Array.toList_inj.1 (by simpa using he2)]
theorem lite_of {ts : List TypeId} {ds : List (DataW H)} {j : Nat} {t : TypeId} {d : DataW H} (hsz : (DataW.weightsEach Try.prog ts ds).all (· ≤ reachBytes) = true) (ht : ts[j]? = some t) (hd : ds[j]? = some d) : Lite Try.prog t d := fun q hq => by
  simpa using List.all_eq_true.1 hsz q (DataW.weights_mem_each ht hd q hq)
end
end Go.Proofs.Ytbbplchdgedhcaa.P
namespace Go.Proofs.Ytbbplchdgedhcaa.P
open Go.RowKit Go.Proofs.YtbbplchdgedhcaaW.PrintWords Go.Proofs.YtbbplchdgedhcaaW.PrintLast
set_option linter.unusedVariables false
set_option linter.unusedSimpArgs false

theorem wf_of (x : TNode) : WfT x → WfN x := by
  induction x using node_ind with
  | h x ih =>
    intro hw
    obtain ⟨_, h0, l1, h1, h2, h3, l4, hk⟩ := hw
    exact .mk x h0 h1 (by omega) h2 h3 (by omega) fun y hy => ih y hy (hk y hy)
def lastI : TInst := ⟨0, [], 0, 0⟩
def compM (x : TNode) : List TInst × Int := if letB x = true then compT (layM x 0 ++ [lastI]) else ([], 1)
theorem compC_ev (x : TNode) (hw : WfN x) (hl : letB x = true → lenM x ≤ 9000) : Ev (fun k => nfa_Compile.f k x.f0 x.f1 x.f2 x.f3 x.f4) (compM x) := by
  have e : (fun k => nfa_Compile.f k x.f0 x.f1 x.f2 x.f3 x.f4) = fun k => compX k x := by
    funext k
    obtain ⟨f0, f1, f2, f3, f4⟩ := x
    rfl
  rw [e]
  by_cases c : letB x = true
  · have hn := hl c
    have hs := letS_ev x
    have hy := laysC x hw c [] (by rw [List.length_nil]; omega)
    rw [c] at hs
    refine ev_same2 hs hy fun k h h' => ?_
    rw [compX, h, Option.bind_some, if_pos rfl, h', Option.bind_some, List.nil_append, List.length_nil, layI_ok _ _ (by rw [layM_len]; omega), compM, if_pos c]
    rfl
  · have hs := letS_ev x
    have c' : letB x = false := by simpa using c
    rw [c'] at hs
    refine ev_same hs fun k h => ?_
    rw [compX, h, Option.bind_some, if_neg (by decide), compM, if_neg c]
theorem len_small (x : TNode) (n : Nat) (hn : n < 1000000) (h : sizeT x ≤ n) : letB x = true → lenM x ≤ 3 * n := fun c => by
  have := len_le x c (by omega)
  omega
theorem alive_ok : ductuslaw19_alive.f = some true := by kernel_rfl
end Go.Proofs.Ytbbplchdgedhcaa.P
namespace Go.Proofs.Ytbbplchdgedhcaa.Pure
open Go.RowKit Go.Proofs.Ytbbplchdgedhcaa.P Go.Proofs.YtbbplchdgedhcaaW.PrintWords Go.Proofs.YtbbplchdgedhcaaW.PrintLast
set_option linter.unusedVariables false
set_option linter.unusedSimpArgs false

/-- What may stand at a place: a split goes on behind it, or further on; a jump elsewhere. -/
def okI (i hi : Nat) (e : TInst) : Prop := 1 ≤ e.f0 ∧ e.f0 ≤ 5 ∧ (e.f0 = 2 → e.f2 = (i : Int) + 1 ∧ i + 1 ≤ hi ∧ (i : Int) < e.f3 ∧ e.f3 ≤ (hi : Int)) ∧ (e.f0 = 3 → 0 ≤ e.f2 ∧ e.f2 ≤ (hi : Int) ∧ e.f2 ≠ (i : Int))
def okL (hi : Nat) : Nat → List TInst → Prop
  | _, [] => True
  | i, e :: l => okI i hi e ∧ okL hi (i + 1) l
theorem okL_app (hi : Nat) : ∀ (l m : List TInst) (i : Nat), okL hi i l → okL hi (i + l.length) m → okL hi i (l ++ m)
  | [], m, i, _, h => h
  | e :: l, m, i, h, h' => ⟨h.1, okL_app hi l m (i + 1) h.2 (by rw [List.length_cons] at h'; rw [show i + 1 + l.length = i + (l.length + 1) by omega]; exact h')⟩
theorem okL_mono {hi hi' : Nat} (hh : hi ≤ hi') : ∀ (l : List TInst) (i : Nat), okL hi i l → okL hi' i l
  | [], i, _ => trivial
  | e :: l, i, h => by
    obtain ⟨⟨h1, h2, h3, h4⟩, h5⟩ := h
    exact ⟨⟨h1, h2, fun c => by have := h3 c; omega, fun c => by have := h4 c; omega⟩, okL_mono hh l (i + 1) h5⟩
theorem okL_get (hi : Nat) : ∀ (l : List TInst) (i j : Nat) (h : j < l.length), okL hi i l → okI (i + j) hi l[j]
  | e :: l, i, 0, h, hk => hk.1
  | e :: l, i, j + 1, h, hk => by
    have := okL_get hi l (i + 1) j (by rw [List.length_cons] at h; omega) hk.2
    rw [show i + (j + 1) = i + 1 + j by omega]
    exact this
theorem ok_simple (i hi : Nat) (op : Int) (r : List TRange) (h : op = 1 ∨ op = 4 ∨ op = 5) : okI i hi ⟨op, r, 0, 0⟩ :=
  ⟨show 1 ≤ op by omega, show op ≤ 5 by omega, fun c => absurd (show op = 2 from c) (by omega), fun c => absurd (show op = 3 from c) (by omega)⟩
theorem ok_split (i hi : Nat) (alt : Int) (h : i + 1 ≤ hi ∧ (i : Int) < alt ∧ alt ≤ (hi : Int)) : okI i hi ⟨2, [], (i : Int) + 1, alt⟩ :=
  ⟨show (1 : Int) ≤ 2 by decide, show (2 : Int) ≤ 5 by decide, fun _ => ⟨rfl, h.1, h.2.1, h.2.2⟩, fun c => absurd (show (2 : Int) = 3 from c) (by decide)⟩
theorem ok_jump (i hi : Nat) (n : Int) (h : 0 ≤ n ∧ n ≤ (hi : Int) ∧ n ≠ (i : Int)) : okI i hi ⟨3, [], n, 0⟩ :=
  ⟨show (1 : Int) ≤ 3 by decide, show (3 : Int) ≤ 5 by decide, fun c => absurd (show (3 : Int) = 2 from c) (by decide), fun _ => h⟩
section
variable (g : Nat → List TInst) (len : Nat) (hg : ∀ a, okL (a + len) a (g a)) (hl : ∀ a, (g a).length = len)
include hg hl
theorem ok_times : ∀ (n a hi : Nat), a + n * len ≤ hi → okL hi a (timesM g len n a)
  | 0, a, hi, h => trivial
  | n + 1, a, hi, h => by
    rw [Nat.succ_mul] at h
    rw [timesM]
    exact okL_app hi _ _ _ (okL_mono (by omega) _ _ (hg a)) (by rw [hl]; exact ok_times n (a + len) hi (by omega))
theorem ok_opt (fin : Nat) : ∀ (n a : Nat), a + n * (len + 1) ≤ fin → okL fin a (optM g len fin n a)
  | 0, a, h => trivial
  | n + 1, a, h => by
    rw [Nat.succ_mul] at h
    rw [optM]
    exact ⟨ok_split a fin _ (by omega), okL_app fin _ _ _ (okL_mono (by omega) _ _ (hg (a + 1))) (by rw [hl]; exact ok_opt fin n (a + 1 + len) (by omega))⟩
theorem ok_star (a : Nat) : okL (a + (len + 2)) a (starM g len a) := by
  rw [starM]
  refine ⟨ok_split a _ _ (by omega), okL_app _ _ _ _ (okL_mono (by omega) _ _ (hg (a + 1))) ?_⟩
  rw [hl]
  exact ⟨ok_jump _ _ _ (by omega), trivial⟩
end
theorem ok_join : ∀ (l : List TNode), (∀ y ∈ l, ∀ a, okL (a + lenM y) a (layM y a)) → ∀ a hi, a + joinN l ≤ hi → okL hi a (joinM l a)
  | [], _, a, hi, _ => by rw [joinM]; trivial
  | x :: l, h, a, hi, hh => by
    rw [joinN] at hh
    rw [joinM]
    exact okL_app hi _ _ _ (okL_mono (by omega) _ _ (h x (by simp) a)) (by rw [layM_len]; exact ok_join l (fun y hy => h y (by simp [hy])) _ hi (by omega))
theorem ok_or : ∀ (l : List TNode), (∀ y ∈ l, ∀ a, okL (a + lenM y) a (layM y a)) → ∀ a fin, a + orN l ≤ fin → okL fin a (P.orM l a fin)
  | [], _, a, fin, _ => by rw [Go.Proofs.Ytbbplchdgedhcaa.P.orM]; trivial
  | x :: l, h, a, fin, hh => by
    rw [orN] at hh
    rw [Go.Proofs.Ytbbplchdgedhcaa.P.orM]
    by_cases c : l.length = 0
    · rw [if_pos c] at hh ⊢
      exact okL_mono (by omega) _ _ (h x (by simp) a)
    · rw [if_neg c] at hh ⊢
      refine ⟨ok_split a fin _ (by omega), okL_app fin _ _ _ (okL_mono (by omega) _ _ (h x (by simp) (a + 1))) ?_⟩
      rw [layM_len]
      refine ⟨ok_jump _ _ _ (by omega), ?_⟩
      rw [show a + 1 + lenM x + 1 = a + 2 + lenM x by omega]
      exact ok_or l (fun y hy => h y (by simp [hy])) _ fin (by omega)
theorem ok_lay (x : TNode) : ∀ a, okL (a + lenM x) a (layM x a) := by
  induction x using node_ind with
  | h x ih =>
    intro a
    obtain ⟨f0, f1, f2, f3, f4⟩ := x
    simp only at ih
    have hh : ∀ b, okL (b + headN f4) b ((fun b => headM f4 b) b) := fun b => by
      show okL (b + headN f4) b (headM f4 b)
      cases f4 with
      | nil => rw [headM]; trivial
      | cons y l =>
        rw [headM, headN]
        exact ih y (by simp) b
    have hl : ∀ b, ((fun b => headM f4 b) b).length = headN f4 := fun b => headM_len f4 (fun y _ => layM_len y) b
    rw [layM, lenM]
    split
    · exact ⟨ok_simple _ _ _ _ (.inl rfl), trivial⟩
    split
    · exact ⟨ok_simple _ _ _ _ (.inr (.inl rfl)), trivial⟩
    split
    · exact ⟨ok_simple _ _ _ _ (.inr (.inr rfl)), trivial⟩
    split
    · exact ok_join f4 ih a _ (Nat.le_refl _)
    split
    · exact ok_or f4 ih a _ (Nat.le_refl _)
    split
    · split
      · refine okL_app _ _ _ _ (ok_times _ _ hh hl _ _ _ (by omega)) ?_
        rw [timesM_len _ _ hl, ← Nat.add_assoc]
        exact ok_star _ _ hh hl _
      · refine okL_app _ _ _ _ (ok_times _ _ hh hl _ _ _ (by omega)) ?_
        rw [timesM_len _ _ hl, ← Nat.add_assoc]
        exact ok_opt _ _ hh hl _ _ _ (Nat.le_refl _)
    · trivial
theorem may_get (x : TNode) (i : Nat) (h : i < lenM x) : okI i (lenM x) (rd_T39 (layM x 0 ++ [lastI]) (i : Int)) := by
  have hl := layM_len x 0
  have hi : i < (layM x 0).length := by omega
  have := okL_get _ _ 0 i hi (ok_lay x 0)
  rw [Nat.zero_add, Nat.zero_add] at this
  unfold rd_T39
  rw [Int.toNat_natCast, List.getD_eq_getElem?_getD, List.getElem?_append_left hi, List.getElem?_eq_getElem hi, Option.getD_some]
  exact this
theorem may_last (x : TNode) : rd_T39 (layM x 0 ++ [lastI]) ((lenM x : Nat) : Int) = lastI := by
  unfold rd_T39
  rw [Int.toNat_natCast, List.getD_eq_getElem?_getD, List.getElem?_append_right (by rw [layM_len]; omega), layM_len, Nat.sub_self]
  rfl
theorem okL_mem (hi : Nat) : ∀ (l : List TInst) (i : Nat), okL hi i l → ∀ e ∈ l, ∃ j, okI j hi e
  | [], i, _, e, he => by cases he
  | x :: l, i, h, e, he => by
    rcases List.mem_cons.1 he with rfl | he
    · exact ⟨i, h.1⟩
    · exact okL_mem hi l (i + 1) h.2 e he
theorem cnt_app (op : Int) : ∀ (l m : List QI), cntI op (l ++ m) = cntI op l + cntI op m
  | [], m => by rw [List.nil_append, cntI, Int.zero_add]
  | e :: l, m => by rw [List.cons_append, cntI, cntI, cnt_app op l m, Int.add_assoc]
theorem cnt_none (op : Int) : ∀ (l : List QI), (∀ e ∈ l, e.f0 ≠ op) → cntI op l = 0
  | [], _ => by rw [cntI]
  | e :: l, h => by rw [cntI, if_neg (h e (by simp)), cnt_none op l (fun z hz => h z (by simp [hz])), Int.zero_add]
theorem may_right (x : TNode) (h : lenM x + 1 ≤ 1000) : rightI (layM x 0 ++ [lastI]) = true := by
  have hl : (layM x 0 ++ [lastI]).length = lenM x + 1 := by rw [List.length_append, layM_len, List.length_singleton]
  have e : (((lenM x + 1 : Nat) : Int) - 1) = ((lenM x : Nat) : Int) := by omega
  rw [rightI, hl, if_neg (by omega), if_neg (by omega), e, may_last, if_neg (by decide), Bool.not_eq_true', List.any_eq_false]
  intro y hy
  rw [Bool.not_eq_true]
  rcases List.mem_append.1 hy with hy | hy
  · obtain ⟨j, h1, h2, h3, h4⟩ := okL_mem _ _ _ (ok_lay x 0) y hy
    unfold badI badV inI
    by_cases c : y.f0 = 0 ∨ y.f0 = 1 ∨ y.f0 = 4 ∨ y.f0 = 5
    · rw [if_pos c]
    rw [if_neg c]
    by_cases c2 : y.f0 = 2
    · have := h3 c2
      rw [if_pos c2, decide_eq_true (by omega), decide_eq_true (by omega)]
      rfl
    · have := h4 (by omega)
      rw [if_neg c2, if_pos (by omega), decide_eq_true (by omega)]
      rfl
  · rw [List.mem_singleton.1 hy]
    rfl
theorem may_count (x : TNode) : cntI 0 (layM x 0 ++ [lastI]) = 1 := by
  rw [cnt_app, cnt_none 0 (layM x 0) fun e he => by
    obtain ⟨j, h1, _⟩ := okL_mem _ _ _ (ok_lay x 0) e he
    omega]
  rfl
theorem may_loop (x : TNode) (hw : WfN x) (hs : letB x = true) (hz : sizeT x ≤ 3000) (h : lenM x + 1 ≤ 1000) (m : Nat) : ∀ i : Nat, i + m = lenM x + 1 →
    Ev (fun k => ductuslaw19_NfaMay.l0 k (layM x 0 ++ [lastI]) (i : Int) x.f0 x.f1 x.f2 x.f3 x.f4) true := by
  have hl : (layM x 0 ++ [lastI]).length = lenM x + 1 := by rw [List.length_append, layM_len, List.length_singleton]
  induction m with
  | zero =>
    intro i hi
    have hle := len_le x hs (by omega)
    have hsr := size_rng x
    refine ev_step2 (counts (layM x 0 ++ [lastI]) 0 (by omega)).1 (size_ev x hw) fun k h1 h2 => ?_
    have h2' : ductusref16_Size.f k x.f0 x.f1 x.f2 x.f3 x.f4 = some (sizeT x) := h2
    rw [ductuslaw19_NfaMay.l0, hl, if_neg (by omega), nfa_Right.f, Option.bind_some, if_pos (may_right x h), h1, Option.bind_some, if_pos (may_count x), h2', Option.bind_some, wrap_id (x := 3 * sizeT x) (by omega) (by omega), wrap_id (by omega) (by omega), decide_eq_true (by omega)]
  | succ m ih =>
    intro i hi
    refine ev_step (ih (i + 1) (by omega)) fun k h1 => ?_
    by_cases c : i = lenM x
    · subst c
      rw [ductuslaw19_NfaMay.l0, hl, if_pos (by omega), if_pos (by omega), may_last, if_neg (show ¬ lastI.f0 = 2 by decide), if_neg (show ¬ lastI.f0 = 3 by decide), if_pos (show lastI.f0 = 0 from rfl), wrap_id (x := ((lenM x + 1 : Nat) : Int) - 1) (by omega) (by omega), if_neg (by omega), wrap_succ _ (by omega)]
      exact h1
    · have hk := may_get x i (by omega)
      generalize hy : rd_T39 (layM x 0 ++ [lastI]) (i : Int) = y at hk
      obtain ⟨g1, g2, g3, g4⟩ := hk
      rw [ductuslaw19_NfaMay.l0, hl, if_pos (by omega), if_pos (by omega), hy, wrap_succ i (by omega)]
      by_cases c2 : y.f0 = 2
      · have := g3 c2
        rw [if_pos c2, if_pos (by omega), if_neg (by omega), if_neg (by omega), if_neg (by omega)]
        exact h1
      rw [if_neg c2]
      by_cases c3 : y.f0 = 3
      · have := g4 c3
        rw [if_pos c3, if_neg this.2.2, if_neg (by omega)]
        exact h1
      rw [if_neg c3, if_neg (by omega)]
      exact h1
theorem NfaMay (x : TNode) (h : WfT x) : ∃ k, ductuslaw19_NfaMay.f k x.f0 x.f1 x.f2 x.f3 x.f4 = some true := by
  have hw := wf_of x h
  obtain ⟨W, hW, _, _⟩ := weight_ev x hw 0 (by omega)
  have hS := size_ev x hw
  have hsr := size_rng x
  have jt : Ev (fun k => ductuslaw19_NfaMay.j0 k true x.f0 x.f1 x.f2 x.f3 x.f4) true := ev_one fun k => by rw [ductuslaw19_NfaMay.j0, if_pos rfl]
  have jd : Ev (fun k => ductuslaw19_NfaMay.j0 k (decide (sizeT x > 3000)) x.f0 x.f1 x.f2 x.f3 x.f4) true := by
    by_cases c : sizeT x > 3000
    · rw [decide_eq_true c]
      exact jt
    · rw [decide_eq_false c]
      have hl := len_small x 3000 (by omega) (by omega)
      have hc := compC_ev x hw hl
      have hp : (layM x 0 ++ [lastI]).length = lenM x + 1 := by rw [List.length_append, layM_len, List.length_singleton]
      by_cases d : letB x = true ∧ lenM x + 1 ≤ 1000
      · have e : compM x = (layM x 0 ++ [lastI], 0) := by
          rw [compM, if_pos d.1, compT, hp, if_neg (by omega)]
        rw [e] at hc
        have hm := may_loop x hw d.1 (by omega) d.2 (lenM x + 1) 0 (by omega)
        refine ev_step2 hc hm fun k h1 h2 => ?_
        rw [ductuslaw19_NfaMay.j0, if_neg (by decide), h1, Option.bind_some, if_pos rfl]
        exact h2
      · have e : ∃ q : Int, compM x = ([], q) ∧ q ≠ 0 := by
          by_cases d1 : letB x = true
          · refine ⟨10, ?_, by decide⟩
            rw [compM, if_pos d1, compT, hp, if_pos (by have : ¬ lenM x + 1 ≤ 1000 := fun h => d ⟨d1, h⟩; omega)]
          · exact ⟨1, by rw [compM, if_neg d1], by decide⟩
        obtain ⟨q, e, hq⟩ := e
        rw [e] at hc
        refine ev_step hc fun k h1 => ?_
        rw [ductuslaw19_NfaMay.j0, if_neg (by decide), h1, Option.bind_some, if_neg hq]
        rfl
  obtain ⟨k, hk⟩ : Ev (fun k => ductuslaw19_NfaMay.f k x.f0 x.f1 x.f2 x.f3 x.f4) true := by
    by_cases c : W > 1000
    · refine ev_same2 hW jt fun k h1 h2 => ?_
      have h1' : ductusref16_Weight.f k x.f0 x.f1 x.f2 x.f3 x.f4 0 = some W := h1
      rw [ductuslaw19_NfaMay.f, alive_ok, Option.bind_some, if_pos rfl, h1', Option.bind_some, if_pos c]
      exact h2
    · refine ev_same3 hW hS jd fun k h1 h2 h3 => ?_
      have h1' : ductusref16_Weight.f k x.f0 x.f1 x.f2 x.f3 x.f4 0 = some W := h1
      have h2' : ductusref16_Size.f k x.f0 x.f1 x.f2 x.f3 x.f4 = some (sizeT x) := h2
      rw [ductuslaw19_NfaMay.f, alive_ok, Option.bind_some, if_pos rfl, h1', Option.bind_some, if_neg c, h2', Option.bind_some]
      exact h3
  exact ⟨k, hk k (Nat.le_refl _)⟩
end Go.Proofs.Ytbbplchdgedhcaa.Pure
