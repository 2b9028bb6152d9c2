/- Proved: the theorems below, each under its own conditions. -/
import Derived.Test.YtmjipbmpapcboaaC31
import Derived.Test.YtmjipbmpapcboaaC25
import Derived.Test.YtmjipbmpapcboaaC26
import Derived.Test.YtmjipbmpapcboaaC14
import Derived.Test.YtmjipbmpapcboaaC13
import Derived.Test.YtmjipbmpapcboaaC15
namespace Go.Proofs.Ytmjipbmpapcboaa.P
open Go.RowKit Go.Proofs.YtmjipbmpapcboaaW.PrintWords Go.Proofs.YtmjipbmpapcboaaW.PrintLast Go.Proofs.YtmjipbmpapcboaaW.PrintMore
set_option linter.unusedVariables false
set_option linter.unusedSimpArgs false
abbrev Pr := S87
theorem w_two {i : Nat} (h : i < 1000000000) : wrap64 ((i : Int) + 2) = ((i + 2 : Nat) : Int) := by
  rw [wrap_id (by omega) (by omega)]
  omega
def brk : List Int := [40, 41, 91, 93, 123, 125, 9001, 9002, 12296, 12297, 12298, 12299, 12300, 12301, 12302, 12303, 12304, 12305]
theorem other_ok (c : Int) : Ok (fun k => ductusref03_Other.f k c) (fun _ => True) := by
  have hb : brk.length = 18 := rfl
  have key : ∀ (d i : Nat), 9 - i = d → i ≤ 9 → Ok (fun k => ductusref03_Other.l0 k c brk ((2 * i : Nat) : Int)) (fun _ => True) := by
    intro d
    induction d with
    | zero =>
      intro i h1 h2;refine ok_succ ?_;simp only [ductusref03_Other.l0];exact ok_no (by omega) (ok_now trivial)
    | succ d ih =>
      intro i h1 h2;refine ok_succ ?_;simp only [ductusref03_Other.l0, w_succ (show 2 * i < 1000000000 by omega), w_two (show 2 * i < 1000000000 by omega)];refine ok_yes (by omega) (ok_yes (by omega) (ok_ite (fun _ => ok_yes (by omega) (ok_yes (by omega) (ok_now trivial))) (fun _ => ok_yes (by omega) (ok_yes (by omega) (ok_ite (fun _ => ok_now trivial) (fun _ => ?_))))));rw [show 2 * i + 2 = 2 * (i + 1) from by omega];exact ih (i + 1) (by omega) (by omega)
  unfold ductusref03_Other.f ductusref03_brackets.f;simp only [Option.bind_some];exact key 9 0 rfl (by omega)
theorem as_some (x : Int) : ∃ y, ductusref03_As.f x = some y := by
  unfold ductusref03_As.f
  split
  · exact ⟨_, rfl⟩
  · split
    · exact ⟨_, rfl⟩
    · exact ⟨_, rfl⟩
theorem same_ok (a b : Int) : Ok (fun k => ductusref03_Same.f k a b) (fun _ => True) := by
  obtain ⟨y1, e1⟩ := as_some a;obtain ⟨y2, e2⟩ := as_some b;unfold ductusref03_Same.f;simp only [e1, e2, Option.bind_some];exact ok_bind (other_ok a) (fun _ _ => ok_bind (other_ok b) (fun _ _ => ok_ite (fun _ => ok_ite (fun _ => ok_now trivial) (fun _ => ok_now trivial)) (fun _ => ok_now trivial)))
def PairsP (n : Nat) (l : List Pr) : Prop := ∀ p ∈ l, 0 ≤ p.f0 ∧ p.f0 < (n : Int) ∧ 0 ≤ p.f1 ∧ p.f1 < (n : Int)
theorem put_ok (l : List Pr) (hl : l.length ≤ 1000000) (x y : Int) (n : Nat) (hP : PairsP n l) (hx : 0 ≤ x ∧ x < (n : Int)) (hy : 0 ≤ y ∧ y < (n : Int)) : Ok (fun k => ductusref10_put.f k l x y) (fun r => PairsP n r ∧ r.length = l.length + 1) := by
  have done : ∀ i : Nat, i ≤ l.length → PairsP n ((([] : List Pr) ++ l.take (i : Int).toNat ++ [(⟨x, y⟩ : Pr)]) ++ l.drop (i : Int).toNat) ∧ ((([] : List Pr) ++ l.take (i : Int).toNat ++ [(⟨x, y⟩ : Pr)]) ++ l.drop (i : Int).toNat).length = l.length + 1 := by
    intro i hi;rw [Int.toNat_natCast];refine ⟨fun p hp => ?_, ?_⟩
    · rcases List.mem_append.1 hp with hp | hp
      · rcases List.mem_append.1 hp with hp | hp
        · rw [List.nil_append] at hp
          exact hP p (List.mem_of_mem_take hp)
        · rw [List.mem_singleton] at hp
          subst hp;exact ⟨hx.1, hx.2, hy.1, hy.2⟩
      · exact hP p (List.mem_of_mem_drop hp)
    · simp only [List.nil_append, List.length_append, List.length_take, List.length_drop, List.length_singleton]
      omega
  have key : ∀ (d i : Nat), l.length - i = d → i ≤ l.length → Ok (fun k => ductusref10_put.l0 k l (i : Int) x y) (fun r => PairsP n r ∧ r.length = l.length + 1) := by
    have fin : ∀ i : Nat, i ≤ l.length → (([] : List Pr).length + (l.take (i : Int).toNat).length < 8796093022208) ∧ ((([] : List Pr) ++ l.take (i : Int).toNat).length + [(⟨x, y⟩ : Pr)].length < 8796093022208) ∧ ((([] : List Pr) ++ l.take (i : Int).toNat ++ [(⟨x, y⟩ : Pr)]).length + (l.drop (i : Int).toNat).length < 8796093022208) := by
      intro i hi;rw [Int.toNat_natCast];simp only [List.nil_append, List.length_append, List.length_take, List.length_drop, List.length_singleton, List.length_nil]
      omega
    intro d
    induction d with
    | zero =>
      intro i h1 h2;obtain ⟨f1, f2, f3⟩ := fin i h2;refine ok_succ ?_;simp only [ductusref10_put.l0, Option.bind_some];exact ok_no (by omega) (ok_yes (by omega) (ok_yes (by omega) (ok_yes f1 (ok_yes f2 (ok_yes f3 (ok_now (done i h2)))))))
    | succ d ih =>
      intro i h1 h2;obtain ⟨f1, f2, f3⟩ := fin i h2;refine ok_succ ?_;simp only [ductusref10_put.l0, Option.bind_some, w_succ (show i < 1000000000 by omega)];exact ok_yes (by omega) (ok_yes (by omega) (ok_ite (fun _ => ih (i + 1) (by omega) (by omega)) (fun _ => ok_yes (by omega) (ok_yes f1 (ok_yes f2 (ok_yes f3 (ok_now (done i h2))))))))
  exact key _ 0 rfl (by omega)
def Below0 (n : Nat) (l : List Int) : Prop := ∀ x ∈ l, 0 ≤ x ∧ x < (n : Int)
theorem pairs_loop (a b : List Int) (n : Nat) (ha : a.length = n) (hab : b.length = n) (hn : n ≤ 1000000) : ∀ (d i : Nat) (out : List Pr) (q : List Int), n - i = d → out.length ≤ i → q.length ≤ i → i ≤ n → PairsP n out → Below0 n q → Ok (fun k => ductusref10_Pairs.l0 k a b out q (i : Int)) (fun r => PairsP n r ∧ r.length ≤ n) := by
  intro d
  induction d with
  | zero =>
    intro i out q h1 h2 h3 h6 h4 h5;refine ok_succ ?_;simp only [ductusref10_Pairs.l0];exact ok_no (by omega) (ok_now ⟨h4, by omega⟩)
  | succ d ih =>
    intro i out q h1 h2 h3 h6 h4 h5;have hnext := ih (i + 1) out q (by omega) (by omega) (by omega) (by omega) h4 h5
    have one : ∀ (y : Int) (e : Nat), e ≤ q.length → Ok (fun k => ductusref10_Pairs.l1 k a b out q (i : Int) y ((e : Int) - 1)) (fun r => PairsP n r ∧ r.length ≤ n) := by
      intro y e
      induction e with
      | zero =>
        intro _;refine ok_succ ?_;simp only [ductusref10_Pairs.l1, w_succ (show i < 1000000000 by omega)];exact ok_no (by omega) hnext
      | succ e ihe =>
        intro he;have hm := h5 _ (rd_mem q e (by omega));rw [show ((e + 1 : Nat) : Int) - 1 = (e : Int) from by omega];refine ok_succ ?_;simp only [ductusref10_Pairs.l1, w_succ (show i < 1000000000 by omega), w_pred (show e < 1000000000 by omega)];refine ok_yes (by omega) (ok_yes (by omega) (ok_yes (by omega) (ok_yes (by omega) (ok_yes (by omega) ?_))));refine ok_bind (same_ok _ _) (fun t _ => ok_ite (fun _ => ?_) (fun _ => ihe (by omega)));refine ok_bind (put_ok out (by omega) _ (i : Int) n h4 hm ⟨by omega, by omega⟩) (fun r hr => ok_yes (by omega) ?_);refine ih (i + 1) r _ (by omega) (by omega) ?_ (by omega) hr.1 (fun x hx => h5 x (List.mem_of_mem_take hx));rw [List.length_take]
        omega
    have two : ∀ (y : Int) (o t : Bool), Ok (fun k => ductusref10_Pairs.j1 k a b out q (i : Int) y o t) (fun r => PairsP n r ∧ r.length ≤ n) := by
      intro y o t;refine ok_succ ?_;simp only [ductusref10_Pairs.j1, w_succ (show i < 1000000000 by omega)];refine ok_ite (fun _ => hnext) (fun _ => ok_ite (fun _ => ok_ite (fun _ => ok_now ⟨h4, by omega⟩) (fun _ => ok_yes (by omega) ?_)) (fun _ => ?_))
      · refine ih (i + 1) out _ (by omega) (by omega) (by rw [List.length_append]; simp only [List.length_singleton]; omega) (by omega) h4 (fun x hx => ?_)
        rcases List.mem_append.1 hx with hx | hx
        · exact h5 x hx
        · rw [List.mem_singleton] at hx
          omega
      · have := one y q.length (Nat.le_refl _)
        rw [w_pred (show q.length < 1000000000 by omega)];exact this
    refine ok_succ ?_;simp only [ductusref10_Pairs.l0];exact ok_yes (by omega) (ok_yes (by omega) (ok_bind (other_ok _) (fun t _ => ok_ite (fun _ => ok_yes (by omega) (two _ _ _)) (fun _ => two _ _ _))))
theorem pairs_ok (a b : List Int) (hab : a.length = b.length) (hn : b.length ≤ 1000000) : Ok (fun k => ductusref10_Pairs.f k a b) (fun r => PairsP b.length r ∧ r.length ≤ b.length) := by
  unfold ductusref10_Pairs.f;refine ok_yes (by omega) ?_;exact pairs_loop a b b.length hab rfl hn _ 0 [] [] rfl (Nat.le_refl _) (Nat.le_refl _) (Nat.zero_le _) (fun p hp => by cases hp) (fun x hx => by cases hx)
theorem side10_some (x : Int) : ∃ y, ductusref10_Side.f x = some y := by
  unfold ductusref10_Side.f
  repeat' split
  all_goals exact ⟨_, rfl⟩
theorem sides_ok (l : List Int) (hl : l.length ≤ 1000000) (b : Int) (m : Nat) : Ok (fun k => ductusref10_Sides.l0 k l b false false (m : Int)) (fun _ => True) := by
  have key : ∀ (d i : Nat) (u v : Bool), l.length - i = d → Ok (fun k => ductusref10_Sides.l0 k l b u v (i : Int)) (fun _ => True) := by
    intro d
    induction d with
    | zero =>
      intro i u v h1;refine ok_succ ?_;simp only [ductusref10_Sides.l0];exact ok_no (by unfold mn; split <;> omega) (ok_now trivial)
    | succ d ih =>
      intro i u v h1
      have ih := fun u v => ih (i + 1) u v (by omega)
      obtain ⟨y, hy⟩ := side10_some (rd l (i : Int));refine ok_succ ?_;simp only [ductusref10_Sides.l0, hy, Option.bind_some, w_succ (show i < 1000000000 by omega)];refine ok_ite (fun _ => ok_ite (fun _ => ok_ite (fun _ => ih _ _) (fun _ => ok_yes (by omega) (ok_yes (by omega) (ih _ _)))) (fun _ => ok_yes (by omega) (ok_yes (by omega) (ok_ite (fun _ => ih _ _) (fun _ => ih _ _))))) (fun _ => ok_now trivial)
  exact key _ m false false rfl
theorem turn_ok (l f : List Int) (n : Nat) (hn : n ≤ 1000000) (hl : l.length = n) (hf : f.length = n) (i : Nat) (hi : i < n) (s : Int) : Ok (fun k => ductusref10_turn.f k l f (i : Int) s) (fun r => r.length = n) := by
  have key : ∀ (d i : Nat) (l : List Int), n - i = d → l.length = n → Ok (fun k => ductusref10_turn.l0 k l f s (i : Int)) (fun r => r.length = n) := by
    intro d
    induction d with
    | zero =>
      intro i l h1 h2;refine ok_succ ?_;simp only [ductusref10_turn.l0];exact ok_no (by omega) (ok_now h2)
    | succ d ih =>
      intro i l h1 h2;refine ok_succ ?_;simp only [ductusref10_turn.l0, w_succ (show i < 1000000000 by omega)];exact ok_yes (by omega) (ok_yes (by omega) (ok_yes (by omega) (ok_ite (fun _ => ih (i + 1) _ (by omega) (by rw [List.length_set]; exact h2)) (fun _ => ok_now h2))))
  unfold ductusref10_turn.f;simp only [w_succ (show i < 1000000000 by omega)];exact ok_yes (by omega) (ok_yes (by omega) (key _ (i + 1) _ rfl (by rw [List.length_set]; exact hl)))
theorem rdP_mem (l : List Pr) (i : Nat) (h : i < l.length) : rd_T87 l (i : Int) ∈ l := by
  unfold rd_T87;rw [Int.toNat_natCast, List.getD_eq_getElem?_getD, List.getElem?_eq_getElem h];exact List.getElem_mem h
theorem of10_loop (f : List Int) (n : Nat) (hn : n ≤ 1000000) (hf : f.length = n) (sos e : Int) (ps : List Pr) (hp : PairsP n ps) (hpl : ps.length ≤ 1000000) : ∀ (d i : Nat) (l : List Int), ps.length - i = d → l.length = n → Ok (fun k => ductusref10_Of.l0 k f sos l ps e (i : Int)) (fun r => r.length = n) := by
  intro d
  induction d with
  | zero =>
    intro i l h1 h2;refine ok_succ ?_;simp only [ductusref10_Of.l0];exact ok_no (by omega) (ok_now h2)
  | succ d ih =>
    intro i l h1 h2;obtain ⟨p0, p1, p2, p3⟩ := hp _ (rdP_mem ps i (by omega));obtain ⟨A, hA⟩ := to_nat p0;obtain ⟨B, hB⟩ := to_nat p2
    have ih : ∀ l : List Int, l.length = n → Ok (fun k => ductusref10_Of.l0 k f sos l ps e ((i + 1 : Nat) : Int)) (fun r => r.length = n) := fun l h => ih (i + 1) l (by omega) h
    have two : ∀ s : Int, Ok (fun k => (ductusref10_turn.f k l f (A : Int) s).bind fun t => (ductusref10_turn.f k t f (B : Int) s).bind fun t2 => ductusref10_Of.l0 k f sos t2 ps e ((i + 1 : Nat) : Int)) (fun r => r.length = n) :=
      fun s => ok_bind (turn_ok l f n hn h2 hf A (by omega) s) (fun t ht => ok_bind (turn_ok t f n hn ht hf B (by omega) s) (fun t2 ht2 => ih t2 ht2))
    have four : ∀ (m : Nat) (s2 u : Int), m ≤ A → Ok (fun k => ductusref10_Of.l1 k f sos l ps e (i : Int) (A : Int) (B : Int) s2 u ((A - m : Nat) : Int)) (fun r => r.length = n) := by
      intro m
      induction m with
      | zero =>
        intro s2 u _;refine ok_succ ?_;simp only [ductusref10_Of.l1, w_succ (show i < 1000000000 by omega)];exact ok_no (by omega) (ok_ite (fun _ => two s2) (fun _ => two u))
      | succ m ihm =>
        intro s2 u hm;obtain ⟨y, hy⟩ := side10_some (rd l ((A - (m + 1) : Nat) : Int));refine ok_succ ?_;simp only [ductusref10_Of.l1, hy, Option.bind_some, w_succ (show A - (m + 1) < 1000000000 by omega), show A - (m + 1) + 1 = A - m from by omega];exact ok_yes (by omega) (ok_yes (by omega) (ok_yes (by omega) (ok_ite (fun _ => ihm s2 y (by omega)) (fun _ => ihm s2 u (by omega)))))
    have four0 : ∀ s2 u : Int, Ok (fun k => ductusref10_Of.j4 k f sos l ps e (i : Int) (A : Int) (B : Int) s2 u) (fun r => r.length = n) := by
      intro s2 u;refine ok_succ ?_;simp only [ductusref10_Of.j4];have := four A s2 u (Nat.le_refl _)
      rwa [Nat.sub_self] at this
    have three : ∀ a b : Bool, Ok (fun k => ductusref10_Of.j3 k f sos l ps e (i : Int) (A : Int) (B : Int) a b) (fun r => r.length = n) := by
      intro a b;refine ok_succ ?_;simp only [ductusref10_Of.j3, w_succ (show i < 1000000000 by omega)];exact ok_ite (fun _ => ih l h2) (fun _ => ok_ite (fun _ => two _) (fun _ => ok_ite (fun _ => four0 _ _) (fun _ => four0 _ _)))
    have half : ∀ a b : Bool, Ok (fun k => ductusref10_Of.j2 k f sos l ps e (i : Int) (A : Int) (B : Int) a b) (fun r => r.length = n) := by
      intro a b;refine ok_succ ?_;simp only [ductusref10_Of.j2];exact ok_ite (fun _ => three _ _) (fun _ => three _ _)
    refine ok_succ ?_;simp only [ductusref10_Of.l0, hA, hB, w_succ (show A < 1000000000 by omega), ductusref10_Sides.f];refine ok_yes (by omega) (ok_yes (by omega) ?_)
    have hm : mx 0 ((A + 1 : Nat) : Int) = ((A + 1 : Nat) : Int) := by unfold mx; rw [if_pos (by omega)]
    rw [hm];exact ok_bind (sides_ok l (by omega) (B : Int) (A + 1)) (fun t _ => ok_ite (fun _ => half _ _) (fun _ => half _ _))
theorem of10_ok (a b c : List Int) (lv sos : Int) (hab : a.length = b.length) (hcb : c.length = b.length) (hn : b.length ≤ 1000000) : Ok (fun k => ductusref10_Of.f k a b c lv sos) (fun r => r.length = b.length) := by
  obtain ⟨e, he⟩ := dir_some lv;unfold ductusref10_Of.f;simp only [Option.bind_some, List.nil_append, List.length_nil];refine ok_yes (by omega) (ok_yes (by omega) (ok_succ ?_));simp only [ductusref10_Of.j0, he, Option.bind_some];refine ok_ite (fun _ => ok_now rfl) (fun _ => ok_bind (pairs_ok a b hab hn) (fun ps hps => ?_));exact of10_loop c b.length hn hcb sos e ps hps.1 (by omega) _ 0 b rfl rfl
theorem neutral_some (x : Int) : ∃ y, ductusref02_Neutral.f x = some y := by
  unfold ductusref02_Neutral.f;rw [ropens_eq, Option.bind_some]
  repeat' split
  all_goals exact ⟨_, rfl⟩
def GroupsP (n : Nat) (l : List Pr) : Prop := ∀ p ∈ l, 0 ≤ p.f0 ∧ p.f0 < p.f1 ∧ p.f1 ≤ (n : Int)
theorem rdP_last (o : List Pr) (q : Pr) : rd_T87 (o ++ [q]) (o.length : Int) = q := by
  unfold rd_T87;rw [Int.toNat_natCast, List.getD_eq_getElem?_getD, List.getElem?_append_right (Nat.le_refl _), Nat.sub_self];rfl
theorem groups_ok (l : List Int) (hl : l.length ≤ 1000000) : Ok (fun k => ductusref11_Groups.f k l) (fun r => GroupsP l.length r ∧ r.length ≤ l.length) := by
  have key : ∀ (d i : Nat) (out : List Pr), l.length - i = d → i ≤ l.length → out.length ≤ i → GroupsP i out → Ok (fun k => ductusref11_Groups.l0 k l out (i : Int)) (fun r => GroupsP l.length r ∧ r.length ≤ l.length) := by
    intro d
    induction d with
    | zero =>
      intro i out h1 h2 h3 h4
      have e : i = l.length := by omega
      refine ok_succ ?_;simp only [ductusref11_Groups.l0];exact ok_no (by omega) (ok_now ⟨e ▸ h4, by omega⟩)
    | succ d ih =>
      intro i out h1 h2 h3 h4
      have h5 : GroupsP (i + 1) out := fun p hp => by have := h4 p hp; omega
      obtain ⟨y, hy⟩ := neutral_some (rd l (i : Int))
      have hnew : Ok (fun k => ductusref11_Groups.l0 k l (out ++ [(⟨(i : Int), ((i + 1 : Nat) : Int)⟩ : Pr)]) ((i + 1 : Nat) : Int)) (fun r => GroupsP l.length r ∧ r.length ≤ l.length) := by
        refine ih (i + 1) _ (by omega) (by omega) (by rw [List.length_append]; simp only [List.length_singleton]; omega) (fun p hp => ?_)
        rcases List.mem_append.1 hp with hp | hp
        · exact h5 p hp
        · rw [List.mem_singleton] at hp
          subst hp;exact ⟨by dsimp only; omega, by dsimp only; omega, by dsimp only; omega⟩
      refine ok_succ ?_;simp only [ductusref11_Groups.l0, hy, Option.bind_some, w_succ (show i < 1000000000 by omega)];refine ok_yes (by omega) (ok_yes (by omega) (ok_ite (fun _ => ok_ite (fun h6 => ?_) (fun _ => ok_yes (by omega) hnew)) (fun _ => ih (i + 1) out (by omega) (by omega) (by omega) h5)));obtain ⟨o, q, rfl⟩ : ∃ o q, out = o ++ [q] := ⟨out.dropLast, out.getLast (by intro h; rw [h] at h6; exact absurd h6 (by decide)), (List.dropLast_concat_getLast _).symm⟩;have hq := h4 q (List.mem_append_right _ (List.mem_singleton.2 rfl))
      have hl2 : (o ++ [q]).length = o.length + 1 := by rw [List.length_append]; rfl
      have hw : wrap64 (((o ++ [q]).length : Int) - 1) = (o.length : Int) := by rw [hl2]; exact w_predS (by omega)
      simp only [hw, rdP_last, Int.toNat_natCast];refine ok_yes (by omega) (ok_yes (by omega) (ok_ite (fun _ => ?_) (fun _ => ok_yes (by omega) hnew)));rw [set_last];refine ih (i + 1) _ (by omega) (by omega) (by rw [List.length_append]; simp only [List.length_singleton]; omega) (fun p hp => ?_)
      rcases List.mem_append.1 hp with hp | hp
      · exact h5 p (List.mem_append_left _ hp)
      · rw [List.mem_singleton] at hp
        subst hp;exact ⟨hq.1, by dsimp only; omega, by dsimp only; omega⟩
  exact key _ 0 [] rfl (by omega) (Nat.le_refl _) (fun p hp => by cases hp)
theorem end11_some (x : Int) : ∃ y, ductusref11_end.f x = some y := by
  unfold ductusref11_end.f
  split
  · exact ⟨_, rfl⟩
  · exact ⟨_, rfl⟩
theorem side11_some (x y : Int) : ∃ z, ductusref11_side.f x y = some z := by
  obtain ⟨a, ha⟩ := side10_some x;obtain ⟨b, hb⟩ := dir_some y;unfold ductusref11_side.f;rw [ha, hb, Option.bind_some, Option.bind_some]
  split
  · exact ⟨_, rfl⟩
  · exact ⟨_, rfl⟩
theorem of11_loop (l : List Int) (hl : l.length ≤ 1000000) (lv sos eos : Int) (g : List Pr) (hg : GroupsP l.length g) (hgl : g.length ≤ l.length) : ∀ (d i : Nat) (out : List Int), g.length - i = d → out.length = l.length → Ok (fun k => ductusref11_Of.l0 k l lv sos eos out g (i : Int)) (fun r => r.length = l.length) := by
  obtain ⟨y1, e1⟩ := end11_some sos;obtain ⟨y2, e2⟩ := end11_some eos;obtain ⟨y3, e3⟩ := dir_some lv;intro d
  induction d with
  | zero =>
    intro i out h1 h2;refine ok_succ ?_;simp only [ductusref11_Of.l0];exact ok_no (by omega) (ok_now h2)
  | succ d ih =>
    intro i out h1 h2;have hp := hg _ (rdP_mem g i (by omega));obtain ⟨A, hA⟩ := to_nat hp.1;obtain ⟨B, hB⟩ := to_nat (x := (rd_T87 g (i : Int)).f1) (by omega);rw [hA, hB] at hp
    have one : ∀ (x : Int) (e q : Nat) (out : List Int), B - q = e → out.length = l.length → Ok (fun k => ductusref11_Of.l1 k l lv sos eos out g (i : Int) x (q : Int)) (fun r => r.length = l.length) := by
      intro x e
      induction e with
      | zero =>
        intro q out h3 h4;refine ok_succ ?_;simp only [ductusref11_Of.l1, hB, w_succ (show i < 1000000000 by omega)];exact ok_yes (by omega) (ok_yes (by omega) (ok_no (by omega) (ih (i + 1) out (by omega) h4)))
      | succ e ihe =>
        intro q out h3 h4;refine ok_succ ?_;simp only [ductusref11_Of.l1, hB, w_succ (show q < 1000000000 by omega)];exact ok_yes (by omega) (ok_yes (by omega) (ok_yes (by omega) (ok_yes (by omega) (ok_yes (by omega) (ihe (q + 1) _ (by omega) (by rw [List.length_set]; exact h4))))))
    have three : ∀ x : Int, Ok (fun k => ductusref11_Of.j3 k l lv sos eos out g (i : Int) x) (fun r => r.length = l.length) := by
      intro x;refine ok_succ ?_;simp only [ductusref11_Of.j3, hA];exact ok_yes (by omega) (ok_yes (by omega) (one x _ A out rfl h2))
    have two : ∀ x y : Int, Ok (fun k => ductusref11_Of.j2 k l lv sos eos out g (i : Int) x y) (fun r => r.length = l.length) := by
      intro x y;refine ok_succ ?_;simp only [ductusref11_Of.j2, e3, Option.bind_some];exact ok_ite (fun _ => three _) (fun _ => three _)
    have half : ∀ x y : Int, Ok (fun k => ductusref11_Of.j1 k l lv sos eos out g (i : Int) x y) (fun r => r.length = l.length) := by
      intro x y;obtain ⟨z, hz⟩ := side11_some (rd l (B : Int)) lv;refine ok_succ ?_;simp only [ductusref11_Of.j1, hB, hz, Option.bind_some];exact ok_yes (by omega) (ok_yes (by omega) (ok_ite (fun _ => ok_yes (by omega) (two _ _)) (fun _ => two _ _)))
    refine ok_succ ?_;simp only [ductusref11_Of.l0, e1, e2, hA, Option.bind_some];refine ok_yes (by omega) (ok_yes (by omega) (ok_ite (fun h3 => ?_) (fun _ => half _ _)));obtain ⟨m, rfl⟩ : ∃ m, A = m + 1 := ⟨A - 1, by omega⟩;obtain ⟨z, hz⟩ := side11_some (rd l (m : Int)) lv;simp only [w_predS (show m < 1000000000 by omega), hz, Option.bind_some];exact ok_yes (by omega) (ok_yes (by omega) (half _ _))
theorem of11_ok (l : List Int) (hl : l.length ≤ 1000000) (lv sos eos : Int) : Ok (fun k => ductusref11_Of.f k l lv sos eos) (fun r => r.length = l.length) := by
  unfold ductusref11_Of.f;simp only [Option.bind_some, List.nil_append, List.length_nil];exact ok_yes (by omega) (ok_bind (groups_ok l hl) (fun g hg => of11_loop l hl lv sos eos g hg.1 hg.2 _ 0 l rfl rfl))
theorem level11_ok (a b : Int) : Ok (fun k => ductusref11_Level.f k a b) (fun _ => True) := by
  have two : ∀ (x y : Bool), Ok (fun k => ductusref11_Level.j2 k a b x y) (fun _ => True) := by
    intro x y;refine ok_succ ?_;simp only [ductusref11_Level.j2];exact ok_ite (fun _ => ok_now trivial) (fun _ => ok_ite (fun _ => ok_now trivial) (fun _ => ok_ite (fun _ => ok_now trivial) (fun _ => ok_ite (fun _ => ok_now trivial) (fun _ => ok_now trivial))))
  have one : ∀ (x y : Bool), Ok (fun k => ductusref11_Level.j1 k a b x y) (fun _ => True) := by
    intro x y;refine ok_succ ?_;simp only [ductusref11_Level.j1];exact ok_ite (fun _ => ok_now trivial) (fun _ => ok_ite (fun _ => two _ _) (fun _ => two _ _))
  have zero : ∀ (x : Bool), Ok (fun k => ductusref11_Level.j0 k a b x) (fun _ => True) := by
    intro x;refine ok_succ ?_;simp only [ductusref11_Level.j0];exact ok_ite (fun _ => one _ _) (fun _ => one _ _)
  unfold ductusref11_Level.f;exact ok_ite (fun _ => zero _) (fun _ => zero _)
theorem pick_ok (l at_ : List Int) (h : ∀ x ∈ at_, 0 ≤ x ∧ x < (l.length : Int)) (hl : at_.length ≤ 1000000) : Ok (fun k => ductusref12_pick.f k l at_) (fun r => r.length = at_.length) := by
  have key : ∀ (d i : Nat) (acc : List Int), at_.length - i = d → i ≤ at_.length → acc.length = i → Ok (fun k => ductusref12_pick.l0 k l at_ acc (i : Int)) (fun r => r.length = at_.length) := by
    intro d
    induction d with
    | zero =>
      intro i acc h1 h2 h3;refine ok_succ ?_;simp only [ductusref12_pick.l0];exact ok_no (by omega) (ok_now (by omega))
    | succ d ih =>
      intro i acc h1 h2 h3;have hx := h _ (rd_mem at_ i (by omega));refine ok_succ ?_;simp only [ductusref12_pick.l0, w_succ (show i < 1000000000 by omega)];exact ok_yes (by omega) (ok_yes (by omega) (ok_yes (by omega) (ok_yes (by omega) (ok_yes (by omega) (ih (i + 1) _ (by omega) (by omega) (by rw [List.length_append, h3]; rfl))))))
  exact key _ 0 [] rfl (by omega) rfl
theorem rdS_mem (l : List S59) (i : Nat) (h : i < l.length) : rd_T59 l (i : Int) ∈ l := by
  unfold rd_T59;rw [Int.toNat_natCast, List.getD_eq_getElem?_getD, List.getElem?_eq_getElem h];exact List.getElem_mem h
theorem both_last (c f : List Int) (base : Int) (n : Nat) (hn : n ≤ 1000000) (hc : c.length = n) (hf : f.length = n) : ∀ (d i : Nat) (a b : List Int), n - i = d → a.length = n → b.length = n → Ok (fun k => ductusref12_both.l2 k c f base a b (i : Int)) (fun r => r.1.length = n) := by
  intro d
  induction d with
  | zero =>
    intro i a b h1 h2 h3;refine ok_succ ?_;simp only [ductusref12_both.l2];exact ok_no (by omega) (ok_now h2)
  | succ d ih =>
    intro i a b h1 h2 h3;refine ok_succ ?_;simp only [ductusref12_both.l2, rout0_eq, Option.bind_some, w_succ (show i < 1000000000 by omega)];refine ok_yes (by omega) (ok_yes (by omega) (ok_yes (by omega) (ok_ite (fun _ => ok_yes (by omega) (ok_ite (fun h4 => ?_) (fun _ => ?_))) (fun _ => ih (i + 1) a b (by omega) h2 h3))))
    · obtain ⟨m, rfl⟩ : ∃ m, i = m + 1 := ⟨i - 1, by omega⟩
      simp only [w_predS (show m < 1000000000 by omega)];exact ok_yes (by omega) (ok_yes (by omega) (ih (m + 1 + 1) _ b (by omega) (by rw [List.length_set, List.length_set]; exact h2) h3))
    · exact ih (i + 1) _ b (by omega) (by rw [List.length_set]; exact h2) h3
theorem both_loop (c f : List Int) (base : Int) (n : Nat) (hn : n ≤ 1000) (hc : c.length = n) (hf : f.length = n) (cl : List Int) (hcl : cl.length = n) (ss : List S59) (hs : Seqs n ss) (hsl : ss.length ≤ 1000000) : ∀ (d i : Nat) (a b : List Int), ss.length - i = d → a.length = n → b.length = n → Ok (fun k => ductusref12_both.l0 k c f base cl a b ss (i : Int)) (fun r => r.1.length = n) := by
  intro d
  induction d with
  | zero =>
    intro i a b h1 h2 h3;refine ok_succ ?_;simp only [ductusref12_both.l0];exact ok_no (by omega) (both_last c f base n (by omega) hc hf _ 0 a b rfl h2 h3)
  | succ d ih =>
    intro i a b h1 h2 h3;have hm := hs _ (rdS_mem ss i (by omega));obtain ⟨s, hse⟩ : ∃ s, rd_T59 ss (i : Int) = s := ⟨_, rfl⟩;rw [hse] at hm;have hnn : n * n ≤ 1000 * 1000 := Nat.mul_le_mul hn hn;have hm1 := hm.1.2;have hm2 := hm.2
    have one : ∀ (e : List Int), e.length = s.f0.length → ∀ (d2 q : Nat) (a b : List Int), s.f0.length - q = d2 → a.length = n → b.length = n → Ok (fun k => ductusref12_both.l1 k c f base cl a b ss (i : Int) e (q : Int) s.f0 s.f1 s.f2 s.f3) (fun r => r.1.length = n) := by
      intro e he d2
      induction d2 with
      | zero =>
        intro q a b h4 h5 h6;refine ok_succ ?_;simp only [ductusref12_both.l1, w_succ (show i < 1000000000 by omega)];exact ok_no (by omega) (ih (i + 1) a b (by omega) h5 h6)
      | succ d2 ih2 =>
        intro q a b h4 h5 h6;have hx := hm1 _ (rd_mem s.f0 q (by omega));refine ok_succ ?_;simp only [ductusref12_both.l1, w_succ (show q < 1000000000 by omega)];refine ok_yes (by omega) (ok_yes (by omega) (ok_yes (by omega) (ok_yes (by omega) (ok_yes (by omega) ?_))));exact ok_bind (level11_ok _ _) (fun y _ => ok_yes (by omega) (ih2 (q + 1) _ _ (by omega) (by rw [List.length_set]; exact h5) (by rw [List.length_set]; exact h6)))
    refine ok_succ ?_;simp only [ductusref12_both.l0, hse];refine ok_yes (by omega) (ok_yes (by omega) ?_);refine ok_bind (pick_ok cl s.f0 (by rw [hcl]; exact hm1) (by omega)) (fun own ho => ?_);refine ok_bind (of09_ok own (by omega) _) (fun w hw => ?_);refine ok_bind (pick_ok c s.f0 (by rw [hc]; exact hm1) (by omega)) (fun ch hch => ?_);refine ok_bind (of10_ok ch w own _ _ (by omega) (by omega) (by omega)) (fun b2 hb2 => ?_);exact ok_bind (of11_ok b2 (by omega) _ _ _) (fun e he => one e (by omega) _ 0 a b rfl h2 h3)
theorem of12_ok (c : List Int) (hc : c.length ≤ 1000) (dir : Int) : Ok (fun k => ductusref12_Of.f k c dir) (fun r => r.1.length = c.length) := by
  unfold ductusref12_Of.f;refine ok_bind (q := fun r => r.1.length = c.length) ?_ (fun r hr => ok_now hr);unfold ductusref12_both.f;refine ok_bind (all_ok c (by omega)) (fun f hf => ok_bind (level05_ok f (by omega) dir) (fun base _ => ok_bind (of06_ok f (by omega) base) (fun t ht => ?_)));simp only [Option.bind_some, List.nil_append, List.length_nil];refine ok_yes (by omega) (ok_yes (by omega) (ok_bind (of08_ok f t.1 base (by omega) (by omega)) (fun ss hs => ?_)));exact both_loop c f base c.length hc rfl hf t.2 (by omega) ss (by rw [← hf]; exact hs.1) hs.2 _ 0 t.1 t.2 rfl (by omega) (by omega)
abbrev Sp := S29
theorem rdS (l : List Sp) (i : Nat) (h : i < l.length) : rd_T29 l (i : Int) = l[i] := by
  unfold rd_T29;rw [Int.toNat_natCast, List.getD_eq_getElem?_getD, List.getElem?_eq_getElem h, Option.getD_some]
def validB : Int → List Int → Int → Bool
  | from_, [], n => from_ == n
  | from_, b :: l, n => decide (from_ < b) && validB b l n
def spansB : Int → List Int → List Sp
  | _, [] => []
  | from_, b :: l => ⟨from_, b⟩ :: spansB b l
def linesM (l : List Int) (n : Int) : List Sp × Int := if validB 0 l n = true then (spansB 0 l, 0) else ([], 3)
theorem spansB_len : ∀ (l : List Int) (f : Int), (spansB f l).length = l.length
  | [], _ => rfl
  | b :: l, f => by simp [spansB, spansB_len l b]
theorem lines_loop (l : List Int) (n : Int) (hl : l.length < 8796093022208) (d : Nat) : ∀ (i : Nat) (acc : List Sp) (f : Int), i ≤ l.length → l.length - i = d → acc.length = i →
    Ev (fun k => line_Lines.l0 k n acc f l (l.length : Int) (i : Int)) (if validB f (l.drop i) n = true then (acc ++ spansB f (l.drop i), 0) else ([], 3)) := by
  induction d with
  | zero =>
    intro i acc f hi hd ha
    refine ev_one fun k => ?_
    simp only [line_Lines.l0];rw [if_neg (by omega), List.drop_eq_nil_of_le (by omega)]
    by_cases h : f = n
    · rw [if_pos h, if_pos (by simpa [validB] using h)]
      simp [spansB]
    · rw [if_neg h, if_neg (by simpa [validB] using h)]
  | succ d ih =>
    intro i acc f hi hd ha;rw [drop_cons l i (by omega)]
    by_cases h : rd l (i : Int) ≤ f
    · rw [if_neg (by simp [validB]; omega)]
      refine ev_one fun k => ?_
      simp only [line_Lines.l0];rw [if_pos (by omega), if_pos (by omega), if_pos (by omega), if_pos h]
    · have e : (if validB f (rd l (i : Int) :: l.drop (i + 1)) n = true then (acc ++ spansB f (rd l (i : Int) :: l.drop (i + 1)), (0 : Int)) else ([], 3)) = (if validB (rd l (i : Int)) (l.drop (i + 1)) n = true then ((acc ++ [⟨f, rd l (i : Int)⟩]) ++ spansB (rd l (i : Int)) (l.drop (i + 1)), 0) else ([], 3)) := by
        have hv : validB f (rd l (i : Int) :: l.drop (i + 1)) n = validB (rd l (i : Int)) (l.drop (i + 1)) n := by
          simp only [validB];rw [decide_eq_true (by omega), Bool.true_and]
        rw [hv]
        simp [spansB]
      rw [e]
      refine ev_step (ih (i + 1) (acc ++ [⟨f, rd l (i : Int)⟩]) (rd l (i : Int)) (by omega) (by omega) (by simp [ha])) fun k hk => ?_
      simp only [line_Lines.l0];rw [if_pos (by omega), if_pos (by omega), if_pos (by omega), if_neg h, if_pos (by omega), wrap_succ i (by omega)];exact hk
theorem lines_ev (l : List Int) (n : Int) (hl : l.length < 8796093022208) : Ev (fun k => line_Lines.f k l n) (linesM l n) := by
  have h := lines_loop l n hl l.length 0 [] 0 (by omega) (by omega) rfl;simp only [List.drop_zero, List.nil_append] at h;exact h
def mults (w j : Nat) : List Int := (List.range j).map fun (i : Nat) => (((i + 1) * w : Nat) : Int)
theorem mults_len (w j : Nat) : (mults w j).length = j := by simp [mults]
theorem mults_succ (w j : Nat) : mults w (j + 1) = mults w j ++ [(((j + 1) * w : Nat) : Int)] := by simp [mults, List.range_succ]
theorem last_f (w j : Nat) (hj : j < 9223372036854775807) : line_last.f (mults w j) = some (((j * w : Nat) : Int)) := by
  unfold line_last.f;rw [mults_len]
  cases j with
  | zero => simp
  | succ j =>
    have e : wrap64 (((j + 1 : Nat) : Int) - 1) = (j : Int) := by
      rw [wrap_id (by omega) (by omega)]
      omega
    rw [if_neg (by omega), e, if_pos (by omega), if_pos (by omega), mults_succ, rd_nat]
    have h : (mults w j ++ [(((j + 1) * w : Nat) : Int)]).getD j 0 = (((j + 1) * w : Nat) : Int) := by
      rw [List.getD_eq_getElem?_getD, List.getElem?_append_right (by rw [mults_len]; omega), mults_len]
      simp
    rw [h]
def wrapN (n w : Nat) : List Int := mults w ((n - 1) / w) ++ [(n : Int)]
def wrapM (n w : Int) : List Int := if n < 1 ∨ w < 1 ∨ n > 4000 then [] else wrapN n.toNat w.toNat
theorem wrap_loop (n w : Nat) (hn : 1 ≤ n) (hn2 : n ≤ 4000) (hw : 1 ≤ w) (hw2 : w ≤ 9223372036854775807) (d : Nat) : ∀ (j : Nat), j ≤ (n - 1) / w → (n - 1) / w - j = d → Ev (fun k => line_Wrap.l0 k (n : Int) (w : Int) (mults w j)) (wrapN n w) := by
  have hq : (n - 1) / w ≤ n - 1 := Nat.div_le_self _ _;have hqw : (n - 1) / w * w ≤ n - 1 := Nat.div_mul_le_self _ _
  induction d with
  | zero =>
    intro j hj hd
    obtain rfl : j = (n - 1) / w := by omega
    have hlt : n - 1 < ((n - 1) / w + 1) * w := by
      have := Nat.lt_mul_div_succ (n - 1) (show 0 < w by omega);rw [Nat.mul_comm] at this;exact this
    rw [Nat.succ_mul] at hlt
    refine ev_one fun k => ?_
    simp only [line_Wrap.l0];rw [last_f _ _ (by omega), Option.bind_some, wrap_id (by omega) (by omega), if_neg (by omega), if_pos (by rw [mults_len]; omega)];rfl
  | succ d ih =>
    intro j hj hd;have hle : (j + 1) * w ≤ (n - 1) / w * w := Nat.mul_le_mul_right _ (by omega);have e : (j + 1) * w = j * w + w := Nat.succ_mul j w
    refine ev_step (ih (j + 1) (by omega) (by omega)) fun k hk => ?_
    simp only [line_Wrap.l0];rw [last_f _ _ (by omega), Option.bind_some, wrap_id (by omega) (by omega), if_pos (by omega), Option.bind_some, if_pos (by rw [mults_len]; omega), wrap_id (by omega) (by omega)];rw [mults_succ, e] at hk;exact hk
theorem wrap_ev (n w : Int) (hw : w ≤ 9223372036854775807) : Ev (fun k => line_Wrap.f k n w) (wrapM n w) := by
  have yes : Ev (fun k => line_Wrap.j0 k n w true) [] := ev_one fun k => by simp only [line_Wrap.j0, if_true]
  unfold wrapM
  by_cases h : n < 1 ∨ w < 1 ∨ n > 4000
  · rw [if_pos h]
    refine ev_same yes fun k hk => ?_
    unfold line_Wrap.f
    by_cases h1 : n < 1
    · rw [if_pos h1]
      exact hk
    · rw [if_neg h1]
      by_cases h2 : w < 1
      · rw [if_pos h2]
        exact hk
      · rw [if_neg h2, decide_eq_true (by omega)]
        exact hk
  · rw [if_neg h]
    have h2 := wrap_loop n.toNat w.toNat (by omega) (by omega) (by omega) (by omega) ((n.toNat - 1) / w.toNat) 0 (Nat.zero_le _) (Nat.sub_zero _)
    have e1 : ((n.toNat : Nat) : Int) = n := by omega
    have e2 : ((w.toNat : Nat) : Int) = w := by omega
    rw [e1, e2] at h2
    have h3 : Ev (fun k => line_Wrap.j0 k n w false) (wrapN n.toNat w.toNat) := ev_step h2 fun k hk => by
      simp only [line_Wrap.j0];rw [if_neg (by decide)];exact hk
    refine ev_same h3 fun k hk => ?_
    unfold line_Wrap.f;rw [if_neg (by omega), if_neg (by omega), decide_eq_false (by omega)];exact hk
theorem wrapM_len (n w : Int) : (wrapM n w).length ≤ 4000 := by
  unfold wrapM
  split
  · simp
  · unfold wrapN
    rw [List.length_append, mults_len];have := Nat.div_le_self (n.toNat - 1) w.toNat
    simp
    omega
def lightK (k : Int) : Bool := (k == 12) || (k == 22) || opnK k || outK k
theorem light_ev (k : Int) : Ev (fun n => line_light.f n k) (lightK k) := ⟨91, fun n hn => by
  show line_light.f n k = some (lightK k);unfold line_light.f lightK
  by_cases h1 : k = 12
  · rw [if_pos h1]
    simp [h1]
  · rw [if_neg h1]
    by_cases h2 : k = 22
    · rw [if_pos h2]
      simp [h2]
    · have b1 : (k == 12) = false := by simpa using h1
      have b2 : (k == 22) = false := by simpa using h2
      rw [if_neg h2, opens_eq n (by omega), b1, b2];simp only [Option.bind_some, out_eq n (show 8 ≤ n by omega)]
      cases opnK k <;> simp⟩
def endsAt : List Int → Bool
  | [] => true
  | c :: l => if cls c = 11 ∨ cls c = 10 then true else if lightK (cls c) = true then endsAt l else false
theorem ends_sep (c : Int) (l : List Int) (h : cls c = 11 ∨ cls c = 10) : endsAt (c :: l) = true := by
  simp only [endsAt];rw [if_pos h]
theorem ends_light (c : Int) (l : List Int) (h : ¬ (cls c = 11 ∨ cls c = 10)) (h2 : lightK (cls c) = true) : endsAt (c :: l) = endsAt l := by
  simp only [endsAt];rw [if_neg h, if_pos h2]
theorem ends_no (c : Int) (l : List Int) (h : ¬ (cls c = 11 ∨ cls c = 10)) (h2 : ¬ lightK (cls c) = true) : endsAt (c :: l) = false := by
  simp only [endsAt];rw [if_neg h, if_neg h2]
def levF (base : Int) : List Int → List Int → List Int
  | c :: cs, v :: l => (if endsAt (c :: cs) = true then base else v) :: levF base cs l
  | _, _ => []
theorem levF_len (base : Int) : ∀ (cs l : List Int), cs.length = l.length → (levF base cs l).length = l.length
  | [], [], _ => rfl
  | c :: cs, v :: l, h => by
    simp only [levF, List.length_cons, levF_len base cs l (by simpa using h)]
theorem rd_seg (l : List Int) (a b i : Nat) (h : a + i < b) (hb : b ≤ l.length) : rd ((l.take b).drop a) (i : Int) = rd l ((a + i : Nat) : Int) := by
  rw [rd_nat, rd_nat, List.getD_eq_getElem?_getD, List.getD_eq_getElem?_getD, List.getElem?_drop, List.getElem?_take, if_pos h]
theorem seg_len (l : List Int) (a b : Nat) (h : a ≤ b) (hb : b ≤ l.length) : ((l.take b).drop a).length = b - a := by
  rw [List.length_drop, List.length_take]
  omega
theorem set_at (a b : List Int) (x y : Int) (j : Nat) (h : a.length = j) : (a ++ x :: b).set j y = a ++ y :: b := by
  subst h
  simp
theorem wrap_add (a b : Nat) (h : a + b < 9223372036854775807) : wrap64 ((a : Int) + (b : Int)) = ((a + b : Nat) : Int) := by
  rw [wrap_id (by omega) (by omega)]
  omega
def lvM (chars levels : List Int) (base a b : Int) : List Int :=
  if chars.length = levels.length ∧ 0 ≤ a ∧ a ≤ b ∧ b ≤ (chars.length : Int) then levF base ((chars.take b.toNat).drop a.toNat) ((levels.take b.toNat).drop a.toNat) else []
theorem cls_ev (c : Int) : Ev (fun k => class_Of.f k c) (cls c) := ⟨91, fun k hk => class_of_eq k hk c⟩
theorem lv_loop (chars levels : List Int) (base : Int) (a b : Nat) (he : chars.length = levels.length) (hab : a ≤ b) (hb : b ≤ chars.length) (hl : chars.length < 8796093022208) : ∀ (j : Nat), j ≤ b - a →
    Ev (fun k => line_Levels.l0 k chars base (((levels.take b).drop a).take j ++ levF base (((chars.take b).drop a).drop j) (((levels.take b).drop a).drop j)) (endsAt (((chars.take b).drop a).drop j)) ((j : Int) - 1) (a : Int) (b : Int)) (levF base ((chars.take b).drop a) ((levels.take b).drop a)) := by
  have hlc := seg_len chars a b hab hb;have hll := seg_len levels a b hab (by omega);obtain ⟨cs, hcs⟩ : ∃ cs, cs = (chars.take b).drop a := ⟨_, rfl⟩;obtain ⟨ls, hls⟩ : ∃ ls, ls = (levels.take b).drop a := ⟨_, rfl⟩;rw [← hcs] at hlc;rw [← hls] at hll;rw [← hcs, ← hls];intro j
  induction j with
  | zero =>
    intro hj
    refine ev_one fun k => ?_
    simp only [line_Levels.l0];rw [if_neg (by omega)]
    simp
  | succ j ih =>
    intro hj;have ih := ih (by omega);have hc := drop_cons cs j (by omega);have hv := drop_cons ls j (by omega)
    have hrc : rd chars ((a + j : Nat) : Int) = rd cs (j : Int) := by
      rw [hcs, rd_seg chars a b j (by omega) hb]
    have hx : ((j + 1 : Nat) : Int) - 1 = (j : Int) := by omega
    have htk : ls.take (j + 1) = ls.take j ++ [rd ls (j : Int)] := by
      rw [rd_get ls j (by omega)];exact List.take_succ_eq_append_getElem (by omega)
    have hst : ls.take (j + 1) ++ levF base (cs.drop (j + 1)) (ls.drop (j + 1)) = ls.take j ++ rd ls (j : Int) :: levF base (cs.drop (j + 1)) (ls.drop (j + 1)) := by
      rw [htk]
      simp
    have htl : (ls.take j).length = j := by
      rw [List.length_take]
      omega
    have hnx : ls.take j ++ levF base (cs.drop j) (ls.drop j) = ls.take j ++ (if endsAt (rd cs (j : Int) :: cs.drop (j + 1)) = true then base else rd ls (j : Int)) :: levF base (cs.drop (j + 1)) (ls.drop (j + 1)) := by
      rw [hc, hv];rfl
    rw [hnx, hc] at ih
    have hlen : (ls.take j ++ rd ls (j : Int) :: levF base (cs.drop (j + 1)) (ls.drop (j + 1))).length = ls.length := by
      rw [List.length_append, htl, List.length_cons, levF_len base _ _ (by rw [List.length_drop, List.length_drop]; omega), List.length_drop]
      omega
    rw [hst, hx];obtain ⟨c, hce⟩ : ∃ c, rd cs (j : Int) = c := ⟨_, rfl⟩;rw [hce] at ih hrc
    have second : Ev (fun k => line_Levels.j2 k chars base (ls.take j ++ rd ls (j : Int) :: levF base (cs.drop (j + 1)) (ls.drop (j + 1))) (endsAt (cs.drop (j + 1))) (j : Int) (cls c) (decide (cls c = 11 ∨ cls c = 10)) (a : Int) (b : Int)) (levF base cs ls) := by
      by_cases h : cls c = 11 ∨ cls c = 10
      · rw [decide_eq_true h]
        have e : endsAt (c :: cs.drop (j + 1)) = true := ends_sep c _ h;rw [e, if_pos rfl] at ih
        refine ev_step ih fun k hk => ?_
        simp only [line_Levels.j2];rw [if_pos trivial, if_pos (by omega), if_pos (by omega), Int.toNat_natCast, set_at _ _ _ _ _ htl, wrap_id (by omega) (by omega)];exact hk
      · rw [decide_eq_false h]
        by_cases hlt : lightK (cls c) = true
        · have e : endsAt (c :: cs.drop (j + 1)) = endsAt (cs.drop (j + 1)) := ends_light c _ h hlt
          rw [e] at ih
          refine ev_step2 ih (light_ev (cls c)) fun k hk hg => ?_
          simp only [line_Levels.j2];rw [if_neg (by decide), hg, Option.bind_some, if_pos hlt]
          by_cases hf : endsAt (cs.drop (j + 1)) = true
          · rw [if_pos hf] at hk ⊢
            rw [if_pos (by omega), if_pos (by omega), Int.toNat_natCast, set_at _ _ _ _ _ htl, wrap_id (by omega) (by omega)];exact hk
          · rw [if_neg hf] at hk ⊢
            rw [wrap_id (by omega) (by omega)];exact hk
        · have e : endsAt (c :: cs.drop (j + 1)) = false := ends_no c _ h hlt
          rw [e, if_neg (by decide)] at ih
          refine ev_step2 ih (light_ev (cls c)) fun k hk hg => ?_
          simp only [line_Levels.j2];rw [if_neg (by decide), hg, Option.bind_some, if_neg hlt, wrap_id (by omega) (by omega)];exact hk
    refine ev_step2 second (cls_ev c) fun k hk hg => ?_
    have q1 : (j : Int) ≥ 0 := by omega
    have q2 : (0 : Int) ≤ ((a + j : Nat) : Int) := by omega
    have q3 : ((a + j : Nat) : Int) < (chars.length : Int) := by omega
    simp only [line_Levels.l0];rw [if_pos q1, wrap_add a j (by omega), if_pos q2, if_pos q3, hrc, hg, Option.bind_some]
    by_cases h11 : cls c = 11
    · rw [if_pos h11]
      rw [decide_eq_true (Or.inl h11)] at hk;exact hk
    · rw [if_neg h11]
      have e : (cls c == 10) = decide (cls c = 11 ∨ cls c = 10) := by
        rw [Bool.eq_iff_iff]
        simp [h11]
      rw [e];exact hk
theorem lv_ev (chars levels : List Int) (base a b : Int) (hl : chars.length < 8796093022208) : Ev (fun k => line_Levels.f k chars levels base a b) (lvM chars levels base a b) := by
  have yes : Ev (fun k => line_Levels.j0 k chars levels base true a b) [] := ev_one fun k => by simp only [line_Levels.j0, if_true]
  unfold lvM
  by_cases h : chars.length = levels.length ∧ 0 ≤ a ∧ a ≤ b ∧ b ≤ (chars.length : Int)
  · rw [if_pos h]
    obtain ⟨he, h0, h1, h2⟩ := h;have hll := seg_len levels a.toNat b.toNat (by omega) (by omega);have h3 := lv_loop chars levels base a.toNat b.toNat he (by omega) (by omega) hl (b.toNat - a.toNat) (Nat.le_refl _)
    have ea : ((a.toNat : Nat) : Int) = a := by omega
    have eb : ((b.toNat : Nat) : Int) = b := by omega
    have hdc : ((chars.take b.toNat).drop a.toNat).drop (b.toNat - a.toNat) = [] := List.drop_eq_nil_of_le (by rw [seg_len chars a.toNat b.toNat (by omega) (by omega)]; omega);have htl : ((levels.take b.toNat).drop a.toNat).take (b.toNat - a.toNat) = (levels.take b.toNat).drop a.toNat := List.take_of_length_le (by omega);rw [ea, eb, hdc, htl] at h3
    have e : levF base [] (((levels.take b.toNat).drop a.toNat).drop (b.toNat - a.toNat)) = [] := by simp [levF]
    rw [e, List.append_nil] at h3
    have h4 : Ev (fun k => line_Levels.j0 k chars levels base false a b) (levF base ((chars.take b.toNat).drop a.toNat) ((levels.take b.toNat).drop a.toNat)) := ev_step h3 fun k hk => by
      simp only [line_Levels.j0];rw [if_neg (by decide), if_pos h0, if_pos h1, if_pos (by omega)];unfold slices_Clone_int.f;rw [if_pos (by omega), Option.bind_some, hll, wrap_id (by omega) (by omega)];exact hk
    refine ev_same h4 fun k hk => ?_
    unfold line_Levels.f;rw [if_pos (by omega), if_neg (by omega), if_neg (by omega), decide_eq_false (by omega)];exact hk
  · rw [if_neg h]
    refine ev_same yes fun k hk => ?_
    unfold line_Levels.f
    by_cases he : chars.length = levels.length
    · rw [if_pos (by omega)]
      by_cases h0 : a < 0
      · rw [if_pos h0]
        exact hk
      · rw [if_neg h0]
        by_cases h1 : a > b
        · rw [if_pos h1]
          exact hk
        · rw [if_neg h1, decide_eq_true (by omega)]
          exact hk
    · rw [if_neg (by omega)]
      exact hk
def prevI (f : Int) (l : List Int) (i : Nat) : Int := if i = 0 then f else rd l ((i - 1 : Nat) : Int)
theorem rd_cons_succ (x : Int) (l : List Int) (i : Nat) : rd (x :: l) ((i + 1 : Nat) : Int) = rd l (i : Int) := by
  rw [rd_nat, rd_nat];rfl
theorem rd_cons_zero (x : Int) (l : List Int) : rd (x :: l) ((0 : Nat) : Int) = x := by
  rw [rd_nat];rfl
theorem prev_succ (f x : Int) (l : List Int) (i : Nat) : prevI f (x :: l) (i + 1) = prevI x l i := by
  unfold prevI;rw [if_neg (by omega)]
  cases i with
  | zero => rfl
  | succ i =>
    rw [if_neg (by omega)]
    have e : i + 1 + 1 - 1 = i + 1 := by omega
    rw [e, rd_cons_succ];rfl
theorem valid_iff (n : Int) : ∀ (l : List Int) (f : Int), validB f l n = true ↔ (∀ i, i < l.length → prevI f l i < rd l (i : Int)) ∧ prevI f l l.length = n
  | [], f => by simp [validB, prevI]
  | b :: l, f => by
    have h := valid_iff n l b;simp only [validB, Bool.and_eq_true, decide_eq_true_eq, h, List.length_cons];rw [prev_succ]
    constructor
    · rintro ⟨h1, h2, h3⟩
      refine ⟨fun i hi => ?_, h3⟩
      cases i with
      | zero =>
        rw [rd_cons_zero];exact h1
      | succ i =>
        rw [prev_succ, rd_cons_succ];exact h2 i (by omega)
    · rintro ⟨h1, h2⟩
      refine ⟨?_, fun i hi => ?_, h2⟩
      · have := h1 0 (by omega)
        rw [rd_cons_zero] at this;exact this
      · have := h1 (i + 1) (by omega)
        rw [prev_succ, rd_cons_succ] at this;exact this
theorem span_at : ∀ (l : List Int) (f : Int) (i : Nat), i < l.length → rd_T29 (spansB f l) (i : Int) = ⟨prevI f l i, rd l (i : Int)⟩
  | [], _, _, h => by simp at h
  | b :: l, f, i, h => by
    rw [rdS _ _ (by rw [spansB_len]; exact h)]
    cases i with
    | zero => rfl
    | succ i =>
      have := span_at l b i (by simpa using h);rw [rdS _ _ (by rw [spansB_len]; simpa using h)] at this;rw [prev_succ, rd_cons_succ];simpa [spansB] using this
theorem wrapN_len (n w : Nat) : (wrapN n w).length = (n - 1) / w + 1 := by simp [wrapN, mults_len]
theorem wrapN_rd (n w i : Nat) (h : i < (n - 1) / w) : rd (wrapN n w) (i : Int) = (((i + 1) * w : Nat) : Int) := by
  rw [rd_nat, wrapN, List.getD_eq_getElem?_getD, List.getElem?_append_left (by rw [mults_len]; exact h)]
  simp [mults, h]
theorem wrapN_last (n w : Nat) : rd (wrapN n w) (((n - 1) / w : Nat) : Int) = (n : Int) := by
  rw [rd_nat, wrapN, List.getD_eq_getElem?_getD, List.getElem?_append_right (by rw [mults_len]; exact Nat.le_refl _), mults_len]
  simp
theorem wrapN_prev (n w i : Nat) (h : i ≤ (n - 1) / w) : prevI 0 (wrapN n w) i = ((i * w : Nat) : Int) := by
  unfold prevI
  cases i with
  | zero => simp
  | succ i =>
    rw [if_neg (by omega)]
    have e : i + 1 - 1 = i := by omega
    rw [e, wrapN_rd n w i (by omega)]
theorem wrapN_bd (n w : Nat) (hn : 1 ≤ n) (hw : 1 ≤ w) : (n - 1) / w * w ≤ n - 1 ∧ n - 1 < (n - 1) / w * w + w := by
  refine ⟨Nat.div_mul_le_self _ _, ?_⟩;have := Nat.lt_mul_div_succ (n - 1) (show 0 < w by omega);rw [Nat.mul_comm, Nat.succ_mul] at this;exact this
theorem wrapN_valid (n w : Nat) (hn : 1 ≤ n) (hw : 1 ≤ w) : validB 0 (wrapN n w) (n : Int) = true := by
  have hb := wrapN_bd n w hn hw;rw [valid_iff, wrapN_len]
  constructor
  · intro i hi
    rw [wrapN_prev n w i (by omega)]
    by_cases h : i < (n - 1) / w
    · rw [wrapN_rd n w i h]
      have e : (i + 1) * w = i * w + w := Nat.succ_mul i w
      omega
    · obtain rfl : i = (n - 1) / w := by omega
      rw [wrapN_last]
      omega
  · unfold prevI
    rw [if_neg (Nat.succ_ne_zero _), Nat.add_sub_cancel, wrapN_last]
end Go.Proofs.Ytmjipbmpapcboaa.P
namespace Go.Proofs.Ytmjipbmpapcboaa.Pure
open Go.RowKit Go.Proofs.Ytmjipbmpapcboaa.P Go.Proofs.YtmjipbmpapcboaaW.PrintWords Go.Proofs.YtmjipbmpapcboaaW.PrintLast Go.Proofs.YtmjipbmpapcboaaW.PrintMore
set_option linter.unusedVariables false
set_option linter.unusedSimpArgs false
theorem alive13e : Ev (fun k => ductuslaw13_alive.f k) true := Ev.of ductuslaw13_alive.mono (k := 300) (by decide +kernel)
theorem ok_ev {α : Type} {f : Nat → Option α} {r : α} {p : α → Prop} (h : Ev f r) (hp : p r) : Ok f p := ⟨r, hp, h⟩
theorem wh_light : ∀ k ∈ classes, whE k = (lightK k || (k == 11) || (k == 10)) := by decide +kernel
theorem levF_rd (base : Int) : ∀ (cs l : List Int) (i : Nat), cs.length = l.length → i < l.length → rd (levF base cs l) (i : Int) = if endsAt (cs.drop i) = true then base else rd l (i : Int)
  | [], [], i, _, h => by simp at h
  | c :: cs, v :: l, 0, he, h => by
    rw [List.drop_zero];show rd ((if endsAt (c :: cs) = true then base else v) :: levF base cs l) ((0 : Nat) : Int) = _;rw [rd_cons_zero, rd_cons_zero]
  | c :: cs, v :: l, i + 1, he, h => by
    rw [List.drop_succ_cons];show rd ((if endsAt (c :: cs) = true then base else v) :: levF base cs l) ((i + 1 : Nat) : Int) = _;rw [rd_cons_succ, rd_cons_succ];exact levF_rd base cs l i (by simpa using he) (by simpa using h)
theorem okC_line (base : Int) (cs l : List Int) (i : Nat) (he : cs.length = l.length) (hi : i < l.length) : okC (cls (rd cs (i : Int))) ((i : Int) == ((l.length - 1 : Nat) : Int)) (rd (levF base cs l) (i : Int) == base) (rd (levF base cs l) (i : Int) == rd l (i : Int)) = true := by
  have hd := drop_cons cs i (by omega);rw [levF_rd base cs l i he hi, hd];generalize hc : rd cs (i : Int) = c;have hr := cls_range c;have hw := wh_light (cls c) (in_classes hr.1 hr.2)
  by_cases hs : cls c = 11 ∨ cls c = 10
  · rw [ends_sep c _ hs, if_pos rfl]
    have hb : ((base == base) : Bool) = true := beq_self_eq_true base
    have hwt : whE (cls c) = true := by
      rw [hw]
      rcases hs with hs | hs
      · rw [hs]; rfl
      · rw [hs]; rfl
    unfold okC;rw [hb, hwt]
    simp
  · have h11 : (cls c == 11) = false := by simpa using fun h => hs (Or.inl h)
    have h10 : (cls c == 10) = false := by simpa using fun h => hs (Or.inr h)
    rw [h11, h10, Bool.or_false, Bool.or_false] at hw
    by_cases hl : lightK (cls c) = true
    · rw [ends_light c _ hs hl]
      by_cases hlast : i = l.length - 1
      · have h0 : cs.drop (i + 1) = [] := List.drop_eq_nil_of_le (by omega)
        rw [h0];show okC (cls c) _ ((if true = true then base else rd l (i : Int)) == base) _ = true;rw [if_pos rfl];unfold okC;rw [h11, h10, hw, hl, beq_self_eq_true base]
        simp
      · have hne : ((i : Int) == ((l.length - 1 : Nat) : Int)) = false := by
          rw [beq_eq_false_iff_ne]
          omega
        unfold okC;rw [h11, h10, hw, hl, hne]
        by_cases he2 : endsAt (cs.drop (i + 1)) = true
        · rw [if_pos he2, beq_self_eq_true base]
          simp
        · rw [if_neg he2, beq_self_eq_true (rd l (i : Int))]
          simp
    · rw [ends_no c _ hs hl, if_neg (by decide), beq_self_eq_true (rd l (i : Int))]
      unfold okC;rw [h11, h10, hw]
      have hlf : lightK (cls c) = false := by simpa using hl
      rw [hlf]
      simp
theorem rd_seg2 (l : List Int) (a b i : Nat) (h : a + i < b) (hb : b ≤ l.length) : rd ((l.take b).drop a) (i : Int) = rd l ((a + i : Nat) : Int) := rd_seg l a b i h hb
theorem ends_in (c lv : List Int) (base : Int) (sp : List Sp) (s a b : Nat) (hcl : c.length = lv.length) (hc : c.length ≤ 1000) (hs : s < sp.length) (hsl : sp.length ≤ 100000) (hsp : rd_T29 sp (s : Int) = ⟨(a : Int), (b : Int)⟩) (hab : a < b) (hb : b ≤ c.length)
    (hnext : Ok (fun k => ductuslaw13_LineEnds.l0 k c lv base sp ((s + 1 : Nat) : Int)) (· = true)) : ∀ (d i : Nat), b - a - i = d → i ≤ b - a →
    Ok (fun k => ductuslaw13_LineEnds.l1 k c lv base sp (s : Int) (levF base ((c.take b).drop a) ((lv.take b).drop a)) (i : Int)) (· = true) := by
  have hl1 := seg_len c a b (by omega) hb;have hl2 := seg_len lv a b (by omega) (by omega);have hlen := levF_len base ((c.take b).drop a) ((lv.take b).drop a) (by omega);intro d
  induction d with
  | zero =>
    intro i h1 h2;refine ok_succ ?_;simp only [ductuslaw13_LineEnds.l1, w_succ (show s < 1000000000 by omega)];exact ok_no (by omega) hnext
  | succ d ih =>
    intro i h1 h2;have hk := okC_line base ((c.take b).drop a) ((lv.take b).drop a) i (by omega) (by omega);rw [rd_seg2 c a b i (by omega) hb, rd_seg2 lv a b i (by omega) (by omega), hl2] at hk;refine ok_succ ?_;simp only [ductuslaw13_LineEnds.l1, hsp, wrap_add a i (by omega), w_succ (show i < 1000000000 by omega), rcls_eq, Option.bind_some];refine ok_yes (by omega) (ok_yes ⟨by omega, by omega, by omega, by omega, by omega, by omega⟩ (ok_yes ?_ (ih (i + 1) (by omega) (by omega))))
    have hw : wrap64 (((levF base ((c.take b).drop a) ((lv.take b).drop a)).length : Int) - 1) = ((b - a - 1 : Nat) : Int) := by
      rw [hlen, hl2, wrap_id (by omega) (by omega)]
      omega
    rw [hw];exact hk
theorem ends_out (c lv : List Int) (base : Int) (n w : Nat) (hn : 1 ≤ n) (hn2 : n ≤ 150) (hw : 1 ≤ w) (hc : c.length = n) (hlv : lv.length = n) : ∀ (d s : Nat), (n - 1) / w + 1 - s = d → s ≤ (n - 1) / w + 1 → Ok (fun k => ductuslaw13_LineEnds.l0 k c lv base (spansB 0 (wrapN n w)) (s : Int)) (· = true) := by
  have hq : (n - 1) / w ≤ n - 1 := Nat.div_le_self _ _;have hb := wrapN_bd n w hn hw;have hlen := wrapN_len n w
  have hsl : (spansB 0 (wrapN n w)).length = (n - 1) / w + 1 := by rw [spansB_len, hlen]
  intro d
  induction d with
  | zero =>
    intro s h1 h2;refine ok_succ ?_;simp only [ductuslaw13_LineEnds.l0];exact ok_no (by omega) (ok_now rfl)
  | succ d ih =>
    intro s h1 h2;have hsp := span_at (wrapN n w) 0 s (by omega);rw [wrapN_prev n w s (by omega)] at hsp
    obtain ⟨B, hB, hB1, hB2⟩ : ∃ B : Nat, rd (wrapN n w) (s : Int) = (B : Int) ∧ s * w < B ∧ B ≤ n := by
      by_cases h : s < (n - 1) / w
      · have hr := wrapN_rd n w s h
        have e : (s + 1) * w = s * w + w := Nat.succ_mul s w;have hle : (s + 1) * w ≤ (n - 1) / w * w := Nat.mul_le_mul_right _ (by omega);exact ⟨(s + 1) * w, hr, by omega, by omega⟩
      · have e : s = (n - 1) / w := by omega
        subst e;exact ⟨n, wrapN_last n w, by omega, Nat.le_refl _⟩
    rw [hB] at hsp;refine ok_succ ?_;simp only [ductuslaw13_LineEnds.l0, hsp];refine ok_yes (by omega) (ok_yes (by omega) ?_);have hlv2 := lv_ev c lv base ((s * w : Nat) : Int) (B : Int) (by omega)
    have hm : lvM c lv base ((s * w : Nat) : Int) (B : Int) = levF base ((c.take B).drop (s * w)) ((lv.take B).drop (s * w)) := by
      unfold lvM;rw [if_pos ⟨by omega, by omega, by omega, by omega⟩, Int.toNat_natCast, Int.toNat_natCast]
    rw [hm] at hlv2;refine ok_bind (q := fun r => r = levF base ((c.take B).drop (s * w)) ((lv.take B).drop (s * w))) (ok_ev hlv2 rfl) (fun r hr => ?_);subst hr;have hl1 := seg_len c (s * w) B (by omega) (by omega);have hl2 := seg_len lv (s * w) B (by omega) (by omega);have hlen2 := levF_len base ((c.take B).drop (s * w)) ((lv.take B).drop (s * w)) (by omega);refine ok_yes ?_ ?_
    · rw [hlen2, hl2, wrap_id (by omega) (by omega)]
      omega
    · exact ends_in c lv base _ s (s * w) B (by omega) (by omega) (by omega) (by omega) hsp hB1 (by omega) (ih (s + 1) (by omega) (by omega)) _ 0 rfl (by omega)
theorem u8_bd {x : Int} (h : (Lit.int .u8 x).wf = true) : 0 ≤ x ∧ x ≤ 255 := by
  have hmin : IntKind.u8.min = 0 := rfl;have hmax : IntKind.u8.max = 255 := rfl;simp only [Lit.wf, Bool.and_eq_true, decide_eq_true_eq] at h
  omega
theorem LineEnds : ductuslaw13_LineEnds.Pure := by
  intro c dir wd hm hl hw wa wb
  have main : Ok (fun k => ductuslaw13_LineEnds.f k c dir wd) (· = true) := by
    unfold ductuslaw13_LineEnds.f;refine ok_bind (q := (· = true)) (ok_ev alive13e rfl) (fun a ha => ok_yes ha (ok_ite (fun _ => ok_now rfl) (fun h1 => ?_)));refine ok_bind (of12_ok c (by omega) dir) (fun t ht => ?_);obtain ⟨x, hx⟩ : ∃ x : Nat, wd = (x : Int) := ⟨wd.toNat, by have := u8_bd wb; omega⟩
    have hx2 : x ≤ 255 := by have := u8_bd wb; omega
    have e1 : wrap64 (1 + wrap64 wd) = ((x + 1 : Nat) : Int) := by
      rw [hx, wrap_id (x := (x : Int)) (by omega) (by omega), wrap_id (by omega) (by omega)]
      omega
    rw [e1];refine ok_bind (q := fun r => r = wrapM (c.length : Int) ((x + 1 : Nat) : Int)) (ok_ev (wrap_ev _ _ (by omega)) rfl) (fun r hr => ?_);subst hr;have hwl := wrapM_len (c.length : Int) ((x + 1 : Nat) : Int);refine ok_bind (q := fun r => r = linesM (wrapM (c.length : Int) ((x + 1 : Nat) : Int)) (c.length : Int)) (ok_ev (lines_ev _ _ (by omega)) rfl) (fun r hr => ?_);subst hr
    by_cases h0 : c.length = 0
    · have e2 : wrapM (c.length : Int) ((x + 1 : Nat) : Int) = [] := by
        unfold wrapM;rw [if_pos (Or.inl (by omega))]
      have e3 : linesM [] (c.length : Int) = ([], 0) := by
        unfold linesM;rw [if_pos (by rw [h0]; rfl)];rfl
      rw [e2, e3];refine ok_yes rfl (ok_succ ?_);simp only [ductuslaw13_LineEnds.l0];exact ok_no (by simp) (ok_now rfl)
    · have e2 : wrapM (c.length : Int) ((x + 1 : Nat) : Int) = wrapN c.length (x + 1) := by
        unfold wrapM;rw [if_neg (by omega), Int.toNat_natCast, Int.toNat_natCast]
      have e3 : linesM (wrapN c.length (x + 1)) (c.length : Int) = (spansB 0 (wrapN c.length (x + 1)), 0) := by
        unfold linesM;rw [if_pos (wrapN_valid c.length (x + 1) (by omega) (by omega))]
      rw [e2, e3];refine ok_yes rfl ?_;exact ends_out c t.1 t.2 c.length (x + 1) (by omega) (by omega) (by omega) rfl ht _ 0 rfl (Nat.zero_le _)
  obtain ⟨r, hr, K, h⟩ := main;exact ⟨K, (h K (Nat.le_refl _)).trans (by rw [hr])⟩
end Go.Proofs.Ytmjipbmpapcboaa.Pure
