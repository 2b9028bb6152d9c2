/- Texts of this claim put together by a program of its own (PureNfaJoins), what the law does not use left out: each part's statements bear their own conditions. -/
import Derived.Test.YtbbplchdgedhcaaC14
namespace Go.Proofs.Ytbbplchdgedhcaa.Pure
open Go.RowKit Go.Proofs.Ytbbplchdgedhcaa.P Go.Proofs.YtbbplchdgedhcaaW.PrintWords Go.Proofs.YtbbplchdgedhcaaW.PrintLast
set_option linter.unusedVariables false
set_option linter.unusedSimpArgs false

/-- An instruction d places on. -/
def sh (d : Nat) (e : TInst) : TInst := ⟨e.f0, e.f1, if e.f0 = 2 ∨ e.f0 = 3 then e.f2 + (d : Int) else e.f2, if e.f0 = 2 then e.f3 + (d : Int) else e.f3⟩
theorem sh_simple (d : Nat) (op : Int) (r : List TRange) (h : op = 1 ∨ op = 4 ∨ op = 5 ∨ op = 0) : sh d ⟨op, r, 0, 0⟩ = ⟨op, r, 0, 0⟩ := by
  unfold sh
  dsimp only
  rw [if_neg (by omega), if_neg (by omega)]
theorem sh_split (d : Nat) (t al : Int) : sh d ⟨2, [], t, al⟩ = ⟨2, [], t + (d : Int), al + (d : Int)⟩ := rfl
theorem sh_jump (d : Nat) (t : Int) : sh d ⟨3, [], t, 0⟩ = ⟨3, [], t + (d : Int), 0⟩ := rfl
section
variable (g : Nat → List TInst) (len d : Nat) (hg : ∀ a, g (a + d) = (g a).map (sh d))
include hg
theorem sh_times : ∀ n a, timesM g len n (a + d) = (timesM g len n a).map (sh d)
  | 0, a => rfl
  | n + 1, a => by
    rw [timesM, timesM, List.map_append, hg, show a + d + len = a + len + d by omega, sh_times n (a + len)]
theorem sh_opt (fin : Nat) : ∀ n a, optM g len (fin + d) n (a + d) = (optM g len fin n a).map (sh d)
  | 0, a => rfl
  | n + 1, a => by
    rw [optM, optM, List.map_cons, List.map_append, show a + d + 1 = a + 1 + d by omega, hg, show a + 1 + d + len = a + 1 + len + d by omega, sh_opt fin n (a + 1 + len), sh_split]
    have e1 : (((a + d : Nat) : Int) + 1) = (a : Int) + 1 + (d : Int) := by omega
    have e2 : ((fin + d : Nat) : Int) = (fin : Int) + (d : Int) := by omega
    rw [e1, e2]
theorem sh_star (a : Nat) : starM g len (a + d) = (starM g len a).map (sh d) := by
  rw [starM, starM, List.map_cons, List.map_append, List.map_cons, List.map_nil, show a + d + 1 = a + 1 + d by omega, hg, sh_split, sh_jump]
  have e1 : (((a + d : Nat) : Int) + 1) = (a : Int) + 1 + (d : Int) := by omega
  have e2 : ((a + d + 2 + len : Nat) : Int) = ((a + 2 + len : Nat) : Int) + (d : Int) := by omega
  have e3 : ((a + d : Nat) : Int) = (a : Int) + (d : Int) := by omega
  rw [e1, e2, e3]
end
theorem sh_join (d : Nat) : ∀ (l : List TNode), (∀ y ∈ l, ∀ a, layM y (a + d) = (layM y a).map (sh d)) → ∀ a, joinM l (a + d) = (joinM l a).map (sh d)
  | [], _, a => by rw [joinM, joinM, List.map_nil]
  | x :: l, h, a => by
    rw [joinM, joinM, List.map_append, h x (by simp), show a + d + lenM x = a + lenM x + d by omega, sh_join d l (fun y hy => h y (by simp [hy]))]
theorem sh_or (d : Nat) : ∀ (l : List TNode), (∀ y ∈ l, ∀ a, layM y (a + d) = (layM y a).map (sh d)) → ∀ a fin, P.orM l (a + d) (fin + d) = (P.orM l a fin).map (sh d)
  | [], _, a, fin => by rw [Go.Proofs.Ytbbplchdgedhcaa.P.orM, Go.Proofs.Ytbbplchdgedhcaa.P.orM, List.map_nil]
  | x :: l, h, a, fin => by
    rw [Go.Proofs.Ytbbplchdgedhcaa.P.orM, Go.Proofs.Ytbbplchdgedhcaa.P.orM]
    by_cases c : l.length = 0
    · rw [if_pos c, if_pos c, h x (by simp)]
    · rw [if_neg c, if_neg c, List.map_cons, List.map_append, List.map_cons, show a + d + 1 = a + 1 + d by omega, h x (by simp), show a + d + 2 + lenM x = a + 2 + lenM x + d by omega, sh_or d l (fun y hy => h y (by simp [hy])), sh_split, sh_jump]
      have e1 : (((a + d : Nat) : Int) + 1) = (a : Int) + 1 + (d : Int) := by omega
      have e2 : ((a + 2 + lenM x + d : Nat) : Int) = ((a + 2 + lenM x : Nat) : Int) + (d : Int) := by omega
      have e3 : ((fin + d : Nat) : Int) = (fin : Int) + (d : Int) := by omega
      rw [e1, e2, e3]
theorem sh_lay (d : Nat) (x : TNode) : ∀ a, layM x (a + d) = (layM x a).map (sh d) := by
  induction x using node_ind with
  | h x ih =>
    intro a
    obtain ⟨f0, f1, f2, f3, f4⟩ := x
    simp only at ih
    have hh : ∀ b, (fun b => headM f4 b) (b + d) = ((fun b => headM f4 b) b).map (sh d) := fun b => by
      show headM f4 (b + d) = (headM f4 b).map (sh d)
      cases f4 with
      | nil => rw [headM, headM, List.map_nil]
      | cons y l =>
        rw [headM, headM]
        exact ih y (by simp) b
    rw [layM, layM]
    split
    · rw [List.map_cons, List.map_nil, sh_simple _ _ _ (.inl rfl)]
    split
    · rw [List.map_cons, List.map_nil, sh_simple _ _ _ (.inr (.inl rfl))]
    split
    · rw [List.map_cons, List.map_nil, sh_simple _ _ _ (.inr (.inr (.inl rfl)))]
    split
    · exact sh_join d f4 ih a
    split
    · rw [show a + d + orN f4 = a + orN f4 + d by omega]
      exact sh_or d f4 ih a _
    split
    · rw [List.map_append, sh_times _ _ d hh]
      congr 1
      split
      · rw [show a + d + f2.toNat * headN f4 = a + f2.toNat * headN f4 + d by omega]
        exact sh_star _ _ d hh _
      · rw [show a + d + f2.toNat * headN f4 = a + f2.toNat * headN f4 + d by omega, show a + f2.toNat * headN f4 + d + (f3 - f2).toNat * (headN f4 + 1) = a + f2.toNat * headN f4 + (f3 - f2).toNat * (headN f4 + 1) + d by omega]
        exact sh_opt _ _ d hh _ _ _
    · rfl
theorem all_ev {α : Type} (n : Nat) (F : Nat → Nat → Option α) (r : α) (h : ∀ i, i < n → Ev (F i) r) : ∃ K, ∀ k, K ≤ k → ∀ i, i < n → F i k = some r := by
  induction n with
  | zero => exact ⟨0, fun k _ i hi => absurd hi (Nat.not_lt_zero i)⟩
  | succ n ih =>
    obtain ⟨K, hK⟩ := ih fun i hi => h i (by omega)
    obtain ⟨K2, hK2⟩ := h n (by omega)
    refine ⟨K + K2, fun k hk i hi => ?_⟩
    by_cases c : i = n
    · rw [c]
      exact hK2 k (by omega)
    · exact hK k (by omega) i (by omega)
theorem rd_left (l m : List TInst) (i : Nat) (h : i < l.length) : rd_T39 (l ++ m) (i : Int) = l[i] := by
  unfold rd_T39
  rw [Int.toNat_natCast, List.getD_eq_getElem?_getD, List.getElem?_append_left h, List.getElem?_eq_getElem h, Option.getD_some]
theorem rd_right (l m : List TInst) (i j : Nat) (h : i = l.length + j) : rd_T39 (l ++ m) (i : Int) = rd_T39 m (j : Int) := by
  subst h
  unfold rd_T39
  rw [Int.toNat_natCast, Int.toNat_natCast, List.getD_eq_getElem?_getD, List.getD_eq_getElem?_getD, List.getElem?_append_right (by omega), show l.length + j - l.length = j by omega]
theorem fin_sh (i hi d : Nat) (e : TInst) (h : okI i hi e) (h1 : hi ≤ 100000) (h2 : i ≤ 100000) (h3 : d ≤ 100000) : finI e (d : Int) = sh d e := by
  obtain ⟨g1, g2, g3, g4⟩ := h
  unfold finI sh
  by_cases c2 : e.f0 = 2
  · have := g3 c2
    have c4 : e.f0 = 2 ∨ e.f0 = 3 := .inl c2
    rw [if_pos c4, if_pos c4, if_pos c2, if_pos c2, wrap_id (by omega) (by omega), wrap_id (by omega) (by omega)]
  · rw [if_neg c2, if_neg c2]
    by_cases c3 : e.f0 = 3
    · have := g4 c3
      have c4 : e.f0 = 2 ∨ e.f0 = 3 := .inr c3
      rw [if_pos c4, if_pos c4, wrap_id (by omega) (by omega)]
    · rw [if_neg (by omega), if_neg (by omega)]
theorem sh_zero (e : TInst) : sh 0 e = e := by
  obtain ⟨a, b, c, d⟩ := e
  unfold sh
  dsimp only
  have e1 : c + ((0 : Nat) : Int) = c := by omega
  have e2 : d + ((0 : Nat) : Int) = d := by omega
  rw [e1, e2, ite_self, ite_self]
theorem joins_at (x y : TNode) (hx : lenM x ≤ 10000) (hy : lenM y ≤ 10000) (i : Nat) (hi : i < lenM x + lenM y + 1) :
    joinI (layM x 0 ++ [lastI]) (layM y 0 ++ [lastI]) i = rd_T39 ((layM x 0 ++ layM y (lenM x)) ++ [lastI]) (i : Int) := by
  have lx := layM_len x 0
  have ly := layM_len y 0
  have ly2 := layM_len y (lenM x)
  have lp : (layM x 0 ++ [lastI]).length = lenM x + 1 := by rw [List.length_append, lx, List.length_singleton]
  unfold joinI
  rw [lp]
  by_cases c : i + 1 < lenM x + 1
  · rw [if_pos c, rd_left _ _ i (by omega), List.append_assoc, rd_left _ _ i (by omega)]
    have ok := okL_get _ _ 0 i (show i < (layM x 0).length by omega) (ok_lay x 0)
    have h := fin_sh (0 + i) (0 + lenM x) 0 _ ok (by omega) (by omega) (by omega)
    rw [sh_zero] at h
    exact h
  · have e0 : lenM x + 1 - 1 = lenM x := by omega
    have e1 : (((lenM x + 1 : Nat) : Int) - 1) = ((lenM x : Nat) : Int) := by omega
    rw [if_neg c, e0, e1, List.append_assoc, rd_right _ _ i (i - lenM x) (by omega)]
    obtain ⟨j, hj⟩ : ∃ j, j = i - lenM x := ⟨_, rfl⟩
    rw [← hj]
    by_cases cj : j < lenM y
    · rw [rd_left _ _ j (by omega), rd_left _ _ j (by omega)]
      have ok := okL_get _ _ 0 j (show j < (layM y 0).length by omega) (ok_lay y 0)
      rw [fin_sh (0 + j) (0 + lenM y) (lenM x) _ ok (by omega) (by omega) (by omega)]
      have hs := sh_lay (lenM x) y 0
      rw [Nat.zero_add] at hs
      simp only [hs, List.getElem_map]
    · rw [rd_right _ _ j 0 (by omega), rd_right _ _ j 0 (by omega)]
      rfl
theorem NfaJoins (x : TNode) (hx : WfT x) (y : TNode) (hy : WfT y) : ∃ k wa wb sa sb p q b e f g, JoinsOk k x y wa wb sa sb p q b e f g := by
  have wx := wf_of x hx
  have wy := wf_of y hy
  obtain ⟨wa, ⟨Ka, hwa⟩, _, _⟩ := weight_ev x wx 0 (by omega)
  obtain ⟨wb, ⟨Kb, hwb⟩, _, _⟩ := weight_ev y wy 0 (by omega)
  obtain ⟨Kc, hsa⟩ := size_ev x wx
  obtain ⟨Kd, hsb⟩ := size_ev y wy
  by_cases sm : sizeT x ≤ 1000 ∧ sizeT y ≤ 1000
  rotate_left
  · exact ⟨Ka + Kb + Kc + Kd, wa, wb, sizeT x, sizeT y, [], [], [], 0, 0, 0, ⟨hwa _ (by omega), hwb _ (by omega), hsa _ (by omega), hsb _ (by omega), fun _ _ h3 h4 => (sm ⟨h3, h4⟩).elim⟩⟩
  have lx := len_small x 1000 (by omega) (by omega)
  have ly := len_small y 1000 (by omega) (by omega)
  have wj : WfN ⟨3, [], 0, 0, [x, y]⟩ := .mk _ (show i64b 3 by unfold i64b; omega) (fun r hr => by cases hr) (by simp) (show i64b 0 by unfold i64b; omega) (show i64b 0 by unfold i64b; omega) (by simp) fun z hz => by
    simp only [List.mem_cons, List.not_mem_nil, or_false] at hz
    rcases hz with rfl | rfl
    · exact wx
    · exact wy
  have lj : letB ⟨3, [], 0, 0, [x, y]⟩ = (letB x && letB y) := by
    rw [letB, if_neg (by decide), if_neg (by decide), if_pos (by decide), letsB, letsB, letsB, Bool.and_true]
  have nj : lenM ⟨3, [], 0, 0, [x, y]⟩ = lenM x + lenM y := by
    rw [lenM, if_neg (by decide), if_neg (by decide), if_neg (by decide), if_pos (by decide), joinN, joinN, joinN]
    omega
  have mj : layM ⟨3, [], 0, 0, [x, y]⟩ 0 = layM x 0 ++ layM y (lenM x) := by
    rw [layM, if_neg (by decide), if_neg (by decide), if_neg (by decide), if_pos (by decide), joinM, joinM, joinM, List.append_nil, Nat.zero_add]
  obtain ⟨K1, h1⟩ := compC_ev x wx (fun h => by have := lx h; omega)
  obtain ⟨K2, h2⟩ := compC_ev y wy (fun h => by have := ly h; omega)
  obtain ⟨K3, h3⟩ := compC_ev ⟨3, [], 0, 0, [x, y]⟩ wj (fun h => by
    rw [lj, Bool.and_eq_true] at h
    have := lx h.1
    have := ly h.2
    omega)
  have rj := comp_rgs ⟨3, [], 0, 0, [x, y]⟩ wj
  have px : (layM x 0 ++ [lastI]).length = lenM x + 1 := by rw [List.length_append, layM_len, List.length_singleton]
  have py : (layM y 0 ++ [lastI]).length = lenM y + 1 := by rw [List.length_append, layM_len, List.length_singleton]
  have pj : (layM x 0 ++ layM y (lenM x) ++ [lastI]).length = lenM x + lenM y + 1 := by rw [List.length_append, List.length_append, layM_len, layM_len, List.length_singleton]
  have cx : (compM x).2 = 0 → letB x = true ∧ lenM x + 1 ≤ 1000 ∧ (compM x).1 = layM x 0 ++ [lastI] := fun h => by
    by_cases c : letB x = true
    · by_cases d : ((layM x 0 ++ [lastI]).length : Int) > 1000
      · rw [compM, if_pos c, compT, if_pos d] at h
        exact absurd h (by decide)
      · rw [px] at d
        refine ⟨c, by omega, ?_⟩
        rw [compM, if_pos c, compT, px, if_neg d]
    · rw [compM, if_neg c] at h
      exact absurd h (by decide)
  have cy : (compM y).2 = 0 → letB y = true ∧ lenM y + 1 ≤ 1000 ∧ (compM y).1 = layM y 0 ++ [lastI] := fun h => by
    by_cases c : letB y = true
    · by_cases d : ((layM y 0 ++ [lastI]).length : Int) > 1000
      · rw [compM, if_pos c, compT, if_pos d] at h
        exact absurd h (by decide)
      · rw [py] at d
        refine ⟨c, by omega, ?_⟩
        rw [compM, if_pos c, compT, py, if_neg d]
    · rw [compM, if_neg c] at h
      exact absurd h (by decide)
  have cj : (compM ⟨3, [], 0, 0, [x, y]⟩).2 = 0 → (letB x = true ∧ letB y = true) ∧ lenM x + lenM y + 1 ≤ 1000 ∧ (compM ⟨3, [], 0, 0, [x, y]⟩).1 = layM x 0 ++ layM y (lenM x) ++ [lastI] := fun h => by
    by_cases c : letB ⟨3, [], 0, 0, [x, y]⟩ = true
    · by_cases d : ((layM x 0 ++ layM y (lenM x) ++ [lastI]).length : Int) > 1000
      · rw [compM, if_pos c, mj, compT, if_pos d] at h
        exact absurd h (by decide)
      · rw [pj] at d
        refine ⟨by rw [lj, Bool.and_eq_true] at c; exact c, by omega, ?_⟩
        rw [compM, if_pos c, mj, compT, pj, if_neg d]
    · rw [compM, if_neg c] at h
      exact absurd h (by decide)
  obtain ⟨K4, h4⟩ := all_ev (compM ⟨3, [], 0, 0, [x, y]⟩).1.length (fun i k => ductusref19_Same.f k [rd_T39 (compM ⟨3, [], 0, 0, [x, y]⟩).1 (i : Int)] [rd_T39 (compM ⟨3, [], 0, 0, [x, y]⟩).1 (i : Int)]) true fun i hi => (same_self [rd_T39 (compM ⟨3, [], 0, 0, [x, y]⟩).1 (i : Int)] (by simp) fun e he => by
    have hm : e ∈ (compM ⟨3, [], 0, 0, [x, y]⟩).1 := by
      rw [List.mem_singleton.1 he]
      have h := ti_drop _ i hi
      exact List.mem_of_mem_drop (h ▸ List.mem_cons_self)
    have := rj.1 e hm
    omega).2
  refine ⟨Ka + Kb + Kc + Kd + K1 + K2 + K3 + K4, wa, wb, sizeT x, sizeT y, (compM x).1, (compM y).1, (compM ⟨3, [], 0, 0, [x, y]⟩).1, (compM x).2, (compM y).2, (compM ⟨3, [], 0, 0, [x, y]⟩).2,
    ⟨hwa _ (by omega), hwb _ (by omega), hsa _ (by omega), hsb _ (by omega), fun _ _ _ _ => ⟨h1 _ (by omega), h2 _ (by omega), h3 _ (by omega), fun hh hg => ?_, fun he hf hg => ?_⟩⟩⟩
  · obtain ⟨⟨g1, g2⟩, g3, g4⟩ := cj hg
    rcases hh with hh | hh
    · refine hh ?_
      rw [compM, if_pos g1, compT, px, if_neg (by omega)]
    · refine hh ?_
      rw [compM, if_pos g2, compT, py, if_neg (by omega)]
  · obtain ⟨_, a2, a3⟩ := cx he
    obtain ⟨_, b2, b3⟩ := cy hf
    obtain ⟨_, c2, c3⟩ := cj hg
    refine ⟨by rw [a3, px]; omega, by rw [b3, py]; omega, by rw [a3, px]; omega, by rw [b3, py]; omega, by rw [a3, b3, c3, px, py, pj]; omega, fun i hi => ?_⟩
    have h := h4 (Ka + Kb + Kc + Kd + K1 + K2 + K3 + K4) (by omega) i hi
    have hi2 : i < lenM x + lenM y + 1 := by rw [c3, pj] at hi; exact hi
    rw [a3, b3, joins_at x y (by omega) (by omega) i hi2, ← c3]
    exact h
end Go.Proofs.Ytbbplchdgedhcaa.Pure
