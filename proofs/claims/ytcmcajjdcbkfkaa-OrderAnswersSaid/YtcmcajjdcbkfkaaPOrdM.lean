/- Proved: turning round the runs of a list level by level, from the greatest down, is what turning them round within one another gives; and what that does to neighbours; plain lists, no condition. -/
import Derived.Test.YtcmcajjdcbkfkaaPLib
import Derived.Test.YtcmcajjdcbkfkaaSRight
namespace Go.Proofs.Ytcmcajjdcbkfkaa.P
open Go.RowKit Go.Proofs.YtcmcajjdcbkfkaaW.PrintWords Go.Proofs.YtcmcajjdcbkfkaaW.PrintLast
set_option linter.unusedVariables false

/-- The runs of what p lets, each turned round; acc is the run so far, turned. -/
def rr (p : Int → Bool) : List Int → List Int → List Int
  | acc, [] => acc
  | acc, x :: l => if p x = true then rr p (x :: acc) l else acc ++ x :: rr p [] l
theorem rr_run (p : Int → Bool) : ∀ (a acc b : List Int), (∀ x ∈ a, p x = true) → rr p acc (a ++ b) = rr p (a.reverse ++ acc) b
  | [], acc, b, _ => by simp
  | x :: a, acc, b, h => by
    simp only [List.cons_append, rr]
    rw [if_pos (h x (by simp)), rr_run p a (x :: acc) b (fun y hy => h y (by simp [hy]))]
    simp
theorem rr_stop (p : Int → Bool) (x : Int) (acc b : List Int) (h : ¬ p x = true) : rr p acc (x :: b) = acc ++ x :: rr p [] b := by
  simp only [rr]
  rw [if_neg h]
theorem rr_none (p : Int → Bool) : ∀ (l : List Int), (∀ x ∈ l, ¬ p x = true) → rr p [] l = l
  | [], _ => rfl
  | x :: l, h => by
    rw [rr_stop p x [] l (h x (by simp)), rr_none p l (fun y hy => h y (by simp [hy]))]
    rfl
theorem rr_perm (p : Int → Bool) : ∀ (l acc : List Int), (rr p acc l).Perm (acc ++ l)
  | [], acc => by simp [rr]
  | x :: l, acc => by
    simp only [rr]
    split
    · exact (rr_perm p l (x :: acc)).trans (by simpa using (List.perm_middle (a := x) (l₁ := acc) (l₂ := l)).symm)
    · exact List.Perm.append_left acc ((rr_perm p l []).cons x)
theorem rr_congr (p q : Int → Bool) : ∀ (l acc : List Int), (∀ x ∈ l, p x = q x) → rr p acc l = rr q acc l
  | [], _, _ => rfl
  | x :: l, acc, h => by
    simp only [rr, h x (by simp)]
    rw [rr_congr p q l _ (fun y hy => h y (by simp [hy])), rr_congr p q l _ (fun y hy => h y (by simp [hy]))]

/-- The same with what comes of a run first. -/
def ra (f : List Int → List Int) (p : Int → Bool) : List Int → List Int → List Int
  | run, [] => (f run).reverse
  | run, x :: l => if p x = true then ra f p (run ++ [x]) l else (f run).reverse ++ x :: ra f p [] l
/-- Columns of one level or above, d levels below the highest. -/
def rowM (lv : Int → Int) : Nat → Int → List Int → List Int
  | 0, _, l => l
  | d + 1, L, l => ra (rowM lv d (L + 1)) (fun x => decide (lv x > L)) [] l
/-- Turned level by level, from L + d down to L + 1. -/
def refM (lv : Int → Int) : Nat → Int → List Int → List Int
  | 0, _, l => l
  | d + 1, L, l => rr (fun x => decide (lv x ≥ L + 1)) [] (refM lv d (L + 1) l)

theorem ra_perm (f : List Int → List Int) (p : Int → Bool) (hf : ∀ l, (f l).Perm l) : ∀ (l run : List Int), (ra f p run l).Perm (run ++ l)
  | [], run => by simpa [ra] using (List.reverse_perm _).trans (hf run)
  | x :: l, run => by
    simp only [ra]
    split
    · simpa using ra_perm f p hf l (run ++ [x])
    · refine List.Perm.append ((List.reverse_perm _).trans (hf run)) ?_
      simpa using (ra_perm f p hf l []).cons x
theorem row_perm (lv : Int → Int) : ∀ (d : Nat) (L : Int) (l : List Int), (rowM lv d L l).Perm l
  | 0, _, l => List.Perm.refl l
  | d + 1, L, l => by
    have := ra_perm (rowM lv d (L + 1)) (fun x => decide (lv x > L)) (row_perm lv d (L + 1)) l []
    simpa [rowM] using this
theorem ra_split (f : List Int → List Int) (p : Int → Bool) (x : Int) (hx : ¬ p x = true) (b : List Int) : ∀ (a run : List Int), ra f p run (a ++ x :: b) = ra f p run a ++ x :: ra f p [] b
  | [], run => by simp [ra, hx]
  | y :: a, run => by
    simp only [List.cons_append, ra]
    split
    · exact ra_split f p x hx b a (run ++ [y])
    · rw [ra_split f p x hx b a []]
      simp
theorem row_split (lv : Int → Int) (d : Nat) (L : Int) (x : Int) (hx : lv x ≤ L) (a b : List Int) : rowM lv d L (a ++ x :: b) = rowM lv d L a ++ x :: rowM lv d L b := by
  cases d with
  | zero => rfl
  | succ d => exact ra_split _ _ x (by simp; omega) b a []
theorem row_nil (lv : Int → Int) (d : Nat) (L : Int) : rowM lv d L [] = [] := by
  have := row_perm lv d L []
  exact List.Perm.eq_nil this
theorem rr_row (lv : Int → Int) (d : Nat) (L : Int) : ∀ (l run : List Int), (∀ x ∈ run, lv x > L) →
    rr (fun x => decide (lv x ≥ L + 1)) [] (rowM lv d (L + 1) (run ++ l)) = ra (rowM lv d (L + 1)) (fun x => decide (lv x > L)) run l
  | [], run, h => by
    have hp : ∀ x ∈ rowM lv d (L + 1) run, decide (lv x ≥ L + 1) = true := fun x hx => by
      have := h x ((row_perm lv d (L + 1) run).mem_iff.1 hx)
      simp
      omega
    have := rr_run (fun x => decide (lv x ≥ L + 1)) (rowM lv d (L + 1) run) [] [] hp
    simp only [List.append_nil] at this ⊢
    rw [this]
    rfl
  | x :: l, run, h => by
    simp only [ra]
    by_cases hx : lv x > L
    · rw [if_pos (by simpa using hx)]
      have e : run ++ x :: l = (run ++ [x]) ++ l := by simp
      rw [e]
      exact rr_row lv d L l (run ++ [x]) (fun y hy => by
        rcases List.mem_append.1 hy with hy | hy
        · exact h y hy
        · simp only [List.mem_singleton] at hy
          rw [hy]
          exact hx)
    · rw [if_neg (by simpa using hx), row_split lv d (L + 1) x (by omega) run l]
      have hp : ∀ y ∈ rowM lv d (L + 1) run, decide (lv y ≥ L + 1) = true := fun y hy => by
        have := h y ((row_perm lv d (L + 1) run).mem_iff.1 hy)
        simp
        omega
      rw [rr_run _ _ _ _ hp, rr_stop _ _ _ _ (by simp; omega)]
      have := rr_row lv d L l [] (by simp)
      simp only [List.nil_append] at this
      rw [this]
      simp
theorem ref_row (lv : Int → Int) : ∀ (d : Nat) (L : Int) (l : List Int), refM lv d L l = rowM lv d L l
  | 0, _, _ => rfl
  | d + 1, L, l => by
    simp only [refM, rowM]
    rw [ref_row lv d (L + 1) l]
    have := rr_row lv d L l [] (by simp)
    simpa using this
theorem ref_none (lv : Int → Int) (l : List Int) : ∀ (d : Nat) (L : Int), (∀ x ∈ l, lv x ≤ L) → refM lv d L l = l
  | 0, _, _ => rfl
  | d + 1, L, h => by
    simp only [refM]
    rw [ref_none lv l d (L + 1) (fun x hx => by have := h x hx; omega), rr_none _ _ (fun x hx => by have := h x hx; simp; omega)]
/-- The ways down from one level: most, .., 1. -/
def downM (lv : Int → Int) : Nat → List Int → List Int
  | 0, l => l
  | m + 1, l => downM lv m (rr (fun x => decide (lv x ≥ ((m + 1 : Nat) : Int))) [] l)
theorem ref_last (lv : Int → Int) : ∀ (d : Nat) (L : Int) (l : List Int), refM lv (d + 1) L l = refM lv d L (rr (fun x => decide (lv x ≥ L + ((d + 1 : Nat) : Int))) [] l)
  | 0, L, l => by simp [refM]
  | d + 1, L, l => by
    rw [refM, ref_last lv d (L + 1) l]
    simp only [refM]
    have e : L + 1 + ((d + 1 : Nat) : Int) = L + ((d + 1 + 1 : Nat) : Int) := by omega
    rw [e]
theorem down_ref (lv : Int → Int) : ∀ (d : Nat) (l : List Int), downM lv d l = refM lv d 0 l
  | 0, _ => rfl
  | d + 1, l => by
    rw [ref_last, downM, down_ref lv d]
    have e : (0 : Int) + ((d + 1 : Nat) : Int) = ((d + 1 : Nat) : Int) := by omega
    rw [e]
theorem ref_more (lv : Int → Int) (d : Nat) (L : Int) (l : List Int) : ∀ (e : Nat), (∀ x ∈ l, lv x ≤ L + d) → refM lv (d + e) L l = refM lv d L l
  | 0, _ => rfl
  | e + 1, h => by
    have hd : d + (e + 1) = (d + e) + 1 := by omega
    rw [hd, ref_last, rr_none _ _ (fun x hx => by have := h x hx; simp; omega), ref_more lv d L l e h]
theorem ref_perm (lv : Int → Int) (d : Nat) (L : Int) (l : List Int) : (refM lv d L l).Perm l := by
  rw [ref_row]
  exact row_perm lv d L l
theorem down_perm (lv : Int → Int) (d : Nat) (l : List Int) : (downM lv d l).Perm l := by
  rw [down_ref]
  exact ref_perm lv d 0 l
theorem down_congr (lv mv : Int → Int) (h : ∀ x (m : Nat), 1 ≤ m → m ≤ 127 → (lv x ≥ (m : Int) ↔ mv x ≥ (m : Int))) : ∀ (d : Nat) (l : List Int), d ≤ 127 → downM lv d l = downM mv d l
  | 0, _, _ => rfl
  | d + 1, l, hd => by
    simp only [downM]
    rw [rr_congr _ (fun x => decide (mv x ≥ ((d + 1 : Nat) : Int))) l [] (fun x _ => by
      have := h x (d + 1) (by omega) hd
      simp only [decide_eq_decide]
      exact this), down_congr lv mv h d _ (by omega)]

/-! Neighbours -/
def Adj (x y : Int) (l : List Int) : Prop := ∃ a b, l = a ++ x :: y :: b
theorem rr_acc (p : Int → Bool) : ∀ (b acc : List Int), ∃ pre post, rr p acc b = pre ++ (acc ++ post)
  | [], acc => ⟨[], [], by simp [rr]⟩
  | x :: b, acc => by
    simp only [rr]
    split
    · obtain ⟨pre, post, h⟩ := rr_acc p b (x :: acc)
      exact ⟨pre ++ [x], post, by rw [h]; simp⟩
    · exact ⟨[], x :: rr p [] b, by simp⟩
theorem rr_adj (p : Int → Bool) (x y : Int) (b : List Int) (hxy : p x = p y) : ∀ (a acc : List Int), if p x = true then Adj y x (rr p acc (a ++ x :: y :: b)) else Adj x y (rr p acc (a ++ x :: y :: b))
  | [], acc => by
    simp only [List.nil_append, rr]
    by_cases hx : p x = true
    · rw [if_pos hx, if_pos hx, if_pos (by rw [← hxy]; exact hx)]
      obtain ⟨pre, post, h⟩ := rr_acc p b (y :: x :: acc)
      exact ⟨pre, acc ++ post, by rw [h]; simp⟩
    · rw [if_neg hx, if_neg hx, if_neg (by rw [← hxy]; exact hx)]
      exact ⟨acc, rr p [] b, by simp⟩
  | z :: a, acc => by
    simp only [List.cons_append, rr]
    by_cases hz : p z = true
    · rw [if_pos hz]
      exact rr_adj p x y b hxy a (z :: acc)
    · rw [if_neg hz]
      have h := rr_adj p x y b hxy a []
      by_cases hx : p x = true
      · rw [if_pos hx] at h ⊢
        obtain ⟨u, v, e⟩ := h
        exact ⟨acc ++ z :: u, v, by rw [e]; simp⟩
      · rw [if_neg hx] at h ⊢
        obtain ⟨u, v, e⟩ := h
        exact ⟨acc ++ z :: u, v, by rw [e]; simp⟩
theorem down_adj (lv : Int → Int) : ∀ (d : Nat) (l : List Int) (x y : Int), lv x = lv y → Adj x y l →
    if (min (lv x).toNat d) % 2 = 0 then Adj x y (downM lv d l) else Adj y x (downM lv d l)
  | 0, l, x, y, _, h => by simpa [downM] using h
  | d + 1, l, x, y, hxy, h => by
    obtain ⟨a, b, rfl⟩ := h
    have h1 := rr_adj (fun x => decide (lv x ≥ ((d + 1 : Nat) : Int))) x y b (by simp [hxy]) a []
    simp only [downM]
    by_cases hx : lv x ≥ ((d + 1 : Nat) : Int)
    · rw [if_pos (by simpa using hx)] at h1
      have h2 := down_adj lv d _ y x hxy.symm h1
      rw [← hxy] at h2
      by_cases hd : (min (lv x).toNat d) % 2 = 0
      · rw [if_pos hd] at h2
        rw [if_neg (by omega)]
        exact h2
      · rw [if_neg hd] at h2
        rw [if_pos (by omega)]
        exact h2
    · rw [if_neg (by simpa using hx)] at h1
      have h2 := down_adj lv d _ x y hxy h1
      have e : min (lv x).toNat (d + 1) = min (lv x).toNat d := by omega
      rw [e]
      exact h2
/-- All of one level. -/
theorem down_one (lv : Int → Int) (c : Int) : ∀ (d : Nat) (l : List Int), (∀ x ∈ l, lv x = c) → downM lv d l = if (min c.toNat d) % 2 = 0 then l else l.reverse
  | 0, l, _ => by simp [downM]
  | d + 1, l, h => by
    simp only [downM]
    by_cases hc : c ≥ ((d + 1 : Nat) : Int)
    · have e : rr (fun x => decide (lv x ≥ ((d + 1 : Nat) : Int))) [] l = l.reverse := by
        have := rr_run (fun x => decide (lv x ≥ ((d + 1 : Nat) : Int))) l [] [] (fun x hx => by rw [h x hx]; simpa using hc)
        simpa [rr] using this
      rw [e, down_one lv c d l.reverse (fun x hx => h x (List.mem_reverse.1 hx))]
      by_cases hd : (min c.toNat d) % 2 = 0
      · rw [if_pos hd, if_neg (by omega)]
      · rw [if_neg hd, if_pos (by omega), List.reverse_reverse]
    · rw [rr_none _ l (fun x hx => by rw [h x hx]; simpa using hc), down_one lv c d l h]
      have e : min c.toNat (d + 1) = min c.toNat d := by omega
      rw [e]

/-! Numbers from 0 on; where each stands -/
def rng (n : Nat) : List Int := (List.range n).map fun (i : Nat) => (i : Int)
theorem rng_len (n : Nat) : (rng n).length = n := by simp [rng]
theorem rng_mem (n : Nat) (x : Int) : x ∈ rng n ↔ 0 ≤ x ∧ x < n := by
  simp only [rng, List.mem_map, List.mem_range]
  constructor
  · rintro ⟨i, hi, rfl⟩
    omega
  · rintro ⟨h0, h1⟩
    exact ⟨x.toNat, by omega, by omega⟩
theorem rng_rd (n i : Nat) (h : i < n) : rd (rng n) (i : Int) = i := by
  rw [rd_get _ _ (by rw [rng_len]; exact h)]
  simp [rng]
theorem rng_nodup (n : Nat) : (rng n).Nodup := by
  unfold rng
  refine List.Pairwise.map _ ?_ (List.nodup_range (n := n))
  intro a b h
  omega
theorem rng_adj (n i : Nat) (h : i + 1 < n) : Adj (i : Int) ((i + 1 : Nat) : Int) (rng n) := by
  refine ⟨(rng n).take i, (rng n).drop (i + 2), ?_⟩
  have h1 := drop_cons (rng n) i (by rw [rng_len]; omega)
  have h2 := drop_cons (rng n) (i + 1) (by rw [rng_len]; omega)
  rw [rng_rd n i (by omega)] at h1
  rw [rng_rd n (i + 1) (by omega)] at h2
  rw [← h2, ← h1, List.take_append_drop]
/-- Where each stands: places are laid from i on. -/
def backL : Nat → List Int → List Int → List Int
  | _, acc, [] => acc
  | i, acc, x :: l => backL (i + 1) (acc.set x.toNat (i : Int)) l
theorem backL_len : ∀ (l : List Int) (i : Nat) (acc : List Int), (backL i acc l).length = acc.length
  | [], _, _ => rfl
  | x :: l, i, acc => by
    rw [backL, backL_len l]
    simp
theorem rd_set (acc : List Int) (x y v : Int) (hx : 0 ≤ x) (hy : 0 ≤ y) (hl : y < (acc.length : Int)) : rd (acc.set x.toNat v) y = if x = y then v else rd acc y := by
  unfold rd
  rw [List.getD_eq_getElem?_getD, List.getElem?_set, List.getD_eq_getElem?_getD]
  by_cases h : x = y
  · subst h
    rw [if_pos rfl, if_pos rfl, if_pos (by omega)]
    rfl
  · rw [if_neg (by omega), if_neg h]
theorem backL_off : ∀ (l : List Int) (i : Nat) (acc : List Int) (y : Int), (∀ x ∈ l, 0 ≤ x) → y ∉ l → 0 ≤ y → y < (acc.length : Int) → rd (backL i acc l) y = rd acc y
  | [], _, _, _, _, _, _, _ => rfl
  | x :: l, i, acc, y, h, hy, h0, h1 => by
    rw [backL, backL_off l (i + 1) _ y (fun z hz => h z (by simp [hz])) (fun hm => hy (by simp [hm])) h0 (by simpa using h1), rd_set acc x y i (h x (by simp)) h0 h1, if_neg]
    intro e
    exact hy (by simp [e])
theorem backL_on : ∀ (l : List Int) (i : Nat) (acc : List Int) (j : Nat), (∀ x ∈ l, 0 ≤ x ∧ x < (acc.length : Int)) → l.Nodup → j < l.length → rd (backL i acc l) (rd l (j : Int)) = ((i + j : Nat) : Int)
  | [], _, _, _, _, _, hj => by simp at hj
  | x :: l, i, acc, j, h, hn, hj => by
    have hx := h x (by simp)
    rw [backL]
    cases j with
    | zero =>
      have e : rd (x :: l) ((0 : Nat) : Int) = x := by simp [rd]
      rw [e, backL_off l (i + 1) _ x (fun z hz => (h z (by simp [hz])).1) (List.nodup_cons.1 hn).1 hx.1 (by simpa using hx.2), rd_set acc x x i hx.1 hx.1 hx.2, if_pos rfl]
      rfl
    | succ j =>
      have e : rd (x :: l) ((j + 1 : Nat) : Int) = rd l (j : Int) := by simp [rd]
      rw [e, backL_on l (i + 1) _ j (fun z hz => by simpa using h z (by simp [hz])) (List.nodup_cons.1 hn).2 (by simpa using hj)]
      omega
def backOf (l : List Int) : List Int := backL 0 (List.replicate l.length 0) l
theorem backOf_len (l : List Int) : (backOf l).length = l.length := by simp [backOf, backL_len]
theorem rightL_iff (l : List Int) : rightL l = true ↔ l.Nodup ∧ ∀ x ∈ l, 0 ≤ x ∧ x < (l.length : Int) := by
  simp [rightL]
theorem backOf_on (l : List Int) (h : rightL l = true) (j : Nat) (hj : j < l.length) : rd (backOf l) (rd l (j : Int)) = (j : Int) := by
  obtain ⟨h1, h2⟩ := (rightL_iff l).1 h
  have := backL_on l 0 (List.replicate l.length 0) j (by simpa using h2) h1 hj
  simpa [backOf] using this
theorem rd_mem (l : List Int) (i : Nat) (h : i < l.length) : rd l (i : Int) ∈ l := by
  rw [rd_get l i h]
  exact List.getElem_mem h
theorem mem_rd (l : List Int) (x : Int) (h : x ∈ l) : ∃ i : Nat, i < l.length ∧ rd l (i : Int) = x := by
  obtain ⟨i, hi, e⟩ := List.getElem_of_mem h
  exact ⟨i, hi, by rw [rd_get l i hi]; exact e⟩
theorem perm_right {l : List Int} {n : Nat} (h : l.Perm (rng n)) : rightL l = true := by
  rw [rightL_iff]
  have hl : l.length = n := by rw [h.length_eq, rng_len]
  refine ⟨h.nodup_iff.2 (rng_nodup n), fun x hx => ?_⟩
  rw [hl]
  exact (rng_mem n x).1 (h.mem_iff.1 hx)
theorem list_ext_rd {a b : List Int} (hl : a.length = b.length) (h : ∀ i : Nat, i < a.length → rd a (i : Int) = rd b (i : Int)) : a = b := by
  refine List.ext_getElem hl fun i h1 h2 => ?_
  have := h i h1
  rw [rd_get a i h1, rd_get b i h2] at this
  exact this
theorem back_right {l : List Int} {n : Nat} (h : l.Perm (rng n)) : rightL (backOf l) = true := by
  have hl : l.length = n := by rw [h.length_eq, rng_len]
  have hr := perm_right h
  have key : ∀ x : Nat, x < n → ∃ j : Nat, j < n ∧ rd l (j : Int) = x ∧ rd (backOf l) (x : Int) = j := fun x hx => by
    obtain ⟨j, hj, e⟩ := mem_rd l (x : Int) (h.mem_iff.2 ((rng_mem n x).2 ⟨by omega, by omega⟩))
    refine ⟨j, by omega, e, ?_⟩
    rw [← e]
    exact backOf_on l hr j hj
  rw [rightL_iff, backOf_len, hl]
  constructor
  · rw [List.nodup_iff_pairwise_ne, List.pairwise_iff_getElem]
    intro i j hi hj hij he
    rw [backOf_len, hl] at hi hj
    obtain ⟨p, _, e1, e2⟩ := key i hi
    obtain ⟨q, _, e3, e4⟩ := key j hj
    rw [rd_get _ _ (by rw [backOf_len, hl]; exact hi)] at e2
    rw [rd_get _ _ (by rw [backOf_len, hl]; exact hj)] at e4
    rw [e2, e4] at he
    rw [he] at e1
    omega
  · intro x hx
    obtain ⟨i, hi, e⟩ := mem_rd _ x hx
    rw [backOf_len, hl] at hi
    obtain ⟨p, hp, _, e2⟩ := key i hi
    omega
theorem back_back {l : List Int} {n : Nat} (h : l.Perm (rng n)) : backOf (backOf l) = l := by
  have hl : l.length = n := by rw [h.length_eq, rng_len]
  have hr := perm_right h
  have hb := back_right h
  refine list_ext_rd (by rw [backOf_len, backOf_len]) fun i hi => ?_
  rw [backOf_len, backOf_len] at hi
  have h1 := backOf_on l hr i hi
  have hx := ((rightL_iff l).1 hr).2 _ (rd_mem l i hi)
  have h2 := backOf_on (backOf l) hb (rd l (i : Int)).toNat (by rw [backOf_len]; omega)
  have e : ((rd l (i : Int)).toNat : Int) = rd l (i : Int) := by omega
  rw [e, h1] at h2
  exact h2
theorem adj_back {l : List Int} {n : Nat} (h : l.Perm (rng n)) {x y : Int} (ha : Adj x y l) : rd (backOf l) y - rd (backOf l) x = 1 := by
  obtain ⟨a, b, rfl⟩ := ha
  have hr := perm_right h
  have h1 := backOf_on _ hr a.length (by simp)
  have h2 := backOf_on _ hr (a.length + 1) (by simp)
  have e1 : rd (a ++ x :: y :: b) (a.length : Int) = x := by rw [rd_nat]; simp
  have e2 : rd (a ++ x :: y :: b) ((a.length + 1 : Nat) : Int) = y := by rw [rd_nat]; simp
  rw [e1] at h1
  rw [e2] at h2
  omega
end Go.Proofs.Ytcmcajjdcbkfkaa.P
