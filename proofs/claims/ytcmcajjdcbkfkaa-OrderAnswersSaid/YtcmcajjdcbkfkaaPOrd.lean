/- Proved: what the functions of order tell of any list; conditions: a list shorter than 2^44, numbers of 64 bits. -/
import Derived.Test.YtcmcajjdcbkfkaaPEv
import Derived.Test.YtcmcajjdcbkfkaaPOrdM
import Derived.Test.YtcmcajjdcbkfkaaPx3
import Derived.Test.YtcmcajjdcbkfkaaPx2
namespace Go.Proofs.Ytcmcajjdcbkfkaa.P
open Go.RowKit Go.Proofs.YtcmcajjdcbkfkaaW.PrintWords Go.Proofs.YtcmcajjdcbkfkaaW.PrintLast Go.Proofs.YtcmcajjdcbkfkaaW.PrintMore
set_option linter.unusedVariables false
set_option linter.unusedSimpArgs false

/-- One exchange of a turn. -/
theorem turn_set (a m b : List Int) (x y : Int) : ((a ++ x :: (m ++ y :: b)).set a.length y).set (a.length + m.length + 1) x = a ++ y :: (m ++ x :: b) := by
  apply List.ext_getElem?
  intro i
  simp only [List.getElem?_set, List.length_set, List.getElem?_append, List.getElem?_cons, List.length_append, List.length_cons]
  repeat' split
  all_goals first | rfl | omega
theorem turn_rd (a m b : List Int) (x y : Int) : rd (a ++ x :: (m ++ y :: b)) (a.length : Int) = x ∧ rd (a ++ x :: (m ++ y :: b)) ((a.length + m.length + 1 : Nat) : Int) = y := by
  constructor
  · rw [rd_nat]
    simp
  · rw [rd_nat, List.getD_eq_getElem?_getD, List.getElem?_append_right (by omega)]
    have e : a.length + m.length + 1 - a.length = m.length + 1 := by omega
    rw [e]
    simp
/-- A list of two or more: its first and its last one. -/
theorem two_ends (x z : Int) (m : List Int) : ∃ t y, x :: z :: m = x :: (t ++ [y]) ∧ t.length = m.length := by
  have h : z :: m ≠ [] := by simp
  exact ⟨(z :: m).dropLast, (z :: m).getLast h, by rw [List.dropLast_concat_getLast], by simp⟩
theorem reverse_loop : ∀ (n : Nat) (a m b : List Int), m.length ≤ n → (a ++ (m ++ b)).length < 9223372036854775807 →
    Ev (fun k => slices_Reverse_int.l0 k (a ++ (m ++ b)) (a.length : Int) ((a.length : Int) + (m.length : Int) - 1)) (a ++ (m.reverse ++ b)) := by
  intro n
  induction n with
  | zero =>
    intro a m b hm hl
    obtain rfl : m = [] := List.eq_nil_of_length_eq_zero (by omega)
    refine ev_one fun k => ?_
    simp only [slices_Reverse_int.l0]
    rw [if_neg (by rw [List.length_nil]; omega)]
    rfl
  | succ n ih =>
    intro a m b hm hl
    match m with
    | [] =>
      refine ev_one fun k => ?_
      simp only [slices_Reverse_int.l0]
      rw [if_neg (by rw [List.length_nil]; omega)]
      rfl
    | [x] =>
      refine ev_one fun k => ?_
      simp only [slices_Reverse_int.l0]
      rw [if_neg (by rw [List.length_singleton]; omega)]
      rfl
    | x :: z :: m =>
      obtain ⟨t, y, e, ht⟩ := two_ends x z m
      rw [e] at hm hl ⊢
      simp only [List.length_cons, List.length_append, List.length_nil] at hm hl
      have e1 : a ++ (x :: (t ++ [y]) ++ b) = a ++ x :: (t ++ y :: b) := by simp
      have e2 : a ++ ((x :: (t ++ [y])).reverse ++ b) = (a ++ [y]) ++ (t.reverse ++ x :: b) := by simp
      have e3 : (a.length : Int) + ((x :: (t ++ [y])).length : Int) - 1 = ((a.length + t.length + 1 : Nat) : Int) := by simp; omega
      rw [e1, e2, e3]
      obtain ⟨r1, r2⟩ := turn_rd a t b x y
      refine ev_step (ih (a ++ [y]) t (x :: b) (by omega) (by simp; omega)) fun k hk => ?_
      simp only [slices_Reverse_int.l0]
      rw [if_pos (by omega), if_pos (by omega), if_pos (by simp; omega), if_pos (by omega), if_pos (by simp; omega), r1, r2, Int.toNat_natCast, Int.toNat_natCast, turn_set]
      rw [wrap_succ _ (by omega), wrap_id (by omega) (by omega)]
      have e4 : a ++ y :: (t ++ x :: b) = (a ++ [y]) ++ (t ++ x :: b) := by simp
      have e5 : ((a ++ [y]).length : Int) = ((a.length + 1 : Nat) : Int) := by simp
      rw [e5] at hk
      have e6 : ((a.length + 1 : Nat) : Int) + (t.length : Int) - 1 = ((a.length + t.length + 1 : Nat) : Int) - 1 := by omega
      rw [e6] at hk
      rw [e4]
      exact hk
theorem reverse_ev (l : List Int) (hl : l.length < 9223372036854775807) : Ev (fun k => slices_Reverse_int.f k l) l.reverse := by
  have := reverse_loop l.length [] l [] (Nat.le_refl _) (by simpa using hl)
  simp only [List.nil_append, List.append_nil, List.length_nil] at this
  refine ev_same this fun k hk => ?_
  unfold slices_Reverse_int.f
  rw [wrap_id (by omega) (by omega)]
  have e : ((0 : Nat) : Int) + (l.length : Int) - 1 = (l.length : Int) - 1 := by omega
  rw [e] at hk
  exact hk

/-! row -/
theorem ra_run (f : List Int → List Int) (p : Int → Bool) : ∀ (a run b : List Int), (∀ x ∈ a, p x = true) → ra f p run (a ++ b) = ra f p (run ++ a) b
  | [], run, b, _ => by simp
  | x :: a, run, b, h => by
    simp only [List.cons_append, ra]
    rw [if_pos (h x (by simp)), ra_run f p a (run ++ [x]) b (fun y hy => h y (by simp [hy]))]
    simp
/-- A run, and what stands behind it. -/
theorem row_run (lv : Int → Int) (d : Nat) (L : Int) (run b : List Int) (h : ∀ x ∈ run, lv x > L) (hb : ∀ x t, b = x :: t → lv x ≤ L) :
    rowM lv (d + 1) L (run ++ b) = (rowM lv d (L + 1) run).reverse ++ rowM lv (d + 1) L b := by
  have hr := ra_run (rowM lv d (L + 1)) (fun x => decide (lv x > L)) run [] b (fun x hx => by simpa using h x hx)
  simp only [List.nil_append] at hr
  show ra _ _ [] (run ++ b) = _ ++ ra _ _ [] b
  rw [hr]
  cases b with
  | nil =>
    simp only [ra, row_nil]
    simp
  | cons x t =>
    have hx := hb x t rfl
    simp only [ra]
    rw [if_neg (by simpa using hx), if_neg (by simpa using hx), row_nil]
    simp
theorem row_low (lv : Int → Int) (d : Nat) (L : Int) (x : Int) (b : List Int) (h : lv x ≤ L) : rowM lv d L (x :: b) = x :: rowM lv d L b := by
  have := row_split lv d L x h [] b
  rw [row_nil] at this
  simpa using this
theorem row_len (lv : Int → Int) (d : Nat) (L : Int) (l : List Int) : (rowM lv d L l).length = l.length := (row_perm lv d L l).length_eq

def lvOf (x0 : List Int) (x : Int) : Int := rd x0 x
theorem row_ev (x0 : List Int) (h7 : ∀ x, 0 ≤ x → x < (x0.length : Int) → lvOf x0 x ≤ 127) : ∀ (d : Nat) (L : Int) (at_ : List Int), L + d = 127 → 0 ≤ L → (∀ x ∈ at_, 0 ≤ x ∧ x < (x0.length : Int)) → at_.length < 17592186044416 →
    Ev (fun k => order_row.f k x0 at_ L) (rowM (lvOf x0) d L at_) := by
  intro d
  induction d using Nat.strongRecOn with
  | ind d ihd =>
    intro L at_ hL h0 hm hl
    have hlv : ∀ x ∈ at_, lvOf x0 x ≤ 127 := fun x hx => h7 x (hm x hx).1 (hm x hx).2
    have loop : ∀ (n i : Nat) (acc : List Int), at_.length - i = n → i ≤ at_.length → acc.length = i → Ev (fun k => order_row.l0 k x0 at_ L acc (i : Int)) (acc ++ rowM (lvOf x0) d L (at_.drop i)) := by
      intro n
      induction n using Nat.strongRecOn with
      | ind n ihn =>
        intro i acc hn hi ha
        by_cases hil : i < at_.length
        · have hx := hm _ (rd_mem at_ i hil)
          have hd := drop_cons at_ i hil
          by_cases hlow : rd x0 (rd at_ (i : Int)) ≤ L
          · have e : acc ++ rowM (lvOf x0) d L (at_.drop i) = (acc ++ [rd at_ (i : Int)]) ++ rowM (lvOf x0) d L (at_.drop (i + 1)) := by
              rw [hd, row_low (lvOf x0) d L _ _ hlow]
              simp
            rw [e]
            refine ev_step (ihn (at_.length - (i + 1)) (by omega) (i + 1) (acc ++ [rd at_ (i : Int)]) rfl (by omega) (by simp [ha])) fun k hk => ?_
            simp only [order_row.l0]
            rw [if_pos (by omega), if_pos (by omega), if_pos hx.1, if_pos hx.2, if_pos hlow, if_pos (by omega), wrap_succ i (by omega)]
            exact hk
          · have hstop : ∀ j : Nat, i < j → j ≤ at_.length → (∀ q : Nat, i ≤ q → q < j → rd x0 (rd at_ (q : Int)) > L) → (j < at_.length → rd x0 (rd at_ (j : Int)) ≤ L) →
                Ev (fun k => (order_row.f k x0 ((at_.take ((j : Int)).toNat).drop ((i : Int)).toNat) (wrap64 (L + 1))).bind fun t122 => (slices_Reverse_int.f k t122).bind fun t125 => if acc.length + t125.length < 17592186044416 then order_row.l0 k x0 at_ L (acc ++ t125) (j : Int) else none) (acc ++ rowM (lvOf x0) d L (at_.drop i)) := by
              intro j hij hj hq hend
              have hsp : at_.drop i = (at_.take j).drop i ++ at_.drop j := by
                conv => lhs; rw [← List.take_append_drop j at_]
                rw [List.drop_append_of_le_length (by simp; omega)]
              have hrun : ∀ x ∈ (at_.take j).drop i, lvOf x0 x > L := fun x hx => by
                obtain ⟨q, hql, e⟩ := List.getElem_of_mem hx
                rw [List.length_drop, List.length_take] at hql
                rw [List.getElem_drop, List.getElem_take] at e
                have := hq (i + q) (by omega) (by omega)
                rw [rd_get at_ (i + q) (by omega), e] at this
                exact this
              have hmr : ∀ x ∈ (at_.take j).drop i, x ∈ at_ := fun x hx => List.mem_of_mem_take (List.mem_of_mem_drop hx)
              have hlr : ((at_.take j).drop i).length = j - i := by
                rw [List.length_drop, List.length_take]
                omega
              match d, ihd, ihn with
              | 0, _, _ =>
                have := hlv _ (rd_mem at_ i hil)
                have h2 : lvOf x0 (rd at_ (i : Int)) > L := by
                  unfold lvOf
                  omega
                omega
              | d + 1, ihd, ihn =>
                rw [Int.toNat_natCast, Int.toNat_natCast, wrap_id (by omega) (by omega)]
                rw [hsp, row_run (lvOf x0) d L _ _ hrun (fun x t ht => by
                  have hjl : j < at_.length := by
                    rcases Nat.lt_or_ge j at_.length with h | h
                    · exact h
                    · rw [List.drop_eq_nil_of_le h] at ht
                      cases ht
                  rw [drop_cons at_ j hjl] at ht
                  injection ht with h1 h2
                  rw [← h1]
                  exact hend hjl)]
                have hrl := row_len (lvOf x0) d (L + 1) ((at_.take j).drop i)
                refine ev_same3 (ihd d (by omega) (L + 1) ((at_.take j).drop i) (by omega) (by omega) (fun x hx => hm x (hmr x hx)) (by omega)) (reverse_ev (rowM (lvOf x0) d (L + 1) ((at_.take j).drop i)) (by omega))
                  (ihn (at_.length - j) (by omega) j (acc ++ (rowM (lvOf x0) d (L + 1) ((at_.take j).drop i)).reverse) rfl hj (by simp only [List.length_append, List.length_reverse]; omega)) fun k h1 h2 h3 => ?_
                rw [h1, Option.bind_some, h2, Option.bind_some, if_pos (by simp only [List.length_reverse]; omega), h3, List.append_assoc]
            have inner : ∀ (e j : Nat), at_.length - j = e → i ≤ j → j ≤ at_.length → (∀ q : Nat, i ≤ q → q < j → rd x0 (rd at_ (q : Int)) > L) → Ev (fun k => order_row.l1 k x0 at_ L acc (i : Int) (j : Int)) (acc ++ rowM (lvOf x0) d L (at_.drop i)) := by
              intro e
              induction e with
              | zero =>
                intro j he hij hj hq
                refine ev_step (hstop j (by omega) hj hq (fun h => by omega)) fun k hk => ?_
                simp only [order_row.l1]
                rw [if_neg (by omega), if_pos (by omega), if_pos (by omega), if_pos (by omega)]
                exact hk
              | succ e ihe =>
                intro j he hij hj hq
                have hxj := hm _ (rd_mem at_ j (by omega))
                by_cases hh : rd x0 (rd at_ (j : Int)) > L
                · refine ev_step (ihe (j + 1) (by omega) (by omega) (by omega) (fun q h1 h2 => by
                    by_cases h3 : q = j
                    · rw [h3]
                      exact hh
                    · exact hq q h1 (by omega))) fun k hk => ?_
                  simp only [order_row.l1]
                  rw [if_pos (by omega), if_pos (by omega), if_pos hxj.1, if_pos hxj.2, if_pos hh, wrap_succ j (by omega)]
                  exact hk
                · have hne : i ≠ j := fun h => by
                    rw [← h] at hh
                    omega
                  refine ev_step (hstop j (by omega) hj hq (fun h => by omega)) fun k hk => ?_
                  simp only [order_row.l1]
                  rw [if_pos (by omega), if_pos (by omega), if_pos hxj.1, if_pos hxj.2, if_neg hh, if_pos (by omega), if_pos (by omega), if_pos (by omega)]
                  exact hk
            refine ev_step (inner (at_.length - i) i rfl (Nat.le_refl _) hi (fun q h1 h2 => by omega)) fun k hk => ?_
            simp only [order_row.l0]
            rw [if_pos (by omega), if_pos (by omega), if_pos hx.1, if_pos hx.2, if_neg hlow]
            exact hk
        · rw [List.drop_eq_nil_of_le (by omega), row_nil, List.append_nil]
          refine ev_one fun k => ?_
          simp only [order_row.l0]
          rw [if_neg (by omega)]
    have h := loop at_.length 0 [] (by omega) (by omega) rfl
    simp only [List.drop_zero, List.nil_append] at h
    refine ev_step h fun k hk => ?_
    simp only [order_row.f]
    exact hk

/-! Of -/
theorem fill_set (l : List Int) (i : Nat) (h : i < l.length) : (l.take i ++ List.replicate (l.length - i) (0 : Int)).set i (rd l (i : Int)) = l.take (i + 1) ++ List.replicate (l.length - (i + 1)) 0 := by
  have e : l.length - i = (l.length - (i + 1)) + 1 := by omega
  have hl : (l.take i).length = i := by
    rw [List.length_take]
    omega
  rw [e, List.replicate_succ, List.take_succ_eq_append_getElem h, rd_get l i h]
  apply List.ext_getElem?
  intro j
  simp only [List.getElem?_set, List.getElem?_append, List.getElem?_cons, List.length_append, List.length_cons, hl, List.length_nil]
  repeat' split
  all_goals first | rfl | omega | skip
  all_goals simp_all
  all_goals omega
def clampL (x : Int) : Int := mn 127 (mx 0 x)
theorem clampL_bd (x : Int) : 0 ≤ clampL x ∧ clampL x ≤ 127 := by
  unfold clampL mn mx
  omega
theorem rd_clamp (l : List Int) (x : Int) : rd (l.map clampL) x = clampL (rd l x) := by
  unfold rd
  rw [List.getD_eq_getElem?_getD, List.getD_eq_getElem?_getD, List.getElem?_map]
  cases l[x.toNat]? with
  | none => rfl
  | some y => rfl
/-- Levels' order. -/
def ordM (levels : List Int) : List Int := downM (fun x => rd levels x) 127 (rng levels.length)
theorem ordM_perm (levels : List Int) : (ordM levels).Perm (rng levels.length) := down_perm _ _ _
theorem ordM_len (levels : List Int) : (ordM levels).length = levels.length := by
  rw [(ordM_perm levels).length_eq, rng_len]
theorem ord_clamp (levels l : List Int) (d : Nat) (hd : d ≤ 127) : downM (fun x => rd levels x) d l = downM (lvOf (levels.map clampL)) d l := by
  refine down_congr _ _ (fun x m h1 h2 => ?_) d l hd
  show rd levels x ≥ (m : Int) ↔ rd (levels.map clampL) x ≥ (m : Int)
  rw [rd_clamp]
  unfold clampL mn mx
  omega
theorem of_loop (levels : List Int) (hl : levels.length < 17592186044416) (d : Nat) : ∀ (i : Nat), i ≤ levels.length → levels.length - i = d →
    Ev (fun k => order_Of.l0 k ((rng levels.length).take i ++ List.replicate (levels.length - i) 0) ((levels.map clampL).take i ++ List.replicate (levels.length - i) 0) levels (levels.length : Int) (i : Int)) (ordM levels) := by
  induction d with
  | zero =>
    intro i hi hd
    obtain rfl : i = levels.length := by omega
    have e1 : (rng levels.length).take levels.length ++ List.replicate (levels.length - levels.length) 0 = rng levels.length := by
      rw [Nat.sub_self, List.replicate_zero, List.append_nil, List.take_of_length_le (by rw [rng_len]; omega)]
    have e2 : (levels.map clampL).take levels.length ++ List.replicate (levels.length - levels.length) 0 = levels.map clampL := by
      rw [Nat.sub_self, List.replicate_zero, List.append_nil, List.take_of_length_le (by simp)]
    rw [e1, e2]
    have hr := row_ev (levels.map clampL) (fun x _ _ => by
      unfold lvOf
      rw [rd_clamp]
      exact (clampL_bd _).2) 127 0 (rng levels.length) (by omega) (by omega) (fun x hx => by
        have := (rng_mem _ _).1 hx
        simpa using this) (by rw [rng_len]; exact hl)
    have e3 : ordM levels = rowM (lvOf (levels.map clampL)) 127 0 (rng levels.length) := by
      unfold ordM
      rw [ord_clamp levels _ 127 (Nat.le_refl _), down_ref, ref_row]
    rw [e3]
    refine ev_step hr fun k hk => ?_
    simp only [order_Of.l0]
    rw [if_neg (by omega), hk]
    rfl
  | succ d ih =>
    intro i hi hd
    refine ev_step (ih (i + 1) (by omega) (by omega)) fun k hk => ?_
    simp only [order_Of.l0]
    have e1 := fill_set (rng levels.length) i (by rw [rng_len]; omega)
    rw [rng_len, rng_rd _ _ (by omega)] at e1
    have e2 := fill_set (levels.map clampL) i (by rw [List.length_map]; omega)
    rw [List.length_map, rd_clamp] at e2
    have e3 : mn 127 (mx 0 (rd levels (i : Int))) = clampL (rd levels (i : Int)) := rfl
    rw [if_pos (by omega), if_pos (by omega), if_pos (by omega), if_pos (by simp [rng_len]; omega), if_pos (by simp; omega), Int.toNat_natCast, e3, e1, e2, wrap_succ i (by omega)]
    exact hk
theorem of_ev (levels : List Int) (hl : levels.length < 17592186044416) : Ev (fun k => order_Of.f k levels) (ordM levels) := by
  have h := of_loop levels hl levels.length 0 (by omega) (by omega)
  simp only [List.take_zero, List.nil_append, Nat.sub_zero] at h
  refine ev_same h fun k hk => ?_
  unfold order_Of.f
  rw [if_pos (by omega), Int.toNat_natCast, if_pos (by omega)]
  exact hk

/-! Right, Back -/
theorem right_f (l : List Int) (hl : l.length < 17592186044416) (hw : ∀ x ∈ l, (Lit.int .i64 x).wf = true) : order_Right.f l = some (rightL l) := by
  unfold order_Right.f
  rw [if_pos ⟨hl, List.all_eq_true.2 hw⟩]
theorem wf_small {x : Int} (h0 : -9223372036854775808 ≤ x) (h1 : x ≤ 9223372036854775807) : (Lit.int .i64 x).wf = true := by
  have hmin : IntKind.i64.min = -9223372036854775808 := rfl
  have hmax : IntKind.i64.max = 9223372036854775807 := rfl
  simp only [Lit.wf, Bool.and_eq_true, decide_eq_true_eq]
  omega
theorem perm_wf {l : List Int} {n : Nat} (h : l.Perm (rng n)) (hn : n < 17592186044416) : ∀ x ∈ l, (Lit.int .i64 x).wf = true := fun x hx => by
  have := (rng_mem n x).1 (h.mem_iff.1 hx)
  exact wf_small (by omega) (by omega)
theorem right_wf {l : List Int} (h : rightL l = true) (hn : l.length < 17592186044416) : ∀ x ∈ l, (Lit.int .i64 x).wf = true := fun x hx => by
  have := ((rightL_iff l).1 h).2 x hx
  exact wf_small (by omega) (by omega)
theorem back_loop (l : List Int) (hl : l.length < 17592186044416) (hr : rightL l = true) (d : Nat) : ∀ (i : Nat) (acc : List Int), i ≤ l.length → l.length - i = d → acc.length = l.length →
    Ev (fun k => order_Back.l0 k acc l (l.length : Int) (i : Int)) (backL i acc (l.drop i), 0) := by
  induction d with
  | zero =>
    intro i acc hi hd ha
    refine ev_one fun k => ?_
    simp only [order_Back.l0]
    rw [if_neg (by omega), List.drop_eq_nil_of_le (by omega)]
    rfl
  | succ d ih =>
    intro i acc hi hd ha
    have hx := ((rightL_iff l).1 hr).2 _ (rd_mem l i (by omega))
    refine ev_step (ih (i + 1) (acc.set (rd l (i : Int)).toNat (i : Int)) (by omega) (by omega) (by simp [ha])) fun k hk => ?_
    simp only [order_Back.l0]
    rw [if_pos (by omega), if_pos (by omega), if_pos (by omega), if_pos hx.1, if_pos (by omega), wrap_succ i (by omega), drop_cons l i (by omega)]
    exact hk
/-- Where each number stands; or that it isn't one there. -/
def backM (l : List Int) : List Int × Int := if rightL l = true then (backOf l, 0) else ([], 1)
theorem back_ev (l : List Int) (hl : l.length < 17592186044416) (hw : ∀ x ∈ l, (Lit.int .i64 x).wf = true) : Ev (fun k => order_Back.f k l) (backM l) := by
  by_cases hr : rightL l = true
  · have h := back_loop l hl hr l.length 0 (List.replicate l.length 0) (by omega) (by omega) (by simp)
    refine ev_same h fun k hk => ?_
    unfold order_Back.f backM
    rw [right_f l hl hw, Option.bind_some, if_pos hr, if_pos hr, if_pos (by omega), Int.toNat_natCast, if_pos (by omega)]
    exact hk
  · refine ev_now fun k => ?_
    unfold order_Back.f backM
    rw [right_f l hl hw, Option.bind_some, if_neg hr, if_neg hr]
end Go.Proofs.Ytcmcajjdcbkfkaa.P
