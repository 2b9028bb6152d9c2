/- Proved: what one walk over the characters' classes tells of lists joined, closed, and robbed of what no walk sees; plain Lean, no condition but what each line says. -/
import Derived.Test.YtpgpckglgkichaaPEv
import Derived.Test.YtpgpckglgkichaaSClose
import Derived.Test.YtpgpckglgkichaaSCtl
import Derived.Test.YtpgpckglgkichaaPx3
namespace Go.Proofs.Ytpgpckglgkichaa.P
open Go.RowKit Go.Proofs.YtpgpckglgkichaaW.PrintWords Go.Proofs.YtpgpckglgkichaaW.PrintLast Go.Proofs.YtpgpckglgkichaaW.PrintMore
set_option linter.unusedVariables false
set_option linter.unusedSimpArgs false

theorem closer_18 : closerK 18 = -1 := by decide
theorem closer_22 : closerK 22 = -1 := by decide
theorem closer_10 : closerK 10 = -1 := by decide
theorem closer_or (k : Int) : closerK k = -1 ∨ closerK k = 18 ∨ closerK k = 22 := by
  unfold closerK
  split
  · exact .inr (.inl rfl)
  · split
    · exact .inr (.inr rfl)
    · exact .inl rfl
theorem cls_8236 : cls 8236 = 18 := by decide +kernel
theorem cls_8297 : cls 8297 = 22 := by decide +kernel
/-- Does a walk see the character? -/
def nn (c : Int) : Bool := opc c || decide (cls c = 10)
theorem step_skip (op : List Int) (m k : Int) (h1 : closerK k = -1) (h2 : k ≠ 10) (h3 : ¬ (k = 18 ∨ k = 22)) : stepM op m k = (true, op, m) := by
  unfold stepM
  rw [if_neg (by simpa using h1), if_neg h2, if_neg h3]
theorem opc_false {c : Int} (h : opc c = false) : closerK (cls c) = -1 ∧ ¬ (cls c = 18 ∨ cls c = 22) := by
  unfold opc opcK at h
  simpa using h
theorem nn_step (op : List Int) (m c : Int) (h : nn c = false) : stepM op m (cls c) = (true, op, m) := by
  unfold nn at h
  simp only [Bool.or_eq_false_iff, decide_eq_false_iff_not] at h
  have h1 := opc_false h.1
  exact step_skip op m _ h1.1 h.2 h1.2
/-- What a walk answers, without the place. -/
def core (t : List Int × Int × Int) : List Int × Int × Bool := (t.1, t.2.1, decide (t.2.2 = -1))
theorem nat_ne (i : Nat) : decide ((i : Int) = -1) = false := by
  rw [decide_eq_false_iff_not]
  omega
theorem core_end (i j : Nat) (op : List Int) (m : Int) : core (walkM i op m []) = core (walkM j op m []) := by
  have e : ∀ i : Nat, walkM i op m [] = (op, m, if op = [] then -1 else (i : Int)) := fun _ => rfl
  rw [e, e]
  by_cases h : op = []
  · rw [if_pos h, if_pos h]
  · rw [if_neg h, if_neg h]
    show (op, m, decide ((i : Int) = -1)) = (op, m, decide ((j : Int) = -1))
    rw [nat_ne, nat_ne]
theorem core_filter : ∀ (l : List Int) (i j : Nat) (op : List Int) (m : Int), core (walkM i op m (l.filter nn)) = core (walkM j op m l)
  | [], i, j, op, m => core_end i j op m
  | c :: l, i, j, op, m => by
    by_cases h : nn c = true
    · rw [List.filter_cons_of_pos h]
      simp only [walkM]
      by_cases hs : (stepM op m (cls c)).1 = true
      · rw [if_pos hs, if_pos hs]
        exact core_filter l _ _ _ _
      · rw [if_neg hs, if_neg hs]
        simp only [core]
        rw [nat_ne, nat_ne]
    · rw [List.filter_cons_of_neg h]
      rw [Bool.not_eq_true] at h
      have e := nn_step op m c h
      have e2 : walkM j op m (c :: l) = walkM (j + 1) op m l := by
        simp only [walkM]
        rw [e, if_pos rfl]
      rw [e2]
      exact core_filter l _ _ _ _
theorem core_same (l l2 : List Int) (h : l.filter nn = l2.filter nn) : core (walkM 0 [] 0 l) = core (walkM 0 [] 0 l2) := by
  rw [← core_filter l 0 0 [] 0, h, core_filter l2 0 0 [] 0]

/-- A walk that must be right to the end. -/
def runM : List Int → Int → List Int → Option (List Int × Int)
  | op, m, [] => some (op, m)
  | op, m, c :: l => if (stepM op m (cls c)).1 = true then runM (stepM op m (cls c)).2.1 (stepM op m (cls c)).2.2 l else none
theorem run_app : ∀ (l l2 : List Int) (op : List Int) (m : Int), runM op m (l ++ l2) = (runM op m l).bind fun s => runM s.1 s.2 l2
  | [], _, _, _ => rfl
  | c :: l, l2, op, m => by
    simp only [List.cons_append, runM]
    by_cases hs : (stepM op m (cls c)).1 = true
    · rw [if_pos hs, if_pos hs]
      exact run_app l l2 _ _
    · rw [if_neg hs, if_neg hs]
      rfl
theorem walk_run : ∀ (l : List Int) (i : Nat) (op : List Int) (m : Int) (s : List Int × Int), runM op m l = some s → walkM i op m l = (s.1, s.2, if s.1 = [] then -1 else ((i + l.length : Nat) : Int))
  | [], i, op, m, s, h => by
    obtain rfl : (op, m) = s := Option.some.inj h
    rfl
  | c :: l, i, op, m, s, h => by
    simp only [runM] at h
    simp only [walkM]
    by_cases hs : (stepM op m (cls c)).1 = true
    · rw [if_pos hs] at h
      rw [if_pos hs, walk_run l _ _ _ s h, List.length_cons, Nat.add_assoc, Nat.add_comm 1]
    · rw [if_neg hs] at h
      cases h
theorem step_stop (op : List Int) (m k : Int) (h : ¬ (stepM op m k).1 = true) : (stepM op m k).2 = (op, m) := by
  unfold stepM at h ⊢
  by_cases h1 : closerK k ≠ -1
  · rw [if_pos h1] at h
    exact (h rfl).elim
  · rw [if_neg h1] at h ⊢
    by_cases h2 : k = 10
    · rw [if_pos h2]
    · rw [if_neg h2] at h ⊢
      by_cases h3 : k = 18 ∨ k = 22
      · rw [if_pos h3] at h ⊢
        by_cases h4 : op ≠ [] ∧ rd op ((op.length - 1 : Nat) : Int) = k
        · rw [if_pos h4] at h
          exact (h rfl).elim
        · rw [if_neg h4]
      · rw [if_neg h3]
theorem walk_stop : ∀ (l : List Int) (i : Nat) (op : List Int) (m : Int), runM op m l = none → ∃ (q : Nat) (a : List Int) (b : Int), q < l.length ∧ walkM i op m l = (a, b, ((i + q : Nat) : Int)) ∧ runM op m (l.take q) = some (a, b)
  | [], i, op, m, h => by cases h
  | c :: l, i, op, m, h => by
    simp only [runM] at h
    simp only [walkM]
    by_cases hs : (stepM op m (cls c)).1 = true
    · rw [if_pos hs] at h
      obtain ⟨q, a, b, h1, h2, h3⟩ := walk_stop l (i + 1) _ _ h
      refine ⟨q + 1, a, b, by simp only [List.length_cons]; omega, ?_, ?_⟩
      · rw [if_pos hs, h2, Nat.add_assoc, Nat.add_comm 1]
      · rw [List.take_succ_cons]
        simp only [runM]
        rw [if_pos hs, h3]
    · have e := step_stop op m _ hs
      refine ⟨0, op, m, by simp, ?_, rfl⟩
      rw [if_neg hs, e]
      rfl
theorem walk_stays : ∀ (l l2 : List Int) (i : Nat) (op : List Int) (m : Int), runM op m l = none → walkM i op m (l ++ l2) = walkM i op m l
  | [], _, _, _, _, h => by cases h
  | c :: l, l2, i, op, m, h => by
    simp only [runM] at h
    simp only [walkM, List.cons_append]
    by_cases hs : (stepM op m (cls c)).1 = true
    · rw [if_pos hs] at h
      rw [if_pos hs, if_pos hs]
      exact walk_stays l l2 _ _ _ h
    · rw [if_neg hs, if_neg hs]
theorem mx_le {a b c : Int} (h1 : a ≤ c) (h2 : b ≤ c) : mx a b ≤ c := by
  unfold mx
  split <;> omega
theorem le_mx1 (a b : Int) : a ≤ mx a b := by
  unfold mx
  split <;> omega
theorem le_mx2 (a b : Int) : b ≤ mx a b := by
  unfold mx
  split <;> omega
theorem mem_take' {x : Int} {n : Nat} {l : List Int} (h : x ∈ l.take n) : x ∈ l := List.mem_of_mem_take h
/-- What one class can do. -/
theorem step_bnd (op : List Int) (m c : Int) (D : Int) (hD : m ≤ D) (ho : (op.length : Int) + (if opc c = true then 1 else 0) ≤ D) (hm : ∀ x ∈ op, x = 18 ∨ x = 22) :
    m ≤ (stepM op m (cls c)).2.2 ∧ (stepM op m (cls c)).2.2 ≤ D ∧ ((stepM op m (cls c)).2.1.length : Int) ≤ (op.length : Int) + (if opc c = true then 1 else 0) ∧ ∀ x ∈ (stepM op m (cls c)).2.1, x = 18 ∨ x = 22 := by
  unfold stepM
  by_cases h1 : closerK (cls c) ≠ -1
  · have e : opc c = true := by
      unfold opc opcK
      rw [decide_eq_true h1, Bool.true_or]
    rw [if_pos h1]
    rw [if_pos e] at ho ⊢
    refine ⟨le_mx1 _ _, mx_le hD ho, by simp, fun x hx => ?_⟩
    rcases List.mem_append.1 hx with h | h
    · exact hm x h
    · obtain rfl := List.mem_singleton.1 h
      rcases closer_or (cls c) with h | h | h
      · exact (h1 h).elim
      · exact .inl h
      · exact .inr h
  · rw [if_neg h1]
    have hnn : (0 : Int) ≤ (if opc c = true then 1 else 0) := by split <;> omega
    by_cases h2 : cls c = 10
    · rw [if_pos h2]
      exact ⟨Int.le_refl _, hD, by dsimp only; omega, hm⟩
    · rw [if_neg h2]
      by_cases h3 : cls c = 18 ∨ cls c = 22
      · rw [if_pos h3]
        by_cases h4 : op ≠ [] ∧ rd op ((op.length - 1 : Nat) : Int) = cls c
        · rw [if_pos h4]
          refine ⟨Int.le_refl _, hD, ?_, fun x hx => hm x (mem_take' hx)⟩
          dsimp only
          rw [List.length_take]
          omega
        · rw [if_neg h4]
          exact ⟨Int.le_refl _, hD, by dsimp only; omega, hm⟩
      · rw [if_neg h3]
        exact ⟨Int.le_refl _, hD, by dsimp only; omega, hm⟩
theorem cnt_cons (c : Int) (l : List Int) : (((c :: l).filter opc).length : Int) = (if opc c = true then 1 else 0) + ((l.filter opc).length : Int) := by
  by_cases h : opc c = true
  · rw [List.filter_cons_of_pos h, if_pos h, List.length_cons]
    omega
  · rw [List.filter_cons_of_neg h, if_neg h]
    omega
theorem walk_bnd : ∀ (l : List Int) (i : Nat) (op : List Int) (m D : Int), m ≤ D → (op.length : Int) + ((l.filter opc).length : Int) ≤ D → (∀ x ∈ op, x = 18 ∨ x = 22) →
    m ≤ (walkM i op m l).2.1 ∧ (walkM i op m l).2.1 ≤ D ∧ ∀ x ∈ (walkM i op m l).1, x = 18 ∨ x = 22
  | [], _, op, m, D, h, _, hm => ⟨Int.le_refl _, h, hm⟩
  | c :: l, i, op, m, D, h, ho, hm => by
    rw [cnt_cons] at ho
    obtain ⟨s1, s2, s3, s4⟩ := step_bnd op m c D h (by omega) hm
    simp only [walkM]
    by_cases hs : (stepM op m (cls c)).1 = true
    · rw [if_pos hs]
      obtain ⟨r1, r2, r3⟩ := walk_bnd l (i + 1) _ _ D s2 (by omega) s4
      exact ⟨by omega, r2, r3⟩
    · rw [if_neg hs]
      exact ⟨s1, s2, s4⟩
theorem rd_last (p : List Int) (x : Int) : rd (p ++ [x]) (((p ++ [x]).length - 1 : Nat) : Int) = x := by
  rw [rd_get _ _ (by simp)]
  simp
theorem step_close (p : List Int) (x m : Int) (hx : x = 18 ∨ x = 22) : stepM (p ++ [x]) m x = (true, p, m) := by
  unfold stepM
  have h1 : closerK x = -1 := by
    rcases hx with rfl | rfl
    · exact closer_18
    · exact closer_22
  have h2 : x ≠ 10 := by omega
  rw [if_neg (by simpa using h1), if_neg h2, if_pos hx, if_pos ⟨by simp, rd_last p x⟩]
  simp
theorem cls_sgn {x : Int} (hx : x = 18 ∨ x = 22) : cls (sgn x) = x := by
  rcases hx with rfl | rfl
  · exact cls_8236
  · exact cls_8297
theorem run_close (d : Nat) : ∀ (op : List Int) (m : Int), op.length = d → (∀ x ∈ op, x = 18 ∨ x = 22) → runM op m (op.reverse.map sgn) = some ([], m) := by
  induction d with
  | zero =>
    intro op m hd _
    obtain rfl := List.length_eq_zero_iff.1 hd
    rfl
  | succ d ih =>
    intro op m hd hm
    rcases List.eq_nil_or_concat op with rfl | ⟨p, x, rfl⟩
    · cases hd
    · rw [List.concat_eq_append] at hd hm ⊢
      have hx := hm x (by simp)
      rw [List.reverse_append, List.reverse_singleton, List.singleton_append, List.map_cons]
      simp only [runM]
      rw [cls_sgn hx, step_close p x m hx, if_pos rfl]
      exact ih p m (by simpa using hd) fun y hy => hm y (by simp [hy])
/-- Where it stops, all before is right. -/
theorem walk_take (l : List Int) : ∃ (a : List Int) (b : Int) (q : Nat), q ≤ l.length ∧ walkM 0 [] 0 l = (a, b, (walkM 0 [] 0 l).2.2) ∧ runM [] 0 (l.take q) = some (a, b) ∧ ((q = l.length ∧ runM [] 0 l = some (a, b) ∧ (walkM 0 [] 0 l).2.2 = if a = [] then -1 else (q : Int)) ∨ (runM [] 0 l = none ∧ (walkM 0 [] 0 l).2.2 = (q : Int) ∧ q < l.length)) := by
  cases h : runM [] 0 l with
  | none =>
    obtain ⟨q, a, b, h1, h2, h3⟩ := walk_stop l 0 [] 0 h
    rw [Nat.zero_add] at h2
    exact ⟨a, b, q, Nat.le_of_lt h1, by rw [h2], h3, .inr ⟨rfl, by rw [h2], h1⟩⟩
  | some s =>
    have h2 := walk_run l 0 [] 0 s h
    rw [Nat.zero_add] at h2
    exact ⟨s.1, s.2, l.length, Nat.le_refl _, by rw [h2], by rw [List.take_length]; exact h, .inl ⟨rfl, rfl, by rw [h2]⟩⟩
theorem close_run (l : List Int) : ∃ m : Int, runM [] 0 (closeM l) = some ([], m) ∧ 0 ≤ m ∧ m ≤ (l.length : Int) ∧ (walkM 0 [] 0 l).2.1 = m := by
  obtain ⟨a, b, q, hq, hw, hr, hc⟩ := walk_take l
  have hb := walk_bnd l 0 [] 0 (l.length : Int) (by omega) (by have := List.length_filter_le opc l; simp; omega) (by simp)
  rw [hw] at hb
  dsimp only at hb
  refine ⟨b, ?_, hb.1, hb.2.1, by rw [hw]⟩
  unfold closeM
  by_cases h1 : (walkM 0 [] 0 l).2.2 = -1
  · rw [if_pos h1]
    rcases hc with ⟨h2, h3, h4⟩ | ⟨_, h3, _⟩
    · rw [h3]
      by_cases ha : a = []
      · rw [ha]
      · rw [if_neg ha] at h4
        omega
    · omega
  · rw [if_neg h1]
    have e : (walkM 0 [] 0 l).2.2 = (q : Int) ∧ (walkM 0 [] 0 l).1 = a := by
      refine ⟨?_, by rw [hw]⟩
      rcases hc with ⟨h2, h3, h4⟩ | ⟨_, h3, _⟩
      · by_cases ha : a = []
        · rw [if_pos ha] at h4
          exact (h1 h4).elim
        · rw [if_neg ha] at h4
          exact h4
      · exact h3
    rw [e.1, e.2, Int.toNat_natCast, run_app, hr, Option.bind_some]
    exact run_close a.length a b rfl hb.2.2
theorem close_len (l : List Int) : (closeM l).length ≤ 2 * l.length := by
  unfold closeM
  split
  · omega
  · have h := walkM_len l 0 [] 0
    simp only [List.length_append, List.length_take, List.length_map, List.length_reverse, List.length_nil] at h ⊢
    omega
theorem right_run {l : List Int} {m : Int} (h : runM [] 0 l = some ([], m)) : walkM 0 [] 0 l = ([], m, -1) := by
  rw [walk_run l 0 [] 0 _ h]
  rfl
theorem mx_mx_add (M m a p : Int) : mx (mx M (p + m)) (p + a) = mx M (p + mx m a) := by
  unfold mx
  repeat' split
  all_goals omega
theorem rd_app_last (p op : List Int) (h : op ≠ []) : rd (p ++ op) (((p ++ op).length - 1 : Nat) : Int) = rd op ((op.length - 1 : Nat) : Int) := by
  rcases List.eq_nil_or_concat op with rfl | ⟨q, x, rfl⟩
  · exact (h rfl).elim
  · rw [List.concat_eq_append, ← List.append_assoc, rd_last, rd_last]
/-- The same walk, with more open below. -/
theorem step_shift (p op : List Int) (m M c : Int) (hb : cls c ≠ 10 ∨ p = []) (h : (stepM op m (cls c)).1 = true) :
    stepM (p ++ op) (mx M ((p.length : Int) + m)) (cls c) = (true, p ++ (stepM op m (cls c)).2.1, mx M ((p.length : Int) + (stepM op m (cls c)).2.2)) := by
  unfold stepM at h ⊢
  by_cases h1 : closerK (cls c) ≠ -1
  · simp only [if_pos h1]
    rw [List.append_assoc, List.length_append]
    have e := mx_mx_add M m ((op.length : Int) + 1) (p.length : Int)
    rw [← e]
    congr 3
  · simp only [if_neg h1] at h ⊢
    by_cases h2 : cls c = 10
    · simp only [if_pos h2] at h ⊢
      rcases hb with hb | rfl
      · exact (hb h2).elim
      · simpa using h
    · simp only [if_neg h2] at h ⊢
      by_cases h3 : cls c = 18 ∨ cls c = 22
      · simp only [if_pos h3] at h ⊢
        by_cases h4 : op ≠ [] ∧ rd op ((op.length - 1 : Nat) : Int) = cls c
        · have h5 : p ++ op ≠ [] ∧ rd (p ++ op) (((p ++ op).length - 1 : Nat) : Int) = cls c := ⟨by simp [h4.1], by rw [rd_app_last p op h4.1]; exact h4.2⟩
          rw [if_pos h4, if_pos h5]
          have hl : 0 < op.length := List.length_pos_iff.2 h4.1
          have e : (p ++ op).take ((p ++ op).length - 1) = p ++ op.take (op.length - 1) := by
            rw [List.length_append, show p.length + op.length - 1 = p.length + (op.length - 1) from by omega, List.take_length_add_append]
          rw [e]
        · rw [if_neg h4] at h
          cases h
      · simp only [if_neg h3]
theorem run_shift : ∀ (l p op : List Int) (m M : Int) (s : List Int × Int), ((∀ c ∈ l, cls c ≠ 10) ∨ p = []) → runM op m l = some s → runM (p ++ op) (mx M ((p.length : Int) + m)) l = some (p ++ s.1, mx M ((p.length : Int) + s.2))
  | [], p, op, m, M, s, _, h => by
    obtain rfl : (op, m) = s := Option.some.inj h
    rfl
  | c :: l, p, op, m, M, s, hb, h => by
    simp only [runM] at h ⊢
    by_cases hs : (stepM op m (cls c)).1 = true
    · rw [if_pos hs] at h
      rw [step_shift p op m M c (hb.imp (fun h => h c (by simp)) id) hs, if_pos rfl]
      exact run_shift l p _ _ M s (hb.imp (fun h x hx => h x (by simp [hx])) id) h
    · rw [if_neg hs] at h
      cases h
theorem mx_left {a b : Int} (h : b ≤ a) : mx a b = a := by
  unfold mx
  rw [if_neg (by omega)]
/-- Two that are right, one behind the other. -/
theorem run_join (a b : List Int) (m n : Int) (h0 : 0 ≤ m) (ha : runM [] 0 a = some ([], m)) (hb : runM [] 0 b = some ([], n)) : runM [] 0 (a ++ b) = some ([], mx m n) := by
  rw [run_app, ha, Option.bind_some]
  have h := run_shift b [] [] 0 m _ (.inr rfl) hb
  simp only [List.nil_append, List.length_nil, Int.natCast_zero, Int.zero_add] at h
  rw [mx_left h0] at h
  exact h
/-- One behind the other, the second between what opens and what closes. -/
theorem run_in (a b : List Int) (m n o : Int) (h0 : 0 ≤ m) (ha : runM [] 0 a = some ([], m)) (hb : runM [] 0 b = some ([], n)) (hn : ∀ c ∈ b, cls c ≠ 10) (ho : closerK (cls o) ≠ -1) :
    runM [] 0 (a ++ [o] ++ b) = some ([closerK (cls o)], mx (mx m 1) (1 + n)) := by
  rw [run_app, run_app, ha, Option.bind_some]
  have e : runM [] m [o] = some ([closerK (cls o)], mx m 1) := by
    simp only [runM]
    unfold stepM
    rw [if_pos ho]
    rfl
  dsimp only
  rw [e, Option.bind_some]
  have h := run_shift b [closerK (cls o)] [] 0 (mx m 1) _ (.inl hn) hb
  simp only [List.append_nil, List.length_singleton, Int.natCast_one, Int.add_zero] at h
  rw [mx_left (le_mx2 m 1)] at h
  exact h
/-- .. and closed. -/
theorem run_in_close (a b : List Int) (m n o x : Int) (h0 : 0 ≤ m) (h1 : 0 ≤ n) (ha : runM [] 0 a = some ([], m)) (hb : runM [] 0 b = some ([], n)) (hn : ∀ c ∈ b, cls c ≠ 10) (ho : closerK (cls o) = cls x) (hx : cls x = 18 ∨ cls x = 22) :
    runM [] 0 (a ++ [o] ++ b ++ [x]) = some ([], mx m (1 + n)) := by
  rw [run_app, run_in a b m n o h0 ha hb hn (by omega), Option.bind_some]
  simp only [runM]
  rw [ho, show ([cls x] : List Int) = [] ++ [cls x] from rfl, step_close [] (cls x) _ hx, if_pos rfl]
  have e : mx (mx m 1) (1 + n) = mx m (1 + n) := by
    unfold mx
    repeat' split
    all_goals omega
  show some (([] : List Int), mx (mx m 1) (1 + n)) = _
  rw [e]
theorem closer_opc : ∀ x : Int, x = 18 ∨ x = 22 → opc (sgn x) = true := by
  intro x hx
  unfold opc opcK
  rw [cls_sgn hx, decide_eq_true hx, Bool.or_true]
/-- What is closed of what is seen is seen. -/
theorem close_ctl (l : List Int) (h : ∀ c ∈ l, opc c = true) : ∀ c ∈ closeM l, opc c = true := by
  have hb := walk_bnd l 0 [] 0 (l.length : Int) (by omega) (by have := List.length_filter_le opc l; simp; omega) (by simp)
  intro c hc
  unfold closeM at hc
  split at hc
  · exact h c hc
  · rcases List.mem_append.1 hc with h1 | h1
    · exact h c (mem_take' h1)
    · obtain ⟨x, hx, rfl⟩ := List.mem_map.1 h1
      exact closer_opc x (hb.2.2 x (List.mem_reverse.1 hx))
theorem filter_nn (l : List Int) (h : ∀ c ∈ l, cls c ≠ 10) : l.filter nn = l.filter opc := by
  refine List.filter_congr fun c hc => ?_
  unfold nn
  rw [decide_eq_false (h c hc), Bool.or_false]
theorem filter_idem (l : List Int) : (l.filter opc).filter nn = l.filter opc := by
  rw [List.filter_eq_self]
  intro c hc
  unfold nn
  rw [(List.mem_filter.1 hc).2, Bool.true_or]

theorem wrong_f (l : List Int) (h : l.length < 8796093022208) : balance_Wrong.f l = some (walkM 0 [] 0 l).2.2 := by
  unfold balance_Wrong.f
  rw [if_pos h]
theorem depth_f (l : List Int) (h : l.length < 8796093022208) : balance_Depth.f l = some (walkM 0 [] 0 l).2.1 := by
  unfold balance_Depth.f
  rw [if_pos h]
theorem right_f (l : List Int) (h : l.length < 8796093022208) : balance_Right.f l = some (decide ((walkM 0 [] 0 l).2.2 = -1)) := by
  unfold balance_Right.f
  rw [wrong_f l h, Option.bind_some]
  rfl
theorem close_f (l : List Int) (h : l.length < 4398046511104) : balance_Close.f l = some (closeM l) := by
  unfold balance_Close.f
  rw [if_pos h]
theorem ctl_f (l : List Int) (h : l.length < 17592186044416) : balance_Controls.f l = some (l.filter opc) := by
  unfold balance_Controls.f
  rw [if_pos h]
end Go.Proofs.Ytpgpckglgkichaa.P
