/- Proved: calls of balance.Wrong and balance.Depth, with any list of int, answer by one walk over the characters' classes, and change nothing that was there; condition: a list shorter than 2^43, which their answers say. -/
import Derived.Test.YtpgpckglgkichaaPClass
import Derived.Test.YtpgpckglgkichaaPx2
namespace Go.Proofs.Ytpgpckglgkichaa.P
open Go.RowKit Go.Proofs.YtpgpckglgkichaaW.PrintWords Go.Proofs.YtpgpckglgkichaaW.PrintLast Go.Proofs.YtpgpckglgkichaaW.PrintMore
attribute [local go_sem] max2_int min2_int max_two min_two max_three min_three max_four min_four
set_option linter.unusedVariables false
set_option linter.unusedSimpArgs false

/-- The class that closes what a class opens; -1: it opens nothing. -/
def closerK (k : Int) : Int := if k = 14 ∨ k = 15 ∨ k = 16 ∨ k = 17 then 18 else if k = 19 ∨ k = 20 ∨ k = 21 then 22 else -1
theorem closer_eq0 (k : Int) : balance_closer.f 1 k = some (closerK k) := by
  unfold balance_closer.f closerK
  simp only [balance_closer.j0]
  by_cases h1 : k = 14
  · simp [h1]
  · by_cases h2 : k = 16
    · simp [h2]
    · by_cases h3 : k = 15
      · simp [h3]
      · by_cases h4 : k = 17
        · simp [h4]
        · by_cases h5 : k = 19
          · simp [h5]
          · by_cases h6 : k = 20
            · simp [h6]
            · by_cases h7 : k = 21
              · simp [h7]
              · simp [h1, h2, h3, h4, h5, h6, h7]
theorem closes_eq (k : Int) : balance_closes.f k = some (decide (k = 18 ∨ k = 22)) := by
  unfold balance_closes.f
  by_cases h : k = 18
  · simp [h]
  · rw [if_neg h]
    simp only [h, false_or]
    rfl
/-- A class: is it right, what is open behind it, how many were at most. -/
def stepM (op : List Int) (m k : Int) : Bool × List Int × Int :=
  if closerK k ≠ -1 then (true, op ++ [closerK k], mx m ((op.length : Int) + 1))
  else if k = 10 then (decide (op = []), op, m)
  else if k = 18 ∨ k = 22 then (if op ≠ [] ∧ rd op ((op.length - 1 : Nat) : Int) = k then (true, op.take (op.length - 1), m) else (false, op, m))
  else (true, op, m)
/-- What is open, and how many were at most, in block g. -/
def WalkSt (w0 w : World) (g : Nat) (op : List Int) (m : Int) : Prop :=
  ∃ v : Value, w.heap[g]? = some (.cells #[v, .int .i64 m] 33 (0, 0)) ∧ Kd.Q (Kd.int .i64) 3 w w0.heap.size (fun _ => True) v op ∧ Below w0.heap.size w0 w
theorem binfo3 : (Try.prog.info? 3).map (fun i => (i.zero, i.size, i.bytes)) = some (some (.int .i64 0), 1, 8) := by kernel_rfl
theorem walk_ne : ∀ q, q ∈ 3 :: (Kd.int .i64).E → q ≠ 33 := by decide

/-- The state's two cells stored over. -/
theorem walk_fin {w0 w1 : World} {g : Nat} {u v : Value} {op : List Int} {m q : Int} (hg : w0.heap.size ≤ g) (hk : w1.heap[g]? = some (.cells #[u, .int .i64 m] 33 (0, 0))) (hQ : Kd.Q (Kd.int .i64) 3 w1 w0.heap.size (fun _ => True) v op) (hB : Below w0.heap.size w0 w1) :
    WalkSt w0 ((w1.setCell ⟨g, 0, none⟩ v).setCell ⟨g, 1, none⟩ (.int .i64 q)) g op q :=
  ⟨v, blk_set (blk_set hk 0 v) 1 (.int .i64 q), Kd.Q_set (Kd.Q_set hQ hk walk_ne 0 v) (blk_set hk 0 v) walk_ne 1 _, below_set (below_set hB hg) hg⟩
set_option maxHeartbeats 1000000 in
theorem step_open (w0 w : World) (g : Nat) (op : List Int) (m k c : Int) (hg : w0.heap.size ≤ g) (hl : op.length < 8796093022208) (hm : 0 ≤ m ∧ m < 8796093022208) (hc : closerK k = c) (hc1 : c ≠ -1) (hI : WalkSt w0 w g op m) :
    Calls Try.prog 31 #[.pointer (some ⟨g, 0, none⟩), .int .i64 k] w fun e w' => e = .returned (.bool true) ∧ WalkSt w0 w' g (op ++ [c]) (mx m ((op.length : Int) + 1)) := by
  obtain ⟨v, hb, hQ, hB⟩ := hI
  obtain ⟨A, cp, rfl, hcp⟩ := Kd.Q_slice hQ
  have hct := balance_closer.calls 1 k c w (by rw [closer_eq0, hc])
  have h0 : w.cell? ⟨g, 0, none⟩ = some (.slice A op.length cp) := blk_cell hb 0
  have h1 : w.cell? ⟨g, 1, none⟩ = some (.int .i64 m) := blk_cell hb 1
  have f0 := blk_frozen hb 0
  have f1 := blk_frozen hb 1
  have HB := Aside0.mk hB
  have HQ := Aside0.mk hQ
  have HK := Aside0.mk hb
  have hne : (c == -1) = false := by simpa using hc1
  have hne2 : (c != -1) = true := by simpa using hc1
  clear hB hQ hb hc hc1 hcp
  go_enter Try.func31, Try.ntmps31
  go_wp2_with (first
    | (go_at_call 27; (with_reducible refine hct.mono ?_); rintro e w' ⟨rfl, ⟨nd, rfl⟩⟩)
    | ((with_reducible refine gate_builtin (b := .append) (xs := #[.tmp 21, .tmp 23]) rfl ?_); at_builtin; refine Kd.Q_append (Kd.int .i64) (w0 := w0) w0.heap.size rfl (.tmp 21) (.tmp 23) 22 3 (.int .i64 0) 8 rfl Try.underlying22 binfo3 rfl (by decide) (by omega) (.slice A op.length cp) op c [.int .i64 c] (fun _ => True) (fun _ => False) rfl rfl ?aP (fun _ hk => hk.elim) (fun _ _ => trivial) ?aO ?aB ?aS ?aL ?_; (case aP => exact rfl); (case aO => exact Kd.Q_drewN HQ.out nd); (case aB => exact pw_below_drewN HB.out _); (case aS => exact HB.out.size); (case aL => omega);
        intro v1 w1 hq1 hb1 hg1 hat1; obtain ⟨A1, c1, rfl, _⟩ := Kd.Q_slice hq1; rw [show (op ++ [c]).length = op.length + 1 from by simp] at hq1 hat1; have hk1 := blk_grown (blk_drewN HK.out nd) hg1 (Kd.Q_ne (Kd.Q_drewN HQ.out nd) (blk_drewN HK.out nd) (by decide)); have hk2 := blk_set hk1 0 (.slice A1 (op.length + 1) c1); have HK1 := Aside0.mk hk1; have HK2 := Aside0.mk hk2; have HQ1 := Aside0.mk hq1; have HB1 := Aside0.mk hb1; have a0 := blk_cell hk1 0; have b0 := blk_frozen hk1 0; have a1 := blk_cell hk1 1; have b1 := blk_frozen hk1 1; clear hk1 hk2 hq1 hb1 hg1 hat1))
  all_goals
    go_ret
    refine ⟨rfl, ?_⟩
    have e : ∀ q, q = mx m ((op.length : Int) + 1) → WalkSt w0 ((w1.setCell ⟨g, 0, none⟩ (.slice A1 (op.length + 1) c1)).setCell ⟨g, 1, none⟩ (.int .i64 q)) g (op ++ [c]) (mx m ((op.length : Int) + 1)) := fun q hq => by
      subst hq
      exact walk_fin hg HK1.out HQ1.out HB1.out
    exact e _ (by unfold mx; omega)
theorem walk_drew {w0 w : World} {g : Nat} {op : List Int} {m : Int} (h : WalkSt w0 w g op m) (n : Nat) : WalkSt w0 (w.drewN n) g op m := by
  obtain ⟨v, hb, hQ, hB⟩ := h
  exact ⟨v, blk_drewN hb n, Kd.Q_drewN hQ n, pw_below_drewN hB n⟩
theorem walk_fin1 {w0 w1 : World} {g : Nat} {u v : Value} {op : List Int} {m : Int} (hg : w0.heap.size ≤ g) (hk : w1.heap[g]? = some (.cells #[u, .int .i64 m] 33 (0, 0))) (hQ : Kd.Q (Kd.int .i64) 3 w1 w0.heap.size (fun _ => True) v op) (hB : Below w0.heap.size w0 w1) :
    WalkSt w0 (w1.setCell ⟨g, 0, none⟩ v) g op m :=
  ⟨v, blk_set hk 0 v, Kd.Q_set hQ hk walk_ne 0 v, below_set hB hg⟩

set_option maxHeartbeats 1000000 in
theorem step_b (w0 w : World) (g : Nat) (op : List Int) (m : Int) (hl : op.length < 8796093022208) (hI : WalkSt w0 w g op m) :
    Calls Try.prog 31 #[.pointer (some ⟨g, 0, none⟩), .int .i64 10] w fun e w' => e = .returned (.bool (decide (op = []))) ∧ WalkSt w0 w' g op m := by
  obtain ⟨v, hb, hQ, hB⟩ := id hI
  obtain ⟨A, cp, rfl, hcp⟩ := Kd.Q_slice hQ
  have hct := balance_closer.calls 1 10 (-1) w (by rw [closer_eq0]; rfl)
  have h0 : w.cell? ⟨g, 0, none⟩ = some (.slice A op.length cp) := blk_cell hb 0
  have HI := Aside0.mk hI
  clear hB hQ hb hcp hI
  have he : ((op.length : Int) == 0) = decide (op = []) := by
    cases op with
    | nil => rfl
    | cons x l =>
      simp only [List.length_cons, reduceCtorEq, decide_false, beq_eq_false_iff_ne, ne_eq]
      omega
  go_enter Try.func31, Try.ntmps31
  go_wp2_with (first | (go_at_call 27; (with_reducible refine hct.mono ?_); rintro e w' ⟨rfl, ⟨nd, rfl⟩⟩))
  go_ret
  exact ⟨by first | rfl | simp [he], walk_drew HI.out nd⟩
set_option maxHeartbeats 1000000 in
theorem step_else (w0 w : World) (g : Nat) (op : List Int) (m k : Int) (hl : op.length < 8796093022208) (hc : closerK k = -1) (h10 : k ≠ 10) (hcl : ¬ (k = 18 ∨ k = 22)) (hI : WalkSt w0 w g op m) :
    Calls Try.prog 31 #[.pointer (some ⟨g, 0, none⟩), .int .i64 k] w fun e w' => e = .returned (.bool true) ∧ WalkSt w0 w' g op m := by
  obtain ⟨v, hb, hQ, hB⟩ := id hI
  obtain ⟨A, cp, rfl, hcp⟩ := Kd.Q_slice hQ
  have hct := balance_closer.calls 1 k (-1) w (by rw [closer_eq0, hc])
  have hct2 := fun W => balance_closes.calls k false W (by rw [closes_eq, decide_eq_false hcl])
  have h0 : w.cell? ⟨g, 0, none⟩ = some (.slice A op.length cp) := blk_cell hb 0
  have HI := Aside0.mk hI
  have hne : (k == 10) = false := by simpa using h10
  clear hB hQ hb hcp hI hc h10 hcl
  go_enter Try.func31, Try.ntmps31
  go_wp2_with (first | (go_at_call 27; (with_reducible refine hct.mono ?_); rintro e w' ⟨rfl, ⟨nd, rfl⟩⟩) | (go_at_call 28; (with_reducible refine (hct2 _).mono ?_); rintro e w' ⟨rfl, ⟨nd2, rfl⟩⟩))
  go_ret
  exact ⟨rfl, walk_drew HI.out _⟩
set_option maxHeartbeats 1000000 in
theorem step_none (w0 w : World) (g : Nat) (m k : Int) (hc : closerK k = -1) (h10 : k ≠ 10) (hcl : k = 18 ∨ k = 22) (hI : WalkSt w0 w g [] m) :
    Calls Try.prog 31 #[.pointer (some ⟨g, 0, none⟩), .int .i64 k] w fun e w' => e = .returned (.bool false) ∧ WalkSt w0 w' g [] m := by
  obtain ⟨v, hb, hQ, hB⟩ := id hI
  obtain ⟨A, cp, rfl, hcp⟩ := Kd.Q_slice hQ
  have hct := balance_closer.calls 1 k (-1) w (by rw [closer_eq0, hc])
  have hct2 := fun W => balance_closes.calls k true W (by rw [closes_eq, decide_eq_true hcl])
  have h0 : w.cell? ⟨g, 0, none⟩ = some (.slice A 0 cp) := blk_cell hb 0
  have HI := Aside0.mk hI
  have hne : (k == 10) = false := by simpa using h10
  clear hB hQ hb hcp hI hc h10 hcl
  go_enter Try.func31, Try.ntmps31
  go_wp2_with (first | (go_at_call 27; (with_reducible refine hct.mono ?_); rintro e w' ⟨rfl, ⟨nd, rfl⟩⟩) | (go_at_call 28; (with_reducible refine (hct2 _).mono ?_); rintro e w' ⟨rfl, ⟨nd2, rfl⟩⟩))
  go_ret
  exact ⟨rfl, walk_drew HI.out _⟩
set_option maxHeartbeats 1000000 in
theorem step_shut (w0 w : World) (g : Nat) (op : List Int) (m k : Int) (hg : w0.heap.size ≤ g) (n : Nat) (hn : op.length = n + 1) (hl : n < 8796093022208) (hc : closerK k = -1) (h10 : k ≠ 10) (hcl : k = 18 ∨ k = 22) (b : Bool) (hb1 : b = decide (rd op (n : Int) = k)) (hI : WalkSt w0 w g op m) :
    Calls Try.prog 31 #[.pointer (some ⟨g, 0, none⟩), .int .i64 k] w fun e w' => e = .returned (.bool b) ∧ WalkSt w0 w' g (if b = true then op.take n else op) m := by
  obtain ⟨v, hb, hQ, hB⟩ := id hI
  obtain ⟨A, cp, rfl, hcp⟩ := Kd.Q_slice hQ
  rw [hn] at hb hQ hcp
  have hct := balance_closer.calls 1 k (-1) w (by rw [closer_eq0, hc])
  have hct2 := fun W => balance_closes.calls k true W (by rw [closes_eq, decide_eq_true hcl])
  have h0 : w.cell? ⟨g, 0, none⟩ = some (.slice A (n + 1) cp) := blk_cell hb 0
  have f0 := blk_frozen hb 0
  obtain ⟨ad, e, hx⟩ := Kd.at_int (Kd.Q_reads' hQ).2.2 (n : Int) (by omega) (by omega)
  cases e
  rw [Int.toNat_natCast] at hx
  have HI := Aside0.mk hI
  have hne : (k == 10) = false := by simpa using h10
  have HT := Aside0.mk (Kd.Q_take hQ (m := n) (by omega))
  have HK := Aside0.mk hb
  have HB := Aside0.mk hB
  have HC : n ≤ cp := by omega
  have i1 : IntKind.i64.wrap (((n + 1 : Nat) : Int) - 1) = (n : Int) := by
    rw [IntKind.wrap_i64]
    omega
  clear hB hQ hb hcp hI hc h10 hcl
  cases b with
  | true =>
    have hr : rd op (n : Int) = k := of_decide_eq_true hb1.symm
    rw [hr] at hx
    clear hb1 hr
    go_enter Try.func31, Try.ntmps31
    go_wp2_with (first | (go_at_call 27; (with_reducible refine hct.mono ?_); rintro e w' ⟨rfl, ⟨nd, rfl⟩⟩) | (go_at_call 28; (with_reducible refine (hct2 _).mono ?_); rintro e w' ⟨rfl, ⟨nd2, rfl⟩⟩))
    go_ret
    exact ⟨rfl, walk_fin1 hg (blk_drewN HK.out _) (Kd.Q_drewN HT.out _) (pw_below_drewN HB.out _)⟩
  | false =>
    have hr : rd op (n : Int) ≠ k := of_decide_eq_false hb1.symm
    obtain ⟨y, hy⟩ : ∃ y, rd op (n : Int) = y := ⟨_, rfl⟩
    rw [hy] at hx hr
    have hr1 : (y == k) = false := by simpa using hr
    have hr2 : (y != k) = true := by simpa using hr
    have hr3 : ((n : Int) + 1 == 0) = false := by
      simp only [beq_eq_false_iff_ne, ne_eq]
      omega
    clear hb1 hr hy
    go_enter Try.func31, Try.ntmps31
    go_wp2_with (first | (go_at_call 27; (with_reducible refine hct.mono ?_); rintro e w' ⟨rfl, ⟨nd, rfl⟩⟩) | (go_at_call 28; (with_reducible refine (hct2 _).mono ?_); rintro e w' ⟨rfl, ⟨nd2, rfl⟩⟩))
    go_ret
    exact ⟨rfl, walk_drew HI.out _⟩

theorem closer_b : closerK 10 = -1 := by decide
theorem closer_close {k : Int} (h : k = 18 ∨ k = 22) : closerK k = -1 ∧ k ≠ 10 := by
  rcases h with rfl | rfl <;> decide
theorem step_calls (w0 w : World) (g : Nat) (op : List Int) (m k : Int) (hg : w0.heap.size ≤ g) (hl : op.length < 8796093022208) (hm : 0 ≤ m ∧ m < 8796093022208) (hI : WalkSt w0 w g op m) :
    Calls Try.prog 31 #[.pointer (some ⟨g, 0, none⟩), .int .i64 k] w fun e w' => e = .returned (.bool (stepM op m k).1) ∧ WalkSt w0 w' g (stepM op m k).2.1 (stepM op m k).2.2 := by
  unfold stepM
  by_cases h1 : closerK k ≠ -1
  · rw [if_pos h1]
    exact step_open w0 w g op m k _ hg hl hm rfl h1 hI
  · rw [if_neg h1]
    have h1 : closerK k = -1 := Decidable.not_not.1 h1
    by_cases h2 : k = 10
    · subst h2
      rw [if_pos rfl]
      exact step_b w0 w g op m hl hI
    · rw [if_neg h2]
      by_cases h3 : k = 18 ∨ k = 22
      · rw [if_pos h3]
        by_cases h4 : op = []
        · subst h4
          rw [if_neg (fun h => h.1 rfl)]
          exact step_none w0 w g m k h1 h2 h3 hI
        · have hp : 0 < op.length := List.length_pos_iff.2 h4
          have hs := fun b hb => step_shut w0 w g op m k hg (op.length - 1) (by omega) (by omega) h1 h2 h3 b hb hI
          by_cases h5 : rd op ((op.length - 1 : Nat) : Int) = k
          · rw [if_pos ⟨h4, h5⟩]
            exact hs true (decide_eq_true h5).symm
          · rw [if_neg (fun h => h5 h.2)]
            exact hs false (decide_eq_false h5).symm
      · rw [if_neg h3]
        exact step_else w0 w g op m k hl h1 h2 h3 hI
theorem step_len (op : List Int) (m k : Int) : (stepM op m k).2.1.length ≤ op.length + 1 := by
  unfold stepM
  repeat' split
  all_goals first | (simp; done) | (simp only [List.length_take]; omega) | (dsimp only; omega)
theorem step_most (op : List Int) (m k : Int) (i : Int) (h0 : 0 ≤ m) (h1 : m ≤ i) (h2 : (op.length : Int) ≤ i) : 0 ≤ (stepM op m k).2.2 ∧ (stepM op m k).2.2 ≤ i + 1 := by
  unfold stepM
  repeat' split
  all_goals first | (dsimp only; omega) | (dsimp only; unfold mx; split <;> omega)
/-- What is open, how many were at most, and where it is wrong (-1: nowhere). -/
def walkM : Nat → List Int → Int → List Int → List Int × Int × Int
  | i, op, m, [] => (op, m, if op = [] then -1 else (i : Int))
  | i, op, m, c :: l => if (stepM op m (cls c)).1 = true then walkM (i + 1) (stepM op m (cls c)).2.1 (stepM op m (cls c)).2.2 l else ((stepM op m (cls c)).2.1, (stepM op m (cls c)).2.2, (i : Int))
theorem walk_below {w0 w w' : World} {g : Nat} {op : List Int} {m : Int} (h : WalkSt w0 w g op m) (hb : Below w.heap.size w w') : WalkSt w0 w' g op m := by
  obtain ⟨v, hk, hQ, hB⟩ := h
  exact ⟨v, (hb.block g (blk_lt hk)).trans hk, Kd.Q_below hQ hb, below_step hB hb⟩

theorem walked_end {w w2 : World} {A2 : Option Addr} {c2 : Nat} {op : List Int} {m q : Int} {t : List Int × Int × Int} {tmps : Array Value} (ht : t = (op, m, q)) (hk : w2.heap[w.heap.size]? = some (.cells #[.slice A2 op.length c2, .int .i64 m] 33 (0, 0))) (hq : Kd.Q (Kd.int .i64) 3 w2 w.heap.size (fun _ => True) (.slice A2 op.length c2) op) (hb : Below w.heap.size w w2)
    (h2 : tmps.getD 2 undef = .pointer (some ⟨w.heap.size, 0, none⟩)) (h3 : tmps.getD 3 undef = .int .i64 q) :
    bodyPost Try.prog Try.f21 (fun e w' => ∃ v, e = .returned (.tuple #[.agg #[v, .int .i64 t.2.1], .int .i64 t.2.2]) ∧ Kd.Q (Kd.int .i64) 3 w' w.heap.size (fun _ => True) v t.1 ∧ Below w.heap.size w w') .ret { tmps := tmps, defers := [] } ((w2.setCell ⟨w.heap.size, 0, none⟩ (.slice A2 op.length c2)).setCell ⟨w.heap.size, 1, none⟩ (.int .i64 m)) := by
  subst ht
  have hk2 := blk_set (blk_set hk 0 (.slice A2 op.length c2)) 1 (.int .i64 m)
  refine bodyPost_ret (v := .tuple #[.agg #[.slice A2 op.length c2, .int .i64 m], .int .i64 q]) ?_ rfl ⟨_, rfl, ?_, ?_⟩
  · have h := results_ct (P := Try.prog) (fn := Try.f21) (p := 2) (u := 3) (ty := 33) rfl tmps _ w.heap.size 33 #[.slice A2 op.length c2, .int .i64 m] (0, 0) _ h2 hk2 Try.underlying33 rfl (by kernel_rfl)
    rw [h3] at h
    exact h
  · exact Kd.Q_set (Kd.Q_set hq hk walk_ne 0 _) (blk_set hk 0 _) walk_ne 1 _
  · exact below_set (below_set hb (Nat.le_refl _)) (Nat.le_refl _)
set_option maxHeartbeats 4000000 in
set_option maxRecDepth 100000 in
theorem walked_calls (A0 : Option Addr) (c0 : Nat) (l0 : List Int) (w : World) (hr0 : Kd.C (Kd.int .i64) w A0 l0.length l0) (hl : l0.length < 8796093022208) :
    Calls Try.prog 21 #[.slice A0 l0.length c0] w fun e w' => ∃ v : Value, e = .returned (.tuple #[.agg #[v, .int .i64 (walkM 0 [] 0 l0).2.1], .int .i64 (walkM 0 [] 0 l0).2.2]) ∧ Kd.Q (Kd.int .i64) 3 w' w.heap.size (fun _ => True) v (walkM 0 [] 0 l0).1 ∧ Below w.heap.size w w' := by
  have HR0 := Aside0.mk hr0
  have HL := Aside0.mk hl
  clear hr0 hl
  go_enter Try.func21, Try.ntmps21
  go_wp2
  go_loopw [8] (fun v wr => ∃ (i : Nat) (op : List Int) (m : Int), v = .int .i64 (i : Int) ∧ i ≤ l0.length ∧ op.length ≤ i ∧ 0 ≤ m ∧ m ≤ (i : Int) ∧ WalkSt w wr w.heap.size op m ∧ walkM 0 [] 0 l0 = walkM i op m (l0.drop i)) (fun v wr => l0.length - (intOf v).toNat)
  case atStart => exact ⟨0, [], 0, rfl, by omega, by simp, by omega, by simp, ⟨_, heap_alloc_new w _, Kd.Q_nil _ _ _ _ _, below_alloc (Below.refl _ _) _⟩, rfl⟩
  case round =>
    obtain ⟨i, op, m, rfl, hi, hop, hm0, hm1, hI, hw⟩ := hrel
    by_cases h : i < l0.length
    · have hB : Below w.heap.size w wr := hI.choose_spec.2.2
      obtain ⟨ad, e, hx⟩ := Kd.at_int (Kd.C_below HR0.out hB) (i : Int) (by omega) (by omega)
      cases e
      rw [Int.toNat_natCast] at hx
      rw [drop_cons l0 i h] at hw
      obtain ⟨c, hce⟩ : ∃ c, rd l0 (i : Int) = c := ⟨_, rfl⟩
      rw [hce] at hx hw
      have hct := class_Of.calls 91 c (cls c) wr (class_of_eq 91 (by decide) c)
      have hct2 := fun W (hb : Below wr.heap.size wr W) => step_calls w W w.heap.size op m (cls c) (Nat.le_refl _) (by have := HL.out; omega) ⟨hm0, by have := HL.out; omega⟩ (walk_below hI hb)
      have hsl := Nat.le_trans (step_len op m (cls c)) (Nat.succ_le_succ hop)
      have hsm := step_most op m (cls c) i hm0 hm1 (by omega)
      simp only [walkM] at hw
      obtain ⟨s, hs⟩ : ∃ s, stepM op m (cls c) = s := ⟨_, rfl⟩
      rw [hs] at hct2 hsl hsm hw
      obtain ⟨b, op', m'⟩ := s
      dsimp only at hct2 hsl hsm hw
      have HW := Aside0.mk hw
      have HSL := Aside0.mk hsl
      have HSM := Aside0.mk hsm
      have HCT := Aside0.mk hct2
      have h1 : decide ((i : Int) < (l0.length : Int)) = true := decide_eq_true (by omega)
      have h2 : ((0 : Int) ≤ (i : Int)) = True := eq_true (by omega)
      have h3 : ((i : Int) < (l0.length : Int)) = True := eq_true (by omega)
      clear hw hsl hsm hct2 hs hI hB hop hm0 hm1 hce
      cases b with
      | true =>
        go_wp2_with (first | (go_at_call 26; (with_reducible refine hct.mono ?_); rintro e w' ⟨rfl, hb1⟩; have HB1 := Aside0.mk hb1; clear hb1) | (go_at_call 31; (with_reducible refine (HCT.out _ HB1.out).mono ?_); rintro e w2 ⟨rfl, hst⟩; have HST := Aside0.mk hst; clear hst))
        refine ⟨⟨i + 1, op', m', by rw [wrap_succ i (by have := HL.out; omega)], by omega, HSL.out, HSM.out.1, HSM.out.2, HST.out, HW.out.trans (if_pos trivial)⟩, ?_⟩
        rw [wrap_succ i (by have := HL.out; omega)]
        show l0.length - (((i + 1 : Nat) : Int)).toNat < l0.length - ((i : Int)).toNat
        omega
      | false =>
        have hw2 := HW.out.trans (if_neg (by decide))
        have HW2 := Aside0.mk hw2
        clear hw2 HW
        go_wp2_with (first | (go_at_call 26; (with_reducible refine hct.mono ?_); rintro e w' ⟨rfl, hb1⟩; have HB1 := Aside0.mk hb1; clear hb1) | (go_at_call 31; (with_reducible refine (HCT.out _ HB1.out).mono ?_); rintro e w2 ⟨rfl, ⟨v2, hk2, hq2, hb2⟩⟩; obtain ⟨A2, c2, rfl, _⟩ := Kd.Q_slice hq2; have a0 := blk_cell hk2 0; have a1 := blk_cell hk2 1; have b0 := blk_frozen hk2 0; have b1 := blk_frozen hk2 1; have HK2 := Aside0.mk hk2; have HQ2 := Aside0.mk hq2; have HB2 := Aside0.mk hb2; clear hk2 hq2 hb2))
        exact walked_end HW2.out HK2.out HQ2.out HB2.out rfl rfl
    · have hn : i = l0.length := by omega
      subst hn
      rw [List.drop_length] at hw
      simp only [walkM] at hw
      obtain ⟨v2, hk2, hq2, hb2⟩ := hI
      obtain ⟨A2, c2, rfl, _⟩ := Kd.Q_slice hq2
      have a0 := blk_cell hk2 0
      have a1 := blk_cell hk2 1
      have b0 := blk_frozen hk2 0
      have b1 := blk_frozen hk2 1
      have HK2 := Aside0.mk hk2
      have HQ2 := Aside0.mk hq2
      have HB2 := Aside0.mk hb2
      have h1 : decide ((l0.length : Int) < (l0.length : Int)) = false := decide_eq_false (by omega)
      clear hk2 hq2 hb2
      by_cases ho : op = []
      · subst ho
        rw [if_pos rfl] at hw
        have HW := Aside0.mk hw
        clear hw hop hm0 hm1
        go_wp2
        exact walked_end HW.out HK2.out HQ2.out HB2.out rfl rfl
      · rw [if_neg ho] at hw
        have hp : 0 < op.length := List.length_pos_iff.2 ho
        have h2 : decide ((op.length : Int) > 0) = true := decide_eq_true (by omega)
        have HW := Aside0.mk hw
        clear hw hop hm0 hm1 ho
        go_wp2
        exact walked_end HW.out HK2.out HQ2.out HB2.out rfl rfl

/-! the callers -/
def balance_Wrong.f (l0 : List Int) : Option Int := if l0.length < 8796093022208 then some (walkM 0 [] 0 l0).2.2 else none
def balance_Depth.f (l0 : List Int) : Option Int := if l0.length < 8796093022208 then some (walkM 0 [] 0 l0).2.1 else none
theorem balance_Wrong.calls (A0 : Option Addr) (c0 : Nat) (l0 : List Int) (r : Int) (w : World) (hr0 : Kd.C (Kd.int .i64) w A0 l0.length l0) (hc0 : l0.length ≤ c0) (h : balance_Wrong.f l0 = some r) :
    Calls Try.prog 11 #[.slice A0 l0.length c0] w fun e w' => e = .returned (.int .i64 r) ∧ Below w.heap.size w w' := by
  have hl : l0.length < 8796093022208 := by
    unfold balance_Wrong.f at h
    by_cases hl : l0.length < 8796093022208
    · exact hl
    · rw [if_neg hl] at h
      cases h
  have hr : (walkM 0 [] 0 l0).2.2 = r := by
    unfold balance_Wrong.f at h
    rw [if_pos hl] at h
    exact Option.some.inj h
  have hct := walked_calls A0 c0 l0 w hr0 hl
  rw [hr] at hct
  obtain ⟨y, hy⟩ : ∃ y, (walkM 0 [] 0 l0).2.1 = y := ⟨_, rfl⟩
  obtain ⟨x, hx⟩ : ∃ x, (walkM 0 [] 0 l0).1 = x := ⟨_, rfl⟩
  rw [hy, hx] at hct
  clear hr hy hx h hl hr0
  go_enter Try.func11, Try.ntmps11
  go_wp2_with (first | (go_at_call 21; (with_reducible refine hct.mono ?_); rintro e w' ⟨v, rfl, hq, hb⟩; obtain ⟨A2, c2, rfl, _⟩ := Kd.Q_slice hq; have HB := Aside0.mk hb; clear hq hb))
  go_ret
  exact ⟨rfl, below_alloc HB.out _⟩
theorem balance_Depth.calls (A0 : Option Addr) (c0 : Nat) (l0 : List Int) (r : Int) (w : World) (hr0 : Kd.C (Kd.int .i64) w A0 l0.length l0) (hc0 : l0.length ≤ c0) (h : balance_Depth.f l0 = some r) :
    Calls Try.prog 16 #[.slice A0 l0.length c0] w fun e w' => e = .returned (.int .i64 r) ∧ Below w.heap.size w w' := by
  have hl : l0.length < 8796093022208 := by
    unfold balance_Depth.f at h
    by_cases hl : l0.length < 8796093022208
    · exact hl
    · rw [if_neg hl] at h
      cases h
  have hr : (walkM 0 [] 0 l0).2.1 = r := by
    unfold balance_Depth.f at h
    rw [if_pos hl] at h
    exact Option.some.inj h
  have hct := walked_calls A0 c0 l0 w hr0 hl
  rw [hr] at hct
  obtain ⟨y, hy⟩ : ∃ y, (walkM 0 [] 0 l0).2.2 = y := ⟨_, rfl⟩
  obtain ⟨x, hx⟩ : ∃ x, (walkM 0 [] 0 l0).1 = x := ⟨_, rfl⟩
  rw [hy, hx] at hct
  clear hr hy hx h hl hr0
  go_enter Try.func16, Try.ntmps16
  go_wp2_with (first | (go_at_call 21; (with_reducible refine hct.mono ?_); rintro e w' ⟨v, rfl, hq, hb⟩; obtain ⟨A2, c2, rfl, _⟩ := Kd.Q_slice hq; have HB := Aside0.mk hb; clear hq hb))
  go_ret
  exact ⟨rfl, below_alloc HB.out _⟩
end Go.Proofs.Ytpgpckglgkichaa.P
