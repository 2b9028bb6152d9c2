/- Proved: the document's answers for neutral classes are those of the program, and where a list's groups lie; conditions: enough rounds, at most 500 classes, a level of 64 bits. -/
import Derived.Test.YtcmndocfadhonaaPNeut
import Derived.Test.YtcmndocfadhonaaPx4
import Derived.Test.YtcmndocfadhonaaPx5
import Derived.Test.YtcmndocfadhonaaPx6
namespace Go.Proofs.Ytcmndocfadhonaa.P
open Go.RowKit Go.Proofs.YtcmndocfadhonaaW.PrintWords Go.Proofs.YtcmndocfadhonaaW.PrintLast Go.Proofs.YtcmndocfadhonaaW.PrintMore
set_option linter.unusedVariables false
set_option linter.unusedSimpArgs false

abbrev G11 := S38
theorem rdG_last (A : List G11) (x : G11) : rd_T38 (A ++ [x]) (A.length : Int) = x := by
  rw [rdG _ _ (by simp)]
  simp
def opl (o : Option Nat) (i : Nat) : List G11 := match o with
  | some a => [⟨(a : Int), (i : Int)⟩]
  | none => []
theorem rgroups_loop (l : List Int) (hn : l.length ≤ 500) (d : Nat) : ∀ (k i : Nat) (o : Option Nat) (A : List G11), i ≤ l.length → l.length - i = d → d < k → A.length + (opl o i).length ≤ i → (∀ g ∈ A, g.f1 < (i : Int)) →
    ductusref11_Groups.l0 k l (A ++ opl o i) (i : Int) = some (A ++ grp i o (l.drop i)) := by
  induction d with
  | zero =>
    intro k i o A hi hd hk hA hc
    obtain ⟨k, rfl⟩ : ∃ m, k = m + 1 := ⟨k - 1, by omega⟩
    simp only [ductusref11_Groups.l0]
    rw [if_neg (by omega), List.drop_eq_nil_of_le (by omega)]
    cases o <;> rfl
  | succ d ih =>
    intro k i o A hi hd hk hA hc
    obtain ⟨k, rfl⟩ : ∃ m, k = m + 1 := ⟨k - 1, by omega⟩
    simp only [ductusref11_Groups.l0]
    rw [if_pos (by omega), if_pos (by omega), rneutral_eq]
    simp only [Option.bind_some]
    rw [drop_cons l i (by omega)]
    by_cases hq : neuK (rd l (i : Int)) = true
    · rw [if_pos hq]
      simp only [grp, if_pos hq]
      cases o with
      | some a =>
        simp only [opl, List.length_append, List.length_cons, List.length_nil] at hA ⊢
        have hw : wrap64 (((A.length + (0 + 1) : Nat) : Int) - 1) = (A.length : Int) := by rw [wrap_id (by omega) (by omega)]; omega
        rw [if_pos (by omega), hw, if_pos (by omega), if_pos (by omega), rdG_last]
        rw [if_pos rfl, wrap_succ i (by omega), Int.toNat_natCast]
        have e : (A ++ [(⟨(a : Int), (i : Int)⟩ : G11)]).set A.length ⟨(a : Int), ((i + 1 : Nat) : Int)⟩ = A ++ opl (some a) (i + 1) := by simp [opl]
        rw [e, ih k (i + 1) (some a) A (by omega) (by omega) (by omega) (by simp [opl]; omega) (fun g hg => by have := hc g hg; omega)]
        rfl
      | none =>
        simp only [opl, List.append_nil, List.length_nil] at hA ⊢
        have fin : ductusref11_Groups.l0 k l (A ++ [(⟨(i : Int), wrap64 ((i : Int) + 1)⟩ : G11)]) (wrap64 ((i : Int) + 1)) = some (A ++ grp (i + 1) (some i) (l.drop (i + 1))) := by
          rw [wrap_succ i (by omega)]
          exact ih k (i + 1) (some i) A (by omega) (by omega) (by omega) (by simp [opl]; omega) (fun g hg => by have := hc g hg; omega)
        by_cases h0 : A.length = 0
        · rw [if_neg (by omega), if_pos (by omega)]
          exact fin
        · have hw : wrap64 ((A.length : Int) - 1) = ((A.length - 1 : Nat) : Int) := by rw [wrap_id (by omega) (by omega)]; omega
          rw [if_pos (by omega), hw, if_pos (by omega), if_pos (by omega), rdG A (A.length - 1) (by omega)]
          have := hc _ (List.getElem_mem (show A.length - 1 < A.length by omega))
          rw [if_neg (by omega), if_pos (by omega)]
          exact fin
    · rw [if_neg hq, wrap_succ i (by omega)]
      simp only [grp, if_neg hq]
      cases o with
      | some a =>
        have := ih k (i + 1) none (A ++ [⟨(a : Int), (i : Int)⟩]) (by omega) (by omega) (by omega) (by simpa [opl] using Nat.le_succ_of_le hA) (fun g hg => by
          rcases List.mem_append.1 hg with hg | hg
          · have := hc g hg
            omega
          · simp only [List.mem_singleton] at hg
            subst hg
            dsimp only
            omega)
        simpa [opl] using this
      | none =>
        exact ih k (i + 1) none A (by omega) (by omega) (by omega) (by simp [opl] at hA ⊢; omega) (fun g hg => by have := hc g hg; omega)
theorem rgroups_eq (k : Nat) (l : List Int) (hn : l.length ≤ 500) (hk : l.length < k) : ductusref11_Groups.f k l = some (groupsOf l) := by
  unfold ductusref11_Groups.f groupsOf
  have := rgroups_loop l hn l.length k 0 none [] (by omega) (by omega) hk (by simp [opl]) (by simp)
  simpa [opl] using this
theorem groups_len (l : List Int) : (groupsOf l).length ≤ l.length + 1 := grp_len l 0 none
theorem gsame_loop (a : List G11) (hn : a.length < 9223372036854775807) (d : Nat) : ∀ (k i : Nat), i ≤ a.length → a.length - i = d → d < k → ductusref10_Same.l0 k a a (i : Int) = some true := by
  induction d with
  | zero =>
    intro k i hi hd hk
    obtain ⟨k, rfl⟩ : ∃ m, k = m + 1 := ⟨k - 1, by omega⟩
    simp only [ductusref10_Same.l0]
    rw [if_neg (by omega)]
  | succ d ih =>
    intro k i hi hd hk
    obtain ⟨k, rfl⟩ : ∃ m, k = m + 1 := ⟨k - 1, by omega⟩
    simp only [ductusref10_Same.l0]
    rw [if_pos (by omega), if_pos (by omega), if_pos (by omega), if_neg (by simp), wrap_succ i (by omega)]
    exact ih k (i + 1) (by omega) (by omega) (by omega)
theorem gsame_eq (k : Nat) (a : List G11) (hn : a.length < 9223372036854775807) (hk : a.length < k) : ductusref10_Same.f k a a = some true := by
  unfold ductusref10_Same.f
  rw [if_pos rfl]
  exact gsame_loop a hn a.length k 0 (by omega) (by omega) hk
theorem rdir_eq (n : Int) : ductusref08_Dir.f n = some (dirOf n) := by
  unfold ductusref08_Dir.f dirOf
  by_cases h : n % 2 = 1
  · rw [if_pos h, if_neg (fun e => by have := (tmod_two n).1 e; omega)]
  · rw [if_neg h, if_pos ((tmod_two n).2 (by omega))]
theorem rend_eq (e : Int) : ductusref11_end.f e = some (endOf e) := by
  unfold ductusref11_end.f endOf
  split <;> rfl
theorem rbside_eq (k : Int) : ductusref10_Side.f k = some (sideK k) := bside_eq k
theorem rside_eq (c level : Int) : ductusref11_side.f c level = some (sdOf c level) := by
  unfold ductusref11_side.f sdOf
  rw [rbside_eq]
  simp only [Option.bind_some, rdir_eq]
  by_cases h : sideK c < 0
  · rw [if_pos h, if_neg (by omega)]
  · rw [if_neg h, if_pos (by omega)]
theorem rfill_loop (l : List Int) (x1 x2 x3 : Int) (gs : List G11) (y : Nat) (g : G11) (hy : y < gs.length) (hg : rd_T38 gs (y : Int) = g) (v : Int) (r : Option (List Int)) (hl : l.length ≤ 500) (K : Nat) (out' : List Int)
    (hr : ∀ k, K ≤ k → ductusref11_Of.l0 k l x1 x2 x3 out' gs (wrap64 ((y : Int) + 1)) = r) (d : Nat) : ∀ (k p : Nat) (out : List Int), out.length = l.length → ((p + d : Nat) : Int) = g.f1 → g.f1 ≤ (l.length : Int) → K + d < k → fillR out v p d = out' →
    ductusref11_Of.l1 k l x1 x2 x3 out gs (y : Int) v (p : Int) = r := by
  induction d with
  | zero =>
    intro k p out ho hp hb hk hf
    obtain ⟨k, rfl⟩ : ∃ m, k = m + 1 := ⟨k - 1, by omega⟩
    simp only [ductusref11_Of.l1]
    rw [if_pos (by omega), if_pos (by omega), hg, if_neg (by omega)]
    simp only [fillR] at hf
    subst hf
    exact hr k (by omega)
  | succ d ih =>
    intro k p out ho hp hb hk hf
    obtain ⟨k, rfl⟩ : ∃ m, k = m + 1 := ⟨k - 1, by omega⟩
    simp only [ductusref11_Of.l1]
    rw [if_pos (by omega), if_pos (by omega), hg, if_pos (by omega), if_pos (by omega), if_pos (by omega), wrap_succ p (by omega), Int.toNat_natCast]
    exact ih k (p + 1) _ (by rw [List.length_set]; exact ho) (by omega) hb (by omega) hf
theorem rof_loop (l : List Int) (x1 x2 x3 : Int) (gs : List G11) (hl : l.length ≤ 500) (hg : ∀ g ∈ gs, goodG l.length g) (hgl : gs.length < 9223372036854775807) (d : Nat) : ∀ (k i : Nat) (out : List Int), i ≤ gs.length → gs.length - i = d → d * (l.length + 5) + 4 < k → out.length = l.length →
    ductusref11_Of.l0 k l x1 x2 x3 out gs (i : Int) = some (fillG (toOf l x1 x2 x3) (gs.drop i) out) := by
  induction d with
  | zero =>
    intro k i out hi hd hk ho
    obtain ⟨k, rfl⟩ : ∃ m, k = m + 1 := ⟨k - 1, by omega⟩
    simp only [ductusref11_Of.l0]
    rw [if_neg (by omega), List.drop_eq_nil_of_le (by omega)]
    rfl
  | succ d ih =>
    intro k i out hi hd hk ho
    have hmul : (d + 1) * (l.length + 5) = d * (l.length + 5) + (l.length + 5) := Nat.succ_mul _ _
    obtain ⟨k, rfl⟩ : ∃ m, k = m + 4 := ⟨k - 4, by omega⟩
    have hmem : gs[i]'(by omega) ∈ gs := List.getElem_mem _
    have hgi := hg _ hmem
    rw [dropG gs i (by omega), rdG gs i (by omega)]
    obtain ⟨g, hge⟩ : ∃ g, g = gs[i]'(by omega) := ⟨_, rfl⟩
    have hrd : rd_T38 gs (i : Int) = g := by rw [rdG gs i (by omega), hge]
    rw [← hge] at hgi ⊢
    obtain ⟨g0, g1, g2⟩ := hgi
    have j3 : ∀ v, v = toOf l x1 x2 x3 g → ductusref11_Of.j3 (k + 1) l x1 x2 x3 out gs (i : Int) v = some (fillG (toOf l x1 x2 x3) (g :: gs.drop (i + 1)) out) := by
      intro v hv
      simp only [ductusref11_Of.j3, fillG]
      rw [if_pos (by omega), if_pos (by omega), hrd]
      have h0 : g.f0 = ((g.f0.toNat : Nat) : Int) := by omega
      conv => lhs; arg 10; rw [h0]
      refine rfill_loop l x1 x2 x3 gs i g (by omega) hrd v _ hl (d * (l.length + 5) + 5) (fillR out v g.f0.toNat (g.f1.toNat - g.f0.toNat)) (fun k hk => ?_) (g.f1.toNat - g.f0.toNat) k g.f0.toNat out ho (by omega) g2 (by omega) rfl
      rw [wrap_succ i (by omega), ih k (i + 1) _ (by omega) (by omega) (by omega) (by rw [fillR_len]; exact ho), hv]
    have j2 : ∀ a b, a = sideAt l (g.f0 - 1) x1 x2 → b = sideAt l g.f1 x1 x3 → ductusref11_Of.j2 (k + 2) l x1 x2 x3 out gs (i : Int) a b = some (fillG (toOf l x1 x2 x3) (g :: gs.drop (i + 1)) out) := by
      intro a b ha hb
      simp only [ductusref11_Of.j2, rdir_eq, Option.bind_some]
      by_cases h : a = b
      · rw [if_pos h]
        exact j3 _ (by unfold toOf; rw [← ha, ← hb, if_pos h])
      · rw [if_neg h]
        exact j3 _ (by unfold toOf; rw [← ha, ← hb, if_neg h])
    have j1 : ∀ a, a = sideAt l (g.f0 - 1) x1 x2 → ductusref11_Of.j1 (k + 3) l x1 x2 x3 out gs (i : Int) a (endOf x3) = some (fillG (toOf l x1 x2 x3) (g :: gs.drop (i + 1)) out) := by
      intro a ha
      simp only [ductusref11_Of.j1]
      rw [if_pos (by omega), if_pos (by omega), hrd]
      by_cases h : g.f1 < (l.length : Int)
      · rw [if_pos h, if_pos (by omega), rside_eq]
        simp only [Option.bind_some]
        refine j2 _ _ ha ?_
        unfold sideAt
        rw [if_neg (by omega)]
      · rw [if_neg h]
        refine j2 _ _ ha ?_
        unfold sideAt
        rw [if_pos (by omega)]
    simp only [ductusref11_Of.l0]
    rw [if_pos (by omega), rend_eq, rend_eq]
    simp only [Option.bind_some]
    rw [if_pos (by omega), hrd]
    by_cases h : g.f0 > 0
    · rw [if_pos h, wrap_id (by omega) (by omega), if_pos (by omega), if_pos (by omega), rside_eq]
      simp only [Option.bind_some]
      refine j1 _ ?_
      unfold sideAt
      rw [if_neg (by omega)]
    · rw [if_neg h]
      refine j1 _ ?_
      unfold sideAt
      rw [if_pos (by omega)]
theorem rof_eq (k : Nat) (l : List Int) (x1 x2 x3 : Int) (hn : l.length ≤ 500) (hk : (l.length + 2) * (l.length + 5) + 30 < k) : ductusref11_Of.f k l x1 x2 x3 = some (neutOf l x1 x2 x3) := by
  have hmul : (l.length + 2) * (l.length + 5) = (l.length + 1) * (l.length + 5) + (l.length + 5) := Nat.succ_mul _ _
  unfold ductusref11_Of.f
  simp only [Option.bind_some]
  rw [if_pos (by simp; omega), rgroups_eq k l hn (by omega)]
  simp only [Option.bind_some, List.nil_append]
  have hgl := groups_len l
  have hle : (groupsOf l).length * (l.length + 5) ≤ (l.length + 1) * (l.length + 5) := Nat.mul_le_mul_right _ hgl
  have := rof_loop l x1 x2 x3 (groupsOf l) hn (groups_good l) (by omega) (groupsOf l).length k 0 l (by omega) (by omega) (by omega) rfl
  simp only [List.drop_zero] at this
  exact this
theorem rlevel_eq (k : Nat) (hk : 3 ≤ k) (c n : Int) (h0 : -9223372036854775808 ≤ n) (h1 : n ≤ 9223372036854775807) : ductusref11_Level.f k c n = some (levelOf c n) := by
  obtain ⟨k, rfl⟩ : ∃ m, k = m + 3 := ⟨k - 3, by omega⟩
  have go : ∀ b : Bool, (b = true ↔ (c = 3 ∨ c = 6)) → ductusref11_Level.j0 (k + 3) c n b = some (levelOf c n) := by
    intro b hb
    have hm := tmod_two n
    have e0 : n % 2 = 0 → wrap64 (n + n % 2) = n ∧ wrap64 (n + 1 - n % 2) = wrap64 (n + 1) ∧ wrap64 (n + 2 - n % 2) = wrap64 (n + 2) := by
      intro h
      rw [h]
      refine ⟨?_, ?_, ?_⟩ <;> unfold wrap64 <;> omega
    have e1 : n % 2 = 1 → wrap64 (n + n % 2) = wrap64 (n + 1) ∧ wrap64 (n + 1 - n % 2) = n ∧ wrap64 (n + 2 - n % 2) = wrap64 (n + 1) := by
      intro h
      rw [h]
      refine ⟨?_, ?_, ?_⟩ <;> unfold wrap64 <;> omega
    unfold levelOf
    simp only [ductusref11_Level.j0, ductusref11_Level.j1, ductusref11_Level.j2]
    by_cases h : Int.tmod n 2 = 0
    · obtain ⟨q0, q1, q2⟩ := e0 (hm.1 h)
      simp only [if_pos h, q0, q1, q2]
      by_cases c1 : c = 1
      · subst c1
        simp
      · have : (c == 1) = false := by simpa using c1
        rw [this]
        cases b with
        | true =>
          have hc := hb.1 rfl
          have : c ≠ 0 := by omega
          simp [this, c1, hc]
        | false =>
          have hc : ¬ (c = 3 ∨ c = 6) := fun hc => by have := hb.2 hc; cases this
          by_cases c0 : c = 0
          · simp [c0]
          · simp [c0, c1, hc]
    · have hp : n % 2 = 1 := by
        have : n % 2 ≠ 0 := fun e => h (hm.2 e)
        omega
      obtain ⟨q0, q1, q2⟩ := e1 hp
      simp only [if_neg h, q0, q1, q2]
      by_cases c0 : c = 0
      · subst c0
        simp
      · by_cases c1 : c = 1
        · subst c1
          have : b = false := by
            cases b with
            | false => rfl
            | true => have := hb.1 rfl; omega
          subst this
          simp
        · cases b with
          | true =>
            have hc := hb.1 rfl
            simp [c0, c1, hc]
          | false =>
            have hc : ¬ (c = 3 ∨ c = 6) := fun hc => by have := hb.2 hc; cases this
            simp [c0, c1, hc]
  unfold ductusref11_Level.f
  by_cases h6 : c = 6
  · rw [if_pos h6]
    exact go true (by simp [h6])
  · rw [if_neg h6]
    exact go (c == 3) (by simp [h6])
theorem rlevels_loop (l : List Int) (n : Int) (h0 : -9223372036854775808 ≤ n) (h1 : n ≤ 9223372036854775807) (hn : l.length ≤ 500) (d : Nat) : ∀ (k i : Nat) (acc : List Int), i ≤ l.length → l.length - i = d → d + 4 < k → acc.length = i →
    ductusref11_Levels.l0 k l n acc (i : Int) = some (acc ++ (l.drop i).map fun c => levelOf c n) := by
  induction d with
  | zero =>
    intro k i acc hi hd hk ha
    obtain ⟨k, rfl⟩ : ∃ m, k = m + 1 := ⟨k - 1, by omega⟩
    simp only [ductusref11_Levels.l0]
    rw [if_neg (by omega), List.drop_eq_nil_of_le (by omega)]
    simp
  | succ d ih =>
    intro k i acc hi hd hk ha
    obtain ⟨k, rfl⟩ : ∃ m, k = m + 1 := ⟨k - 1, by omega⟩
    simp only [ductusref11_Levels.l0]
    rw [if_pos (by omega), if_pos (by omega), rlevel_eq _ (by omega) _ n h0 h1]
    simp only [Option.bind_some]
    rw [if_pos (by omega), wrap_succ i (by omega), ih k (i + 1) _ (by omega) (by omega) (by omega) (by simp [ha]), drop_cons l i (by omega)]
    simp
theorem rlevels_eq (k : Nat) (l : List Int) (n : Int) (h0 : -9223372036854775808 ≤ n) (h1 : n ≤ 9223372036854775807) (hn : l.length ≤ 500) (hk : l.length + 4 < k) : ductusref11_Levels.f k l n = some (l.map fun c => levelOf c n) := by
  unfold ductusref11_Levels.f
  have := rlevels_loop l n h0 h1 hn l.length k 0 [] (by omega) (by omega) hk rfl
  simpa using this

/-! ### where groups lie -/
/-- Is place i one that the groups hold? -/
def covered (s : Nat) (o : Option Nat) (l : List Int) (i : Nat) : Prop := (∃ a, o = some a ∧ a ≤ i ∧ i < s) ∨ (s ≤ i ∧ ∃ x, l[i - s]? = some x ∧ neuK x = true)
def holds (g : G11) (i : Nat) : Prop := g.f0 ≤ (i : Int) ∧ (i : Int) < g.f1
theorem grp_mem (i : Nat) : ∀ (l : List Int) (s : Nat) (o : Option Nat), (∀ a, o = some a → a < s) → ((∃ g ∈ grp s o l, holds g i) ↔ covered s o l i)
  | [], s, o, ho => by
    cases o with
    | none => simp [grp, covered]
    | some a =>
      simp only [grp, List.mem_singleton, exists_eq_left, holds, covered, List.getElem?_nil]
      constructor
      · rintro ⟨h0, h1⟩
        exact .inl ⟨a, rfl, by omega, by omega⟩
      · rintro (⟨b, hb, h0, h1⟩ | ⟨_, x, hx, _⟩)
        · cases hb
          exact ⟨by omega, by omega⟩
        · cases hx
  | c :: l, s, o, ho => by
    have nxt : ∀ h : s + 1 ≤ i, (c :: l)[i - s]? = l[i - (s + 1)]? := by
      intro h
      have : i - s = (i - (s + 1)) + 1 := by omega
      rw [this, List.getElem?_cons_succ]
    have now : ∀ h : i = s, (c :: l)[i - s]? = some c := by
      intro h
      subst h
      simp
    by_cases hq : neuK c = true
    · simp only [grp, if_pos hq]
      rw [grp_mem i l (s + 1) _ (fun a ha => by cases ha; cases o with | none => simp | some b => have := ho b rfl; simp; omega)]
      unfold covered
      constructor
      · rintro (⟨a, ha, h0, h1⟩ | ⟨h0, x, hx, hn⟩)
        · cases ha
          by_cases his : i = s
          · exact .inr ⟨by omega, c, now his, hq⟩
          · cases o with
            | none => simp at h0; omega
            | some b => exact .inl ⟨b, rfl, h0, by omega⟩
        · exact .inr ⟨by omega, x, by rw [nxt h0]; exact hx, hn⟩
      · rintro (⟨a, ha, h0, h1⟩ | ⟨h0, x, hx, hn⟩)
        · subst ha
          exact .inl ⟨a, rfl, h0, by omega⟩
        · by_cases his : i = s
          · refine .inl ⟨_, rfl, ?_, by omega⟩
            cases o with
            | none => simp; omega
            | some b => have := ho b rfl; simp; omega
          · exact .inr ⟨by omega, x, by rw [← nxt (by omega)]; exact hx, hn⟩
    · have tl := grp_mem i l (s + 1) none (fun a ha => by cases ha)
      simp only [grp, if_neg hq]
      have no : covered (s + 1) none l i ↔ s ≤ i ∧ ∃ x, (c :: l)[i - s]? = some x ∧ neuK x = true := by
        unfold covered
        constructor
        · rintro (⟨a, ha, _⟩ | ⟨h0, x, hx, hn⟩)
          · cases ha
          · exact ⟨by omega, x, by rw [nxt h0]; exact hx, hn⟩
        · rintro ⟨h0, x, hx, hn⟩
          by_cases his : i = s
          · rw [now his] at hx
            cases hx
            exact absurd hn hq
          · exact .inr ⟨by omega, x, by rw [← nxt (by omega)]; exact hx, hn⟩
      cases o with
      | none =>
        rw [tl, no]
        unfold covered
        constructor
        · exact .inr
        · rintro (⟨a, ha, _⟩ | h)
          · cases ha
          · exact h
      | some b =>
        simp only [List.mem_cons, exists_eq_or_imp]
        rw [tl, no]
        unfold covered holds
        constructor
        · rintro (⟨h0, h1⟩ | h)
          · dsimp only at h0 h1
            exact .inl ⟨b, rfl, by omega, by omega⟩
          · exact .inr h
        · rintro (⟨a, ha, h0, h1⟩ | h)
          · cases ha
            exact .inl ⟨by dsimp only; omega, by dsimp only; omega⟩
          · exact .inr h
theorem groups_mem (l : List Int) (i : Nat) (h : i < l.length) : (∃ g ∈ groupsOf l, holds g i) ↔ neuK l[i] = true := by
  unfold groupsOf
  rw [grp_mem i l 0 none (fun a ha => by cases ha)]
  unfold covered
  constructor
  · rintro (⟨a, ha, _⟩ | ⟨_, x, hx, hn⟩)
    · cases ha
    · rw [Nat.sub_zero, List.getElem?_eq_getElem h] at hx
      cases hx
      exact hn
  · intro hn
    exact .inr ⟨by omega, l[i], by rw [Nat.sub_zero, List.getElem?_eq_getElem h], hn⟩
theorem fillR_get (v : Int) (i : Nat) : ∀ (n a : Nat) (out : List Int), (fillR out v a n)[i]? = if a ≤ i ∧ i < a + n ∧ i < out.length then some v else out[i]?
  | 0, a, out => by
    rw [fillR, if_neg (by omega)]
  | n + 1, a, out => by
    rw [fillR, fillR_get v i n (a + 1), List.length_set]
    by_cases h : a = i
    · subst h
      rw [if_neg (by omega)]
      by_cases hl : a < out.length
      · rw [if_pos (by omega), List.getElem?_set_self hl]
      · rw [if_neg (by omega), List.getElem?_eq_none (by rw [List.length_set]; omega), List.getElem?_eq_none (by omega)]
    · rw [List.getElem?_set_ne h]
      by_cases h2 : a ≤ i ∧ i < a + (n + 1) ∧ i < out.length
      · rw [if_pos h2, if_pos (by omega)]
      · rw [if_neg h2, if_neg (by omega)]
theorem fillG_out (f : G11 → Int) (i : Nat) : ∀ (gs : List G11) (out : List Int), (∀ g ∈ gs, 0 ≤ g.f0 ∧ ¬ holds g i) → (fillG f gs out)[i]? = out[i]?
  | [], out, h => rfl
  | g :: gs, out, h => by
    rw [fillG, fillG_out f i gs _ (fun x hx => h x (List.mem_cons_of_mem _ hx)), fillR_get]
    have hg := h g List.mem_cons_self
    unfold holds at hg
    rw [if_neg (by omega)]
theorem fillG_in (f : G11 → Int) (hf : ∀ g, f g = 0 ∨ f g = 1) (i : Nat) : ∀ (gs : List G11) (out : List Int), i < out.length → (∀ g ∈ gs, 0 ≤ g.f0) → ((out[i]? = some 0 ∨ out[i]? = some 1) ∨ ∃ g ∈ gs, holds g i) → (fillG f gs out)[i]? = some 0 ∨ (fillG f gs out)[i]? = some 1
  | [], out, hi, hz, h => by
    rcases h with h | ⟨g, hg, _⟩
    · exact h
    · cases hg
  | g :: gs, out, hi, hz, h => by
    rw [fillG]
    refine fillG_in f hf i gs _ (by rw [fillR_len]; exact hi) (fun x hx => hz x (List.mem_cons_of_mem _ hx)) ?_
    rw [fillR_get]
    have h0 := hz g List.mem_cons_self
    by_cases hg : holds g i
    · left
      unfold holds at hg
      rw [if_pos (by omega)]
      rcases hf g with e | e <;> rw [e]
      · exact .inl rfl
      · exact .inr rfl
    · have hn : ¬ (g.f0.toNat ≤ i ∧ i < g.f0.toNat + (g.f1.toNat - g.f0.toNat) ∧ i < out.length) := by
        unfold holds at hg
        omega
      rw [if_neg hn]
      rcases h with h | ⟨x, hx, hxi⟩
      · exact .inl h
      · rcases List.mem_cons.1 hx with rfl | hx
        · exact absurd hxi hg
        · exact .inr ⟨x, hx, hxi⟩
theorem neut_len (l : List Int) (x1 x2 x3 : Int) : (neutOf l x1 x2 x3).length = l.length := fillG_len _ _ _
theorem neut_stays (l : List Int) (x1 x2 x3 : Int) (i : Nat) (h : i < l.length) (hq : ¬ neuK l[i] = true) : rd (neutOf l x1 x2 x3) (i : Int) = l[i] := by
  rw [rd_nat, List.getD_eq_getElem?_getD]
  unfold neutOf
  rw [fillG_out _ _ _ _ (fun g hg => ⟨(groups_good l g hg).1, fun hh => hq ((groups_mem l i h).1 ⟨g, hg, hh⟩)⟩), List.getElem?_eq_getElem h, Option.getD_some]
theorem neut_goes (l : List Int) (x1 x2 x3 : Int) (i : Nat) (h : i < l.length) (hq : neuK l[i] = true) : rd (neutOf l x1 x2 x3) (i : Int) = 0 ∨ rd (neutOf l x1 x2 x3) (i : Int) = 1 := by
  rw [rd_nat, List.getD_eq_getElem?_getD]
  unfold neutOf
  rcases fillG_in (toOf l x1 x2 x3) (to01 l x1 x2 x3) i (groupsOf l) l h (fun g hg => (groups_good l g hg).1) (.inr ((groups_mem l i h).2 hq)) with e | e
  · rw [e]
    exact .inl rfl
  · rw [e]
    exact .inr rfl
theorem neut_none (l : List Int) (x1 x2 x3 : Int) (i : Nat) (h : i < l.length) : neuK (rd (neutOf l x1 x2 x3) (i : Int)) = false := by
  by_cases hq : neuK l[i] = true
  · rcases neut_goes l x1 x2 x3 i h hq with e | e <;> rw [e] <;> decide
  · rw [neut_stays l x1 x2 x3 i h hq]
    simpa using hq
theorem grp_none : ∀ (l : List Int) (s : Nat), (∀ c ∈ l, neuK c = false) → grp s none l = []
  | [], s, h => rfl
  | c :: l, s, h => by
    have hc := h c List.mem_cons_self
    have hq : ¬ neuK c = true := by rw [hc]; decide
    simp only [grp, if_neg hq]
    exact grp_none l (s + 1) (fun x hx => h x (List.mem_cons_of_mem _ hx))
theorem neut_twice (l : List Int) (x1 x2 x3 : Int) : neutOf (neutOf l x1 x2 x3) x1 x2 x3 = neutOf l x1 x2 x3 := by
  have e : groupsOf (neutOf l x1 x2 x3) = [] := by
    refine grp_none _ 0 fun c hc => ?_
    obtain ⟨i, hi, rfl⟩ := List.getElem_of_mem hc
    rw [← rd_get _ i hi]
    exact neut_none l x1 x2 x3 i (by rw [neut_len] at hi; exact hi)
  show fillG _ (groupsOf (neutOf l x1 x2 x3)) (neutOf l x1 x2 x3) = _
  rw [e]
  rfl
/-- How many places groups hold. -/
def sumG : List G11 → Nat
  | [] => 0
  | g :: gs => (g.f1 - g.f0).toNat + sumG gs
def cntN (l : List Int) : Nat := l.countP neuK
theorem grp_sum : ∀ (l : List Int) (s : Nat) (o : Option Nat), (∀ a, o = some a → a < s) → sumG (grp s o l) = (s - o.getD s) + cntN l
  | [], s, o, ho => by
    cases o with
    | none => simp [grp, sumG, cntN]
    | some a =>
      have := ho a rfl
      simp [grp, sumG, cntN] <;> omega
  | c :: l, s, o, ho => by
    by_cases hq : neuK c = true
    · simp only [grp, if_pos hq]
      rw [grp_sum l (s + 1) _ (fun a ha => by cases ha; cases o with | none => simp | some b => have := ho b rfl; simp; omega)]
      have : cntN (c :: l) = cntN l + 1 := by simp [cntN, hq]
      rw [this]
      cases o with
      | none => simp; omega
      | some b => have := ho b rfl; simp; omega
    · have hc : cntN (c :: l) = cntN l := by simp [cntN, hq]
      simp only [grp, if_neg hq]
      cases o with
      | none =>
        rw [hc, grp_sum l (s + 1) none (fun a ha => by cases ha)]
        simp
      | some b =>
        have := ho b rfl
        simp only [sumG]
        rw [hc, grp_sum l (s + 1) none (fun a ha => by cases ha)]
        simp <;> omega
theorem grp_above : ∀ (l : List Int) (s : Nat) (o : Option Nat), (∀ a, o = some a → a < s) → ∀ g ∈ grp s o l, ((o.getD s : Nat) : Int) ≤ g.f0
  | [], s, o, ho, g, hg => by
    cases o with
    | none => cases hg
    | some a =>
      simp only [grp, List.mem_singleton] at hg
      subst hg
      simp
  | c :: l, s, o, ho, g, hg => by
    by_cases hq : neuK c = true
    · simp only [grp, if_pos hq] at hg
      have := grp_above l (s + 1) _ (fun a ha => by cases ha; cases o with | none => simp | some b => have := ho b rfl; simp; omega) g hg
      simpa using this
    · simp only [grp, if_neg hq] at hg
      cases o with
      | none =>
        have := grp_above l (s + 1) none (fun a ha => by cases ha) g hg
        simp at this ⊢
        omega
      | some b =>
        have hb := ho b rfl
        rcases List.mem_cons.1 hg with rfl | hg
        · simp
        · have := grp_above l (s + 1) none (fun a ha => by cases ha) g hg
          simp at this ⊢
          omega
theorem grp_apart : ∀ (l : List Int) (s : Nat) (o : Option Nat), List.Pairwise (fun g h : G11 => g.f1 < h.f0) (grp s o l)
  | [], s, o => by
    cases o <;> simp [grp]
  | c :: l, s, o => by
    by_cases hq : neuK c = true
    · simp only [grp, if_pos hq]
      exact grp_apart l (s + 1) _
    · simp only [grp, if_neg hq]
      cases o with
      | none => exact grp_apart l (s + 1) none
      | some b =>
        refine List.pairwise_cons.2 ⟨fun g hg => ?_, grp_apart l (s + 1) none⟩
        have := grp_above l (s + 1) none (fun a ha => by cases ha) g hg
        simp at this ⊢
        omega
end Go.Proofs.Ytcmndocfadhonaa.P
