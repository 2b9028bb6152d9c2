/- Texts of this claim put together by a program of its own (PUtfE, PSwap, PSwapQ, POpen, PCase, PureSwapNone), what the law does not use left out: each part's statements bear their own conditions. -/
import Derived.Test.YthgmkbghdobmlaaC9
import Derived.Test.YthgmkbghdobmlaaC5
import Derived.Test.YthgmkbghdobmlaaC0
import Derived.Test.YthgmkbghdobmlaaC8
import Derived.Test.YthgmkbghdobmlaaC7
import Derived.Test.YthgmkbghdobmlaaC3
import Derived.Test.YthgmkbghdobmlaaC4
import Derived.Test.YthgmkbghdobmlaaC2
import Derived.Test.YthgmkbghdobmlaaC6
import Derived.OpenShut
import Derived.Lib.SmallJoins
import Derived.Deep.Fields
import Derived.Deep.Grids
import Derived.SizedLaws
import Derived.Deep.SlicePairs
import Derived.ChangeSlices
namespace Go.Proofs.Ythgmkbghdobmlaa.P
open Go.RowKit Go.Proofs.YthgmkbghdobmlaaW.PrintWords Go.Proofs.YthgmkbghdobmlaaW.PrintLast
set_option linter.unusedVariables false
set_option linter.unusedSimpArgs false

/-- Is it a character? -/
def RightC (c : Int) : Prop := 0 ≤ c ∧ c ≤ 1114111 ∧ (c < 55296 ∨ c > 57343)
instance (c : Int) : Decidable (RightC c) := inferInstanceAs (Decidable (0 ≤ c ∧ c ≤ 1114111 ∧ (c < 55296 ∨ c > 57343)))
theorem vrune_ev (c : Int) : Ev (fun k => utf8_ValidRune.f k c) (decide (RightC c)) := by
  have hj : ∀ b, (b = true → 0 ≤ c ∧ c < 55296) → (b = false → ¬ (0 ≤ c ∧ c < 55296)) → Ev (fun k => utf8_ValidRune.j0 k c b) (decide (RightC c)) := by
    intro b h1 h2
    refine ev_one fun k => ?_
    simp only [utf8_ValidRune.j0]
    cases b with
    | true =>
      have := h1 rfl
      rw [if_pos rfl, decide_eq_true (show RightC c from ⟨by omega, by omega, .inl (by omega)⟩)]
    | false =>
      have := h2 rfl
      rw [if_neg (by simp)]
      by_cases q1 : 57343 < c
      · rw [if_pos q1]
        by_cases q2 : c ≤ 1114111
        · rw [if_pos q2, decide_eq_true (show RightC c from ⟨by omega, q2, .inr q1⟩)]
        · rw [if_neg q2, decide_eq_false (show ¬ RightC c from fun h => q2 h.2.1)]
      · rw [if_neg q1, decide_eq_false (show ¬ RightC c from fun h => by have := h.1; have := h.2.2; omega)]
  by_cases h0 : 0 ≤ c
  · by_cases h1 : c < 55296
    · refine ev_same (hj true (fun _ => ⟨h0, h1⟩) (fun h => by cases h)) fun k hk => ?_
      unfold utf8_ValidRune.f
      rw [if_pos h0, decide_eq_true h1]
      exact hk
    · refine ev_same (hj false (fun h => by cases h) (fun _ h => h1 h.2)) fun k hk => ?_
      unfold utf8_ValidRune.f
      rw [if_pos h0, decide_eq_false h1]
      exact hk
  · refine ev_same (hj false (fun h => by cases h) (fun _ h => h0 h.1)) fun k hk => ?_
    unfold utf8_ValidRune.f
    rw [if_neg h0]
    exact hk
theorem wrap32_id {x : Int} (h0 : -2147483648 ≤ x) (h1 : x ≤ 2147483647) : wrap32 x = x := by
  unfold wrap32
  omega
theorem rightU_ev (c : Int) : Ev (fun k => utf_Right.f k c) (decide (RightC c)) := by
  by_cases h0 : c ≥ 0
  · by_cases h1 : c ≤ 1114111
    · have hw : wrap32 c = c := wrap32_id (by omega) (by omega)
      refine ev_same (vrune_ev c) fun k hk => ?_
      unfold utf_Right.f
      rw [if_pos h0, if_pos h1, hw, hk, Option.bind_some]
    · refine ev_now fun k => ?_
      unfold utf_Right.f
      rw [if_pos h0, if_neg h1, decide_eq_false (show ¬ RightC c from fun h => h1 h.2.1)]
  · refine ev_now fun k => ?_
    unfold utf_Right.f
    rw [if_neg h0, decide_eq_false (show ¬ RightC c from fun h => h0 h.1)]
def allR (l : List Int) : Prop := ∀ c ∈ l, RightC c
instance (l : List Int) : Decidable (allR l) := inferInstanceAs (Decidable (∀ c ∈ l, RightC c))
theorem sidx_loop (l : List Int) (hl : l.length < 9223372036854775807) (d : Nat) : ∀ i : Nat, i + d = l.length → ∃ r, Ev (fun k => slices_IndexFunc_int_swap_looked_1.l0 k l (l.length : Int) (i : Int)) r ∧ (r ≥ 0 ↔ ¬ allR (l.drop i)) := by
  induction d with
  | zero =>
    intro i hi
    refine ⟨-1, ev_one fun k => ?_, ?_⟩
    · simp only [slices_IndexFunc_int_swap_looked_1.l0]
      rw [if_neg (by omega)]
    · rw [List.drop_eq_nil_of_le (by omega)]
      simp [allR]
  | succ d ih =>
    intro i hi
    have hw : wrap64 ((i : Int) + 1) = ((i + 1 : Nat) : Int) := wrap_succ i (by omega)
    have he : Ev (fun k => swap_looked_1.f k (rd l (i : Int))) (!decide (RightC (rd l (i : Int)))) := ev_same (rightU_ev _) fun k hk => by
      unfold swap_looked_1.f
      rw [hk]
      rfl
    by_cases h : RightC (rd l (i : Int))
    · obtain ⟨r, hr, hi2⟩ := ih (i + 1) (by omega)
      refine ⟨r, ev_step2 he hr fun k hk hk2 => ?_, ?_⟩
      · simp only [slices_IndexFunc_int_swap_looked_1.l0]
        rw [if_pos (by omega), if_pos (by omega), if_pos (by omega), hk, decide_eq_true h, Option.bind_some, if_neg (by simp), hw]
        exact hk2
      · rw [hi2, drop_cons l i (by omega)]
        simp [allR, h]
    · refine ⟨(i : Int), ev_step he fun k hk => ?_, ?_⟩
      · simp only [slices_IndexFunc_int_swap_looked_1.l0]
        rw [if_pos (by omega), if_pos (by omega), if_pos (by omega), hk, decide_eq_false h, Option.bind_some, if_pos (by rfl)]
      · rw [drop_cons l i (by omega)]
        simp [allR, h]
theorem scontains_ev (l : List Int) (hl : l.length < 9223372036854775807) : Ev (fun k => slices_ContainsFunc_int_swap_looked_1.f k l) (!decide (allR l)) := by
  obtain ⟨r, hr, hi⟩ := sidx_loop l hl l.length 0 (by omega)
  rw [List.drop_zero] at hi
  refine ev_same hr fun k hk => ?_
  unfold slices_ContainsFunc_int_swap_looked_1.f slices_IndexFunc_int_swap_looked_1.f
  have hk : slices_IndexFunc_int_swap_looked_1.l0 k l (l.length : Int) 0 = some r := hk
  rw [hk, Option.bind_some]
  by_cases h : allR l
  · rw [decide_eq_true h, decide_eq_false (show ¬ r ≥ 0 from fun x => hi.1 x h)]
    rfl
  · rw [decide_eq_false h, decide_eq_true (show r ≥ 0 from hi.2 h)]
    rfl
end Go.Proofs.Ythgmkbghdobmlaa.P
namespace Go.Proofs.Ythgmkbghdobmlaa.P
open Go.RowKit Go.Proofs.YthgmkbghdobmlaaW.PrintWords Go.Proofs.YthgmkbghdobmlaaW.PrintLast Go.Proofs.YthgmkbghdobmlaaW.PrintMore
set_option linter.unusedVariables false
set_option linter.unusedSimpArgs false

theorem tr0 (c : Int) : tr 0 c = c := by
  unfold tr trM trF
  rw [if_pos (by decide), if_pos (by decide)]
theorem chrs0 (l : List Int) : chrs 0 l = l.filter nctl := by
  unfold chrs
  rw [show tr 0 = id from funext tr0, List.map_id]
theorem normOf_ev (l : List Int) (hl : l.length ≤ 9000) : Ev (fun k => norm_Of.f k l 0) (l.filter nctl, plcs l) := ⟨2 * l.length + 101, fun k hk => by
  have := norm_of_eq k l 0 hl (by omega)
  rw [chrs0] at this
  exact this⟩
theorem rnormOf_ev (l : List Int) (hl : l.length ≤ 9000) : Ev (fun k => ductusref23_Of.f k l 0) (l.filter nctl, plcs l) := ⟨l.length + 101, fun k hk => by
  have := rnorm_of_eq k l 0 hl (by omega)
  rw [chrs0] at this
  exact this⟩
theorem rplain_ev (l : List Int) (hl : l.length ≤ 9000) : Ev (fun k => ductusref27_Plain.f k l) (l.filter nctl) := ev_same (rnormOf_ev l hl) fun k hk => by
  unfold ductusref27_Plain.f
  rw [hk, Option.bind_some]
theorem splain_eq (l : List Int) (hl : l.length ≤ 9000) : swap_Plain.f l = some (l.filter nctl) := by
  unfold swap_Plain.f
  rw [if_pos (by omega)]
theorem ctl_eqB (l : List Int) (hl : l.length ≤ 9000) : balance_Controls.f l = some (l.filter opc) := by
  unfold balance_Controls.f
  rw [if_pos (by omega)]

abbrev F0 (sp : List S39) (i : Nat) : Int := (rd_T39 sp (i : Int)).f0
abbrev F1 (sp : List S39) (i : Nat) : Int := (rd_T39 sp (i : Int)).f1
theorem dropS (sp : List S39) (i : Nat) (h : i < sp.length) : sp.drop i = rd_T39 sp (i : Int) :: sp.drop (i + 1) := by
  rw [List.drop_eq_getElem_cons h]
  unfold rd_T39
  rw [Int.toNat_natCast, List.getD_eq_getElem?_getD, List.getElem?_eq_getElem h]
  rfl
theorem getS (sp : List S39) (i : Nat) (h : i < sp.length) : rd_T39 sp (i : Int) = sp[i] := by
  unfold rd_T39
  rw [Int.toNat_natCast, List.getD_eq_getElem?_getD, List.getElem?_eq_getElem h]
  rfl
def badS (sp : List S39) (m : Int) (i : Nat) : Prop := F0 sp i < 0 ∨ F1 sp i < F0 sp i ∨ F1 sp i > m
def badP (sp : List S39) (i : Nat) : Prop := 0 < i ∧ (F0 sp i < F1 sp (i - 1) ∨ F0 sp i = F0 sp (i - 1))
instance (sp : List S39) (m : Int) (i : Nat) : Decidable (badS sp m i) := inferInstanceAs (Decidable (_ ∨ _))
instance (sp : List S39) (i : Nat) : Decidable (badP sp i) := inferInstanceAs (Decidable (_ ∧ _))
def rightL (sp : List S39) (m : Int) : Nat → Nat → Bool
  | 0, _ => true
  | d + 1, i => if badS sp m i then false else if badP sp i then false else rightL sp m d (i + 1)
theorem scan_loop (sp : List S39) (m : Int) (hn : sp.length ≤ 500) (d : Nat) : ∀ i : Nat, i + d = sp.length → Ev (fun k => scan_Right.l0 k sp m sp (sp.length : Int) (i : Int)) (rightL sp m d i) := by
  induction d with
  | zero =>
    intro i hi
    refine ev_one fun k => ?_
    simp only [scan_Right.l0]
    rw [if_neg (by omega)]
    rfl
  | succ d ih =>
    intro i hi
    have hw : wrap64 ((i : Int) + 1) = ((i + 1 : Nat) : Int) := wrap_succ i (by omega)
    have hjT : Ev (fun k => scan_Right.j1 k sp m (i : Int) sp (sp.length : Int) (i : Int) true (F0 sp i) (F1 sp i)) false := ev_one fun k => by
      simp only [scan_Right.j1, if_true]
    have hjF : Ev (fun k => scan_Right.j1 k sp m (i : Int) sp (sp.length : Int) (i : Int) false (F0 sp i) (F1 sp i)) (if badP sp i then false else rightL sp m d (i + 1)) := by
        by_cases h0 : 0 < i
        · have hw1 : wrap64 ((i : Int) - 1) = ((i - 1 : Nat) : Int) := by
            rw [wrap_id (by omega) (by omega)]
            omega
          by_cases h1 : F0 sp i < F1 sp (i - 1)
          · refine ev_one fun k => ?_
            simp only [scan_Right.j1, Bool.false_eq_true, if_false]
            rw [if_pos (by omega), hw1, if_pos (by omega), if_pos (by omega), if_pos h1, if_pos ⟨h0, .inl h1⟩]
          · by_cases h2 : F0 sp i = F0 sp (i - 1)
            · refine ev_one fun k => ?_
              simp only [scan_Right.j1, Bool.false_eq_true, if_false]
              rw [if_pos (by omega), hw1, if_pos (by omega), if_pos (by omega), if_neg h1, if_pos h2, if_pos ⟨h0, .inr h2⟩]
            · refine ev_step (ih (i + 1) (by omega)) fun k hk => ?_
              simp only [scan_Right.j1, Bool.false_eq_true, if_false]
              rw [if_pos (by omega), hw1, if_pos (by omega), if_pos (by omega), if_neg h1, if_neg h2, hw, hk, if_neg (show ¬ badP sp i from fun h => h.2.elim h1 h2)]
        · refine ev_step (ih (i + 1) (by omega)) fun k hk => ?_
          simp only [scan_Right.j1, Bool.false_eq_true, if_false]
          rw [if_neg (by omega), hw, hk, if_neg (show ¬ badP sp i from fun h => h0 h.1)]
    by_cases h1 : F0 sp i < 0
    · refine ev_step hjT fun k hk => ?_
      simp only [scan_Right.l0]
      rw [if_pos (by omega), if_pos (by omega), if_pos (by omega), if_pos h1, hk]
      simp only [rightL]
      rw [if_pos (.inl h1)]
    · by_cases h2 : F1 sp i < F0 sp i
      · refine ev_step hjT fun k hk => ?_
        simp only [scan_Right.l0]
        rw [if_pos (by omega), if_pos (by omega), if_pos (by omega), if_neg h1, if_pos h2, hk]
        simp only [rightL]
        rw [if_pos (.inr (.inl h2))]
      · by_cases h3 : F1 sp i > m
        · refine ev_step hjT fun k hk => ?_
          simp only [scan_Right.l0]
          rw [if_pos (by omega), if_pos (by omega), if_pos (by omega), if_neg h1, if_neg h2, decide_eq_true h3, hk]
          simp only [rightL]
          rw [if_pos (.inr (.inr h3))]
        · refine ev_step hjF fun k hk => ?_
          simp only [scan_Right.l0]
          rw [if_pos (by omega), if_pos (by omega), if_pos (by omega), if_neg h1, if_neg h2, decide_eq_false h3, hk]
          simp only [rightL]
          rw [if_neg (show ¬ badS sp m i from fun h => h.elim h1 fun h => h.elim h2 h3)]
def rightM (sp : List S39) (m : Int) : Bool := rightL sp m sp.length 0
theorem scan_ev (sp : List S39) (m : Int) (hn : sp.length ≤ 500) : Ev (fun k => scan_Right.f k sp m) (rightM sp m) := scan_loop sp m hn sp.length 0 (by omega)
theorem right_at (sp : List S39) (m : Int) : ∀ (d i : Nat), i + d = sp.length → rightL sp m d i = true → ∀ j, i ≤ j → j < sp.length → ¬ badS sp m j ∧ ¬ badP sp j
  | 0, i, hi, _, j, h1, h2 => by omega
  | d + 1, i, hi, h, j, h1, h2 => by
    simp only [rightL] at h
    by_cases c1 : badS sp m i
    · rw [if_pos c1] at h
      cases h
    rw [if_neg c1] at h
    by_cases c2 : badP sp i
    · rw [if_pos c2] at h
      cases h
    rw [if_neg c2] at h
    by_cases e : j = i
    · subst e
      exact ⟨c1, c2⟩
    · exact right_at sp m d (i + 1) (by omega) h j (by omega) h2
theorem right_in {sp : List S39} {m : Int} (h : rightM sp m = true) (j : Nat) (hj : j < sp.length) : 0 ≤ F0 sp j ∧ F0 sp j ≤ F1 sp j ∧ F1 sp j ≤ m := by
  have := (right_at sp m sp.length 0 (by omega) h j (by omega) hj).1
  unfold badS at this
  omega
theorem right_up {sp : List S39} {m : Int} (h : rightM sp m = true) (i : Nat) : ∀ j : Nat, i < j → j < sp.length → F1 sp i ≤ F0 sp j := by
  intro j hij hj
  induction j with
  | zero => omega
  | succ j ih =>
    have h2 := (right_at sp m sp.length 0 (by omega) h (j + 1) (by omega) hj).2
    have h3 := right_in h j (by omega)
    have e : j + 1 - 1 = j := by omega
    unfold badP at h2
    rw [e] at h2
    by_cases e2 : i = j
    · subst e2
      omega
    · have := ih (by omega) (by omega)
      omega
/-- Spans in order, each within n. -/
def Good (n : Int) (sp : List S39) : Prop := (∀ s ∈ sp, 0 ≤ s.f0 ∧ s.f0 ≤ s.f1 ∧ s.f1 ≤ n) ∧ sp.Pairwise (fun a b => a.f1 ≤ b.f0)
theorem right_good {sp : List S39} {m : Int} (h : rightM sp m = true) : Good m sp := by
  constructor
  · intro s hs
    obtain ⟨i, hi, rfl⟩ := List.mem_iff_getElem.1 hs
    have := right_in h i hi
    unfold F0 F1 at this
    rw [getS sp i hi] at this
    exact this
  · rw [List.pairwise_iff_getElem]
    intro i j hi hj hij
    have := right_up h i j hij hj
    unfold F0 F1 at this
    rw [getS sp i hi, getS sp j hj] at this
    exact this

def exM (l at_ pl : List Int) : List S39 → List Int → Int → List Int × Int
  | [], out, last => if (((out ++ l.drop last.toNat).length : Nat) : Int) > 8000 then ([], 2) else (out ++ l.drop last.toNat, 0)
  | s :: sp, out, last => if (((out ++ (l.take (backOf at_ s.f0 s.f1).1.toNat).drop last.toNat ++ pl ++ ((l.take (backOf at_ s.f0 s.f1).2.1.toNat).drop (backOf at_ s.f0 s.f1).1.toNat).filter opc).length : Nat) : Int) > 8000 then ([], 2) else exM l at_ pl sp (out ++ (l.take (backOf at_ s.f0 s.f1).1.toNat).drop last.toNat ++ pl ++ ((l.take (backOf at_ s.f0 s.f1).2.1.toNat).drop (backOf at_ s.f0 s.f1).1.toNat).filter opc) (backOf at_ s.f0 s.f1).2.1
def Fits (l at_ : List Int) : List S39 → Int → Prop
  | [], last => 0 ≤ last ∧ last ≤ (l.length : Int)
  | s :: sp, last => (0 ≤ last ∧ last ≤ (backOf at_ s.f0 s.f1).1 ∧ (backOf at_ s.f0 s.f1).1 ≤ (backOf at_ s.f0 s.f1).2.1 ∧ (backOf at_ s.f0 s.f1).2.1 ≤ (l.length : Int)) ∧ Fits l at_ sp (backOf at_ s.f0 s.f1).2.1
theorem mid_len (l : List Int) (a b : Nat) : ((l.take b).drop a).length ≤ l.length := by
  rw [List.length_drop, List.length_take]
  omega
theorem ex_loop (l at_ pl : List Int) (sp : List S39) (hl : l.length ≤ 500) (ha : at_.length ≤ 501) (hp : pl.length ≤ 500) (hs : sp.length ≤ 500) (d : Nat) : ∀ (i : Nat) (out : List Int) (last : Int), i + d = sp.length → out.length ≤ 8000 → Fits l at_ (sp.drop i) last →
    Ev (fun k => swap_exchange.l0 k l at_ sp pl out last (i : Int)) (exM l at_ pl (sp.drop i) out last) := by
  induction d with
  | zero =>
    intro i out last hi ho hf
    rw [List.drop_eq_nil_of_le (by omega)] at hf ⊢
    refine ev_one fun k => ?_
    simp only [swap_exchange.l0]
    have hd : (l.drop last.toNat).length ≤ l.length := by rw [List.length_drop]; omega
    rw [if_neg (by omega), if_pos (show 0 ≤ last ∧ last ≤ (l.length : Int) from hf), if_pos (by omega)]
    simp only [exM]
    split <;> rfl
  | succ d ih =>
    intro i out last hi ho hf
    rw [dropS sp i (by omega)] at hf ⊢
    have hw : wrap64 ((i : Int) + 1) = ((i + 1 : Nat) : Int) := wrap_succ i (by omega)
    obtain ⟨hf1, hf2⟩ := hf
    simp only [exM]
    obtain ⟨B, hB⟩ : ∃ B, backOf at_ (rd_T39 sp (i : Int)).f0 (rd_T39 sp (i : Int)).f1 = B := ⟨_, rfl⟩
    rw [hB] at hf1 hf2 ⊢
    have hbk : norm_Back.f at_ (rd_T39 sp (i : Int)).f0 (rd_T39 sp (i : Int)).f1 = some B := by rw [back_eq at_ (by omega), hB]
    have m1 := mid_len l last.toNat B.1.toNat
    have m2 := mid_len l B.1.toNat B.2.1.toNat
    have m3 := List.length_filter_le opc ((l.take B.2.1.toNat).drop B.1.toNat)
    have hct : balance_Controls.f ((l.take B.2.1.toNat).drop B.1.toNat) = some (((l.take B.2.1.toNat).drop B.1.toNat).filter opc) := ctl_eqB _ (by omega)
    obtain ⟨o, ho2⟩ : ∃ o, out ++ (l.take B.1.toNat).drop last.toNat ++ pl ++ ((l.take B.2.1.toNat).drop B.1.toNat).filter opc = o := ⟨_, rfl⟩
    have hfl : ([out, (l.take B.1.toNat).drop last.toNat, pl, ((l.take B.2.1.toNat).drop B.1.toNat).filter opc] : List (List Int)).flatten = o := by rw [← ho2]; simp
    have hol : o.length ≤ 10000 := by
      rw [← ho2]
      simp only [List.length_append]
      omega
    rw [ho2]
    by_cases c : ((o.length : Nat) : Int) > 8000
    · refine ev_one fun k => ?_
      simp only [swap_exchange.l0]
      rw [if_pos (by omega), if_pos (by omega), hbk, Option.bind_some, if_pos hf1, hct, Option.bind_some, hfl, if_pos (by omega), if_pos c, if_pos c]
    · refine ev_step (ih (i + 1) o B.2.1 (by omega) (by omega) hf2) fun k hk => ?_
      simp only [swap_exchange.l0]
      rw [if_pos (by omega), if_pos (by omega), hbk, Option.bind_some, if_pos hf1, hct, Option.bind_some, hfl, if_pos (by omega), if_neg c, if_neg c, hw]
      exact hk
def cntM (l : List Int) : Int := ((l.filter nctl).length : Int)
theorem plcs_le (l : List Int) (i j : Int) (h0 : 0 ≤ i) (h : i ≤ j) (hj : j ≤ cntM l) : rd (plcs l) i ≤ rd (plcs l) j := by
  unfold cntM at hj
  obtain ⟨a, rfl⟩ := Int.eq_ofNat_of_zero_le h0
  obtain ⟨b, rfl⟩ := Int.eq_ofNat_of_zero_le (Int.le_trans h0 h)
  by_cases e : a = b
  · subst e
    exact Int.le_refl _
  · exact Int.le_of_lt (plcs_mono l a b (by omega) (by omega))
theorem plcs_rng (l : List Int) (i : Int) (h0 : 0 ≤ i) (hj : i ≤ cntM l) : 0 ≤ rd (plcs l) i ∧ rd (plcs l) i ≤ (l.length : Int) := by
  unfold cntM at hj
  obtain ⟨a, rfl⟩ := Int.eq_ofNat_of_zero_le h0
  have hlt : a < (plcs l).length := by rw [plcs_len]; omega
  have := plcs_in l _ (List.getElem_mem hlt)
  rw [rd_get (plcs l) a hlt]
  exact this
/-- What a span's place is. -/
theorem back_at (l : List Int) (hl : l.length ≤ 9000) (a b : Int) (h0 : 0 ≤ a) (h1 : a ≤ b) (h2 : b ≤ cntM l) :
    backOf (plcs l) a b = (rd (plcs l) a, (if b > a then rd (plcs l) (b - 1) + 1 else rd (plcs l) a), true) := by
  unfold backOf
  have hp : b < ((plcs l).length : Int) := by
    rw [plcs_len]
    unfold cntM at h2
    omega
  rw [if_pos ⟨h0, h1, hp⟩]
  by_cases h : b > a
  · rw [if_pos h, if_pos h]
    have := plcs_rng l (b - 1) (by omega) (by omega)
    rw [wrap_id (by omega) (by omega)]
  · rw [if_neg h, if_neg h]
theorem back_fit (l : List Int) (hl : l.length ≤ 9000) (a b : Int) (h0 : 0 ≤ a) (h1 : a ≤ b) (h2 : b ≤ cntM l) :
    0 ≤ (backOf (plcs l) a b).1 ∧ (backOf (plcs l) a b).1 ≤ (backOf (plcs l) a b).2.1 ∧ (backOf (plcs l) a b).2.1 ≤ (l.length : Int) ∧ ∀ c : Int, b ≤ c → c ≤ cntM l → (backOf (plcs l) a b).2.1 ≤ rd (plcs l) c := by
  rw [back_at l hl a b h0 h1 h2]
  have r1 := plcs_rng l a h0 (by omega)
  by_cases h : b > a
  · simp only [if_pos h]
    have e := plcs_le l a (b - 1) h0 (by omega) (by omega)
    obtain ⟨x, hx⟩ := Int.eq_ofNat_of_zero_le (show 0 ≤ b - 1 by omega)
    have e2 := plcs_lt l x (by unfold cntM at h2; omega)
    rw [← hx] at e2
    refine ⟨r1.1, by omega, by omega, fun c hc hc2 => ?_⟩
    obtain ⟨y, hy⟩ := Int.eq_ofNat_of_zero_le (show 0 ≤ c by omega)
    have e3 := plcs_mono l x y (by omega) (by unfold cntM at hc2; omega)
    rw [← hx, ← hy] at e3
    omega
  · simp only [if_neg h]
    exact ⟨r1.1, Int.le_refl _, r1.2, fun c hc hc2 => plcs_le l a c h0 (by omega) hc2⟩
theorem fits_of (l : List Int) (hl : l.length ≤ 9000) : ∀ (sp : List S39) (last : Int), Good (cntM l) sp → 0 ≤ last → last ≤ (l.length : Int) → (∀ s ∈ sp, last ≤ rd (plcs l) s.f0) → Fits l (plcs l) sp last
  | [], last, hg, h0, h1, _ => ⟨h0, h1⟩
  | s :: sp, last, hg, h0, h1, h2 => by
    obtain ⟨b0, b1, b2⟩ := hg.1 s (by simp)
    obtain ⟨f0, f1, f2, f3⟩ := back_fit l hl s.f0 s.f1 b0 b1 b2
    have hh := h2 s (by simp)
    have hb : (backOf (plcs l) s.f0 s.f1).1 = rd (plcs l) s.f0 := by rw [back_at l hl _ _ b0 b1 b2]
    refine ⟨⟨h0, by omega, f1, f2⟩, fits_of l hl sp _ ⟨fun t ht => hg.1 t (by simp [ht]), (List.pairwise_cons.1 hg.2).2⟩ (by omega) f2 fun t ht => ?_⟩
    have e := (List.pairwise_cons.1 hg.2).1 t ht
    obtain ⟨c0, c1, c2⟩ := hg.1 t (by simp [ht])
    exact f3 t.f0 e (by omega)
theorem fits0 (l : List Int) (hl : l.length ≤ 9000) (sp : List S39) (hg : Good (cntM l) sp) : Fits l (plcs l) sp 0 :=
  fits_of l hl sp 0 hg (by omega) (by omega) fun s hs => (plcs_rng l s.f0 (hg.1 s hs).1 (by have := hg.1 s hs; omega)).1

def okM (l w : List Int) (sp : List S39) : Bool := decide (allR l) && (decide (allR w) && rightM sp (cntM l))
theorem okM_right {l w : List Int} {sp : List S39} (h : okM l w sp = true) : rightM sp (cntM l) = true := by
  unfold okM at h
  simp only [Bool.and_eq_true] at h
  exact h.2.2
def allM (l : List Int) (sp : List S39) (w : List Int) : List Int × Int := if okM l w sp = true then exM l (plcs l) (w.filter nctl) sp [] 0 else ([], 1)
theorem plcs_cnt (l : List Int) (hl : l.length ≤ 9000) : wrap64 (((plcs l).length : Int) - 1) = cntM l := by
  have h1 := plcs_len l
  have h2 := List.length_filter_le nctl l
  unfold cntM
  rw [wrap_id (by omega) (by omega)]
  omega
theorem looked_ev (l w : List Int) (sp : List S39) (hl : l.length ≤ 500) (hs : sp.length ≤ 500) (hw : w.length ≤ 500) : Ev (fun k => swap_looked.f k l sp w) (plcs l, okM l w sp) := by
  have hm := plcs_cnt l (by omega)
  refine ev_same2 (ev_and (normOf_ev l (by omega)) (scontains_ev l (by omega))) (ev_and (scontains_ev w (by omega)) (scan_ev sp (cntM l) hs)) fun k hk hk2 => ?_
  obtain ⟨e1, e2⟩ := ev_fst hk
  obtain ⟨e3, e4⟩ := ev_fst hk2
  unfold swap_looked.f okM
  rw [e1, Option.bind_some, e2, Option.bind_some]
  by_cases h1 : allR l
  · rw [decide_eq_true h1, if_neg (by simp), e3, Option.bind_some]
    by_cases h2 : allR w
    · rw [decide_eq_true h2, if_neg (by simp), hm, e4, Option.bind_some]
      rfl
    · rw [decide_eq_false h2, if_pos (by simp)]
      rfl
  · rw [decide_eq_false h1, if_pos (by simp)]
    rfl
theorem plcs_short (l : List Int) (hl : l.length ≤ 500) : (plcs l).length ≤ 501 := by
  have h1 := plcs_len l
  have h2 := List.length_filter_le nctl l
  omega
theorem exch_ev (l w : List Int) (sp : List S39) (hl : l.length ≤ 500) (hs : sp.length ≤ 500) (hw : w.length ≤ 500) (hg : Good (cntM l) sp) : Ev (fun k => swap_exchange.f k l (plcs l) sp w) (exM l (plcs l) (w.filter nctl) sp [] 0) := by
  have h2 := List.length_filter_le nctl w
  refine ev_same (ex_loop l (plcs l) (w.filter nctl) sp hl (plcs_short l hl) (by omega) hs sp.length 0 [] 0 (by omega) (by simp) (fits0 l (by omega) sp hg)) fun k hk => ?_
  unfold swap_exchange.f
  rw [splain_eq w (by omega), Option.bind_some]
  exact hk
theorem all_ev (l w : List Int) (sp : List S39) (hl : l.length ≤ 500) (hs : sp.length ≤ 500) (hw : w.length ≤ 500) : Ev (fun k => swap_All.f k l sp w) (allM l sp w) := by
  by_cases h : okM l w sp = true
  · refine ev_same2 (looked_ev l w sp hl hs hw) (exch_ev l w sp hl hs hw (right_good (okM_right h))) fun k h1 h2 => ?_
    unfold swap_All.f allM
    rw [h1, Option.bind_some, if_pos h, if_pos h]
    exact h2
  · refine ev_same (looked_ev l w sp hl hs hw) fun k h1 => ?_
    unfold swap_All.f allM
    rw [h1, Option.bind_some, if_neg h, if_neg h]
/-- Those that are told, if they rise. -/
def chM (sp : List S39) (wh : List Int) : Nat → Nat → Int → List S39 → Option (List S39)
  | 0, _, _, kept => some kept
  | d + 1, i, last, kept => if rd wh (i : Int) ≤ last ∨ (sp.length : Int) ≤ rd wh (i : Int) then none else chM sp wh d (i + 1) (rd wh (i : Int)) (kept ++ [rd_T39 sp (rd wh (i : Int))])
def chE (l w : List Int) (o : Option (List S39)) : List Int × Int := match o with
  | none => ([], 12)
  | some kept => exM l (plcs l) (w.filter nctl) kept [] 0
def someM (l : List Int) (sp : List S39) (wh w : List Int) : List Int × Int := if okM l w sp = true then chE l w (chM sp wh wh.length 0 (-1) []) else ([], 1)
def Inv (sp : List S39) (n : Int) (last : Int) (kept : List S39) : Prop := Good n kept ∧ ∀ s ∈ kept, ∀ j : Nat, last < (j : Int) → j < sp.length → s.f1 ≤ F0 sp j
theorem inv_step {sp : List S39} {n : Int} (hr : rightM sp n = true) {last : Int} {kept : List S39} (h : Inv sp n last kept) (z : Int) (h0 : 0 ≤ z) (h1 : last < z) (h2 : z < (sp.length : Int)) : Inv sp n z (kept ++ [rd_T39 sp z]) := by
  obtain ⟨j, rfl⟩ := Int.eq_ofNat_of_zero_le h0
  have hj : j < sp.length := by omega
  have hb := right_in hr j hj
  refine ⟨⟨?_, ?_⟩, ?_⟩
  · intro s hs
    rcases List.mem_append.1 hs with hs | hs
    · exact h.1.1 s hs
    · obtain rfl := List.mem_singleton.1 hs
      exact hb
  · refine List.pairwise_append.2 ⟨h.1.2, List.pairwise_singleton _ _, fun a ha b hb2 => ?_⟩
    obtain rfl := List.mem_singleton.1 hb2
    exact h.2 a ha j h1 hj
  · intro s hs k hk hk2
    rcases List.mem_append.1 hs with hs | hs
    · exact h.2 s hs k (by omega) hk2
    · obtain rfl := List.mem_singleton.1 hs
      exact right_up hr j k (by omega) hk2
theorem inv_nil (sp : List S39) (n last : Int) : Inv sp n last [] := ⟨⟨by simp, List.Pairwise.nil⟩, by simp⟩
theorem some_loop (l w : List Int) (sp : List S39) (wh : List Int) (hl : l.length ≤ 500) (hs : sp.length ≤ 500) (hw : w.length ≤ 500) (hwh : wh.length ≤ 500) (hr : rightM sp (cntM l) = true) (d : Nat) :
    ∀ (i : Nat) (last : Int) (kept : List S39), i + d = wh.length → -1 ≤ last → kept.length ≤ i → Inv sp (cntM l) last kept → Ev (fun k => swap_Some.l0 k l (plcs l) sp wh w kept last (i : Int)) (chE l w (chM sp wh d i last kept)) := by
  induction d with
  | zero =>
    intro i last kept hi hla hk hv
    refine ev_step (exch_ev l w kept hl (by omega) hw hv.1) fun k hk => ?_
    simp only [swap_Some.l0]
    rw [if_neg (by omega)]
    exact hk
  | succ d ih =>
    intro i last kept hi hla hk hv
    have hw1 : wrap64 ((i : Int) + 1) = ((i + 1 : Nat) : Int) := wrap_succ i (by omega)
    simp only [chM]
    by_cases c1 : rd wh (i : Int) ≤ last
    · rw [if_pos (.inl c1)]
      refine ev_one fun k => ?_
      simp only [swap_Some.l0]
      rw [if_pos (by omega), if_pos (by omega), if_pos c1]
      rfl
    · by_cases c2 : (sp.length : Int) ≤ rd wh (i : Int)
      · rw [if_pos (.inr c2)]
        refine ev_one fun k => ?_
        simp only [swap_Some.l0]
        rw [if_pos (by omega), if_pos (by omega), if_neg c1, if_pos c2]
        rfl
      · rw [if_neg (fun h => h.elim c1 c2)]
        refine ev_step (ih (i + 1) (rd wh (i : Int)) (kept ++ [rd_T39 sp (rd wh (i : Int))]) (by omega) (by omega) (by rw [List.length_append]; simp; omega) (inv_step hr hv _ (by omega) (by omega) (by omega))) fun k hk2 => ?_
        simp only [swap_Some.l0]
        rw [if_pos (by omega), if_pos (by omega), if_neg c1, if_neg c2, if_pos (by omega), if_pos (by omega), hw1]
        exact hk2
theorem some_ev (l w : List Int) (sp : List S39) (wh : List Int) (hl : l.length ≤ 500) (hs : sp.length ≤ 500) (hw : w.length ≤ 500) (hwh : wh.length ≤ 500) : Ev (fun k => swap_Some.f k l sp wh w) (someM l sp wh w) := by
  by_cases h : okM l w sp = true
  · refine ev_same2 (looked_ev l w sp hl hs hw) (some_loop l w sp wh hl hs hw hwh (okM_right h) wh.length 0 (-1) [] (by omega) (by omega) (by simp) (inv_nil _ _ _)) fun k h1 h2 => ?_
    unfold swap_Some.f someM
    rw [h1, Option.bind_some, if_pos h, if_pos h]
    exact h2
  · refine ev_same (looked_ev l w sp hl hs hw) fun k h1 => ?_
    unfold swap_Some.f someM
    rw [h1, Option.bind_some, if_neg h, if_neg h]
end Go.Proofs.Ythgmkbghdobmlaa.P
namespace Go.Proofs.Ythgmkbghdobmlaa.P
open Go.RowKit Go.Proofs.YthgmkbghdobmlaaW.PrintWords Go.Proofs.YthgmkbghdobmlaaW.PrintLast Go.Proofs.YthgmkbghdobmlaaW.PrintMore
set_option linter.unusedVariables false
set_option linter.unusedSimpArgs false

theorem alive27 : Ev (fun k => ductuslaw27_alive.f k) true := Ev.of ductuslaw27_alive.mono (k := 300) (by decide +kernel)
theorem ints_ev (a : List Int) (h : a.length < 9223372036854775807) : Ev (fun k => ductusref01_Ints.f k a a) true := ⟨a.length + 1, fun k hk => ints_same k a h (by omega)⟩
theorem great_no {l0 : List Int} {l1 : List S39} {l2 : List Int} (h0 : l0.length ≤ 500) (h1 : l1.length ≤ 500) (h2 : l2.length ≤ 500) : ductuslaw27_great.f l0 l1 l2 = some false := by
  unfold ductuslaw27_great.f
  rw [if_neg (by omega), if_neg (by omega), decide_eq_false (by omega)]
theorem great_yes {l0 : List Int} {l1 : List S39} {l2 : List Int} (h : ¬ (l0.length ≤ 500 ∧ l1.length ≤ 500 ∧ l2.length ≤ 500)) : ductuslaw27_great.f l0 l1 l2 = some true := by
  unfold ductuslaw27_great.f
  by_cases h0 : l0.length ≤ 500
  · rw [if_neg (by omega)]
    by_cases h1 : l1.length ≤ 500
    · rw [if_neg (by omega), decide_eq_true (by omega)]
    · rw [if_pos (by omega)]
  · rw [if_pos (by omega)]
theorem opc_ctl {c : Int} (h : opc c = true) : ctl c = true := by
  unfold opc opcK closerK at h
  unfold ctl ctlK opnK outK
  generalize cls c = k at h ⊢
  simp only [Bool.or_eq_true, decide_eq_true_eq, beq_iff_eq, List.mem_cons, List.not_mem_nil, or_false]
  simp only [Bool.or_eq_true, decide_eq_true_eq] at h
  rcases h with h | h
  · split at h
    · omega
    · split at h
      · omega
      · exact absurd rfl h
  · omega
theorem opc_plain (l : List Int) : (l.filter opc).filter nctl = [] := by
  rw [List.filter_eq_nil_iff]
  intro x hx
  have := opc_ctl (List.mem_filter.1 hx).2
  unfold nctl
  rw [this]
  decide
theorem filter_two (p : Int → Bool) (l : List Int) : (l.filter p).filter p = l.filter p := by
  rw [List.filter_filter]
  simp
/-- What an exchange can end in. -/
theorem ex_ends (l at_ pl : List Int) : ∀ (sp : List S39) (out : List Int) (last : Int), exM l at_ pl sp out last = ([], 2) ∨ ∃ o, exM l at_ pl sp out last = (o, 0) ∧ o.length ≤ 8000
  | [], out, last => by
    simp only [exM]
    by_cases c : (((out ++ l.drop last.toNat).length : Nat) : Int) > 8000
    · rw [if_pos c]
      exact .inl rfl
    · rw [if_neg c]
      exact .inr ⟨_, rfl, by omega⟩
  | s :: sp, out, last => by
    simp only [exM]
    split
    · exact .inl rfl
    · exact ex_ends l at_ pl sp _ _
theorem pos_at (l : List Int) (i : Int) (h0 : 0 ≤ i) (h1 : i ≤ cntM l) : (l.take (rd (plcs l) i).toNat).filter nctl = (l.filter nctl).take i.toNat := by
  unfold cntM at h1
  obtain ⟨j, rfl⟩ := Int.eq_ofNat_of_zero_le h0
  by_cases e : j = (l.filter nctl).length
  · subst e
    rw [plcs_end, Int.toNat_natCast, Int.toNat_natCast, List.take_length, List.take_length]
  · have hj : j < (l.filter nctl).length := by omega
    have hp : (placesOf nctl 0 l)[j]? = some (rd (plcs l) (j : Int)) := by
      rw [plcs_at l j hj, List.getElem?_eq_getElem]
    have := (take_place nctl l 0 j _ hp).1
    rw [Nat.sub_zero] at this
    rw [this, Int.toNat_natCast]
theorem pos_end (l : List Int) (hl : l.length ≤ 9000) (a b : Int) (h0 : 0 ≤ a) (h1 : a ≤ b) (h2 : b ≤ cntM l) : (l.take (backOf (plcs l) a b).2.1.toNat).filter nctl = (l.filter nctl).take b.toNat := by
  rw [back_at l hl a b h0 h1 h2]
  by_cases h : b > a
  · simp only [if_pos h]
    unfold cntM at h2
    obtain ⟨j, hj⟩ := Int.eq_ofNat_of_zero_le (show 0 ≤ b - 1 by omega)
    have hjl : j < (l.filter nctl).length := by omega
    have hp : (placesOf nctl 0 l)[j]? = some (rd (plcs l) (j : Int)) := by
      rw [plcs_at l j hjl, List.getElem?_eq_getElem]
    have h3 := (take_place nctl l 0 j _ hp).2.1
    have h4 := (plcs_lt l j hjl).1
    rw [Nat.sub_zero] at h3
    rw [hj, show (rd (plcs l) (j : Int) + 1).toNat = (rd (plcs l) (j : Int)).toNat + 1 by omega, h3, show b.toNat = j + 1 by omega]
  · simp only [if_neg h]
    rw [pos_at l a h0 (by omega), show b = a by omega]
/-- The text without controls, with spans exchanged. -/
def wantM (P pl : List Int) : List S39 → List Int → Int → List Int
  | [], out, q => out ++ P.drop q.toNat
  | s :: sp, out, q => wantM P pl sp (out ++ (P.take s.f0.toNat).drop q.toNat ++ pl) s.f1
theorem drop_filter (p : Int → Bool) (l : List Int) (a m : Nat) (hm : m ≤ (l.filter p).length) (h : (l.take a).filter p = (l.filter p).take m) : (l.drop a).filter p = (l.filter p).drop m := by
  have e : l.filter p = (l.take a).filter p ++ (l.drop a).filter p := by rw [← List.filter_append, List.take_append_drop]
  have e2 := congrArg (List.drop m) e
  rw [h, List.drop_left' (by rw [List.length_take]; omega)] at e2
  exact e2.symm
theorem ex_plain (l w : List Int) (hl : l.length ≤ 9000) : ∀ (sp : List S39) (out : List Int) (last q : Int) (o : List Int), Good (cntM l) sp → 0 ≤ q → q ≤ cntM l → (∀ s ∈ sp, q ≤ s.f0) → 0 ≤ last → last ≤ (l.length : Int) → (∀ s ∈ sp, last ≤ rd (plcs l) s.f0) →
    (l.take last.toNat).filter nctl = (l.filter nctl).take q.toNat → exM l (plcs l) (w.filter nctl) sp out last = (o, 0) → o.filter nctl = wantM (l.filter nctl) (w.filter nctl) sp (out.filter nctl) q
  | [], out, last, q, o, hg, hq0, hq1, hq2, h0, h1, h2, hp, he => by
    simp only [exM] at he
    unfold cntM at hq1
    by_cases c : (((out ++ l.drop last.toNat).length : Nat) : Int) > 8000
    · rw [if_pos c] at he
      exact absurd (congrArg Prod.snd he) (show ¬ (2 : Int) = 0 by decide)
    · rw [if_neg c] at he
      obtain rfl := congrArg Prod.fst he
      simp only [wantM]
      rw [List.filter_append, drop_filter nctl l last.toNat q.toNat (by omega) hp]
  | s :: sp, out, last, q, o, hg, hq0, hq1, hq2, h0, h1, h2, hp, he => by
    obtain ⟨b0, b1, b2⟩ := hg.1 s (by simp)
    obtain ⟨f0, f1, f2, f3⟩ := back_fit l hl s.f0 s.f1 b0 b1 b2
    have hh := h2 s (by simp)
    have hb : (backOf (plcs l) s.f0 s.f1).1 = rd (plcs l) s.f0 := by rw [back_at l hl _ _ b0 b1 b2]
    have hpe := pos_end l hl s.f0 s.f1 b0 b1 b2
    have hqs := hq2 s (by simp)
    simp only [exM] at he
    have hcn : cntM l = ((l.filter nctl).length : Int) := rfl
    split at he
    · exact absurd (congrArg Prod.snd he) (show ¬ (2 : Int) = 0 by decide)
    · have ih := ex_plain l w hl sp _ _ s.f1 o ⟨fun t ht => hg.1 t (by simp [ht]), (List.pairwise_cons.1 hg.2).2⟩ (by omega) b2 (List.pairwise_cons.1 hg.2).1 (by omega) f2
        (fun t ht => f3 t.f0 ((List.pairwise_cons.1 hg.2).1 t ht) (by have := hg.1 t (by simp [ht]); omega)) hpe he
      rw [ih]
      simp only [wantM]
      rw [List.filter_append, List.filter_append, List.filter_append, opc_plain, List.append_nil, filter_two, hb,
        mid_filter nctl l last.toNat (rd (plcs l) s.f0).toNat q.toNat s.f0.toNat (by omega) (by omega) (by omega) hp (pos_at l s.f0 b0 (by omega))]
end Go.Proofs.Ythgmkbghdobmlaa.P
namespace Go.Proofs.Ythgmkbghdobmlaa.P
open Go.Joins Go.Deep Go.ChangeShapes Go.WideShapes
set_option linter.unusedVariables false
variable {H : Type} {enc : TypeId × Value → H} {P : Program} {w : World} {base : Nat} {spare : Nat → Bool} {held : Bool}

theorem open_str3 {r : Reach} {b0 : Nat} {t : TypeId} {f0 f1 f2 : Field} {v : Value} {d : DataW H} {p : List MemPlace} (hs : P.underlying t = some (.struct #[f0, f1, f2])) (hone : oneCellFields P #[f0, f1, f2] = true) (hC : P.cellsOf t = 3) (hv : Value.okWide P w r b0 t v) (h : DataW.Trod enc P w base spare held t v d p) :
    ∃ (v0 v1 v2 : Value) (y0 y1 y2 : DataW H × List MemPlace) (n : Nat), v = .agg #[v0, v1, v2] ∧ True ∧ True ∧ DataW.trod enc P w base spare held n f0.type [v0] = some y0 ∧ DataW.trod enc P w base spare held n f1.type [v1] = some y1 ∧ DataW.trod enc P w base spare held n f2.type [v2] = some y2 := by
  obtain ⟨v0, v1, v2, y0, y1, y2, n, h1, _, _, h2, h3, h4⟩ := open_agg3 hs hone hC hv h
  exact ⟨v0, v1, v2, y0, y1, y2, n, h1, trivial, trivial, h2, h3, h4⟩

end Go.Proofs.Ythgmkbghdobmlaa.P
namespace Go.Proofs.Ythgmkbghdobmlaa.P
open Go.Joins Go.Deep Go.ChangeShapes Go.WideShapes
open Go.Proofs.YthgmkbghdobmlaaW.PrintWords
set_option linter.unusedVariables false
variable {H : Type} {enc : TypeId × Value → H} {P : Program} {w : World} {base : Nat} {held : Bool}

/-- A whole number that its kind holds. -/
abbrev fits (k : IntKind) (x : Int) : Prop := (Lit.int k x).wf = true
theorem open_ints1 {t e : TypeId} {k : IntKind} {n : Nat} {v : Value} {y : DataW H × List MemPlace} (ht : P.underlying t = some (.slice e)) (he : P.underlying e = some (.int k)) (hc : P.cellsOf e = 1)
    (hf : DataW.trod enc P w base (fun _ => true) held n t [v] = some y) : ∃ (a : Option Addr) (cap : Nat) (l : List Int), v = .slice a l.length cap ∧ l.length ≤ cap ∧ l.length ≤ maxLen ∧ Kd.C (Kd.int k) w a l.length l ∧ ∀ x ∈ l, fits k x := by
  have hv : ∃ (a : Option Addr) (len cap : Nat) (zs : List Int), v = .slice a len cap ∧ ((a = none ∧ len = 0 ∧ cap = 0 ∧ zs = []) ∨ ∃ x, a = some x ∧ len ≤ cap ∧ cap ≤ maxLen ∧ zs.length = cap ∧ (∀ i, i < zs.length → w.cell? (x.add i) = some (.int k (zs.getD i 0))) ∧ ∀ n ∈ zs, (Lit.int k n).wf = true) := by
    rcases open_ints ht he hc hf with ⟨hcs, _⟩ | ⟨x, l, c, zs, hcs, _, hl, hm, hz, _, hcell, hwz⟩
    · exact ⟨none, 0, 0, [], (List.cons.inj hcs).1, .inl ⟨rfl, rfl, rfl, rfl⟩⟩
    · exact ⟨some x, l, c, zs, (List.cons.inj hcs).1, .inr ⟨x, rfl, hl, hm, by simpa using hz, hcell, hwz⟩⟩
  obtain ⟨a, len, cap, zs, rfl, h⟩ := hv
  obtain ⟨l0, rfl, hr0, hm0, hw0, hc0⟩ := ReadsInt.ofRowC h
  exact ⟨a, cap, l0, rfl, hc0, hm0, Kd.C_of_reads (d := (0 : Int)) (h1 := fun _ => rfl) hr0, hw0⟩
instance : Inhabited S39 := ⟨z39⟩
theorem open_spans1 {t e : TypeId} {f0 f1 : Field} {n : Nat} {v : Value} {y : DataW H × List MemPlace} (ht : P.underlying t = some (.slice e)) (he : P.underlying e = some (.struct #[f0, f1]))
    (ce : P.cellsOf e = 2) (o0 : f0.offset = 0) (o1 : f1.offset = 1) (c0 : P.cellsOf f0.type = 1) (c1 : P.cellsOf f1.type = 1) (h0 : P.underlying f0.type = some (.int .i64)) (h1 : P.underlying f1.type = some (.int .i64))
    (hf : DataW.trod enc P w base (fun _ => true) held n t [v] = some y) : ∃ (a : Option Addr) (cap : Nat) (l : List S39), v = .slice a l.length cap ∧ l.length ≤ cap ∧ l.length ≤ maxLen ∧ Kd.C k39 w a l.length l ∧ ∀ x ∈ l, fits .i64 x.f0 ∧ fits .i64 x.f1 := by
  rcases open_slice_pairs ht he ce o0 o1 c0 c1 hf with ⟨hcs, _⟩ | ⟨a, len, cap, m, n', V0, V1, D0, D1, P0, P1, hcs, _, hl, hm, hmm, _, hx⟩
  · obtain rfl := (List.cons.inj hcs).1
    exact ⟨none, 0, [], rfl, Nat.le_refl _, Nat.zero_le _, ⟨rfl, by simp, fun h => absurd h (Nat.lt_irrefl 0)⟩, by simp⟩
  · obtain rfl := (List.cons.inj hcs).1
    have hml : m = cap := by rw [hmm, if_pos rfl]
    have ex : ∀ i, i < len → ∃ p : S39, w.cell? (a.add (i * 2)) = some (.int .i64 p.f0) ∧ w.cell? (a.add (i * 2 + 1)) = some (.int .i64 p.f1) ∧ fits .i64 p.f0 ∧ fits .i64 p.f1 := by
      intro i hi
      obtain ⟨g0, g1, g2, g3⟩ := hx i (by omega)
      obtain ⟨x0, e0, _, w0⟩ := DataW.trod_int h0 g2
      obtain ⟨x1, e1, _, w1⟩ := DataW.trod_int h1 g3
      exact ⟨⟨x0, x1⟩, by rw [g0, (List.cons.inj e0).1], by rw [g1, (List.cons.inj e1).1], w0, w1⟩
    obtain ⟨q, hq⟩ := choose_lt ex
    have hlen : ((List.range len).map q).length = len := by simp
    refine ⟨some a, cap, (List.range len).map q, by rw [hlen], by rw [hlen]; exact hl, by rw [hlen]; exact Nat.le_trans hl hm, ?_, ?_⟩
    · rw [hlen]
      refine ⟨hlen, by have := Nat.le_trans hl hm; simp only [maxLen] at this; omega, fun _ => ⟨a, rfl, fun j p hp => ?_⟩⟩
      have hj : j < len := by
        have := List.getElem?_eq_some_iff.1 hp
        obtain ⟨h, _⟩ := this
        rw [hlen] at h
        exact h
      have hpq : p = q j := by
        rw [List.getElem?_map, List.getElem?_range hj] at hp
        exact (Option.some.inj hp).symm
      subst hpq
      obtain ⟨r0, r1, _, _⟩ := hq j hj
      refine ⟨_, rfl, k39_mk w (q j), fun i u hu => ?_⟩
      match i, hu with
      | 0, hu =>
        obtain rfl := Option.some.inj hu
        exact r0
      | 1, hu =>
        obtain rfl := Option.some.inj hu
        exact r1
      | i + 2, hu => simp at hu
    · intro x hx'
      obtain ⟨j, hj, rfl⟩ := List.mem_map.1 hx'
      obtain ⟨_, _, r2, r3⟩ := hq j (List.mem_range.1 hj)
      exact ⟨r2, r3⟩
end Go.Proofs.Ythgmkbghdobmlaa.P
namespace Go.Proofs.Ythgmkbghdobmlaa.Pure
open Go.RowKit Go.Proofs.Ythgmkbghdobmlaa.P Go.Proofs.YthgmkbghdobmlaaW.PrintWords Go.Proofs.YthgmkbghdobmlaaW.PrintLast Go.Proofs.YthgmkbghdobmlaaW.PrintMore
set_option linter.unusedVariables false
set_option linter.unusedSimpArgs false

/-- How much goes. -/
def gone : List S39 → Int
  | [] => 0
  | s :: sp => s.f1 - s.f0 + gone sp
theorem want_len (Q : List Int) : ∀ (sp : List S39) (out : List Int) (q : Int), P.Good (Q.length : Int) sp → 0 ≤ q → q ≤ (Q.length : Int) → (∀ s ∈ sp, q ≤ s.f0) → ((wantM Q [] sp out q).length : Int) + gone sp = (out.length : Int) + ((Q.length : Int) - q)
  | [], out, q, hg, h0, h1, h2 => by
    simp only [wantM, gone, List.length_append, List.length_drop]
    omega
  | s :: sp, out, q, hg, h0, h1, h2 => by
    obtain ⟨b0, b1, b2⟩ := hg.1 s (by simp)
    have hq := h2 s (by simp)
    have ih := want_len Q sp (out ++ (Q.take s.f0.toNat).drop q.toNat ++ []) s.f1 ⟨fun t ht => hg.1 t (by simp [ht]), (List.pairwise_cons.1 hg.2).2⟩ (by omega) b2 (List.pairwise_cons.1 hg.2).1
    simp only [wantM, gone]
    simp only [List.length_append, List.length_drop, List.length_take, List.length_nil] at ih
    omega
theorem gone_le (n : Int) : ∀ (sp : List S39) (q : Int), P.Good n sp → q ≤ n → (∀ s ∈ sp, q ≤ s.f0) → 0 ≤ gone sp ∧ gone sp ≤ n - q
  | [], q, hg, h1, h2 => by simp only [gone]; omega
  | s :: sp, q, hg, h1, h2 => by
    obtain ⟨b0, b1, b2⟩ := hg.1 s (by simp)
    have hq := h2 s (by simp)
    have ih := gone_le n sp s.f1 ⟨fun t ht => hg.1 t (by simp [ht]), (List.pairwise_cons.1 hg.2).2⟩ b2 (List.pairwise_cons.1 hg.2).1
    simp only [gone]
    omega
theorem good_drop {n : Int} {sp : List S39} (h : P.Good n sp) (i : Nat) : P.Good n (sp.drop i) := ⟨fun s hs => h.1 s (List.mem_of_mem_drop hs), h.2.sublist (List.drop_sublist i sp)⟩
theorem bnd {n : Int} {sp : List S39} (h : P.Good n sp) (i : Nat) (hi : i < sp.length) : 0 ≤ F0 sp i ∧ F0 sp i ≤ F1 sp i ∧ F1 sp i ≤ n := by
  unfold F0 F1
  rw [getS sp i hi]
  exact h.1 _ (List.getElem_mem hi)
/-- The sum, as the law adds it up. -/
theorem none_loop (l w x b x3 : List Int) (f : Int) (sp : List S39) (hl : l.length ≤ 500) (hs : sp.length ≤ 500) (hg : P.Good (cntM l) sp) (hx : x.length ≤ 8000) (hsum : ((x.filter nctl).length : Int) + gone sp = ((l.filter nctl).length : Int)) (d : Nat) :
    ∀ (i : Nat) (acc : Int), i + d = sp.length → 0 ≤ acc → acc + gone (sp.drop i) = gone sp → Ev (fun k => ductuslaw27_SwapNone.l0 k l l 0 x acc (i : Int) l sp w) true := by
  have hfl := List.length_filter_le nctl l
  have hcn : cntM l = ((l.filter nctl).length : Int) := rfl
  induction d with
  | zero =>
    intro i acc hi ha he
    rw [List.drop_eq_nil_of_le (by omega)] at he
    have he2 : acc = gone sp := by simpa only [gone, Int.add_zero] using he
    have hI := P.ints_ev l (by omega)
    have hP := rplain_ev x (by omega)
    have hQ := rplain_ev l (by omega)
    refine ev_step3 hI hP hQ fun k h1 h2 h3 => ?_
    simp only [ductuslaw27_SwapNone.l0]
    rw [if_neg (by omega), if_pos trivial, h1, Option.bind_some, if_pos rfl, Option.bind_some, if_pos rfl, h2, Option.bind_some, h3, Option.bind_some, he2, wrap_id (by omega) (by omega), hsum]
    simp
  | succ d ih =>
    intro i acc hi ha he
    have hw1 : wrap64 ((i : Int) + 1) = ((i + 1 : Nat) : Int) := wrap_succ i (by omega)
    rw [dropS sp i (by omega)] at he
    simp only [gone] at he
    have hb := bnd hg i (by omega)
    unfold F0 F1 at hb
    have hgl := gone_le (cntM l) sp 0 hg (by omega) (fun s hs => (hg.1 s hs).1)
    have hgd := gone_le (cntM l) (sp.drop (i + 1)) 0 (good_drop hg _) (by omega) (fun s hs => ((good_drop hg _).1 s hs).1)
    obtain ⟨u, hu⟩ : ∃ u, (rd_T39 sp (i : Int)).f0 = u := ⟨_, rfl⟩
    obtain ⟨v, hv⟩ : ∃ v, (rd_T39 sp (i : Int)).f1 = v := ⟨_, rfl⟩
    rw [hu, hv] at he hb
    obtain ⟨g1, hg1⟩ : ∃ g, gone sp = g := ⟨_, rfl⟩
    obtain ⟨g2, hg2⟩ : ∃ g, gone (sp.drop (i + 1)) = g := ⟨_, rfl⟩
    obtain ⟨c, hc⟩ : ∃ c, cntM l = c := ⟨_, rfl⟩
    rw [hg1] at he hgl
    rw [hg2] at he hgd
    rw [hc] at hb hgl hgd hcn
    have n1 : 0 ≤ acc + v - u := by omega
    have n2 : acc + v - u + g2 = g1 := by omega
    have n3 : c ≤ 500 := by omega
    have w2 : wrap64 (acc + v) = acc + v := wrap_id (by omega) (by omega)
    have w3 : wrap64 (acc + v - u) = acc + v - u := wrap_id (by omega) (by omega)
    have n4 : (i : Int) < (sp.length : Int) := by omega
    have n5 : (0 : Int) ≤ (i : Int) := by omega
    refine ev_step (ih (i + 1) (acc + v - u) (by omega) n1 (by rw [hg1, hg2]; exact n2)) fun k hk => ?_
    simp only [ductuslaw27_SwapNone.l0]
    rw [if_pos n4, if_pos n5, hu, hv, w2, w3, hw1]
    exact hk
/-- With nothing in their place the text does not grow. -/
theorem ex_short (l at_ : List Int) : ∀ (sp : List S39) (out : List Int) (last : Int), Fits l at_ sp last → (out.length : Int) ≤ last → (exM l at_ [] sp out last).1.length ≤ l.length ∧ (l.length ≤ 500 → (exM l at_ [] sp out last).2 = 0)
  | [], out, last, hf, ho => by
    obtain ⟨f0, f1⟩ := hf
    have hd : (out ++ l.drop last.toNat).length ≤ l.length := by
      rw [List.length_append, List.length_drop]
      omega
    simp only [exM]
    by_cases c : (((out ++ l.drop last.toNat).length : Nat) : Int) > 8000
    · rw [if_pos c]
      exact ⟨by simp, fun h => by omega⟩
    · rw [if_neg c]
      exact ⟨hd, fun _ => rfl⟩
  | s :: sp, out, last, hf, ho => by
    obtain ⟨⟨g0, g1, g2, g3⟩, hf2⟩ := hf
    obtain ⟨B, hB⟩ : ∃ B, backOf at_ s.f0 s.f1 = B := ⟨_, rfl⟩
    simp only [exM]
    rw [hB] at g1 g2 g3 hf2 ⊢
    have m3 := List.length_filter_le opc ((l.take B.2.1.toNat).drop B.1.toNat)
    have ho2 : ((out ++ (l.take B.1.toNat).drop last.toNat ++ [] ++ ((l.take B.2.1.toNat).drop B.1.toNat).filter opc).length : Int) ≤ B.2.1 := by
      simp only [List.length_append, List.length_nil]
      rw [List.length_drop, List.length_take] at m3
      rw [List.length_drop, List.length_take]
      omega
    by_cases c : (((out ++ (l.take B.1.toNat).drop last.toNat ++ [] ++ ((l.take B.2.1.toNat).drop B.1.toNat).filter opc).length : Nat) : Int) > 8000
    · rw [if_pos c]
      exact ⟨by simp, fun h => by omega⟩
    · rw [if_neg c]
      exact ex_short l at_ sp _ _ hf2 ho2
theorem SwapNone (l0 : List Int) (l1 : List S39) (l2 : List Int) (h0 : ∀ x ∈ l0, P.fits .i64 x) (h1 : ∀ x ∈ l1, P.fits .i64 x.f0 ∧ P.fits .i64 x.f1) (h2 : ∀ x ∈ l2, P.fits .i64 x) : ∃ k, ductuslaw27_SwapNone.f k l0 l1 l2 = some true := by
  refine Ev.rounds ?_
  by_cases hg : l0.length ≤ 500 ∧ l1.length ≤ 500 ∧ l2.length ≤ 500
  · obtain ⟨g0, g1, g2⟩ := hg
    have hA := all_ev l0 l2 [] g0 (by simp) g2
    have hS := some_ev l0 l2 l1 [] g0 g1 g2 (by simp)
    have hX := all_ev l0 [] l1 g0 g1 (by simp)
    have hnil : allR ([] : List Int) := fun c hc => by cases hc
    have hrn : rightM ([] : List S39) (cntM l0) = true := rfl
    have fin : ∀ (A S X : List Int × Int), Ev (fun k => swap_All.f k l0 [] l2) A → Ev (fun k => swap_Some.f k l0 l1 [] l2) S → Ev (fun k => swap_All.f k l0 l1 []) X → Ev (fun k => if A.2 = 0 then (ductuslaw27_SwapNone.j0 k A.1 A.2 S.1 S.2 X.1 X.2 (X.2 != 0) l0 l1 l2) else (ductuslaw27_SwapNone.j0 k A.1 A.2 S.1 S.2 X.1 X.2 true l0 l1 l2)) true → Ev (fun k => ductuslaw27_SwapNone.f k l0 l1 l2) true := by
      intro A S X hA hS hX hJ
      refine ev_same2 (ev_and alive27 hA) (ev_and hS (ev_and hX hJ)) fun k hk hk2 => ?_
      obtain ⟨e1, e2⟩ := ev_fst hk
      obtain ⟨e3, e45⟩ := ev_fst hk2
      obtain ⟨e4, e5⟩ := ev_fst e45
      unfold ductuslaw27_SwapNone.f
      rw [e1, Option.bind_some, if_pos rfl, great_no g0 g1 g2, Option.bind_some, if_neg (by simp), e2, Option.bind_some, e3, Option.bind_some, e4, Option.bind_some]
      exact e5
    by_cases c0 : allR l0
    · by_cases c2 : allR l2
      · have eA : allM l0 [] l2 = (l0, 0) := by
          unfold allM okM
          rw [decide_eq_true c0, decide_eq_true c2, hrn, if_pos (by rfl)]
          simp only [exM]
          rw [if_neg (by simp; omega)]
          simp
        rw [eA] at hA
        by_cases c1 : rightM l1 (cntM l0) = true
        · have hgd := right_good c1
          have eS : someM l0 l1 [] l2 = (l0, 0) := by
            unfold someM okM
            rw [decide_eq_true c0, decide_eq_true c2, c1, if_pos (by rfl)]
            simp only [List.length_nil, chM, chE, exM]
            rw [if_neg (by simp; omega)]
            simp
          rw [eS] at hS
          have eX : allM l0 l1 [] = exM l0 (plcs l0) [] l1 [] 0 := by
            unfold allM okM
            rw [decide_eq_true c0, decide_eq_true hnil, c1, if_pos (by rfl)]
            rfl
          have hsh := ex_short l0 (plcs l0) l1 [] 0 (fits0 l0 (by omega) l1 hgd) (by simp)
          rcases ex_ends l0 (plcs l0) [] l1 [] 0 with h | ⟨x, h, hx⟩
          · rw [h] at hsh
            exact absurd (hsh.2 g0) (show ¬ (2 : Int) = 0 by decide)
          · rw [eX, h] at hX
            have hp := ex_plain l0 [] (by omega) l1 [] 0 0 x hgd (by omega) (by unfold cntM; omega) (fun t ht => (hgd.1 t ht).1) (by omega) (by omega) (fun t ht => (plcs_rng l0 t.f0 (hgd.1 t ht).1 (by have := hgd.1 t ht; omega)).1) (by simp) h
            have hwl := want_len (l0.filter nctl) l1 [] 0 hgd (by omega) (by omega) (fun t ht => (hgd.1 t ht).1)
            refine fin _ _ _ hA hS hX ?_
            refine ev_step (none_loop l0 l2 x l0 l0 0 l1 g0 g1 hgd hx (by rw [hp]; simp only [List.filter_nil]; rw [hwl]; simp) l1.length 0 0 (by omega) (by omega) (by simp)) fun k hk => ?_
            rw [if_pos rfl]
            simp only [ductuslaw27_SwapNone.j0]
            rw [if_neg (by decide)]
            exact hk
        · have eX : allM l0 l1 [] = ([], 1) := by
            unfold allM okM
            rw [decide_eq_true c0, decide_eq_true hnil, Bool.eq_false_iff.2 c1]
            rfl
          rw [eX] at hX
          refine fin _ _ _ hA hS hX (ev_one fun k => ?_)
          rw [if_pos rfl]
          simp only [ductuslaw27_SwapNone.j0]
          rw [if_pos (by decide), if_neg (by decide), if_pos (by decide)]
          rfl
      · have eA : allM l0 [] l2 = ([], 1) := by
          unfold allM okM
          rw [decide_eq_true c0, decide_eq_false c2]
          rfl
        rw [eA] at hA
        refine fin _ _ _ hA hS hX (ev_one fun k => ?_)
        rw [if_neg (show ¬ (1 : Int) = 0 by decide)]
        simp only [ductuslaw27_SwapNone.j0]
        rw [if_pos trivial, if_pos trivial, if_pos (by rfl)]
    · have eA : allM l0 [] l2 = ([], 1) := by
        unfold allM okM
        rw [decide_eq_false c0]
        rfl
      rw [eA] at hA
      refine fin _ _ _ hA hS hX (ev_one fun k => ?_)
      rw [if_neg (show ¬ (1 : Int) = 0 by decide)]
      simp only [ductuslaw27_SwapNone.j0]
      rw [if_pos trivial, if_pos trivial, if_pos (by rfl)]
  · refine ev_same alive27 fun k ha => ?_
    unfold ductuslaw27_SwapNone.f
    rw [ha, Option.bind_some, if_pos rfl, great_yes hg, Option.bind_some, if_pos rfl]
end Go.Proofs.Ythgmkbghdobmlaa.Pure
