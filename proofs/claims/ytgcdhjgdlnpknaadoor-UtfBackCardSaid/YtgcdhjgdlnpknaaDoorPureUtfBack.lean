/- Proved: the pure statement of the law UtfBack, that the Lean functions printed for it answer true for every input; no condition beyond the statement's own. -/
import Derived.Test.YtgcdhjgdlnpknaaDoorPx6
import Derived.Test.YtgcdhjgdlnpknaaDoorPUtf
namespace Go.Proofs.YtgcdhjgdlnpknaaDoor.Pure
open Go.RowKit Go.Proofs.YtgcdhjgdlnpknaaDoor.P Go.Proofs.YtgcdhjgdlnpknaaDoorW.PrintWords Go.Proofs.YtgcdhjgdlnpknaaDoorW.PrintLast Go.Proofs.YtgcdhjgdlnpknaaDoorW.PrintMore
set_option linter.unusedVariables false
set_option linter.unusedSimpArgs false

theorem u8_bytes2 {l : List Int} (h : ∀ x ∈ l, (Lit.int .u8 x).wf = true) : bytesB l := fun x hx => by
  have := h x hx
  have hmin : IntKind.u8.min = 0 := rfl
  have hmax : IntKind.u8.max = 255 := rfl
  simp only [Lit.wf, Bool.and_eq_true, decide_eq_true_eq] at this
  omega
theorem offset_at (l : List Int) (i : Nat) (h : i < l.length) : utf_Offset.f l (i : Int) = some (rd l (i : Int)) := by
  unfold utf_Offset.f
  rw [if_neg (by omega), if_neg (by omega), if_pos (by omega), if_pos (by omega)]
/-- What is read, one by one. -/
theorem decF_elem : ∀ (n : Nat) (l : List Int), ∀ x ∈ decF n l, RightC x.1 ∧ (x.2 = (bytesC x.1).length ∨ x.2 = 1 ∧ x.1 = 65533) := by
  intro n
  induction n with
  | zero => intro l x hx; simp [decF] at hx
  | succ n ih =>
    intro l x hx
    simp only [decF] at hx
    by_cases h0 : l.length = 0
    · rw [if_pos h0] at hx
      simp at hx
    · rw [if_neg h0] at hx
      rcases List.mem_cons.1 hx with rfl | hx
      · by_cases h : fstOf l < 0
        · have e1 : chr l = 65533 := by unfold chr; rw [if_pos h]
          have e2 : adv l = 1 := by unfold adv; rw [if_pos h]
          refine ⟨?_, .inr ⟨e2, e1⟩⟩
          dsimp only
          rw [e1]
          exact ⟨by omega, by omega, .inr (by omega)⟩
        · have e1 : chr l = fstOf l := by unfold chr; rw [if_neg h]
          have e2 : adv l = (bytesC (fstOf l)).length := by unfold adv; rw [if_neg h]
          have hp := adv_pos l (by omega)
          refine ⟨?_, .inl (by dsimp only; rw [e2, e1])⟩
          dsimp only
          rw [e1]
          refine Decidable.byContradiction fun hn => ?_
          rw [e2, bytesC_no hn] at hp
          simp at hp
      · exact ih _ x hx
theorem pre_next (s : List (Int × Nat)) : ∀ (j : Nat) (h : j < s.length), pre s (j + 1) = pre s j + (s[j]'h).2 := by
  induction s with
  | nil => intro j h; simp at h
  | cons x s ih =>
    intro j h
    cases j with
    | zero =>
      rw [pre_succ, pre_zero, pre_zero]
      simp
    | succ j =>
      rw [pre_succ, pre_succ, ih j (by simpa using h)]
      simp
      omega
theorem back_loop (l : List Int) (hl : l.length ≤ 4000) (d : Nat) : ∀ i : Nat, i + d = (decC l).length → Ev (fun k => ductuslaw01_UtfBack.l0 k (decC l) (decA l) (i : Int)) true := by
  have hcl := decC_len l
  have hal := decA_len l
  have hfl : (decF l.length l).length = (decC l).length := by unfold decC; rw [List.length_map]
  induction d with
  | zero =>
    intro i hi
    refine ev_one fun k => ?_
    simp only [ductuslaw01_UtfBack.l0]
    rw [if_neg (by omega)]
  | succ d ih =>
    intro i hi
    have hw1 : wrap64 ((i : Int) + 1) = ((i + 1 : Nat) : Int) := wrap_succ i (by omega)
    have a0 := decA_at l i (by omega)
    have a1 := decA_at l (i + 1) (by omega)
    have hn := pre_next (decF l.length l) i (by omega)
    have hel := decF_elem l.length l _ (List.getElem_mem (show i < (decF l.length l).length by omega))
    have hci : rd (decC l) (i : Int) = ((decF l.length l)[i]'(by omega)).1 := by
      rw [rd_get _ i (by omega)]
      unfold decC
      rw [List.getElem_map]
    obtain ⟨w, hw⟩ : ∃ w, ((decF l.length l)[i]'(by omega)).2 = w := ⟨_, rfl⟩
    rw [hw] at hn hel
    rw [← hci] at hel
    have hle := preC_le l (i + 1) (by omega)
    have hwd : wrap64 (rd (decA l) ((i + 1 : Nat) : Int) - rd (decA l) (i : Int)) = (w : Int) := by
      have e : rd (decA l) ((i + 1 : Nat) : Int) - rd (decA l) (i : Int) = (w : Int) := by
        rw [a0, a1]
        unfold preC at hle ⊢
        omega
      rw [e]
      refine wrap_id (by omega) ?_
      unfold preC at hle
      omega
    refine ev_step3 (ih (i + 1) (by omega)) (rightU_ev (rd (decC l) (i : Int))) (sizeU_ev (rd (decC l) (i : Int))) fun k hk hk2 hk3 => ?_
    simp only [ductuslaw01_UtfBack.l0]
    rw [if_pos (by omega), hw1, if_pos (by omega), if_pos (by omega), if_pos (by omega), if_pos (by omega), hk2, decide_eq_true hel.1, Option.bind_some, if_pos rfl, hk3, Option.bind_some, hwd]
    rcases hel.2 with e | ⟨e, e5⟩
    · rw [if_pos (by omega)]
      exact hk
    · by_cases q : (w : Int) = ((bytesC (rd (decC l) (i : Int))).length : Int)
      · rw [if_pos q]
        exact hk
      · rw [if_neg q, if_pos (by omega), if_pos e5]
        exact hk
theorem back_j1 (l : List Int) (hl : l.length ≤ 4000) (hb : bytesB l) : Ev (fun k => ductuslaw01_UtfBack.j1 k l) true := by
  have hcl := decC_len l
  have hal := decA_len l
  have hd := decU_ev l hb
  have e : decM l = (decC l, decA l, 0) := by
    unfold decM
    rw [if_pos hl]
  rw [e] at hd
  have hloop := back_loop l hl (decC l).length 0 (by omega)
  have a0 := decA_at l 0 (by omega)
  have p0 : preC l 0 = 0 := rfl
  have an := decA_at l (decC l).length (Nat.le_refl _)
  have pn : preC l (decC l).length = l.length := by
    unfold preC decC
    rw [List.length_map]
    exact decF_sum l.length l (Nat.le_refl _)
  have hw : wrap64 (((decC l).length : Int) + 1) = (((decC l).length + 1 : Nat) : Int) := wrap_succ _ (by omega)
  have hj2 : Ev (fun k => ductuslaw01_UtfBack.j2 k (decC l) (decA l) false) true := ev_step hloop fun k hk => by
    simp only [ductuslaw01_UtfBack.j2]
    rw [if_neg (by simp)]
    exact hk
  refine ev_step2 hd hj2 fun k hk hk2 => ?_
  have a0' : rd (decA l) 0 = 0 := by
    have : rd (decA l) 0 = ((preC l 0 : Nat) : Int) := a0
    rw [this, p0]
    rfl
  simp only [ductuslaw01_UtfBack.j1]
  rw [hk, Option.bind_some, if_pos rfl]
  dsimp only
  rw [hw, if_pos (by omega), if_pos (by omega), if_pos a0', if_pos (by omega), if_pos (by omega), an, pn]
  have e2 : (((l.length : Nat) : Int) != (l.length : Int)) = false := by simp
  rw [e2]
  exact hk2
theorem back_j0 (x b : List Int) (hx : x.length ≤ 5000) (hl : b.length ≤ 4000) (hb : bytesB b) : Ev (fun k => ductuslaw01_UtfBack.j0 k x b false) true := by
  have h1 := encU_ev x hx
  have h2 := back_j1 b hl hb
  by_cases hok : allR x ∧ (encB x).length ≤ 4000
  · have e : encM x = (encB x, 0) := by
      unfold encM
      rw [if_pos hok.1, if_pos hok.2]
    rw [e] at h1
    have hd := decU_ev (encB x) (encB_bytes x)
    have e2 : decM (encB x) = (decC (encB x), decA (encB x), 0) := by
      unfold decM
      rw [if_pos hok.2]
    rw [e2, decC_enc x hok.1] at hd
    have hi := ints_ev x (by omega)
    have hal := decA_len (encB x)
    rw [decC_enc x hok.1] at hal
    have hv : validM (encB x) = true := by
      unfold validM
      rw [if_pos hok.2]
      exact step_valid [] x.length x (Nat.le_refl _) hok.1
    have ho : utf_Offset.f (decA (encB x)) (x.length : Int) = some ((encB x).length : Int) := by
      rw [offset_at _ _ (by omega), decA_at (encB x) x.length (by rw [decC_enc x hok.1]; exact Nat.le_refl _)]
      have := preC_enc x [] (by rw [List.append_nil]; exact hok.1)
      rw [List.append_nil] at this
      rw [this]
    obtain ⟨K1, h1⟩ := h1
    obtain ⟨K2, h2⟩ := h2
    obtain ⟨K3, h3⟩ := hd
    obtain ⟨K4, h4⟩ := hi
    refine ⟨K1 + K2 + K3 + K4 + 1, fun k hk => ?_⟩
    obtain ⟨k, rfl⟩ : ∃ m, k = m + 1 := ⟨k - 1, by omega⟩
    have g1 := h1 k (by omega)
    have g2 := h2 k (by omega)
    have g3 := h3 k (by omega)
    have g4 := h4 k (by omega)
    dsimp only at g1 g2 g3 g4
    show ductuslaw01_UtfBack.j0 (k + 1) x b false = some true
    simp only [ductuslaw01_UtfBack.j0]
    rw [if_neg (by simp), g1, Option.bind_some, if_pos rfl, g3, Option.bind_some, if_pos rfl, g4, Option.bind_some, if_pos rfl, validU _ (encB_bytes x), hv, Option.bind_some, if_pos rfl]
    dsimp only
    rw [ho, Option.bind_some, if_pos rfl]
    exact g2
  · have e : ¬ (encM x).2 = 0 := by
      unfold encM
      by_cases ha : allR x
      · rw [if_pos ha, if_neg (fun q => hok ⟨ha, q⟩)]
        decide
      · rw [if_neg ha]
        decide
    refine ev_step2 h1 h2 fun k hk hk2 => ?_
    simp only [ductuslaw01_UtfBack.j0]
    rw [if_neg (by simp), hk, Option.bind_some, if_neg e]
    exact hk2
theorem UtfBack : ductuslaw01_UtfBack.Pure := by
  intro l b hm hl hw hm2 hl2 hw2
  have hb := u8_bytes2 hw2
  refine Ev.rounds ?_
  have ht : Ev (fun k => ductuslaw01_UtfBack.j0 k l b true) true := ev_one fun k => by
    simp only [ductuslaw01_UtfBack.j0]
    rw [if_pos trivial]
  by_cases h : (l.length : Int) > 5000
  · refine ev_same2 alive01 ht fun k hk hk2 => ?_
    unfold ductuslaw01_UtfBack.f
    rw [hk, Option.bind_some, if_pos rfl, if_pos h]
    exact hk2
  · by_cases h2 : (b.length : Int) > 4000
    · refine ev_same2 alive01 ht fun k hk hk2 => ?_
      unfold ductuslaw01_UtfBack.f
      rw [hk, Option.bind_some, if_pos rfl, if_neg h, decide_eq_true h2]
      exact hk2
    · refine ev_same2 alive01 (back_j0 l b (by omega) (by omega) hb) fun k hk hk2 => ?_
      unfold ductuslaw01_UtfBack.f
      rw [hk, Option.bind_some, if_pos rfl, if_neg h, decide_eq_false h2]
      exact hk2
end Go.Proofs.YtgcdhjgdlnpknaaDoor.Pure
