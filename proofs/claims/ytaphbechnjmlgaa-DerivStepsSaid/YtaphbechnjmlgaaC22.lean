/- Texts of this claim put together by a program of its own (PureDerivSteps), what the law does not use left out: each part's statements bear their own conditions. -/
import Derived.Test.YtaphbechnjmlgaaC20
import Derived.Test.YtaphbechnjmlgaaC21
namespace Go.Proofs.Ytaphbechnjmlgaa.Pure
open Go.RowKit Go.Proofs.Ytaphbechnjmlgaa.P Go.Proofs.YtaphbechnjmlgaaW.PrintWords Go.Proofs.YtaphbechnjmlgaaW.PrintLast
set_option linter.unusedVariables false
set_option linter.unusedSimpArgs false

/-- The first a of the ends are ahead of a place, all others are not. -/
def Cnt (es : List Int) (a i : Nat) : Prop := (∀ q : Nat, q < a → q < es.length → rd es (q : Int) < (i : Int)) ∧ (∀ q : Nat, a ≤ q → q < es.length → (i : Int) ≤ rd es (q : Int))
theorem isAt_iff (es : List Int) (hs : Srt es) (a i : Nat) (hc : Cnt es a i) : isAt es a i = true ↔ (i : Int) ∈ es := by
  unfold isAt
  rw [Bool.and_eq_true, decide_eq_true_iff, beq_iff_eq]
  constructor
  · rintro ⟨h1, h2⟩
    exact mem_rd.2 ⟨a, h1, h2⟩
  · intro h
    obtain ⟨q, q1, q2⟩ := mem_rd.1 h
    have h3 : a ≤ q := by
      rcases Nat.lt_or_ge q a with h4 | h4
      · have := hc.1 q h4 q1
        omega
      · exact h4
    have h5 := hc.2 a (Nat.le_refl _) (by omega)
    rcases Nat.lt_or_ge a q with h6 | h6
    · have := rd_srt hs h6 q1
      omega
    · obtain rfl : q = a := by omega
      exact ⟨q1, q2⟩
theorem cnt_next (es : List Int) (hs : Srt es) (a i : Nat) (hc : Cnt es a i) : Cnt es (if isAt es a i = true then a + 1 else a) (i + 1) := by
  by_cases c : isAt es a i = true
  · rw [if_pos c]
    have c2 := c
    unfold isAt at c2
    rw [Bool.and_eq_true, decide_eq_true_iff, beq_iff_eq] at c2
    refine ⟨fun q h1 h2 => ?_, fun q h1 h2 => ?_⟩
    · rcases Nat.lt_or_ge q a with h | h
      · have := hc.1 q h h2
        omega
      · obtain rfl : q = a := by omega
        omega
    · have := rd_srt hs (show a < q by omega) h2
      omega
  · rw [if_neg c]
    refine ⟨fun q h1 h2 => ?_, fun q h1 h2 => ?_⟩
    · have := hc.1 q h1 h2
      omega
    · have h3 := hc.2 q h1 h2
      by_cases h4 : rd es (q : Int) = (i : Int)
      · exact absurd ((isAt_iff es hs a i hc).2 (mem_rd.2 ⟨q, h2, h4⟩)) c
      · omega
theorem goon_ev (l : List Int) (es : List Int) (hs : Srt es) : ∀ (d i a : Nat) (x : TNode), i + d = l.length + 1 → SaneN x → WfN x → (∀ j, (i : Int) ≤ j → (M l x i j ↔ j ∈ es)) → Cnt es a i → ∃ K, ∀ k, K ≤ k → GoOn k l es d i x a
  | 0, i, a, x, _, _, _, _, _ => ⟨0, fun k _ => trivial⟩
  | d + 1, i, a, x, hi, hx, hw, hm, hc => by
    obtain ⟨W, eW, _⟩ := weight_ev x hw 0 (by omega)
    obtain ⟨K1, eW⟩ := eW
    by_cases c1 : W ≤ 500
    rotate_left
    · exact ⟨K1, fun k hk => ⟨W, eW k hk, fun h => absurd h c1⟩⟩
    obtain ⟨K2, eS⟩ := size_ev x hw
    by_cases c2 : sizeT x ≤ 25
    rotate_left
    · exact ⟨K1 + K2, fun k hk => ⟨W, eW k (by omega), fun _ => ⟨sizeT x, eS k (by omega), fun h => absurd h c2⟩⟩⟩
    have hsz : szN x ≤ 25 := by
      have := size_N x hx c2
      omega
    have hnull : ∀ k, dep x ≤ k → nullS ((i : Int) == 0) ((i : Int) == (l.length : Int)) k x = some (isAt es a i) := by
      intro k hk
      obtain ⟨b, e, hb⟩ := null_M l i (by omega) x hx k hk
      rw [e]
      congr 1
      rw [Bool.eq_iff_iff, hb, hm i (by omega), isAt_iff es hs a i hc]
    by_cases c3 : i < l.length
    · obtain ⟨y, ey, g⟩ := stepT_ev l i c3 x hx hsz
      obtain ⟨K3, ey⟩ := ey
      have hn := g.nod
      have hq := sq25 hsz
      obtain ⟨K4, e4⟩ := goon_ev l es hs d (i + 1) (if isAt es a i = true then a + 1 else a) y (by omega) g.sane (sane_wf y g.sane (by omega)) (fun j hj => by
        rw [show ((i + 1 : Nat) : Int) = (i : Int) + 1 by omega] at hj ⊢
        rw [g.sem, hm j (by omega)]
        exact ⟨fun h => h.1, fun h => ⟨h, by omega⟩⟩) (cnt_next es hs a i hc)
      exact ⟨K1 + K2 + K3 + K4 + dep x, fun k hk => ⟨W, eW k (by omega), fun _ => ⟨sizeT x, eS k (by omega), fun _ => ⟨hnull k (by omega), fun _ => ⟨y, ey k (by omega), e4 k (by omega)⟩⟩⟩⟩⟩
    · exact ⟨K1 + K2 + dep x, fun k hk => ⟨W, eW k (by omega), fun _ => ⟨sizeT x, eS k (by omega), fun _ => ⟨hnull k (by omega), fun h => absurd h c3⟩⟩⟩⟩
theorem DerivSteps (x : TNode) (hx : WfT x) (l : List Int) (hl : l.length * 8 ≤ 140737488351232 ∧ ∀ e ∈ l, (Lit.int .i64 e).wf = true) (a : Int) (ha : (Lit.int .u8 a).wf = true) : ∃ k sm es, StepsOk k x l a sm es := by
  have hw := wf_of x hx
  have ha0 := u8_rng ha
  obtain ⟨sm, e1, h1⟩ := small_ev x l hw
  by_cases hm : sm = true ∧ l.length ≤ 12
  rotate_left
  · obtain ⟨K, e1⟩ := e1
    exact ⟨K, sm, [], ⟨e1 K (Nat.le_refl _), fun h h2 => absurd ⟨h, h2⟩ hm⟩⟩
  obtain ⟨rfl, h12⟩ := hm
  have hs := par_sane x (small_par x l true e1 rfl) hw
  have hr := small_ref x l e1
  obtain ⟨s, hss⟩ : ∃ s, a.toNat % (l.length + 1) = s := ⟨_, rfl⟩
  have hs2 : s ≤ l.length := by
    have := Nat.mod_lt a.toNat (show 0 < l.length + 1 by omega)
    omega
  have hk : Int.tmod a ((l.length : Int) + 1) = (s : Int) := by
    rw [show a = ((a.toNat : Nat) : Int) by omega, show (l.length : Int) + 1 = ((l.length + 1 : Nat) : Int) by omega, ← hss]
    exact (Int.ofNat_tmod _ _).symm
  have hrng : ∀ p ∈ endsM l x (s : Int), (s : Int) ≤ p ∧ p ≤ (l.length : Int) := by
    intro p hp
    exact bnd_M l x _ _ ((mem_endsM _ _ _ _ (by omega)).1 hp) (by omega) (by omega)
  have hlen : (endsM l x (s : Int)).length ≤ 65 := by
    have := (srt_len (endsM l x (s : Int)) (upto 64) (endsM_srt l x _) (upto_srt 64) (fun p hp => (mem_upto 64 p).2 (by have := hrng p hp; omega))).1
    rw [upto_len] at this
    exact this
  obtain ⟨K1, e1⟩ := e1
  obtain ⟨K2, e2⟩ := ref_ends l (by omega) x hr s hs2
  obtain ⟨K3, e3⟩ := goon_ev l (endsM l x (s : Int)) (endsM_srt l x _) (l.length + 1 - s) s 0 x (by omega) hs hw (fun j _ => (mem_endsM l x _ j (by omega)).symm) ⟨fun q h => absurd h (by omega), fun q _ h => by
    have := hrng (rd (endsM l x (s : Int)) (q : Int)) (by rw [rd_get _ q h]; exact List.getElem_mem h)
    exact this.1⟩
  exact ⟨K1 + K2 + K3, true, endsM l x (s : Int), ⟨e1 _ (by omega), fun _ _ => ⟨s, hs2, hk, e2 _ (by omega), by omega, e3 _ (by omega)⟩⟩⟩
end Go.Proofs.Ytaphbechnjmlgaa.Pure
