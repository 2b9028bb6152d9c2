/- Texts of this claim put together by a program of its own (PureDerivKinds, POpenL), what the law does not use left out: each part's statements bear their own conditions. -/
import Derived.Test.YtaphbechnjmlgaaC18
namespace Go.Proofs.Ytaphbechnjmlgaa.Pure
open Go.RowKit Go.Proofs.Ytaphbechnjmlgaa.P Go.Proofs.YtaphbechnjmlgaaW.PrintWords Go.Proofs.YtaphbechnjmlgaaW.PrintLast
set_option linter.unusedVariables false
set_option linter.unusedSimpArgs false

theorem M_or (l : List Int) (x y : TNode) (i j : Int) : M l (orX x y) i j ↔ M l x i j ∨ M l y i j := by
  rw [M_4 l (orX x y) i j rfl]
  show MO l [x, y] i j ↔ _
  simp only [MO, or_false]
theorem M_join (l : List Int) (x y : TNode) (i j : Int) : M l (joinX x y) i j ↔ ∃ t, M l x i t ∧ M l y t j := by
  rw [M_3 l (joinX x y) i j rfl]
  show MJ l [x, y] i j ↔ _
  rw [MJ]
  simp only [MJ_one]
theorem M_empty (l : List Int) (i j : Int) : M l emptyX i j ↔ i = j := M_1 l emptyX i j rfl
theorem M_rep (l : List Int) (lo hi : Int) (x : TNode) (i j : Int) : M l (repX lo hi x) i j ↔ (hi < 0 ∨ lo ≤ hi) ∧ Often lo hi (M l x) i j := M_5' l (repX lo hi x) i j rfl x rfl
theorem good_two (kd lo hi : Int) (x y : TNode) (hx : GoodN x) (hy : GoodN y) (h : kd ≠ 5) : GoodN ⟨kd, [], lo, hi, [x, y]⟩ :=
  .mk _ (fun e => absurd e h) fun z hz => by
    rcases List.mem_cons.1 hz with rfl | hz
    · exact hx
    · rw [List.mem_singleton.1 hz]
      exact hy
theorem good_rep (lo hi : Int) (x : TNode) (hx : GoodN x) (h : 0 ≤ lo ∧ lo ≤ 20 ∧ hi ≤ 20) : GoodN (repX lo hi x) :=
  .mk _ (fun _ => h) fun z hz => by
    rw [List.mem_singleton.1 hz]
    exact hx
theorem good_empty : GoodN emptyX := .mk _ (fun e => absurd e (by decide)) fun z hz => by cases hz
theorem dep_two (kd lo hi : Int) (x y : TNode) : dep ⟨kd, [], lo, hi, [x, y]⟩ = max (dep x) (dep y) + 1 := by
  rw [dep, deps, deps, deps]
  omega
theorem dep_one (kd lo hi : Int) (x : TNode) : dep ⟨kd, [], lo, hi, [x]⟩ = dep x + 1 := by
  rw [dep, deps, deps]
  omega
theorem DerivKinds (x : TNode) (h : WfT x) (l : List Int) (hl : l.length * 8 ≤ 140737488351232 ∧ ∀ e ∈ l, (Lit.int .i64 e).wf = true) : ∃ k sm S e t, KindsOk k x l sm S e t := by
  have hw := wf_of x h
  obtain ⟨sm, e1, h1⟩ := small_ev x l hw
  have hS := size_ev x hw
  obtain ⟨K1, e1⟩ := e1
  obtain ⟨K2, hS⟩ := hS
  refine ⟨K1 + K2 + dep x + 300, sm, sizeT x, endsM l x 0, endsM l (repX 1 (-1) x) 0, ⟨e1 _ (by omega), hS _ (by omega), fun hsm _ => ?_⟩⟩
  obtain ⟨hl40, hg⟩ := h1 hsm
  have hr : (0 : Int) ≤ 0 ∧ (0 : Int) ≤ (l.length : Int) := by omega
  have d2 : dep emptyX = 1 := by unfold emptyX; rw [dep, deps]
  have g3 : GoodN (repX 0 (-1) x) := good_rep 0 (-1) x hg (by omega)
  have d3 : dep (repX 0 (-1) x) = dep x + 1 := dep_one 5 0 (-1) x
  have k0 : 200 ≤ K1 + K2 + dep x + 300 := by omega
  have hlen : ∀ y : TNode, (endsM l y 0).length ≤ 65 := by
    intro y
    have := (srt_len (endsM l y 0) (upto 64) (endsM_srt l y 0) (upto_srt 64) (fun p hp => (mem_upto 64 p).2 (by
      have := bnd_M l y _ _ ((mem_endsM _ _ _ _ hr).1 hp) (by omega) (by omega)
      omega))).1
    rw [upto_len] at this
    exact this
  have q : ∀ y : TNode, GoodN y → dep y ≤ dep x + 3 → endsS (K1 + K2 + dep x + 300) y l 0 = some (endsM l y 0) := fun y hy hd => ends_ok l (by omega) y hy k0 (by omega) 0 hr
  refine ⟨q x hg (by omega), ?_, ?_, ?_, ?_, ?_, ?_, ?_, ?_, ?_⟩
  · rw [q (orX x x) (good_two 4 0 0 x x hg hg (by decide)) (by have := dep_two 4 0 0 x x; unfold orX; omega)]
    rw [endsM_congr rfl fun j => (M_or l x x 0 j).trans (or_self_iff)]
  · rw [q (joinX x emptyX) (good_two 3 0 0 x emptyX hg good_empty (by decide)) (by have := dep_two 3 0 0 x emptyX; unfold joinX; omega)]
    rw [endsM_congr (y := x) rfl fun j => by
      rw [M_join]
      simp only [M_empty]
      exact ⟨fun ⟨t, h1, h2⟩ => h2 ▸ h1, fun h => ⟨j, h, rfl⟩⟩]
  · rw [q (repX 1 1 x) (good_rep 1 1 x hg (by omega)) (by have := dep_one 5 1 1 x; unfold repX; omega)]
    rw [endsM_congr (y := x) rfl fun j => by
      rw [M_rep]
      constructor
      · rintro ⟨_, m, q1, q2, q3⟩
        rw [show m = 0 + 1 by omega] at q3
        obtain ⟨t, q4, q5⟩ := q3
        simp only [Times] at q5
        exact q5 ▸ q4
      · intro h
        exact ⟨by omega, 1, by omega, by omega, j, h, rfl⟩]
  · rw [q (repX 0 0 x) (good_rep 0 0 x hg (by omega)) (by have := dep_one 5 0 0 x; unfold repX; omega)]
    congr 1
    refine srt_ext (endsM_srt _ _ _) (by simp [Srt]) fun p => ?_
    rw [mem_endsM _ _ _ _ hr, M_rep, List.mem_singleton]
    constructor
    · rintro ⟨_, m, q1, q2, q3⟩
      rw [show m = 0 by omega] at q3
      simp only [Times] at q3
      exact q3.symm
    · rintro rfl
      exact ⟨by omega, 0, by omega, by omega, rfl⟩
  · exact q (repX 1 (-1) x) (good_rep 1 (-1) x hg (by omega)) (by have := dep_one 5 1 (-1) x; unfold repX; omega)
  · rw [q (joinX x (repX 0 (-1) x)) (good_two 3 0 0 x _ hg g3 (by decide)) (by have := dep_two 3 0 0 x (repX 0 (-1) x); unfold joinX; omega)]
    rw [endsM_congr (y := repX 1 (-1) x) rfl fun j => by
      rw [M_join, M_rep]
      simp only [M_rep]
      constructor
      · rintro ⟨t, q1, _, m, q2, q3, q4⟩
        exact ⟨by omega, m + 1, by omega, by omega, t, q1, q4⟩
      · rintro ⟨_, m, q2, q3, q4⟩
        obtain ⟨m, rfl⟩ : ∃ m', m = m' + 1 := ⟨m - 1, by omega⟩
        obtain ⟨t, q5, q6⟩ := q4
        exact ⟨t, q5, by omega, m, by omega, by omega, q6⟩]
  · exact ints_same _ _ (by have := hlen x; omega) (by have := hlen x; omega)
  · exact ints_same _ _ (by decide) (by simp)
  · exact ints_same _ _ (by have := hlen (repX 1 (-1) x); omega) (by have := hlen (repX 1 (-1) x); omega)
end Go.Proofs.Ytaphbechnjmlgaa.Pure
namespace Go.Proofs.Ytaphbechnjmlgaa.P
open Go.Deep Go.ChangeShapes Go.WideShapes Go.Proofs.YtaphbechnjmlgaaW.PrintWords
set_option linter.unusedVariables false
set_option linter.unusedSimpArgs false

section
variable {H : Type} {enc : TypeId × Value → H} {w : World} {base : Nat} {held : Bool}
theorem bytes_int : Try.prog.bytesOf 3 = 8 := by kernel_rfl
theorem opens_list (m : Nat) : Opens enc Try.prog w base held 26 (Kd.slice 3 (Kd.int .i64)) (fun l => l.length * 8 ≤ 140737488351232 ∧ ∀ e ∈ l, (Lit.int .i64 e).wf = true) m :=
  opens_slice Try.underlying26 (by rw [cells_int]; rfl) bytes_int m (fun n _ => opens_int Try.underlying3 n)
/-- An argument that is a list of whole numbers. -/
theorem open_list {r : Reach} {b0 : Nat} {v : Value} {d : DataW H} {p : List MemPlace} (hv : Value.okWide Try.prog w r b0 26 v) (h : DataW.Trod enc Try.prog w base (fun _ => true) held 26 v d p) (hw : Lite Try.prog 26 d) :
    ∃ (A : Option Addr) (c : Nat) (l : List Int), v = .slice A l.length c ∧ l.length ≤ c ∧ Kd.C (Kd.int .i64) w A l.length l ∧ (l.length * 8 ≤ 140737488351232 ∧ ∀ e ∈ l, (Lit.int .i64 e).wf = true) := by
  obtain ⟨a, len, cap, rfl⟩ := okWide_slice Try.underlying26 hv
  obtain ⟨fuel, hf⟩ := h
  obtain ⟨l, hk, hwf⟩ := opens_list fuel _ _ hf hw
  obtain ⟨A1, d1, he1, hd1, hC1⟩ := hk
  obtain rfl | he := (show (.slice a len cap : Value) = .slice A1 l.length d1 from (List.cons.inj he1).1)
  exact ⟨_, _, l, rfl, hd1, hC1, hwf⟩
end
end Go.Proofs.Ytaphbechnjmlgaa.P
