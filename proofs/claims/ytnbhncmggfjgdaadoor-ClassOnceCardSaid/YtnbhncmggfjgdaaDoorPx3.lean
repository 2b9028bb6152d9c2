/- Printed by a program of this claim's own over the translation: Lean functions of the Go functions, each with its proof; no condition beyond those written. -/
import Derived.Test.YtnbhncmggfjgdaaDoorPx0
import Derived.Test.YtnbhncmggfjgdaaDoorPx1
import Derived.Test.YtnbhncmggfjgdaaDoorPx2
import Derived.Test.YtnbhncmggfjgdaaDoorSOf
import Derived.Test.YtnbhncmggfjgdaaDoorSWord
namespace Go.Proofs.YtnbhncmggfjgdaaDoor.P
open Go.RowKit Go.Proofs.YtnbhncmggfjgdaaDoorW.PrintWords Go.Proofs.YtnbhncmggfjgdaaDoorW.PrintLast Go.Proofs.YtnbhncmggfjgdaaDoorW.PrintMore
attribute [local go_sem] max2_int min2_int max_two min_two max_three min_three max_four min_four   -- for this text's walks alone
set_option linter.unusedVariables false
set_option linter.unusedSimpArgs false

-- BY HAND: function 14 (ductusref02_Of)

/-! ### ductusref02_All: function 17 -/
def ductusref02_All.l0 : Nat → List Int → List Int → Int → Option (List Int)
  | 0, _, _, _ => none
  | k + 1, x0, x3, x4 => if x4 < (x0.length : Int) then (if 0 ≤ x4 then ((ductusref02_Of.f (rd x0 x4)).bind fun t170 => (if x3.length < 17592186044416 then (ductusref02_All.l0 k x0 (x3 ++ [t170]) (wrap64 (x4 + 1))) else (none))) else (none)) else (some x3)
def ductusref02_All.f (k : Nat) (l0 : List Int) : Option (List Int) := ductusref02_All.l0 k l0 ([] : List Int) 0
theorem ductusref02_All.mono_l : ∀ k, (∀ y0 y1 y2, LeO (ductusref02_All.l0 k y0 y1 y2) (ductusref02_All.l0 (k + 1) y0 y1 y2))
  | 0 => fun _ _ _ r h => by simp [ductusref02_All.l0] at h
  | k + 1 => by
    have ih0 := ductusref02_All.mono_l k
    · intro y0 y1 y2
      unfold ductusref02_All.l0
      repeat' first
      | (with_reducible exact ih0 _ _ _)
      | (with_reducible exact LeO.refl _)
      | (with_reducible exact LeO.none _)
      | (with_reducible refine LeO.ite ?_ ?_)
      | (with_reducible refine LeO.bind ?_ (fun _ => ?_))
      | exact ih0 _ _ _
      | exact LeO.none _
      | refine LeO.ite ?_ ?_
      | refine LeO.bind ?_ (fun _ => ?_)
theorem ductusref02_All.mono : ∀ a0 k, LeO (ductusref02_All.f k a0) (ductusref02_All.f (k + 1) a0) := by
  intro a0 k
  have ih0 := ductusref02_All.mono_l k
  unfold ductusref02_All.f
  repeat' first
      | (with_reducible exact ih0 _ _ _)
      | (with_reducible exact LeO.refl _)
      | (with_reducible exact LeO.none _)
      | (with_reducible refine LeO.ite ?_ ?_)
      | (with_reducible refine LeO.bind ?_ (fun _ => ?_))
      | exact ih0 _ _ _
      | exact LeO.none _
      | refine LeO.ite ?_ ?_
      | refine LeO.bind ?_ (fun _ => ?_)
set_option maxHeartbeats 8000000 in
set_option maxRecDepth 100000 in
theorem ductusref02_All.calls (k : Nat) (A0 : Option Addr) (c0 : Nat) (l0 : List Int) (r : List Int) (w : World) (hr0 : Kd.C (Kd.int .i64) w A0 l0.length l0) (hc0 : l0.length ≤ c0) (h : ductusref02_All.f k l0 = some r) :
    Calls Tryd.prog 17 #[.slice A0 l0.length c0] w fun e w' => ∃ v0_ : Value, e = .returned (v0_) ∧ Kd.R (Kd.int .i64) 3 w' w.heap.size (fun _ => True) v0_ r ∧ Below w.heap.size w w' := by
  have HR0 := Aside0.mk hr0
  have HC0 := Aside0.mk hc0
  clear hr0 hc0
  have HB := Aside0.mk (Below.refl w.heap.size w)
  have H : (ductusref02_All.l0 k l0 ([] : List Int) 0) = some r := h
  clear h
  have H' := Aside0.mk H
  clear H
  go_enter Tryd.func17, Tryd.ntmps17
  go_wp2
  go_loopg [3, 4] k (fun kq v3 v4 w' => ∃ (x3_1 : List Int) (x4_1 : Int), v4 = .int .i64 x4_1 ∧ Aside0 (ductusref02_All.l0 kq l0 x3_1 x4_1 = some r) ∧ Aside0 (kq ≤ k) ∧ Aside0 (Kd.R (Kd.int .i64) 3 w' w.heap.size (fun _ => True) v3 x3_1) ∧ Aside0 (Below w.heap.size w w'))
  case atStart => exact ⟨(([] : List Int)), (0), (by first | rfl | (simp; done) | (simp [*]; done)), H', ⟨Nat.le_refl _⟩, ⟨by first | exact Kd.R_nil _ _ _ _ _ | exact Kd.N_nil _ _ _ _ _ | exact Kd.V_nil _ _ _ _ _ | exact Kd.Q_nil _ _ _ _ _ | exact Kd.S_nil _ _ _ _ _⟩, ⟨by repeat (first | (with_reducible first | exact HB.out | apply below_alloc | apply pw_below_drewN | apply below_drew1) | exact HB.out)⟩⟩
  case round =>
    clear H'
    try clear c1
    obtain ⟨x3_1, x4_1, rfl, HA, HK1, HO_3, HB⟩ := hrel
    cases gk with
    | zero => exact absurd HA.out (by simp [ductusref02_All.l0])
    | succ k1 =>
      have H := HA.out
      clear HA
      simp only [ductusref02_All.l0] at H
      by_cases c2 : x4_1 < (l0.length : Int)
      rotate_left
      · rw [if_neg c2] at H
        have c2b0 : decide (x4_1 < (l0.length : Int)) = false := decide_eq_false c2
        clear c2
        obtain rfl := Option.some.inj H
        go_wp2
        go_ret
        exact ⟨_, by first | rfl | (simp [errW_none, errW_some] <;> rfl) | (simp [*, errW_none, errW_some] <;> rfl), by (with_reducible repeat (first | apply Kd.R_alloc | apply Kd.R_drewN | apply Kd.R_drew)); exact HO_3.out, by repeat (first | (with_reducible first | exact HB.out | apply below_alloc | apply pw_below_drewN | apply below_drew1) | exact HB.out)⟩
      rw [if_pos c2] at H
      have c2b0 : decide (x4_1 < (l0.length : Int)) = true := decide_eq_true c2
      clear c2
      by_cases c3 : 0 ≤ x4_1
      rotate_left
      · rw [if_neg c3] at H
        exact absurd H (by simp)
      rw [if_pos c3] at H
      have c3b0 : decide (0 ≤ x4_1) = true := decide_eq_true c3
      clear c3
      replace H := Option.bind_eq_some_iff.mp H
      obtain ⟨t170, A40, H⟩ := H
      replace H : (if x3_1.length < 17592186044416 then (ductusref02_All.l0 k1 l0 (x3_1 ++ [t170]) (wrap64 (x4_1 + 1))) else (none)) = some r := H
      have A4 := Aside0.mk A40
      clear A40
      by_cases c5 : x3_1.length < 17592186044416
      rotate_left
      · rw [if_neg c5] at H
        exact absurd H (by simp)
      rw [if_pos c5] at H
      have LMc5 := Aside0.mk c5
      clear c5
      obtain ⟨y171, hy171⟩ : ∃ y_ : List Int, y_ = (x3_1 ++ [t170]) := ⟨_, rfl⟩
      replace H : (ductusref02_All.l0 k1 l0 y171 (wrap64 (x4_1 + 1))) = some r := by first | (rw [hy171]; with_reducible exact H) | (have H2_ := (Option.bind_some _ _).symm.trans H; rw [hy171]; with_reducible exact H2_) | (have H2_ := (Option.bind_some _ _).symm.trans H; with_reducible exact H2_) | with_reducible exact H | (rw [hy171]; exact H) | exact H
      have Ny171 := Aside0.mk hy171
      clear hy171
      have H' := Aside0.mk H
      clear H
      have p169 : 0 ≤ (x4_1 : Int) := of_decide_eq_true (by first | (with_reducible assumption) | assumption)
      have q169 : x4_1 < (l0.length : Int) := of_decide_eq_true (by first | (with_reducible assumption) | assumption)
      obtain ⟨ad169, e169, hx169_0⟩ := Kd.at_int HR0.out x4_1 p169 q169
      cases e169
      replace hx169_0 := (HB.out.cell (World.block_lt_of_cell? w _ hx169_0)).trans hx169_0
      replace p169 := eq_true p169
      replace q169 := eq_true q169
      go_wp2_with (first | ((with_reducible refine gate_callee (f := 14) rfl ?_); refine goesL_ (some 16) rfl rfl Tryd.func14 (by kernel_rfl) rfl #[.int .i64 (rd l0 x4_1)] rfl (by (try simp only [List.map_toArray, List.map_cons, List.map_nil]); first | done | rfl | (simp only [List.length_drop, List.length_take]; rfl)) ?_; (with_reducible refine (ductusref02_Of.calls (rd l0 x4_1) t170 _ A4.out).mono ?_); rintro e w' ⟨rfl, ⟨nd, rfl⟩⟩; refine ⟨_, rfl, ?_⟩) | ((with_reducible refine gate_builtin (b := .append) (xs := #[.tmp 11, .tmp 17]) rfl ?_); at_builtin; refine Kd.R_append (Kd.int .i64) (w0 := w) w.heap.size rfl (.tmp 11) (.tmp 17) 26 3 (.int .i64 0) 8 rfl Tryd.underlying26 info3 rfl (by decide) (by omega) u3 x3_1 t170 [.int .i64 t170] (fun _ => True) (fun _ => False) rfl rfl ?aP (fun _ hk => hk.elim) ?aF ?aO ?aB ?aS ?aL ?_; (case aP => exact rfl); (case aB => exact (by repeat (first | (with_reducible first | exact HB.out | apply below_alloc | apply pw_below_drewN | apply below_drew1) | exact HB.out))); (case aF => exact (fun _ _ => trivial)); (case aO => exact (by (with_reducible repeat (first | apply Kd.R_alloc | apply Kd.R_drewN | apply Kd.R_drew)); exact HO_3.out)); (case aS => exact (below_size (by repeat (first | (with_reducible first | exact HB.out | apply below_alloc | apply pw_below_drewN | apply below_drew1) | exact HB.out)))); (case aL => have := LMc5.out; omega); intro v172 w6 ho hb hg hat; rw [← Ny171.out] at ho; have n0_ := Aside0.mk (hb); have n1_ := Aside0.mk (ho); clear HB; clear HO_3; have HB := n0_; have HO173 := n1_; clear n0_ n1_; clear ho hb hg hat))
      go_roundg k1
      case measure => have := HK1.out; omega
      case rel => exact ⟨(y171), (wrap64 (x4_1 + 1)), (by first | rfl | (simp; done) | (simp [*]; done)), H', ⟨by have := HK1.out; omega⟩, ⟨by (with_reducible repeat (first | apply Kd.R_alloc | apply Kd.R_drewN | apply Kd.R_drew)); exact HO173.out⟩, ⟨by repeat (first | (with_reducible first | exact HB.out | apply below_alloc | apply pw_below_drewN | apply below_drew1) | exact HB.out)⟩⟩

/-! ### ductusref02_Word: function 18 -/
def ductusref02_Word.f (a0 : Int) : Option (ByteArray) := (some (([(⟨#[76]⟩ : ByteArray), (⟨#[82]⟩ : ByteArray), (⟨#[65, 76]⟩ : ByteArray), (⟨#[69, 78]⟩ : ByteArray), (⟨#[69, 83]⟩ : ByteArray), (⟨#[69, 84]⟩ : ByteArray), (⟨#[65, 78]⟩ : ByteArray), (⟨#[67, 83]⟩ : ByteArray), (⟨#[78, 83, 77]⟩ : ByteArray), (⟨#[66, 78]⟩ : ByteArray), (⟨#[66]⟩ : ByteArray), (⟨#[83]⟩ : ByteArray), (⟨#[87, 83]⟩ : ByteArray), (⟨#[79, 78]⟩ : ByteArray), (⟨#[76, 82, 69]⟩ : ByteArray), (⟨#[76, 82, 79]⟩ : ByteArray), (⟨#[82, 76, 69]⟩ : ByteArray), (⟨#[82, 76, 79]⟩ : ByteArray), (⟨#[80, 68, 70]⟩ : ByteArray), (⟨#[76, 82, 73]⟩ : ByteArray), (⟨#[82, 76, 73]⟩ : ByteArray), (⟨#[70, 83, 73]⟩ : ByteArray), (⟨#[80, 68, 73]⟩ : ByteArray)] : List ByteArray) : List ByteArray)).bind fun y174 => (if a0 < 0 then (some (⟨#[]⟩ : ByteArray)) else (if a0 ≥ (y174.length : Int) then (some (⟨#[]⟩ : ByteArray)) else (if 0 ≤ a0 then (if a0 < (y174.length : Int) then (some (rdOf ByteArray.empty y174 a0)) else (none)) else (none))))
set_option maxHeartbeats 8000000 in
set_option maxRecDepth 100000 in
theorem ductusref02_Word.calls (a0 : Int) (r : ByteArray) (w : World) (h : ductusref02_Word.f a0 = some r) :
    Calls Tryd.prog 18 #[.int .i64 a0] w fun e w' => e = .returned (.string r) ∧ Below w.heap.size w w' := by
  have HB := Aside0.mk (Below.refl w.heap.size w)
  have H : ((some (([(⟨#[76]⟩ : ByteArray), (⟨#[82]⟩ : ByteArray), (⟨#[65, 76]⟩ : ByteArray), (⟨#[69, 78]⟩ : ByteArray), (⟨#[69, 83]⟩ : ByteArray), (⟨#[69, 84]⟩ : ByteArray), (⟨#[65, 78]⟩ : ByteArray), (⟨#[67, 83]⟩ : ByteArray), (⟨#[78, 83, 77]⟩ : ByteArray), (⟨#[66, 78]⟩ : ByteArray), (⟨#[66]⟩ : ByteArray), (⟨#[83]⟩ : ByteArray), (⟨#[87, 83]⟩ : ByteArray), (⟨#[79, 78]⟩ : ByteArray), (⟨#[76, 82, 69]⟩ : ByteArray), (⟨#[76, 82, 79]⟩ : ByteArray), (⟨#[82, 76, 69]⟩ : ByteArray), (⟨#[82, 76, 79]⟩ : ByteArray), (⟨#[80, 68, 70]⟩ : ByteArray), (⟨#[76, 82, 73]⟩ : ByteArray), (⟨#[82, 76, 73]⟩ : ByteArray), (⟨#[70, 83, 73]⟩ : ByteArray), (⟨#[80, 68, 73]⟩ : ByteArray)] : List ByteArray) : List ByteArray)).bind fun y174 => (if a0 < 0 then (some (⟨#[]⟩ : ByteArray)) else (if a0 ≥ (y174.length : Int) then (some (⟨#[]⟩ : ByteArray)) else (if 0 ≤ a0 then (if a0 < (y174.length : Int) then (some (rdOf ByteArray.empty y174 a0)) else (none)) else (none))))) = some r := h
  clear h
  obtain ⟨y174, hy174⟩ : ∃ y_ : List ByteArray, y_ = (([(⟨#[76]⟩ : ByteArray), (⟨#[82]⟩ : ByteArray), (⟨#[65, 76]⟩ : ByteArray), (⟨#[69, 78]⟩ : ByteArray), (⟨#[69, 83]⟩ : ByteArray), (⟨#[69, 84]⟩ : ByteArray), (⟨#[65, 78]⟩ : ByteArray), (⟨#[67, 83]⟩ : ByteArray), (⟨#[78, 83, 77]⟩ : ByteArray), (⟨#[66, 78]⟩ : ByteArray), (⟨#[66]⟩ : ByteArray), (⟨#[83]⟩ : ByteArray), (⟨#[87, 83]⟩ : ByteArray), (⟨#[79, 78]⟩ : ByteArray), (⟨#[76, 82, 69]⟩ : ByteArray), (⟨#[76, 82, 79]⟩ : ByteArray), (⟨#[82, 76, 69]⟩ : ByteArray), (⟨#[82, 76, 79]⟩ : ByteArray), (⟨#[80, 68, 70]⟩ : ByteArray), (⟨#[76, 82, 73]⟩ : ByteArray), (⟨#[82, 76, 73]⟩ : ByteArray), (⟨#[70, 83, 73]⟩ : ByteArray), (⟨#[80, 68, 73]⟩ : ByteArray)] : List ByteArray)) := ⟨_, rfl⟩
  replace H : (if a0 < 0 then (some (⟨#[]⟩ : ByteArray)) else (if a0 ≥ (y174.length : Int) then (some (⟨#[]⟩ : ByteArray)) else (if 0 ≤ a0 then (if a0 < (y174.length : Int) then (some (rdOf ByteArray.empty y174 a0)) else (none)) else (none)))) = some r := by first | (rw [hy174]; with_reducible exact H) | (have H2_ := (Option.bind_some _ _).symm.trans H; rw [hy174]; with_reducible exact H2_) | (have H2_ := (Option.bind_some _ _).symm.trans H; with_reducible exact H2_) | with_reducible exact H | (rw [hy174]; exact H) | exact H
  have Ny174 := Aside0.mk hy174
  clear hy174
  by_cases c2 : a0 < 0
  · rw [if_pos c2] at H
    have c2b0 : decide (a0 < 0) = true := decide_eq_true c2
    clear c2
    obtain rfl := Option.some.inj H
    go_enter Tryd.func18, Tryd.ntmps18
    go_wp2_with (first | ((with_reducible refine gate_dst (N := 4) rfl ?_); (try (refine gate_guard (by rfl) ?_; dsimp only)); refine Kd.R_lit Kd.string _ 9 ?hg (N := 4) ?hd (xs := ([(⟨#[76]⟩ : ByteArray), (⟨#[82]⟩ : ByteArray), (⟨#[65, 76]⟩ : ByteArray), (⟨#[69, 78]⟩ : ByteArray), (⟨#[69, 83]⟩ : ByteArray), (⟨#[69, 84]⟩ : ByteArray), (⟨#[65, 78]⟩ : ByteArray), (⟨#[67, 83]⟩ : ByteArray), (⟨#[78, 83, 77]⟩ : ByteArray), (⟨#[66, 78]⟩ : ByteArray), (⟨#[66]⟩ : ByteArray), (⟨#[83]⟩ : ByteArray), (⟨#[87, 83]⟩ : ByteArray), (⟨#[79, 78]⟩ : ByteArray), (⟨#[76, 82, 69]⟩ : ByteArray), (⟨#[76, 82, 79]⟩ : ByteArray), (⟨#[82, 76, 69]⟩ : ByteArray), (⟨#[82, 76, 79]⟩ : ByteArray), (⟨#[80, 68, 70]⟩ : ByteArray), (⟨#[76, 82, 73]⟩ : ByteArray), (⟨#[82, 76, 73]⟩ : ByteArray), (⟨#[70, 83, 73]⟩ : ByteArray), (⟨#[80, 68, 73]⟩ : ByteArray)] : List ByteArray)) (inner := [.string (⟨#[76]⟩ : ByteArray), .string (⟨#[82]⟩ : ByteArray), .string (⟨#[65, 76]⟩ : ByteArray), .string (⟨#[69, 78]⟩ : ByteArray), .string (⟨#[69, 83]⟩ : ByteArray), .string (⟨#[69, 84]⟩ : ByteArray), .string (⟨#[65, 78]⟩ : ByteArray), .string (⟨#[67, 83]⟩ : ByteArray), .string (⟨#[78, 83, 77]⟩ : ByteArray), .string (⟨#[66, 78]⟩ : ByteArray), .string (⟨#[66]⟩ : ByteArray), .string (⟨#[83]⟩ : ByteArray), .string (⟨#[87, 83]⟩ : ByteArray), .string (⟨#[79, 78]⟩ : ByteArray), .string (⟨#[76, 82, 69]⟩ : ByteArray), .string (⟨#[76, 82, 79]⟩ : ByteArray), .string (⟨#[82, 76, 69]⟩ : ByteArray), .string (⟨#[82, 76, 79]⟩ : ByteArray), .string (⟨#[80, 68, 70]⟩ : ByteArray), .string (⟨#[76, 82, 73]⟩ : ByteArray), .string (⟨#[82, 76, 73]⟩ : ByteArray), .string (⟨#[70, 83, 73]⟩ : ByteArray), .string (⟨#[80, 68, 73]⟩ : ByteArray)]) (ok := fun _ => True) (okp := fun _ => True) ?hr ?hp (fun _ hk => hk) trivial (Below.refl _ _) (Nat.le_refl _) (by simp) ?_; (case hd => rfl); (case hg => rfl); (case hr => first | (go_simp; done) | (go_simp; rfl)); (case hp => exact (Reps.one (show Kd.M Kd.string _ _ _ (⟨#[76]⟩ : ByteArray) [.string (⟨#[76]⟩ : ByteArray)] from rfl) (Reps.one (show Kd.M Kd.string _ _ _ (⟨#[82]⟩ : ByteArray) [.string (⟨#[82]⟩ : ByteArray)] from rfl) (Reps.one (show Kd.M Kd.string _ _ _ (⟨#[65, 76]⟩ : ByteArray) [.string (⟨#[65, 76]⟩ : ByteArray)] from rfl) (Reps.one (show Kd.M Kd.string _ _ _ (⟨#[69, 78]⟩ : ByteArray) [.string (⟨#[69, 78]⟩ : ByteArray)] from rfl) (Reps.one (show Kd.M Kd.string _ _ _ (⟨#[69, 83]⟩ : ByteArray) [.string (⟨#[69, 83]⟩ : ByteArray)] from rfl) (Reps.one (show Kd.M Kd.string _ _ _ (⟨#[69, 84]⟩ : ByteArray) [.string (⟨#[69, 84]⟩ : ByteArray)] from rfl) (Reps.one (show Kd.M Kd.string _ _ _ (⟨#[65, 78]⟩ : ByteArray) [.string (⟨#[65, 78]⟩ : ByteArray)] from rfl) (Reps.one (show Kd.M Kd.string _ _ _ (⟨#[67, 83]⟩ : ByteArray) [.string (⟨#[67, 83]⟩ : ByteArray)] from rfl) (Reps.one (show Kd.M Kd.string _ _ _ (⟨#[78, 83, 77]⟩ : ByteArray) [.string (⟨#[78, 83, 77]⟩ : ByteArray)] from rfl) (Reps.one (show Kd.M Kd.string _ _ _ (⟨#[66, 78]⟩ : ByteArray) [.string (⟨#[66, 78]⟩ : ByteArray)] from rfl) (Reps.one (show Kd.M Kd.string _ _ _ (⟨#[66]⟩ : ByteArray) [.string (⟨#[66]⟩ : ByteArray)] from rfl) (Reps.one (show Kd.M Kd.string _ _ _ (⟨#[83]⟩ : ByteArray) [.string (⟨#[83]⟩ : ByteArray)] from rfl) (Reps.one (show Kd.M Kd.string _ _ _ (⟨#[87, 83]⟩ : ByteArray) [.string (⟨#[87, 83]⟩ : ByteArray)] from rfl) (Reps.one (show Kd.M Kd.string _ _ _ (⟨#[79, 78]⟩ : ByteArray) [.string (⟨#[79, 78]⟩ : ByteArray)] from rfl) (Reps.one (show Kd.M Kd.string _ _ _ (⟨#[76, 82, 69]⟩ : ByteArray) [.string (⟨#[76, 82, 69]⟩ : ByteArray)] from rfl) (Reps.one (show Kd.M Kd.string _ _ _ (⟨#[76, 82, 79]⟩ : ByteArray) [.string (⟨#[76, 82, 79]⟩ : ByteArray)] from rfl) (Reps.one (show Kd.M Kd.string _ _ _ (⟨#[82, 76, 69]⟩ : ByteArray) [.string (⟨#[82, 76, 69]⟩ : ByteArray)] from rfl) (Reps.one (show Kd.M Kd.string _ _ _ (⟨#[82, 76, 79]⟩ : ByteArray) [.string (⟨#[82, 76, 79]⟩ : ByteArray)] from rfl) (Reps.one (show Kd.M Kd.string _ _ _ (⟨#[80, 68, 70]⟩ : ByteArray) [.string (⟨#[80, 68, 70]⟩ : ByteArray)] from rfl) (Reps.one (show Kd.M Kd.string _ _ _ (⟨#[76, 82, 73]⟩ : ByteArray) [.string (⟨#[76, 82, 73]⟩ : ByteArray)] from rfl) (Reps.one (show Kd.M Kd.string _ _ _ (⟨#[82, 76, 73]⟩ : ByteArray) [.string (⟨#[82, 76, 73]⟩ : ByteArray)] from rfl) (Reps.one (show Kd.M Kd.string _ _ _ (⟨#[70, 83, 73]⟩ : ByteArray) [.string (⟨#[70, 83, 73]⟩ : ByteArray)] from rfl) (Reps.one (show Kd.M Kd.string _ _ _ (⟨#[80, 68, 73]⟩ : ByteArray) [.string (⟨#[80, 68, 73]⟩ : ByteArray)] from rfl) (Reps.none _ _))))))))))))))))))))))))); intro v175 w3 ho4 hb hg_ hnew_; clear hg_ hnew_; (first | rw [← Ny174.out] at ho4 | (simp only [Int.reduceToNat] at ho4; rw [← Ny174.out] at ho4)); have n0_ := Aside0.mk (Kd.R_lower ho4 (below_size (by repeat (first | (with_reducible first | exact HB.out | apply below_alloc | apply pw_below_drewN | apply below_drew1) | exact HB.out)))); have n1_ := Aside0.mk (below_step (by repeat (first | (with_reducible first | exact HB.out | apply below_alloc | apply pw_below_drewN | apply below_drew1) | exact HB.out)) hb); clear HB; have HO176 := n0_; have HB := n1_; clear n0_ n1_; clear hb ho4))
    go_ret
    exact ⟨by first | rfl | (simp [errW_none, errW_some] <;> rfl) | (simp [*, errW_none, errW_some] <;> rfl), by repeat (first | (with_reducible first | exact HB.out | apply below_alloc | apply pw_below_drewN | apply below_drew1) | exact HB.out)⟩
  rw [if_neg c2] at H
  have c2b0 : decide (a0 < 0) = false := decide_eq_false c2
  clear c2
  by_cases c5 : a0 ≥ (y174.length : Int)
  · rw [if_pos c5] at H
    have c5b0 : decide ((y174.length : Int) ≤ a0) = true := decide_eq_true c5
    clear c5
    obtain rfl := Option.some.inj H
    go_enter Tryd.func18, Tryd.ntmps18
    go_wp2_with (first | ((with_reducible refine gate_dst (N := 4) rfl ?_); (try (refine gate_guard (by rfl) ?_; dsimp only)); refine Kd.R_lit Kd.string _ 9 ?hg (N := 4) ?hd (xs := ([(⟨#[76]⟩ : ByteArray), (⟨#[82]⟩ : ByteArray), (⟨#[65, 76]⟩ : ByteArray), (⟨#[69, 78]⟩ : ByteArray), (⟨#[69, 83]⟩ : ByteArray), (⟨#[69, 84]⟩ : ByteArray), (⟨#[65, 78]⟩ : ByteArray), (⟨#[67, 83]⟩ : ByteArray), (⟨#[78, 83, 77]⟩ : ByteArray), (⟨#[66, 78]⟩ : ByteArray), (⟨#[66]⟩ : ByteArray), (⟨#[83]⟩ : ByteArray), (⟨#[87, 83]⟩ : ByteArray), (⟨#[79, 78]⟩ : ByteArray), (⟨#[76, 82, 69]⟩ : ByteArray), (⟨#[76, 82, 79]⟩ : ByteArray), (⟨#[82, 76, 69]⟩ : ByteArray), (⟨#[82, 76, 79]⟩ : ByteArray), (⟨#[80, 68, 70]⟩ : ByteArray), (⟨#[76, 82, 73]⟩ : ByteArray), (⟨#[82, 76, 73]⟩ : ByteArray), (⟨#[70, 83, 73]⟩ : ByteArray), (⟨#[80, 68, 73]⟩ : ByteArray)] : List ByteArray)) (inner := [.string (⟨#[76]⟩ : ByteArray), .string (⟨#[82]⟩ : ByteArray), .string (⟨#[65, 76]⟩ : ByteArray), .string (⟨#[69, 78]⟩ : ByteArray), .string (⟨#[69, 83]⟩ : ByteArray), .string (⟨#[69, 84]⟩ : ByteArray), .string (⟨#[65, 78]⟩ : ByteArray), .string (⟨#[67, 83]⟩ : ByteArray), .string (⟨#[78, 83, 77]⟩ : ByteArray), .string (⟨#[66, 78]⟩ : ByteArray), .string (⟨#[66]⟩ : ByteArray), .string (⟨#[83]⟩ : ByteArray), .string (⟨#[87, 83]⟩ : ByteArray), .string (⟨#[79, 78]⟩ : ByteArray), .string (⟨#[76, 82, 69]⟩ : ByteArray), .string (⟨#[76, 82, 79]⟩ : ByteArray), .string (⟨#[82, 76, 69]⟩ : ByteArray), .string (⟨#[82, 76, 79]⟩ : ByteArray), .string (⟨#[80, 68, 70]⟩ : ByteArray), .string (⟨#[76, 82, 73]⟩ : ByteArray), .string (⟨#[82, 76, 73]⟩ : ByteArray), .string (⟨#[70, 83, 73]⟩ : ByteArray), .string (⟨#[80, 68, 73]⟩ : ByteArray)]) (ok := fun _ => True) (okp := fun _ => True) ?hr ?hp (fun _ hk => hk) trivial (Below.refl _ _) (Nat.le_refl _) (by simp) ?_; (case hd => rfl); (case hg => rfl); (case hr => first | (go_simp; done) | (go_simp; rfl)); (case hp => exact (Reps.one (show Kd.M Kd.string _ _ _ (⟨#[76]⟩ : ByteArray) [.string (⟨#[76]⟩ : ByteArray)] from rfl) (Reps.one (show Kd.M Kd.string _ _ _ (⟨#[82]⟩ : ByteArray) [.string (⟨#[82]⟩ : ByteArray)] from rfl) (Reps.one (show Kd.M Kd.string _ _ _ (⟨#[65, 76]⟩ : ByteArray) [.string (⟨#[65, 76]⟩ : ByteArray)] from rfl) (Reps.one (show Kd.M Kd.string _ _ _ (⟨#[69, 78]⟩ : ByteArray) [.string (⟨#[69, 78]⟩ : ByteArray)] from rfl) (Reps.one (show Kd.M Kd.string _ _ _ (⟨#[69, 83]⟩ : ByteArray) [.string (⟨#[69, 83]⟩ : ByteArray)] from rfl) (Reps.one (show Kd.M Kd.string _ _ _ (⟨#[69, 84]⟩ : ByteArray) [.string (⟨#[69, 84]⟩ : ByteArray)] from rfl) (Reps.one (show Kd.M Kd.string _ _ _ (⟨#[65, 78]⟩ : ByteArray) [.string (⟨#[65, 78]⟩ : ByteArray)] from rfl) (Reps.one (show Kd.M Kd.string _ _ _ (⟨#[67, 83]⟩ : ByteArray) [.string (⟨#[67, 83]⟩ : ByteArray)] from rfl) (Reps.one (show Kd.M Kd.string _ _ _ (⟨#[78, 83, 77]⟩ : ByteArray) [.string (⟨#[78, 83, 77]⟩ : ByteArray)] from rfl) (Reps.one (show Kd.M Kd.string _ _ _ (⟨#[66, 78]⟩ : ByteArray) [.string (⟨#[66, 78]⟩ : ByteArray)] from rfl) (Reps.one (show Kd.M Kd.string _ _ _ (⟨#[66]⟩ : ByteArray) [.string (⟨#[66]⟩ : ByteArray)] from rfl) (Reps.one (show Kd.M Kd.string _ _ _ (⟨#[83]⟩ : ByteArray) [.string (⟨#[83]⟩ : ByteArray)] from rfl) (Reps.one (show Kd.M Kd.string _ _ _ (⟨#[87, 83]⟩ : ByteArray) [.string (⟨#[87, 83]⟩ : ByteArray)] from rfl) (Reps.one (show Kd.M Kd.string _ _ _ (⟨#[79, 78]⟩ : ByteArray) [.string (⟨#[79, 78]⟩ : ByteArray)] from rfl) (Reps.one (show Kd.M Kd.string _ _ _ (⟨#[76, 82, 69]⟩ : ByteArray) [.string (⟨#[76, 82, 69]⟩ : ByteArray)] from rfl) (Reps.one (show Kd.M Kd.string _ _ _ (⟨#[76, 82, 79]⟩ : ByteArray) [.string (⟨#[76, 82, 79]⟩ : ByteArray)] from rfl) (Reps.one (show Kd.M Kd.string _ _ _ (⟨#[82, 76, 69]⟩ : ByteArray) [.string (⟨#[82, 76, 69]⟩ : ByteArray)] from rfl) (Reps.one (show Kd.M Kd.string _ _ _ (⟨#[82, 76, 79]⟩ : ByteArray) [.string (⟨#[82, 76, 79]⟩ : ByteArray)] from rfl) (Reps.one (show Kd.M Kd.string _ _ _ (⟨#[80, 68, 70]⟩ : ByteArray) [.string (⟨#[80, 68, 70]⟩ : ByteArray)] from rfl) (Reps.one (show Kd.M Kd.string _ _ _ (⟨#[76, 82, 73]⟩ : ByteArray) [.string (⟨#[76, 82, 73]⟩ : ByteArray)] from rfl) (Reps.one (show Kd.M Kd.string _ _ _ (⟨#[82, 76, 73]⟩ : ByteArray) [.string (⟨#[82, 76, 73]⟩ : ByteArray)] from rfl) (Reps.one (show Kd.M Kd.string _ _ _ (⟨#[70, 83, 73]⟩ : ByteArray) [.string (⟨#[70, 83, 73]⟩ : ByteArray)] from rfl) (Reps.one (show Kd.M Kd.string _ _ _ (⟨#[80, 68, 73]⟩ : ByteArray) [.string (⟨#[80, 68, 73]⟩ : ByteArray)] from rfl) (Reps.none _ _))))))))))))))))))))))))); intro v175 w6 ho7 hb hg_ hnew_; clear hg_ hnew_; (first | rw [← Ny174.out] at ho7 | (simp only [Int.reduceToNat] at ho7; rw [← Ny174.out] at ho7)); have n0_ := Aside0.mk (Kd.R_lower ho7 (below_size (by repeat (first | (with_reducible first | exact HB.out | apply below_alloc | apply pw_below_drewN | apply below_drew1) | exact HB.out)))); have n1_ := Aside0.mk (below_step (by repeat (first | (with_reducible first | exact HB.out | apply below_alloc | apply pw_below_drewN | apply below_drew1) | exact HB.out)) hb); clear HB; have HO176 := n0_; have HB := n1_; clear n0_ n1_; clear hb ho7; obtain ⟨Ao8, co8, eo8⟩ := Kd.R_slice HO176.out; subst eo8))
    go_ret
    exact ⟨by first | rfl | (simp [errW_none, errW_some] <;> rfl) | (simp [*, errW_none, errW_some] <;> rfl), by repeat (first | (with_reducible first | exact HB.out | apply below_alloc | apply pw_below_drewN | apply below_drew1) | exact HB.out)⟩
  rw [if_neg c5] at H
  have c5b0 : decide ((y174.length : Int) ≤ a0) = false := decide_eq_false c5
  clear c5
  by_cases c9 : 0 ≤ a0
  rotate_left
  · rw [if_neg c9] at H
    exact absurd H (by simp)
  rw [if_pos c9] at H
  have c9b0 : decide (0 ≤ a0) = true := decide_eq_true c9
  clear c9
  by_cases c10 : a0 < (y174.length : Int)
  rotate_left
  · rw [if_neg c10] at H
    exact absurd H (by simp)
  rw [if_pos c10] at H
  have c10b0 : decide (a0 < (y174.length : Int)) = true := decide_eq_true c10
  clear c10
  obtain rfl := Option.some.inj H
  go_enter Tryd.func18, Tryd.ntmps18
  go_wp2_with (first | ((with_reducible refine gate_dst (N := 4) rfl ?_); (try (refine gate_guard (by rfl) ?_; dsimp only)); refine Kd.R_lit Kd.string _ 9 ?hg (N := 4) ?hd (xs := ([(⟨#[76]⟩ : ByteArray), (⟨#[82]⟩ : ByteArray), (⟨#[65, 76]⟩ : ByteArray), (⟨#[69, 78]⟩ : ByteArray), (⟨#[69, 83]⟩ : ByteArray), (⟨#[69, 84]⟩ : ByteArray), (⟨#[65, 78]⟩ : ByteArray), (⟨#[67, 83]⟩ : ByteArray), (⟨#[78, 83, 77]⟩ : ByteArray), (⟨#[66, 78]⟩ : ByteArray), (⟨#[66]⟩ : ByteArray), (⟨#[83]⟩ : ByteArray), (⟨#[87, 83]⟩ : ByteArray), (⟨#[79, 78]⟩ : ByteArray), (⟨#[76, 82, 69]⟩ : ByteArray), (⟨#[76, 82, 79]⟩ : ByteArray), (⟨#[82, 76, 69]⟩ : ByteArray), (⟨#[82, 76, 79]⟩ : ByteArray), (⟨#[80, 68, 70]⟩ : ByteArray), (⟨#[76, 82, 73]⟩ : ByteArray), (⟨#[82, 76, 73]⟩ : ByteArray), (⟨#[70, 83, 73]⟩ : ByteArray), (⟨#[80, 68, 73]⟩ : ByteArray)] : List ByteArray)) (inner := [.string (⟨#[76]⟩ : ByteArray), .string (⟨#[82]⟩ : ByteArray), .string (⟨#[65, 76]⟩ : ByteArray), .string (⟨#[69, 78]⟩ : ByteArray), .string (⟨#[69, 83]⟩ : ByteArray), .string (⟨#[69, 84]⟩ : ByteArray), .string (⟨#[65, 78]⟩ : ByteArray), .string (⟨#[67, 83]⟩ : ByteArray), .string (⟨#[78, 83, 77]⟩ : ByteArray), .string (⟨#[66, 78]⟩ : ByteArray), .string (⟨#[66]⟩ : ByteArray), .string (⟨#[83]⟩ : ByteArray), .string (⟨#[87, 83]⟩ : ByteArray), .string (⟨#[79, 78]⟩ : ByteArray), .string (⟨#[76, 82, 69]⟩ : ByteArray), .string (⟨#[76, 82, 79]⟩ : ByteArray), .string (⟨#[82, 76, 69]⟩ : ByteArray), .string (⟨#[82, 76, 79]⟩ : ByteArray), .string (⟨#[80, 68, 70]⟩ : ByteArray), .string (⟨#[76, 82, 73]⟩ : ByteArray), .string (⟨#[82, 76, 73]⟩ : ByteArray), .string (⟨#[70, 83, 73]⟩ : ByteArray), .string (⟨#[80, 68, 73]⟩ : ByteArray)]) (ok := fun _ => True) (okp := fun _ => True) ?hr ?hp (fun _ hk => hk) trivial (Below.refl _ _) (Nat.le_refl _) (by simp) ?_; (case hd => rfl); (case hg => rfl); (case hr => first | (go_simp; done) | (go_simp; rfl)); (case hp => exact (Reps.one (show Kd.M Kd.string _ _ _ (⟨#[76]⟩ : ByteArray) [.string (⟨#[76]⟩ : ByteArray)] from rfl) (Reps.one (show Kd.M Kd.string _ _ _ (⟨#[82]⟩ : ByteArray) [.string (⟨#[82]⟩ : ByteArray)] from rfl) (Reps.one (show Kd.M Kd.string _ _ _ (⟨#[65, 76]⟩ : ByteArray) [.string (⟨#[65, 76]⟩ : ByteArray)] from rfl) (Reps.one (show Kd.M Kd.string _ _ _ (⟨#[69, 78]⟩ : ByteArray) [.string (⟨#[69, 78]⟩ : ByteArray)] from rfl) (Reps.one (show Kd.M Kd.string _ _ _ (⟨#[69, 83]⟩ : ByteArray) [.string (⟨#[69, 83]⟩ : ByteArray)] from rfl) (Reps.one (show Kd.M Kd.string _ _ _ (⟨#[69, 84]⟩ : ByteArray) [.string (⟨#[69, 84]⟩ : ByteArray)] from rfl) (Reps.one (show Kd.M Kd.string _ _ _ (⟨#[65, 78]⟩ : ByteArray) [.string (⟨#[65, 78]⟩ : ByteArray)] from rfl) (Reps.one (show Kd.M Kd.string _ _ _ (⟨#[67, 83]⟩ : ByteArray) [.string (⟨#[67, 83]⟩ : ByteArray)] from rfl) (Reps.one (show Kd.M Kd.string _ _ _ (⟨#[78, 83, 77]⟩ : ByteArray) [.string (⟨#[78, 83, 77]⟩ : ByteArray)] from rfl) (Reps.one (show Kd.M Kd.string _ _ _ (⟨#[66, 78]⟩ : ByteArray) [.string (⟨#[66, 78]⟩ : ByteArray)] from rfl) (Reps.one (show Kd.M Kd.string _ _ _ (⟨#[66]⟩ : ByteArray) [.string (⟨#[66]⟩ : ByteArray)] from rfl) (Reps.one (show Kd.M Kd.string _ _ _ (⟨#[83]⟩ : ByteArray) [.string (⟨#[83]⟩ : ByteArray)] from rfl) (Reps.one (show Kd.M Kd.string _ _ _ (⟨#[87, 83]⟩ : ByteArray) [.string (⟨#[87, 83]⟩ : ByteArray)] from rfl) (Reps.one (show Kd.M Kd.string _ _ _ (⟨#[79, 78]⟩ : ByteArray) [.string (⟨#[79, 78]⟩ : ByteArray)] from rfl) (Reps.one (show Kd.M Kd.string _ _ _ (⟨#[76, 82, 69]⟩ : ByteArray) [.string (⟨#[76, 82, 69]⟩ : ByteArray)] from rfl) (Reps.one (show Kd.M Kd.string _ _ _ (⟨#[76, 82, 79]⟩ : ByteArray) [.string (⟨#[76, 82, 79]⟩ : ByteArray)] from rfl) (Reps.one (show Kd.M Kd.string _ _ _ (⟨#[82, 76, 69]⟩ : ByteArray) [.string (⟨#[82, 76, 69]⟩ : ByteArray)] from rfl) (Reps.one (show Kd.M Kd.string _ _ _ (⟨#[82, 76, 79]⟩ : ByteArray) [.string (⟨#[82, 76, 79]⟩ : ByteArray)] from rfl) (Reps.one (show Kd.M Kd.string _ _ _ (⟨#[80, 68, 70]⟩ : ByteArray) [.string (⟨#[80, 68, 70]⟩ : ByteArray)] from rfl) (Reps.one (show Kd.M Kd.string _ _ _ (⟨#[76, 82, 73]⟩ : ByteArray) [.string (⟨#[76, 82, 73]⟩ : ByteArray)] from rfl) (Reps.one (show Kd.M Kd.string _ _ _ (⟨#[82, 76, 73]⟩ : ByteArray) [.string (⟨#[82, 76, 73]⟩ : ByteArray)] from rfl) (Reps.one (show Kd.M Kd.string _ _ _ (⟨#[70, 83, 73]⟩ : ByteArray) [.string (⟨#[70, 83, 73]⟩ : ByteArray)] from rfl) (Reps.one (show Kd.M Kd.string _ _ _ (⟨#[80, 68, 73]⟩ : ByteArray) [.string (⟨#[80, 68, 73]⟩ : ByteArray)] from rfl) (Reps.none _ _))))))))))))))))))))))))); intro v175 w11 ho12 hb hg_ hnew_; clear hg_ hnew_; (first | rw [← Ny174.out] at ho12 | (simp only [Int.reduceToNat] at ho12; rw [← Ny174.out] at ho12)); have n0_ := Aside0.mk (Kd.R_lower ho12 (below_size (by repeat (first | (with_reducible first | exact HB.out | apply below_alloc | apply pw_below_drewN | apply below_drew1) | exact HB.out)))); have n1_ := Aside0.mk (below_step (by repeat (first | (with_reducible first | exact HB.out | apply below_alloc | apply pw_below_drewN | apply below_drew1) | exact HB.out)) hb); clear HB; have HO176 := n0_; have HB := n1_; clear n0_ n1_; clear hb ho12; obtain ⟨Ao13, co13, eo13⟩ := Kd.R_slice HO176.out; subst eo13; have p177 : 0 ≤ (a0 : Int) := of_decide_eq_true (by first | (with_reducible assumption) | assumption); have q177 : a0 < (y174.length : Int) := of_decide_eq_true (by first | (with_reducible assumption) | assumption); obtain ⟨ad177, e177, hx177_0⟩ := Kd.at_string (Kd.R_reads' HO176.out).2.2 a0 p177 q177; cases e177; replace p177 := eq_true p177; replace q177 := eq_true q177))
  go_ret
  exact ⟨by first | rfl | (simp [errW_none, errW_some] <;> rfl) | (simp [*, errW_none, errW_some] <;> rfl), by repeat (first | (with_reducible first | exact HB.out | apply below_alloc | apply pw_below_drewN | apply below_drew1) | exact HB.out)⟩

/-! ### ductusref02_Strong: function 19 -/
def ductusref02_Strong.f (a0 : Int) : Option (Bool) := if a0 = 0 then (some true) else (if a0 = 1 then (some true) else (some (a0 == 2)))
set_option maxHeartbeats 8000000 in
set_option maxRecDepth 100000 in
theorem ductusref02_Strong.calls (a0 : Int) (r : Bool) (w : World) (h : ductusref02_Strong.f a0 = some r) :
    Calls Tryd.prog 19 #[.int .i64 a0] w fun e w' => e = .returned (.bool r) ∧ Drawn0 w w' := by
  have H : (if a0 = 0 then (some true) else (if a0 = 1 then (some true) else (some (a0 == 2)))) = some r := h
  clear h
  by_cases c2 : a0 = 0
  · rw [if_pos c2] at H
    have c2b0 : (a0 == 0) = true := beq_iff_eq.mpr c2
    have c2b1 : (a0 != 0) = false := bne_eq_false_iff_eq.mpr c2
    clear c2
    obtain rfl := Option.some.inj H
    go_enter Tryd.func19, Tryd.ntmps19
    go_wp2
    go_ret
    exact ⟨by first | rfl | (simp; done) | (simp [*]; done), by repeat (first | exact Drawn0.refl _ | apply Drawn0.step)⟩
  rw [if_neg c2] at H
  have c2b0 : (a0 == 0) = false := beq_eq_false_iff_ne.mpr c2
  have c2b1 : (a0 != 0) = true := bne_iff_ne.mpr c2
  by_cases c3 : a0 = 1
  rotate_left
  · rw [if_neg c3] at H
    have c3b0 : (a0 == 1) = false := beq_eq_false_iff_ne.mpr c3
    have c3b1 : (a0 != 1) = true := bne_iff_ne.mpr c3
    obtain rfl := Option.some.inj H
    go_enter Tryd.func19, Tryd.ntmps19
    go_wp2
    go_ret
    exact ⟨by first | rfl | (simp; done) | (simp [*]; done), by repeat (first | exact Drawn0.refl _ | apply Drawn0.step)⟩
  rw [if_pos c3] at H
  have c3b0 : (a0 == 1) = true := beq_iff_eq.mpr c3
  have c3b1 : (a0 != 1) = false := bne_eq_false_iff_eq.mpr c3
  clear c3
  obtain rfl := Option.some.inj H
  go_enter Tryd.func19, Tryd.ntmps19
  go_wp2
  go_ret
  exact ⟨by first | rfl | (simp; done) | (simp [*]; done), by repeat (first | exact Drawn0.refl _ | apply Drawn0.step)⟩

/-! ### ductusref02_Out: function 20 -/
def ductusref02_Out.f (a0 : Int) : Option (Bool) := if a0 = 9 then (some true) else (if a0 = 14 then (some true) else (if a0 = 15 then (some true) else (if a0 = 16 then (some true) else (if a0 = 17 then (some true) else (some (a0 == 18))))))
set_option maxHeartbeats 8000000 in
set_option maxRecDepth 100000 in
theorem ductusref02_Out.calls (a0 : Int) (r : Bool) (w : World) (h : ductusref02_Out.f a0 = some r) :
    Calls Tryd.prog 20 #[.int .i64 a0] w fun e w' => e = .returned (.bool r) ∧ Drawn0 w w' := by
  have H : (if a0 = 9 then (some true) else (if a0 = 14 then (some true) else (if a0 = 15 then (some true) else (if a0 = 16 then (some true) else (if a0 = 17 then (some true) else (some (a0 == 18))))))) = some r := h
  clear h
  by_cases c2 : a0 = 9
  · rw [if_pos c2] at H
    have c2b0 : (a0 == 9) = true := beq_iff_eq.mpr c2
    have c2b1 : (a0 != 9) = false := bne_eq_false_iff_eq.mpr c2
    clear c2
    obtain rfl := Option.some.inj H
    go_enter Tryd.func20, Tryd.ntmps20
    go_wp2
    go_ret
    exact ⟨by first | rfl | (simp; done) | (simp [*]; done), by repeat (first | exact Drawn0.refl _ | apply Drawn0.step)⟩
  rw [if_neg c2] at H
  have c2b0 : (a0 == 9) = false := beq_eq_false_iff_ne.mpr c2
  have c2b1 : (a0 != 9) = true := bne_iff_ne.mpr c2
  by_cases c3 : a0 = 14
  · rw [if_pos c3] at H
    have c3b0 : (a0 == 14) = true := beq_iff_eq.mpr c3
    have c3b1 : (a0 != 14) = false := bne_eq_false_iff_eq.mpr c3
    clear c3
    obtain rfl := Option.some.inj H
    go_enter Tryd.func20, Tryd.ntmps20
    go_wp2
    go_ret
    exact ⟨by first | rfl | (simp; done) | (simp [*]; done), by repeat (first | exact Drawn0.refl _ | apply Drawn0.step)⟩
  rw [if_neg c3] at H
  have c3b0 : (a0 == 14) = false := beq_eq_false_iff_ne.mpr c3
  have c3b1 : (a0 != 14) = true := bne_iff_ne.mpr c3
  by_cases c4 : a0 = 15
  · rw [if_pos c4] at H
    have c4b0 : (a0 == 15) = true := beq_iff_eq.mpr c4
    have c4b1 : (a0 != 15) = false := bne_eq_false_iff_eq.mpr c4
    clear c4
    obtain rfl := Option.some.inj H
    go_enter Tryd.func20, Tryd.ntmps20
    go_wp2
    go_ret
    exact ⟨by first | rfl | (simp; done) | (simp [*]; done), by repeat (first | exact Drawn0.refl _ | apply Drawn0.step)⟩
  rw [if_neg c4] at H
  have c4b0 : (a0 == 15) = false := beq_eq_false_iff_ne.mpr c4
  have c4b1 : (a0 != 15) = true := bne_iff_ne.mpr c4
  by_cases c5 : a0 = 16
  · rw [if_pos c5] at H
    have c5b0 : (a0 == 16) = true := beq_iff_eq.mpr c5
    have c5b1 : (a0 != 16) = false := bne_eq_false_iff_eq.mpr c5
    clear c5
    obtain rfl := Option.some.inj H
    go_enter Tryd.func20, Tryd.ntmps20
    go_wp2
    go_ret
    exact ⟨by first | rfl | (simp; done) | (simp [*]; done), by repeat (first | exact Drawn0.refl _ | apply Drawn0.step)⟩
  rw [if_neg c5] at H
  have c5b0 : (a0 == 16) = false := beq_eq_false_iff_ne.mpr c5
  have c5b1 : (a0 != 16) = true := bne_iff_ne.mpr c5
  by_cases c6 : a0 = 17
  rotate_left
  · rw [if_neg c6] at H
    have c6b0 : (a0 == 17) = false := beq_eq_false_iff_ne.mpr c6
    have c6b1 : (a0 != 17) = true := bne_iff_ne.mpr c6
    obtain rfl := Option.some.inj H
    go_enter Tryd.func20, Tryd.ntmps20
    go_wp2
    go_ret
    exact ⟨by first | rfl | (simp; done) | (simp [*]; done), by repeat (first | exact Drawn0.refl _ | apply Drawn0.step)⟩
  rw [if_pos c6] at H
  have c6b0 : (a0 == 17) = true := beq_iff_eq.mpr c6
  have c6b1 : (a0 != 17) = false := bne_eq_false_iff_eq.mpr c6
  clear c6
  obtain rfl := Option.some.inj H
  go_enter Tryd.func20, Tryd.ntmps20
  go_wp2
  go_ret
  exact ⟨by first | rfl | (simp; done) | (simp [*]; done), by repeat (first | exact Drawn0.refl _ | apply Drawn0.step)⟩

/-! ### ductusref02_Opens: function 21 -/
def ductusref02_Opens.f (a0 : Int) : Option (Bool) := if a0 = 19 then (some true) else (if a0 = 20 then (some true) else (some (a0 == 21)))
set_option maxHeartbeats 8000000 in
set_option maxRecDepth 100000 in
theorem ductusref02_Opens.calls (a0 : Int) (r : Bool) (w : World) (h : ductusref02_Opens.f a0 = some r) :
    Calls Tryd.prog 21 #[.int .i64 a0] w fun e w' => e = .returned (.bool r) ∧ Drawn0 w w' := by
  have H : (if a0 = 19 then (some true) else (if a0 = 20 then (some true) else (some (a0 == 21)))) = some r := h
  clear h
  by_cases c2 : a0 = 19
  · rw [if_pos c2] at H
    have c2b0 : (a0 == 19) = true := beq_iff_eq.mpr c2
    have c2b1 : (a0 != 19) = false := bne_eq_false_iff_eq.mpr c2
    clear c2
    obtain rfl := Option.some.inj H
    go_enter Tryd.func21, Tryd.ntmps21
    go_wp2
    go_ret
    exact ⟨by first | rfl | (simp; done) | (simp [*]; done), by repeat (first | exact Drawn0.refl _ | apply Drawn0.step)⟩
  rw [if_neg c2] at H
  have c2b0 : (a0 == 19) = false := beq_eq_false_iff_ne.mpr c2
  have c2b1 : (a0 != 19) = true := bne_iff_ne.mpr c2
  by_cases c3 : a0 = 20
  rotate_left
  · rw [if_neg c3] at H
    have c3b0 : (a0 == 20) = false := beq_eq_false_iff_ne.mpr c3
    have c3b1 : (a0 != 20) = true := bne_iff_ne.mpr c3
    obtain rfl := Option.some.inj H
    go_enter Tryd.func21, Tryd.ntmps21
    go_wp2
    go_ret
    exact ⟨by first | rfl | (simp; done) | (simp [*]; done), by repeat (first | exact Drawn0.refl _ | apply Drawn0.step)⟩
  rw [if_pos c3] at H
  have c3b0 : (a0 == 20) = true := beq_iff_eq.mpr c3
  have c3b1 : (a0 != 20) = false := bne_eq_false_iff_eq.mpr c3
  clear c3
  obtain rfl := Option.some.inj H
  go_enter Tryd.func21, Tryd.ntmps21
  go_wp2
  go_ret
  exact ⟨by first | rfl | (simp; done) | (simp [*]; done), by repeat (first | exact Drawn0.refl _ | apply Drawn0.step)⟩

/-! ### ductusref02_Neutral: function 22 -/
def ductusref02_Neutral.f (a0 : Int) : Option (Bool) := if a0 = 10 then (some true) else (if a0 = 11 then (some true) else (if a0 = 12 then (some true) else (if a0 = 13 then (some true) else ((ductusref02_Opens.f a0).bind fun t178 => (if t178 = true then (some true) else (some (a0 == 22)))))))
set_option maxHeartbeats 8000000 in
set_option maxRecDepth 100000 in
theorem ductusref02_Neutral.calls (a0 : Int) (r : Bool) (w : World) (h : ductusref02_Neutral.f a0 = some r) :
    Calls Tryd.prog 22 #[.int .i64 a0] w fun e w' => e = .returned (.bool r) ∧ Drawn0 w w' := by
  have H : (if a0 = 10 then (some true) else (if a0 = 11 then (some true) else (if a0 = 12 then (some true) else (if a0 = 13 then (some true) else ((ductusref02_Opens.f a0).bind fun t178 => (if t178 = true then (some true) else (some (a0 == 22)))))))) = some r := h
  clear h
  by_cases c2 : a0 = 10
  · rw [if_pos c2] at H
    have c2b0 : (a0 == 10) = true := beq_iff_eq.mpr c2
    have c2b1 : (a0 != 10) = false := bne_eq_false_iff_eq.mpr c2
    clear c2
    obtain rfl := Option.some.inj H
    go_enter Tryd.func22, Tryd.ntmps22
    go_wp2
    go_ret
    exact ⟨by first | rfl | (simp; done) | (simp [*]; done), by repeat (first | exact Drawn0.refl _ | apply Drawn0.step)⟩
  rw [if_neg c2] at H
  have c2b0 : (a0 == 10) = false := beq_eq_false_iff_ne.mpr c2
  have c2b1 : (a0 != 10) = true := bne_iff_ne.mpr c2
  by_cases c3 : a0 = 11
  · rw [if_pos c3] at H
    have c3b0 : (a0 == 11) = true := beq_iff_eq.mpr c3
    have c3b1 : (a0 != 11) = false := bne_eq_false_iff_eq.mpr c3
    clear c3
    obtain rfl := Option.some.inj H
    go_enter Tryd.func22, Tryd.ntmps22
    go_wp2
    go_ret
    exact ⟨by first | rfl | (simp; done) | (simp [*]; done), by repeat (first | exact Drawn0.refl _ | apply Drawn0.step)⟩
  rw [if_neg c3] at H
  have c3b0 : (a0 == 11) = false := beq_eq_false_iff_ne.mpr c3
  have c3b1 : (a0 != 11) = true := bne_iff_ne.mpr c3
  by_cases c4 : a0 = 12
  · rw [if_pos c4] at H
    have c4b0 : (a0 == 12) = true := beq_iff_eq.mpr c4
    have c4b1 : (a0 != 12) = false := bne_eq_false_iff_eq.mpr c4
    clear c4
    obtain rfl := Option.some.inj H
    go_enter Tryd.func22, Tryd.ntmps22
    go_wp2
    go_ret
    exact ⟨by first | rfl | (simp; done) | (simp [*]; done), by repeat (first | exact Drawn0.refl _ | apply Drawn0.step)⟩
  rw [if_neg c4] at H
  have c4b0 : (a0 == 12) = false := beq_eq_false_iff_ne.mpr c4
  have c4b1 : (a0 != 12) = true := bne_iff_ne.mpr c4
  by_cases c5 : a0 = 13
  · rw [if_pos c5] at H
    have c5b0 : (a0 == 13) = true := beq_iff_eq.mpr c5
    have c5b1 : (a0 != 13) = false := bne_eq_false_iff_eq.mpr c5
    clear c5
    obtain rfl := Option.some.inj H
    go_enter Tryd.func22, Tryd.ntmps22
    go_wp2
    go_ret
    exact ⟨by first | rfl | (simp; done) | (simp [*]; done), by repeat (first | exact Drawn0.refl _ | apply Drawn0.step)⟩
  rw [if_neg c5] at H
  have c5b0 : (a0 == 13) = false := beq_eq_false_iff_ne.mpr c5
  have c5b1 : (a0 != 13) = true := bne_iff_ne.mpr c5
  replace H := Option.bind_eq_some_iff.mp H
  obtain ⟨t178, A60, H⟩ := H
  replace H : (if t178 = true then (some true) else (some (a0 == 22))) = some r := H
  have A6 := Aside0.mk A60
  clear A60
  by_cases c7 : t178 = true
  · subst c7
    have H1 : (some true) = some r := by rw [if_pos rfl] at H; exact H
    clear H
    have H := H1
    clear H1
    obtain rfl := Option.some.inj H
    go_enter Tryd.func22, Tryd.ntmps22
    go_wp2_with (first | (go_at_call 21; (with_reducible refine (ductusref02_Opens.calls a0 true _ A6.out).mono ?_); rintro e w' ⟨rfl, ⟨nd, rfl⟩⟩))
    go_ret
    exact ⟨by first | rfl | (simp; done) | (simp [*]; done), by repeat (first | exact Drawn0.refl _ | apply Drawn0.step)⟩
  replace c7 := Bool.eq_false_iff.mpr c7
  subst c7
  have H1 : (some (a0 == 22)) = some r := by rw [if_neg (show ¬ (false = true) by decide)] at H; exact H
  clear H
  have H := H1
  clear H1
  obtain rfl := Option.some.inj H
  go_enter Tryd.func22, Tryd.ntmps22
  go_wp2_with (first | (go_at_call 21; (with_reducible refine (ductusref02_Opens.calls a0 false _ A6.out).mono ?_); rintro e w' ⟨rfl, ⟨nd, rfl⟩⟩))
  go_ret
  exact ⟨by first | rfl | (simp; done) | (simp [*]; done), by repeat (first | exact Drawn0.refl _ | apply Drawn0.step)⟩

/-! ### ductuslaw02_ClassAnswers: function 4 -/
def ductuslaw02_ClassAnswers.l0 : Nat → List Int → Int → Int → Option (Bool)
  | 0, _, _, _ => none
  | k + 1, x0, x1, x5 => if x5 < (x0.length : Int) then (if 0 ≤ x5 then ((class_Of.f k (rd x0 x5)).bind fun t181 => ((ductusref02_Of.f (rd x0 x5)).bind fun t183 => (if t181 = t183 then (ductuslaw02_ClassAnswers.l0 k x0 x1 (wrap64 (x5 + 1))) else (none)))) else (none)) else ((class_All.f k x0).bind fun t184 => ((ductusref02_All.f k x0).bind fun t187 => ((ductusref01_Ints.f k t184 t187).bind fun t190 => (if t190 = true then ((class_Word.f x1).bind fun t191 => ((ductusref02_Word.f x1).bind fun t192 => (if t191.toList = t192.toList then ((class_Strong.f k x1).bind fun t193 => ((ductusref02_Strong.f x1).bind fun t194 => (if (t193 == t194) = true then ((class_Out.f k x1).bind fun t195 => ((ductusref02_Out.f x1).bind fun t196 => (if (t195 == t196) = true then ((class_Opens.f k x1).bind fun t197 => ((ductusref02_Opens.f x1).bind fun t198 => (if (t197 == t198) = true then ((class_Neutral.f k x1).bind fun t199 => ((ductusref02_Neutral.f x1).bind fun t200 => (some (t199 == t200)))) else (none)))) else (none)))) else (none)))) else (none)))) else (none)))))
def ductuslaw02_ClassAnswers.f (k : Nat) (l0 : List Int) (a1 : Int) : Option (Bool) := (ductuslaw02_alive.f k).bind fun t179 => (if t179 = true then (if (l0.length : Int) > 5000 then (some true) else (ductuslaw02_ClassAnswers.l0 k l0 a1 0)) else (none))
theorem ductuslaw02_ClassAnswers.mono_l : ∀ k, (∀ y0 y1 y2, LeO (ductuslaw02_ClassAnswers.l0 k y0 y1 y2) (ductuslaw02_ClassAnswers.l0 (k + 1) y0 y1 y2))
  | 0 => fun _ _ _ r h => by simp [ductuslaw02_ClassAnswers.l0] at h
  | k + 1 => by
    have ih0 := ductuslaw02_ClassAnswers.mono_l k
    · intro y0 y1 y2
      unfold ductuslaw02_ClassAnswers.l0
      repeat' first
      | (with_reducible exact ih0 _ _ _)
      | (with_reducible exact class_All.mono _ _)
      | (with_reducible exact class_Neutral.mono _ _)
      | (with_reducible exact class_Of.mono _ _)
      | (with_reducible exact class_Opens.mono _ _)
      | (with_reducible exact class_Out.mono _ _)
      | (with_reducible exact class_Strong.mono _ _)
      | (with_reducible exact ductuslaw02_alive.mono _)
      | (with_reducible exact ductusref01_Ints.mono _ _ _)
      | (with_reducible exact ductusref02_All.mono _ _)
      | (with_reducible exact LeO.refl _)
      | (with_reducible exact LeO.none _)
      | (with_reducible refine LeO.ite ?_ ?_)
      | (with_reducible refine LeO.bind ?_ (fun _ => ?_))
      | exact ih0 _ _ _
      | exact class_All.mono _ _
      | exact class_Neutral.mono _ _
      | exact class_Of.mono _ _
      | exact class_Opens.mono _ _
      | exact class_Out.mono _ _
      | exact class_Strong.mono _ _
      | exact ductuslaw02_alive.mono _
      | exact ductusref01_Ints.mono _ _ _
      | exact ductusref02_All.mono _ _
      | exact LeO.none _
      | refine LeO.ite ?_ ?_
      | refine LeO.bind ?_ (fun _ => ?_)
theorem ductuslaw02_ClassAnswers.mono : ∀ a0 a1 k, LeO (ductuslaw02_ClassAnswers.f k a0 a1) (ductuslaw02_ClassAnswers.f (k + 1) a0 a1) := by
  intro a0 a1 k
  have ih0 := ductuslaw02_ClassAnswers.mono_l k
  unfold ductuslaw02_ClassAnswers.f
  repeat' first
      | (with_reducible exact ih0 _ _ _)
      | (with_reducible exact class_All.mono _ _)
      | (with_reducible exact class_Neutral.mono _ _)
      | (with_reducible exact class_Of.mono _ _)
      | (with_reducible exact class_Opens.mono _ _)
      | (with_reducible exact class_Out.mono _ _)
      | (with_reducible exact class_Strong.mono _ _)
      | (with_reducible exact ductuslaw02_alive.mono _)
      | (with_reducible exact ductusref01_Ints.mono _ _ _)
      | (with_reducible exact ductusref02_All.mono _ _)
      | (with_reducible exact LeO.refl _)
      | (with_reducible exact LeO.none _)
      | (with_reducible refine LeO.ite ?_ ?_)
      | (with_reducible refine LeO.bind ?_ (fun _ => ?_))
      | exact ih0 _ _ _
      | exact class_All.mono _ _
      | exact class_Neutral.mono _ _
      | exact class_Of.mono _ _
      | exact class_Opens.mono _ _
      | exact class_Out.mono _ _
      | exact class_Strong.mono _ _
      | exact ductuslaw02_alive.mono _
      | exact ductusref01_Ints.mono _ _ _
      | exact ductusref02_All.mono _ _
      | exact LeO.none _
      | refine LeO.ite ?_ ?_
      | refine LeO.bind ?_ (fun _ => ?_)
def ductuslaw02_ClassAnswers.T8 : Bool × List (List Nat × List Nat) := (true, [([], []), ([], []), ([0, 1], [0, 1]), ([2], [2]), ([3], [3]), ([], []), ([], []), ([5, 6], [5, 6]), ([7], [7]), ([8, 4], [8]), ([4, 9], [4, 9])])
def ductuslaw02_ClassAnswers.B8 : List Nat := [0, 0, 3, 7, 15, 0, 0, 96, 224, 511, 1023]
theorem ductuslaw02_ClassAnswers.tab8 : rtab .any (opsOf Tryd.f4 8) = ductuslaw02_ClassAnswers.T8 := by kernel_rfl
theorem ductuslaw02_ClassAnswers.bits8 : waitsOk ductuslaw02_ClassAnswers.T8.2 ductuslaw02_ClassAnswers.B8 = true := by kernel_rfl
set_option maxHeartbeats 8000000 in
set_option maxRecDepth 100000 in
theorem ductuslaw02_ClassAnswers.calls (k : Nat) (A0 : Option Addr) (c0 : Nat) (l0 : List Int) (a1 : Int) (r : Bool) (w : World) (hr0 : Kd.C (Kd.int .i64) w A0 l0.length l0) (hc0 : l0.length ≤ c0) (h : ductuslaw02_ClassAnswers.f k l0 a1 = some r) (hL : WordsAt w) :
    Calls Tryd.prog 4 #[.slice A0 l0.length c0, .int .i64 a1] w fun e w' => e = .returned (.bool r) ∧ Below w.heap.size w w' := by
  have HR0 := Aside0.mk hr0
  have HC0 := Aside0.mk hc0
  clear hr0 hc0
  have HB := Aside0.mk (Below.refl w.heap.size w)
  have H : ((ductuslaw02_alive.f k).bind fun t179 => (if t179 = true then (if (l0.length : Int) > 5000 then (some true) else (ductuslaw02_ClassAnswers.l0 k l0 a1 0)) else (none))) = some r := h
  clear h
  replace H := Option.bind_eq_some_iff.mp H
  obtain ⟨t179, A30, H⟩ := H
  replace H : (if t179 = true then (if (l0.length : Int) > 5000 then (some true) else (ductuslaw02_ClassAnswers.l0 k l0 a1 0)) else (none)) = some r := H
  have A3 := Aside0.mk A30
  clear A30
  by_cases c4 : t179 = true
  rotate_left
  · replace c4 := Bool.eq_false_iff.mpr c4
    subst c4
    have H1 : (none) = some r := by rw [if_neg (show ¬ (false = true) by decide)] at H; exact H
    clear H
    have H := H1
    clear H1
    exact absurd H (by simp)
  subst c4
  have H1 : (if (l0.length : Int) > 5000 then (some true) else (ductuslaw02_ClassAnswers.l0 k l0 a1 0)) = some r := by rw [if_pos rfl] at H; exact H
  clear H
  have H := H1
  clear H1
  by_cases c5 : (l0.length : Int) > 5000
  · rw [if_pos c5] at H
    have c5b0 : decide (5000 < (l0.length : Int)) = true := decide_eq_true c5
    have c5b1 : decide (5000 < l0.length) = true := decide_eq_true (by omega)
    clear c5
    obtain rfl := Option.some.inj H
    go_enter Tryd.func4, Tryd.ntmps4
    go_wp2_with (first | ((with_reducible refine gate_callee (f := 7) rfl ?_); refine goesL_ (some 6) rfl rfl Tryd.func7 (by kernel_rfl) rfl #[] rfl (by (try simp only [List.map_toArray, List.map_cons, List.map_nil]); first | done | rfl | (simp only [List.length_drop, List.length_take]; rfl)) ?_; (with_reducible refine (ductuslaw02_alive.calls k  true _ A3.out ?sideL).mono ?_); (case sideL => exact hL.at (by first | exact Below.refl _ _ | (repeat (first | (with_reducible first | exact HB.out | apply below_alloc | apply pw_below_drewN | apply below_drew1) | exact HB.out | exact Below.refl _ _)))); rintro e w6 ⟨rfl, hb⟩; refine ⟨_, rfl, ?_⟩; have n0_ := Aside0.mk (below_step (by repeat (first | (with_reducible first | exact HB.out | apply below_alloc | apply pw_below_drewN | apply below_drew1) | exact HB.out)) hb); clear HB; have HB := n0_; clear n0_; (try clear hb); (try clear hb2); (try clear hk); (try clear hi)))
    go_ret
    exact ⟨by first | rfl | (simp [errW_none, errW_some] <;> rfl) | (simp [*, errW_none, errW_some] <;> rfl), by repeat (first | (with_reducible first | exact HB.out | apply below_alloc | apply pw_below_drewN | apply below_drew1) | exact HB.out)⟩
  rw [if_neg c5] at H
  have c5b0 : decide (5000 < (l0.length : Int)) = false := decide_eq_false c5
  have c5b1 : decide (5000 < l0.length) = false := decide_eq_false (by omega)
  clear c5
  have H' := Aside0.mk H
  clear H
  go_enter Tryd.func4, Tryd.ntmps4
  go_wp2_with (first | ((with_reducible refine gate_callee (f := 7) rfl ?_); refine goesL_ (some 6) rfl rfl Tryd.func7 (by kernel_rfl) rfl #[] rfl (by (try simp only [List.map_toArray, List.map_cons, List.map_nil]); first | done | rfl | (simp only [List.length_drop, List.length_take]; rfl)) ?_; (with_reducible refine (ductuslaw02_alive.calls k  true _ A3.out ?sideL).mono ?_); (case sideL => exact hL.at (by first | exact Below.refl _ _ | (repeat (first | (with_reducible first | exact HB.out | apply below_alloc | apply pw_below_drewN | apply below_drew1) | exact HB.out | exact Below.refl _ _)))); rintro e w7 ⟨rfl, hb⟩; refine ⟨_, rfl, ?_⟩; have n0_ := Aside0.mk (below_step (by repeat (first | (with_reducible first | exact HB.out | apply below_alloc | apply pw_below_drewN | apply below_drew1) | exact HB.out)) hb); clear HB; have HB := n0_; clear n0_; (try clear hb); (try clear hb2); (try clear hk); (try clear hi)))
  go_loopg [5] k (fun kq v5 w' => ∃ (x5_1 : Int), v5 = .int .i64 x5_1 ∧ Aside0 (ductuslaw02_ClassAnswers.l0 kq l0 a1 x5_1 = some r) ∧ Aside0 (kq ≤ k) ∧ Aside0 (Below w.heap.size w w'))
  case atStart => exact ⟨(0), (by first | rfl | (simp; done) | (simp [*]; done)), H', ⟨Nat.le_refl _⟩, ⟨by repeat (first | (with_reducible first | exact HB.out | apply below_alloc | apply pw_below_drewN | apply below_drew1) | exact HB.out)⟩⟩
  case round =>
    clear H'
    try clear p2
    try clear c4
    try clear c5
    try clear c5b0
    try clear c5b1
    try clear c7
    obtain ⟨x5_1, rfl, HA, HK1, HB⟩ := hrel
    cases gk with
    | zero => exact absurd HA.out (by simp [ductuslaw02_ClassAnswers.l0])
    | succ k1 =>
      have H := HA.out
      clear HA
      simp only [ductuslaw02_ClassAnswers.l0] at H
      by_cases c8 : x5_1 < (l0.length : Int)
      · rw [if_pos c8] at H
        have c8b0 : decide (x5_1 < (l0.length : Int)) = true := decide_eq_true c8
        clear c8
        by_cases c9 : 0 ≤ x5_1
        rotate_left
        · rw [if_neg c9] at H
          exact absurd H (by simp)
        rw [if_pos c9] at H
        have c9b0 : decide (0 ≤ x5_1) = true := decide_eq_true c9
        clear c9
        replace H := Option.bind_eq_some_iff.mp H
        obtain ⟨t181, A100, H⟩ := H
        replace H : ((ductusref02_Of.f (rd l0 x5_1)).bind fun t183 => (if t181 = t183 then (ductuslaw02_ClassAnswers.l0 k1 l0 a1 (wrap64 (x5_1 + 1))) else (none))) = some r := H
        have A10 := Aside0.mk A100
        clear A100
        replace H := Option.bind_eq_some_iff.mp H
        obtain ⟨t183, A110, H⟩ := H
        replace H : (if t181 = t183 then (ductuslaw02_ClassAnswers.l0 k1 l0 a1 (wrap64 (x5_1 + 1))) else (none)) = some r := H
        have A11 := Aside0.mk A110
        clear A110
        by_cases c12 : t181 = t183
        rotate_left
        · rw [if_neg c12] at H
          exact absurd H (by simp)
        rw [if_pos c12] at H
        have c12b0 : (t181 == t183) = true := beq_iff_eq.mpr c12
        have c12b1 : (t181 != t183) = false := bne_eq_false_iff_eq.mpr c12
        clear c12
        have H' := Aside0.mk H
        clear H
        try go_wp2
        have n0_ := Aside0.mk (below_drew1 HB.out)
        clear HB
        have HB := n0_
        clear n0_
        have p180 : 0 ≤ (x5_1 : Int) := of_decide_eq_true (by first | (with_reducible assumption) | assumption)
        have q180 : x5_1 < (l0.length : Int) := of_decide_eq_true (by first | (with_reducible assumption) | assumption)
        obtain ⟨ad180, e180, hx180_0⟩ := Kd.at_int HR0.out x5_1 p180 q180
        have hw180_0 := hx180_0
        cases e180
        replace hx180_0 := (HB.out.cell (World.block_lt_of_cell? w _ hx180_0)).trans hx180_0
        replace p180 := eq_true p180
        replace q180 := eq_true q180
        have p182 : 0 ≤ (x5_1 : Int) := of_decide_eq_true (by first | (with_reducible assumption) | assumption)
        have q182 : x5_1 < (l0.length : Int) := of_decide_eq_true (by first | (with_reducible assumption) | assumption)
        obtain ⟨ad182, e182, hx182_0⟩ := Kd.at_int HR0.out x5_1 p182 q182
        have hw182_0 := hx182_0
        obtain rfl : ad180 = ad182 := (by injection e182)
        replace hx182_0 := (HB.out.cell (World.block_lt_of_cell? w _ hx182_0)).trans hx182_0
        replace p182 := eq_true p182
        replace q182 := eq_true q182
        refine start_ (n := 11) (S := fun w' => w'.cell? (ad180.add (x5_1).toNat) = some (.int .i64 (rd l0 x5_1)) ∧ w'.cell? (ad180.add (x5_1).toNat) = some (.int .i64 (rd l0 x5_1))) (ds := []) #[false, false, false, false, false, false, false, false, false, false, false] (by kernel_rfl) rfl rfl ⟨((HB.out.cell (World.block_lt_of_cell? w _ hw180_0)).trans hw180_0), ((HB.out.cell (World.block_lt_of_cell? w _ hw182_0)).trans hw182_0)⟩ (fun hHeld => ?_); refine with_tabW ductuslaw02_ClassAnswers.tab8 ductuslaw02_ClassAnswers.bits8 (fun HT_ HW_ => ?_)
        generalize wr.drew = w13 at HB hx180_0 hx182_0 hHeld ⊢
        refine pure_ (i := 0) (N := some 17) (v := ?_) (a' := ?_) #[true, false, false, false, false, false, false, false, false, false, false] rfl rfl (any_of HT_.out (by kernel_rfl)) (fun _ _ _ h => h) (Or.inl ⟨by rfl, ?_⟩) ?_ ?_
        rotate_left
        · intro w'
          go_simp
          with_reducible rfl
        rotate_left
        · simp only [Act.put, List.setIfInBounds_toArray, List.set_cons_zero, List.set_cons_succ, i64_w, i32_w]
          rfl
        refine pure_ (i := 1) (N := some 18) (v := ?_) (a' := ?_) #[true, true, false, false, false, false, false, false, false, false, false] rfl rfl (any_of HT_.out (by kernel_rfl)) (fun _ _ _ h => h) (Or.inl ⟨by rfl, ?_⟩) ?_ ?_
        rotate_left
        · intro w'
          go_simp
          with_reducible rfl
        rotate_left
        · simp only [Act.put, List.setIfInBounds_toArray, List.set_cons_zero, List.set_cons_succ, i64_w, i32_w]
          rfl
        refine pure_ (i := 2) (N := some 19) (v := ?_) (a' := ?_) #[true, true, true, false, false, false, false, false, false, false, false] rfl rfl (any_of HT_.out (by kernel_rfl)) (fun _ _ _ h => h) (Or.inl ⟨by rfl, ?_⟩) ?_ ?_
        rotate_left
        · intro w'
          go_simp
          with_reducible rfl
        rotate_left
        · simp only [Act.put, List.setIfInBounds_toArray, List.set_cons_zero, List.set_cons_succ, i64_w, i32_w]
          rfl
        refine pure_ (i := 5) (N := some 22) (v := ?_) (a' := ?_) #[true, true, true, false, false, true, false, false, false, false, false] rfl rfl (any_of HT_.out (by kernel_rfl)) (fun _ _ _ h => h) (Or.inl ⟨by rfl, ?_⟩) ?_ ?_
        rotate_left
        · intro w'
          go_simp
          with_reducible rfl
        rotate_left
        · simp only [Act.put, List.setIfInBounds_toArray, List.set_cons_zero, List.set_cons_succ, i64_w, i32_w]
          rfl
        refine pure_ (i := 6) (N := some 23) (v := ?_) (a' := ?_) #[true, true, true, false, false, true, true, false, false, false, false] rfl rfl (any_of HT_.out (by kernel_rfl)) (fun _ _ _ h => h) (Or.inl ⟨by rfl, ?_⟩) ?_ ?_
        rotate_left
        · intro w'
          go_simp
          with_reducible rfl
        rotate_left
        · simp only [Act.put, List.setIfInBounds_toArray, List.set_cons_zero, List.set_cons_succ, i64_w, i32_w]
          rfl
        refine pure_ (i := 7) (N := some 24) (v := ?_) (a' := ?_) #[true, true, true, false, false, true, true, true, false, false, false] rfl rfl (any_of HT_.out (by kernel_rfl)) (fun _ _ _ h => h) (Or.inl ⟨by rfl, ?_⟩) ?_ ?_
        rotate_left
        · intro w'
          go_simp
          with_reducible rfl
        rotate_left
        · simp only [Act.put, List.setIfInBounds_toArray, List.set_cons_zero, List.set_cons_succ, i64_w, i32_w]
          rfl
        refine take_ (i := 3) (N := some 20) (v := ?_) (a' := ?_) #[true, true, true, true, false, true, true, true, false, false, false] rfl rfl (take_ofW HT_.out HW_.out (by kernel_rfl)) (fun _ _ _ h => h) (Or.inl ⟨by rfl, ?_⟩) hHeld ?_ ?_
        rotate_left
        · rintro w' ⟨s0, s1⟩
          go_simp
          with_reducible rfl
        rotate_left
        · simp only [Act.put, List.setIfInBounds_toArray, List.set_cons_zero, List.set_cons_succ, i64_w, i32_w]
          rfl
        refine take_ (i := 8) (N := some 25) (v := ?_) (a' := ?_) #[true, true, true, true, false, true, true, true, true, false, false] rfl rfl (take_ofW HT_.out HW_.out (by kernel_rfl)) (fun _ _ _ h => h) (Or.inl ⟨by rfl, ?_⟩) hHeld ?_ ?_
        rotate_left
        · rintro w' ⟨s0, s1⟩
          go_simp
          with_reducible rfl
        rotate_left
        · simp only [Act.put, List.setIfInBounds_toArray, List.set_cons_zero, List.set_cons_succ, i64_w, i32_w]
          rfl
        refine one_ (i := 4) (N := some 21) #[true, true, true, true, true, true, true, true, true, false, false] rfl rfl (one_of HT_.out (by kernel_rfl)) (by decide) (fun K hK => ?_)
        refine goes_ Tryd.func13 (by kernel_rfl) rfl #[.int .i64 (rd l0 x5_1)] (by rfl) rfl rfl (by (try simp only [List.map_toArray, List.map_cons, List.map_nil]); first | done | rfl | (simp only [List.length_drop, List.length_take]; rfl)) ?_
        with_reducible refine (class_Of.calls k1 (rd l0 x5_1) t181 _ A10.out).mono ?_
        rintro e w14 ⟨rfl, hb⟩
        refine ⟨_, rfl, ?_⟩
        have n0_ := Aside0.mk (below_step (by repeat (first | (with_reducible first | exact HB.out | apply below_alloc | apply pw_below_drewN | apply below_drew1) | exact HB.out)) hb)
        clear HB
        have HB := n0_
        clear n0_
        (try clear hb)
        (try clear hb2)
        (try clear hk)
        (try clear hi)
        refine hK.out _ _ ⟨((HB.out.cell (World.block_lt_of_cell? w _ hw180_0)).trans hw180_0), ((HB.out.cell (World.block_lt_of_cell? w _ hw182_0)).trans hw182_0)⟩ (fun hHeld => ?_)
        clear hK K
        refine norm_ (a' := ?_) ?_ ?_
        rotate_left
        · show Act.put _ (some 21) _ = _
          simp only [Act.put, List.setIfInBounds_toArray, List.set_cons_zero, List.set_cons_succ, i64_w, i32_w]
          rfl
        refine one_ (i := 9) (N := some 26) #[true, true, true, true, true, true, true, true, true, true, false] rfl rfl (one_of HT_.out (by kernel_rfl)) (by decide) (fun K hK => ?_)
        refine goes_ Tryd.func14 (by kernel_rfl) rfl #[.int .i64 (rd l0 x5_1)] (by rfl) rfl rfl (by (try simp only [List.map_toArray, List.map_cons, List.map_nil]); first | done | rfl | (simp only [List.length_drop, List.length_take]; rfl)) ?_
        with_reducible refine (ductusref02_Of.calls (rd l0 x5_1) t183 _ A11.out).mono ?_
        rintro e w' ⟨rfl, ⟨nd, rfl⟩⟩
        refine ⟨_, rfl, ?_⟩
        refine hK.out _ _ ⟨((HB.out.cell (World.block_lt_of_cell? w _ hw180_0)).trans hw180_0), ((HB.out.cell (World.block_lt_of_cell? w _ hw182_0)).trans hw182_0)⟩ (fun hHeld => ?_)
        clear hK K
        refine norm_ (a' := ?_) ?_ ?_
        rotate_left
        · show Act.put _ (some 26) _ = _
          simp only [Act.put, List.setIfInBounds_toArray, List.set_cons_zero, List.set_cons_succ, i64_w, i32_w]
          rfl
        refine pure_ (i := 10) (N := some 27) (v := ?_) (a' := ?_) #[true, true, true, true, true, true, true, true, true, true, true] rfl rfl (any_of HT_.out (by kernel_rfl)) (fun _ _ _ h => h) (Or.inl ⟨by rfl, ?_⟩) ?_ ?_
        rotate_left
        · intro w'
          go_simp
          with_reducible rfl
        rotate_left
        · simp only [Act.put, List.setIfInBounds_toArray, List.set_cons_zero, List.set_cons_succ, i64_w, i32_w]
          rfl
        refine done_ (done_of HT_.out (by kernel_rfl)) ?_
        try go_wp2
        go_roundg k1
        case measure => have := HK1.out; omega
        case rel => exact ⟨(wrap64 (x5_1 + 1)), (by first | rfl | (simp; done) | (simp [*]; done)), H', ⟨by have := HK1.out; omega⟩, ⟨by repeat (first | (with_reducible first | exact HB.out | apply below_alloc | apply pw_below_drewN | apply below_drew1) | exact HB.out)⟩⟩
      rw [if_neg c8] at H
      have c8b0 : decide (x5_1 < (l0.length : Int)) = false := decide_eq_false c8
      clear c8
      replace H := Option.bind_eq_some_iff.mp H
      obtain ⟨t184, A150, H⟩ := H
      replace H : ((ductusref02_All.f k1 l0).bind fun t187 => ((ductusref01_Ints.f k1 t184 t187).bind fun t190 => (if t190 = true then ((class_Word.f a1).bind fun t191 => ((ductusref02_Word.f a1).bind fun t192 => (if t191.toList = t192.toList then ((class_Strong.f k1 a1).bind fun t193 => ((ductusref02_Strong.f a1).bind fun t194 => (if (t193 == t194) = true then ((class_Out.f k1 a1).bind fun t195 => ((ductusref02_Out.f a1).bind fun t196 => (if (t195 == t196) = true then ((class_Opens.f k1 a1).bind fun t197 => ((ductusref02_Opens.f a1).bind fun t198 => (if (t197 == t198) = true then ((class_Neutral.f k1 a1).bind fun t199 => ((ductusref02_Neutral.f a1).bind fun t200 => (some (t199 == t200)))) else (none)))) else (none)))) else (none)))) else (none)))) else (none)))) = some r := H
      have A15 := Aside0.mk A150
      clear A150
      replace H := Option.bind_eq_some_iff.mp H
      obtain ⟨t187, A160, H⟩ := H
      replace H : ((ductusref01_Ints.f k1 t184 t187).bind fun t190 => (if t190 = true then ((class_Word.f a1).bind fun t191 => ((ductusref02_Word.f a1).bind fun t192 => (if t191.toList = t192.toList then ((class_Strong.f k1 a1).bind fun t193 => ((ductusref02_Strong.f a1).bind fun t194 => (if (t193 == t194) = true then ((class_Out.f k1 a1).bind fun t195 => ((ductusref02_Out.f a1).bind fun t196 => (if (t195 == t196) = true then ((class_Opens.f k1 a1).bind fun t197 => ((ductusref02_Opens.f a1).bind fun t198 => (if (t197 == t198) = true then ((class_Neutral.f k1 a1).bind fun t199 => ((ductusref02_Neutral.f a1).bind fun t200 => (some (t199 == t200)))) else (none)))) else (none)))) else (none)))) else (none)))) else (none))) = some r := H
      have A16 := Aside0.mk A160
      clear A160
      replace H := Option.bind_eq_some_iff.mp H
      obtain ⟨t190, A170, H⟩ := H
      replace H : (if t190 = true then ((class_Word.f a1).bind fun t191 => ((ductusref02_Word.f a1).bind fun t192 => (if t191.toList = t192.toList then ((class_Strong.f k1 a1).bind fun t193 => ((ductusref02_Strong.f a1).bind fun t194 => (if (t193 == t194) = true then ((class_Out.f k1 a1).bind fun t195 => ((ductusref02_Out.f a1).bind fun t196 => (if (t195 == t196) = true then ((class_Opens.f k1 a1).bind fun t197 => ((ductusref02_Opens.f a1).bind fun t198 => (if (t197 == t198) = true then ((class_Neutral.f k1 a1).bind fun t199 => ((ductusref02_Neutral.f a1).bind fun t200 => (some (t199 == t200)))) else (none)))) else (none)))) else (none)))) else (none)))) else (none)) = some r := H
      have A17 := Aside0.mk A170
      clear A170
      by_cases c18 : t190 = true
      rotate_left
      · replace c18 := Bool.eq_false_iff.mpr c18
        subst c18
        have H1 : (none) = some r := by rw [if_neg (show ¬ (false = true) by decide)] at H; exact H
        clear H
        have H := H1
        clear H1
        exact absurd H (by simp)
      subst c18
      have H1 : ((class_Word.f a1).bind fun t191 => ((ductusref02_Word.f a1).bind fun t192 => (if t191.toList = t192.toList then ((class_Strong.f k1 a1).bind fun t193 => ((ductusref02_Strong.f a1).bind fun t194 => (if (t193 == t194) = true then ((class_Out.f k1 a1).bind fun t195 => ((ductusref02_Out.f a1).bind fun t196 => (if (t195 == t196) = true then ((class_Opens.f k1 a1).bind fun t197 => ((ductusref02_Opens.f a1).bind fun t198 => (if (t197 == t198) = true then ((class_Neutral.f k1 a1).bind fun t199 => ((ductusref02_Neutral.f a1).bind fun t200 => (some (t199 == t200)))) else (none)))) else (none)))) else (none)))) else (none)))) = some r := by rw [if_pos rfl] at H; exact H
      clear H
      have H := H1
      clear H1
      replace H := Option.bind_eq_some_iff.mp H
      obtain ⟨t191, A190, H⟩ := H
      replace H : ((ductusref02_Word.f a1).bind fun t192 => (if t191.toList = t192.toList then ((class_Strong.f k1 a1).bind fun t193 => ((ductusref02_Strong.f a1).bind fun t194 => (if (t193 == t194) = true then ((class_Out.f k1 a1).bind fun t195 => ((ductusref02_Out.f a1).bind fun t196 => (if (t195 == t196) = true then ((class_Opens.f k1 a1).bind fun t197 => ((ductusref02_Opens.f a1).bind fun t198 => (if (t197 == t198) = true then ((class_Neutral.f k1 a1).bind fun t199 => ((ductusref02_Neutral.f a1).bind fun t200 => (some (t199 == t200)))) else (none)))) else (none)))) else (none)))) else (none))) = some r := H
      have A19 := Aside0.mk A190
      clear A190
      replace H := Option.bind_eq_some_iff.mp H
      obtain ⟨t192, A200, H⟩ := H
      replace H : (if t191.toList = t192.toList then ((class_Strong.f k1 a1).bind fun t193 => ((ductusref02_Strong.f a1).bind fun t194 => (if (t193 == t194) = true then ((class_Out.f k1 a1).bind fun t195 => ((ductusref02_Out.f a1).bind fun t196 => (if (t195 == t196) = true then ((class_Opens.f k1 a1).bind fun t197 => ((ductusref02_Opens.f a1).bind fun t198 => (if (t197 == t198) = true then ((class_Neutral.f k1 a1).bind fun t199 => ((ductusref02_Neutral.f a1).bind fun t200 => (some (t199 == t200)))) else (none)))) else (none)))) else (none)))) else (none)) = some r := H
      have A20 := Aside0.mk A200
      clear A200
      by_cases c21 : t191.toList = t192.toList
      rotate_left
      · rw [if_neg c21] at H
        exact absurd H (by simp)
      rw [if_pos c21] at H
      have c21b0 : (t191.toList == t192.toList) = true := beq_iff_eq.mpr c21
      have c21b1 : (t191.toList != t192.toList) = false := bne_eq_false_iff_eq.mpr c21
      clear c21
      replace H := Option.bind_eq_some_iff.mp H
      obtain ⟨t193, A220, H⟩ := H
      replace H : ((ductusref02_Strong.f a1).bind fun t194 => (if (t193 == t194) = true then ((class_Out.f k1 a1).bind fun t195 => ((ductusref02_Out.f a1).bind fun t196 => (if (t195 == t196) = true then ((class_Opens.f k1 a1).bind fun t197 => ((ductusref02_Opens.f a1).bind fun t198 => (if (t197 == t198) = true then ((class_Neutral.f k1 a1).bind fun t199 => ((ductusref02_Neutral.f a1).bind fun t200 => (some (t199 == t200)))) else (none)))) else (none)))) else (none))) = some r := H
      have A22 := Aside0.mk A220
      clear A220
      replace H := Option.bind_eq_some_iff.mp H
      obtain ⟨t194, A230, H⟩ := H
      replace H : (if (t193 == t194) = true then ((class_Out.f k1 a1).bind fun t195 => ((ductusref02_Out.f a1).bind fun t196 => (if (t195 == t196) = true then ((class_Opens.f k1 a1).bind fun t197 => ((ductusref02_Opens.f a1).bind fun t198 => (if (t197 == t198) = true then ((class_Neutral.f k1 a1).bind fun t199 => ((ductusref02_Neutral.f a1).bind fun t200 => (some (t199 == t200)))) else (none)))) else (none)))) else (none)) = some r := H
      have A23 := Aside0.mk A230
      clear A230
      by_cases c24 : (t193 == t194) = true
      rotate_left
      · rw [if_neg c24] at H
        exact absurd H (by simp)
      rw [if_pos c24] at H
      have c24b0 : (t193 == t194) = true := c24
      (try (have c24b1 : decide (t193 = t194) = true := by simpa using c24))
      (try (have c24b2 : (t193 == t194) = true := by simpa using c24))
      clear c24
      replace H := Option.bind_eq_some_iff.mp H
      obtain ⟨t195, A250, H⟩ := H
      replace H : ((ductusref02_Out.f a1).bind fun t196 => (if (t195 == t196) = true then ((class_Opens.f k1 a1).bind fun t197 => ((ductusref02_Opens.f a1).bind fun t198 => (if (t197 == t198) = true then ((class_Neutral.f k1 a1).bind fun t199 => ((ductusref02_Neutral.f a1).bind fun t200 => (some (t199 == t200)))) else (none)))) else (none))) = some r := H
      have A25 := Aside0.mk A250
      clear A250
      replace H := Option.bind_eq_some_iff.mp H
      obtain ⟨t196, A260, H⟩ := H
      replace H : (if (t195 == t196) = true then ((class_Opens.f k1 a1).bind fun t197 => ((ductusref02_Opens.f a1).bind fun t198 => (if (t197 == t198) = true then ((class_Neutral.f k1 a1).bind fun t199 => ((ductusref02_Neutral.f a1).bind fun t200 => (some (t199 == t200)))) else (none)))) else (none)) = some r := H
      have A26 := Aside0.mk A260
      clear A260
      by_cases c27 : (t195 == t196) = true
      rotate_left
      · rw [if_neg c27] at H
        exact absurd H (by simp)
      rw [if_pos c27] at H
      have c27b0 : (t195 == t196) = true := c27
      (try (have c27b1 : decide (t195 = t196) = true := by simpa using c27))
      (try (have c27b2 : (t195 == t196) = true := by simpa using c27))
      clear c27
      replace H := Option.bind_eq_some_iff.mp H
      obtain ⟨t197, A280, H⟩ := H
      replace H : ((ductusref02_Opens.f a1).bind fun t198 => (if (t197 == t198) = true then ((class_Neutral.f k1 a1).bind fun t199 => ((ductusref02_Neutral.f a1).bind fun t200 => (some (t199 == t200)))) else (none))) = some r := H
      have A28 := Aside0.mk A280
      clear A280
      replace H := Option.bind_eq_some_iff.mp H
      obtain ⟨t198, A290, H⟩ := H
      replace H : (if (t197 == t198) = true then ((class_Neutral.f k1 a1).bind fun t199 => ((ductusref02_Neutral.f a1).bind fun t200 => (some (t199 == t200)))) else (none)) = some r := H
      have A29 := Aside0.mk A290
      clear A290
      by_cases c30 : (t197 == t198) = true
      rotate_left
      · rw [if_neg c30] at H
        exact absurd H (by simp)
      rw [if_pos c30] at H
      have c30b0 : (t197 == t198) = true := c30
      (try (have c30b1 : decide (t197 = t198) = true := by simpa using c30))
      (try (have c30b2 : (t197 == t198) = true := by simpa using c30))
      clear c30
      replace H := Option.bind_eq_some_iff.mp H
      obtain ⟨t199, A310, H⟩ := H
      replace H : ((ductusref02_Neutral.f a1).bind fun t200 => (some (t199 == t200))) = some r := H
      have A31 := Aside0.mk A310
      clear A310
      replace H := Option.bind_eq_some_iff.mp H
      obtain ⟨t200, A320, H⟩ := H
      replace H : (some (t199 == t200)) = some r := H
      have A32 := Aside0.mk A320
      clear A320
      obtain rfl := Option.some.inj H
      go_wp2_with (first | ((with_reducible refine gate_callee (f := 16) rfl ?_); refine goesL_ (some 29) rfl rfl Tryd.func16 (by kernel_rfl) rfl #[.slice A0 l0.length c0] rfl (by (try simp only [List.map_toArray, List.map_cons, List.map_nil]); first | done | rfl | (simp only [List.length_drop, List.length_take]; rfl)) ?_; (with_reducible refine (class_All.calls k1 _ _ l0 t184 _ ?side1 ?side2 A15.out).mono ?_); (case side1 => repeat (first | exact (Kd.C_below HR0.out HB.out) | (with_reducible refine Kd.C_alloc ?_ _) | (with_reducible refine Kd.C_drewN ?_ _) | (with_reducible refine Kd.C_drew ?_))); (case side2 => exact HC0.out); rintro e w33 ⟨v185, rfl, ho0, hb⟩; refine ⟨_, rfl, ?_⟩; have n0_ := Aside0.mk (Kd.R_lower ho0 (below_size (by repeat (first | (with_reducible first | exact HB.out | apply below_alloc | apply pw_below_drewN | apply below_drew1) | exact HB.out)))); have n1_ := Aside0.mk (below_step (by repeat (first | (with_reducible first | exact HB.out | apply below_alloc | apply pw_below_drewN | apply below_drew1) | exact HB.out)) hb); clear HB; have HO186 := n0_; have HB := n1_; clear n0_ n1_; (try clear hb); (try clear hb2); (try clear hk); (try clear hi); (try clear ho0)) | ((with_reducible refine gate_callee (f := 17) rfl ?_); refine goesL_ (some 31) rfl rfl Tryd.func17 (by kernel_rfl) rfl #[.slice A0 l0.length c0] rfl (by (try simp only [List.map_toArray, List.map_cons, List.map_nil]); first | done | rfl | (simp only [List.length_drop, List.length_take]; rfl)) ?_; (with_reducible refine (ductusref02_All.calls k1 _ _ l0 t187 _ ?side1 ?side2 A16.out).mono ?_); (case side1 => repeat (first | exact (Kd.C_below HR0.out HB.out) | (with_reducible refine Kd.C_alloc ?_ _) | (with_reducible refine Kd.C_drewN ?_ _) | (with_reducible refine Kd.C_drew ?_))); (case side2 => exact HC0.out); rintro e w34 ⟨v188, rfl, ho0, hb⟩; refine ⟨_, rfl, ?_⟩; have n0_ := Aside0.mk (Kd.R_elder' (by (with_reducible repeat (first | apply Kd.R_alloc | apply Kd.R_drewN | apply Kd.R_drew)); exact HO186.out) (Kd.R_base ho0) hb); have n1_ := Aside0.mk (Kd.R_lower (Kd.R_new' ho0 (Kd.R_lt (by (with_reducible repeat (first | apply Kd.R_alloc | apply Kd.R_drewN | apply Kd.R_drew)); exact HO186.out))) (below_size (by repeat (first | (with_reducible first | exact HB.out | apply below_alloc | apply pw_below_drewN | apply below_drew1) | exact HB.out)))); have n2_ := Aside0.mk (below_step (by repeat (first | (with_reducible first | exact HB.out | apply below_alloc | apply pw_below_drewN | apply below_drew1) | exact HB.out)) hb); clear HO186; clear HB; have HO186 := n0_; have HO189 := n1_; have HB := n2_; clear n0_ n1_ n2_; (try clear hb); (try clear hb2); (try clear hk); (try clear hi); (try clear ho0); obtain ⟨Ao35, co35, eo35⟩ := Kd.R_slice HO186.out; subst eo35; obtain ⟨Ao36, co36, eo36⟩ := Kd.R_slice HO189.out; subst eo36) | ((with_reducible refine gate_callee (f := 15) rfl ?_); refine goesL_ (some 32) rfl rfl Tryd.func15 (by kernel_rfl) rfl #[.slice Ao35 t184.length co35, .slice Ao36 t187.length co36] rfl (by (try simp only [List.map_toArray, List.map_cons, List.map_nil]); first | done | rfl | (simp only [List.length_drop, List.length_take]; rfl)) ?_; (with_reducible refine (ductusref01_Ints.calls k1 _ _ t184 _ _ t187 true _ ?side1 ?side2 ?side3 ?side4 A17.out).mono ?_); (case side1 => repeat (first | exact (Kd.R_reads' HO186.out).2.2 | (with_reducible refine Kd.C_alloc ?_ _) | (with_reducible refine Kd.C_drewN ?_ _) | (with_reducible refine Kd.C_drew ?_))); (case side2 => exact (Kd.R_reads' HO186.out).2.1); (case side3 => repeat (first | exact (Kd.R_reads' HO189.out).2.2 | (with_reducible refine Kd.C_alloc ?_ _) | (with_reducible refine Kd.C_drewN ?_ _) | (with_reducible refine Kd.C_drew ?_))); (case side4 => exact (Kd.R_reads' HO189.out).2.1); rintro e w' ⟨rfl, ⟨nd, rfl⟩⟩; refine ⟨_, rfl, ?_⟩) | (go_at_call 8; (with_reducible refine (class_Word.calls a1 t191 _ A19.out ?sideL).mono ?_); (case sideL => exact hL.at (by first | exact Below.refl _ _ | (repeat (first | (with_reducible first | exact HB.out | apply below_alloc | apply pw_below_drewN | apply below_drew1) | exact HB.out | exact Below.refl _ _)))); rintro e w' ⟨rfl, ⟨nd, rfl⟩⟩) | (go_at_call 18; (with_reducible refine (ductusref02_Word.calls a1 t192 _ A20.out).mono ?_); rintro e w37 ⟨rfl, hb⟩; have n0_ := Aside0.mk (Kd.R_below (by (with_reducible repeat (first | apply Kd.R_alloc | apply Kd.R_drewN | apply Kd.R_drew)); exact HO186.out) hb); have n1_ := Aside0.mk (Kd.R_below (by (with_reducible repeat (first | apply Kd.R_alloc | apply Kd.R_drewN | apply Kd.R_drew)); exact HO189.out) hb); have n2_ := Aside0.mk (below_step (by repeat (first | (with_reducible first | exact HB.out | apply below_alloc | apply pw_below_drewN | apply below_drew1) | exact HB.out)) hb); clear HO186; clear HO189; clear HB; have HO186 := n0_; have HO189 := n1_; have HB := n2_; clear n0_ n1_ n2_; (try clear hb); (try clear hb2); (try clear hk); (try clear hi)) | (go_at_call 9; (with_reducible refine (class_Strong.calls k1 a1 t193 _ A22.out).mono ?_); rintro e w38 ⟨rfl, hb⟩; have n0_ := Aside0.mk (Kd.R_below (by (with_reducible repeat (first | apply Kd.R_alloc | apply Kd.R_drewN | apply Kd.R_drew)); exact HO186.out) hb); have n1_ := Aside0.mk (Kd.R_below (by (with_reducible repeat (first | apply Kd.R_alloc | apply Kd.R_drewN | apply Kd.R_drew)); exact HO189.out) hb); have n2_ := Aside0.mk (below_step (by repeat (first | (with_reducible first | exact HB.out | apply below_alloc | apply pw_below_drewN | apply below_drew1) | exact HB.out)) hb); clear HO186; clear HO189; clear HB; have HO186 := n0_; have HO189 := n1_; have HB := n2_; clear n0_ n1_ n2_; (try clear hb); (try clear hb2); (try clear hk); (try clear hi)) | (go_at_call 19; (with_reducible refine (ductusref02_Strong.calls a1 t194 _ A23.out).mono ?_); rintro e w' ⟨rfl, ⟨nd, rfl⟩⟩) | (go_at_call 10; (with_reducible refine (class_Out.calls k1 a1 t195 _ A25.out).mono ?_); rintro e w39 ⟨rfl, hb⟩; have n0_ := Aside0.mk (Kd.R_below (by (with_reducible repeat (first | apply Kd.R_alloc | apply Kd.R_drewN | apply Kd.R_drew)); exact HO186.out) hb); have n1_ := Aside0.mk (Kd.R_below (by (with_reducible repeat (first | apply Kd.R_alloc | apply Kd.R_drewN | apply Kd.R_drew)); exact HO189.out) hb); have n2_ := Aside0.mk (below_step (by repeat (first | (with_reducible first | exact HB.out | apply below_alloc | apply pw_below_drewN | apply below_drew1) | exact HB.out)) hb); clear HO186; clear HO189; clear HB; have HO186 := n0_; have HO189 := n1_; have HB := n2_; clear n0_ n1_ n2_; (try clear hb); (try clear hb2); (try clear hk); (try clear hi)) | (go_at_call 20; (with_reducible refine (ductusref02_Out.calls a1 t196 _ A26.out).mono ?_); rintro e w' ⟨rfl, ⟨nd, rfl⟩⟩) | (go_at_call 11; (with_reducible refine (class_Opens.calls k1 a1 t197 _ A28.out).mono ?_); rintro e w40 ⟨rfl, hb⟩; have n0_ := Aside0.mk (Kd.R_below (by (with_reducible repeat (first | apply Kd.R_alloc | apply Kd.R_drewN | apply Kd.R_drew)); exact HO186.out) hb); have n1_ := Aside0.mk (Kd.R_below (by (with_reducible repeat (first | apply Kd.R_alloc | apply Kd.R_drewN | apply Kd.R_drew)); exact HO189.out) hb); have n2_ := Aside0.mk (below_step (by repeat (first | (with_reducible first | exact HB.out | apply below_alloc | apply pw_below_drewN | apply below_drew1) | exact HB.out)) hb); clear HO186; clear HO189; clear HB; have HO186 := n0_; have HO189 := n1_; have HB := n2_; clear n0_ n1_ n2_; (try clear hb); (try clear hb2); (try clear hk); (try clear hi)) | (go_at_call 21; (with_reducible refine (ductusref02_Opens.calls a1 t198 _ A29.out).mono ?_); rintro e w' ⟨rfl, ⟨nd, rfl⟩⟩) | (go_at_call 12; (with_reducible refine (class_Neutral.calls k1 a1 t199 _ A31.out).mono ?_); rintro e w41 ⟨rfl, hb⟩; have n0_ := Aside0.mk (Kd.R_below (by (with_reducible repeat (first | apply Kd.R_alloc | apply Kd.R_drewN | apply Kd.R_drew)); exact HO186.out) hb); have n1_ := Aside0.mk (Kd.R_below (by (with_reducible repeat (first | apply Kd.R_alloc | apply Kd.R_drewN | apply Kd.R_drew)); exact HO189.out) hb); have n2_ := Aside0.mk (below_step (by repeat (first | (with_reducible first | exact HB.out | apply below_alloc | apply pw_below_drewN | apply below_drew1) | exact HB.out)) hb); clear HO186; clear HO189; clear HB; have HO186 := n0_; have HO189 := n1_; have HB := n2_; clear n0_ n1_ n2_; (try clear hb); (try clear hb2); (try clear hk); (try clear hi)) | (go_at_call 22; (with_reducible refine (ductusref02_Neutral.calls a1 t200 _ A32.out).mono ?_); rintro e w' ⟨rfl, ⟨nd, rfl⟩⟩))
      go_ret
      exact ⟨by first | rfl | (simp [errW_none, errW_some] <;> rfl) | (simp [*, errW_none, errW_some] <;> rfl), by repeat (first | (with_reducible first | exact HB.out | apply below_alloc | apply pw_below_drewN | apply below_drew1) | exact HB.out)⟩

/-- THE ONE PURE STATEMENT of ductuslaw02_ClassAnswers: yours. -/
def ductuslaw02_ClassAnswers.Pure : Prop := ∀ (l0 : List Int) (a1 : Int), l0.length ≤ maxLen → l0.length * 8 ≤ 140737488351232 → (∀ x ∈ l0, (Lit.int .i64 x).wf = true) → (Lit.int .i64 a1).wf = true → ∃ k, ductuslaw02_ClassAnswers.f k l0 a1 = some true
theorem ductuslaw02_ClassAnswers.walk (P : ductuslaw02_ClassAnswers.Pure) (a0 : Option Addr) (len0 cap0 : Nat) (z0 : List Int) (a1 : Int) (w : World) (w0 : (a0 = none ∧ len0 = 0 ∧ cap0 = 0 ∧ z0 = []) ∨ ∃ x, a0 = some x ∧ len0 ≤ cap0 ∧ cap0 ≤ maxLen ∧ z0.length = cap0 ∧ (∀ i, i < z0.length → w.cell? (x.add i) = some (.int .i64 (z0.getD i 0))) ∧ ∀ n ∈ z0, (Lit.int .i64 n).wf = true) (y0 : len0 * 8 ≤ 140737488351232) (w1 : (Lit.int .i64 a1).wf = true) (hL : WordsAt w) :
    Calls Tryd.prog 4 #[.slice a0 len0 cap0, .int .i64 a1] w fun e w' => e = .returned (.bool true) ∧ Below w.heap.size w w' := by
  obtain ⟨l0, rfl, hr0, hm0, hw0, hc0⟩ := ReadsInt.ofRowC w0
  obtain ⟨k, h⟩ := P l0 a1 hm0 y0 hw0 w1
  refine (ductuslaw02_ClassAnswers.calls k _ _ l0 a1 true w (Kd.C_of_reads (d := (0 : Int)) (h1 := fun _ => rfl) hr0) hc0 h hL).mono ?_
  rintro e w' ⟨rfl, hd⟩
  exact ⟨rfl, hd⟩

end Go.Proofs.YtnbhncmggfjgdaaDoor.P
