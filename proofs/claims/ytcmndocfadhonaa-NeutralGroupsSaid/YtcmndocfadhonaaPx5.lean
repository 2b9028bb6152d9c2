/- Printed by a program of this claim's own over the translation: Lean functions of the Go functions, each with its proof; no condition beyond those written. -/
import Derived.Test.YtcmndocfadhonaaPx0
import Derived.Test.YtcmndocfadhonaaPx4
namespace Go.Proofs.Ytcmndocfadhonaa.P
open Go.RowKit Go.Proofs.YtcmndocfadhonaaW.PrintWords Go.Proofs.YtcmndocfadhonaaW.PrintLast Go.Proofs.YtcmndocfadhonaaW.PrintMore
attribute [local go_sem] max2_int min2_int max_two min_two max_three min_three max_four min_four   -- for this text's walks alone
set_option linter.unusedVariables false
set_option linter.unusedSimpArgs false

/-! ### ductusref11_Of: function 10 -/
mutual
def ductusref11_Of.l0 : Nat → List Int → Int → Int → Int → List Int → List (S38) → Int → Option (List Int)
  | 0, _, _, _, _, _, _, _ => none
  | k + 1, x0, x1, x2, x3, x9, x10, x11 => if x11 < (x10.length : Int) then ((ductusref11_end.f x2).bind fun t187 => ((ductusref11_end.f x3).bind fun t188 => (if 0 ≤ x11 then (if ((rd_T38 x10 x11).f0) > 0 then (if 0 ≤ (wrap64 (((rd_T38 x10 x11).f0) - 1)) then (if (wrap64 (((rd_T38 x10 x11).f0) - 1)) < (x0.length : Int) then ((ductusref11_side.f (rd x0 (wrap64 (((rd_T38 x10 x11).f0) - 1))) x1).bind fun t192 => (ductusref11_Of.j1 k x0 x1 x2 x3 x9 x10 x11 t192 t188)) else (none)) else (none)) else (ductusref11_Of.j1 k x0 x1 x2 x3 x9 x10 x11 t187 t188)) else (none)))) else (some x9)
def ductusref11_Of.j1 : Nat → List Int → Int → Int → Int → List Int → List (S38) → Int → Int → Int → Option (List Int)
  | 0, _, _, _, _, _, _, _, _, _ => none
  | k + 1, x0, x1, x2, x3, x9, x10, x11, x12, x13 => if 0 ≤ x11 then (if x11 < (x10.length : Int) then (if ((rd_T38 x10 x11).f1) < (x0.length : Int) then (if 0 ≤ ((rd_T38 x10 x11).f1) then ((ductusref11_side.f (rd x0 ((rd_T38 x10 x11).f1)) x1).bind fun t196 => (ductusref11_Of.j2 k x0 x1 x2 x3 x9 x10 x11 x12 t196)) else (none)) else (ductusref11_Of.j2 k x0 x1 x2 x3 x9 x10 x11 x12 x13)) else (none)) else (none)
def ductusref11_Of.j2 : Nat → List Int → Int → Int → Int → List Int → List (S38) → Int → Int → Int → Option (List Int)
  | 0, _, _, _, _, _, _, _, _, _ => none
  | k + 1, x0, x1, x2, x3, x9, x10, x11, x12, x13 => (ductusref08_Dir.f x1).bind fun t197 => (if x12 = x13 then (ductusref11_Of.j3 k x0 x1 x2 x3 x9 x10 x11 x12) else (ductusref11_Of.j3 k x0 x1 x2 x3 x9 x10 x11 t197))
def ductusref11_Of.j3 : Nat → List Int → Int → Int → Int → List Int → List (S38) → Int → Int → Option (List Int)
  | 0, _, _, _, _, _, _, _, _ => none
  | k + 1, x0, x1, x2, x3, x9, x10, x11, x14 => if 0 ≤ x11 then (if x11 < (x10.length : Int) then (ductusref11_Of.l1 k x0 x1 x2 x3 x9 x10 x11 x14 ((rd_T38 x10 x11).f0)) else (none)) else (none)
def ductusref11_Of.l1 : Nat → List Int → Int → Int → Int → List Int → List (S38) → Int → Int → Int → Option (List Int)
  | 0, _, _, _, _, _, _, _, _, _ => none
  | k + 1, x0, x1, x2, x3, x9, x10, x11, x14, x15 => if 0 ≤ x11 then (if x11 < (x10.length : Int) then (if x15 < ((rd_T38 x10 x11).f1) then (if 0 ≤ x15 then (if x15 < (x9.length : Int) then (ductusref11_Of.l1 k x0 x1 x2 x3 (x9.set (x15 : Int).toNat x14) x10 x11 x14 (wrap64 (x15 + 1))) else (none)) else (none)) else (ductusref11_Of.l0 k x0 x1 x2 x3 x9 x10 (wrap64 (x11 + 1)))) else (none)) else (none)
end
def ductusref11_Of.f (k : Nat) (l0 : List Int) (a1 : Int) (a2 : Int) (a3 : Int) : Option (List Int) := (some (([] : List Int) : List Int)).bind fun y178 => (if y178.length + l0.length < 17592186044416 then ((ductusref11_Groups.f k l0).bind fun t184 => (ductusref11_Of.l0 k l0 a1 a2 a3 (y178 ++ l0) t184 0)) else (none))
theorem ductusref11_Of.mono_l : ∀ k, (∀ y0 y1 y2 y3 y4 y5 y6, LeO (ductusref11_Of.l0 k y0 y1 y2 y3 y4 y5 y6) (ductusref11_Of.l0 (k + 1) y0 y1 y2 y3 y4 y5 y6)) ∧ (∀ y0 y1 y2 y3 y4 y5 y6 y7 y8, LeO (ductusref11_Of.j1 k y0 y1 y2 y3 y4 y5 y6 y7 y8) (ductusref11_Of.j1 (k + 1) y0 y1 y2 y3 y4 y5 y6 y7 y8)) ∧ (∀ y0 y1 y2 y3 y4 y5 y6 y7 y8, LeO (ductusref11_Of.j2 k y0 y1 y2 y3 y4 y5 y6 y7 y8) (ductusref11_Of.j2 (k + 1) y0 y1 y2 y3 y4 y5 y6 y7 y8)) ∧ (∀ y0 y1 y2 y3 y4 y5 y6 y7, LeO (ductusref11_Of.j3 k y0 y1 y2 y3 y4 y5 y6 y7) (ductusref11_Of.j3 (k + 1) y0 y1 y2 y3 y4 y5 y6 y7)) ∧ (∀ y0 y1 y2 y3 y4 y5 y6 y7 y8, LeO (ductusref11_Of.l1 k y0 y1 y2 y3 y4 y5 y6 y7 y8) (ductusref11_Of.l1 (k + 1) y0 y1 y2 y3 y4 y5 y6 y7 y8))
  | 0 => ⟨fun _ _ _ _ _ _ _ r h => by simp [ductusref11_Of.l0] at h, fun _ _ _ _ _ _ _ _ _ r h => by simp [ductusref11_Of.j1] at h, fun _ _ _ _ _ _ _ _ _ r h => by simp [ductusref11_Of.j2] at h, fun _ _ _ _ _ _ _ _ r h => by simp [ductusref11_Of.j3] at h, fun _ _ _ _ _ _ _ _ _ r h => by simp [ductusref11_Of.l1] at h⟩
  | k + 1 => by
    obtain ⟨ih0, ih1, ih2, ih3, ih4⟩ := ductusref11_Of.mono_l k
    refine ⟨?_, ?_, ?_, ?_, ?_⟩
    · intro y0 y1 y2 y3 y4 y5 y6
      unfold ductusref11_Of.l0
      repeat' first
      | (with_reducible exact ih0 _ _ _ _ _ _ _)
      | (with_reducible exact ih1 _ _ _ _ _ _ _ _ _)
      | (with_reducible exact ih2 _ _ _ _ _ _ _ _ _)
      | (with_reducible exact ih3 _ _ _ _ _ _ _ _)
      | (with_reducible exact ih4 _ _ _ _ _ _ _ _ _)
      | (with_reducible exact ductusref11_Groups.mono _ _)
      | (with_reducible exact LeO.refl _)
      | (with_reducible exact LeO.none _)
      | (with_reducible refine LeO.ite ?_ ?_)
      | (with_reducible refine LeO.bind ?_ (fun _ => ?_))
      | exact ih0 _ _ _ _ _ _ _
      | exact ih1 _ _ _ _ _ _ _ _ _
      | exact ih2 _ _ _ _ _ _ _ _ _
      | exact ih3 _ _ _ _ _ _ _ _
      | exact ih4 _ _ _ _ _ _ _ _ _
      | exact ductusref11_Groups.mono _ _
      | exact LeO.none _
      | refine LeO.ite ?_ ?_
      | refine LeO.bind ?_ (fun _ => ?_)
    · intro y0 y1 y2 y3 y4 y5 y6 y7 y8
      unfold ductusref11_Of.j1
      repeat' first
      | (with_reducible exact ih0 _ _ _ _ _ _ _)
      | (with_reducible exact ih1 _ _ _ _ _ _ _ _ _)
      | (with_reducible exact ih2 _ _ _ _ _ _ _ _ _)
      | (with_reducible exact ih3 _ _ _ _ _ _ _ _)
      | (with_reducible exact ih4 _ _ _ _ _ _ _ _ _)
      | (with_reducible exact ductusref11_Groups.mono _ _)
      | (with_reducible exact LeO.refl _)
      | (with_reducible exact LeO.none _)
      | (with_reducible refine LeO.ite ?_ ?_)
      | (with_reducible refine LeO.bind ?_ (fun _ => ?_))
      | exact ih0 _ _ _ _ _ _ _
      | exact ih1 _ _ _ _ _ _ _ _ _
      | exact ih2 _ _ _ _ _ _ _ _ _
      | exact ih3 _ _ _ _ _ _ _ _
      | exact ih4 _ _ _ _ _ _ _ _ _
      | exact ductusref11_Groups.mono _ _
      | exact LeO.none _
      | refine LeO.ite ?_ ?_
      | refine LeO.bind ?_ (fun _ => ?_)
    · intro y0 y1 y2 y3 y4 y5 y6 y7 y8
      unfold ductusref11_Of.j2
      repeat' first
      | (with_reducible exact ih0 _ _ _ _ _ _ _)
      | (with_reducible exact ih1 _ _ _ _ _ _ _ _ _)
      | (with_reducible exact ih2 _ _ _ _ _ _ _ _ _)
      | (with_reducible exact ih3 _ _ _ _ _ _ _ _)
      | (with_reducible exact ih4 _ _ _ _ _ _ _ _ _)
      | (with_reducible exact ductusref11_Groups.mono _ _)
      | (with_reducible exact LeO.refl _)
      | (with_reducible exact LeO.none _)
      | (with_reducible refine LeO.ite ?_ ?_)
      | (with_reducible refine LeO.bind ?_ (fun _ => ?_))
      | exact ih0 _ _ _ _ _ _ _
      | exact ih1 _ _ _ _ _ _ _ _ _
      | exact ih2 _ _ _ _ _ _ _ _ _
      | exact ih3 _ _ _ _ _ _ _ _
      | exact ih4 _ _ _ _ _ _ _ _ _
      | exact ductusref11_Groups.mono _ _
      | exact LeO.none _
      | refine LeO.ite ?_ ?_
      | refine LeO.bind ?_ (fun _ => ?_)
    · intro y0 y1 y2 y3 y4 y5 y6 y7
      unfold ductusref11_Of.j3
      repeat' first
      | (with_reducible exact ih0 _ _ _ _ _ _ _)
      | (with_reducible exact ih1 _ _ _ _ _ _ _ _ _)
      | (with_reducible exact ih2 _ _ _ _ _ _ _ _ _)
      | (with_reducible exact ih3 _ _ _ _ _ _ _ _)
      | (with_reducible exact ih4 _ _ _ _ _ _ _ _ _)
      | (with_reducible exact ductusref11_Groups.mono _ _)
      | (with_reducible exact LeO.refl _)
      | (with_reducible exact LeO.none _)
      | (with_reducible refine LeO.ite ?_ ?_)
      | (with_reducible refine LeO.bind ?_ (fun _ => ?_))
      | exact ih0 _ _ _ _ _ _ _
      | exact ih1 _ _ _ _ _ _ _ _ _
      | exact ih2 _ _ _ _ _ _ _ _ _
      | exact ih3 _ _ _ _ _ _ _ _
      | exact ih4 _ _ _ _ _ _ _ _ _
      | exact ductusref11_Groups.mono _ _
      | exact LeO.none _
      | refine LeO.ite ?_ ?_
      | refine LeO.bind ?_ (fun _ => ?_)
    · intro y0 y1 y2 y3 y4 y5 y6 y7 y8
      unfold ductusref11_Of.l1
      repeat' first
      | (with_reducible exact ih0 _ _ _ _ _ _ _)
      | (with_reducible exact ih1 _ _ _ _ _ _ _ _ _)
      | (with_reducible exact ih2 _ _ _ _ _ _ _ _ _)
      | (with_reducible exact ih3 _ _ _ _ _ _ _ _)
      | (with_reducible exact ih4 _ _ _ _ _ _ _ _ _)
      | (with_reducible exact ductusref11_Groups.mono _ _)
      | (with_reducible exact LeO.refl _)
      | (with_reducible exact LeO.none _)
      | (with_reducible refine LeO.ite ?_ ?_)
      | (with_reducible refine LeO.bind ?_ (fun _ => ?_))
      | exact ih0 _ _ _ _ _ _ _
      | exact ih1 _ _ _ _ _ _ _ _ _
      | exact ih2 _ _ _ _ _ _ _ _ _
      | exact ih3 _ _ _ _ _ _ _ _
      | exact ih4 _ _ _ _ _ _ _ _ _
      | exact ductusref11_Groups.mono _ _
      | exact LeO.none _
      | refine LeO.ite ?_ ?_
      | refine LeO.bind ?_ (fun _ => ?_)
theorem ductusref11_Of.mono : ∀ a0 a1 a2 a3 k, LeO (ductusref11_Of.f k a0 a1 a2 a3) (ductusref11_Of.f (k + 1) a0 a1 a2 a3) := by
  intro a0 a1 a2 a3 k
  obtain ⟨ih0, ih1, ih2, ih3, ih4⟩ := ductusref11_Of.mono_l k
  unfold ductusref11_Of.f
  repeat' first
      | (with_reducible exact ih0 _ _ _ _ _ _ _)
      | (with_reducible exact ih1 _ _ _ _ _ _ _ _ _)
      | (with_reducible exact ih2 _ _ _ _ _ _ _ _ _)
      | (with_reducible exact ih3 _ _ _ _ _ _ _ _)
      | (with_reducible exact ih4 _ _ _ _ _ _ _ _ _)
      | (with_reducible exact ductusref11_Groups.mono _ _)
      | (with_reducible exact LeO.refl _)
      | (with_reducible exact LeO.none _)
      | (with_reducible refine LeO.ite ?_ ?_)
      | (with_reducible refine LeO.bind ?_ (fun _ => ?_))
      | exact ih0 _ _ _ _ _ _ _
      | exact ih1 _ _ _ _ _ _ _ _ _
      | exact ih2 _ _ _ _ _ _ _ _ _
      | exact ih3 _ _ _ _ _ _ _ _
      | exact ih4 _ _ _ _ _ _ _ _ _
      | exact ductusref11_Groups.mono _ _
      | exact LeO.none _
      | refine LeO.ite ?_ ?_
      | refine LeO.bind ?_ (fun _ => ?_)
set_option maxHeartbeats 8000000 in
set_option maxRecDepth 100000 in
theorem ductusref11_Of.calls (k : Nat) (A0 : Option Addr) (c0 : Nat) (l0 : List Int) (a1 : Int) (a2 : Int) (a3 : Int) (r : List Int) (w : World) (hr0 : Kd.C (Kd.int .i64) w A0 l0.length l0) (hc0 : l0.length ≤ c0) (h : ductusref11_Of.f k l0 a1 a2 a3 = some r) :
    Calls Try.prog 10 #[.slice A0 l0.length c0, .int .i64 a1, .int .i64 a2, .int .i64 a3] w fun e w' => ∃ v0_ : Value, e = .returned (v0_) ∧ Kd.R (Kd.int .i64) 3 w' w.heap.size (fun _ => True) v0_ r ∧ Below w.heap.size w w' := by
  have HR0 := Aside0.mk hr0
  have HC0 := Aside0.mk hc0
  clear hr0 hc0
  have HB := Aside0.mk (Below.refl w.heap.size w)
  have H : ((some (([] : List Int) : List Int)).bind fun y178 => (if y178.length + l0.length < 17592186044416 then ((ductusref11_Groups.f k l0).bind fun t184 => (ductusref11_Of.l0 k l0 a1 a2 a3 (y178 ++ l0) t184 0)) else (none))) = some r := h
  clear h
  obtain ⟨y178, hy178⟩ : ∃ y_ : List Int, y_ = (([] : List Int)) := ⟨_, rfl⟩
  replace H : (if y178.length + l0.length < 17592186044416 then ((ductusref11_Groups.f k l0).bind fun t184 => (ductusref11_Of.l0 k l0 a1 a2 a3 (y178 ++ l0) t184 0)) else (none)) = some r := by first | (rw [hy178]; with_reducible exact H) | (have H2_ := (Option.bind_some _ _).symm.trans H; rw [hy178]; with_reducible exact H2_) | (have H2_ := (Option.bind_some _ _).symm.trans H; with_reducible exact H2_) | with_reducible exact H | (rw [hy178]; exact H) | exact H
  have Ny178 := Aside0.mk hy178
  clear hy178
  by_cases c5 : y178.length + l0.length < 17592186044416
  rotate_left
  · rw [if_neg c5] at H
    exact absurd H (by simp)
  rw [if_pos c5] at H
  have LMc5 := Aside0.mk c5
  clear c5
  obtain ⟨y181, hy181⟩ : ∃ y_ : List Int, y_ = (y178 ++ l0) := ⟨_, rfl⟩
  replace H : ((ductusref11_Groups.f k l0).bind fun t184 => (ductusref11_Of.l0 k l0 a1 a2 a3 y181 t184 0)) = some r := by first | (rw [hy181]; with_reducible exact H) | (have H2_ := (Option.bind_some _ _).symm.trans H; rw [hy181]; with_reducible exact H2_) | (have H2_ := (Option.bind_some _ _).symm.trans H; with_reducible exact H2_) | with_reducible exact H | (rw [hy181]; exact H) | exact H
  have Ny181 := Aside0.mk hy181
  clear hy181
  replace H := Option.bind_eq_some_iff.mp H
  obtain ⟨t184, A60, H⟩ := H
  replace H : (ductusref11_Of.l0 k l0 a1 a2 a3 y181 t184 0) = some r := H
  have A6 := Aside0.mk A60
  clear A60
  have H' := Aside0.mk H
  clear H
  go_enter Try.func10, Try.ntmps10
  go_wp2_with (first | ((with_reducible refine gate_dst (N := 16) rfl ?_); refine Kd.R_lit (Kd.int .i64) _ 3 ?hg (N := 16) ?hd (xs := ([] : List Int)) (inner := []) (ok := fun _ => True) (okp := fun _ => True) ?hr ?hp (fun _ hk => hk) trivial (Below.refl _ _) (Nat.le_refl _) (by simp) ?_; (case hd => rfl); (case hg => rfl); (case hr => first | (go_simp; done) | (go_simp; rfl)); (case hp => exact (Reps.none _ _)); intro v179 w7 ho8 hb hg_ hnew_; clear hg_ hnew_; (first | rw [← Ny178.out] at ho8 | (simp only [Int.reduceToNat] at ho8; rw [← Ny178.out] at ho8)); have n0_ := Aside0.mk (Kd.R_lower ho8 (below_size (by repeat (first | (with_reducible first | exact HB.out | apply below_alloc | apply pw_below_drewN | apply below_drew1) | exact HB.out)))); have n1_ := Aside0.mk (below_step (by repeat (first | (with_reducible first | exact HB.out | apply below_alloc | apply pw_below_drewN | apply below_drew1) | exact HB.out)) hb); clear HB; have HO180 := n0_; have HB := n1_; clear n0_ n1_; clear hb ho8) | ((with_reducible refine gate_builtin (b := .append) (xs := #[.tmp 16, .tmp 17]) rfl ?_); at_builtin; refine Kd.R_append_rows (Kd.int .i64) (w0 := w) w.heap.size rfl (.tmp 16) (.tmp 17) 22 3 (.int .i64 0) 8 rfl Try.underlying22 info3 rfl (by decide) (by omega) v179 y178 l0 _ _ _ (fun _ => True) (fun _ => False) rfl rfl ?aO ?aR (fun _ _ h => h) (fun _ h => h.elim) ?aF ?aB ?aS ?aL ?_; (case aR => repeat (first | exact (Kd.C_below HR0.out HB.out) | (with_reducible refine Kd.C_alloc ?_ _) | (with_reducible refine Kd.C_drewN ?_ _) | (with_reducible refine Kd.C_drew ?_))); (case aB => exact (by repeat (first | (with_reducible first | exact HB.out | apply below_alloc | apply pw_below_drewN | apply below_drew1) | exact HB.out))); (case aF => exact (fun _ _ => trivial)); (case aO => exact (by (with_reducible repeat (first | apply Kd.R_alloc | apply Kd.R_drewN | apply Kd.R_drew)); exact HO180.out)); (case aS => exact (below_size (by repeat (first | (with_reducible first | exact HB.out | apply below_alloc | apply pw_below_drewN | apply below_drew1) | exact HB.out)))); (case aL => have := LMc5.out; omega); intro v182 w9 ho hb hg hat; rw [← Ny181.out] at ho; have n0_ := Aside0.mk (hb); have n1_ := Aside0.mk (ho); clear HB; clear HO180; have HB := n0_; have HO183 := n1_; clear n0_ n1_; clear ho hb hg hat) | ((with_reducible refine gate_callee (f := 13) rfl ?_); refine goesL_ (some 20) rfl rfl Try.func13 (by kernel_rfl) rfl #[.slice A0 l0.length c0] rfl (by (try simp only [List.map_toArray, List.map_cons, List.map_nil]); first | done | rfl | (simp only [List.length_drop, List.length_take]; rfl)) ?_; (with_reducible refine (ductusref11_Groups.calls k _ _ l0 t184 _ ?side1 ?side2 A6.out).mono ?_); (case side1 => repeat (first | exact (Kd.C_below HR0.out HB.out) | (with_reducible refine Kd.C_alloc ?_ _) | (with_reducible refine Kd.C_drewN ?_ _) | (with_reducible refine Kd.C_drew ?_))); (case side2 => exact HC0.out); rintro e w10 ⟨v185, rfl, ho0, hb⟩; refine ⟨_, rfl, ?_⟩; have n0_ := Aside0.mk (Kd.R_below (by (with_reducible repeat (first | apply Kd.R_alloc | apply Kd.R_drewN | apply Kd.R_drew)); exact HO183.out) hb); have n1_ := Aside0.mk (Kd.R_lower ho0 (below_size (by repeat (first | (with_reducible first | exact HB.out | apply below_alloc | apply pw_below_drewN | apply below_drew1) | exact HB.out)))); have n2_ := Aside0.mk (below_step (by repeat (first | (with_reducible first | exact HB.out | apply below_alloc | apply pw_below_drewN | apply below_drew1) | exact HB.out)) hb); clear HO183; clear HB; have HO183 := n0_; have HO186 := n1_; have HB := n2_; clear n0_ n1_ n2_; (try clear hb); (try clear hb2); (try clear hk); (try clear hi); (try clear ho0)))
  go_loopg [11] k (fun kq v11 w' => ∃ (x9_1 : List Int) (x11_1 : Int), v11 = .int .i64 x11_1 ∧ Aside0 (ductusref11_Of.l0 kq l0 a1 a2 a3 x9_1 t184 x11_1 = some r) ∧ Aside0 (kq ≤ k) ∧ Aside0 (Kd.R (Kd.int .i64) 3 w' w.heap.size (fun _ => True) v182 x9_1) ∧ Aside0 (Kd.R k38 38 w' w.heap.size (fun _ => True) v185 t184) ∧ Aside0 (Below w.heap.size w w'))
  case atStart => exact ⟨(y181), (0), (by first | rfl | (simp; done) | (simp [*]; done)), H', ⟨Nat.le_refl _⟩, ⟨by (with_reducible repeat (first | apply Kd.R_alloc | apply Kd.R_drewN | apply Kd.R_drew)); exact HO183.out⟩, ⟨by (with_reducible repeat (first | apply Kd.R_alloc | apply Kd.R_drewN | apply Kd.R_drew)); exact HO186.out⟩, ⟨by repeat (first | (with_reducible first | exact HB.out | apply below_alloc | apply pw_below_drewN | apply below_drew1) | exact HB.out)⟩⟩
  case round =>
    clear H'
    try clear c1
    try clear p2
    try clear c5
    try clear c10
    obtain ⟨x9_1, x11_1, rfl, HA, HK1, HO_9, HO_10, HB⟩ := hrel
    cases gk with
    | zero => exact absurd HA.out (by simp [ductusref11_Of.l0])
    | succ k1 =>
      have H := HA.out
      clear HA
      simp only [ductusref11_Of.l0] at H
      by_cases c11 : x11_1 < (t184.length : Int)
      rotate_left
      · rw [if_neg c11] at H
        have c11b0 : decide (x11_1 < (t184.length : Int)) = false := decide_eq_false c11
        clear c11
        obtain rfl := Option.some.inj H
        obtain ⟨Ao41, co41, eo41⟩ := Kd.R_slice HO_10.out
        subst eo41
        go_wp2
        go_ret
        exact ⟨_, by first | rfl | (simp [errW_none, errW_some] <;> rfl) | (simp [*, errW_none, errW_some] <;> rfl), by (with_reducible repeat (first | apply Kd.R_alloc | apply Kd.R_drewN | apply Kd.R_drew)); exact HO_9.out, by repeat (first | (with_reducible first | exact HB.out | apply below_alloc | apply pw_below_drewN | apply below_drew1) | exact HB.out)⟩
      rw [if_pos c11] at H
      have c11b0 : decide (x11_1 < (t184.length : Int)) = true := decide_eq_true c11
      clear c11
      replace H := Option.bind_eq_some_iff.mp H
      obtain ⟨t187, A120, H⟩ := H
      replace H : ((ductusref11_end.f a3).bind fun t188 => (if 0 ≤ x11_1 then (if ((rd_T38 t184 x11_1).f0) > 0 then (if 0 ≤ (wrap64 (((rd_T38 t184 x11_1).f0) - 1)) then (if (wrap64 (((rd_T38 t184 x11_1).f0) - 1)) < (l0.length : Int) then ((ductusref11_side.f (rd l0 (wrap64 (((rd_T38 t184 x11_1).f0) - 1))) a1).bind fun t192 => (ductusref11_Of.j1 k1 l0 a1 a2 a3 x9_1 t184 x11_1 t192 t188)) else (none)) else (none)) else (ductusref11_Of.j1 k1 l0 a1 a2 a3 x9_1 t184 x11_1 t187 t188)) else (none))) = some r := H
      have A12 := Aside0.mk A120
      clear A120
      replace H := Option.bind_eq_some_iff.mp H
      obtain ⟨t188, A130, H⟩ := H
      replace H : (if 0 ≤ x11_1 then (if ((rd_T38 t184 x11_1).f0) > 0 then (if 0 ≤ (wrap64 (((rd_T38 t184 x11_1).f0) - 1)) then (if (wrap64 (((rd_T38 t184 x11_1).f0) - 1)) < (l0.length : Int) then ((ductusref11_side.f (rd l0 (wrap64 (((rd_T38 t184 x11_1).f0) - 1))) a1).bind fun t192 => (ductusref11_Of.j1 k1 l0 a1 a2 a3 x9_1 t184 x11_1 t192 t188)) else (none)) else (none)) else (ductusref11_Of.j1 k1 l0 a1 a2 a3 x9_1 t184 x11_1 t187 t188)) else (none)) = some r := H
      have A13 := Aside0.mk A130
      clear A130
      by_cases c14 : 0 ≤ x11_1
      rotate_left
      · rw [if_neg c14] at H
        exact absurd H (by simp)
      rw [if_pos c14] at H
      have c14b0 : decide (0 ≤ x11_1) = true := decide_eq_true c14
      clear c14
      have HC15 := Aside0.mk H
      clear H
      obtain ⟨Ao16, co16, eo16⟩ := Kd.R_slice HO_10.out
      subst eo16
      go_upto_if 36 with (first | ((with_reducible refine gate_callee (f := 23) rfl ?_); refine goesL_ (some 28) rfl rfl Try.func23 (by kernel_rfl) rfl #[.int .i64 a2] rfl (by (try simp only [List.map_toArray, List.map_cons, List.map_nil]); first | done | rfl | (simp only [List.length_drop, List.length_take]; rfl)) ?_; (with_reducible refine (ductusref11_end.calls a2 t187 _ A12.out).mono ?_); rintro e w' ⟨rfl, ⟨nd, rfl⟩⟩; refine ⟨_, rfl, ?_⟩) | ((with_reducible refine gate_callee (f := 23) rfl ?_); refine goesL_ (some 30) rfl rfl Try.func23 (by kernel_rfl) rfl #[.int .i64 a3] rfl (by (try simp only [List.map_toArray, List.map_cons, List.map_nil]); first | done | rfl | (simp only [List.length_drop, List.length_take]; rfl)) ?_; (with_reducible refine (ductusref11_end.calls a3 t188 _ A13.out).mono ?_); rintro e w' ⟨rfl, ⟨nd, rfl⟩⟩; refine ⟨_, rfl, ?_⟩; have p189 : 0 ≤ (x11_1 : Int) := of_decide_eq_true (by first | (with_reducible assumption) | assumption); have q189 : x11_1 < (t184.length : Int) := of_decide_eq_true (by first | (with_reducible assumption) | assumption); obtain ⟨ad189, e189, hx189_0, hx189_1⟩ := at_T38 (Kd.R_reads' HO_10.out).2.2 x11_1 p189 q189; cases e189; replace p189 := eq_true p189; replace q189 := eq_true q189))
      (try simp only [Act.put, List.setIfInBounds_toArray, List.set_cons_zero, List.set_cons_succ])
      go_cut [12] (fun v12 wc => ∃ (kq : Nat) (x12_14 : Int), v12 = .int .i64 x12_14 ∧ Aside0 (ductusref11_Of.j1 kq l0 a1 a2 a3 x9_1 t184 x11_1 x12_14 t188 = some r) ∧ Aside0 (kq ≤ k1) ∧ Aside0 (Kd.R (Kd.int .i64) 3 wc w.heap.size (fun _ => True) v182 x9_1) ∧ Aside0 (Kd.R k38 38 wc w.heap.size (fun _ => True) (.slice (some ad189) t184.length co16) t184) ∧ Aside0 (Below w.heap.size w wc))
      case first =>
        have H := HC15.out
        clear HC15
        by_cases c17 : ((rd_T38 t184 x11_1).f0) > 0
        rotate_left
        · rw [if_neg c17] at H
          have c17b0 : decide (0 < ((rd_T38 t184 x11_1).f0)) = false := decide_eq_false c17
          clear c17
          (first | rw [c17b0] | (simp only [i64_w, i32_w]; rw [c17b0]) | skip)
          have H' := Aside0.mk H
          clear H
          go_wp2
          go_meet
          case rel => exact ⟨_, (t187), (by first | rfl | (simp; done) | (simp [*]; done)), H', ⟨by have := HK1.out; first | omega | exact Nat.le_refl _⟩, ⟨by (with_reducible repeat (first | apply Kd.R_alloc | apply Kd.R_drewN | apply Kd.R_drew)); exact HO_9.out⟩, ⟨by (with_reducible repeat (first | apply Kd.R_alloc | apply Kd.R_drewN | apply Kd.R_drew)); exact HO_10.out⟩, ⟨by repeat (first | (with_reducible first | exact HB.out | apply below_alloc | apply pw_below_drewN | apply below_drew1) | exact HB.out)⟩⟩
        rw [if_pos c17] at H
        have c17b0 : decide (0 < ((rd_T38 t184 x11_1).f0)) = true := decide_eq_true c17
        clear c17
        (first | rw [c17b0] | (simp only [i64_w, i32_w]; rw [c17b0]) | skip)
        obtain ⟨ji18, hji18⟩ : ∃ j_ : Int, (wrap64 (((rd_T38 t184 x11_1).f0) - 1)) = j_ := ⟨_, rfl⟩
        replace H : (if 0 ≤ (ji18) then (if (ji18) < (l0.length : Int) then ((ductusref11_side.f (rd l0 (ji18)) a1).bind fun t192 => (ductusref11_Of.j1 k1 l0 a1 a2 a3 x9_1 t184 x11_1 t192 t188)) else (none)) else (none)) = some r := by first | (rw [hji18] at H; exact H) | (simp only [hji18] at H ⊢; exact H)
        have hji18w : (IntKind.i64.wrap (((rd_T38 t184 x11_1).f0) - 1)) = ji18 := (i64_w _).trans hji18
        by_cases c19 : 0 ≤ (ji18)
        rotate_left
        · rw [if_neg c19] at H
          exact absurd H (by simp)
        rw [if_pos c19] at H
        have c19b0 : decide (0 ≤ (ji18)) = true := decide_eq_true c19
        clear c19
        by_cases c20 : (ji18) < (l0.length : Int)
        rotate_left
        · rw [if_neg c20] at H
          exact absurd H (by simp)
        rw [if_pos c20] at H
        have c20b0 : decide ((ji18) < (l0.length : Int)) = true := decide_eq_true c20
        clear c20
        replace H := Option.bind_eq_some_iff.mp H
        obtain ⟨t192, A210, H⟩ := H
        replace H : (ductusref11_Of.j1 k1 l0 a1 a2 a3 x9_1 t184 x11_1 t192 t188) = some r := H
        have A21 := Aside0.mk A210
        clear A210
        have H' := Aside0.mk H
        clear H
        have p190 : 0 ≤ (x11_1 : Int) := of_decide_eq_true (by first | (with_reducible assumption) | assumption)
        have q190 : x11_1 < (t184.length : Int) := of_decide_eq_true (by first | (with_reducible assumption) | assumption)
        obtain ⟨ad190, e190, hx190_0, hx190_1⟩ := at_T38 (Kd.R_reads' HO_10.out).2.2 x11_1 p190 q190
        obtain rfl : ad189 = ad190 := (by injection e190)
        replace p190 := eq_true p190
        replace q190 := eq_true q190
        have p191 : 0 ≤ ((ji18) : Int) := of_decide_eq_true (by first | (with_reducible assumption) | assumption)
        have q191 : (ji18) < (l0.length : Int) := of_decide_eq_true (by first | (with_reducible assumption) | assumption)
        obtain ⟨ad191, e191, hx191_0⟩ := Kd.at_int HR0.out (ji18) p191 q191
        cases e191
        replace hx191_0 := (HB.out.cell (World.block_lt_of_cell? w _ hx191_0)).trans hx191_0
        replace p191 := eq_true p191
        replace q191 := eq_true q191
        go_wp2_with (first | ((with_reducible refine gate_callee (f := 24) rfl ?_); refine goesL_ (some 47) rfl rfl Try.func24 (by kernel_rfl) rfl #[.int .i64 (rd l0 (ji18)), .int .i64 a1] rfl (by (try simp only [List.map_toArray, List.map_cons, List.map_nil]); first | done | (simp only [hji18]; rfl) | rfl | (simp only [List.length_drop, List.length_take]; rfl)) ?_; (with_reducible refine (ductusref11_side.calls (rd l0 (ji18)) a1 t192 _ A21.out).mono ?_); rintro e w' ⟨rfl, ⟨nd, rfl⟩⟩; refine ⟨_, rfl, ?_⟩))
        go_meet
        case rel => exact ⟨_, (t192), (by first | rfl | (simp; done) | (simp [*]; done)), H', ⟨by have := HK1.out; first | omega | exact Nat.le_refl _⟩, ⟨by (with_reducible repeat (first | apply Kd.R_alloc | apply Kd.R_drewN | apply Kd.R_drew)); exact HO_9.out⟩, ⟨by (with_reducible repeat (first | apply Kd.R_alloc | apply Kd.R_drewN | apply Kd.R_drew)); exact HO_10.out⟩, ⟨by repeat (first | (with_reducible first | exact HB.out | apply below_alloc | apply pw_below_drewN | apply below_drew1) | exact HB.out)⟩⟩
      case rest =>
        clear HC15
        try clear c1
        try clear p1
        try clear q1
        try clear hx1
        try clear c2
        try clear p2
        try clear c5
        try clear p6
        try clear c10
        try clear c11
        try clear c11b0
        try clear c13
        try clear c14
        try clear c14b0
        try clear c17
        try clear c17b0
        try clear p18
        try clear q18
        try clear hx18
        try clear c19
        try clear c19b0
        try clear p19
        try clear q19
        try clear hx19
        try clear c20
        try clear c20b0
        try clear hx189_0
        try clear hx189_1
        try clear hx190_0
        try clear hx190_1
        try clear hx191_0
        try clear p189
        try clear p190
        try clear p191
        try clear p2
        try clear q189
        try clear q190
        try clear q191
        obtain ⟨kq, x12_14, rfl, HA, HJ14, HO_9, HO_10, HB⟩ := hcut
        cases kq with
        | zero => exact absurd HA.out (by simp [ductusref11_Of.j1])
        | succ kj14 =>
          have H := HA.out
          clear HA
          simp only [ductusref11_Of.j1] at H
          by_cases c22 : 0 ≤ x11_1
          rotate_left
          · rw [if_neg c22] at H
            exact absurd H (by simp)
          rw [if_pos c22] at H
          have c22b0 : decide (0 ≤ x11_1) = true := decide_eq_true c22
          clear c22
          by_cases c23 : x11_1 < (t184.length : Int)
          rotate_left
          · rw [if_neg c23] at H
            exact absurd H (by simp)
          rw [if_pos c23] at H
          have c23b0 : decide (x11_1 < (t184.length : Int)) = true := decide_eq_true c23
          clear c23
          have HC24 := Aside0.mk H
          clear H
          have p193 : 0 ≤ (x11_1 : Int) := of_decide_eq_true (by first | (with_reducible assumption) | assumption)
          have q193 : x11_1 < (t184.length : Int) := of_decide_eq_true (by first | (with_reducible assumption) | assumption)
          obtain ⟨ad193, e193, hx193_0, hx193_1⟩ := at_T38 (Kd.R_reads' HO_10.out).2.2 x11_1 p193 q193
          obtain rfl : ad189 = ad193 := (by injection e193)
          replace p193 := eq_true p193
          replace q193 := eq_true q193
          go_upto_if 55 with (fail)
          go_cut [13] (fun v13 wc => ∃ (kq : Nat) (x13_23 : Int), v13 = .int .i64 x13_23 ∧ Aside0 (ductusref11_Of.j2 kq l0 a1 a2 a3 x9_1 t184 x11_1 x12_14 x13_23 = some r) ∧ Aside0 (kq ≤ kj14) ∧ Aside0 (Kd.R (Kd.int .i64) 3 wc w.heap.size (fun _ => True) v182 x9_1) ∧ Aside0 (Kd.R k38 38 wc w.heap.size (fun _ => True) (.slice (some ad189) t184.length co16) t184) ∧ Aside0 (Below w.heap.size w wc))
          case first =>
            have H := HC24.out
            clear HC24
            by_cases c25 : ((rd_T38 t184 x11_1).f1) < (l0.length : Int)
            rotate_left
            · rw [if_neg c25] at H
              have c25b0 : decide (((rd_T38 t184 x11_1).f1) < (l0.length : Int)) = false := decide_eq_false c25
              clear c25
              (first | rw [c25b0] | (simp only [i64_w, i32_w]; rw [c25b0]) | skip)
              have H' := Aside0.mk H
              clear H
              go_wp2
              go_meet
              case rel => exact ⟨_, (t188), (by first | rfl | (simp; done) | (simp [*]; done)), H', ⟨by have := HK1.out; have := HJ14.out; first | omega | exact Nat.le_refl _⟩, ⟨by (with_reducible repeat (first | apply Kd.R_alloc | apply Kd.R_drewN | apply Kd.R_drew)); exact HO_9.out⟩, ⟨by (with_reducible repeat (first | apply Kd.R_alloc | apply Kd.R_drewN | apply Kd.R_drew)); exact HO_10.out⟩, ⟨by repeat (first | (with_reducible first | exact HB.out | apply below_alloc | apply pw_below_drewN | apply below_drew1) | exact HB.out)⟩⟩
            rw [if_pos c25] at H
            have c25b0 : decide (((rd_T38 t184 x11_1).f1) < (l0.length : Int)) = true := decide_eq_true c25
            clear c25
            (first | rw [c25b0] | (simp only [i64_w, i32_w]; rw [c25b0]) | skip)
            by_cases c26 : 0 ≤ ((rd_T38 t184 x11_1).f1)
            rotate_left
            · rw [if_neg c26] at H
              exact absurd H (by simp)
            rw [if_pos c26] at H
            have c26b0 : decide (0 ≤ ((rd_T38 t184 x11_1).f1)) = true := decide_eq_true c26
            clear c26
            replace H := Option.bind_eq_some_iff.mp H
            obtain ⟨t196, A270, H⟩ := H
            replace H : (ductusref11_Of.j2 kj14 l0 a1 a2 a3 x9_1 t184 x11_1 x12_14 t196) = some r := H
            have A27 := Aside0.mk A270
            clear A270
            have H' := Aside0.mk H
            clear H
            have p194 : 0 ≤ (x11_1 : Int) := of_decide_eq_true (by first | (with_reducible assumption) | assumption)
            have q194 : x11_1 < (t184.length : Int) := of_decide_eq_true (by first | (with_reducible assumption) | assumption)
            obtain ⟨ad194, e194, hx194_0, hx194_1⟩ := at_T38 (Kd.R_reads' HO_10.out).2.2 x11_1 p194 q194
            obtain rfl : ad189 = ad194 := (by injection e194)
            replace p194 := eq_true p194
            replace q194 := eq_true q194
            have p195 : 0 ≤ (((rd_T38 t184 x11_1).f1) : Int) := of_decide_eq_true (by first | (with_reducible assumption) | assumption)
            have q195 : ((rd_T38 t184 x11_1).f1) < (l0.length : Int) := of_decide_eq_true (by first | (with_reducible assumption) | assumption)
            obtain ⟨ad195, e195, hx195_0⟩ := Kd.at_int HR0.out ((rd_T38 t184 x11_1).f1) p195 q195
            cases e195
            replace hx195_0 := (HB.out.cell (World.block_lt_of_cell? w _ hx195_0)).trans hx195_0
            replace p195 := eq_true p195
            replace q195 := eq_true q195
            go_wp2_with (first | ((with_reducible refine gate_callee (f := 24) rfl ?_); refine goesL_ (some 65) rfl rfl Try.func24 (by kernel_rfl) rfl #[.int .i64 (rd l0 ((rd_T38 t184 x11_1).f1)), .int .i64 a1] rfl (by (try simp only [List.map_toArray, List.map_cons, List.map_nil]); first | done | rfl | (simp only [List.length_drop, List.length_take]; rfl)) ?_; (with_reducible refine (ductusref11_side.calls (rd l0 ((rd_T38 t184 x11_1).f1)) a1 t196 _ A27.out).mono ?_); rintro e w' ⟨rfl, ⟨nd, rfl⟩⟩; refine ⟨_, rfl, ?_⟩))
            go_meet
            case rel => exact ⟨_, (t196), (by first | rfl | (simp; done) | (simp [*]; done)), H', ⟨by have := HK1.out; have := HJ14.out; first | omega | exact Nat.le_refl _⟩, ⟨by (with_reducible repeat (first | apply Kd.R_alloc | apply Kd.R_drewN | apply Kd.R_drew)); exact HO_9.out⟩, ⟨by (with_reducible repeat (first | apply Kd.R_alloc | apply Kd.R_drewN | apply Kd.R_drew)); exact HO_10.out⟩, ⟨by repeat (first | (with_reducible first | exact HB.out | apply below_alloc | apply pw_below_drewN | apply below_drew1) | exact HB.out)⟩⟩
          case rest =>
            clear HC24
            try clear c1
            try clear p1
            try clear q1
            try clear hx1
            try clear c2
            try clear p2
            try clear c5
            try clear p6
            try clear c10
            try clear c11
            try clear c11b0
            try clear c13
            try clear c14
            try clear c14b0
            try clear c17
            try clear c17b0
            try clear p18
            try clear q18
            try clear hx18
            try clear c19
            try clear c19b0
            try clear p19
            try clear q19
            try clear hx19
            try clear c20
            try clear c20b0
            try clear c22
            try clear c22b0
            try clear c23
            try clear c23b0
            try clear c24
            try clear c25
            try clear c25b0
            try clear c26
            try clear c26b0
            try clear hx189_0
            try clear hx189_1
            try clear hx190_0
            try clear hx190_1
            try clear hx191_0
            try clear hx193_0
            try clear hx193_1
            try clear hx194_0
            try clear hx194_1
            try clear hx195_0
            try clear p1
            try clear p18
            try clear p189
            try clear p19
            try clear p190
            try clear p191
            try clear p193
            try clear p194
            try clear p195
            try clear p2
            try clear p6
            try clear q1
            try clear q18
            try clear q189
            try clear q19
            try clear q190
            try clear q191
            try clear q193
            try clear q194
            try clear q195
            obtain ⟨kq, x13_23, rfl, HA, HJ23, HO_9, HO_10, HB⟩ := hcut
            cases kq with
            | zero => exact absurd HA.out (by simp [ductusref11_Of.j2])
            | succ kj23 =>
              have H := HA.out
              clear HA
              simp only [ductusref11_Of.j2] at H
              replace H := Option.bind_eq_some_iff.mp H
              obtain ⟨t197, A280, H⟩ := H
              replace H : (if x12_14 = x13_23 then (ductusref11_Of.j3 kj23 l0 a1 a2 a3 x9_1 t184 x11_1 x12_14) else (ductusref11_Of.j3 kj23 l0 a1 a2 a3 x9_1 t184 x11_1 t197)) = some r := H
              have A28 := Aside0.mk A280
              clear A280
              have HC29 := Aside0.mk H
              clear H
              go_upto_if 70 with (first | ((with_reducible refine gate_callee (f := 19) rfl ?_); refine goesL_ (some 67) rfl rfl Try.func19 (by kernel_rfl) rfl #[.int .i64 a1] rfl (by (try simp only [List.map_toArray, List.map_cons, List.map_nil]); first | done | rfl | (simp only [List.length_drop, List.length_take]; rfl)) ?_; (with_reducible refine (ductusref08_Dir.calls a1 t197 _ A28.out).mono ?_); rintro e w' ⟨rfl, ⟨nd, rfl⟩⟩; refine ⟨_, rfl, ?_⟩))
              (try simp only [Act.put, List.setIfInBounds_toArray, List.set_cons_zero, List.set_cons_succ])
              go_cut [14] (fun v14 wc => ∃ (kq : Nat) (x14_28 : Int), v14 = .int .i64 x14_28 ∧ Aside0 (ductusref11_Of.j3 kq l0 a1 a2 a3 x9_1 t184 x11_1 x14_28 = some r) ∧ Aside0 (kq ≤ kj23) ∧ Aside0 (Kd.R (Kd.int .i64) 3 wc w.heap.size (fun _ => True) v182 x9_1) ∧ Aside0 (Kd.R k38 38 wc w.heap.size (fun _ => True) (.slice (some ad189) t184.length co16) t184) ∧ Aside0 (Below w.heap.size w wc))
              case first =>
                have H := HC29.out
                clear HC29
                by_cases c30 : x12_14 = x13_23
                rotate_left
                · rw [if_neg c30] at H
                  have c30b0 : (x12_14 == x13_23) = false := beq_eq_false_iff_ne.mpr c30
                  have c30b1 : (x12_14 != x13_23) = true := bne_iff_ne.mpr c30
                  (first | rw [c30b0] | (simp only [i64_w, i32_w]; rw [c30b0]) | skip)
                  have H' := Aside0.mk H
                  clear H
                  go_wp2
                  go_meet
                  case rel => exact ⟨_, (t197), (by first | rfl | (simp; done) | (simp [*]; done)), H', ⟨by have := HK1.out; have := HJ14.out; have := HJ23.out; first | omega | exact Nat.le_refl _⟩, ⟨by (with_reducible repeat (first | apply Kd.R_alloc | apply Kd.R_drewN | apply Kd.R_drew)); exact HO_9.out⟩, ⟨by (with_reducible repeat (first | apply Kd.R_alloc | apply Kd.R_drewN | apply Kd.R_drew)); exact HO_10.out⟩, ⟨by repeat (first | (with_reducible first | exact HB.out | apply below_alloc | apply pw_below_drewN | apply below_drew1) | exact HB.out)⟩⟩
                rw [if_pos c30] at H
                have c30b0 : (x12_14 == x13_23) = true := beq_iff_eq.mpr c30
                have c30b1 : (x12_14 != x13_23) = false := bne_eq_false_iff_eq.mpr c30
                clear c30
                (first | rw [c30b0] | (simp only [i64_w, i32_w]; rw [c30b0]) | skip)
                have H' := Aside0.mk H
                clear H
                go_wp2
                go_meet
                case rel => exact ⟨_, (x12_14), (by first | rfl | (simp; done) | (simp [*]; done)), H', ⟨by have := HK1.out; have := HJ14.out; have := HJ23.out; first | omega | exact Nat.le_refl _⟩, ⟨by (with_reducible repeat (first | apply Kd.R_alloc | apply Kd.R_drewN | apply Kd.R_drew)); exact HO_9.out⟩, ⟨by (with_reducible repeat (first | apply Kd.R_alloc | apply Kd.R_drewN | apply Kd.R_drew)); exact HO_10.out⟩, ⟨by repeat (first | (with_reducible first | exact HB.out | apply below_alloc | apply pw_below_drewN | apply below_drew1) | exact HB.out)⟩⟩
              case rest =>
                clear HC29
                try clear c1
                try clear p1
                try clear q1
                try clear hx1
                try clear c2
                try clear p2
                try clear c3
                try clear c5
                try clear p6
                try clear c10
                try clear c11
                try clear c11b0
                try clear c13
                try clear c14
                try clear c14b0
                try clear c17
                try clear c17b0
                try clear p18
                try clear q18
                try clear hx18
                try clear c19
                try clear c19b0
                try clear p19
                try clear q19
                try clear hx19
                try clear c20
                try clear c20b0
                try clear c22
                try clear c22b0
                try clear c23
                try clear c23b0
                try clear c24
                try clear c25
                try clear c25b0
                try clear c26
                try clear c26b0
                try clear c30
                try clear c30b0
                try clear c30b1
                try clear hx189_0
                try clear hx189_1
                try clear hx190_0
                try clear hx190_1
                try clear hx191_0
                try clear hx193_0
                try clear hx193_1
                try clear hx194_0
                try clear hx194_1
                try clear hx195_0
                try clear p1
                try clear p18
                try clear p189
                try clear p19
                try clear p190
                try clear p191
                try clear p193
                try clear p194
                try clear p195
                try clear p2
                try clear p6
                try clear q1
                try clear q18
                try clear q189
                try clear q19
                try clear q190
                try clear q191
                try clear q193
                try clear q194
                try clear q195
                obtain ⟨kq, x14_28, rfl, HA, HJ28, HO_9, HO_10, HB⟩ := hcut
                cases kq with
                | zero => exact absurd HA.out (by simp [ductusref11_Of.j3])
                | succ kj28 =>
                  have H := HA.out
                  clear HA
                  simp only [ductusref11_Of.j3] at H
                  by_cases c31 : 0 ≤ x11_1
                  rotate_left
                  · rw [if_neg c31] at H
                    exact absurd H (by simp)
                  rw [if_pos c31] at H
                  have c31b0 : decide (0 ≤ x11_1) = true := decide_eq_true c31
                  clear c31
                  by_cases c32 : x11_1 < (t184.length : Int)
                  rotate_left
                  · rw [if_neg c32] at H
                    exact absurd H (by simp)
                  rw [if_pos c32] at H
                  have c32b0 : decide (x11_1 < (t184.length : Int)) = true := decide_eq_true c32
                  clear c32
                  have H' := Aside0.mk H
                  clear H
                  have p198 : 0 ≤ (x11_1 : Int) := of_decide_eq_true (by first | (with_reducible assumption) | assumption)
                  have q198 : x11_1 < (t184.length : Int) := of_decide_eq_true (by first | (with_reducible assumption) | assumption)
                  obtain ⟨ad198, e198, hx198_0, hx198_1⟩ := at_T38 (Kd.R_reads' HO_10.out).2.2 x11_1 p198 q198
                  obtain rfl : ad189 = ad198 := (by injection e198)
                  replace p198 := eq_true p198
                  replace q198 := eq_true q198
                  go_wp2
                  go_loopg [15] kj28 (fun kq v15 w' => ∃ (x9_5 : List Int) (x15_5 : Int), v15 = .int .i64 x15_5 ∧ Aside0 (ductusref11_Of.l1 kq l0 a1 a2 a3 x9_5 t184 x11_1 x14_28 x15_5 = some r) ∧ Aside0 (kq ≤ kj28) ∧ Aside0 (Kd.R (Kd.int .i64) 3 w' w.heap.size (fun _ => True) v182 x9_5) ∧ Aside0 (Kd.R k38 38 w' w.heap.size (fun _ => True) (.slice (some ad189) t184.length co16) t184) ∧ Aside0 (Below w.heap.size w w'))
                  case atStart => exact ⟨(x9_1), ((rd_T38 t184 x11_1).f0), (by first | rfl | (simp; done) | (simp [*]; done)), H', ⟨Nat.le_refl _⟩, ⟨by (with_reducible repeat (first | apply Kd.R_alloc | apply Kd.R_drewN | apply Kd.R_drew)); exact HO_9.out⟩, ⟨by (with_reducible repeat (first | apply Kd.R_alloc | apply Kd.R_drewN | apply Kd.R_drew)); exact HO_10.out⟩, ⟨by repeat (first | (with_reducible first | exact HB.out | apply below_alloc | apply pw_below_drewN | apply below_drew1) | exact HB.out)⟩⟩
                  case round =>
                    clear H'
                    try clear c1
                    try clear p1
                    try clear q1
                    try clear hx1
                    try clear c2
                    try clear p2
                    try clear c3
                    try clear c5
                    try clear p6
                    try clear c10
                    try clear c11
                    try clear c11b0
                    try clear c13
                    try clear c14
                    try clear c14b0
                    try clear c17
                    try clear c17b0
                    try clear p18
                    try clear q18
                    try clear hx18
                    try clear c19
                    try clear c19b0
                    try clear p19
                    try clear q19
                    try clear hx19
                    try clear c20
                    try clear c20b0
                    try clear c22
                    try clear c22b0
                    try clear c23
                    try clear c23b0
                    try clear c24
                    try clear c25
                    try clear c25b0
                    try clear c26
                    try clear c26b0
                    try clear c30
                    try clear c30b0
                    try clear c30b1
                    try clear c31
                    try clear c31b0
                    try clear c32
                    try clear c32b0
                    try clear hx189_0
                    try clear hx189_1
                    try clear hx190_0
                    try clear hx190_1
                    try clear hx191_0
                    try clear hx193_0
                    try clear hx193_1
                    try clear hx194_0
                    try clear hx194_1
                    try clear hx195_0
                    try clear hx198_0
                    try clear hx198_1
                    try clear p1
                    try clear p18
                    try clear p189
                    try clear p19
                    try clear p190
                    try clear p191
                    try clear p193
                    try clear p194
                    try clear p195
                    try clear p198
                    try clear p2
                    try clear p6
                    try clear q1
                    try clear q18
                    try clear q189
                    try clear q19
                    try clear q190
                    try clear q191
                    try clear q193
                    try clear q194
                    try clear q195
                    try clear q198
                    obtain ⟨x9_5, x15_5, rfl, HA, HK5, HO_9, HO_10, HB⟩ := hrel
                    cases gk with
                    | zero => exact absurd HA.out (by simp [ductusref11_Of.l1])
                    | succ k5 =>
                      have H := HA.out
                      clear HA
                      simp only [ductusref11_Of.l1] at H
                      by_cases c33 : 0 ≤ x11_1
                      rotate_left
                      · rw [if_neg c33] at H
                        exact absurd H (by simp)
                      rw [if_pos c33] at H
                      have c33b0 : decide (0 ≤ x11_1) = true := decide_eq_true c33
                      clear c33
                      by_cases c34 : x11_1 < (t184.length : Int)
                      rotate_left
                      · rw [if_neg c34] at H
                        exact absurd H (by simp)
                      rw [if_pos c34] at H
                      have c34b0 : decide (x11_1 < (t184.length : Int)) = true := decide_eq_true c34
                      clear c34
                      by_cases c35 : x15_5 < ((rd_T38 t184 x11_1).f1)
                      rotate_left
                      · rw [if_neg c35] at H
                        have c35b0 : decide (x15_5 < ((rd_T38 t184 x11_1).f1)) = false := decide_eq_false c35
                        clear c35
                        have H' := Aside0.mk H
                        clear H
                        have p199 : 0 ≤ (x11_1 : Int) := of_decide_eq_true (by first | (with_reducible assumption) | assumption)
                        have q199 : x11_1 < (t184.length : Int) := of_decide_eq_true (by first | (with_reducible assumption) | assumption)
                        obtain ⟨ad199, e199, hx199_0, hx199_1⟩ := at_T38 (Kd.R_reads' HO_10.out).2.2 x11_1 p199 q199
                        obtain rfl : ad189 = ad199 := (by injection e199)
                        replace p199 := eq_true p199
                        replace q199 := eq_true q199
                        go_wp2
                        go_roundg k5
                        case measure => have := HK1.out; have := HJ14.out; have := HJ23.out; have := HJ28.out; have := HK5.out; omega
                        case rel => exact ⟨(x9_5), (wrap64 (x11_1 + 1)), (by first | rfl | (simp; done) | (simp [*]; done)), H', ⟨by have := HK1.out; have := HJ14.out; have := HJ23.out; have := HJ28.out; have := HK5.out; omega⟩, ⟨by (with_reducible repeat (first | apply Kd.R_alloc | apply Kd.R_drewN | apply Kd.R_drew)); exact HO_9.out⟩, ⟨by (with_reducible repeat (first | apply Kd.R_alloc | apply Kd.R_drewN | apply Kd.R_drew)); exact HO_10.out⟩, ⟨by repeat (first | (with_reducible first | exact HB.out | apply below_alloc | apply pw_below_drewN | apply below_drew1) | exact HB.out)⟩⟩
                      rw [if_pos c35] at H
                      have c35b0 : decide (x15_5 < ((rd_T38 t184 x11_1).f1)) = true := decide_eq_true c35
                      clear c35
                      by_cases c36 : 0 ≤ x15_5
                      rotate_left
                      · rw [if_neg c36] at H
                        exact absurd H (by simp)
                      rw [if_pos c36] at H
                      have c36b0 : decide (0 ≤ x15_5) = true := decide_eq_true c36
                      clear c36
                      by_cases c37 : x15_5 < (x9_5.length : Int)
                      rotate_left
                      · rw [if_neg c37] at H
                        exact absurd H (by simp)
                      rw [if_pos c37] at H
                      have c37b0 : decide (x15_5 < (x9_5.length : Int)) = true := decide_eq_true c37
                      clear c37
                      obtain ⟨y200, hy200⟩ : ∃ y_ : List Int, y_ = (x9_5.set (x15_5 : Int).toNat x14_28) := ⟨_, rfl⟩
                      replace H : (ductusref11_Of.l1 k5 l0 a1 a2 a3 y200 t184 x11_1 x14_28 (wrap64 (x15_5 + 1))) = some r := by first | (rw [hy200]; with_reducible exact H) | (have H2_ := (Option.bind_some _ _).symm.trans H; rw [hy200]; with_reducible exact H2_) | (have H2_ := (Option.bind_some _ _).symm.trans H; with_reducible exact H2_) | with_reducible exact H | (rw [hy200]; exact H) | exact H
                      have Ny200 := Aside0.mk hy200
                      clear hy200
                      have H' := Aside0.mk H
                      clear H
                      have p199 : 0 ≤ (x11_1 : Int) := of_decide_eq_true (by first | (with_reducible assumption) | assumption)
                      have q199 : x11_1 < (t184.length : Int) := of_decide_eq_true (by first | (with_reducible assumption) | assumption)
                      obtain ⟨ad199, e199, hx199_0, hx199_1⟩ := at_T38 (Kd.R_reads' HO_10.out).2.2 x11_1 p199 q199
                      obtain rfl : ad189 = ad199 := (by injection e199)
                      replace p199 := eq_true p199
                      replace q199 := eq_true q199
                      have p38 : 0 ≤ (x15_5 : Int) := of_decide_eq_true (by first | (with_reducible assumption) | assumption)
                      have q38 : (x15_5 : Int) < ((x9_5.length : Int) : Int) := of_decide_eq_true (by first | (with_reducible assumption) | assumption)
                      obtain ⟨go38, co38, eo38, gb38, gl38, cl38, HG38⟩ := Kd.R_form HO_9.out (by omega)
                      (first | cases eo38 | (injection eo38 with ea_ en_ ec_; (first | subst ea_ | (injection ea_ with ea_; subst ea_)); subst ec_; clear en_))
                      have GB38 := Aside0.mk gb38
                      have GG38 := Aside0.mk HG38
                      clear gb38 gl38 HG38
                      obtain ⟨hx38_0, hf38_0⟩ := Kd.R_celln 0 HO_9.out (x15_5 : Int) p38 q38
                      replace p38 := eq_true p38
                      replace q38 := eq_true q38
                      have HP39 := Kd.R_putg HO_9.out (x15_5 : Int) x14_28
                      go_wp2_with (first | ((with_reducible refine gate_store (t := 3) (p := 89) rfl ?_); refine store_event (t := 3) (p := 89) (v := ?vo_w40) (w1 := (wr.setCell ⟨go38, (x15_5 : Int).toNat, none⟩ (.int .i64 x14_28))) ?hg ?ho ?hn ?hr ?_; (case ho => rfl); (case hg => rfl); (case hn => rfl); (case hr => first | (go_simp; done) | (go_simp; rfl)); intro w40 hw; have hg : wr.grownBy w40 (some go38) := (by rw [hw]; exact HP39.2); have hp_ : Kd.R (Kd.int .i64) 3 w40 w.heap.size (fun _ => True) (.slice (some ⟨go38, 0, none⟩) x9_5.length co38) y200 := (by rw [hw, Ny200.out]; exact HP39.1); clear HP39; have n0_ := Aside0.mk (hp_); have n1_ := Aside0.mk (Kd.R_over' (v := (.slice (some ⟨go38, 0, none⟩) x9_5.length co38)) (by (with_reducible repeat (first | apply Kd.R_alloc | apply Kd.R_drewN | apply Kd.R_drew)); exact HO_10.out) (Kd.R_typed HO_9.out) (by decide) hg); have n2_ := Aside0.mk ((by rw [hw]; exact below_set (HB.out) GB38.out : Below w.heap.size w w40)); clear HO_9; clear HO_10; clear HB; have HO_9 := n0_; have HO_10 := n1_; have HB := n2_; clear n0_ n1_ n2_; clear hg hw hp_))
                      go_roundg k5
                      case measure => have := HK1.out; have := HJ14.out; have := HJ23.out; have := HJ28.out; have := HK5.out; omega
                      case rel => exact ⟨(y200), (wrap64 (x15_5 + 1)), (by first | rfl | (simp; done) | (simp [*]; done)), H', ⟨by have := HK1.out; have := HJ14.out; have := HJ23.out; have := HJ28.out; have := HK5.out; omega⟩, ⟨by (with_reducible repeat (first | apply Kd.R_alloc | apply Kd.R_drewN | apply Kd.R_drew)); exact HO_9.out⟩, ⟨by (with_reducible repeat (first | apply Kd.R_alloc | apply Kd.R_drewN | apply Kd.R_drew)); exact HO_10.out⟩, ⟨by repeat (first | (with_reducible first | exact HB.out | apply below_alloc | apply pw_below_drewN | apply below_drew1) | exact HB.out)⟩⟩

end Go.Proofs.Ytcmndocfadhonaa.P
