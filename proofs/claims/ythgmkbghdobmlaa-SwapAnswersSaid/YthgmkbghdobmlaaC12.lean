/- Texts of this claim put together by a program of its own (Px2, PClass, PCtlK, SPlainSw), what the law does not use left out: each part's statements bear their own conditions. -/
import Derived.Test.YthgmkbghdobmlaaC11
namespace Go.Proofs.Ythgmkbghdobmlaa.P
open Go.RowKit Go.Proofs.YthgmkbghdobmlaaW.PrintWords Go.Proofs.YthgmkbghdobmlaaW.PrintLast Go.Proofs.YthgmkbghdobmlaaW.PrintMore
attribute [local go_sem] min2_int min_two
set_option linter.unusedVariables false
set_option linter.unusedSimpArgs false

-- BY HAND: function 68 (class_reaches)

def class_Of.f (k : Nat) (a0 : Int) : Option (Int) := (class_reaches.f).bind fun t111 => ((class_find.f k t111 a0).bind fun t114 => (some t114))
theorem class_Of.mono : ∀ a0 k, LeO (class_Of.f k a0) (class_Of.f (k + 1) a0) := by
  intro a0 k
  unfold class_Of.f
  repeat' first
      | (with_reducible exact class_find.mono _ _ _)
      | (with_reducible exact LeO.refl _)
      | (with_reducible exact LeO.none _)
      | (with_reducible refine LeO.ite ?_ ?_)
      | (with_reducible refine LeO.bind ?_ (fun _ => ?_))
      | exact class_find.mono _ _ _
      | exact LeO.none _
      | refine LeO.ite ?_ ?_
      | refine LeO.bind ?_ (fun _ => ?_)
set_option maxHeartbeats 8000000 in
set_option maxRecDepth 100000 in
theorem class_Of.calls (k : Nat) (a0 : Int) (r : Int) (w : World) (h : class_Of.f k a0 = some r) :
    Calls Try.prog 50 #[.int .i64 a0] w fun e w' => e = .returned (.int .i64 r) ∧ Below w.heap.size w w' := by
  have HB := Aside0.mk (Below.refl w.heap.size w)
  have H : ((class_reaches.f).bind fun t111 => ((class_find.f k t111 a0).bind fun t114 => (some t114))) = some r := h
  clear h
  replace H := Option.bind_eq_some_iff.mp H
  obtain ⟨t111, A20, H⟩ := H
  replace H : ((class_find.f k t111 a0).bind fun t114 => (some t114)) = some r := H
  have A2 := Aside0.mk A20
  clear A20
  replace H := Option.bind_eq_some_iff.mp H
  obtain ⟨t114, A30, H⟩ := H
  replace H : (some t114) = some r := H
  have A3 := Aside0.mk A30
  clear A30
  obtain rfl := Option.some.inj H
  go_enter Try.func50, Try.ntmps50
  go_wp2_with (first | ((with_reducible refine gate_callee (f := 68) rfl ?_); refine goesL_ (some 3) rfl rfl Try.func68 (by kernel_rfl) rfl #[] rfl (by (try simp only [List.map_toArray, List.map_cons, List.map_nil]); first | done | rfl | (simp only [List.length_drop, List.length_take]; rfl)) ?_; (with_reducible refine (class_reaches.calls  t111 _ A2.out).mono ?_); rintro e w4 ⟨v112, rfl, ho0, hb⟩; refine ⟨_, rfl, ?_⟩; have n0_ := Aside0.mk (Kd.R_lower ho0 (below_size (by repeat (first | (with_reducible first | exact HB.out | apply below_alloc | apply pw_below_drewN | apply below_drew1) | exact HB.out)))); have n1_ := Aside0.mk (below_step (by repeat (first | (with_reducible first | exact HB.out | apply below_alloc | apply pw_below_drewN | apply below_drew1) | exact HB.out)) hb); clear HB; have HO113 := n0_; have HB := n1_; clear n0_ n1_; (try clear hb); (try clear hb2); (try clear hk); (try clear hi); (try clear ho0); obtain ⟨Ao5, co5, eo5⟩ := Kd.R_slice HO113.out; subst eo5) | ((with_reducible refine gate_callee (f := 67) rfl ?_); refine goesL_ (some 5) rfl rfl Try.func67 (by kernel_rfl) rfl #[.slice Ao5 t111.length co5, .int .i64 a0] rfl (by (try simp only [List.map_toArray, List.map_cons, List.map_nil]); first | done | rfl | (simp only [List.length_drop, List.length_take]; rfl)) ?_; (with_reducible refine (class_find.calls k _ _ t111 a0 t114 _ ?side1 ?side2 A3.out).mono ?_); (case side1 => repeat (first | exact (Kd.R_reads' HO113.out).2.2 | (with_reducible refine Kd.C_alloc ?_ _) | (with_reducible refine Kd.C_drewN ?_ _) | (with_reducible refine Kd.C_drew ?_))); (case side2 => exact (Kd.R_reads' HO113.out).2.1); rintro e w6 ⟨rfl, hb⟩; refine ⟨_, rfl, ?_⟩; have n0_ := Aside0.mk (Kd.R_below (by (with_reducible repeat (first | apply Kd.R_alloc | apply Kd.R_drewN | apply Kd.R_drew)); exact HO113.out) hb); have n1_ := Aside0.mk (below_step (by repeat (first | (with_reducible first | exact HB.out | apply below_alloc | apply pw_below_drewN | apply below_drew1) | exact HB.out)) hb); clear HO113; clear HB; have HO113 := n0_; have HB := n1_; clear n0_ n1_; (try clear hb); (try clear hb2); (try clear hk); (try clear hi)))
  go_ret
  exact ⟨by first | rfl | (simp [errW_none, errW_some] <;> rfl) | (simp [*, errW_none, errW_some] <;> rfl), by repeat (first | (with_reducible first | exact HB.out | apply below_alloc | apply pw_below_drewN | apply below_drew1) | exact HB.out)⟩

def class_in.f (a0 : Int) (a1 : Int) : Option (Bool) := if a0 ≥ 0 then (if a0 ≤ 22 then (if 0 ≤ a0 then (some ((Go.bits .and .u64 (shr .u64 a1 a0) 1) == 1)) else (none)) else (some false)) else (some false)
set_option maxHeartbeats 8000000 in
set_option maxRecDepth 100000 in
theorem class_in.calls (a0 : Int) (a1 : Int) (r : Bool) (w : World) (h : class_in.f a0 a1 = some r) :
    Calls Try.prog 69 #[.int .i64 a0, .int .u64 a1] w fun e w' => e = .returned (.bool r) ∧ Drawn0 w w' := by
  have H : (if a0 ≥ 0 then (if a0 ≤ 22 then (if 0 ≤ a0 then (some ((Go.bits .and .u64 (shr .u64 a1 a0) 1) == 1)) else (none)) else (some false)) else (some false)) = some r := h
  clear h
  by_cases c3 : a0 ≥ 0
  rotate_left
  · rw [if_neg c3] at H
    have c3b0 : decide (0 ≤ a0) = false := decide_eq_false c3
    clear c3
    obtain rfl := Option.some.inj H
    go_enter Try.func69, Try.ntmps69
    go_wp2
    go_ret
    exact ⟨by first | rfl | (simp; done) | (simp [*]; done), by repeat (first | exact Drawn0.refl _ | apply Drawn0.step)⟩
  rw [if_pos c3] at H
  have c3b0 : decide (0 ≤ a0) = true := decide_eq_true c3
  clear c3
  by_cases c4 : a0 ≤ 22
  rotate_left
  · rw [if_neg c4] at H
    have c4b0 : decide (a0 ≤ 22) = false := decide_eq_false c4
    clear c4
    obtain rfl := Option.some.inj H
    go_enter Try.func69, Try.ntmps69
    go_wp2
    go_ret
    exact ⟨by first | rfl | (simp; done) | (simp [*]; done), by repeat (first | exact Drawn0.refl _ | apply Drawn0.step)⟩
  rw [if_pos c4] at H
  have c4b0 : decide (a0 ≤ 22) = true := decide_eq_true c4
  clear c4
  by_cases c5 : 0 ≤ a0
  rotate_left
  · rw [if_neg c5] at H
    exact absurd H (by simp)
  rw [if_pos c5] at H
  have c5b0 := eq_true c5
  have c5b1 : decide (0 ≤ a0) = true := decide_eq_true c5
  clear c5
  obtain ⟨ji6, hji6⟩ : ∃ j_ : Int, (shr .u64 a1 a0) = j_ := ⟨_, rfl⟩
  replace H : (some ((Go.bits .and .u64 (ji6) 1) == 1)) = some r := by first | (rw [hji6] at H; exact H) | (simp only [hji6] at H ⊢; exact H)
  have hji6_ : (a1 / 2 ^ min a0.toNat 64) = ji6 := hji6
  have hji6z : a0 ≤ 64 → (a1 / 2 ^ a0.toNat) = ji6 := shr_small hji6
  obtain rfl := Option.some.inj H
  go_enter Try.func69, Try.ntmps69
  go_wp2
  go_ret
  exact ⟨by first | rfl | (simp; done) | (simp only [← hji6] <;> (first | rfl | simp)) | (simp [*]; done), by repeat (first | exact Drawn0.refl _ | apply Drawn0.step)⟩

def class_set.l0 : Nat → Int → List Int → Int → Int → Option (Int)
  | 0, _, _, _, _ => none
  | k + 1, x2, x5, x6, x7 => if x7 < x6 then (if 0 ≤ x7 then (if x7 < (x5.length : Int) then (if 0 ≤ (rd x5 x7) then (class_set.l0 k (Go.bits .or .u64 x2 (shl .u64 1 (rd x5 x7))) x5 x6 (wrap64 (x7 + 1))) else (none)) else (none)) else (none)) else (some x2)
def class_set.f (k : Nat) (l0 : List Int) : Option (Int) := class_set.l0 k 0 l0 (l0.length : Int) 0
theorem class_set.mono_l : ∀ k, (∀ y0 y1 y2 y3, LeO (class_set.l0 k y0 y1 y2 y3) (class_set.l0 (k + 1) y0 y1 y2 y3))
  | 0 => fun _ _ _ _ r h => by simp [class_set.l0] at h
  | k + 1 => by
    have ih0 := class_set.mono_l k
    · intro y0 y1 y2 y3
      unfold class_set.l0
      repeat' first
      | (with_reducible exact ih0 _ _ _ _)
      | (with_reducible exact LeO.refl _)
      | (with_reducible exact LeO.none _)
      | (with_reducible refine LeO.ite ?_ ?_)
      | (with_reducible refine LeO.bind ?_ (fun _ => ?_))
      | exact ih0 _ _ _ _
      | exact LeO.none _
      | refine LeO.ite ?_ ?_
      | refine LeO.bind ?_ (fun _ => ?_)
theorem class_set.mono : ∀ a0 k, LeO (class_set.f k a0) (class_set.f (k + 1) a0) := by
  intro a0 k
  have ih0 := class_set.mono_l k
  unfold class_set.f
  repeat' first
      | (with_reducible exact ih0 _ _ _ _)
      | (with_reducible exact LeO.refl _)
      | (with_reducible exact LeO.none _)
      | (with_reducible refine LeO.ite ?_ ?_)
      | (with_reducible refine LeO.bind ?_ (fun _ => ?_))
      | exact ih0 _ _ _ _
      | exact LeO.none _
      | refine LeO.ite ?_ ?_
      | refine LeO.bind ?_ (fun _ => ?_)
set_option maxHeartbeats 8000000 in
set_option maxRecDepth 100000 in
theorem class_set.calls (k : Nat) (A0 : Option Addr) (c0 : Nat) (l0 : List Int) (r : Int) (w : World) (hr0 : Kd.C (Kd.int .i64) w A0 l0.length l0) (hc0 : l0.length ≤ c0) (h : class_set.f k l0 = some r) :
    Calls Try.prog 70 #[.slice A0 l0.length c0] w fun e w' => e = .returned (.int .u64 r) ∧ Drawn0 w w' := by
  have HR0 := Aside0.mk hr0
  have HC0 := Aside0.mk hc0
  clear hr0 hc0
  have H : (class_set.l0 k 0 l0 (l0.length : Int) 0) = some r := h
  clear h
  have H' := Aside0.mk H
  clear H
  go_enter Try.func70, Try.ntmps70
  go_wp2
  go_loopg [2, 7] k (fun kq v2 v7 w' => ∃ (x2_1 : Int) (x7_1 : Int), v2 = .int .u64 x2_1 ∧ v7 = .int .i64 x7_1 ∧ Aside0 (class_set.l0 kq x2_1 l0 (l0.length : Int) x7_1 = some r) ∧ Aside0 (kq ≤ k) ∧ Drawn0 w w')
  case atStart => exact ⟨(0), (0), (by first | rfl | (simp; done) | (simp [*]; done)), (by first | rfl | (simp; done) | (simp [*]; done)), H', ⟨Nat.le_refl _⟩, by repeat (first | exact Drawn0.refl _ | apply Drawn0.step)⟩
  case round =>
    clear H'
    obtain ⟨x2_1, x7_1, rfl, rfl, HA, HK1, ⟨m1, rfl⟩⟩ := hrel
    cases gk with
    | zero => exact absurd HA.out (by simp [class_set.l0])
    | succ k1 =>
      have H := HA.out
      clear HA
      simp only [class_set.l0] at H
      by_cases c2 : x7_1 < (l0.length : Int)
      rotate_left
      · rw [if_neg c2] at H
        have c2b0 : decide (x7_1 < (l0.length : Int)) = false := decide_eq_false c2
        clear c2
        obtain rfl := Option.some.inj H
        go_wp2
        go_ret
        exact ⟨by first | rfl | (simp; done) | (simp [*]; done), by repeat (first | exact Drawn0.refl _ | apply Drawn0.step)⟩
      rw [if_pos c2] at H
      have c2b0 : decide (x7_1 < (l0.length : Int)) = true := decide_eq_true c2
      clear c2
      by_cases c3 : 0 ≤ x7_1
      rotate_left
      · rw [if_neg c3] at H
        exact absurd H (by simp)
      rw [if_pos c3] at H
      have c3b0 : decide (0 ≤ x7_1) = true := decide_eq_true c3
      clear c3
      by_cases c4 : x7_1 < (l0.length : Int)
      rotate_left
      · rw [if_neg c4] at H
        exact absurd H (by simp)
      rw [if_pos c4] at H
      have c4b0 : decide (x7_1 < (l0.length : Int)) = true := decide_eq_true c4
      clear c4
      by_cases c5 : 0 ≤ (rd l0 x7_1)
      rotate_left
      · rw [if_neg c5] at H
        exact absurd H (by simp)
      rw [if_pos c5] at H
      have c5b0 := eq_true c5
      have c5b1 : decide (0 ≤ (rd l0 x7_1)) = true := decide_eq_true c5
      clear c5
      obtain ⟨ji6, hji6⟩ : ∃ j_ : Int, (shl .u64 1 (rd l0 x7_1)) = j_ := ⟨_, rfl⟩
      replace H : (class_set.l0 k1 (Go.bits .or .u64 x2_1 (ji6)) l0 (l0.length : Int) (wrap64 (x7_1 + 1))) = some r := by first | (rw [hji6] at H; exact H) | (simp only [hji6] at H ⊢; exact H)
      have hji6_ : (IntKind.u64.wrap (1 * 2 ^ min (rd l0 x7_1).toNat 64)) = ji6 := hji6
      have hji6z : (rd l0 x7_1) ≤ 64 → (IntKind.u64.wrap (1 * 2 ^ (rd l0 x7_1).toNat)) = ji6 := shl_small hji6
      have hji6u : (IntKind.u64.wrap (2 ^ min (rd l0 x7_1).toNat 64)) = ji6 := by have h_ := hji6_; rw [Int.one_mul] at h_; exact h_
      have hji6v : (rd l0 x7_1) ≤ 64 → (IntKind.u64.wrap (2 ^ (rd l0 x7_1).toNat)) = ji6 := fun hle_ => by have h_ := hji6z hle_; rw [Int.one_mul] at h_; exact h_
      have H' := Aside0.mk H
      clear H
      have p115 : 0 ≤ (x7_1 : Int) := of_decide_eq_true (by first | (with_reducible assumption) | assumption)
      have q115 : x7_1 < (l0.length : Int) := of_decide_eq_true (by first | (with_reducible assumption) | assumption)
      obtain ⟨ad115, e115, hx115_0⟩ := Kd.at_int HR0.out x7_1 p115 q115
      cases e115
      replace p115 := eq_true p115
      replace q115 := eq_true q115
      go_wp2
      go_roundg k1
      case measure => have := HK1.out; omega
      case rel => exact ⟨(Go.bits .or .u64 x2_1 (ji6)), (wrap64 (x7_1 + 1)), (by first | rfl | (simp; done) | (simp only [← hji6] <;> (first | rfl | simp)) | (simp [*]; done)), (by first | rfl | (simp; done) | (simp [*]; done)), H', ⟨by have := HK1.out; omega⟩, by repeat (first | exact Drawn0.refl _ | apply Drawn0.step)⟩

def class_Opens.f (k : Nat) (a0 : Int) : Option (Bool) := (class_set.f k (([19, 20, 21] : List Int))).bind fun t119 => ((class_in.f a0 t119).bind fun t120 => (some t120))
theorem class_Opens.mono : ∀ a0 k, LeO (class_Opens.f k a0) (class_Opens.f (k + 1) a0) := by
  intro a0 k
  unfold class_Opens.f
  repeat' first
      | (with_reducible exact class_set.mono _ _)
      | (with_reducible exact LeO.refl _)
      | (with_reducible exact LeO.none _)
      | (with_reducible refine LeO.ite ?_ ?_)
      | (with_reducible refine LeO.bind ?_ (fun _ => ?_))
      | exact class_set.mono _ _
      | exact LeO.none _
      | refine LeO.ite ?_ ?_
      | refine LeO.bind ?_ (fun _ => ?_)
set_option maxHeartbeats 8000000 in
set_option maxRecDepth 100000 in
theorem class_Opens.calls (k : Nat) (a0 : Int) (r : Bool) (w : World) (h : class_Opens.f k a0 = some r) :
    Calls Try.prog 51 #[.int .i64 a0] w fun e w' => e = .returned (.bool r) ∧ Below w.heap.size w w' := by
  have HB := Aside0.mk (Below.refl w.heap.size w)
  have H : ((class_set.f k (([19, 20, 21] : List Int))).bind fun t119 => ((class_in.f a0 t119).bind fun t120 => (some t120))) = some r := h
  clear h
  obtain ⟨y116, hy116⟩ : ∃ y_ : List Int, y_ = (([19, 20, 21] : List Int)) := ⟨_, rfl⟩
  replace H : ((class_set.f k y116).bind fun t119 => ((class_in.f a0 t119).bind fun t120 => (some t120))) = some r := by first | (rw [hy116]; with_reducible exact H) | (have H2_ := (Option.bind_some _ _).symm.trans H; rw [hy116]; with_reducible exact H2_) | (have H2_ := (Option.bind_some _ _).symm.trans H; with_reducible exact H2_) | with_reducible exact H | (rw [hy116]; exact H) | exact H
  have Ny116 := Aside0.mk hy116
  clear hy116
  replace H := Option.bind_eq_some_iff.mp H
  obtain ⟨t119, A20, H⟩ := H
  replace H : ((class_in.f a0 t119).bind fun t120 => (some t120)) = some r := H
  have A2 := Aside0.mk A20
  clear A20
  replace H := Option.bind_eq_some_iff.mp H
  obtain ⟨t120, A30, H⟩ := H
  replace H : (some t120) = some r := H
  have A3 := Aside0.mk A30
  clear A30
  obtain rfl := Option.some.inj H
  go_enter Try.func51, Try.ntmps51
  go_wp2_with (first | ((with_reducible refine gate_dst (N := 4) rfl ?_); refine Kd.R_lit (Kd.int .i64) _ 3 ?hg (N := 4) ?hd (xs := ([19, 20, 21] : List Int)) (inner := [.int .i64 19, .int .i64 20, .int .i64 21]) (ok := fun _ => True) (okp := fun _ => True) ?hr ?hp (fun _ hk => hk) trivial (Below.refl _ _) (Nat.le_refl _) (by simp) ?_; (case hd => rfl); (case hg => rfl); (case hr => first | (go_simp; done) | (go_simp; rfl)); (case hp => exact (Reps.one (show Kd.M (Kd.int .i64) _ _ _ 19 [.int .i64 19] from rfl) (Reps.one (show Kd.M (Kd.int .i64) _ _ _ 20 [.int .i64 20] from rfl) (Reps.one (show Kd.M (Kd.int .i64) _ _ _ 21 [.int .i64 21] from rfl) (Reps.none _ _))))); intro v117 w4 ho5 hb hg_ hnew_; clear hg_ hnew_; (first | rw [← Ny116.out] at ho5 | (simp only [Int.reduceToNat] at ho5; rw [← Ny116.out] at ho5)); have n0_ := Aside0.mk (Kd.R_lower ho5 (below_size (by repeat (first | (with_reducible first | exact HB.out | apply below_alloc | apply pw_below_drewN | apply below_drew1) | exact HB.out)))); have n1_ := Aside0.mk (below_step (by repeat (first | (with_reducible first | exact HB.out | apply below_alloc | apply pw_below_drewN | apply below_drew1) | exact HB.out)) hb); clear HB; have HO118 := n0_; have HB := n1_; clear n0_ n1_; clear hb ho5; obtain ⟨Ao6, co6, eo6⟩ := Kd.R_slice HO118.out; subst eo6) | ((with_reducible refine gate_callee (f := 70) rfl ?_); refine goesL_ (some 5) rfl rfl Try.func70 (by kernel_rfl) rfl #[.slice Ao6 y116.length co6] rfl (by (try simp only [List.map_toArray, List.map_cons, List.map_nil]); first | done | rfl | (simp only [List.length_drop, List.length_take]; rfl)) ?_; (with_reducible refine (class_set.calls k _ _ y116 t119 _ ?side1 ?side2 A2.out).mono ?_); (case side1 => repeat (first | exact (Kd.R_reads' HO118.out).2.2 | (with_reducible refine Kd.C_alloc ?_ _) | (with_reducible refine Kd.C_drewN ?_ _) | (with_reducible refine Kd.C_drew ?_))); (case side2 => exact (Kd.R_reads' HO118.out).2.1); rintro e w' ⟨rfl, ⟨nd, rfl⟩⟩; refine ⟨_, rfl, ?_⟩) | ((with_reducible refine gate_callee (f := 69) rfl ?_); refine goesL_ (some 6) rfl rfl Try.func69 (by kernel_rfl) rfl #[.int .i64 a0, .int .u64 t119] rfl (by (try simp only [List.map_toArray, List.map_cons, List.map_nil]); first | done | rfl | (simp only [List.length_drop, List.length_take]; rfl)) ?_; (with_reducible refine (class_in.calls a0 t119 t120 _ A3.out).mono ?_); rintro e w' ⟨rfl, ⟨nd, rfl⟩⟩; refine ⟨_, rfl, ?_⟩))
  go_ret
  exact ⟨by first | rfl | (simp [errW_none, errW_some] <;> rfl) | (simp [*, errW_none, errW_some] <;> rfl), by repeat (first | (with_reducible first | exact HB.out | apply below_alloc | apply pw_below_drewN | apply below_drew1) | exact HB.out)⟩

def class_Out.f (k : Nat) (a0 : Int) : Option (Bool) := (class_set.f k (([14, 15, 16, 17, 18, 9] : List Int))).bind fun t124 => ((class_in.f a0 t124).bind fun t125 => (some t125))
theorem class_Out.mono : ∀ a0 k, LeO (class_Out.f k a0) (class_Out.f (k + 1) a0) := by
  intro a0 k
  unfold class_Out.f
  repeat' first
      | (with_reducible exact class_set.mono _ _)
      | (with_reducible exact LeO.refl _)
      | (with_reducible exact LeO.none _)
      | (with_reducible refine LeO.ite ?_ ?_)
      | (with_reducible refine LeO.bind ?_ (fun _ => ?_))
      | exact class_set.mono _ _
      | exact LeO.none _
      | refine LeO.ite ?_ ?_
      | refine LeO.bind ?_ (fun _ => ?_)
set_option maxHeartbeats 8000000 in
set_option maxRecDepth 100000 in
theorem class_Out.calls (k : Nat) (a0 : Int) (r : Bool) (w : World) (h : class_Out.f k a0 = some r) :
    Calls Try.prog 52 #[.int .i64 a0] w fun e w' => e = .returned (.bool r) ∧ Below w.heap.size w w' := by
  have HB := Aside0.mk (Below.refl w.heap.size w)
  have H : ((class_set.f k (([14, 15, 16, 17, 18, 9] : List Int))).bind fun t124 => ((class_in.f a0 t124).bind fun t125 => (some t125))) = some r := h
  clear h
  obtain ⟨y121, hy121⟩ : ∃ y_ : List Int, y_ = (([14, 15, 16, 17, 18, 9] : List Int)) := ⟨_, rfl⟩
  replace H : ((class_set.f k y121).bind fun t124 => ((class_in.f a0 t124).bind fun t125 => (some t125))) = some r := by first | (rw [hy121]; with_reducible exact H) | (have H2_ := (Option.bind_some _ _).symm.trans H; rw [hy121]; with_reducible exact H2_) | (have H2_ := (Option.bind_some _ _).symm.trans H; with_reducible exact H2_) | with_reducible exact H | (rw [hy121]; exact H) | exact H
  have Ny121 := Aside0.mk hy121
  clear hy121
  replace H := Option.bind_eq_some_iff.mp H
  obtain ⟨t124, A20, H⟩ := H
  replace H : ((class_in.f a0 t124).bind fun t125 => (some t125)) = some r := H
  have A2 := Aside0.mk A20
  clear A20
  replace H := Option.bind_eq_some_iff.mp H
  obtain ⟨t125, A30, H⟩ := H
  replace H : (some t125) = some r := H
  have A3 := Aside0.mk A30
  clear A30
  obtain rfl := Option.some.inj H
  go_enter Try.func52, Try.ntmps52
  go_wp2_with (first | ((with_reducible refine gate_dst (N := 4) rfl ?_); refine Kd.R_lit (Kd.int .i64) _ 3 ?hg (N := 4) ?hd (xs := ([14, 15, 16, 17, 18, 9] : List Int)) (inner := [.int .i64 14, .int .i64 15, .int .i64 16, .int .i64 17, .int .i64 18, .int .i64 9]) (ok := fun _ => True) (okp := fun _ => True) ?hr ?hp (fun _ hk => hk) trivial (Below.refl _ _) (Nat.le_refl _) (by simp) ?_; (case hd => rfl); (case hg => rfl); (case hr => first | (go_simp; done) | (go_simp; rfl)); (case hp => exact (Reps.one (show Kd.M (Kd.int .i64) _ _ _ 14 [.int .i64 14] from rfl) (Reps.one (show Kd.M (Kd.int .i64) _ _ _ 15 [.int .i64 15] from rfl) (Reps.one (show Kd.M (Kd.int .i64) _ _ _ 16 [.int .i64 16] from rfl) (Reps.one (show Kd.M (Kd.int .i64) _ _ _ 17 [.int .i64 17] from rfl) (Reps.one (show Kd.M (Kd.int .i64) _ _ _ 18 [.int .i64 18] from rfl) (Reps.one (show Kd.M (Kd.int .i64) _ _ _ 9 [.int .i64 9] from rfl) (Reps.none _ _)))))))); intro v122 w4 ho5 hb hg_ hnew_; clear hg_ hnew_; (first | rw [← Ny121.out] at ho5 | (simp only [Int.reduceToNat] at ho5; rw [← Ny121.out] at ho5)); have n0_ := Aside0.mk (Kd.R_lower ho5 (below_size (by repeat (first | (with_reducible first | exact HB.out | apply below_alloc | apply pw_below_drewN | apply below_drew1) | exact HB.out)))); have n1_ := Aside0.mk (below_step (by repeat (first | (with_reducible first | exact HB.out | apply below_alloc | apply pw_below_drewN | apply below_drew1) | exact HB.out)) hb); clear HB; have HO123 := n0_; have HB := n1_; clear n0_ n1_; clear hb ho5; obtain ⟨Ao6, co6, eo6⟩ := Kd.R_slice HO123.out; subst eo6) | ((with_reducible refine gate_callee (f := 70) rfl ?_); refine goesL_ (some 5) rfl rfl Try.func70 (by kernel_rfl) rfl #[.slice Ao6 y121.length co6] rfl (by (try simp only [List.map_toArray, List.map_cons, List.map_nil]); first | done | rfl | (simp only [List.length_drop, List.length_take]; rfl)) ?_; (with_reducible refine (class_set.calls k _ _ y121 t124 _ ?side1 ?side2 A2.out).mono ?_); (case side1 => repeat (first | exact (Kd.R_reads' HO123.out).2.2 | (with_reducible refine Kd.C_alloc ?_ _) | (with_reducible refine Kd.C_drewN ?_ _) | (with_reducible refine Kd.C_drew ?_))); (case side2 => exact (Kd.R_reads' HO123.out).2.1); rintro e w' ⟨rfl, ⟨nd, rfl⟩⟩; refine ⟨_, rfl, ?_⟩) | ((with_reducible refine gate_callee (f := 69) rfl ?_); refine goesL_ (some 6) rfl rfl Try.func69 (by kernel_rfl) rfl #[.int .i64 a0, .int .u64 t124] rfl (by (try simp only [List.map_toArray, List.map_cons, List.map_nil]); first | done | rfl | (simp only [List.length_drop, List.length_take]; rfl)) ?_; (with_reducible refine (class_in.calls a0 t124 t125 _ A3.out).mono ?_); rintro e w' ⟨rfl, ⟨nd, rfl⟩⟩; refine ⟨_, rfl, ?_⟩))
  go_ret
  exact ⟨by first | rfl | (simp [errW_none, errW_some] <;> rfl) | (simp [*, errW_none, errW_some] <;> rfl), by repeat (first | (with_reducible first | exact HB.out | apply below_alloc | apply pw_below_drewN | apply below_drew1) | exact HB.out)⟩

def norm_Control.f (k : Nat) (a0 : Int) : Option (Bool) := (class_Of.f k a0).bind fun t126 => (if t126 = 22 then (some true) else ((class_Opens.f k t126).bind fun t127 => (if t127 = true then (some true) else ((class_Out.f k t126).bind fun t128 => (some t128)))))
theorem norm_Control.mono : ∀ a0 k, LeO (norm_Control.f k a0) (norm_Control.f (k + 1) a0) := by
  intro a0 k
  unfold norm_Control.f
  repeat' first
      | (with_reducible exact class_Of.mono _ _)
      | (with_reducible exact class_Opens.mono _ _)
      | (with_reducible exact class_Out.mono _ _)
      | (with_reducible exact LeO.refl _)
      | (with_reducible exact LeO.none _)
      | (with_reducible refine LeO.ite ?_ ?_)
      | (with_reducible refine LeO.bind ?_ (fun _ => ?_))
      | exact class_Of.mono _ _
      | exact class_Opens.mono _ _
      | exact class_Out.mono _ _
      | exact LeO.none _
      | refine LeO.ite ?_ ?_
      | refine LeO.bind ?_ (fun _ => ?_)
set_option maxHeartbeats 8000000 in
set_option maxRecDepth 100000 in
theorem norm_Control.calls (k : Nat) (a0 : Int) (r : Bool) (w : World) (h : norm_Control.f k a0 = some r) :
    Calls Try.prog 32 #[.int .i64 a0] w fun e w' => e = .returned (.bool r) ∧ Below w.heap.size w w' := by
  have HB := Aside0.mk (Below.refl w.heap.size w)
  have H : ((class_Of.f k a0).bind fun t126 => (if t126 = 22 then (some true) else ((class_Opens.f k t126).bind fun t127 => (if t127 = true then (some true) else ((class_Out.f k t126).bind fun t128 => (some t128)))))) = some r := h
  clear h
  replace H := Option.bind_eq_some_iff.mp H
  obtain ⟨t126, A20, H⟩ := H
  replace H : (if t126 = 22 then (some true) else ((class_Opens.f k t126).bind fun t127 => (if t127 = true then (some true) else ((class_Out.f k t126).bind fun t128 => (some t128))))) = some r := H
  have A2 := Aside0.mk A20
  clear A20
  by_cases c3 : t126 = 22
  · rw [if_pos c3] at H
    have c3b0 : (t126 == 22) = true := beq_iff_eq.mpr c3
    have c3b1 : (t126 != 22) = false := bne_eq_false_iff_eq.mpr c3
    clear c3
    obtain rfl := Option.some.inj H
    go_enter Try.func32, Try.ntmps32
    go_wp2_with (first | ((with_reducible refine gate_callee (f := 50) rfl ?_); refine goesL_ (some 5) rfl rfl Try.func50 (by kernel_rfl) rfl #[.int .i64 a0] rfl (by (try simp only [List.map_toArray, List.map_cons, List.map_nil]); first | done | rfl | (simp only [List.length_drop, List.length_take]; rfl)) ?_; (with_reducible refine (class_Of.calls k a0 t126 _ A2.out).mono ?_); rintro e w4 ⟨rfl, hb⟩; refine ⟨_, rfl, ?_⟩; have n0_ := Aside0.mk (below_step (by repeat (first | (with_reducible first | exact HB.out | apply below_alloc | apply pw_below_drewN | apply below_drew1) | exact HB.out)) hb); clear HB; have HB := n0_; clear n0_; (try clear hb); (try clear hb2); (try clear hk); (try clear hi)))
    go_ret
    exact ⟨by first | rfl | (simp [errW_none, errW_some] <;> rfl) | (simp [*, errW_none, errW_some] <;> rfl), by repeat (first | (with_reducible first | exact HB.out | apply below_alloc | apply pw_below_drewN | apply below_drew1) | exact HB.out)⟩
  rw [if_neg c3] at H
  have c3b0 : (t126 == 22) = false := beq_eq_false_iff_ne.mpr c3
  have c3b1 : (t126 != 22) = true := bne_iff_ne.mpr c3
  replace H := Option.bind_eq_some_iff.mp H
  obtain ⟨t127, A50, H⟩ := H
  replace H : (if t127 = true then (some true) else ((class_Out.f k t126).bind fun t128 => (some t128))) = some r := H
  have A5 := Aside0.mk A50
  clear A50
  by_cases c6 : t127 = true
  · subst c6
    have H1 : (some true) = some r := by rw [if_pos rfl] at H; exact H
    clear H
    have H := H1
    clear H1
    obtain rfl := Option.some.inj H
    go_enter Try.func32, Try.ntmps32
    go_wp2_with (first | ((with_reducible refine gate_callee (f := 50) rfl ?_); refine goesL_ (some 5) rfl rfl Try.func50 (by kernel_rfl) rfl #[.int .i64 a0] rfl (by (try simp only [List.map_toArray, List.map_cons, List.map_nil]); first | done | rfl | (simp only [List.length_drop, List.length_take]; rfl)) ?_; (with_reducible refine (class_Of.calls k a0 t126 _ A2.out).mono ?_); rintro e w7 ⟨rfl, hb⟩; refine ⟨_, rfl, ?_⟩; have n0_ := Aside0.mk (below_step (by repeat (first | (with_reducible first | exact HB.out | apply below_alloc | apply pw_below_drewN | apply below_drew1) | exact HB.out)) hb); clear HB; have HB := n0_; clear n0_; (try clear hb); (try clear hb2); (try clear hk); (try clear hi)) | (go_at_call 51; (with_reducible refine (class_Opens.calls k t126 true _ A5.out).mono ?_); rintro e w8 ⟨rfl, hb⟩; have n0_ := Aside0.mk (below_step (by repeat (first | (with_reducible first | exact HB.out | apply below_alloc | apply pw_below_drewN | apply below_drew1) | exact HB.out)) hb); clear HB; have HB := n0_; clear n0_; (try clear hb); (try clear hb2); (try clear hk); (try clear hi)))
    go_ret
    exact ⟨by first | rfl | (simp [errW_none, errW_some] <;> rfl) | (simp [*, errW_none, errW_some] <;> rfl), by repeat (first | (with_reducible first | exact HB.out | apply below_alloc | apply pw_below_drewN | apply below_drew1) | exact HB.out)⟩
  replace c6 := Bool.eq_false_iff.mpr c6
  subst c6
  have H1 : ((class_Out.f k t126).bind fun t128 => (some t128)) = some r := by rw [if_neg (show ¬ (false = true) by decide)] at H; exact H
  clear H
  have H := H1
  clear H1
  replace H := Option.bind_eq_some_iff.mp H
  obtain ⟨t128, A90, H⟩ := H
  replace H : (some t128) = some r := H
  have A9 := Aside0.mk A90
  clear A90
  obtain rfl := Option.some.inj H
  go_enter Try.func32, Try.ntmps32
  go_wp2_with (first | ((with_reducible refine gate_callee (f := 50) rfl ?_); refine goesL_ (some 5) rfl rfl Try.func50 (by kernel_rfl) rfl #[.int .i64 a0] rfl (by (try simp only [List.map_toArray, List.map_cons, List.map_nil]); first | done | rfl | (simp only [List.length_drop, List.length_take]; rfl)) ?_; (with_reducible refine (class_Of.calls k a0 t126 _ A2.out).mono ?_); rintro e w10 ⟨rfl, hb⟩; refine ⟨_, rfl, ?_⟩; have n0_ := Aside0.mk (below_step (by repeat (first | (with_reducible first | exact HB.out | apply below_alloc | apply pw_below_drewN | apply below_drew1) | exact HB.out)) hb); clear HB; have HB := n0_; clear n0_; (try clear hb); (try clear hb2); (try clear hk); (try clear hi)) | (go_at_call 51; (with_reducible refine (class_Opens.calls k t126 false _ A5.out).mono ?_); rintro e w11 ⟨rfl, hb⟩; have n0_ := Aside0.mk (below_step (by repeat (first | (with_reducible first | exact HB.out | apply below_alloc | apply pw_below_drewN | apply below_drew1) | exact HB.out)) hb); clear HB; have HB := n0_; clear n0_; (try clear hb); (try clear hb2); (try clear hk); (try clear hi)) | (go_at_call 52; (with_reducible refine (class_Out.calls k t126 t128 _ A9.out).mono ?_); rintro e w12 ⟨rfl, hb⟩; have n0_ := Aside0.mk (below_step (by repeat (first | (with_reducible first | exact HB.out | apply below_alloc | apply pw_below_drewN | apply below_drew1) | exact HB.out)) hb); clear HB; have HB := n0_; clear n0_; (try clear hb); (try clear hb2); (try clear hk); (try clear hi)))
  go_ret
  exact ⟨by first | rfl | (simp [errW_none, errW_some] <;> rfl) | (simp [*, errW_none, errW_some] <;> rfl), by repeat (first | (with_reducible first | exact HB.out | apply below_alloc | apply pw_below_drewN | apply below_drew1) | exact HB.out)⟩

def fold_stretches.f  : Option ((List (S87))) := some (([(⟨65, 90, 32⟩ : S87), (⟨181, 181, 775⟩ : S87), (⟨192, 214, 32⟩ : S87), (⟨216, 222, 32⟩ : S87), (⟨913, 929, 32⟩ : S87), (⟨931, 937, 32⟩ : S87), (⟨962, 962, 1⟩ : S87), (⟨1024, 1039, 80⟩ : S87), (⟨1040, 1071, 32⟩ : S87), (⟨7838, 7838, (-7615)⟩ : S87)] : List (S87)))
set_option maxHeartbeats 8000000 in
set_option maxRecDepth 100000 in
theorem fold_stretches.calls  (r : List (S87)) (w : World) (h : fold_stretches.f  = some r) :
    Calls Try.prog 78 #[] w fun e w' => ∃ v0_ : Value, e = .returned (v0_) ∧ Kd.R k87 87 w' w.heap.size (fun _ => True) v0_ r ∧ Below w.heap.size w w' := by
  have hu87 := Try.underlying87
  have HB := Aside0.mk (Below.refl w.heap.size w)
  have H : (some (([(⟨65, 90, 32⟩ : S87), (⟨181, 181, 775⟩ : S87), (⟨192, 214, 32⟩ : S87), (⟨216, 222, 32⟩ : S87), (⟨913, 929, 32⟩ : S87), (⟨931, 937, 32⟩ : S87), (⟨962, 962, 1⟩ : S87), (⟨1024, 1039, 80⟩ : S87), (⟨1040, 1071, 32⟩ : S87), (⟨7838, 7838, (-7615)⟩ : S87)] : List (S87)))) = some r := h
  clear h
  obtain ⟨y129, hy129⟩ : ∃ y_ : List (S87), y_ = (([(⟨65, 90, 32⟩ : S87), (⟨181, 181, 775⟩ : S87), (⟨192, 214, 32⟩ : S87), (⟨216, 222, 32⟩ : S87), (⟨913, 929, 32⟩ : S87), (⟨931, 937, 32⟩ : S87), (⟨962, 962, 1⟩ : S87), (⟨1024, 1039, 80⟩ : S87), (⟨1040, 1071, 32⟩ : S87), (⟨7838, 7838, (-7615)⟩ : S87)] : List (S87))) := ⟨_, rfl⟩
  replace H : (some y129) = some r := by first | (rw [hy129]; with_reducible exact H) | (have H2_ := (Option.bind_some _ _).symm.trans H; rw [hy129]; with_reducible exact H2_) | (have H2_ := (Option.bind_some _ _).symm.trans H; with_reducible exact H2_) | with_reducible exact H | (rw [hy129]; exact H) | exact H
  have Ny129 := Aside0.mk hy129
  clear hy129
  obtain rfl := Option.some.inj H
  go_enter Try.func78, Try.ntmps78
  go_wp2_with (first | ((with_reducible refine gate_dst (N := 11) rfl ?_); refine Kd.R_lit k87 _ 87 ?hg (N := 11) ?hd (xs := ([(⟨65, 90, 32⟩ : S87), (⟨181, 181, 775⟩ : S87), (⟨192, 214, 32⟩ : S87), (⟨216, 222, 32⟩ : S87), (⟨913, 929, 32⟩ : S87), (⟨931, 937, 32⟩ : S87), (⟨962, 962, 1⟩ : S87), (⟨1024, 1039, 80⟩ : S87), (⟨1040, 1071, 32⟩ : S87), (⟨7838, 7838, (-7615)⟩ : S87)] : List (S87))) (inner := [.int .i64 65, .int .i64 90, .int .i64 32, .int .i64 181, .int .i64 181, .int .i64 775, .int .i64 192, .int .i64 214, .int .i64 32, .int .i64 216, .int .i64 222, .int .i64 32, .int .i64 913, .int .i64 929, .int .i64 32, .int .i64 931, .int .i64 937, .int .i64 32, .int .i64 962, .int .i64 962, .int .i64 1, .int .i64 1024, .int .i64 1039, .int .i64 80, .int .i64 1040, .int .i64 1071, .int .i64 32, .int .i64 7838, .int .i64 7838, .int .i64 (-7615)]) (ok := fun _ => True) (okp := fun _ => True) ?hr ?hp (fun _ hk => hk) trivial (Below.refl _ _) (Nat.le_refl _) (by simp) ?_; (case hd => rfl); (case hg => rfl); (case hr => first | (go_simp; done) | (go_simp; rfl)); (case hp => exact (Reps.c3 (show Kd.M k87 _ _ _ (⟨65, 90, 32⟩ : S87) [.int .i64 65, .int .i64 90, .int .i64 32] from (k87_mkM _ _ _ (⟨65, 90, 32⟩ : S87) )) (Reps.c3 (show Kd.M k87 _ _ _ (⟨181, 181, 775⟩ : S87) [.int .i64 181, .int .i64 181, .int .i64 775] from (k87_mkM _ _ _ (⟨181, 181, 775⟩ : S87) )) (Reps.c3 (show Kd.M k87 _ _ _ (⟨192, 214, 32⟩ : S87) [.int .i64 192, .int .i64 214, .int .i64 32] from (k87_mkM _ _ _ (⟨192, 214, 32⟩ : S87) )) (Reps.c3 (show Kd.M k87 _ _ _ (⟨216, 222, 32⟩ : S87) [.int .i64 216, .int .i64 222, .int .i64 32] from (k87_mkM _ _ _ (⟨216, 222, 32⟩ : S87) )) (Reps.c3 (show Kd.M k87 _ _ _ (⟨913, 929, 32⟩ : S87) [.int .i64 913, .int .i64 929, .int .i64 32] from (k87_mkM _ _ _ (⟨913, 929, 32⟩ : S87) )) (Reps.c3 (show Kd.M k87 _ _ _ (⟨931, 937, 32⟩ : S87) [.int .i64 931, .int .i64 937, .int .i64 32] from (k87_mkM _ _ _ (⟨931, 937, 32⟩ : S87) )) (Reps.c3 (show Kd.M k87 _ _ _ (⟨962, 962, 1⟩ : S87) [.int .i64 962, .int .i64 962, .int .i64 1] from (k87_mkM _ _ _ (⟨962, 962, 1⟩ : S87) )) (Reps.c3 (show Kd.M k87 _ _ _ (⟨1024, 1039, 80⟩ : S87) [.int .i64 1024, .int .i64 1039, .int .i64 80] from (k87_mkM _ _ _ (⟨1024, 1039, 80⟩ : S87) )) (Reps.c3 (show Kd.M k87 _ _ _ (⟨1040, 1071, 32⟩ : S87) [.int .i64 1040, .int .i64 1071, .int .i64 32] from (k87_mkM _ _ _ (⟨1040, 1071, 32⟩ : S87) )) (Reps.c3 (show Kd.M k87 _ _ _ (⟨7838, 7838, (-7615)⟩ : S87) [.int .i64 7838, .int .i64 7838, .int .i64 (-7615)] from (k87_mkM _ _ _ (⟨7838, 7838, (-7615)⟩ : S87) )) (Reps.none _ _)))))))))))); intro v130 w1 ho2 hb hg_ hnew_; clear hg_ hnew_; (first | rw [← Ny129.out] at ho2 | (simp only [Int.reduceToNat] at ho2; rw [← Ny129.out] at ho2)); have n0_ := Aside0.mk (Kd.R_lower ho2 (below_size (by repeat (first | (with_reducible first | exact HB.out | apply below_alloc | apply pw_below_drewN | apply below_drew1) | exact HB.out)))); have n1_ := Aside0.mk (below_step (by repeat (first | (with_reducible first | exact HB.out | apply below_alloc | apply pw_below_drewN | apply below_drew1) | exact HB.out)) hb); clear HB; have HO131 := n0_; have HB := n1_; clear n0_ n1_; clear hb ho2))
  go_ret
  exact ⟨_, by first | rfl | (simp [errW_none, errW_some] <;> rfl) | (simp [*, errW_none, errW_some] <;> rfl), by (with_reducible repeat (first | apply Kd.R_alloc | apply Kd.R_drewN | apply Kd.R_drew)); exact HO131.out, by repeat (first | (with_reducible first | exact HB.out | apply below_alloc | apply pw_below_drewN | apply below_drew1) | exact HB.out)⟩

def fold_Of.l0 : Nat → Int → List (S87) → Int → Int → Option (Int)
  | 0, _, _, _, _ => none
  | k + 1, x0, x5, x6, x7 => if x7 < x6 then (if 0 ≤ x7 then (if x7 < (x5.length : Int) then (if x0 ≥ ((rd_T87 x5 x7).f0) then (if x0 ≤ ((rd_T87 x5 x7).f1) then (some (wrap64 (x0 + ((rd_T87 x5 x7).f2)))) else (fold_Of.l0 k x0 x5 x6 (wrap64 (x7 + 1)))) else (fold_Of.l0 k x0 x5 x6 (wrap64 (x7 + 1)))) else (none)) else (none)) else (some x0)
def fold_Of.f (k : Nat) (a0 : Int) : Option (Int) := (fold_stretches.f).bind fun t132 => (fold_Of.l0 k a0 t132 (t132.length : Int) 0)
theorem fold_Of.mono_l : ∀ k, (∀ y0 y1 y2 y3, LeO (fold_Of.l0 k y0 y1 y2 y3) (fold_Of.l0 (k + 1) y0 y1 y2 y3))
  | 0 => fun _ _ _ _ r h => by simp [fold_Of.l0] at h
  | k + 1 => by
    have ih0 := fold_Of.mono_l k
    · intro y0 y1 y2 y3
      unfold fold_Of.l0
      repeat' first
      | (with_reducible exact ih0 _ _ _ _)
      | (with_reducible exact LeO.refl _)
      | (with_reducible exact LeO.none _)
      | (with_reducible refine LeO.ite ?_ ?_)
      | (with_reducible refine LeO.bind ?_ (fun _ => ?_))
      | exact ih0 _ _ _ _
      | exact LeO.none _
      | refine LeO.ite ?_ ?_
      | refine LeO.bind ?_ (fun _ => ?_)
theorem fold_Of.mono : ∀ a0 k, LeO (fold_Of.f k a0) (fold_Of.f (k + 1) a0) := by
  intro a0 k
  have ih0 := fold_Of.mono_l k
  unfold fold_Of.f
  repeat' first
      | (with_reducible exact ih0 _ _ _ _)
      | (with_reducible exact LeO.refl _)
      | (with_reducible exact LeO.none _)
      | (with_reducible refine LeO.ite ?_ ?_)
      | (with_reducible refine LeO.bind ?_ (fun _ => ?_))
      | exact ih0 _ _ _ _
      | exact LeO.none _
      | refine LeO.ite ?_ ?_
      | refine LeO.bind ?_ (fun _ => ?_)
set_option maxHeartbeats 8000000 in
set_option maxRecDepth 100000 in
theorem fold_Of.calls (k : Nat) (a0 : Int) (r : Int) (w : World) (h : fold_Of.f k a0 = some r) :
    Calls Try.prog 74 #[.int .i64 a0] w fun e w' => e = .returned (.int .i64 r) ∧ Below w.heap.size w w' := by
  have hu87 := Try.underlying87
  have HB := Aside0.mk (Below.refl w.heap.size w)
  have H : ((fold_stretches.f).bind fun t132 => (fold_Of.l0 k a0 t132 (t132.length : Int) 0)) = some r := h
  clear h
  replace H := Option.bind_eq_some_iff.mp H
  obtain ⟨t132, A20, H⟩ := H
  replace H : (fold_Of.l0 k a0 t132 (t132.length : Int) 0) = some r := H
  have A2 := Aside0.mk A20
  clear A20
  have H' := Aside0.mk H
  clear H
  go_enter Try.func74, Try.ntmps74
  go_wp2_with (first | ((with_reducible refine gate_callee (f := 78) rfl ?_); refine goesL_ (some 5) rfl rfl Try.func78 (by kernel_rfl) rfl #[] rfl (by (try simp only [List.map_toArray, List.map_cons, List.map_nil]); first | done | rfl | (simp only [List.length_drop, List.length_take]; rfl)) ?_; (with_reducible refine (fold_stretches.calls  t132 _ A2.out).mono ?_); rintro e w3 ⟨v133, rfl, ho0, hb⟩; refine ⟨_, rfl, ?_⟩; have n0_ := Aside0.mk (Kd.R_lower ho0 (below_size (by repeat (first | (with_reducible first | exact HB.out | apply below_alloc | apply pw_below_drewN | apply below_drew1) | exact HB.out)))); have n1_ := Aside0.mk (below_step (by repeat (first | (with_reducible first | exact HB.out | apply below_alloc | apply pw_below_drewN | apply below_drew1) | exact HB.out)) hb); clear HB; have HO134 := n0_; have HB := n1_; clear n0_ n1_; (try clear hb); (try clear hb2); (try clear hk); (try clear hi); (try clear ho0); obtain ⟨Ao4, co4, eo4⟩ := Kd.R_slice HO134.out; subst eo4))
  go_loopg [7] k (fun kq v7 w' => ∃ (x7_1 : Int), v7 = .int .i64 x7_1 ∧ Aside0 (fold_Of.l0 kq a0 t132 (t132.length : Int) x7_1 = some r) ∧ Aside0 (kq ≤ k) ∧ Aside0 (Kd.R k87 87 w' w.heap.size (fun _ => True) (.slice Ao4 t132.length co4) t132) ∧ Aside0 (Below w.heap.size w w'))
  case atStart => exact ⟨(0), (by first | rfl | (simp; done) | (simp [*]; done)), H', ⟨Nat.le_refl _⟩, ⟨by (with_reducible repeat (first | apply Kd.R_alloc | apply Kd.R_drewN | apply Kd.R_drew)); exact HO134.out⟩, ⟨by repeat (first | (with_reducible first | exact HB.out | apply below_alloc | apply pw_below_drewN | apply below_drew1) | exact HB.out)⟩⟩
  case round =>
    clear H'
    try clear p2
    obtain ⟨x7_1, rfl, HA, HK1, HO_5, HB⟩ := hrel
    cases gk with
    | zero => exact absurd HA.out (by simp [fold_Of.l0])
    | succ k1 =>
      have H := HA.out
      clear HA
      simp only [fold_Of.l0] at H
      by_cases c5 : x7_1 < (t132.length : Int)
      rotate_left
      · rw [if_neg c5] at H
        have c5b0 : decide (x7_1 < (t132.length : Int)) = false := decide_eq_false c5
        clear c5
        obtain rfl := Option.some.inj H
        go_wp2
        go_ret
        exact ⟨by first | rfl | (simp [errW_none, errW_some] <;> rfl) | (simp [*, errW_none, errW_some] <;> rfl), by repeat (first | (with_reducible first | exact HB.out | apply below_alloc | apply pw_below_drewN | apply below_drew1) | exact HB.out)⟩
      rw [if_pos c5] at H
      have c5b0 : decide (x7_1 < (t132.length : Int)) = true := decide_eq_true c5
      clear c5
      by_cases c6 : 0 ≤ x7_1
      rotate_left
      · rw [if_neg c6] at H
        exact absurd H (by simp)
      rw [if_pos c6] at H
      have c6b0 : decide (0 ≤ x7_1) = true := decide_eq_true c6
      clear c6
      by_cases c7 : x7_1 < (t132.length : Int)
      rotate_left
      · rw [if_neg c7] at H
        exact absurd H (by simp)
      rw [if_pos c7] at H
      have c7b0 : decide (x7_1 < (t132.length : Int)) = true := decide_eq_true c7
      clear c7
      by_cases c8 : a0 ≥ ((rd_T87 t132 x7_1).f0)
      rotate_left
      · rw [if_neg c8] at H
        have c8b0 : decide (((rd_T87 t132 x7_1).f0) ≤ a0) = false := decide_eq_false c8
        clear c8
        have H' := Aside0.mk H
        clear H
        have p135 : 0 ≤ (x7_1 : Int) := of_decide_eq_true (by first | (with_reducible assumption) | assumption)
        have q135 : x7_1 < (t132.length : Int) := of_decide_eq_true (by first | (with_reducible assumption) | assumption)
        obtain ⟨ad135, e135, hx135_0, hx135_1, hx135_2⟩ := at_T87 (Kd.R_reads' HO_5.out).2.2 x7_1 p135 q135
        cases e135
        replace p135 := eq_true p135
        replace q135 := eq_true q135
        go_wp2_with (first | ((with_reducible refine gate_dst (N := 4) rfl ?_); refine box_event ?hg (N := 4) ?hd (cs := #[.int .i64 0, .int .i64 0, .int .i64 0]) (t := 87) ?hr ?_; (case hd => rfl); (case hg => rfl); (case hr => first | (go_simp; done) | (go_simp; rfl)); intro gb136 hg w14 hbox hb; have n0_ := Aside0.mk (Kd.R_below (Kd.R_elderB (by (with_reducible repeat (first | apply Kd.R_alloc | apply Kd.R_drewN | apply Kd.R_drew)); exact HO_5.out) gb136 (Nat.le_of_eq hg.symm)) hb); have n1_ := Aside0.mk (below_step (by repeat (first | (with_reducible first | exact HB.out | apply below_alloc | apply pw_below_drewN | apply below_drew1) | exact HB.out)) hb); have n2_ := Aside0.mk (hbox); have n3_ := Aside0.mk ((by rw [hg]; exact (below_size (by repeat (first | (with_reducible first | exact HB.out | apply below_alloc | apply pw_below_drewN | apply below_drew1) | exact HB.out))) : w.heap.size ≤ gb136)); have n4_ := Aside0.mk ((by rw [hg]; exact (below_size (by repeat (first | (with_reducible first | exact HB.out | apply below_alloc | apply pw_below_drewN | apply below_drew1) | exact HB.out))) : w.heap.size ≤ gb136)); clear HO_5; clear HB; have HO_5 := n0_; have HB := n1_; have BK136 := n2_; have GW136 := n3_; have GE136 := n4_; clear n0_ n1_ n2_ n3_ n4_; clear hb hbox hg; have hcz15_0 : w14.cell? ⟨gb136, 0, none⟩ = some (.int .i64 0) := (blk_cell BK136.out 0).trans rfl; have hcz15_1 : w14.cell? ⟨gb136, 1, none⟩ = some (.int .i64 0) := (blk_cell BK136.out 1).trans rfl; have hcz15_2 : w14.cell? ⟨gb136, 2, none⟩ = some (.int .i64 0) := (blk_cell BK136.out 2).trans rfl; have hfz15_0 := blk_frozen BK136.out 0; have hfz15_1 := blk_frozen BK136.out 1; have hfz15_2 := blk_frozen BK136.out 2))
        go_roundg k1
        case measure => have := HK1.out; omega
        case rel => exact ⟨(wrap64 (x7_1 + 1)), (by first | rfl | (simp; done) | (simp [*]; done)), H', ⟨by have := HK1.out; omega⟩, ⟨by (with_reducible repeat (first | apply Kd.R_alloc | apply Kd.R_drewN | apply Kd.R_drew)); exact Kd.R_mono (Kd.R_far (p := ⟨gb136, 2, none⟩) (Kd.R_far (p := ⟨gb136, 1, none⟩) (Kd.R_far (p := ⟨gb136, 0, none⟩) (Kd.R_mono HO_5.out (fun k_ hk => (⟨hk, hk.2⟩ : _ ∧ k_ ≠ gb136))) (fun _ hk => hk.2) (.int .i64 ((rd_T87 t132 x7_1).f0))) (fun _ hk => hk.2) (.int .i64 ((rd_T87 t132 x7_1).f1))) (fun _ hk => hk.2) (.int .i64 ((rd_T87 t132 x7_1).f2))) (fun _ hk => trivial)⟩, ⟨by repeat (first | (with_reducible first | exact HB.out | apply below_alloc | apply pw_below_drewN | apply below_drew1 | refine below_set ?_ GE136.out) | exact HB.out)⟩⟩
      rw [if_pos c8] at H
      have c8b0 : decide (((rd_T87 t132 x7_1).f0) ≤ a0) = true := decide_eq_true c8
      clear c8
      by_cases c9 : a0 ≤ ((rd_T87 t132 x7_1).f1)
      · rw [if_pos c9] at H
        have c9b0 : decide (a0 ≤ ((rd_T87 t132 x7_1).f1)) = true := decide_eq_true c9
        clear c9
        obtain rfl := Option.some.inj H
        have p135 : 0 ≤ (x7_1 : Int) := of_decide_eq_true (by first | (with_reducible assumption) | assumption)
        have q135 : x7_1 < (t132.length : Int) := of_decide_eq_true (by first | (with_reducible assumption) | assumption)
        obtain ⟨ad135, e135, hx135_0, hx135_1, hx135_2⟩ := at_T87 (Kd.R_reads' HO_5.out).2.2 x7_1 p135 q135
        cases e135
        replace p135 := eq_true p135
        replace q135 := eq_true q135
        go_wp2_with (first | ((with_reducible refine gate_dst (N := 4) rfl ?_); refine box_event ?hg (N := 4) ?hd (cs := #[.int .i64 0, .int .i64 0, .int .i64 0]) (t := 87) ?hr ?_; (case hd => rfl); (case hg => rfl); (case hr => first | (go_simp; done) | (go_simp; rfl)); intro gb136 hg w10 hbox hb; have n0_ := Aside0.mk (Kd.R_below (Kd.R_elderB (by (with_reducible repeat (first | apply Kd.R_alloc | apply Kd.R_drewN | apply Kd.R_drew)); exact HO_5.out) gb136 (Nat.le_of_eq hg.symm)) hb); have n1_ := Aside0.mk (below_step (by repeat (first | (with_reducible first | exact HB.out | apply below_alloc | apply pw_below_drewN | apply below_drew1) | exact HB.out)) hb); have n2_ := Aside0.mk (hbox); have n3_ := Aside0.mk ((by rw [hg]; exact (below_size (by repeat (first | (with_reducible first | exact HB.out | apply below_alloc | apply pw_below_drewN | apply below_drew1) | exact HB.out))) : w.heap.size ≤ gb136)); have n4_ := Aside0.mk ((by rw [hg]; exact (below_size (by repeat (first | (with_reducible first | exact HB.out | apply below_alloc | apply pw_below_drewN | apply below_drew1) | exact HB.out))) : w.heap.size ≤ gb136)); clear HO_5; clear HB; have HO_5 := n0_; have HB := n1_; have BK136 := n2_; have GW136 := n3_; have GE136 := n4_; clear n0_ n1_ n2_ n3_ n4_; clear hb hbox hg; have hcz11_0 : w10.cell? ⟨gb136, 0, none⟩ = some (.int .i64 0) := (blk_cell BK136.out 0).trans rfl; have hcz11_1 : w10.cell? ⟨gb136, 1, none⟩ = some (.int .i64 0) := (blk_cell BK136.out 1).trans rfl; have hcz11_2 : w10.cell? ⟨gb136, 2, none⟩ = some (.int .i64 0) := (blk_cell BK136.out 2).trans rfl; have hfz11_0 := blk_frozen BK136.out 0; have hfz11_1 := blk_frozen BK136.out 1; have hfz11_2 := blk_frozen BK136.out 2))
        go_ret
        exact ⟨by first | rfl | (simp [errW_none, errW_some] <;> rfl) | (simp [*, errW_none, errW_some] <;> rfl), by repeat (first | (with_reducible first | exact HB.out | apply below_alloc | apply pw_below_drewN | apply below_drew1 | refine below_set ?_ GE136.out) | exact HB.out)⟩
      rw [if_neg c9] at H
      have c9b0 : decide (a0 ≤ ((rd_T87 t132 x7_1).f1)) = false := decide_eq_false c9
      clear c9
      have H' := Aside0.mk H
      clear H
      have p135 : 0 ≤ (x7_1 : Int) := of_decide_eq_true (by first | (with_reducible assumption) | assumption)
      have q135 : x7_1 < (t132.length : Int) := of_decide_eq_true (by first | (with_reducible assumption) | assumption)
      obtain ⟨ad135, e135, hx135_0, hx135_1, hx135_2⟩ := at_T87 (Kd.R_reads' HO_5.out).2.2 x7_1 p135 q135
      cases e135
      replace p135 := eq_true p135
      replace q135 := eq_true q135
      go_wp2_with (first | ((with_reducible refine gate_dst (N := 4) rfl ?_); refine box_event ?hg (N := 4) ?hd (cs := #[.int .i64 0, .int .i64 0, .int .i64 0]) (t := 87) ?hr ?_; (case hd => rfl); (case hg => rfl); (case hr => first | (go_simp; done) | (go_simp; rfl)); intro gb136 hg w12 hbox hb; have n0_ := Aside0.mk (Kd.R_below (Kd.R_elderB (by (with_reducible repeat (first | apply Kd.R_alloc | apply Kd.R_drewN | apply Kd.R_drew)); exact HO_5.out) gb136 (Nat.le_of_eq hg.symm)) hb); have n1_ := Aside0.mk (below_step (by repeat (first | (with_reducible first | exact HB.out | apply below_alloc | apply pw_below_drewN | apply below_drew1) | exact HB.out)) hb); have n2_ := Aside0.mk (hbox); have n3_ := Aside0.mk ((by rw [hg]; exact (below_size (by repeat (first | (with_reducible first | exact HB.out | apply below_alloc | apply pw_below_drewN | apply below_drew1) | exact HB.out))) : w.heap.size ≤ gb136)); have n4_ := Aside0.mk ((by rw [hg]; exact (below_size (by repeat (first | (with_reducible first | exact HB.out | apply below_alloc | apply pw_below_drewN | apply below_drew1) | exact HB.out))) : w.heap.size ≤ gb136)); clear HO_5; clear HB; have HO_5 := n0_; have HB := n1_; have BK136 := n2_; have GW136 := n3_; have GE136 := n4_; clear n0_ n1_ n2_ n3_ n4_; clear hb hbox hg; have hcz13_0 : w12.cell? ⟨gb136, 0, none⟩ = some (.int .i64 0) := (blk_cell BK136.out 0).trans rfl; have hcz13_1 : w12.cell? ⟨gb136, 1, none⟩ = some (.int .i64 0) := (blk_cell BK136.out 1).trans rfl; have hcz13_2 : w12.cell? ⟨gb136, 2, none⟩ = some (.int .i64 0) := (blk_cell BK136.out 2).trans rfl; have hfz13_0 := blk_frozen BK136.out 0; have hfz13_1 := blk_frozen BK136.out 1; have hfz13_2 := blk_frozen BK136.out 2))
      go_roundg k1
      case measure => have := HK1.out; omega
      case rel => exact ⟨(wrap64 (x7_1 + 1)), (by first | rfl | (simp; done) | (simp [*]; done)), H', ⟨by have := HK1.out; omega⟩, ⟨by (with_reducible repeat (first | apply Kd.R_alloc | apply Kd.R_drewN | apply Kd.R_drew)); exact Kd.R_mono (Kd.R_far (p := ⟨gb136, 2, none⟩) (Kd.R_far (p := ⟨gb136, 1, none⟩) (Kd.R_far (p := ⟨gb136, 0, none⟩) (Kd.R_mono HO_5.out (fun k_ hk => (⟨hk, hk.2⟩ : _ ∧ k_ ≠ gb136))) (fun _ hk => hk.2) (.int .i64 ((rd_T87 t132 x7_1).f0))) (fun _ hk => hk.2) (.int .i64 ((rd_T87 t132 x7_1).f1))) (fun _ hk => hk.2) (.int .i64 ((rd_T87 t132 x7_1).f2))) (fun _ hk => trivial)⟩, ⟨by repeat (first | (with_reducible first | exact HB.out | apply below_alloc | apply pw_below_drewN | apply below_drew1 | refine below_set ?_ GE136.out) | exact HB.out)⟩⟩

def fold_All.l0 : Nat → List Int → List Int → Int → Int → Option (List Int)
  | 0, _, _, _, _ => none
  | k + 1, x3, x6, x7, x8 => if x8 < x7 then (if 0 ≤ x8 then (if x8 < (x6.length : Int) then ((fold_Of.f k (rd x6 x8)).bind fun t138 => (if x3.length < 17592186044416 then (fold_All.l0 k (x3 ++ [t138]) x6 x7 (wrap64 (x8 + 1))) else (none))) else (none)) else (none)) else (some x3)
def fold_All.f (k : Nat) (l0 : List Int) : Option (List Int) := fold_All.l0 k ([] : List Int) l0 (l0.length : Int) 0
theorem fold_All.mono_l : ∀ k, (∀ y0 y1 y2 y3, LeO (fold_All.l0 k y0 y1 y2 y3) (fold_All.l0 (k + 1) y0 y1 y2 y3))
  | 0 => fun _ _ _ _ r h => by simp [fold_All.l0] at h
  | k + 1 => by
    have ih0 := fold_All.mono_l k
    · intro y0 y1 y2 y3
      unfold fold_All.l0
      repeat' first
      | (with_reducible exact ih0 _ _ _ _)
      | (with_reducible exact fold_Of.mono _ _)
      | (with_reducible exact LeO.refl _)
      | (with_reducible exact LeO.none _)
      | (with_reducible refine LeO.ite ?_ ?_)
      | (with_reducible refine LeO.bind ?_ (fun _ => ?_))
      | exact ih0 _ _ _ _
      | exact fold_Of.mono _ _
      | exact LeO.none _
      | refine LeO.ite ?_ ?_
      | refine LeO.bind ?_ (fun _ => ?_)
theorem fold_All.mono : ∀ a0 k, LeO (fold_All.f k a0) (fold_All.f (k + 1) a0) := by
  intro a0 k
  have ih0 := fold_All.mono_l k
  unfold fold_All.f
  repeat' first
      | (with_reducible exact ih0 _ _ _ _)
      | (with_reducible exact fold_Of.mono _ _)
      | (with_reducible exact LeO.refl _)
      | (with_reducible exact LeO.none _)
      | (with_reducible refine LeO.ite ?_ ?_)
      | (with_reducible refine LeO.bind ?_ (fun _ => ?_))
      | exact ih0 _ _ _ _
      | exact fold_Of.mono _ _
      | exact LeO.none _
      | refine LeO.ite ?_ ?_
      | refine LeO.bind ?_ (fun _ => ?_)
set_option maxHeartbeats 8000000 in
set_option maxRecDepth 100000 in
theorem fold_All.calls (k : Nat) (A0 : Option Addr) (c0 : Nat) (l0 : List Int) (r : List Int) (w : World) (hr0 : Kd.C (Kd.int .i64) w A0 l0.length l0) (hc0 : l0.length ≤ c0) (h : fold_All.f k l0 = some r) :
    Calls Try.prog 59 #[.slice A0 l0.length c0] w fun e w' => ∃ v0_ : Value, e = .returned (v0_) ∧ Kd.R (Kd.int .i64) 3 w' w.heap.size (fun _ => True) v0_ r ∧ Below w.heap.size w w' := by
  have HR0 := Aside0.mk hr0
  have HC0 := Aside0.mk hc0
  clear hr0 hc0
  have HB := Aside0.mk (Below.refl w.heap.size w)
  have H : (fold_All.l0 k ([] : List Int) l0 (l0.length : Int) 0) = some r := h
  clear h
  have H' := Aside0.mk H
  clear H
  go_enter Try.func59, Try.ntmps59
  go_wp2
  go_loopg [3, 8] k (fun kq v3 v8 w' => ∃ (x3_1 : List Int) (x8_1 : Int), v8 = .int .i64 x8_1 ∧ Aside0 (fold_All.l0 kq x3_1 l0 (l0.length : Int) x8_1 = some r) ∧ Aside0 (kq ≤ k) ∧ Aside0 (Kd.R (Kd.int .i64) 3 w' w.heap.size (fun _ => True) v3 x3_1) ∧ Aside0 (Below w.heap.size w w'))
  case atStart => exact ⟨(([] : List Int)), (0), (by first | rfl | (simp; done) | (simp [*]; done)), H', ⟨Nat.le_refl _⟩, ⟨by first | exact Kd.R_nil _ _ _ _ _ | exact Kd.N_nil _ _ _ _ _ | exact Kd.V_nil _ _ _ _ _ | exact Kd.Q_nil _ _ _ _ _ | exact Kd.S_nil _ _ _ _ _⟩, ⟨by repeat (first | (with_reducible first | exact HB.out | apply below_alloc | apply pw_below_drewN | apply below_drew1) | exact HB.out)⟩⟩
  case round =>
    clear H'
    obtain ⟨x3_1, x8_1, rfl, HA, HK1, HO_3, HB⟩ := hrel
    cases gk with
    | zero => exact absurd HA.out (by simp [fold_All.l0])
    | succ k1 =>
      have H := HA.out
      clear HA
      simp only [fold_All.l0] at H
      by_cases c2 : x8_1 < (l0.length : Int)
      rotate_left
      · rw [if_neg c2] at H
        have c2b0 : decide (x8_1 < (l0.length : Int)) = false := decide_eq_false c2
        clear c2
        obtain rfl := Option.some.inj H
        go_wp2
        go_ret
        exact ⟨_, by first | rfl | (simp [errW_none, errW_some] <;> rfl) | (simp [*, errW_none, errW_some] <;> rfl), by (with_reducible repeat (first | apply Kd.R_alloc | apply Kd.R_drewN | apply Kd.R_drew)); exact HO_3.out, by repeat (first | (with_reducible first | exact HB.out | apply below_alloc | apply pw_below_drewN | apply below_drew1) | exact HB.out)⟩
      rw [if_pos c2] at H
      have c2b0 : decide (x8_1 < (l0.length : Int)) = true := decide_eq_true c2
      clear c2
      by_cases c3 : 0 ≤ x8_1
      rotate_left
      · rw [if_neg c3] at H
        exact absurd H (by simp)
      rw [if_pos c3] at H
      have c3b0 : decide (0 ≤ x8_1) = true := decide_eq_true c3
      clear c3
      by_cases c4 : x8_1 < (l0.length : Int)
      rotate_left
      · rw [if_neg c4] at H
        exact absurd H (by simp)
      rw [if_pos c4] at H
      have c4b0 : decide (x8_1 < (l0.length : Int)) = true := decide_eq_true c4
      clear c4
      replace H := Option.bind_eq_some_iff.mp H
      obtain ⟨t138, A50, H⟩ := H
      replace H : (if x3_1.length < 17592186044416 then (fold_All.l0 k1 (x3_1 ++ [t138]) l0 (l0.length : Int) (wrap64 (x8_1 + 1))) else (none)) = some r := H
      have A5 := Aside0.mk A50
      clear A50
      by_cases c6 : x3_1.length < 17592186044416
      rotate_left
      · rw [if_neg c6] at H
        exact absurd H (by simp)
      rw [if_pos c6] at H
      have LMc6 := Aside0.mk c6
      clear c6
      obtain ⟨y139, hy139⟩ : ∃ y_ : List Int, y_ = (x3_1 ++ [t138]) := ⟨_, rfl⟩
      replace H : (fold_All.l0 k1 y139 l0 (l0.length : Int) (wrap64 (x8_1 + 1))) = some r := by first | (rw [hy139]; with_reducible exact H) | (have H2_ := (Option.bind_some _ _).symm.trans H; rw [hy139]; with_reducible exact H2_) | (have H2_ := (Option.bind_some _ _).symm.trans H; with_reducible exact H2_) | with_reducible exact H | (rw [hy139]; exact H) | exact H
      have Ny139 := Aside0.mk hy139
      clear hy139
      have H' := Aside0.mk H
      clear H
      have p137 : 0 ≤ (x8_1 : Int) := of_decide_eq_true (by first | (with_reducible assumption) | assumption)
      have q137 : x8_1 < (l0.length : Int) := of_decide_eq_true (by first | (with_reducible assumption) | assumption)
      obtain ⟨ad137, e137, hx137_0⟩ := Kd.at_int HR0.out x8_1 p137 q137
      cases e137
      replace hx137_0 := (HB.out.cell (World.block_lt_of_cell? w _ hx137_0)).trans hx137_0
      replace p137 := eq_true p137
      replace q137 := eq_true q137
      go_wp2_with (first | ((with_reducible refine gate_callee (f := 74) rfl ?_); refine goesL_ (some 14) rfl rfl Try.func74 (by kernel_rfl) rfl #[.int .i64 (rd l0 x8_1)] rfl (by (try simp only [List.map_toArray, List.map_cons, List.map_nil]); first | done | rfl | (simp only [List.length_drop, List.length_take]; rfl)) ?_; (with_reducible refine (fold_Of.calls k1 (rd l0 x8_1) t138 _ A5.out).mono ?_); rintro e w7 ⟨rfl, hb⟩; refine ⟨_, rfl, ?_⟩; have n0_ := Aside0.mk (Kd.R_below (by (with_reducible repeat (first | apply Kd.R_alloc | apply Kd.R_drewN | apply Kd.R_drew)); exact HO_3.out) hb); have n1_ := Aside0.mk (below_step (by repeat (first | (with_reducible first | exact HB.out | apply below_alloc | apply pw_below_drewN | apply below_drew1) | exact HB.out)) hb); clear HO_3; clear HB; have HO_3 := n0_; have HB := n1_; clear n0_ n1_; (try clear hb); (try clear hb2); (try clear hk); (try clear hi)) | ((with_reducible refine gate_builtin (b := .append) (xs := #[.tmp 12, .tmp 15]) rfl ?_); at_builtin; refine Kd.R_append (Kd.int .i64) (w0 := w) w.heap.size rfl (.tmp 12) (.tmp 15) 22 3 (.int .i64 0) 8 rfl Try.underlying22 info3 rfl (by decide) (by omega) u3 x3_1 t138 [.int .i64 t138] (fun _ => True) (fun _ => False) rfl rfl ?aP (fun _ hk => hk.elim) ?aF ?aO ?aB ?aS ?aL ?_; (case aP => exact rfl); (case aB => exact (by repeat (first | (with_reducible first | exact HB.out | apply below_alloc | apply pw_below_drewN | apply below_drew1) | exact HB.out))); (case aF => exact (fun _ _ => trivial)); (case aO => exact (by (with_reducible repeat (first | apply Kd.R_alloc | apply Kd.R_drewN | apply Kd.R_drew)); exact HO_3.out)); (case aS => exact (below_size (by repeat (first | (with_reducible first | exact HB.out | apply below_alloc | apply pw_below_drewN | apply below_drew1) | exact HB.out)))); (case aL => have := LMc6.out; omega); intro v140 w8 ho hb hg hat; rw [← Ny139.out] at ho; have n0_ := Aside0.mk (hb); have n1_ := Aside0.mk (ho); clear HB; clear HO_3; have HB := n0_; have HO141 := n1_; clear n0_ n1_; clear ho hb hg hat))
      go_roundg k1
      case measure => have := HK1.out; omega
      case rel => exact ⟨(y139), (wrap64 (x8_1 + 1)), (by first | rfl | (simp; done) | (simp [*]; done)), H', ⟨by have := HK1.out; omega⟩, ⟨by (with_reducible repeat (first | apply Kd.R_alloc | apply Kd.R_drewN | apply Kd.R_drew)); exact HO141.out⟩, ⟨by repeat (first | (with_reducible first | exact HB.out | apply below_alloc | apply pw_below_drewN | apply below_drew1) | exact HB.out)⟩⟩

-- NOT PRINTED: function 80 (pair_brackets)

end Go.Proofs.Ythgmkbghdobmlaa.P
namespace Go.Proofs.Ythgmkbghdobmlaa.P
open Go.RowKit Go.Proofs.YthgmkbghdobmlaaW.PrintWords Go.Proofs.YthgmkbghdobmlaaW.PrintLast Go.Proofs.YthgmkbghdobmlaaW.PrintMore
set_option linter.unusedVariables false
set_option linter.unusedSimpArgs false

/-- A character's class. -/
def cls (c : Int) : Int := swFrom c class_reaches.tbl

theorem u64_id {x : Int} (h0 : 0 ≤ x) (h1 : x < 9223372036854775808) : IntKind.u64.wrap x = x := by
  show (x % 18446744073709551616) = x
  omega
theorem half_id {i j : Nat} (h : i ≤ 90) (h2 : j ≤ 90) : wrap64 ((IntKind.u64.wrap (wrap64 ((i : Int) + (j : Int)))) / 2) = (((i + j) / 2 : Nat) : Int) := by
  rw [wrap_id (x := (i : Int) + (j : Int)) (by omega) (by omega), u64_id (by omega) (by omega), wrap_id (by omega) (by omega)]
  omega
def tlo (i : Nat) : Int := (class_reaches.tbl.getD i (0, 0, 0)).1
def thi (i : Nat) : Int := (class_reaches.tbl.getD i (0, 0, 0)).2.1
def tcl (i : Nat) : Int := (class_reaches.tbl.getD i (0, 0, 0)).2.2
theorem t_len : class_reaches.tbl.length = 90 := by decide +kernel
theorem tr_len : (class_reaches.tbl.map class_reaches.row).length = 90 := by rw [List.length_map, t_len]
theorem t_up : ∀ i < 89, thi i < tlo (i + 1) := by decide +kernel
theorem t_in : ∀ i < 90, tlo i ≤ thi i := by decide +kernel
theorem t_mono (b : Nat) : ∀ a, a < b → b < 90 → thi a < tlo b := by
  induction b with
  | zero => intro a h; omega
  | succ b ih =>
    intro a h hb
    have h1 := t_up b (by omega)
    by_cases e : a = b
    · subst e
      exact h1
    · have h2 := ih a (by omega) (by omega)
      have h3 := t_in b (by omega)
      omega
theorem rd_row (i : Nat) (h : i < 90) : rd_T82 (class_reaches.tbl.map class_reaches.row) (i : Int) = ⟨tlo i, thi i, tcl i⟩ := by
  unfold rd_T82 tlo thi tcl
  rw [Int.toNat_natCast, List.getD_eq_getElem?_getD, List.getElem?_map, List.getD_eq_getElem?_getD, List.getElem?_eq_getElem (by rw [t_len]; exact h)]
  rfl
theorem find_loop (c : Int) (d : Nat) : ∀ (k i j : Nat), i ≤ j → j ≤ 90 → j - i ≤ d → d < k → (∀ a, a < i → thi a < c) → (∀ a, j ≤ a → a < 90 → c ≤ thi a) →
    ∃ m : Nat, m ≤ 90 ∧ (∀ a, a < m → thi a < c) ∧ (∀ a, m ≤ a → a < 90 → c ≤ thi a) ∧
      slices_BinarySearchFunc_class_reach_int_class_find_1.l0 k (class_reaches.tbl.map class_reaches.row) c (90 : Int) (i : Int) (j : Int) = some ((m : Int), decide (m < 90 ∧ tlo m ≤ c)) := by
  induction d with
  | zero =>
    intro k i j hij hj hd hk hlo hhi
    obtain ⟨k, rfl⟩ : ∃ m, k = m + 1 := ⟨k - 1, by omega⟩
    obtain rfl : i = j := by omega
    refine ⟨i, hj, hlo, hhi, ?_⟩
    simp only [slices_BinarySearchFunc_class_reach_int_class_find_1.l0]
    rw [if_neg (by omega)]
    by_cases hi : i < 90
    · have h2 := hhi i (Nat.le_refl _) hi
      rw [if_pos (by omega), if_pos (by omega), if_pos (by rw [tr_len]; omega), rd_row i hi]
      dsimp only [class_find_1.f]
      rw [if_neg (by omega)]
      by_cases h3 : tlo i ≤ c
      · rw [if_neg (by omega)]
        simp [hi, h3]
      · rw [if_pos (by omega)]
        simp [hi, h3]
    · rw [if_neg (by omega)]
      simp [hi]
  | succ d ih =>
    intro k i j hij hj hd hk hlo hhi
    obtain ⟨k, rfl⟩ : ∃ m, k = m + 1 := ⟨k - 1, by omega⟩
    by_cases e : i = j
    · subst e
      exact ih (k + 1) i i (Nat.le_refl _) hj (by omega) (by omega) hlo hhi
    · simp only [slices_BinarySearchFunc_class_reach_int_class_find_1.l0]
      rw [if_pos (by omega), half_id (by omega) (by omega), if_pos (by omega), if_pos (by rw [tr_len]; omega), rd_row ((i + j) / 2) (by omega)]
      dsimp only [class_find_1.f]
      by_cases h1 : thi ((i + j) / 2) < c
      · rw [if_pos h1]
        simp only [Option.bind_some]
        rw [if_pos (by decide), wrap_succ _ (by omega)]
        refine ih k ((i + j) / 2 + 1) j (by omega) hj (by omega) (by omega) (fun a ha => ?_) hhi
        by_cases ea : a = (i + j) / 2
        · subst ea
          exact h1
        · have h4 := t_mono ((i + j) / 2) a (by omega) (by omega)
          have h5 := t_in ((i + j) / 2) (by omega)
          omega
      · have hh : ∀ a, (i + j) / 2 ≤ a → a < 90 → c ≤ thi a := by
          intro a ha hb
          by_cases ea : a = (i + j) / 2
          · subst ea
            omega
          · have h4 := t_mono a ((i + j) / 2) (by omega) (by omega)
            have h5 := t_in a (by omega)
            omega
        rw [if_neg h1]
        by_cases h2 : tlo ((i + j) / 2) > c
        · rw [if_pos h2]
          simp only [Option.bind_some]
          rw [if_neg (by decide)]
          exact ih k i ((i + j) / 2) (by omega) (by omega) (by omega) (by omega) hlo hh
        · rw [if_neg h2]
          simp only [Option.bind_some]
          rw [if_neg (by decide)]
          exact ih k i ((i + j) / 2) (by omega) (by omega) (by omega) (by omega) hlo hh
theorem sw_skip (c : Int) : ∀ (l : List (Int × Int × Int)) (m : Nat), (∀ a, a < m → a < l.length → ¬ ((l.getD a (0, 0, 0)).1 ≤ c ∧ c ≤ (l.getD a (0, 0, 0)).2.1)) → swFrom c l = swFrom c (l.drop m)
  | l, 0, _ => by simp
  | [], m + 1, _ => by simp
  | x :: l, m + 1, h => by
    have h0 := h 0 (by omega) (by simp)
    simp only [List.getD_cons_zero] at h0
    simp only [swFrom, List.drop_succ_cons]
    rw [if_neg h0]
    exact sw_skip c l m fun a ha hl => by
      have := h (a + 1) (by omega) (by simpa using hl)
      simpa using this
theorem cls_eq (c : Int) (m : Nat) (hm : m ≤ 90) (hlo : ∀ a, a < m → thi a < c) (hhi : ∀ a, m ≤ a → a < 90 → c ≤ thi a) : cls c = if m < 90 ∧ tlo m ≤ c then tcl m else 0 := by
  unfold cls
  rw [sw_skip c class_reaches.tbl m fun a ha _ h => by have := hlo a ha; unfold thi at this; omega]
  by_cases h : m < 90
  · rw [List.drop_eq_getElem_cons (by rw [t_len]; exact h)]
    have e : class_reaches.tbl[m]'(by rw [t_len]; exact h) = (tlo m, thi m, tcl m) := by
      unfold tlo thi tcl
      rw [List.getD_eq_getElem?_getD, List.getElem?_eq_getElem (by rw [t_len]; exact h)]
      rfl
    rw [e]
    simp only [swFrom]
    by_cases h2 : tlo m ≤ c
    · rw [if_pos ⟨h2, hhi m (Nat.le_refl _) h⟩, if_pos ⟨h, h2⟩]
    · rw [if_neg (fun q => h2 q.1), if_neg (fun q => h2 q.2)]
      have h3 := sw_skip c (class_reaches.tbl.drop (m + 1)) 90 fun a ha hl q => by
        rw [List.length_drop, t_len] at hl
        have h4 := t_mono (m + 1 + a) m (by omega) (by omega)
        have h5 := hhi m (Nat.le_refl _) h
        have h6 := t_in m h
        rw [List.getD_eq_getElem?_getD, List.getElem?_drop] at q
        have h7 : tlo (m + 1 + a) ≤ c := by
          unfold tlo
          rw [List.getD_eq_getElem?_getD]
          exact q.1
        omega
      rw [h3, List.drop_eq_nil_of_le (by rw [List.length_drop, t_len]; omega)]
      rfl
  · rw [if_neg (fun q => h q.1), List.drop_eq_nil_of_le (by rw [t_len]; omega)]
    rfl
theorem find_eq (k : Nat) (hk : 91 ≤ k) (c : Int) : class_find.f k (class_reaches.tbl.map class_reaches.row) c = some (cls c) := by
  obtain ⟨m, hm, hlo, hhi, h⟩ := find_loop c 90 k 0 90 (by omega) (by omega) (by omega) (by omega) (fun a ha => by omega) (fun a ha hb => by omega)
  unfold class_find.f slices_BinarySearchFunc_class_reach_int_class_find_1.f
  rw [tr_len]
  have h' : slices_BinarySearchFunc_class_reach_int_class_find_1.l0 k (class_reaches.tbl.map class_reaches.row) c ((90 : Nat) : Int) 0 ((90 : Nat) : Int) = some ((m : Int), decide (m < 90 ∧ tlo m ≤ c)) := h
  rw [h', cls_eq c m hm hlo hhi]
  simp only [Option.bind_some]
  by_cases q : m < 90 ∧ tlo m ≤ c
  · rw [if_pos (by simpa using q), if_pos (by omega), if_pos (by omega), if_pos q, rd_row m q.1]
  · rw [if_neg (by simpa using q), if_neg q]
theorem class_of_eq (k : Nat) (hk : 91 ≤ k) (c : Int) : class_Of.f k c = some (cls c) := by
  unfold class_Of.f class_reaches.f
  simp only [Option.bind_some]
  rw [find_eq k hk]
  rfl
def classes : List Int := [0, 1, 2, 3, 4, 5, 6, 7, 8, 9, 10, 11, 12, 13, 14, 15, 16, 17, 18, 19, 20, 21, 22]
theorem in_classes {k : Int} (h0 : 0 ≤ k) (h1 : k ≤ 22) : k ∈ classes := by
  simp only [classes, List.mem_cons, List.not_mem_nil, or_false]
  omega
/-- What holds of every class, and of all that is none, holds. -/
theorem by_class (P : Int → Prop) (hin : ∀ k ∈ classes, P k) (hout : ∀ k, k < 0 ∨ 22 < k → P k) (k : Int) : P k := by
  by_cases h : 0 ≤ k ∧ k ≤ 22
  · exact hin k (in_classes h.1 h.2)
  · exact hout k (by omega)
theorem in_out (k b : Int) (h : k < 0 ∨ 22 < k) : class_in.f k b = some false := by
  unfold class_in.f
  by_cases h1 : k ≥ 0
  · rw [if_pos h1, if_neg (by omega)]
  · rw [if_neg h1]
def outK (k : Int) : Bool := decide (k ∈ [14, 15, 16, 17, 18, 9])
theorem out_eq0 (k : Int) : class_Out.f 8 k = some (outK k) := by
  revert k
  refine by_class _ (by decide +kernel) fun k h => ?_
  obtain ⟨b, hb⟩ : ∃ b, class_set.f 8 ([14, 15, 16, 17, 18, 9] : List Int) = some b := Option.isSome_iff_exists.1 (by decide +kernel)
  have e : outK k = false := by
    unfold outK
    rw [decide_eq_false_iff_not]
    simp only [List.mem_cons, List.not_mem_nil, or_false]
    omega
  unfold class_Out.f
  rw [hb, e]
  simp only [Option.bind_some]
  rw [in_out k b h]
  rfl
theorem out_eq (n : Nat) (hn : 8 ≤ n) (k : Int) : class_Out.f n k = some (outK k) := more (class_Out.mono k) 8 n hn _ (out_eq0 k)

end Go.Proofs.Ythgmkbghdobmlaa.P
namespace Go.Proofs.Ythgmkbghdobmlaa.P
open Go.RowKit Go.Proofs.YthgmkbghdobmlaaW.PrintWords Go.Proofs.YthgmkbghdobmlaaW.PrintLast Go.Proofs.YthgmkbghdobmlaaW.PrintMore
set_option linter.unusedVariables false
set_option linter.unusedSimpArgs false

def opnK (k : Int) : Bool := decide (k ∈ [19, 20, 21])
theorem opens_eq0 (k : Int) : class_Opens.f 8 k = some (opnK k) := by
  revert k
  refine by_class _ (by decide +kernel) fun k h => ?_
  obtain ⟨b, hb⟩ : ∃ b, class_set.f 8 ([19, 20, 21] : List Int) = some b := Option.isSome_iff_exists.1 (by decide +kernel)
  have e : opnK k = false := by
    unfold opnK
    rw [decide_eq_false_iff_not]
    simp only [List.mem_cons, List.not_mem_nil, or_false]
    omega
  unfold class_Opens.f
  rw [hb, e]
  simp only [Option.bind_some]
  rw [in_out k b h]
  rfl
theorem opens_eq (n : Nat) (hn : 8 ≤ n) (k : Int) : class_Opens.f n k = some (opnK k) := more (class_Opens.mono k) 8 n hn _ (opens_eq0 k)
def ctlK (k : Int) : Bool := (k == 22) || opnK k || outK k
/-- Is a character a control? -/
def ctl (c : Int) : Bool := ctlK (cls c)
def nctl (c : Int) : Bool := !ctl c
theorem control_eq (k : Nat) (hk : 91 ≤ k) (c : Int) : norm_Control.f k c = some (ctl c) := by
  unfold norm_Control.f ctl ctlK
  rw [class_of_eq k hk]
  simp only [Option.bind_some]
  by_cases h : cls c = 22
  · rw [if_pos h, h]
    rfl
  · have hb : (cls c == 22) = false := by simpa using h
    rw [if_neg h, opens_eq k (by omega), hb]
    simp only [Option.bind_some, out_eq k (show 8 ≤ k by omega)]
    cases opnK (cls c) <;> simp
end Go.Proofs.Ythgmkbghdobmlaa.P
namespace Go.Proofs.Ythgmkbghdobmlaa.P
open Go.RowKit Go.Proofs.YthgmkbghdobmlaaW.PrintWords Go.Proofs.YthgmkbghdobmlaaW.PrintLast Go.Proofs.YthgmkbghdobmlaaW.PrintMore
set_option linter.unusedVariables false
set_option linter.unusedSimpArgs false

def swap_Plain.f (l0 : List Int) : Option (List Int) := if l0.length < 17592186044416 then some (l0.filter nctl) else none
theorem swap_Plain.calls (A0 : Option Addr) (c0 : Nat) (l0 : List Int) (r : List Int) (w : World) (hr0 : Kd.C (Kd.int .i64) w A0 l0.length l0) (hc0 : l0.length ≤ c0) (h : swap_Plain.f l0 = some r) :
    Calls Try.prog 17 #[.slice A0 l0.length c0] w fun e w' => ∃ v0_ : Value, e = .returned (v0_) ∧ Kd.R (Kd.int .i64) 3 w' w.heap.size (fun _ => True) v0_ r ∧ Below w.heap.size w w' := by
  have hl : l0.length < 17592186044416 := by
    unfold swap_Plain.f at h
    by_cases hl : l0.length < 17592186044416
    · exact hl
    · rw [if_neg hl] at h
      cases h
  obtain rfl : l0.filter nctl = r := by
    unfold swap_Plain.f at h
    rw [if_pos hl] at h
    exact Option.some.inj h
  clear h
  have hcl := slices_Clone_int.calls A0 c0 l0 l0 w hr0 hc0 (by unfold slices_Clone_int.f; rw [if_pos hl])
  have ht : TestB 32 #[] ctl := fun x W => norm_Control.calls 91 x _ W (control_eq 91 (Nat.le_refl _) x)
  have hdel : ∀ (A : Option Addr) (c : Nat) (W : World), Kd.R (Kd.int .i64) 3 W w.heap.size (fun _ => True) (.slice A l0.length c) l0 → Below w.heap.size w W → _ := fun A c W h1 h2 => del_func.calls 32 #[] ctl A c l0 w W h1 h2 hl ht (fun x W => by rfl)
  have hf : (l0.filter fun x => !(ctl x)) = l0.filter nctl := rfl
  rw [hf] at hdel
  clear hf ht hr0 hc0
  go_enter Try.func17, Try.ntmps17
  go_wp2_with (first
    | (go_at_call 31; (with_reducible refine hcl.mono ?_); rintro e w' ⟨v1, rfl, hq, hb⟩; obtain ⟨A2, c2, rfl⟩ := Kd.R_slice hq; have HB := Aside0.mk hb; have HQ := Aside0.mk hq; clear hq hb)
    | (go_at_call 30; (with_reducible refine (hdel _ _ _ HQ.out HB.out).mono ?_); rintro e w' ⟨v2, rfl, hq, hb⟩; obtain ⟨A3, c3, rfl⟩ := Kd.R_slice hq; have HB3 := Aside0.mk hb; have HQ3 := Aside0.mk hq; clear hq hb))
  go_ret
  exact ⟨_, rfl, HQ3.out, HB3.out⟩
end Go.Proofs.Ythgmkbghdobmlaa.P
