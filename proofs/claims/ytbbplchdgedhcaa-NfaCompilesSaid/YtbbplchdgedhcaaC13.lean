/- Texts of this claim put together by a program of its own (Px8), what the law does not use left out: each part's statements bear their own conditions. -/
import Derived.Test.YtbbplchdgedhcaaC12
namespace Go.Proofs.Ytbbplchdgedhcaa.P
open Go.RowKit Go.Proofs.YtbbplchdgedhcaaW.PrintWords Go.Proofs.YtbbplchdgedhcaaW.PrintLast Go.Proofs.YtbbplchdgedhcaaW.PrintMore
attribute [local go_sem] max2_int min2_int max_two min_two
set_option linter.unusedVariables false
set_option linter.unusedSimpArgs false

mutual
def ductusref19_lay.l0 : Nat → Int → List (S39) → Int → Int → List (S42) → Int → Int → List (S25) → Option ((List (S39)))
  | 0, _, _, _, _, _, _, _, _ => none
  | k + 1, x1, x5, x6, x133000, x133001, x133002, x133003, x133004 => if x6 < (x133004.length : Int) then (if 0 ≤ x6 then ((ductusref19_lay.f k ((rd_T25 x133004 x6).f0) ((rd_T25 x133004 x6).f1) ((rd_T25 x133004 x6).f2) ((rd_T25 x133004 x6).f3) ((rd_T25 x133004 x6).f4) (wrap64 (x1 + (x5.length : Int)))).bind fun t143 => (if x5.length + t143.length < 2932031007402 then (ductusref19_lay.l0 k x1 (x5 ++ t143) (wrap64 (x6 + 1)) x133000 x133001 x133002 x133003 x133004) else (none))) else (none)) else (some x5)
def ductusref19_lay.l1 : Nat → Int → List (S39) → List Int → Int → Int → List (S42) → Int → Int → List (S25) → Option ((List (S39)))
  | 0, _, _, _, _, _, _, _, _, _ => none
  | k + 1, x1, x5, x7, x8, x133000, x133001, x133002, x133003, x133004 => if x8 < (x133004.length : Int) then (if x8 = (wrap64 ((x133004.length : Int) - 1)) then (if 0 ≤ x8 then ((ductusref19_lay.f k ((rd_T25 x133004 x8).f0) ((rd_T25 x133004 x8).f1) ((rd_T25 x133004 x8).f2) ((rd_T25 x133004 x8).f3) ((rd_T25 x133004 x8).f4) (wrap64 (x1 + (x5.length : Int)))).bind fun t150 => (if x5.length + t150.length < 2932031007402 then (ductusref19_lay.l1 k x1 (x5 ++ t150) x7 (wrap64 (x8 + 1)) x133000 x133001 x133002 x133003 x133004) else (none))) else (none)) else (if 0 ≤ x8 then ((ductusref19_lay.f k ((rd_T25 x133004 x8).f0) ((rd_T25 x133004 x8).f1) ((rd_T25 x133004 x8).f2) ((rd_T25 x133004 x8).f3) ((rd_T25 x133004 x8).f4) (wrap64 ((wrap64 (x1 + (x5.length : Int))) + 1))).bind fun t157 => (if x5.length < 2932031007402 then ((some (x5 ++ [(⟨2, ([] : List (S42)), wrap64 ((wrap64 (x1 + (x5.length : Int))) + 1), wrap64 ((wrap64 ((wrap64 (x1 + (x5.length : Int))) + 2)) + (t157.length : Int))⟩ : S39)] : List (S39))).bind fun y160 => (if y160.length + t157.length < 2932031007402 then ((some (y160 ++ t157 : List (S39))).bind fun y163 => (if x7.length < 17592186044416 then (if y163.length < 2932031007402 then (ductusref19_lay.l1 k x1 (y163 ++ [(⟨3, ([] : List (S42)), 0, 0⟩ : S39)]) (x7 ++ [(y163.length : Int)]) (wrap64 (x8 + 1)) x133000 x133001 x133002 x133003 x133004) else (none)) else (none))) else (none))) else (none))) else (none))) else (ductusref19_lay.l2 k x1 x5 x7 0)
def ductusref19_lay.l2 : Nat → Int → List (S39) → List Int → Int → Option ((List (S39)))
  | 0, _, _, _, _ => none
  | k + 1, x1, x5, x7, x11 => if x11 < (x7.length : Int) then (if 0 ≤ x11 then (if 0 ≤ (rd x7 x11) then (if (rd x7 x11) < (x5.length : Int) then (ductusref19_lay.l2 k x1 (x5.set ((rd x7 x11) : Int).toNat (⟨(rd_T39 x5 (rd x7 x11)).f0, (rd_T39 x5 (rd x7 x11)).f1, wrap64 (x1 + (x5.length : Int)), (rd_T39 x5 (rd x7 x11)).f3⟩ : S39)) x7 (wrap64 (x11 + 1))) else (none)) else (none)) else (none)) else (some x5)
def ductusref19_lay.l3 : Nat → Int → List (S39) → Int → Int → List (S42) → Int → Int → List (S25) → Option ((List (S39)))
  | 0, _, _, _, _, _, _, _, _ => none
  | k + 1, x1, x5, x12, x133000, x133001, x133002, x133003, x133004 => if x12 < x133002 then (if 0 < (x133004.length : Int) then ((ductusref19_lay.f k ((rd_T25 x133004 0).f0) ((rd_T25 x133004 0).f1) ((rd_T25 x133004 0).f2) ((rd_T25 x133004 0).f3) ((rd_T25 x133004 0).f4) (wrap64 (x1 + (x5.length : Int)))).bind fun t175 => (if x5.length + t175.length < 2932031007402 then (ductusref19_lay.l3 k x1 (x5 ++ t175) (wrap64 (x12 + 1)) x133000 x133001 x133002 x133003 x133004) else (none))) else (none)) else (if x133003 < 0 then (if 0 < (x133004.length : Int) then ((ductusref19_lay.f k ((rd_T25 x133004 0).f0) ((rd_T25 x133004 0).f1) ((rd_T25 x133004 0).f2) ((rd_T25 x133004 0).f3) ((rd_T25 x133004 0).f4) (wrap64 ((wrap64 (x1 + (x5.length : Int))) + 1))).bind fun t182 => (if x5.length < 2932031007402 then ((some (x5 ++ [(⟨2, ([] : List (S42)), wrap64 ((wrap64 (x1 + (x5.length : Int))) + 1), wrap64 ((wrap64 ((wrap64 (x1 + (x5.length : Int))) + 2)) + (t182.length : Int))⟩ : S39)] : List (S39))).bind fun y185 => (if y185.length + t182.length < 2932031007402 then ((some (y185 ++ t182 : List (S39))).bind fun y188 => (if y188.length < 2932031007402 then (some (y188 ++ [(⟨3, ([] : List (S42)), wrap64 (x1 + (x5.length : Int)), 0⟩ : S39)])) else (none))) else (none))) else (none))) else (none)) else (ductusref19_lay.l4 k x1 x5 ([] : List Int) x133002 x133000 x133001 x133002 x133003 x133004))
def ductusref19_lay.l4 : Nat → Int → List (S39) → List Int → Int → Int → List (S42) → Int → Int → List (S25) → Option ((List (S39)))
  | 0, _, _, _, _, _, _, _, _, _ => none
  | k + 1, x1, x5, x15, x16, x133000, x133001, x133002, x133003, x133004 => if x16 < x133003 then (if x15.length < 17592186044416 then (if x5.length < 2932031007402 then ((some (x5 ++ [(⟨2, ([] : List (S42)), wrap64 ((wrap64 (x1 + (x5.length : Int))) + 1), 0⟩ : S39)] : List (S39))).bind fun y197 => (if 0 < (x133004.length : Int) then ((ductusref19_lay.f k ((rd_T25 x133004 0).f0) ((rd_T25 x133004 0).f1) ((rd_T25 x133004 0).f2) ((rd_T25 x133004 0).f3) ((rd_T25 x133004 0).f4) (wrap64 (x1 + (y197.length : Int)))).bind fun t201 => (if y197.length + t201.length < 2932031007402 then (ductusref19_lay.l4 k x1 (y197 ++ t201) (x15 ++ [(x5.length : Int)]) (wrap64 (x16 + 1)) x133000 x133001 x133002 x133003 x133004) else (none))) else (none))) else (none)) else (none)) else (ductusref19_lay.l5 k x1 x5 x15 0)
def ductusref19_lay.l5 : Nat → Int → List (S39) → List Int → Int → Option ((List (S39)))
  | 0, _, _, _, _ => none
  | k + 1, x1, x5, x15, x17 => if x17 < (x15.length : Int) then (if 0 ≤ x17 then (if 0 ≤ (rd x15 x17) then (if (rd x15 x17) < (x5.length : Int) then (ductusref19_lay.l5 k x1 (x5.set ((rd x15 x17) : Int).toNat (⟨(rd_T39 x5 (rd x15 x17)).f0, (rd_T39 x5 (rd x15 x17)).f1, (rd_T39 x5 (rd x15 x17)).f2, wrap64 (x1 + (x5.length : Int))⟩ : S39)) x15 (wrap64 (x17 + 1))) else (none)) else (none)) else (none)) else (some x5)
def ductusref19_lay.f : Nat → Int → List (S42) → Int → Int → List (S25) → Int → Option ((List (S39)))
  | 0, _, _, _, _, _, _ => none
  | k + 1, a0_0, l0_1, a0_2, a0_3, l0_4, a1 => if a0_0 = 2 then (if ([] : List (S39)).length < 2932031007402 then (some (([] : List (S39)) ++ [(⟨1, l0_1, 0, 0⟩ : S39)])) else (none)) else (if a0_0 = 6 then (if ([] : List (S39)).length < 2932031007402 then (some (([] : List (S39)) ++ [(⟨4, ([] : List (S42)), 0, 0⟩ : S39)])) else (none)) else (if a0_0 = 7 then (if ([] : List (S39)).length < 2932031007402 then (some (([] : List (S39)) ++ [(⟨5, ([] : List (S42)), 0, 0⟩ : S39)])) else (none)) else (if a0_0 = 3 then (ductusref19_lay.l0 k a1 ([] : List (S39)) 0 a0_0 l0_1 a0_2 a0_3 l0_4) else (if a0_0 = 4 then (ductusref19_lay.l1 k a1 ([] : List (S39)) ([] : List Int) 0 a0_0 l0_1 a0_2 a0_3 l0_4) else (if a0_0 = 5 then (ductusref19_lay.l3 k a1 ([] : List (S39)) 0 a0_0 l0_1 a0_2 a0_3 l0_4) else (some ([] : List (S39))))))))
end
set_option maxHeartbeats 8000000 in
set_option maxRecDepth 100000 in
theorem ductusref19_lay.calls (k : Nat) : ∀ (a0_0 : Int) (P0_1_ : Nat → Prop) (A0_1 : Option Addr) (c0_1 : Nat) (l0_1 : List (S42)) (a0_2 : Int) (a0_3 : Int) (P0_4_ : Nat → Prop) (A0_4 : Option Addr) (c0_4 : Nat) (l0_4 : List (S25)) (a1 : Int) (r : List (S39)) (w : World) (hs0_1 : Kd.V k42 42 w w.heap.size (fun k_ => P0_1_ k_) (.slice A0_1 l0_1.length c0_1) l0_1) (hs0_4 : Kd.V k25 25 w w.heap.size (fun k_ => P0_4_ k_) (.slice A0_4 l0_4.length c0_4) l0_4) (h : ductusref19_lay.f k a0_0 l0_1 a0_2 a0_3 l0_4 a1 = some r),
    Calls Try.prog 23 #[.agg #[.int .i64 a0_0, .slice A0_1 l0_1.length c0_1, .int .i64 a0_2, .int .i64 a0_3, .slice A0_4 l0_4.length c0_4], .int .i64 a1] w fun e w' => ∃ v0_ : Value, e = .returned (v0_) ∧ Kd.N k39 39 w' w.heap.size (fun k_ => ((P0_1_ k_ ∨ P0_4_ k_) ∨ w.heap.size ≤ k_)) v0_ r ∧ Below w.heap.size w w' := by
  induction k using Nat.strongRecOn with
  | _ k ih =>
  intro a0_0 P0_1_ A0_1 c0_1 l0_1 a0_2 a0_3 P0_4_ A0_4 c0_4 l0_4 a1 r w hs0_1 hs0_4 h
  cases k with
  | zero => exact absurd h (by simp [ductusref19_lay.f])
  | succ k =>
  simp only [ductusref19_lay.f] at h
  have hu25 := Try.underlying25
  have hu39 := Try.underlying39
  have HO0_1 := Aside0.mk (show Kd.V k42 42 w w.heap.size (fun k_ => ((P0_1_ k_ ∨ P0_4_ k_) ∨ w.heap.size ≤ k_)) (.slice A0_1 l0_1.length c0_1) l0_1 from Kd.V_mono hs0_1 (fun k_ hk => .inl (.inl hk)))
  have HO0_4 := Aside0.mk (show Kd.V k25 25 w w.heap.size (fun k_ => ((P0_1_ k_ ∨ P0_4_ k_) ∨ w.heap.size ≤ k_)) (.slice A0_4 l0_4.length c0_4) l0_4 from Kd.V_mono hs0_4 (fun k_ hk => .inl (.inr hk)))
  have HB := Aside0.mk (Below.refl w.heap.size w)
  have H : (if a0_0 = 2 then (if ([] : List (S39)).length < 2932031007402 then (some (([] : List (S39)) ++ [(⟨1, l0_1, 0, 0⟩ : S39)])) else (none)) else (if a0_0 = 6 then (if ([] : List (S39)).length < 2932031007402 then (some (([] : List (S39)) ++ [(⟨4, ([] : List (S42)), 0, 0⟩ : S39)])) else (none)) else (if a0_0 = 7 then (if ([] : List (S39)).length < 2932031007402 then (some (([] : List (S39)) ++ [(⟨5, ([] : List (S42)), 0, 0⟩ : S39)])) else (none)) else (if a0_0 = 3 then (ductusref19_lay.l0 k a1 ([] : List (S39)) 0 a0_0 l0_1 a0_2 a0_3 l0_4) else (if a0_0 = 4 then (ductusref19_lay.l1 k a1 ([] : List (S39)) ([] : List Int) 0 a0_0 l0_1 a0_2 a0_3 l0_4) else (if a0_0 = 5 then (ductusref19_lay.l3 k a1 ([] : List (S39)) 0 a0_0 l0_1 a0_2 a0_3 l0_4) else (some ([] : List (S39))))))))) = some r := h
  clear h
  by_cases c3 : a0_0 = 2
  · rw [if_pos c3] at H
    have c3b0 : (a0_0 == 2) = true := beq_iff_eq.mpr c3
    have c3b1 : (a0_0 != 2) = false := bne_eq_false_iff_eq.mpr c3
    clear c3
    by_cases c4 : ([] : List (S39)).length < 2932031007402
    rotate_left
    · rw [if_neg c4] at H
      exact absurd H (by simp)
    rw [if_pos c4] at H
    have LMc4 := Aside0.mk c4
    clear c4
    obtain ⟨y133, hy133⟩ : ∃ y_ : List (S39), y_ = (([] : List (S39)) ++ [(⟨1, l0_1, 0, 0⟩ : S39)]) := ⟨_, rfl⟩
    replace H : (some y133) = some r := by first | (rw [hy133]; with_reducible exact H) | (have H2_ := (Option.bind_some _ _).symm.trans H; rw [hy133]; with_reducible exact H2_) | (have H2_ := (Option.bind_some _ _).symm.trans H; with_reducible exact H2_) | with_reducible exact H | (rw [hy133]; exact H) | exact H
    have Ny133 := Aside0.mk hy133
    clear hy133
    obtain rfl := Option.some.inj H
    go_enter Try.func23, Try.ntmps23
    go_wp2_with (first | ((with_reducible refine gate_dst (N := 2) rfl ?_); refine box_event ?hg (N := 2) ?hd (cs := #[.int .i64 a0_0, .slice A0_1 l0_1.length c0_1, .int .i64 a0_2, .int .i64 a0_3, .slice A0_4 l0_4.length c0_4]) (t := 25) ?hr ?_; (case hd => rfl); (case hg => rfl); (case hr => first | (go_simp; done) | (go_simp; rfl)); intro gb132 hg w5 hbox hb; have n0_ := Aside0.mk (Kd.V_below (Kd.V_elderB (by (with_reducible repeat (first | apply Kd.V_alloc | apply Kd.V_drewN | apply Kd.V_drew)); exact HO0_1.out) gb132 (Nat.le_of_eq hg.symm)) hb); have n1_ := Aside0.mk (Kd.V_below (Kd.V_elderB (by (with_reducible repeat (first | apply Kd.V_alloc | apply Kd.V_drewN | apply Kd.V_drew)); exact HO0_4.out) gb132 (Nat.le_of_eq hg.symm)) hb); have n2_ := Aside0.mk (below_step (by repeat (first | (with_reducible first | exact HB.out | apply below_alloc | apply pw_below_drewN | apply below_drew1) | exact HB.out)) hb); have n3_ := Aside0.mk (hbox); have n4_ := Aside0.mk ((by rw [hg]; exact (below_size (by repeat (first | (with_reducible first | exact HB.out | apply below_alloc | apply pw_below_drewN | apply below_drew1) | exact HB.out))) : w.heap.size ≤ gb132)); have n5_ := Aside0.mk ((by rw [hg]; exact (below_size (by repeat (first | (with_reducible first | exact HB.out | apply below_alloc | apply pw_below_drewN | apply below_drew1) | exact HB.out))) : w.heap.size ≤ gb132)); clear HO0_1; clear HO0_4; clear HB; have HO0_1 := n0_; have HO0_4 := n1_; have HB := n2_; have BK132 := n3_; have GW132 := n4_; have GE132 := n5_; clear n0_ n1_ n2_ n3_ n4_ n5_; clear hb hbox hg; have hcz6_0 : w5.cell? ⟨gb132, 0, none⟩ = some (.int .i64 a0_0) := (blk_cell BK132.out 0).trans rfl; have hcz6_1 : w5.cell? ⟨gb132, 1, none⟩ = some (.slice A0_1 l0_1.length c0_1) := (blk_cell BK132.out 1).trans rfl; have hcz6_2 : w5.cell? ⟨gb132, 2, none⟩ = some (.int .i64 a0_2) := (blk_cell BK132.out 2).trans rfl; have hcz6_3 : w5.cell? ⟨gb132, 3, none⟩ = some (.int .i64 a0_3) := (blk_cell BK132.out 3).trans rfl; have hcz6_4 : w5.cell? ⟨gb132, 4, none⟩ = some (.slice A0_4 l0_4.length c0_4) := (blk_cell BK132.out 4).trans rfl; have hfz6_0 := blk_frozen BK132.out 0; have hfz6_1 := blk_frozen BK132.out 1; have hfz6_2 := blk_frozen BK132.out 2; have hfz6_3 := blk_frozen BK132.out 3; have hfz6_4 := blk_frozen BK132.out 4) | ((with_reducible refine gate_builtin (b := .append) (xs := #[.tmp 22, .tmp 26]) rfl ?_); at_builtin; refine Kd.N_append k39 (w0 := w) w.heap.size rfl (.tmp 22) (.tmp 26) 29 39 (.agg #[(.int .i64 0), (.slice none 0 0), (.int .i64 0), (.int .i64 0)]) 48 rfl Try.underlying29 info39 rfl (by decide) (by omega) (.slice none 0 0) ([] : List (S39)) (⟨1, l0_1, 0, 0⟩ : S39) [.int .i64 1, .slice A0_1 l0_1.length c0_1, .int .i64 0, .int .i64 0] (fun k_ => ((P0_1_ k_ ∨ P0_4_ k_) ∨ w.heap.size ≤ k_) ∧ k_ ≠ gb132) (fun k_ => ((fun k_ => ((P0_1_ k_ ∨ P0_4_ k_) ∨ w.heap.size ≤ k_) ∧ k_ ≠ gb132)) k_ ∧ some k_ ≠ (.slice none 0 0 : Value).ownBlock) rfl rfl ?aP (fun _ hk => hk) ?aF ?aO ?aB ?aS ?aL ?_; (case aP => exact (k39_mkF _ _ (⟨1, l0_1, 0, 0⟩ : S39) (Kd.V_reads' (Kd.V_mono (ok' := (fun k_ => ((fun k_ => ((P0_1_ k_ ∨ P0_4_ k_) ∨ w.heap.size ≤ k_) ∧ k_ ≠ gb132)) k_ ∧ some k_ ≠ (.slice none 0 0 : Value).ownBlock)) (HO0_1.out) (fun k_ hk => ⟨⟨hk.1, hk.2⟩, (by simp [Value.ownBlock])⟩))).2.1 (Kd.V_F (Kd.V_mono (ok' := (fun k_ => ((fun k_ => ((P0_1_ k_ ∨ P0_4_ k_) ∨ w.heap.size ≤ k_) ∧ k_ ≠ gb132)) k_ ∧ some k_ ≠ (.slice none 0 0 : Value).ownBlock)) (HO0_1.out) (fun k_ hk => ⟨⟨hk.1, hk.2⟩, (by simp [Value.ownBlock])⟩))))); (case aB => exact (by repeat (first | (with_reducible first | exact HB.out | apply below_alloc | apply pw_below_drewN | apply below_drew1 | refine below_set ?_ GE132.out) | exact HB.out))); (case aF => exact (fun k_ hk => ⟨(.inr (Nat.le_trans (below_size (by repeat (first | (with_reducible first | exact HB.out | apply below_alloc | apply pw_below_drewN | apply below_drew1 | refine below_set ?_ GE132.out) | exact HB.out))) hk)), Kd.freshB (g := gb132) (o := .cells #[.int .i64 a0_0, .slice A0_1 l0_1.length c0_1, .int .i64 a0_2, .int .i64 a0_3, .slice A0_4 l0_4.length c0_4] 25 (0, 0)) (by (with_reducible repeat (first | refine blk_drewN ?_ _ | refine blk_drew ?_ | refine blk_alloc ?_ _)); exact BK132.out) k_ hk⟩)); (case aO => exact ((Kd.N_nil _ _ _ _ (fun k_ => ((P0_1_ k_ ∨ P0_4_ k_) ∨ w.heap.size ≤ k_) ∧ k_ ≠ gb132)))); (case aS => exact (below_size (by repeat (first | (with_reducible first | exact HB.out | apply below_alloc | apply pw_below_drewN | apply below_drew1 | refine below_set ?_ GE132.out) | exact HB.out)))); (case aL => have := LMc4.out; omega); intro v134 w7 ho hb hg hat; rw [← Ny133.out] at ho; have n0_ := Aside0.mk (Kd.V_afterv (Kd.V_apart_nil (by (with_reducible repeat (first | apply Kd.V_alloc | apply Kd.V_drewN | apply Kd.V_drew)); exact HO0_1.out)) hg hat); have n1_ := Aside0.mk (Kd.V_afterv (Kd.V_apart_nil (by (with_reducible repeat (first | apply Kd.V_alloc | apply Kd.V_drewN | apply Kd.V_drew)); exact HO0_4.out)) hg hat); have n2_ := Aside0.mk (blk_grown (g := gb132) (o := .cells #[.int .i64 a0_0, .slice A0_1 l0_1.length c0_1, .int .i64 a0_2, .int .i64 a0_3, .slice A0_4 l0_4.length c0_4] 25 (0, 0)) (by (with_reducible repeat (first | refine blk_drewN ?_ _ | refine blk_drew ?_ | refine blk_alloc ?_ _)); exact BK132.out) hg (by simp [Value.ownBlock])); have n3_ := Aside0.mk (hb); have n4_ := Aside0.mk (ho); clear HO0_1; clear HO0_4; clear BK132; clear HB; have HO0_1 := n0_; have HO0_4 := n1_; have BK132 := n2_; have HB := n3_; have HO135 := n4_; clear n0_ n1_ n2_ n3_ n4_; clear ho hb hg hat))
    go_ret
    exact ⟨_, by first | rfl | (simp [errW_none, errW_some] <;> rfl) | (simp [*, errW_none, errW_some] <;> rfl), by (with_reducible repeat (first | apply Kd.N_alloc | apply Kd.N_drewN | apply Kd.N_drew)); exact Kd.N_mono HO135.out (fun _ hk => hk.1), by repeat (first | (with_reducible first | exact HB.out | apply below_alloc | apply pw_below_drewN | apply below_drew1 | refine below_set ?_ GE132.out) | exact HB.out)⟩
  rw [if_neg c3] at H
  have c3b0 : (a0_0 == 2) = false := beq_eq_false_iff_ne.mpr c3
  have c3b1 : (a0_0 != 2) = true := bne_iff_ne.mpr c3
  by_cases c8 : a0_0 = 6
  · rw [if_pos c8] at H
    have c8b0 : (a0_0 == 6) = true := beq_iff_eq.mpr c8
    have c8b1 : (a0_0 != 6) = false := bne_eq_false_iff_eq.mpr c8
    clear c8
    by_cases c9 : ([] : List (S39)).length < 2932031007402
    rotate_left
    · rw [if_neg c9] at H
      exact absurd H (by simp)
    rw [if_pos c9] at H
    have LMc9 := Aside0.mk c9
    clear c9
    obtain ⟨y136, hy136⟩ : ∃ y_ : List (S39), y_ = (([] : List (S39)) ++ [(⟨4, ([] : List (S42)), 0, 0⟩ : S39)]) := ⟨_, rfl⟩
    replace H : (some y136) = some r := by first | (rw [hy136]; with_reducible exact H) | (have H2_ := (Option.bind_some _ _).symm.trans H; rw [hy136]; with_reducible exact H2_) | (have H2_ := (Option.bind_some _ _).symm.trans H; with_reducible exact H2_) | with_reducible exact H | (rw [hy136]; exact H) | exact H
    have Ny136 := Aside0.mk hy136
    clear hy136
    obtain rfl := Option.some.inj H
    go_enter Try.func23, Try.ntmps23
    go_wp2_with (first | ((with_reducible refine gate_dst (N := 2) rfl ?_); refine box_event ?hg (N := 2) ?hd (cs := #[.int .i64 a0_0, .slice A0_1 l0_1.length c0_1, .int .i64 a0_2, .int .i64 a0_3, .slice A0_4 l0_4.length c0_4]) (t := 25) ?hr ?_; (case hd => rfl); (case hg => rfl); (case hr => first | (go_simp; done) | (go_simp; rfl)); intro gb132 hg w10 hbox hb; have n0_ := Aside0.mk (Kd.V_below (Kd.V_elderB (by (with_reducible repeat (first | apply Kd.V_alloc | apply Kd.V_drewN | apply Kd.V_drew)); exact HO0_1.out) gb132 (Nat.le_of_eq hg.symm)) hb); have n1_ := Aside0.mk (Kd.V_below (Kd.V_elderB (by (with_reducible repeat (first | apply Kd.V_alloc | apply Kd.V_drewN | apply Kd.V_drew)); exact HO0_4.out) gb132 (Nat.le_of_eq hg.symm)) hb); have n2_ := Aside0.mk (below_step (by repeat (first | (with_reducible first | exact HB.out | apply below_alloc | apply pw_below_drewN | apply below_drew1) | exact HB.out)) hb); have n3_ := Aside0.mk (hbox); have n4_ := Aside0.mk ((by rw [hg]; exact (below_size (by repeat (first | (with_reducible first | exact HB.out | apply below_alloc | apply pw_below_drewN | apply below_drew1) | exact HB.out))) : w.heap.size ≤ gb132)); have n5_ := Aside0.mk ((by rw [hg]; exact (below_size (by repeat (first | (with_reducible first | exact HB.out | apply below_alloc | apply pw_below_drewN | apply below_drew1) | exact HB.out))) : w.heap.size ≤ gb132)); clear HO0_1; clear HO0_4; clear HB; have HO0_1 := n0_; have HO0_4 := n1_; have HB := n2_; have BK132 := n3_; have GW132 := n4_; have GE132 := n5_; clear n0_ n1_ n2_ n3_ n4_ n5_; clear hb hbox hg; have hcz11_0 : w10.cell? ⟨gb132, 0, none⟩ = some (.int .i64 a0_0) := (blk_cell BK132.out 0).trans rfl; have hcz11_1 : w10.cell? ⟨gb132, 1, none⟩ = some (.slice A0_1 l0_1.length c0_1) := (blk_cell BK132.out 1).trans rfl; have hcz11_2 : w10.cell? ⟨gb132, 2, none⟩ = some (.int .i64 a0_2) := (blk_cell BK132.out 2).trans rfl; have hcz11_3 : w10.cell? ⟨gb132, 3, none⟩ = some (.int .i64 a0_3) := (blk_cell BK132.out 3).trans rfl; have hcz11_4 : w10.cell? ⟨gb132, 4, none⟩ = some (.slice A0_4 l0_4.length c0_4) := (blk_cell BK132.out 4).trans rfl; have hfz11_0 := blk_frozen BK132.out 0; have hfz11_1 := blk_frozen BK132.out 1; have hfz11_2 := blk_frozen BK132.out 2; have hfz11_3 := blk_frozen BK132.out 3; have hfz11_4 := blk_frozen BK132.out 4) | ((with_reducible refine gate_builtin (b := .append) (xs := #[.tmp 30, .tmp 32]) rfl ?_); at_builtin; refine Kd.N_append k39 (w0 := w) w.heap.size rfl (.tmp 30) (.tmp 32) 29 39 (.agg #[(.int .i64 0), (.slice none 0 0), (.int .i64 0), (.int .i64 0)]) 48 rfl Try.underlying29 info39 rfl (by decide) (by omega) (.slice none 0 0) ([] : List (S39)) (⟨4, ([] : List (S42)), 0, 0⟩ : S39) [.int .i64 4, .slice none 0 0, .int .i64 0, .int .i64 0] (fun k_ => ((P0_1_ k_ ∨ P0_4_ k_) ∨ w.heap.size ≤ k_) ∧ k_ ≠ gb132) (fun k_ => ((fun k_ => ((P0_1_ k_ ∨ P0_4_ k_) ∨ w.heap.size ≤ k_) ∧ k_ ≠ gb132)) k_ ∧ some k_ ≠ (.slice none 0 0 : Value).ownBlock) rfl rfl ?aP (fun _ hk => hk) ?aF ?aO ?aB ?aS ?aL ?_; (case aP => exact (k39_mkF _ _ (⟨4, ([] : List (S42)), 0, 0⟩ : S39) (Nat.le_refl _) (Kd.F_nil _ _ _))); (case aB => exact (by repeat (first | (with_reducible first | exact HB.out | apply below_alloc | apply pw_below_drewN | apply below_drew1 | refine below_set ?_ GE132.out) | exact HB.out))); (case aF => exact (fun k_ hk => ⟨(.inr (Nat.le_trans (below_size (by repeat (first | (with_reducible first | exact HB.out | apply below_alloc | apply pw_below_drewN | apply below_drew1 | refine below_set ?_ GE132.out) | exact HB.out))) hk)), Kd.freshB (g := gb132) (o := .cells #[.int .i64 a0_0, .slice A0_1 l0_1.length c0_1, .int .i64 a0_2, .int .i64 a0_3, .slice A0_4 l0_4.length c0_4] 25 (0, 0)) (by (with_reducible repeat (first | refine blk_drewN ?_ _ | refine blk_drew ?_ | refine blk_alloc ?_ _)); exact BK132.out) k_ hk⟩)); (case aO => exact ((Kd.N_nil _ _ _ _ (fun k_ => ((P0_1_ k_ ∨ P0_4_ k_) ∨ w.heap.size ≤ k_) ∧ k_ ≠ gb132)))); (case aS => exact (below_size (by repeat (first | (with_reducible first | exact HB.out | apply below_alloc | apply pw_below_drewN | apply below_drew1 | refine below_set ?_ GE132.out) | exact HB.out)))); (case aL => have := LMc9.out; omega); intro v137 w12 ho hb hg hat; rw [← Ny136.out] at ho; have n0_ := Aside0.mk (Kd.V_afterv (Kd.V_apart_nil (by (with_reducible repeat (first | apply Kd.V_alloc | apply Kd.V_drewN | apply Kd.V_drew)); exact HO0_1.out)) hg hat); have n1_ := Aside0.mk (Kd.V_afterv (Kd.V_apart_nil (by (with_reducible repeat (first | apply Kd.V_alloc | apply Kd.V_drewN | apply Kd.V_drew)); exact HO0_4.out)) hg hat); have n2_ := Aside0.mk (blk_grown (g := gb132) (o := .cells #[.int .i64 a0_0, .slice A0_1 l0_1.length c0_1, .int .i64 a0_2, .int .i64 a0_3, .slice A0_4 l0_4.length c0_4] 25 (0, 0)) (by (with_reducible repeat (first | refine blk_drewN ?_ _ | refine blk_drew ?_ | refine blk_alloc ?_ _)); exact BK132.out) hg (by simp [Value.ownBlock])); have n3_ := Aside0.mk (hb); have n4_ := Aside0.mk (ho); clear HO0_1; clear HO0_4; clear BK132; clear HB; have HO0_1 := n0_; have HO0_4 := n1_; have BK132 := n2_; have HB := n3_; have HO138 := n4_; clear n0_ n1_ n2_ n3_ n4_; clear ho hb hg hat))
    go_ret
    exact ⟨_, by first | rfl | (simp [errW_none, errW_some] <;> rfl) | (simp [*, errW_none, errW_some] <;> rfl), by (with_reducible repeat (first | apply Kd.N_alloc | apply Kd.N_drewN | apply Kd.N_drew)); exact Kd.N_mono HO138.out (fun _ hk => hk.1), by repeat (first | (with_reducible first | exact HB.out | apply below_alloc | apply pw_below_drewN | apply below_drew1 | refine below_set ?_ GE132.out) | exact HB.out)⟩
  rw [if_neg c8] at H
  have c8b0 : (a0_0 == 6) = false := beq_eq_false_iff_ne.mpr c8
  have c8b1 : (a0_0 != 6) = true := bne_iff_ne.mpr c8
  by_cases c13 : a0_0 = 7
  · rw [if_pos c13] at H
    have c13b0 : (a0_0 == 7) = true := beq_iff_eq.mpr c13
    have c13b1 : (a0_0 != 7) = false := bne_eq_false_iff_eq.mpr c13
    clear c13
    by_cases c14 : ([] : List (S39)).length < 2932031007402
    rotate_left
    · rw [if_neg c14] at H
      exact absurd H (by simp)
    rw [if_pos c14] at H
    have LMc14 := Aside0.mk c14
    clear c14
    obtain ⟨y139, hy139⟩ : ∃ y_ : List (S39), y_ = (([] : List (S39)) ++ [(⟨5, ([] : List (S42)), 0, 0⟩ : S39)]) := ⟨_, rfl⟩
    replace H : (some y139) = some r := by first | (rw [hy139]; with_reducible exact H) | (have H2_ := (Option.bind_some _ _).symm.trans H; rw [hy139]; with_reducible exact H2_) | (have H2_ := (Option.bind_some _ _).symm.trans H; with_reducible exact H2_) | with_reducible exact H | (rw [hy139]; exact H) | exact H
    have Ny139 := Aside0.mk hy139
    clear hy139
    obtain rfl := Option.some.inj H
    go_enter Try.func23, Try.ntmps23
    go_wp2_with (first | ((with_reducible refine gate_dst (N := 2) rfl ?_); refine box_event ?hg (N := 2) ?hd (cs := #[.int .i64 a0_0, .slice A0_1 l0_1.length c0_1, .int .i64 a0_2, .int .i64 a0_3, .slice A0_4 l0_4.length c0_4]) (t := 25) ?hr ?_; (case hd => rfl); (case hg => rfl); (case hr => first | (go_simp; done) | (go_simp; rfl)); intro gb132 hg w15 hbox hb; have n0_ := Aside0.mk (Kd.V_below (Kd.V_elderB (by (with_reducible repeat (first | apply Kd.V_alloc | apply Kd.V_drewN | apply Kd.V_drew)); exact HO0_1.out) gb132 (Nat.le_of_eq hg.symm)) hb); have n1_ := Aside0.mk (Kd.V_below (Kd.V_elderB (by (with_reducible repeat (first | apply Kd.V_alloc | apply Kd.V_drewN | apply Kd.V_drew)); exact HO0_4.out) gb132 (Nat.le_of_eq hg.symm)) hb); have n2_ := Aside0.mk (below_step (by repeat (first | (with_reducible first | exact HB.out | apply below_alloc | apply pw_below_drewN | apply below_drew1) | exact HB.out)) hb); have n3_ := Aside0.mk (hbox); have n4_ := Aside0.mk ((by rw [hg]; exact (below_size (by repeat (first | (with_reducible first | exact HB.out | apply below_alloc | apply pw_below_drewN | apply below_drew1) | exact HB.out))) : w.heap.size ≤ gb132)); have n5_ := Aside0.mk ((by rw [hg]; exact (below_size (by repeat (first | (with_reducible first | exact HB.out | apply below_alloc | apply pw_below_drewN | apply below_drew1) | exact HB.out))) : w.heap.size ≤ gb132)); clear HO0_1; clear HO0_4; clear HB; have HO0_1 := n0_; have HO0_4 := n1_; have HB := n2_; have BK132 := n3_; have GW132 := n4_; have GE132 := n5_; clear n0_ n1_ n2_ n3_ n4_ n5_; clear hb hbox hg; have hcz16_0 : w15.cell? ⟨gb132, 0, none⟩ = some (.int .i64 a0_0) := (blk_cell BK132.out 0).trans rfl; have hcz16_1 : w15.cell? ⟨gb132, 1, none⟩ = some (.slice A0_1 l0_1.length c0_1) := (blk_cell BK132.out 1).trans rfl; have hcz16_2 : w15.cell? ⟨gb132, 2, none⟩ = some (.int .i64 a0_2) := (blk_cell BK132.out 2).trans rfl; have hcz16_3 : w15.cell? ⟨gb132, 3, none⟩ = some (.int .i64 a0_3) := (blk_cell BK132.out 3).trans rfl; have hcz16_4 : w15.cell? ⟨gb132, 4, none⟩ = some (.slice A0_4 l0_4.length c0_4) := (blk_cell BK132.out 4).trans rfl; have hfz16_0 := blk_frozen BK132.out 0; have hfz16_1 := blk_frozen BK132.out 1; have hfz16_2 := blk_frozen BK132.out 2; have hfz16_3 := blk_frozen BK132.out 3; have hfz16_4 := blk_frozen BK132.out 4) | ((with_reducible refine gate_builtin (b := .append) (xs := #[.tmp 36, .tmp 38]) rfl ?_); at_builtin; refine Kd.N_append k39 (w0 := w) w.heap.size rfl (.tmp 36) (.tmp 38) 29 39 (.agg #[(.int .i64 0), (.slice none 0 0), (.int .i64 0), (.int .i64 0)]) 48 rfl Try.underlying29 info39 rfl (by decide) (by omega) (.slice none 0 0) ([] : List (S39)) (⟨5, ([] : List (S42)), 0, 0⟩ : S39) [.int .i64 5, .slice none 0 0, .int .i64 0, .int .i64 0] (fun k_ => ((P0_1_ k_ ∨ P0_4_ k_) ∨ w.heap.size ≤ k_) ∧ k_ ≠ gb132) (fun k_ => ((fun k_ => ((P0_1_ k_ ∨ P0_4_ k_) ∨ w.heap.size ≤ k_) ∧ k_ ≠ gb132)) k_ ∧ some k_ ≠ (.slice none 0 0 : Value).ownBlock) rfl rfl ?aP (fun _ hk => hk) ?aF ?aO ?aB ?aS ?aL ?_; (case aP => exact (k39_mkF _ _ (⟨5, ([] : List (S42)), 0, 0⟩ : S39) (Nat.le_refl _) (Kd.F_nil _ _ _))); (case aB => exact (by repeat (first | (with_reducible first | exact HB.out | apply below_alloc | apply pw_below_drewN | apply below_drew1 | refine below_set ?_ GE132.out) | exact HB.out))); (case aF => exact (fun k_ hk => ⟨(.inr (Nat.le_trans (below_size (by repeat (first | (with_reducible first | exact HB.out | apply below_alloc | apply pw_below_drewN | apply below_drew1 | refine below_set ?_ GE132.out) | exact HB.out))) hk)), Kd.freshB (g := gb132) (o := .cells #[.int .i64 a0_0, .slice A0_1 l0_1.length c0_1, .int .i64 a0_2, .int .i64 a0_3, .slice A0_4 l0_4.length c0_4] 25 (0, 0)) (by (with_reducible repeat (first | refine blk_drewN ?_ _ | refine blk_drew ?_ | refine blk_alloc ?_ _)); exact BK132.out) k_ hk⟩)); (case aO => exact ((Kd.N_nil _ _ _ _ (fun k_ => ((P0_1_ k_ ∨ P0_4_ k_) ∨ w.heap.size ≤ k_) ∧ k_ ≠ gb132)))); (case aS => exact (below_size (by repeat (first | (with_reducible first | exact HB.out | apply below_alloc | apply pw_below_drewN | apply below_drew1 | refine below_set ?_ GE132.out) | exact HB.out)))); (case aL => have := LMc14.out; omega); intro v140 w17 ho hb hg hat; rw [← Ny139.out] at ho; have n0_ := Aside0.mk (Kd.V_afterv (Kd.V_apart_nil (by (with_reducible repeat (first | apply Kd.V_alloc | apply Kd.V_drewN | apply Kd.V_drew)); exact HO0_1.out)) hg hat); have n1_ := Aside0.mk (Kd.V_afterv (Kd.V_apart_nil (by (with_reducible repeat (first | apply Kd.V_alloc | apply Kd.V_drewN | apply Kd.V_drew)); exact HO0_4.out)) hg hat); have n2_ := Aside0.mk (blk_grown (g := gb132) (o := .cells #[.int .i64 a0_0, .slice A0_1 l0_1.length c0_1, .int .i64 a0_2, .int .i64 a0_3, .slice A0_4 l0_4.length c0_4] 25 (0, 0)) (by (with_reducible repeat (first | refine blk_drewN ?_ _ | refine blk_drew ?_ | refine blk_alloc ?_ _)); exact BK132.out) hg (by simp [Value.ownBlock])); have n3_ := Aside0.mk (hb); have n4_ := Aside0.mk (ho); clear HO0_1; clear HO0_4; clear BK132; clear HB; have HO0_1 := n0_; have HO0_4 := n1_; have BK132 := n2_; have HB := n3_; have HO141 := n4_; clear n0_ n1_ n2_ n3_ n4_; clear ho hb hg hat))
    go_ret
    exact ⟨_, by first | rfl | (simp [errW_none, errW_some] <;> rfl) | (simp [*, errW_none, errW_some] <;> rfl), by (with_reducible repeat (first | apply Kd.N_alloc | apply Kd.N_drewN | apply Kd.N_drew)); exact Kd.N_mono HO141.out (fun _ hk => hk.1), by repeat (first | (with_reducible first | exact HB.out | apply below_alloc | apply pw_below_drewN | apply below_drew1 | refine below_set ?_ GE132.out) | exact HB.out)⟩
  rw [if_neg c13] at H
  have c13b0 : (a0_0 == 7) = false := beq_eq_false_iff_ne.mpr c13
  have c13b1 : (a0_0 != 7) = true := bne_iff_ne.mpr c13
  by_cases c18 : a0_0 = 3
  · rw [if_pos c18] at H
    have c18b0 : (a0_0 == 3) = true := beq_iff_eq.mpr c18
    have c18b1 : (a0_0 != 3) = false := bne_eq_false_iff_eq.mpr c18
    clear c18
    have H' := Aside0.mk H
    clear H
    go_enter Try.func23, Try.ntmps23
    go_wp2_with (first | ((with_reducible refine gate_dst (N := 2) rfl ?_); refine box_event ?hg (N := 2) ?hd (cs := #[.int .i64 a0_0, .slice A0_1 l0_1.length c0_1, .int .i64 a0_2, .int .i64 a0_3, .slice A0_4 l0_4.length c0_4]) (t := 25) ?hr ?_; (case hd => rfl); (case hg => rfl); (case hr => first | (go_simp; done) | (go_simp; rfl)); intro gb132 hg w19 hbox hb; have n0_ := Aside0.mk (Kd.V_below (Kd.V_elderB (by (with_reducible repeat (first | apply Kd.V_alloc | apply Kd.V_drewN | apply Kd.V_drew)); exact HO0_1.out) gb132 (Nat.le_of_eq hg.symm)) hb); have n1_ := Aside0.mk (Kd.V_below (Kd.V_elderB (by (with_reducible repeat (first | apply Kd.V_alloc | apply Kd.V_drewN | apply Kd.V_drew)); exact HO0_4.out) gb132 (Nat.le_of_eq hg.symm)) hb); have n2_ := Aside0.mk (below_step (by repeat (first | (with_reducible first | exact HB.out | apply below_alloc | apply pw_below_drewN | apply below_drew1) | exact HB.out)) hb); have n3_ := Aside0.mk (hbox); have n4_ := Aside0.mk ((by rw [hg]; exact (below_size (by repeat (first | (with_reducible first | exact HB.out | apply below_alloc | apply pw_below_drewN | apply below_drew1) | exact HB.out))) : w.heap.size ≤ gb132)); have n5_ := Aside0.mk ((by rw [hg]; exact (below_size (by repeat (first | (with_reducible first | exact HB.out | apply below_alloc | apply pw_below_drewN | apply below_drew1) | exact HB.out))) : w.heap.size ≤ gb132)); clear HO0_1; clear HO0_4; clear HB; have HO0_1 := n0_; have HO0_4 := n1_; have HB := n2_; have BK132 := n3_; have GW132 := n4_; have GE132 := n5_; clear n0_ n1_ n2_ n3_ n4_ n5_; clear hb hbox hg; have hcz20_0 : w19.cell? ⟨gb132, 0, none⟩ = some (.int .i64 a0_0) := (blk_cell BK132.out 0).trans rfl; have hcz20_1 : w19.cell? ⟨gb132, 1, none⟩ = some (.slice A0_1 l0_1.length c0_1) := (blk_cell BK132.out 1).trans rfl; have hcz20_2 : w19.cell? ⟨gb132, 2, none⟩ = some (.int .i64 a0_2) := (blk_cell BK132.out 2).trans rfl; have hcz20_3 : w19.cell? ⟨gb132, 3, none⟩ = some (.int .i64 a0_3) := (blk_cell BK132.out 3).trans rfl; have hcz20_4 : w19.cell? ⟨gb132, 4, none⟩ = some (.slice A0_4 l0_4.length c0_4) := (blk_cell BK132.out 4).trans rfl; have hfz20_0 := blk_frozen BK132.out 0; have hfz20_1 := blk_frozen BK132.out 1; have hfz20_2 := blk_frozen BK132.out 2; have hfz20_3 := blk_frozen BK132.out 3; have hfz20_4 := blk_frozen BK132.out 4))
    go_loopg [5, 6] k (fun kq v5 v6 w' => ∃ (x5_1 : List (S39)) (x6_1 : Int), v6 = .int .i64 x6_1 ∧ Aside0 (ductusref19_lay.l0 kq a1 x5_1 x6_1 a0_0 l0_1 a0_2 a0_3 l0_4 = some r) ∧ Aside0 (kq ≤ k) ∧ Aside0 (Kd.N k39 39 w' w.heap.size (fun k_ => ((P0_1_ k_ ∨ P0_4_ k_) ∨ w.heap.size ≤ k_) ∧ k_ ≠ gb132) v5 x5_1) ∧ Aside0 (Kd.V k42 42 w' w.heap.size (fun k_ => ((P0_1_ k_ ∨ P0_4_ k_) ∨ w.heap.size ≤ k_) ∧ some k_ ≠ (v5 : Value).ownBlock ∧ k_ ≠ gb132) (.slice A0_1 l0_1.length c0_1) l0_1) ∧ Aside0 (Kd.V k25 25 w' w.heap.size (fun k_ => ((P0_1_ k_ ∨ P0_4_ k_) ∨ w.heap.size ≤ k_) ∧ some k_ ≠ (v5 : Value).ownBlock ∧ k_ ≠ gb132) (.slice A0_4 l0_4.length c0_4) l0_4) ∧ Aside0 (w'.heap[gb132]? = some (.cells #[.int .i64 a0_0, (.slice A0_1 l0_1.length c0_1), .int .i64 a0_2, .int .i64 a0_3, (.slice A0_4 l0_4.length c0_4)] 25 (0, 0))) ∧ Aside0 (Below w.heap.size w w'))
    case atStart => exact ⟨(([] : List (S39))), (0), (by first | rfl | (simp; done) | (simp [*]; done)), H', ⟨Nat.le_refl _⟩, ⟨by first | exact Kd.S_nil _ _ _ _ _ | exact Kd.N_nil _ _ _ _ _ | exact Kd.V_nil _ _ _ _ _ | exact Kd.Q_nil _ _ _ _ _ | exact Kd.R_nil _ _ _ _ _⟩, ⟨by (with_reducible repeat (first | apply Kd.V_alloc | apply Kd.V_drewN | apply Kd.V_drew)); exact Kd.V_mono HO0_1.out (fun _ hk => ⟨hk.1, ⟨(by simp [Value.ownBlock]), hk.2⟩⟩)⟩, ⟨by (with_reducible repeat (first | apply Kd.V_alloc | apply Kd.V_drewN | apply Kd.V_drew)); exact Kd.V_mono HO0_4.out (fun _ hk => ⟨hk.1, ⟨(by simp [Value.ownBlock]), hk.2⟩⟩)⟩, ⟨by (with_reducible repeat (first | refine blk_drewN ?_ _ | refine blk_drew ?_ | refine blk_alloc ?_ _)); exact BK132.out⟩, ⟨by repeat (first | (with_reducible first | exact HB.out | apply below_alloc | apply pw_below_drewN | apply below_drew1 | refine below_set ?_ GE132.out) | exact HB.out)⟩⟩
    case round =>
      clear H'
      try clear c1
      try clear c2
      try clear p2
      try clear c3
      try clear c3b0
      try clear c3b1
      try clear c4
      try clear c8
      try clear c8b0
      try clear c8b1
      try clear c9
      try clear c13
      try clear c13b0
      try clear c13b1
      try clear c14
      try clear c18
      try clear c18b0
      try clear c18b1
      try clear hcz11_0
      try clear hcz11_1
      try clear hcz11_2
      try clear hcz11_3
      try clear hcz11_4
      try clear hcz16_0
      try clear hcz16_1
      try clear hcz16_2
      try clear hcz16_3
      try clear hcz16_4
      try clear hcz20_0
      try clear hcz20_1
      try clear hcz20_2
      try clear hcz20_3
      try clear hcz20_4
      try clear hcz6_0
      try clear hcz6_1
      try clear hcz6_2
      try clear hcz6_3
      try clear hcz6_4
      try clear hfz11_0
      try clear hfz11_1
      try clear hfz11_2
      try clear hfz11_3
      try clear hfz11_4
      try clear hfz16_0
      try clear hfz16_1
      try clear hfz16_2
      try clear hfz16_3
      try clear hfz16_4
      try clear hfz20_0
      try clear hfz20_1
      try clear hfz20_2
      try clear hfz20_3
      try clear hfz20_4
      try clear hfz6_0
      try clear hfz6_1
      try clear hfz6_2
      try clear hfz6_3
      try clear hfz6_4
      obtain ⟨x5_1, x6_1, rfl, HA, HK1, HO_5, HO_133001, HO_133004, BK132, HB⟩ := hrel
      cases gk with
      | zero => exact absurd HA.out (by simp [ductusref19_lay.l0])
      | succ k1 =>
        have H := HA.out
        clear HA
        simp only [ductusref19_lay.l0] at H
        by_cases c21 : x6_1 < (l0_4.length : Int)
        rotate_left
        · rw [if_neg c21] at H
          have c21b0 : decide (x6_1 < (l0_4.length : Int)) = false := decide_eq_false c21
          clear c21
          obtain rfl := Option.some.inj H
          have hcz30_0 : wr.cell? ⟨gb132, 0, none⟩ = some (.int .i64 a0_0) := (blk_cell BK132.out 0).trans rfl
          have hcz30_1 : wr.cell? ⟨gb132, 1, none⟩ = some (.slice A0_1 l0_1.length c0_1) := (blk_cell BK132.out 1).trans rfl
          have hcz30_2 : wr.cell? ⟨gb132, 2, none⟩ = some (.int .i64 a0_2) := (blk_cell BK132.out 2).trans rfl
          have hcz30_3 : wr.cell? ⟨gb132, 3, none⟩ = some (.int .i64 a0_3) := (blk_cell BK132.out 3).trans rfl
          have hcz30_4 : wr.cell? ⟨gb132, 4, none⟩ = some (.slice A0_4 l0_4.length c0_4) := (blk_cell BK132.out 4).trans rfl
          have hfz30_0 := blk_frozen BK132.out 0
          have hfz30_1 := blk_frozen BK132.out 1
          have hfz30_2 := blk_frozen BK132.out 2
          have hfz30_3 := blk_frozen BK132.out 3
          have hfz30_4 := blk_frozen BK132.out 4
          go_wp2
          go_ret
          exact ⟨_, by first | rfl | (simp [errW_none, errW_some] <;> rfl) | (simp [*, errW_none, errW_some] <;> rfl), by (with_reducible repeat (first | apply Kd.N_alloc | apply Kd.N_drewN | apply Kd.N_drew)); exact Kd.N_mono HO_5.out (fun _ hk => hk.1), by repeat (first | (with_reducible first | exact HB.out | apply below_alloc | apply pw_below_drewN | apply below_drew1 | refine below_set ?_ GE132.out) | exact HB.out)⟩
        rw [if_pos c21] at H
        have c21b0 : decide (x6_1 < (l0_4.length : Int)) = true := decide_eq_true c21
        clear c21
        by_cases c22 : 0 ≤ x6_1
        rotate_left
        · rw [if_neg c22] at H
          exact absurd H (by simp)
        rw [if_pos c22] at H
        have c22b0 : decide (0 ≤ x6_1) = true := decide_eq_true c22
        clear c22
        replace H := Option.bind_eq_some_iff.mp H
        obtain ⟨t143, A230, H⟩ := H
        replace H : (if x5_1.length + t143.length < 2932031007402 then (ductusref19_lay.l0 k1 a1 (x5_1 ++ t143) (wrap64 (x6_1 + 1)) a0_0 l0_1 a0_2 a0_3 l0_4) else (none)) = some r := H
        have A23 := Aside0.mk A230
        clear A230
        by_cases c24 : x5_1.length + t143.length < 2932031007402
        rotate_left
        · rw [if_neg c24] at H
          exact absurd H (by simp)
        rw [if_pos c24] at H
        have LMc24 := Aside0.mk c24
        clear c24
        obtain ⟨y146, hy146⟩ : ∃ y_ : List (S39), y_ = (x5_1 ++ t143) := ⟨_, rfl⟩
        replace H : (ductusref19_lay.l0 k1 a1 y146 (wrap64 (x6_1 + 1)) a0_0 l0_1 a0_2 a0_3 l0_4) = some r := by first | (rw [hy146]; with_reducible exact H) | (have H2_ := (Option.bind_some _ _).symm.trans H; rw [hy146]; with_reducible exact H2_) | (have H2_ := (Option.bind_some _ _).symm.trans H; with_reducible exact H2_) | with_reducible exact H | (rw [hy146]; exact H) | exact H
        have Ny146 := Aside0.mk hy146
        clear hy146
        have H' := Aside0.mk H
        clear H
        have hcz25_0 : wr.cell? ⟨gb132, 0, none⟩ = some (.int .i64 a0_0) := (blk_cell BK132.out 0).trans rfl
        have hcz25_1 : wr.cell? ⟨gb132, 1, none⟩ = some (.slice A0_1 l0_1.length c0_1) := (blk_cell BK132.out 1).trans rfl
        have hcz25_2 : wr.cell? ⟨gb132, 2, none⟩ = some (.int .i64 a0_2) := (blk_cell BK132.out 2).trans rfl
        have hcz25_3 : wr.cell? ⟨gb132, 3, none⟩ = some (.int .i64 a0_3) := (blk_cell BK132.out 3).trans rfl
        have hcz25_4 : wr.cell? ⟨gb132, 4, none⟩ = some (.slice A0_4 l0_4.length c0_4) := (blk_cell BK132.out 4).trans rfl
        have hfz25_0 := blk_frozen BK132.out 0
        have hfz25_1 := blk_frozen BK132.out 1
        have hfz25_2 := blk_frozen BK132.out 2
        have hfz25_3 := blk_frozen BK132.out 3
        have hfz25_4 := blk_frozen BK132.out 4
        have p142 : 0 ≤ (x6_1 : Int) := of_decide_eq_true (by first | (with_reducible assumption) | assumption)
        have q142 : x6_1 < (l0_4.length : Int) := of_decide_eq_true (by first | (with_reducible assumption) | assumption)
        obtain ⟨ad142, A142_1, c142_1, A142_4, c142_4, e142, hx142_0, hx142_1, hx142_2, hx142_3, hx142_4, hl142_1, hi142_1, hl142_4, hi142_4⟩ := at_T25 (Kd.V_reads' HO_133004.out).2.2 x6_1 p142 q142
        cases e142
        obtain ⟨ce142, hce142, hMe142, hcc142⟩ := Kd.V_get HO_133004.out z25 x6_1 p142 (by first | exact q142 | exact of_decide_eq_true (by first | (with_reducible assumption) | assumption) | (have e_ := (Kd.V_reads' HO_133004.out).1; omega))
        obtain ⟨ua142_1, uc142_1, ua142_4, uc142_4, rfl, ul142_1, ge142_1, ul142_4, ge142_4⟩ := k25_openF hMe142
        have hv142_1 := hcc142 1 _ rfl
        rw [add_field _ _ 1 (by omega)] at hv142_1
        replace hv142_1 := Option.some.inj (hv142_1.symm.trans hx142_1)
        injection hv142_1 with hva_ hvn_ hvc_
        rw [hva_] at ge142_1
        rw [hvc_] at ul142_1
        have HL142_1 := Aside0.mk (show Kd.V k42 42 _ w.heap.size _ _ ((rd_T25 l0_4 x6_1).f1) from Kd.V_mk ul142_1 ge142_1)
        clear hva_ hvn_ hvc_ ge142_1 ul142_1
        have hv142_4 := hcc142 4 _ rfl
        rw [add_field _ _ 4 (by omega)] at hv142_4
        replace hv142_4 := Option.some.inj (hv142_4.symm.trans hx142_4)
        injection hv142_4 with hva_ hvn_ hvc_
        rw [hva_] at ge142_4
        rw [hvc_] at ul142_4
        have HL142_4 := Aside0.mk (show Kd.V k25 25 _ w.heap.size _ _ ((rd_T25 l0_4 x6_1).f4) from Kd.V_mk ul142_4 ge142_4)
        clear hva_ hvn_ hvc_ ge142_4 ul142_4
        clear hcc142 hce142
        have HR142_1 := Aside0.mk hi142_1
        have HC142_1 := Aside0.mk hl142_1
        clear hi142_1 hl142_1
        have HR142_4 := Aside0.mk hi142_4
        have HC142_4 := Aside0.mk hl142_4
        clear hi142_4 hl142_4
        replace p142 := eq_true p142
        replace q142 := eq_true q142
        obtain ⟨Ao26, co26, eo26⟩ := Kd.N_slice HO_5.out
        subst eo26
        go_wp2_with (first | ((with_reducible refine gate_callee (f := 23) rfl ?_); refine goesL_ (some 59) rfl rfl Try.func23 (by kernel_rfl) rfl #[.agg #[.int .i64 ((rd_T25 l0_4 x6_1).f0), .slice A142_1 ((rd_T25 l0_4 x6_1).f1).length c142_1, .int .i64 ((rd_T25 l0_4 x6_1).f2), .int .i64 ((rd_T25 l0_4 x6_1).f3), .slice A142_4 ((rd_T25 l0_4 x6_1).f4).length c142_4], .int .i64 (wrap64 (a1 + (x5_1.length : Int)))] rfl (by (try simp only [List.map_toArray, List.map_cons, List.map_nil]); first | done | rfl | (simp only [List.length_drop, List.length_take]; rfl)) ?_; (with_reducible refine (ih k1 (by have := HK1.out; omega) ((rd_T25 l0_4 x6_1).f0) (fun k_ => (((P0_1_ k_ ∨ P0_4_ k_) ∨ w.heap.size ≤ k_) ∧ (some k_ ≠ (.slice Ao26 x5_1.length co26 : Value).ownBlock ∧ k_ ≠ gb132))) _ _ ((rd_T25 l0_4 x6_1).f1) ((rd_T25 l0_4 x6_1).f2) ((rd_T25 l0_4 x6_1).f3) (fun k_ => (((P0_1_ k_ ∨ P0_4_ k_) ∨ w.heap.size ≤ k_) ∧ (some k_ ≠ (.slice Ao26 x5_1.length co26 : Value).ownBlock ∧ k_ ≠ gb132))) _ _ ((rd_T25 l0_4 x6_1).f4) (wrap64 (a1 + (x5_1.length : Int))) t143 _ ?side1 ?side2 A23.out).mono ?_); (case side1 => exact HL142_1.out); (case side2 => exact HL142_4.out); rintro e w27 ⟨v144, rfl, ho0, hb⟩; refine ⟨_, rfl, ?_⟩; have n0_ := Aside0.mk (Kd.N_elder' (by (with_reducible repeat (first | apply Kd.N_alloc | apply Kd.N_drewN | apply Kd.N_drew)); exact HO_5.out) (Kd.N_base ho0) hb); have n1_ := Aside0.mk (Kd.V_elder' (by (with_reducible repeat (first | apply Kd.V_alloc | apply Kd.V_drewN | apply Kd.V_drew)); exact HO_133001.out) (Kd.N_base ho0) hb); have n2_ := Aside0.mk (Kd.V_elder' (by (with_reducible repeat (first | apply Kd.V_alloc | apply Kd.V_drewN | apply Kd.V_drew)); exact HO_133004.out) (Kd.N_base ho0) hb); have n3_ := Aside0.mk (Kd.V_elder' (by (with_reducible repeat (first | apply Kd.V_alloc | apply Kd.V_drewN | apply Kd.V_drew)); exact HL142_1.out) (Kd.N_base ho0) hb); have n4_ := Aside0.mk (Kd.V_elder' (by (with_reducible repeat (first | apply Kd.V_alloc | apply Kd.V_drewN | apply Kd.V_drew)); exact HL142_4.out) (Kd.N_base ho0) hb); have n5_ := Aside0.mk (Kd.N_lower (Kd.N_mono (ok' := fun k_ => ((P0_1_ k_ ∨ P0_4_ k_) ∨ w.heap.size ≤ k_) ∧ some k_ ≠ (.slice Ao26 x5_1.length co26 : Value).ownBlock ∧ k_ ≠ gb132) ho0 (fun k_ hk_ => ⟨Or.elim hk_ (fun hs_ => Or.elim hs_ (fun hs_ => hs_.1) (fun hs_ => hs_.1)) (fun hn_ => (.inr (Nat.le_trans (below_size (by repeat (first | (with_reducible first | exact HB.out | apply below_alloc | apply pw_below_drewN | apply below_drew1 | refine below_set ?_ GE132.out) | exact HB.out))) hn_))), Or.elim hk_ (fun hs_ => Or.elim hs_ (fun hs_ => hs_.2.1) (fun hs_ => hs_.2.1)) (fun hn_ => (Kd.fresh' (Kd.N_lt (by (with_reducible repeat (first | apply Kd.N_alloc | apply Kd.N_drewN | apply Kd.N_drew)); exact HO_5.out)) k_ hn_)), Or.elim hk_ (fun hs_ => Or.elim hs_ (fun hs_ => hs_.2.2) (fun hs_ => hs_.2.2)) (fun hn_ => (Kd.freshB (g := gb132) (o := .cells #[.int .i64 a0_0, .slice A0_1 l0_1.length c0_1, .int .i64 a0_2, .int .i64 a0_3, .slice (some ad142) l0_4.length c0_4] 25 (0, 0)) (by (with_reducible repeat (first | refine blk_drewN ?_ _ | refine blk_drew ?_ | refine blk_alloc ?_ _)); exact BK132.out) k_ hn_))⟩)) (below_size (by repeat (first | (with_reducible first | exact HB.out | apply below_alloc | apply pw_below_drewN | apply below_drew1 | refine below_set ?_ GE132.out) | exact HB.out)))); have n6_ := Aside0.mk (blk_below (g := gb132) (o := .cells #[.int .i64 a0_0, .slice A0_1 l0_1.length c0_1, .int .i64 a0_2, .int .i64 a0_3, .slice (some ad142) l0_4.length c0_4] 25 (0, 0)) (by (with_reducible repeat (first | refine blk_drewN ?_ _ | refine blk_drew ?_ | refine blk_alloc ?_ _)); exact BK132.out) hb); have n7_ := Aside0.mk (Kd.C_below (by repeat (first | (with_reducible exact HR142_1.out) | (with_reducible refine Kd.C_alloc ?_ _) | (with_reducible refine Kd.C_drewN ?_ _) | (with_reducible refine Kd.C_drew ?_) | exact HR142_1.out)) hb); have n8_ := Aside0.mk (Kd.C_below (by repeat (first | (with_reducible exact HR142_4.out) | (with_reducible refine Kd.C_alloc ?_ _) | (with_reducible refine Kd.C_drewN ?_ _) | (with_reducible refine Kd.C_drew ?_) | exact HR142_4.out)) hb); have n9_ := Aside0.mk (below_step (by repeat (first | (with_reducible first | exact HB.out | apply below_alloc | apply pw_below_drewN | apply below_drew1 | refine below_set ?_ GE132.out) | exact HB.out)) hb); clear HO_5; clear HO_133001; clear HO_133004; clear HL142_1; clear HL142_4; clear BK132; clear HR142_1; clear HR142_4; clear HB; have HO_5 := n0_; have HO_133001 := n1_; have HO_133004 := n2_; have HL142_1 := n3_; have HL142_4 := n4_; have HO145 := n5_; have BK132 := n6_; have HR142_1 := n7_; have HR142_4 := n8_; have HB := n9_; clear n0_ n1_ n2_ n3_ n4_ n5_ n6_ n7_ n8_ n9_; (try clear hb); (try clear hb2); (try clear hk); (try clear hi); (try clear ho0); obtain ⟨Ao29, co29, eo29⟩ := Kd.N_slice HO145.out; subst eo29) | ((with_reducible refine gate_builtin (b := .append) (xs := #[.tmp 49, .tmp 59]) rfl ?_); at_builtin; refine Kd.N_append_rows k39 (w0 := w) w.heap.size rfl (.tmp 49) (.tmp 59) 29 39 (.agg #[(.int .i64 0), (.slice none 0 0), (.int .i64 0), (.int .i64 0)]) 48 rfl Try.underlying29 info39 rfl (by decide) (by omega) (.slice Ao26 x5_1.length co26) x5_1 t143 _ _ _ (fun k_ => ((P0_1_ k_ ∨ P0_4_ k_) ∨ w.heap.size ≤ k_) ∧ k_ ≠ gb132) (fun k_ => ((fun k_ => ((P0_1_ k_ ∨ P0_4_ k_) ∨ w.heap.size ≤ k_) ∧ k_ ≠ gb132)) k_ ∧ some k_ ≠ (.slice Ao26 x5_1.length co26 : Value).ownBlock) rfl rfl ?aO ?aR (fun _ hk => hk) ?aF ?aB ?aS ?aL ?_; (case aR => exact (by skip; exact Kd.N_F (Kd.N_mono (ok' := (fun k_ => ((fun k_ => ((P0_1_ k_ ∨ P0_4_ k_) ∨ w.heap.size ≤ k_) ∧ k_ ≠ gb132)) k_ ∧ some k_ ≠ (.slice Ao26 x5_1.length co26 : Value).ownBlock)) (HO145.out) (fun k_ hk => ⟨⟨hk.1, hk.2.2⟩, hk.2.1⟩)))); (case aB => exact (by repeat (first | (with_reducible first | exact HB.out | apply below_alloc | apply pw_below_drewN | apply below_drew1 | refine below_set ?_ GE132.out) | exact HB.out))); (case aF => exact (fun k_ hk => ⟨(.inr (Nat.le_trans (below_size (by repeat (first | (with_reducible first | exact HB.out | apply below_alloc | apply pw_below_drewN | apply below_drew1 | refine below_set ?_ GE132.out) | exact HB.out))) hk)), Kd.freshB (g := gb132) (o := .cells #[.int .i64 a0_0, .slice A0_1 l0_1.length c0_1, .int .i64 a0_2, .int .i64 a0_3, .slice (some ad142) l0_4.length c0_4] 25 (0, 0)) (by (with_reducible repeat (first | refine blk_drewN ?_ _ | refine blk_drew ?_ | refine blk_alloc ?_ _)); exact BK132.out) k_ hk⟩)); (case aO => exact (by (with_reducible repeat (first | apply Kd.N_alloc | apply Kd.N_drewN | apply Kd.N_drew)); exact Kd.N_mono HO_5.out (fun _ hk => ⟨hk.1.1, hk.1.2⟩))); (case aS => exact (below_size (by repeat (first | (with_reducible first | exact HB.out | apply below_alloc | apply pw_below_drewN | apply below_drew1 | refine below_set ?_ GE132.out) | exact HB.out)))); (case aL => have := LMc24.out; omega); intro v147 w28 ho hb hg hat; rw [← Ny146.out] at ho; have n0_ := Aside0.mk (Kd.V_afterv (ok := (fun k_ => ((P0_1_ k_ ∨ P0_4_ k_) ∨ w.heap.size ≤ k_) ∧ some k_ ≠ (.slice Ao29 t143.length co29 : Value).ownBlock ∧ k_ ≠ gb132)) (by (with_reducible repeat (first | apply Kd.V_alloc | apply Kd.V_drewN | apply Kd.V_drew)); exact Kd.V_mono HO_133001.out (fun _ hk => ⟨⟨hk.1.1, ⟨hk.2, hk.1.2.2⟩⟩, hk.1.2.1⟩)) hg hat); have n1_ := Aside0.mk (Kd.V_afterv (ok := (fun k_ => ((P0_1_ k_ ∨ P0_4_ k_) ∨ w.heap.size ≤ k_) ∧ some k_ ≠ (.slice Ao29 t143.length co29 : Value).ownBlock ∧ k_ ≠ gb132)) (by (with_reducible repeat (first | apply Kd.V_alloc | apply Kd.V_drewN | apply Kd.V_drew)); exact Kd.V_mono HO_133004.out (fun _ hk => ⟨⟨hk.1.1, ⟨hk.2, hk.1.2.2⟩⟩, hk.1.2.1⟩)) hg hat); have n2_ := Aside0.mk (blk_grown (g := gb132) (o := .cells #[.int .i64 a0_0, .slice A0_1 l0_1.length c0_1, .int .i64 a0_2, .int .i64 a0_3, .slice (some ad142) l0_4.length c0_4] 25 (0, 0)) (by (with_reducible repeat (first | refine blk_drewN ?_ _ | refine blk_drew ?_ | refine blk_alloc ?_ _)); exact BK132.out) hg (Kd.N_ne HO_5.out BK132.out (by decide))); have n3_ := Aside0.mk (Kd.V_afterv (ok := (fun k_ => ((P0_1_ k_ ∨ P0_4_ k_) ∨ w.heap.size ≤ k_) ∧ some k_ ≠ (.slice Ao29 t143.length co29 : Value).ownBlock ∧ k_ ≠ gb132)) (by (with_reducible repeat (first | apply Kd.V_alloc | apply Kd.V_drewN | apply Kd.V_drew)); exact Kd.V_mono HL142_1.out (fun _ hk => ⟨⟨hk.1.1, ⟨hk.2, hk.1.2.2⟩⟩, hk.1.2.1⟩)) hg hat); have n4_ := Aside0.mk (Kd.V_afterv (ok := (fun k_ => ((P0_1_ k_ ∨ P0_4_ k_) ∨ w.heap.size ≤ k_) ∧ some k_ ≠ (.slice Ao29 t143.length co29 : Value).ownBlock ∧ k_ ≠ gb132)) (by (with_reducible repeat (first | apply Kd.V_alloc | apply Kd.V_drewN | apply Kd.V_drew)); exact Kd.V_mono HL142_4.out (fun _ hk => ⟨⟨hk.1.1, ⟨hk.2, hk.1.2.2⟩⟩, hk.1.2.1⟩)) hg hat); have n5_ := Aside0.mk (Kd.N_afterv (ok := (fun k_ => ((P0_1_ k_ ∨ P0_4_ k_) ∨ w.heap.size ≤ k_) ∧ k_ ≠ gb132)) (by (with_reducible repeat (first | apply Kd.N_alloc | apply Kd.N_drewN | apply Kd.N_drew)); exact Kd.N_mono HO145.out (fun _ hk => ⟨⟨hk.1, hk.2.2⟩, hk.2.1⟩)) hg hat); have n6_ := Aside0.mk (hb); have n7_ := Aside0.mk (ho); clear HO_133001; clear HO_133004; clear BK132; clear HL142_1; clear HL142_4; clear HO145; clear HB; clear HO_5; have HO_133001 := n0_; have HO_133004 := n1_; have BK132 := n2_; have HL142_1 := n3_; have HL142_4 := n4_; have HO145 := n5_; have HB := n6_; have HO148 := n7_; clear n0_ n1_ n2_ n3_ n4_ n5_ n6_ n7_; clear ho hb hg hat))
        go_roundg k1
        case measure => have := HK1.out; omega
        case rel => exact ⟨(y146), (wrap64 (x6_1 + 1)), (by first | rfl | (simp; done) | (simp [*]; done)), H', ⟨by have := HK1.out; omega⟩, ⟨by (with_reducible repeat (first | apply Kd.N_alloc | apply Kd.N_drewN | apply Kd.N_drew)); exact HO148.out⟩, ⟨by (with_reducible repeat (first | apply Kd.V_alloc | apply Kd.V_drewN | apply Kd.V_drew)); exact Kd.V_mono HO_133001.out (fun _ hk => ⟨hk.1.1, ⟨hk.2, hk.1.2.2⟩⟩)⟩, ⟨by (with_reducible repeat (first | apply Kd.V_alloc | apply Kd.V_drewN | apply Kd.V_drew)); exact Kd.V_mono HO_133004.out (fun _ hk => ⟨hk.1.1, ⟨hk.2, hk.1.2.2⟩⟩)⟩, ⟨by (with_reducible repeat (first | refine blk_drewN ?_ _ | refine blk_drew ?_ | refine blk_alloc ?_ _)); exact BK132.out⟩, ⟨by repeat (first | (with_reducible first | exact HB.out | apply below_alloc | apply pw_below_drewN | apply below_drew1 | refine below_set ?_ GE132.out) | exact HB.out)⟩⟩
  rw [if_neg c18] at H
  have c18b0 : (a0_0 == 3) = false := beq_eq_false_iff_ne.mpr c18
  have c18b1 : (a0_0 != 3) = true := bne_iff_ne.mpr c18
  by_cases c31 : a0_0 = 4
  · rw [if_pos c31] at H
    have c31b0 : (a0_0 == 4) = true := beq_iff_eq.mpr c31
    have c31b1 : (a0_0 != 4) = false := bne_eq_false_iff_eq.mpr c31
    clear c31
    have H' := Aside0.mk H
    clear H
    go_enter Try.func23, Try.ntmps23
    go_wp2_with (first | ((with_reducible refine gate_dst (N := 2) rfl ?_); refine box_event ?hg (N := 2) ?hd (cs := #[.int .i64 a0_0, .slice A0_1 l0_1.length c0_1, .int .i64 a0_2, .int .i64 a0_3, .slice A0_4 l0_4.length c0_4]) (t := 25) ?hr ?_; (case hd => rfl); (case hg => rfl); (case hr => first | (go_simp; done) | (go_simp; rfl)); intro gb132 hg w32 hbox hb; have n0_ := Aside0.mk (Kd.V_below (Kd.V_elderB (by (with_reducible repeat (first | apply Kd.V_alloc | apply Kd.V_drewN | apply Kd.V_drew)); exact HO0_1.out) gb132 (Nat.le_of_eq hg.symm)) hb); have n1_ := Aside0.mk (Kd.V_below (Kd.V_elderB (by (with_reducible repeat (first | apply Kd.V_alloc | apply Kd.V_drewN | apply Kd.V_drew)); exact HO0_4.out) gb132 (Nat.le_of_eq hg.symm)) hb); have n2_ := Aside0.mk (below_step (by repeat (first | (with_reducible first | exact HB.out | apply below_alloc | apply pw_below_drewN | apply below_drew1) | exact HB.out)) hb); have n3_ := Aside0.mk (hbox); have n4_ := Aside0.mk ((by rw [hg]; exact (below_size (by repeat (first | (with_reducible first | exact HB.out | apply below_alloc | apply pw_below_drewN | apply below_drew1) | exact HB.out))) : w.heap.size ≤ gb132)); have n5_ := Aside0.mk ((by rw [hg]; exact (below_size (by repeat (first | (with_reducible first | exact HB.out | apply below_alloc | apply pw_below_drewN | apply below_drew1) | exact HB.out))) : w.heap.size ≤ gb132)); clear HO0_1; clear HO0_4; clear HB; have HO0_1 := n0_; have HO0_4 := n1_; have HB := n2_; have BK132 := n3_; have GW132 := n4_; have GE132 := n5_; clear n0_ n1_ n2_ n3_ n4_ n5_; clear hb hbox hg; have hcz33_0 : w32.cell? ⟨gb132, 0, none⟩ = some (.int .i64 a0_0) := (blk_cell BK132.out 0).trans rfl; have hcz33_1 : w32.cell? ⟨gb132, 1, none⟩ = some (.slice A0_1 l0_1.length c0_1) := (blk_cell BK132.out 1).trans rfl; have hcz33_2 : w32.cell? ⟨gb132, 2, none⟩ = some (.int .i64 a0_2) := (blk_cell BK132.out 2).trans rfl; have hcz33_3 : w32.cell? ⟨gb132, 3, none⟩ = some (.int .i64 a0_3) := (blk_cell BK132.out 3).trans rfl; have hcz33_4 : w32.cell? ⟨gb132, 4, none⟩ = some (.slice A0_4 l0_4.length c0_4) := (blk_cell BK132.out 4).trans rfl; have hfz33_0 := blk_frozen BK132.out 0; have hfz33_1 := blk_frozen BK132.out 1; have hfz33_2 := blk_frozen BK132.out 2; have hfz33_3 := blk_frozen BK132.out 3; have hfz33_4 := blk_frozen BK132.out 4))
    go_loopg [5, 7, 8] k (fun kq v5 v7 v8 w' => ∃ (x5_1 : List (S39)) (x7_1 : List Int) (x8_1 : Int), v8 = .int .i64 x8_1 ∧ Aside0 (ductusref19_lay.l1 kq a1 x5_1 x7_1 x8_1 a0_0 l0_1 a0_2 a0_3 l0_4 = some r) ∧ Aside0 (kq ≤ k) ∧ Aside0 (Kd.N k39 39 w' w.heap.size (fun k_ => ((P0_1_ k_ ∨ P0_4_ k_) ∨ w.heap.size ≤ k_) ∧ some k_ ≠ (v7 : Value).ownBlock ∧ k_ ≠ gb132) v5 x5_1) ∧ Aside0 (Kd.R (Kd.int .i64) 3 w' w.heap.size (fun k_ => (w.heap.size ≤ k_)) v7 x7_1) ∧ Aside0 (Kd.V k42 42 w' w.heap.size (fun k_ => ((P0_1_ k_ ∨ P0_4_ k_) ∨ w.heap.size ≤ k_) ∧ some k_ ≠ (v5 : Value).ownBlock ∧ some k_ ≠ (v7 : Value).ownBlock ∧ k_ ≠ gb132) (.slice A0_1 l0_1.length c0_1) l0_1) ∧ Aside0 (Kd.V k25 25 w' w.heap.size (fun k_ => ((P0_1_ k_ ∨ P0_4_ k_) ∨ w.heap.size ≤ k_) ∧ some k_ ≠ (v5 : Value).ownBlock ∧ some k_ ≠ (v7 : Value).ownBlock ∧ k_ ≠ gb132) (.slice A0_4 l0_4.length c0_4) l0_4) ∧ Aside0 (w'.heap[gb132]? = some (.cells #[.int .i64 a0_0, (.slice A0_1 l0_1.length c0_1), .int .i64 a0_2, .int .i64 a0_3, (.slice A0_4 l0_4.length c0_4)] 25 (0, 0))) ∧ Aside0 (Below w.heap.size w w'))
    case atStart => exact ⟨(([] : List (S39))), (([] : List Int)), (0), (by first | rfl | (simp; done) | (simp [*]; done)), H', ⟨Nat.le_refl _⟩, ⟨by first | exact Kd.S_nil _ _ _ _ _ | exact Kd.N_nil _ _ _ _ _ | exact Kd.V_nil _ _ _ _ _ | exact Kd.Q_nil _ _ _ _ _ | exact Kd.R_nil _ _ _ _ _⟩, ⟨by first | exact Kd.R_nil _ _ _ _ _ | exact Kd.N_nil _ _ _ _ _ | exact Kd.V_nil _ _ _ _ _ | exact Kd.Q_nil _ _ _ _ _ | exact Kd.S_nil _ _ _ _ _⟩, ⟨by (with_reducible repeat (first | apply Kd.V_alloc | apply Kd.V_drewN | apply Kd.V_drew)); exact Kd.V_mono HO0_1.out (fun _ hk => ⟨hk.1, ⟨(by simp [Value.ownBlock]), ⟨(by simp [Value.ownBlock]), hk.2⟩⟩⟩)⟩, ⟨by (with_reducible repeat (first | apply Kd.V_alloc | apply Kd.V_drewN | apply Kd.V_drew)); exact Kd.V_mono HO0_4.out (fun _ hk => ⟨hk.1, ⟨(by simp [Value.ownBlock]), ⟨(by simp [Value.ownBlock]), hk.2⟩⟩⟩)⟩, ⟨by (with_reducible repeat (first | refine blk_drewN ?_ _ | refine blk_drew ?_ | refine blk_alloc ?_ _)); exact BK132.out⟩, ⟨by repeat (first | (with_reducible first | exact HB.out | apply below_alloc | apply pw_below_drewN | apply below_drew1 | refine below_set ?_ GE132.out) | exact HB.out)⟩⟩
    case round =>
      clear H'
      try clear c1
      try clear p1
      try clear q1
      try clear hx1
      try clear c2
      try clear p2
      try clear c3
      try clear c3b0
      try clear c3b1
      try clear c4
      try clear p6
      try clear c8
      try clear c8b0
      try clear c8b1
      try clear c9
      try clear c13
      try clear c13b0
      try clear c13b1
      try clear c14
      try clear p14
      try clear q14
      try clear hx14
      try clear c18
      try clear c18b0
      try clear c18b1
      try clear c21
      try clear c21b0
      try clear c22
      try clear c22b0
      try clear c23
      try clear c24
      try clear c31
      try clear c31b0
      try clear c31b1
      try clear hcz11_0
      try clear hcz11_1
      try clear hcz11_2
      try clear hcz11_3
      try clear hcz11_4
      try clear hcz16_0
      try clear hcz16_1
      try clear hcz16_2
      try clear hcz16_3
      try clear hcz16_4
      try clear hcz20_0
      try clear hcz20_1
      try clear hcz20_2
      try clear hcz20_3
      try clear hcz20_4
      try clear hcz25_0
      try clear hcz25_1
      try clear hcz25_2
      try clear hcz25_3
      try clear hcz25_4
      try clear hcz30_0
      try clear hcz30_1
      try clear hcz30_2
      try clear hcz30_3
      try clear hcz30_4
      try clear hcz33_0
      try clear hcz33_1
      try clear hcz33_2
      try clear hcz33_3
      try clear hcz33_4
      try clear hcz6_0
      try clear hcz6_1
      try clear hcz6_2
      try clear hcz6_3
      try clear hcz6_4
      try clear hfz11_0
      try clear hfz11_1
      try clear hfz11_2
      try clear hfz11_3
      try clear hfz11_4
      try clear hfz16_0
      try clear hfz16_1
      try clear hfz16_2
      try clear hfz16_3
      try clear hfz16_4
      try clear hfz20_0
      try clear hfz20_1
      try clear hfz20_2
      try clear hfz20_3
      try clear hfz20_4
      try clear hfz25_0
      try clear hfz25_1
      try clear hfz25_2
      try clear hfz25_3
      try clear hfz25_4
      try clear hfz30_0
      try clear hfz30_1
      try clear hfz30_2
      try clear hfz30_3
      try clear hfz30_4
      try clear hfz33_0
      try clear hfz33_1
      try clear hfz33_2
      try clear hfz33_3
      try clear hfz33_4
      try clear hfz6_0
      try clear hfz6_1
      try clear hfz6_2
      try clear hfz6_3
      try clear hfz6_4
      try clear hx142_0
      try clear hx142_1
      try clear hx142_2
      try clear hx142_3
      try clear hx142_4
      try clear p142
      try clear p2
      try clear q142
      obtain ⟨x5_1, x7_1, x8_1, rfl, HA, HK1, HO_5, HO_7, HO_133001, HO_133004, BK132, HB⟩ := hrel
      cases gk with
      | zero => exact absurd HA.out (by simp [ductusref19_lay.l1])
      | succ k1 =>
        have H := HA.out
        clear HA
        simp only [ductusref19_lay.l1] at H
        by_cases c34 : x8_1 < (l0_4.length : Int)
        rotate_left
        · rw [if_neg c34] at H
          have c34b0 : decide (x8_1 < (l0_4.length : Int)) = false := decide_eq_false c34
          clear c34
          have H' := Aside0.mk H
          clear H
          have hcz59_0 : wr.cell? ⟨gb132, 0, none⟩ = some (.int .i64 a0_0) := (blk_cell BK132.out 0).trans rfl
          have hcz59_1 : wr.cell? ⟨gb132, 1, none⟩ = some (.slice A0_1 l0_1.length c0_1) := (blk_cell BK132.out 1).trans rfl
          have hcz59_2 : wr.cell? ⟨gb132, 2, none⟩ = some (.int .i64 a0_2) := (blk_cell BK132.out 2).trans rfl
          have hcz59_3 : wr.cell? ⟨gb132, 3, none⟩ = some (.int .i64 a0_3) := (blk_cell BK132.out 3).trans rfl
          have hcz59_4 : wr.cell? ⟨gb132, 4, none⟩ = some (.slice A0_4 l0_4.length c0_4) := (blk_cell BK132.out 4).trans rfl
          have hfz59_0 := blk_frozen BK132.out 0
          have hfz59_1 := blk_frozen BK132.out 1
          have hfz59_2 := blk_frozen BK132.out 2
          have hfz59_3 := blk_frozen BK132.out 3
          have hfz59_4 := blk_frozen BK132.out 4
          go_wp2
          go_loopg [11] k1 (fun kq v11 w' => ∃ (x5_2 : List (S39)) (x11_2 : Int), v11 = .int .i64 x11_2 ∧ Aside0 (ductusref19_lay.l2 kq a1 x5_2 x7_1 x11_2 = some r) ∧ Aside0 (kq ≤ k1) ∧ Aside0 (Kd.N k39 39 w' w.heap.size (fun k_ => ((P0_1_ k_ ∨ P0_4_ k_) ∨ w.heap.size ≤ k_) ∧ some k_ ≠ (u7 : Value).ownBlock ∧ k_ ≠ gb132) u5 x5_2) ∧ Aside0 (Kd.R (Kd.int .i64) 3 w' w.heap.size (fun k_ => (w.heap.size ≤ k_)) u7 x7_1) ∧ Aside0 (Kd.V k42 42 w' w.heap.size (fun k_ => ((P0_1_ k_ ∨ P0_4_ k_) ∨ w.heap.size ≤ k_) ∧ some k_ ≠ (u5 : Value).ownBlock ∧ some k_ ≠ (u7 : Value).ownBlock ∧ k_ ≠ gb132) (.slice A0_1 l0_1.length c0_1) l0_1) ∧ Aside0 (Kd.V k25 25 w' w.heap.size (fun k_ => ((P0_1_ k_ ∨ P0_4_ k_) ∨ w.heap.size ≤ k_) ∧ some k_ ≠ (u5 : Value).ownBlock ∧ some k_ ≠ (u7 : Value).ownBlock ∧ k_ ≠ gb132) (.slice A0_4 l0_4.length c0_4) l0_4) ∧ Aside0 (w'.heap[gb132]? = some (.cells #[.int .i64 a0_0, (.slice A0_1 l0_1.length c0_1), .int .i64 a0_2, .int .i64 a0_3, (.slice A0_4 l0_4.length c0_4)] 25 (0, 0))) ∧ Aside0 (Below w.heap.size w w'))
          case atStart => exact ⟨(x5_1), (0), (by first | rfl | (simp; done) | (simp [*]; done)), H', ⟨Nat.le_refl _⟩, ⟨by (with_reducible repeat (first | apply Kd.N_alloc | apply Kd.N_drewN | apply Kd.N_drew)); exact HO_5.out⟩, ⟨by (with_reducible repeat (first | apply Kd.R_alloc | apply Kd.R_drewN | apply Kd.R_drew)); exact HO_7.out⟩, ⟨by (with_reducible repeat (first | apply Kd.V_alloc | apply Kd.V_drewN | apply Kd.V_drew)); exact HO_133001.out⟩, ⟨by (with_reducible repeat (first | apply Kd.V_alloc | apply Kd.V_drewN | apply Kd.V_drew)); exact HO_133004.out⟩, ⟨by (with_reducible repeat (first | refine blk_drewN ?_ _ | refine blk_drew ?_ | refine blk_alloc ?_ _)); exact BK132.out⟩, ⟨by repeat (first | (with_reducible first | exact HB.out | apply below_alloc | apply pw_below_drewN | apply below_drew1 | refine below_set ?_ GE132.out) | exact HB.out)⟩⟩
          case round =>
            clear H'
            try clear c1
            try clear p1
            try clear q1
            try clear hx1
            try clear c2
            try clear p2
            try clear c3
            try clear c3b0
            try clear c3b1
            try clear c4
            try clear p6
            try clear c8
            try clear c8b0
            try clear c8b1
            try clear c9
            try clear c13
            try clear c13b0
            try clear c13b1
            try clear c14
            try clear p14
            try clear q14
            try clear hx14
            try clear c15
            try clear p15
            try clear q15
            try clear hx15
            try clear c18
            try clear c18b0
            try clear c18b1
            try clear c21
            try clear c21b0
            try clear c22
            try clear c22b0
            try clear c23
            try clear c24
            try clear c31
            try clear c31b0
            try clear c31b1
            try clear c34
            try clear c34b0
            try clear c35
            try clear c35b0
            try clear c35b1
            try clear c36
            try clear c36b0
            try clear c38
            try clear c44
            try clear c44b0
            try clear c46
            try clear c47
            try clear c48
            try clear c49
            try clear hcz11_0
            try clear hcz11_1
            try clear hcz11_2
            try clear hcz11_3
            try clear hcz11_4
            try clear hcz16_0
            try clear hcz16_1
            try clear hcz16_2
            try clear hcz16_3
            try clear hcz16_4
            try clear hcz20_0
            try clear hcz20_1
            try clear hcz20_2
            try clear hcz20_3
            try clear hcz20_4
            try clear hcz25_0
            try clear hcz25_1
            try clear hcz25_2
            try clear hcz25_3
            try clear hcz25_4
            try clear hcz30_0
            try clear hcz30_1
            try clear hcz30_2
            try clear hcz30_3
            try clear hcz30_4
            try clear hcz33_0
            try clear hcz33_1
            try clear hcz33_2
            try clear hcz33_3
            try clear hcz33_4
            try clear hcz39_0
            try clear hcz39_1
            try clear hcz39_2
            try clear hcz39_3
            try clear hcz39_4
            try clear hcz50_0
            try clear hcz50_1
            try clear hcz50_2
            try clear hcz50_3
            try clear hcz50_4
            try clear hcz59_0
            try clear hcz59_1
            try clear hcz59_2
            try clear hcz59_3
            try clear hcz59_4
            try clear hcz6_0
            try clear hcz6_1
            try clear hcz6_2
            try clear hcz6_3
            try clear hcz6_4
            try clear hfz11_0
            try clear hfz11_1
            try clear hfz11_2
            try clear hfz11_3
            try clear hfz11_4
            try clear hfz16_0
            try clear hfz16_1
            try clear hfz16_2
            try clear hfz16_3
            try clear hfz16_4
            try clear hfz20_0
            try clear hfz20_1
            try clear hfz20_2
            try clear hfz20_3
            try clear hfz20_4
            try clear hfz25_0
            try clear hfz25_1
            try clear hfz25_2
            try clear hfz25_3
            try clear hfz25_4
            try clear hfz30_0
            try clear hfz30_1
            try clear hfz30_2
            try clear hfz30_3
            try clear hfz30_4
            try clear hfz33_0
            try clear hfz33_1
            try clear hfz33_2
            try clear hfz33_3
            try clear hfz33_4
            try clear hfz39_0
            try clear hfz39_1
            try clear hfz39_2
            try clear hfz39_3
            try clear hfz39_4
            try clear hfz50_0
            try clear hfz50_1
            try clear hfz50_2
            try clear hfz50_3
            try clear hfz50_4
            try clear hfz59_0
            try clear hfz59_1
            try clear hfz59_2
            try clear hfz59_3
            try clear hfz59_4
            try clear hfz6_0
            try clear hfz6_1
            try clear hfz6_2
            try clear hfz6_3
            try clear hfz6_4
            try clear hx142_0
            try clear hx142_1
            try clear hx142_2
            try clear hx142_3
            try clear hx142_4
            try clear hx149_0
            try clear hx149_1
            try clear hx149_2
            try clear hx149_3
            try clear hx149_4
            try clear hx156_0
            try clear hx156_1
            try clear hx156_2
            try clear hx156_3
            try clear hx156_4
            try clear p1
            try clear p14
            try clear p142
            try clear p149
            try clear p156
            try clear p2
            try clear p6
            try clear q1
            try clear q14
            try clear q142
            try clear q149
            try clear q156
            obtain ⟨x5_2, x11_2, rfl, HA, HK2, HO_5, HO_7, HO_133001, HO_133004, BK132, HB⟩ := hrel
            cases gk with
            | zero => exact absurd HA.out (by simp [ductusref19_lay.l2])
            | succ k2 =>
              have H := HA.out
              clear HA
              simp only [ductusref19_lay.l2] at H
              by_cases c60 : x11_2 < (x7_1.length : Int)
              rotate_left
              · rw [if_neg c60] at H
                have c60b0 : decide (x11_2 < (x7_1.length : Int)) = false := decide_eq_false c60
                clear c60
                obtain rfl := Option.some.inj H
                obtain ⟨Ao69, co69, eo69⟩ := Kd.R_slice HO_7.out
                subst eo69
                go_wp2
                go_ret
                exact ⟨_, by first | rfl | (simp [errW_none, errW_some] <;> rfl) | (simp [*, errW_none, errW_some] <;> rfl), by (with_reducible repeat (first | apply Kd.N_alloc | apply Kd.N_drewN | apply Kd.N_drew)); exact Kd.N_mono HO_5.out (fun _ hk => hk.1), by repeat (first | (with_reducible first | exact HB.out | apply below_alloc | apply pw_below_drewN | apply below_drew1 | refine below_set ?_ GE132.out) | exact HB.out)⟩
              rw [if_pos c60] at H
              have c60b0 : decide (x11_2 < (x7_1.length : Int)) = true := decide_eq_true c60
              clear c60
              by_cases c61 : 0 ≤ x11_2
              rotate_left
              · rw [if_neg c61] at H
                exact absurd H (by simp)
              rw [if_pos c61] at H
              have c61b0 : decide (0 ≤ x11_2) = true := decide_eq_true c61
              clear c61
              by_cases c62 : 0 ≤ (rd x7_1 x11_2)
              rotate_left
              · rw [if_neg c62] at H
                exact absurd H (by simp)
              rw [if_pos c62] at H
              have c62b0 : decide (0 ≤ (rd x7_1 x11_2)) = true := decide_eq_true c62
              clear c62
              by_cases c63 : (rd x7_1 x11_2) < (x5_2.length : Int)
              rotate_left
              · rw [if_neg c63] at H
                exact absurd H (by simp)
              rw [if_pos c63] at H
              have c63b0 : decide ((rd x7_1 x11_2) < (x5_2.length : Int)) = true := decide_eq_true c63
              clear c63
              obtain ⟨y173, hy173⟩ : ∃ y_ : List (S39), y_ = (x5_2.set ((rd x7_1 x11_2) : Int).toNat (⟨(rd_T39 x5_2 (rd x7_1 x11_2)).f0, (rd_T39 x5_2 (rd x7_1 x11_2)).f1, wrap64 (a1 + (x5_2.length : Int)), (rd_T39 x5_2 (rd x7_1 x11_2)).f3⟩ : S39)) := ⟨_, rfl⟩
              replace H : (ductusref19_lay.l2 k2 a1 y173 x7_1 (wrap64 (x11_2 + 1))) = some r := by first | (rw [hy173]; with_reducible exact H) | (have H2_ := (Option.bind_some _ _).symm.trans H; rw [hy173]; with_reducible exact H2_) | (have H2_ := (Option.bind_some _ _).symm.trans H; with_reducible exact H2_) | with_reducible exact H | (rw [hy173]; exact H) | exact H
              have Ny173 := Aside0.mk hy173
              clear hy173
              have H' := Aside0.mk H
              clear H
              obtain ⟨Ao65, co65, eo65⟩ := Kd.R_slice HO_7.out
              subst eo65
              have p172 : 0 ≤ (x11_2 : Int) := of_decide_eq_true (by first | (with_reducible assumption) | assumption)
              have q172 : x11_2 < (x7_1.length : Int) := of_decide_eq_true (by first | (with_reducible assumption) | assumption)
              obtain ⟨ad172, e172, hx172_0⟩ := Kd.at_int (Kd.R_reads' HO_7.out).2.2 x11_2 p172 q172
              cases e172
              replace p172 := eq_true p172
              replace q172 := eq_true q172
              obtain ⟨Ao66, co66, eo66⟩ := Kd.N_slice HO_5.out
              subst eo66
              have p64 : 0 ≤ ((rd x7_1 x11_2) : Int) := of_decide_eq_true (by first | (with_reducible assumption) | assumption)
              have q64 : ((rd x7_1 x11_2) : Int) < ((x5_2.length : Int) : Int) := of_decide_eq_true (by first | (with_reducible assumption) | assumption)
              obtain ⟨go64, co64, eo64, gb64, gl64, cl64, HG64⟩ := Kd.N_form HO_5.out (by omega)
              (first | cases eo64 | (injection eo64 with ea_ en_ ec_; (first | subst ea_ | (injection ea_ with ea_; subst ea_)); subst ec_; clear en_))
              have GB64 := Aside0.mk gb64
              have GG64 := Aside0.mk HG64
              clear gb64 gl64 HG64
              obtain ⟨ce64, hcl64, hM64, hcc64, hfr64⟩ := Kd.N_elem HO_5.out z39 ((rd x7_1 x11_2) : Int) p64 q64
              obtain ⟨ua64_1, uc64_1, rfl, ul64_1, ge64_1⟩ := k39_openF hM64
              have hx64_0 : wr.cell? ⟨go64, ((rd x7_1 x11_2) : Int).toNat * 4, none⟩ = some (.int .i64 ((rd_T39 x5_2 (rd x7_1 x11_2)).f0)) := hcc64 0 _ rfl
              have hx64_1 : wr.cell? ⟨go64, ((rd x7_1 x11_2) : Int).toNat * 4 + 1, none⟩ = some (.slice ua64_1 ((rd_T39 x5_2 (rd x7_1 x11_2)).f1).length uc64_1) := hcc64 1 _ rfl
              have hx64_2 : wr.cell? ⟨go64, ((rd x7_1 x11_2) : Int).toNat * 4 + 2, none⟩ = some (.int .i64 ((rd_T39 x5_2 (rd x7_1 x11_2)).f2)) := hcc64 2 _ rfl
              have hx64_3 : wr.cell? ⟨go64, ((rd x7_1 x11_2) : Int).toNat * 4 + 3, none⟩ = some (.int .i64 ((rd_T39 x5_2 (rd x7_1 x11_2)).f3)) := hcc64 3 _ rfl
              have hf64_0 : wr.frozen? ⟨go64, ((rd x7_1 x11_2) : Int).toNat * 4, none⟩ = false := hfr64 0
              have hf64_1 : wr.frozen? ⟨go64, ((rd x7_1 x11_2) : Int).toNat * 4 + 1, none⟩ = false := hfr64 1
              have hf64_2 : wr.frozen? ⟨go64, ((rd x7_1 x11_2) : Int).toNat * 4 + 2, none⟩ = false := hfr64 2
              have hf64_3 : wr.frozen? ⟨go64, ((rd x7_1 x11_2) : Int).toNat * 4 + 3, none⟩ = false := hfr64 3
              clear hcl64 hcc64 hfr64 hM64
              replace p64 := eq_true p64
              replace q64 := eq_true q64
              have HX67 := Aside0.mk (show Kd.N k39 39 wr w.heap.size (fun k_ => ((P0_1_ k_ ∨ P0_4_ k_) ∨ w.heap.size ≤ k_) ∧ some k_ ≠ (.slice (some ad172) x7_1.length co65 : Value).ownBlock ∧ k_ ≠ gb132) (.slice (some ⟨go64, 0, none⟩) x5_2.length co66) x5_2 from (by (with_reducible repeat (first | apply Kd.N_alloc | apply Kd.N_drewN | apply Kd.N_drew)); exact HO_5.out))
              obtain ⟨ce67, hcl67, hM67, hcc67, hfr67⟩ := Kd.N_elem HX67.out z39 ((rd x7_1 x11_2) : Int) (of_decide_eq_true (by first | (with_reducible assumption) | assumption)) (by have h_ : ((rd x7_1 x11_2) : Int) < ((x5_2.length : Int) : Int) := of_decide_eq_true (by first | (with_reducible assumption) | assumption); first | exact h_ | (have e_ := (Kd.N_reads' HO_5.out).1; omega) | simpa using h_)
              obtain ⟨ua67_1, uc67_1, rfl, ul67_1, ge67_1⟩ := k39_openF hM67
              have HP67 := Kd.N_seg HX67.out ((rd x7_1 x11_2) : Int) (of_decide_eq_true (by first | (with_reducible assumption) | assumption)) (by have h_ : ((rd x7_1 x11_2) : Int) < ((x5_2.length : Int) : Int) := of_decide_eq_true (by first | (with_reducible assumption) | assumption); first | exact h_ | (have e_ := (Kd.N_reads' HO_5.out).1; omega) | simpa using h_) (seg := [.int .i64 (wrap64 (a1 + (x5_2.length : Int)))]) (j := 2) hcl67 hcc67 (show 3 ≤ 4 from by decide) (x' := (⟨(rd_T39 x5_2 (rd x7_1 x11_2)).f0, (rd_T39 x5_2 (rd x7_1 x11_2)).f1, wrap64 (a1 + (x5_2.length : Int)), (rd_T39 x5_2 (rd x7_1 x11_2)).f3⟩ : S39)) (k39_mkF _ _ (⟨(rd_T39 x5_2 (rd x7_1 x11_2)).f0, (rd_T39 x5_2 (rd x7_1 x11_2)).f1, wrap64 (a1 + (x5_2.length : Int)), (rd_T39 x5_2 (rd x7_1 x11_2)).f3⟩ : S39) ul67_1 ge67_1) (fun _ hk => hk)
              have hx67_2 := hcc67 2 _ rfl
              (try simp only [show (k39).sz = 4 from rfl, Nat.mul_one, Nat.add_zero] at hx67_2)
              have hf67_2 := hfr67 2
              (try simp only [show (k39).sz = 4 from rfl, Nat.mul_one, Nat.add_zero] at hf67_2)
              clear hcl67 hcc67 hfr67 hM67
              go_wp2_with (first | ((with_reducible refine gate_store (t := 3) (p := 141) rfl ?_); refine store_event (t := 3) (p := 141) (v := ?vo_w68) (w1 := (wr.setCell ⟨go64, ((rd x7_1 x11_2) : Int).toNat * 4 + 2, none⟩ (.int .i64 (wrap64 (a1 + (x5_2.length : Int)))))) ?hg ?ho ?hn ?hr ?_; (case ho => rfl); (case hg => rfl); (case hn => rfl); (case hr => first | (go_simp; done) | (go_simp; rfl)); intro w68 hw; have hg : wr.grownBy w68 (some go64) := (by rw [hw]; exact HP67.2); have hp_ : Kd.N k39 39 w68 w.heap.size (fun k_ => ((P0_1_ k_ ∨ P0_4_ k_) ∨ w.heap.size ≤ k_) ∧ some k_ ≠ (.slice (some ad172) x7_1.length co65 : Value).ownBlock ∧ k_ ≠ gb132) (.slice (some ⟨go64, 0, none⟩) x5_2.length co66) y173 := (by rw [hw, Ny173.out]; exact HP67.1); clear HP67; have n0_ := Aside0.mk (hp_); have n1_ := Aside0.mk (Kd.R_over' (v := (.slice (some ⟨go64, 0, none⟩) x5_2.length co66)) (by (with_reducible repeat (first | apply Kd.R_alloc | apply Kd.R_drewN | apply Kd.R_drew)); exact HO_7.out) (Kd.N_typed HO_5.out) (by decide) hg); have n2_ := Aside0.mk (Kd.V_afterv (v := (.slice (some ⟨go64, 0, none⟩) x5_2.length co66)) (v1 := (.slice (some ⟨go64, 0, none⟩) x5_2.length co66)) (ok := (fun k_ => ((P0_1_ k_ ∨ P0_4_ k_) ∨ w.heap.size ≤ k_) ∧ some k_ ≠ (.slice (some ad172) x7_1.length co65 : Value).ownBlock ∧ k_ ≠ gb132)) (by (with_reducible repeat (first | apply Kd.V_alloc | apply Kd.V_drewN | apply Kd.V_drew)); exact Kd.V_mono HO_133001.out (fun _ hk => ⟨⟨hk.1, ⟨hk.2.2.1, hk.2.2.2⟩⟩, hk.2.1⟩)) hg (.inl rfl)); have n3_ := Aside0.mk (Kd.V_afterv (v := (.slice (some ⟨go64, 0, none⟩) x5_2.length co66)) (v1 := (.slice (some ⟨go64, 0, none⟩) x5_2.length co66)) (ok := (fun k_ => ((P0_1_ k_ ∨ P0_4_ k_) ∨ w.heap.size ≤ k_) ∧ some k_ ≠ (.slice (some ad172) x7_1.length co65 : Value).ownBlock ∧ k_ ≠ gb132)) (by (with_reducible repeat (first | apply Kd.V_alloc | apply Kd.V_drewN | apply Kd.V_drew)); exact Kd.V_mono HO_133004.out (fun _ hk => ⟨⟨hk.1, ⟨hk.2.2.1, hk.2.2.2⟩⟩, hk.2.1⟩)) hg (.inl rfl)); have n4_ := Aside0.mk (blk_grown (g := gb132) (o := .cells #[.int .i64 a0_0, .slice A0_1 l0_1.length c0_1, .int .i64 a0_2, .int .i64 a0_3, .slice A0_4 l0_4.length c0_4] 25 (0, 0)) (by (with_reducible repeat (first | refine blk_drewN ?_ _ | refine blk_drew ?_ | refine blk_alloc ?_ _)); exact BK132.out) hg (Kd.N_ne HO_5.out BK132.out (by decide))); have n5_ := Aside0.mk ((by rw [hw]; exact below_set (HB.out) GB64.out : Below w.heap.size w w68)); clear HO_5; clear HO_7; clear HO_133001; clear HO_133004; clear BK132; clear HB; have HO_5 := n0_; have HO_7 := n1_; have HO_133001 := n2_; have HO_133004 := n3_; have BK132 := n4_; have HB := n5_; clear n0_ n1_ n2_ n3_ n4_ n5_; clear hg hw hp_))
              go_roundg k2
              case measure => have := HK1.out; have := HK2.out; omega
              case rel => exact ⟨(y173), (wrap64 (x11_2 + 1)), (by first | rfl | (simp; done) | (simp [*]; done)), H', ⟨by have := HK1.out; have := HK2.out; omega⟩, ⟨by (with_reducible repeat (first | apply Kd.N_alloc | apply Kd.N_drewN | apply Kd.N_drew)); exact HO_5.out⟩, ⟨by (with_reducible repeat (first | apply Kd.R_alloc | apply Kd.R_drewN | apply Kd.R_drew)); exact HO_7.out⟩, ⟨by (with_reducible repeat (first | apply Kd.V_alloc | apply Kd.V_drewN | apply Kd.V_drew)); exact Kd.V_mono HO_133001.out (fun _ hk => ⟨hk.1.1, ⟨hk.2, ⟨hk.1.2.1, hk.1.2.2⟩⟩⟩)⟩, ⟨by (with_reducible repeat (first | apply Kd.V_alloc | apply Kd.V_drewN | apply Kd.V_drew)); exact Kd.V_mono HO_133004.out (fun _ hk => ⟨hk.1.1, ⟨hk.2, ⟨hk.1.2.1, hk.1.2.2⟩⟩⟩)⟩, ⟨by (with_reducible repeat (first | refine blk_drewN ?_ _ | refine blk_drew ?_ | refine blk_alloc ?_ _)); exact BK132.out⟩, ⟨by repeat (first | (with_reducible first | exact HB.out | apply below_alloc | apply pw_below_drewN | apply below_drew1 | refine below_set ?_ GE132.out) | exact HB.out)⟩⟩
        rw [if_pos c34] at H
        have c34b0 : decide (x8_1 < (l0_4.length : Int)) = true := decide_eq_true c34
        clear c34
        by_cases c35 : x8_1 = (wrap64 ((l0_4.length : Int) - 1))
        · rw [if_pos c35] at H
          have c35b0 : (x8_1 == (wrap64 ((l0_4.length : Int) - 1))) = true := beq_iff_eq.mpr c35
          have c35b1 : (x8_1 != (wrap64 ((l0_4.length : Int) - 1))) = false := bne_eq_false_iff_eq.mpr c35
          clear c35
          by_cases c36 : 0 ≤ x8_1
          rotate_left
          · rw [if_neg c36] at H
            exact absurd H (by simp)
          rw [if_pos c36] at H
          have c36b0 : decide (0 ≤ x8_1) = true := decide_eq_true c36
          clear c36
          replace H := Option.bind_eq_some_iff.mp H
          obtain ⟨t150, A370, H⟩ := H
          replace H : (if x5_1.length + t150.length < 2932031007402 then (ductusref19_lay.l1 k1 a1 (x5_1 ++ t150) x7_1 (wrap64 (x8_1 + 1)) a0_0 l0_1 a0_2 a0_3 l0_4) else (none)) = some r := H
          have A37 := Aside0.mk A370
          clear A370
          by_cases c38 : x5_1.length + t150.length < 2932031007402
          rotate_left
          · rw [if_neg c38] at H
            exact absurd H (by simp)
          rw [if_pos c38] at H
          have LMc38 := Aside0.mk c38
          clear c38
          obtain ⟨y153, hy153⟩ : ∃ y_ : List (S39), y_ = (x5_1 ++ t150) := ⟨_, rfl⟩
          replace H : (ductusref19_lay.l1 k1 a1 y153 x7_1 (wrap64 (x8_1 + 1)) a0_0 l0_1 a0_2 a0_3 l0_4) = some r := by first | (rw [hy153]; with_reducible exact H) | (have H2_ := (Option.bind_some _ _).symm.trans H; rw [hy153]; with_reducible exact H2_) | (have H2_ := (Option.bind_some _ _).symm.trans H; with_reducible exact H2_) | with_reducible exact H | (rw [hy153]; exact H) | exact H
          have Ny153 := Aside0.mk hy153
          clear hy153
          have H' := Aside0.mk H
          clear H
          have hcz39_0 : wr.cell? ⟨gb132, 0, none⟩ = some (.int .i64 a0_0) := (blk_cell BK132.out 0).trans rfl
          have hcz39_1 : wr.cell? ⟨gb132, 1, none⟩ = some (.slice A0_1 l0_1.length c0_1) := (blk_cell BK132.out 1).trans rfl
          have hcz39_2 : wr.cell? ⟨gb132, 2, none⟩ = some (.int .i64 a0_2) := (blk_cell BK132.out 2).trans rfl
          have hcz39_3 : wr.cell? ⟨gb132, 3, none⟩ = some (.int .i64 a0_3) := (blk_cell BK132.out 3).trans rfl
          have hcz39_4 : wr.cell? ⟨gb132, 4, none⟩ = some (.slice A0_4 l0_4.length c0_4) := (blk_cell BK132.out 4).trans rfl
          have hfz39_0 := blk_frozen BK132.out 0
          have hfz39_1 := blk_frozen BK132.out 1
          have hfz39_2 := blk_frozen BK132.out 2
          have hfz39_3 := blk_frozen BK132.out 3
          have hfz39_4 := blk_frozen BK132.out 4
          have p149 : 0 ≤ (x8_1 : Int) := of_decide_eq_true (by first | (with_reducible assumption) | assumption)
          have q149 : x8_1 < (l0_4.length : Int) := of_decide_eq_true (by first | (with_reducible assumption) | assumption)
          obtain ⟨ad149, A149_1, c149_1, A149_4, c149_4, e149, hx149_0, hx149_1, hx149_2, hx149_3, hx149_4, hl149_1, hi149_1, hl149_4, hi149_4⟩ := at_T25 (Kd.V_reads' HO_133004.out).2.2 x8_1 p149 q149
          cases e149
          obtain ⟨ce149, hce149, hMe149, hcc149⟩ := Kd.V_get HO_133004.out z25 x8_1 p149 (by first | exact q149 | exact of_decide_eq_true (by first | (with_reducible assumption) | assumption) | (have e_ := (Kd.V_reads' HO_133004.out).1; omega))
          obtain ⟨ua149_1, uc149_1, ua149_4, uc149_4, rfl, ul149_1, ge149_1, ul149_4, ge149_4⟩ := k25_openF hMe149
          have hv149_1 := hcc149 1 _ rfl
          rw [add_field _ _ 1 (by omega)] at hv149_1
          replace hv149_1 := Option.some.inj (hv149_1.symm.trans hx149_1)
          injection hv149_1 with hva_ hvn_ hvc_
          rw [hva_] at ge149_1
          rw [hvc_] at ul149_1
          have HL149_1 := Aside0.mk (show Kd.V k42 42 _ w.heap.size _ _ ((rd_T25 l0_4 x8_1).f1) from Kd.V_mk ul149_1 ge149_1)
          clear hva_ hvn_ hvc_ ge149_1 ul149_1
          have hv149_4 := hcc149 4 _ rfl
          rw [add_field _ _ 4 (by omega)] at hv149_4
          replace hv149_4 := Option.some.inj (hv149_4.symm.trans hx149_4)
          injection hv149_4 with hva_ hvn_ hvc_
          rw [hva_] at ge149_4
          rw [hvc_] at ul149_4
          have HL149_4 := Aside0.mk (show Kd.V k25 25 _ w.heap.size _ _ ((rd_T25 l0_4 x8_1).f4) from Kd.V_mk ul149_4 ge149_4)
          clear hva_ hvn_ hvc_ ge149_4 ul149_4
          clear hcc149 hce149
          have HR149_1 := Aside0.mk hi149_1
          have HC149_1 := Aside0.mk hl149_1
          clear hi149_1 hl149_1
          have HR149_4 := Aside0.mk hi149_4
          have HC149_4 := Aside0.mk hl149_4
          clear hi149_4 hl149_4
          replace p149 := eq_true p149
          replace q149 := eq_true q149
          obtain ⟨Ao40, co40, eo40⟩ := Kd.N_slice HO_5.out
          subst eo40
          go_wp2_with (first | ((with_reducible refine gate_callee (f := 23) rfl ?_); refine goesL_ (some 86) rfl rfl Try.func23 (by kernel_rfl) rfl #[.agg #[.int .i64 ((rd_T25 l0_4 x8_1).f0), .slice A149_1 ((rd_T25 l0_4 x8_1).f1).length c149_1, .int .i64 ((rd_T25 l0_4 x8_1).f2), .int .i64 ((rd_T25 l0_4 x8_1).f3), .slice A149_4 ((rd_T25 l0_4 x8_1).f4).length c149_4], .int .i64 (wrap64 (a1 + (x5_1.length : Int)))] rfl (by (try simp only [List.map_toArray, List.map_cons, List.map_nil]); first | done | rfl | (simp only [List.length_drop, List.length_take]; rfl)) ?_; (with_reducible refine (ih k1 (by have := HK1.out; omega) ((rd_T25 l0_4 x8_1).f0) (fun k_ => (((P0_1_ k_ ∨ P0_4_ k_) ∨ w.heap.size ≤ k_) ∧ (some k_ ≠ (.slice Ao40 x5_1.length co40 : Value).ownBlock ∧ (some k_ ≠ (u7 : Value).ownBlock ∧ k_ ≠ gb132)))) _ _ ((rd_T25 l0_4 x8_1).f1) ((rd_T25 l0_4 x8_1).f2) ((rd_T25 l0_4 x8_1).f3) (fun k_ => (((P0_1_ k_ ∨ P0_4_ k_) ∨ w.heap.size ≤ k_) ∧ (some k_ ≠ (.slice Ao40 x5_1.length co40 : Value).ownBlock ∧ (some k_ ≠ (u7 : Value).ownBlock ∧ k_ ≠ gb132)))) _ _ ((rd_T25 l0_4 x8_1).f4) (wrap64 (a1 + (x5_1.length : Int))) t150 _ ?side1 ?side2 A37.out).mono ?_); (case side1 => exact HL149_1.out); (case side2 => exact HL149_4.out); rintro e w41 ⟨v151, rfl, ho0, hb⟩; refine ⟨_, rfl, ?_⟩; have n0_ := Aside0.mk (Kd.N_elder' (by (with_reducible repeat (first | apply Kd.N_alloc | apply Kd.N_drewN | apply Kd.N_drew)); exact HO_5.out) (Kd.N_base ho0) hb); have n1_ := Aside0.mk (Kd.R_below (by (with_reducible repeat (first | apply Kd.R_alloc | apply Kd.R_drewN | apply Kd.R_drew)); exact HO_7.out) hb); have n2_ := Aside0.mk (Kd.V_elder' (by (with_reducible repeat (first | apply Kd.V_alloc | apply Kd.V_drewN | apply Kd.V_drew)); exact HO_133001.out) (Kd.N_base ho0) hb); have n3_ := Aside0.mk (Kd.V_elder' (by (with_reducible repeat (first | apply Kd.V_alloc | apply Kd.V_drewN | apply Kd.V_drew)); exact HO_133004.out) (Kd.N_base ho0) hb); have n4_ := Aside0.mk (Kd.V_elder' (by (with_reducible repeat (first | apply Kd.V_alloc | apply Kd.V_drewN | apply Kd.V_drew)); exact HL149_1.out) (Kd.N_base ho0) hb); have n5_ := Aside0.mk (Kd.V_elder' (by (with_reducible repeat (first | apply Kd.V_alloc | apply Kd.V_drewN | apply Kd.V_drew)); exact HL149_4.out) (Kd.N_base ho0) hb); have n6_ := Aside0.mk (Kd.N_lower (Kd.N_mono (ok' := fun k_ => ((P0_1_ k_ ∨ P0_4_ k_) ∨ w.heap.size ≤ k_) ∧ some k_ ≠ (.slice Ao40 x5_1.length co40 : Value).ownBlock ∧ some k_ ≠ (u7 : Value).ownBlock ∧ k_ ≠ gb132) ho0 (fun k_ hk_ => ⟨Or.elim hk_ (fun hs_ => Or.elim hs_ (fun hs_ => hs_.1) (fun hs_ => hs_.1)) (fun hn_ => (.inr (Nat.le_trans (below_size (by repeat (first | (with_reducible first | exact HB.out | apply below_alloc | apply pw_below_drewN | apply below_drew1 | refine below_set ?_ GE132.out) | exact HB.out))) hn_))), Or.elim hk_ (fun hs_ => Or.elim hs_ (fun hs_ => hs_.2.1) (fun hs_ => hs_.2.1)) (fun hn_ => (Kd.fresh' (Kd.N_lt (by (with_reducible repeat (first | apply Kd.N_alloc | apply Kd.N_drewN | apply Kd.N_drew)); exact HO_5.out)) k_ hn_)), Or.elim hk_ (fun hs_ => Or.elim hs_ (fun hs_ => hs_.2.2.1) (fun hs_ => hs_.2.2.1)) (fun hn_ => (Kd.fresh' (Kd.R_lt (by (with_reducible repeat (first | apply Kd.R_alloc | apply Kd.R_drewN | apply Kd.R_drew)); exact HO_7.out)) k_ hn_)), Or.elim hk_ (fun hs_ => Or.elim hs_ (fun hs_ => hs_.2.2.2) (fun hs_ => hs_.2.2.2)) (fun hn_ => (Kd.freshB (g := gb132) (o := .cells #[.int .i64 a0_0, .slice A0_1 l0_1.length c0_1, .int .i64 a0_2, .int .i64 a0_3, .slice (some ad149) l0_4.length c0_4] 25 (0, 0)) (by (with_reducible repeat (first | refine blk_drewN ?_ _ | refine blk_drew ?_ | refine blk_alloc ?_ _)); exact BK132.out) k_ hn_))⟩)) (below_size (by repeat (first | (with_reducible first | exact HB.out | apply below_alloc | apply pw_below_drewN | apply below_drew1 | refine below_set ?_ GE132.out) | exact HB.out)))); have n7_ := Aside0.mk (blk_below (g := gb132) (o := .cells #[.int .i64 a0_0, .slice A0_1 l0_1.length c0_1, .int .i64 a0_2, .int .i64 a0_3, .slice (some ad149) l0_4.length c0_4] 25 (0, 0)) (by (with_reducible repeat (first | refine blk_drewN ?_ _ | refine blk_drew ?_ | refine blk_alloc ?_ _)); exact BK132.out) hb); have n8_ := Aside0.mk (Kd.C_below (by repeat (first | (with_reducible exact HR149_1.out) | (with_reducible refine Kd.C_alloc ?_ _) | (with_reducible refine Kd.C_drewN ?_ _) | (with_reducible refine Kd.C_drew ?_) | exact HR149_1.out)) hb); have n9_ := Aside0.mk (Kd.C_below (by repeat (first | (with_reducible exact HR149_4.out) | (with_reducible refine Kd.C_alloc ?_ _) | (with_reducible refine Kd.C_drewN ?_ _) | (with_reducible refine Kd.C_drew ?_) | exact HR149_4.out)) hb); have n10_ := Aside0.mk (below_step (by repeat (first | (with_reducible first | exact HB.out | apply below_alloc | apply pw_below_drewN | apply below_drew1 | refine below_set ?_ GE132.out) | exact HB.out)) hb); clear HO_5; clear HO_7; clear HO_133001; clear HO_133004; clear HL149_1; clear HL149_4; clear BK132; clear HR149_1; clear HR149_4; clear HB; have HO_5 := n0_; have HO_7 := n1_; have HO_133001 := n2_; have HO_133004 := n3_; have HL149_1 := n4_; have HL149_4 := n5_; have HO152 := n6_; have BK132 := n7_; have HR149_1 := n8_; have HR149_4 := n9_; have HB := n10_; clear n0_ n1_ n2_ n3_ n4_ n5_ n6_ n7_ n8_ n9_ n10_; (try clear hb); (try clear hb2); (try clear hk); (try clear hi); (try clear ho0); obtain ⟨Ao43, co43, eo43⟩ := Kd.N_slice HO152.out; subst eo43) | ((with_reducible refine gate_builtin (b := .append) (xs := #[.tmp 76, .tmp 86]) rfl ?_); at_builtin; refine Kd.N_append_rows k39 (w0 := w) w.heap.size rfl (.tmp 76) (.tmp 86) 29 39 (.agg #[(.int .i64 0), (.slice none 0 0), (.int .i64 0), (.int .i64 0)]) 48 rfl Try.underlying29 info39 rfl (by decide) (by omega) (.slice Ao40 x5_1.length co40) x5_1 t150 _ _ _ (fun k_ => ((P0_1_ k_ ∨ P0_4_ k_) ∨ w.heap.size ≤ k_) ∧ some k_ ≠ (u7 : Value).ownBlock ∧ k_ ≠ gb132) (fun k_ => ((fun k_ => ((P0_1_ k_ ∨ P0_4_ k_) ∨ w.heap.size ≤ k_) ∧ some k_ ≠ (u7 : Value).ownBlock ∧ k_ ≠ gb132)) k_ ∧ some k_ ≠ (.slice Ao40 x5_1.length co40 : Value).ownBlock) rfl rfl ?aO ?aR (fun _ hk => hk) ?aF ?aB ?aS ?aL ?_; (case aR => exact (by skip; exact Kd.N_F (Kd.N_mono (ok' := (fun k_ => ((fun k_ => ((P0_1_ k_ ∨ P0_4_ k_) ∨ w.heap.size ≤ k_) ∧ some k_ ≠ (u7 : Value).ownBlock ∧ k_ ≠ gb132)) k_ ∧ some k_ ≠ (.slice Ao40 x5_1.length co40 : Value).ownBlock)) (HO152.out) (fun k_ hk => ⟨⟨hk.1, ⟨hk.2.2.1, hk.2.2.2⟩⟩, hk.2.1⟩)))); (case aB => exact (by repeat (first | (with_reducible first | exact HB.out | apply below_alloc | apply pw_below_drewN | apply below_drew1 | refine below_set ?_ GE132.out) | exact HB.out))); (case aF => exact (fun k_ hk => ⟨(.inr (Nat.le_trans (below_size (by repeat (first | (with_reducible first | exact HB.out | apply below_alloc | apply pw_below_drewN | apply below_drew1 | refine below_set ?_ GE132.out) | exact HB.out))) hk)), Kd.fresh' (Kd.R_lt (by (with_reducible repeat (first | apply Kd.R_alloc | apply Kd.R_drewN | apply Kd.R_drew)); exact HO_7.out)) k_ hk, Kd.freshB (g := gb132) (o := .cells #[.int .i64 a0_0, .slice A0_1 l0_1.length c0_1, .int .i64 a0_2, .int .i64 a0_3, .slice (some ad149) l0_4.length c0_4] 25 (0, 0)) (by (with_reducible repeat (first | refine blk_drewN ?_ _ | refine blk_drew ?_ | refine blk_alloc ?_ _)); exact BK132.out) k_ hk⟩)); (case aO => exact (by (with_reducible repeat (first | apply Kd.N_alloc | apply Kd.N_drewN | apply Kd.N_drew)); exact Kd.N_mono HO_5.out (fun _ hk => ⟨hk.1.1, ⟨hk.1.2.1, hk.1.2.2⟩⟩))); (case aS => exact (below_size (by repeat (first | (with_reducible first | exact HB.out | apply below_alloc | apply pw_below_drewN | apply below_drew1 | refine below_set ?_ GE132.out) | exact HB.out)))); (case aL => have := LMc38.out; omega); intro v154 w42 ho hb hg hat; rw [← Ny153.out] at ho; have n0_ := Aside0.mk (Kd.R_over' (by (with_reducible repeat (first | apply Kd.R_alloc | apply Kd.R_drewN | apply Kd.R_drew)); exact HO_7.out) (Kd.N_typed (by (with_reducible repeat (first | apply Kd.N_alloc | apply Kd.N_drewN | apply Kd.N_drew)); exact HO_5.out)) (by decide) hg); have n1_ := Aside0.mk (Kd.V_afterv (ok := (fun k_ => ((P0_1_ k_ ∨ P0_4_ k_) ∨ w.heap.size ≤ k_) ∧ some k_ ≠ (u7 : Value).ownBlock ∧ some k_ ≠ (.slice Ao43 t150.length co43 : Value).ownBlock ∧ k_ ≠ gb132)) (by (with_reducible repeat (first | apply Kd.V_alloc | apply Kd.V_drewN | apply Kd.V_drew)); exact Kd.V_mono HO_133001.out (fun _ hk => ⟨⟨hk.1.1, ⟨hk.1.2.2.1, ⟨hk.2, hk.1.2.2.2⟩⟩⟩, hk.1.2.1⟩)) hg hat); have n2_ := Aside0.mk (Kd.V_afterv (ok := (fun k_ => ((P0_1_ k_ ∨ P0_4_ k_) ∨ w.heap.size ≤ k_) ∧ some k_ ≠ (u7 : Value).ownBlock ∧ some k_ ≠ (.slice Ao43 t150.length co43 : Value).ownBlock ∧ k_ ≠ gb132)) (by (with_reducible repeat (first | apply Kd.V_alloc | apply Kd.V_drewN | apply Kd.V_drew)); exact Kd.V_mono HO_133004.out (fun _ hk => ⟨⟨hk.1.1, ⟨hk.1.2.2.1, ⟨hk.2, hk.1.2.2.2⟩⟩⟩, hk.1.2.1⟩)) hg hat); have n3_ := Aside0.mk (blk_grown (g := gb132) (o := .cells #[.int .i64 a0_0, .slice A0_1 l0_1.length c0_1, .int .i64 a0_2, .int .i64 a0_3, .slice (some ad149) l0_4.length c0_4] 25 (0, 0)) (by (with_reducible repeat (first | refine blk_drewN ?_ _ | refine blk_drew ?_ | refine blk_alloc ?_ _)); exact BK132.out) hg (Kd.N_ne HO_5.out BK132.out (by decide))); have n4_ := Aside0.mk (Kd.V_afterv (ok := (fun k_ => ((P0_1_ k_ ∨ P0_4_ k_) ∨ w.heap.size ≤ k_) ∧ some k_ ≠ (u7 : Value).ownBlock ∧ some k_ ≠ (.slice Ao43 t150.length co43 : Value).ownBlock ∧ k_ ≠ gb132)) (by (with_reducible repeat (first | apply Kd.V_alloc | apply Kd.V_drewN | apply Kd.V_drew)); exact Kd.V_mono HL149_1.out (fun _ hk => ⟨⟨hk.1.1, ⟨hk.1.2.2.1, ⟨hk.2, hk.1.2.2.2⟩⟩⟩, hk.1.2.1⟩)) hg hat); have n5_ := Aside0.mk (Kd.V_afterv (ok := (fun k_ => ((P0_1_ k_ ∨ P0_4_ k_) ∨ w.heap.size ≤ k_) ∧ some k_ ≠ (u7 : Value).ownBlock ∧ some k_ ≠ (.slice Ao43 t150.length co43 : Value).ownBlock ∧ k_ ≠ gb132)) (by (with_reducible repeat (first | apply Kd.V_alloc | apply Kd.V_drewN | apply Kd.V_drew)); exact Kd.V_mono HL149_4.out (fun _ hk => ⟨⟨hk.1.1, ⟨hk.1.2.2.1, ⟨hk.2, hk.1.2.2.2⟩⟩⟩, hk.1.2.1⟩)) hg hat); have n6_ := Aside0.mk (Kd.N_afterv (ok := (fun k_ => ((P0_1_ k_ ∨ P0_4_ k_) ∨ w.heap.size ≤ k_) ∧ some k_ ≠ (u7 : Value).ownBlock ∧ k_ ≠ gb132)) (by (with_reducible repeat (first | apply Kd.N_alloc | apply Kd.N_drewN | apply Kd.N_drew)); exact Kd.N_mono HO152.out (fun _ hk => ⟨⟨hk.1, ⟨hk.2.2.1, hk.2.2.2⟩⟩, hk.2.1⟩)) hg hat); have n7_ := Aside0.mk (hb); have n8_ := Aside0.mk (ho); clear HO_7; clear HO_133001; clear HO_133004; clear BK132; clear HL149_1; clear HL149_4; clear HO152; clear HB; clear HO_5; have HO_7 := n0_; have HO_133001 := n1_; have HO_133004 := n2_; have BK132 := n3_; have HL149_1 := n4_; have HL149_4 := n5_; have HO152 := n6_; have HB := n7_; have HO155 := n8_; clear n0_ n1_ n2_ n3_ n4_ n5_ n6_ n7_ n8_; clear ho hb hg hat))
          go_roundg k1
          case measure => have := HK1.out; omega
          case rel => exact ⟨(y153), (x7_1), (wrap64 (x8_1 + 1)), (by first | rfl | (simp; done) | (simp [*]; done)), H', ⟨by have := HK1.out; omega⟩, ⟨by (with_reducible repeat (first | apply Kd.N_alloc | apply Kd.N_drewN | apply Kd.N_drew)); exact HO155.out⟩, ⟨by (with_reducible repeat (first | apply Kd.R_alloc | apply Kd.R_drewN | apply Kd.R_drew)); exact HO_7.out⟩, ⟨by (with_reducible repeat (first | apply Kd.V_alloc | apply Kd.V_drewN | apply Kd.V_drew)); exact Kd.V_mono HO_133001.out (fun _ hk => ⟨hk.1.1, ⟨hk.2, ⟨hk.1.2.1, hk.1.2.2.2⟩⟩⟩)⟩, ⟨by (with_reducible repeat (first | apply Kd.V_alloc | apply Kd.V_drewN | apply Kd.V_drew)); exact Kd.V_mono HO_133004.out (fun _ hk => ⟨hk.1.1, ⟨hk.2, ⟨hk.1.2.1, hk.1.2.2.2⟩⟩⟩)⟩, ⟨by (with_reducible repeat (first | refine blk_drewN ?_ _ | refine blk_drew ?_ | refine blk_alloc ?_ _)); exact BK132.out⟩, ⟨by repeat (first | (with_reducible first | exact HB.out | apply below_alloc | apply pw_below_drewN | apply below_drew1 | refine below_set ?_ GE132.out) | exact HB.out)⟩⟩
        rw [if_neg c35] at H
        have c35b0 : (x8_1 == (wrap64 ((l0_4.length : Int) - 1))) = false := beq_eq_false_iff_ne.mpr c35
        have c35b1 : (x8_1 != (wrap64 ((l0_4.length : Int) - 1))) = true := bne_iff_ne.mpr c35
        by_cases c44 : 0 ≤ x8_1
        rotate_left
        · rw [if_neg c44] at H
          exact absurd H (by simp)
        rw [if_pos c44] at H
        have c44b0 : decide (0 ≤ x8_1) = true := decide_eq_true c44
        clear c44
        replace H := Option.bind_eq_some_iff.mp H
        obtain ⟨t157, A450, H⟩ := H
        replace H : (if x5_1.length < 2932031007402 then ((some (x5_1 ++ [(⟨2, ([] : List (S42)), wrap64 ((wrap64 (a1 + (x5_1.length : Int))) + 1), wrap64 ((wrap64 ((wrap64 (a1 + (x5_1.length : Int))) + 2)) + (t157.length : Int))⟩ : S39)] : List (S39))).bind fun y160 => (if y160.length + t157.length < 2932031007402 then ((some (y160 ++ t157 : List (S39))).bind fun y163 => (if x7_1.length < 17592186044416 then (if y163.length < 2932031007402 then (ductusref19_lay.l1 k1 a1 (y163 ++ [(⟨3, ([] : List (S42)), 0, 0⟩ : S39)]) (x7_1 ++ [(y163.length : Int)]) (wrap64 (x8_1 + 1)) a0_0 l0_1 a0_2 a0_3 l0_4) else (none)) else (none))) else (none))) else (none)) = some r := H
        have A45 := Aside0.mk A450
        clear A450
        by_cases c46 : x5_1.length < 2932031007402
        rotate_left
        · rw [if_neg c46] at H
          exact absurd H (by simp)
        rw [if_pos c46] at H
        have LMc46 := Aside0.mk c46
        clear c46
        obtain ⟨y160, hy160⟩ : ∃ y_ : List (S39), y_ = (x5_1 ++ [(⟨2, ([] : List (S42)), wrap64 ((wrap64 (a1 + (x5_1.length : Int))) + 1), wrap64 ((wrap64 ((wrap64 (a1 + (x5_1.length : Int))) + 2)) + (t157.length : Int))⟩ : S39)]) := ⟨_, rfl⟩
        replace H : (if y160.length + t157.length < 2932031007402 then ((some (y160 ++ t157 : List (S39))).bind fun y163 => (if x7_1.length < 17592186044416 then (if y163.length < 2932031007402 then (ductusref19_lay.l1 k1 a1 (y163 ++ [(⟨3, ([] : List (S42)), 0, 0⟩ : S39)]) (x7_1 ++ [(y163.length : Int)]) (wrap64 (x8_1 + 1)) a0_0 l0_1 a0_2 a0_3 l0_4) else (none)) else (none))) else (none)) = some r := by first | (rw [hy160]; with_reducible exact H) | (have H2_ := (Option.bind_some _ _).symm.trans H; rw [hy160]; with_reducible exact H2_) | (have H2_ := (Option.bind_some _ _).symm.trans H; with_reducible exact H2_) | with_reducible exact H | (rw [hy160]; exact H) | exact H
        have Ny160 := Aside0.mk hy160
        clear hy160
        by_cases c47 : y160.length + t157.length < 2932031007402
        rotate_left
        · rw [if_neg c47] at H
          exact absurd H (by simp)
        rw [if_pos c47] at H
        have LMc47 := Aside0.mk c47
        clear c47
        obtain ⟨y163, hy163⟩ : ∃ y_ : List (S39), y_ = (y160 ++ t157) := ⟨_, rfl⟩
        replace H : (if x7_1.length < 17592186044416 then (if y163.length < 2932031007402 then (ductusref19_lay.l1 k1 a1 (y163 ++ [(⟨3, ([] : List (S42)), 0, 0⟩ : S39)]) (x7_1 ++ [(y163.length : Int)]) (wrap64 (x8_1 + 1)) a0_0 l0_1 a0_2 a0_3 l0_4) else (none)) else (none)) = some r := by first | (rw [hy163]; with_reducible exact H) | (have H2_ := (Option.bind_some _ _).symm.trans H; rw [hy163]; with_reducible exact H2_) | (have H2_ := (Option.bind_some _ _).symm.trans H; with_reducible exact H2_) | with_reducible exact H | (rw [hy163]; exact H) | exact H
        have Ny163 := Aside0.mk hy163
        clear hy163
        by_cases c48 : x7_1.length < 17592186044416
        rotate_left
        · rw [if_neg c48] at H
          exact absurd H (by simp)
        rw [if_pos c48] at H
        have LMc48 := Aside0.mk c48
        clear c48
        obtain ⟨y166, hy166⟩ : ∃ y_ : List Int, y_ = (x7_1 ++ [(y163.length : Int)]) := ⟨_, rfl⟩
        replace H : (if y163.length < 2932031007402 then (ductusref19_lay.l1 k1 a1 (y163 ++ [(⟨3, ([] : List (S42)), 0, 0⟩ : S39)]) y166 (wrap64 (x8_1 + 1)) a0_0 l0_1 a0_2 a0_3 l0_4) else (none)) = some r := by first | (rw [hy166]; with_reducible exact H) | (have H2_ := (Option.bind_some _ _).symm.trans H; rw [hy166]; with_reducible exact H2_) | (have H2_ := (Option.bind_some _ _).symm.trans H; with_reducible exact H2_) | with_reducible exact H | (rw [hy166]; exact H) | exact H
        have Ny166 := Aside0.mk hy166
        clear hy166
        by_cases c49 : y163.length < 2932031007402
        rotate_left
        · rw [if_neg c49] at H
          exact absurd H (by simp)
        rw [if_pos c49] at H
        have LMc49 := Aside0.mk c49
        clear c49
        obtain ⟨y169, hy169⟩ : ∃ y_ : List (S39), y_ = (y163 ++ [(⟨3, ([] : List (S42)), 0, 0⟩ : S39)]) := ⟨_, rfl⟩
        replace H : (ductusref19_lay.l1 k1 a1 y169 y166 (wrap64 (x8_1 + 1)) a0_0 l0_1 a0_2 a0_3 l0_4) = some r := by first | (rw [hy169]; with_reducible exact H) | (have H2_ := (Option.bind_some _ _).symm.trans H; rw [hy169]; with_reducible exact H2_) | (have H2_ := (Option.bind_some _ _).symm.trans H; with_reducible exact H2_) | with_reducible exact H | (rw [hy169]; exact H) | exact H
        have Ny169 := Aside0.mk hy169
        clear hy169
        have H' := Aside0.mk H
        clear H
        have hcz50_0 : wr.cell? ⟨gb132, 0, none⟩ = some (.int .i64 a0_0) := (blk_cell BK132.out 0).trans rfl
        have hcz50_1 : wr.cell? ⟨gb132, 1, none⟩ = some (.slice A0_1 l0_1.length c0_1) := (blk_cell BK132.out 1).trans rfl
        have hcz50_2 : wr.cell? ⟨gb132, 2, none⟩ = some (.int .i64 a0_2) := (blk_cell BK132.out 2).trans rfl
        have hcz50_3 : wr.cell? ⟨gb132, 3, none⟩ = some (.int .i64 a0_3) := (blk_cell BK132.out 3).trans rfl
        have hcz50_4 : wr.cell? ⟨gb132, 4, none⟩ = some (.slice A0_4 l0_4.length c0_4) := (blk_cell BK132.out 4).trans rfl
        have hfz50_0 := blk_frozen BK132.out 0
        have hfz50_1 := blk_frozen BK132.out 1
        have hfz50_2 := blk_frozen BK132.out 2
        have hfz50_3 := blk_frozen BK132.out 3
        have hfz50_4 := blk_frozen BK132.out 4
        have p156 : 0 ≤ (x8_1 : Int) := of_decide_eq_true (by first | (with_reducible assumption) | assumption)
        have q156 : x8_1 < (l0_4.length : Int) := of_decide_eq_true (by first | (with_reducible assumption) | assumption)
        obtain ⟨ad156, A156_1, c156_1, A156_4, c156_4, e156, hx156_0, hx156_1, hx156_2, hx156_3, hx156_4, hl156_1, hi156_1, hl156_4, hi156_4⟩ := at_T25 (Kd.V_reads' HO_133004.out).2.2 x8_1 p156 q156
        cases e156
        obtain ⟨ce156, hce156, hMe156, hcc156⟩ := Kd.V_get HO_133004.out z25 x8_1 p156 (by first | exact q156 | exact of_decide_eq_true (by first | (with_reducible assumption) | assumption) | (have e_ := (Kd.V_reads' HO_133004.out).1; omega))
        obtain ⟨ua156_1, uc156_1, ua156_4, uc156_4, rfl, ul156_1, ge156_1, ul156_4, ge156_4⟩ := k25_openF hMe156
        have hv156_1 := hcc156 1 _ rfl
        rw [add_field _ _ 1 (by omega)] at hv156_1
        replace hv156_1 := Option.some.inj (hv156_1.symm.trans hx156_1)
        injection hv156_1 with hva_ hvn_ hvc_
        rw [hva_] at ge156_1
        rw [hvc_] at ul156_1
        have HL156_1 := Aside0.mk (show Kd.V k42 42 _ w.heap.size _ _ ((rd_T25 l0_4 x8_1).f1) from Kd.V_mk ul156_1 ge156_1)
        clear hva_ hvn_ hvc_ ge156_1 ul156_1
        have hv156_4 := hcc156 4 _ rfl
        rw [add_field _ _ 4 (by omega)] at hv156_4
        replace hv156_4 := Option.some.inj (hv156_4.symm.trans hx156_4)
        injection hv156_4 with hva_ hvn_ hvc_
        rw [hva_] at ge156_4
        rw [hvc_] at ul156_4
        have HL156_4 := Aside0.mk (show Kd.V k25 25 _ w.heap.size _ _ ((rd_T25 l0_4 x8_1).f4) from Kd.V_mk ul156_4 ge156_4)
        clear hva_ hvn_ hvc_ ge156_4 ul156_4
        clear hcc156 hce156
        have HR156_1 := Aside0.mk hi156_1
        have HC156_1 := Aside0.mk hl156_1
        clear hi156_1 hl156_1
        have HR156_4 := Aside0.mk hi156_4
        have HC156_4 := Aside0.mk hl156_4
        clear hi156_4 hl156_4
        replace p156 := eq_true p156
        replace q156 := eq_true q156
        obtain ⟨Ao51, co51, eo51⟩ := Kd.N_slice HO_5.out
        subst eo51
        go_wp2_with (first | ((with_reducible refine gate_callee (f := 23) rfl ?_); refine goesL_ (some 98) rfl rfl Try.func23 (by kernel_rfl) rfl #[.agg #[.int .i64 ((rd_T25 l0_4 x8_1).f0), .slice A156_1 ((rd_T25 l0_4 x8_1).f1).length c156_1, .int .i64 ((rd_T25 l0_4 x8_1).f2), .int .i64 ((rd_T25 l0_4 x8_1).f3), .slice A156_4 ((rd_T25 l0_4 x8_1).f4).length c156_4], .int .i64 (wrap64 ((wrap64 (a1 + (x5_1.length : Int))) + 1))] rfl (by (try simp only [List.map_toArray, List.map_cons, List.map_nil]); first | done | rfl | (simp only [List.length_drop, List.length_take]; rfl)) ?_; (with_reducible refine (ih k1 (by have := HK1.out; omega) ((rd_T25 l0_4 x8_1).f0) (fun k_ => (((P0_1_ k_ ∨ P0_4_ k_) ∨ w.heap.size ≤ k_) ∧ (some k_ ≠ (.slice Ao51 x5_1.length co51 : Value).ownBlock ∧ (some k_ ≠ (u7 : Value).ownBlock ∧ k_ ≠ gb132)))) _ _ ((rd_T25 l0_4 x8_1).f1) ((rd_T25 l0_4 x8_1).f2) ((rd_T25 l0_4 x8_1).f3) (fun k_ => (((P0_1_ k_ ∨ P0_4_ k_) ∨ w.heap.size ≤ k_) ∧ (some k_ ≠ (.slice Ao51 x5_1.length co51 : Value).ownBlock ∧ (some k_ ≠ (u7 : Value).ownBlock ∧ k_ ≠ gb132)))) _ _ ((rd_T25 l0_4 x8_1).f4) (wrap64 ((wrap64 (a1 + (x5_1.length : Int))) + 1)) t157 _ ?side1 ?side2 A45.out).mono ?_); (case side1 => exact HL156_1.out); (case side2 => exact HL156_4.out); rintro e w52 ⟨v158, rfl, ho0, hb⟩; refine ⟨_, rfl, ?_⟩; have n0_ := Aside0.mk (Kd.N_elder' (by (with_reducible repeat (first | apply Kd.N_alloc | apply Kd.N_drewN | apply Kd.N_drew)); exact HO_5.out) (Kd.N_base ho0) hb); have n1_ := Aside0.mk (Kd.R_below (by (with_reducible repeat (first | apply Kd.R_alloc | apply Kd.R_drewN | apply Kd.R_drew)); exact HO_7.out) hb); have n2_ := Aside0.mk (Kd.V_elder' (by (with_reducible repeat (first | apply Kd.V_alloc | apply Kd.V_drewN | apply Kd.V_drew)); exact HO_133001.out) (Kd.N_base ho0) hb); have n3_ := Aside0.mk (Kd.V_elder' (by (with_reducible repeat (first | apply Kd.V_alloc | apply Kd.V_drewN | apply Kd.V_drew)); exact HO_133004.out) (Kd.N_base ho0) hb); have n4_ := Aside0.mk (Kd.V_elder' (by (with_reducible repeat (first | apply Kd.V_alloc | apply Kd.V_drewN | apply Kd.V_drew)); exact HL156_1.out) (Kd.N_base ho0) hb); have n5_ := Aside0.mk (Kd.V_elder' (by (with_reducible repeat (first | apply Kd.V_alloc | apply Kd.V_drewN | apply Kd.V_drew)); exact HL156_4.out) (Kd.N_base ho0) hb); have n6_ := Aside0.mk (Kd.N_lower (Kd.N_mono (ok' := fun k_ => ((P0_1_ k_ ∨ P0_4_ k_) ∨ w.heap.size ≤ k_) ∧ some k_ ≠ (.slice Ao51 x5_1.length co51 : Value).ownBlock ∧ some k_ ≠ (u7 : Value).ownBlock ∧ k_ ≠ gb132) ho0 (fun k_ hk_ => ⟨Or.elim hk_ (fun hs_ => Or.elim hs_ (fun hs_ => hs_.1) (fun hs_ => hs_.1)) (fun hn_ => (.inr (Nat.le_trans (below_size (by repeat (first | (with_reducible first | exact HB.out | apply below_alloc | apply pw_below_drewN | apply below_drew1 | refine below_set ?_ GE132.out) | exact HB.out))) hn_))), Or.elim hk_ (fun hs_ => Or.elim hs_ (fun hs_ => hs_.2.1) (fun hs_ => hs_.2.1)) (fun hn_ => (Kd.fresh' (Kd.N_lt (by (with_reducible repeat (first | apply Kd.N_alloc | apply Kd.N_drewN | apply Kd.N_drew)); exact HO_5.out)) k_ hn_)), Or.elim hk_ (fun hs_ => Or.elim hs_ (fun hs_ => hs_.2.2.1) (fun hs_ => hs_.2.2.1)) (fun hn_ => (Kd.fresh' (Kd.R_lt (by (with_reducible repeat (first | apply Kd.R_alloc | apply Kd.R_drewN | apply Kd.R_drew)); exact HO_7.out)) k_ hn_)), Or.elim hk_ (fun hs_ => Or.elim hs_ (fun hs_ => hs_.2.2.2) (fun hs_ => hs_.2.2.2)) (fun hn_ => (Kd.freshB (g := gb132) (o := .cells #[.int .i64 a0_0, .slice A0_1 l0_1.length c0_1, .int .i64 a0_2, .int .i64 a0_3, .slice (some ad156) l0_4.length c0_4] 25 (0, 0)) (by (with_reducible repeat (first | refine blk_drewN ?_ _ | refine blk_drew ?_ | refine blk_alloc ?_ _)); exact BK132.out) k_ hn_))⟩)) (below_size (by repeat (first | (with_reducible first | exact HB.out | apply below_alloc | apply pw_below_drewN | apply below_drew1 | refine below_set ?_ GE132.out) | exact HB.out)))); have n7_ := Aside0.mk (blk_below (g := gb132) (o := .cells #[.int .i64 a0_0, .slice A0_1 l0_1.length c0_1, .int .i64 a0_2, .int .i64 a0_3, .slice (some ad156) l0_4.length c0_4] 25 (0, 0)) (by (with_reducible repeat (first | refine blk_drewN ?_ _ | refine blk_drew ?_ | refine blk_alloc ?_ _)); exact BK132.out) hb); have n8_ := Aside0.mk (Kd.C_below (by repeat (first | (with_reducible exact HR156_1.out) | (with_reducible refine Kd.C_alloc ?_ _) | (with_reducible refine Kd.C_drewN ?_ _) | (with_reducible refine Kd.C_drew ?_) | exact HR156_1.out)) hb); have n9_ := Aside0.mk (Kd.C_below (by repeat (first | (with_reducible exact HR156_4.out) | (with_reducible refine Kd.C_alloc ?_ _) | (with_reducible refine Kd.C_drewN ?_ _) | (with_reducible refine Kd.C_drew ?_) | exact HR156_4.out)) hb); have n10_ := Aside0.mk (below_step (by repeat (first | (with_reducible first | exact HB.out | apply below_alloc | apply pw_below_drewN | apply below_drew1 | refine below_set ?_ GE132.out) | exact HB.out)) hb); clear HO_5; clear HO_7; clear HO_133001; clear HO_133004; clear HL156_1; clear HL156_4; clear BK132; clear HR156_1; clear HR156_4; clear HB; have HO_5 := n0_; have HO_7 := n1_; have HO_133001 := n2_; have HO_133004 := n3_; have HL156_1 := n4_; have HL156_4 := n5_; have HO159 := n6_; have BK132 := n7_; have HR156_1 := n8_; have HR156_4 := n9_; have HB := n10_; clear n0_ n1_ n2_ n3_ n4_ n5_ n6_ n7_ n8_ n9_ n10_; (try clear hb); (try clear hb2); (try clear hk); (try clear hi); (try clear ho0); obtain ⟨Ao53, co53, eo53⟩ := Kd.N_slice HO159.out; subst eo53) | ((with_reducible refine gate_builtin (b := .append) (xs := #[.tmp 103, .tmp 112]) rfl ?_); at_builtin; refine Kd.N_append k39 (w0 := w) w.heap.size rfl (.tmp 103) (.tmp 112) 29 39 (.agg #[(.int .i64 0), (.slice none 0 0), (.int .i64 0), (.int .i64 0)]) 48 rfl Try.underlying29 info39 rfl (by decide) (by omega) (.slice Ao51 x5_1.length co51) x5_1 (⟨2, ([] : List (S42)), wrap64 ((wrap64 (a1 + (x5_1.length : Int))) + 1), wrap64 ((wrap64 ((wrap64 (a1 + (x5_1.length : Int))) + 2)) + (t157.length : Int))⟩ : S39) [.int .i64 2, .slice none 0 0, .int .i64 (wrap64 ((wrap64 (a1 + (x5_1.length : Int))) + 1)), .int .i64 (wrap64 ((wrap64 ((wrap64 (a1 + (x5_1.length : Int))) + 2)) + (t157.length : Int)))] (fun k_ => ((P0_1_ k_ ∨ P0_4_ k_) ∨ w.heap.size ≤ k_) ∧ some k_ ≠ (u7 : Value).ownBlock ∧ some k_ ≠ (.slice Ao53 t157.length co53 : Value).ownBlock ∧ k_ ≠ gb132) (fun k_ => ((fun k_ => ((P0_1_ k_ ∨ P0_4_ k_) ∨ w.heap.size ≤ k_) ∧ some k_ ≠ (u7 : Value).ownBlock ∧ some k_ ≠ (.slice Ao53 t157.length co53 : Value).ownBlock ∧ k_ ≠ gb132)) k_ ∧ some k_ ≠ (.slice Ao51 x5_1.length co51 : Value).ownBlock) rfl rfl ?aP (fun _ hk => hk) ?aF ?aO ?aB ?aS ?aL ?_; (case aP => exact (k39_mkF _ _ (⟨2, ([] : List (S42)), wrap64 ((wrap64 (a1 + (x5_1.length : Int))) + 1), wrap64 ((wrap64 ((wrap64 (a1 + (x5_1.length : Int))) + 2)) + (t157.length : Int))⟩ : S39) (Nat.le_refl _) (Kd.F_nil _ _ _))); (case aB => exact (by repeat (first | (with_reducible first | exact HB.out | apply below_alloc | apply pw_below_drewN | apply below_drew1 | refine below_set ?_ GE132.out) | exact HB.out))); (case aF => exact (fun k_ hk => ⟨(.inr (Nat.le_trans (below_size (by repeat (first | (with_reducible first | exact HB.out | apply below_alloc | apply pw_below_drewN | apply below_drew1 | refine below_set ?_ GE132.out) | exact HB.out))) hk)), Kd.fresh' (Kd.R_lt (by (with_reducible repeat (first | apply Kd.R_alloc | apply Kd.R_drewN | apply Kd.R_drew)); exact HO_7.out)) k_ hk, Kd.fresh' (Kd.N_lt (by (with_reducible repeat (first | apply Kd.N_alloc | apply Kd.N_drewN | apply Kd.N_drew)); exact HO159.out)) k_ hk, Kd.freshB (g := gb132) (o := .cells #[.int .i64 a0_0, .slice A0_1 l0_1.length c0_1, .int .i64 a0_2, .int .i64 a0_3, .slice (some ad156) l0_4.length c0_4] 25 (0, 0)) (by (with_reducible repeat (first | refine blk_drewN ?_ _ | refine blk_drew ?_ | refine blk_alloc ?_ _)); exact BK132.out) k_ hk⟩)); (case aO => exact (by (with_reducible repeat (first | apply Kd.N_alloc | apply Kd.N_drewN | apply Kd.N_drew)); exact Kd.N_mono HO_5.out (fun _ hk => ⟨hk.1.1, ⟨hk.1.2.1, ⟨hk.2, hk.1.2.2⟩⟩⟩))); (case aS => exact (below_size (by repeat (first | (with_reducible first | exact HB.out | apply below_alloc | apply pw_below_drewN | apply below_drew1 | refine below_set ?_ GE132.out) | exact HB.out)))); (case aL => have := LMc46.out; omega); intro v161 w54 ho hb hg hat; rw [← Ny160.out] at ho; have n0_ := Aside0.mk (Kd.R_over' (by (with_reducible repeat (first | apply Kd.R_alloc | apply Kd.R_drewN | apply Kd.R_drew)); exact HO_7.out) (Kd.N_typed (by (with_reducible repeat (first | apply Kd.N_alloc | apply Kd.N_drewN | apply Kd.N_drew)); exact HO_5.out)) (by decide) hg); have n1_ := Aside0.mk (Kd.V_afterv (ok := (fun k_ => ((P0_1_ k_ ∨ P0_4_ k_) ∨ w.heap.size ≤ k_) ∧ some k_ ≠ (u7 : Value).ownBlock ∧ some k_ ≠ (.slice Ao53 t157.length co53 : Value).ownBlock ∧ k_ ≠ gb132)) (by (with_reducible repeat (first | apply Kd.V_alloc | apply Kd.V_drewN | apply Kd.V_drew)); exact Kd.V_mono HO_133001.out (fun _ hk => ⟨⟨hk.1.1, ⟨hk.1.2.2.1, ⟨hk.2, hk.1.2.2.2⟩⟩⟩, hk.1.2.1⟩)) hg hat); have n2_ := Aside0.mk (Kd.V_afterv (ok := (fun k_ => ((P0_1_ k_ ∨ P0_4_ k_) ∨ w.heap.size ≤ k_) ∧ some k_ ≠ (u7 : Value).ownBlock ∧ some k_ ≠ (.slice Ao53 t157.length co53 : Value).ownBlock ∧ k_ ≠ gb132)) (by (with_reducible repeat (first | apply Kd.V_alloc | apply Kd.V_drewN | apply Kd.V_drew)); exact Kd.V_mono HO_133004.out (fun _ hk => ⟨⟨hk.1.1, ⟨hk.1.2.2.1, ⟨hk.2, hk.1.2.2.2⟩⟩⟩, hk.1.2.1⟩)) hg hat); have n3_ := Aside0.mk (blk_grown (g := gb132) (o := .cells #[.int .i64 a0_0, .slice A0_1 l0_1.length c0_1, .int .i64 a0_2, .int .i64 a0_3, .slice (some ad156) l0_4.length c0_4] 25 (0, 0)) (by (with_reducible repeat (first | refine blk_drewN ?_ _ | refine blk_drew ?_ | refine blk_alloc ?_ _)); exact BK132.out) hg (Kd.N_ne HO_5.out BK132.out (by decide))); have n4_ := Aside0.mk (Kd.V_afterv (ok := (fun k_ => ((P0_1_ k_ ∨ P0_4_ k_) ∨ w.heap.size ≤ k_) ∧ some k_ ≠ (u7 : Value).ownBlock ∧ some k_ ≠ (.slice Ao53 t157.length co53 : Value).ownBlock ∧ k_ ≠ gb132)) (by (with_reducible repeat (first | apply Kd.V_alloc | apply Kd.V_drewN | apply Kd.V_drew)); exact Kd.V_mono HL156_1.out (fun _ hk => ⟨⟨hk.1.1, ⟨hk.1.2.2.1, ⟨hk.2, hk.1.2.2.2⟩⟩⟩, hk.1.2.1⟩)) hg hat); have n5_ := Aside0.mk (Kd.V_afterv (ok := (fun k_ => ((P0_1_ k_ ∨ P0_4_ k_) ∨ w.heap.size ≤ k_) ∧ some k_ ≠ (u7 : Value).ownBlock ∧ some k_ ≠ (.slice Ao53 t157.length co53 : Value).ownBlock ∧ k_ ≠ gb132)) (by (with_reducible repeat (first | apply Kd.V_alloc | apply Kd.V_drewN | apply Kd.V_drew)); exact Kd.V_mono HL156_4.out (fun _ hk => ⟨⟨hk.1.1, ⟨hk.1.2.2.1, ⟨hk.2, hk.1.2.2.2⟩⟩⟩, hk.1.2.1⟩)) hg hat); have n6_ := Aside0.mk (Kd.N_afterv (ok := (fun k_ => ((P0_1_ k_ ∨ P0_4_ k_) ∨ w.heap.size ≤ k_) ∧ some k_ ≠ (u7 : Value).ownBlock ∧ k_ ≠ gb132)) (by (with_reducible repeat (first | apply Kd.N_alloc | apply Kd.N_drewN | apply Kd.N_drew)); exact Kd.N_mono HO159.out (fun _ hk => ⟨⟨hk.1, ⟨hk.2.2.1, hk.2.2.2⟩⟩, hk.2.1⟩)) hg hat); have n7_ := Aside0.mk (hb); have n8_ := Aside0.mk (ho); clear HO_7; clear HO_133001; clear HO_133004; clear BK132; clear HL156_1; clear HL156_4; clear HO159; clear HB; clear HO_5; have HO_7 := n0_; have HO_133001 := n1_; have HO_133004 := n2_; have BK132 := n3_; have HL156_1 := n4_; have HL156_4 := n5_; have HO159 := n6_; have HB := n7_; have HO162 := n8_; clear n0_ n1_ n2_ n3_ n4_ n5_ n6_ n7_ n8_; clear ho hb hg hat) | ((with_reducible refine gate_builtin (b := .append) (xs := #[.tmp 113, .tmp 114]) rfl ?_); at_builtin; refine Kd.N_append_rows k39 (w0 := w) w.heap.size rfl (.tmp 113) (.tmp 114) 29 39 (.agg #[(.int .i64 0), (.slice none 0 0), (.int .i64 0), (.int .i64 0)]) 48 rfl Try.underlying29 info39 rfl (by decide) (by omega) v161 y160 t157 _ _ _ (fun k_ => ((P0_1_ k_ ∨ P0_4_ k_) ∨ w.heap.size ≤ k_) ∧ some k_ ≠ (u7 : Value).ownBlock ∧ k_ ≠ gb132) (fun k_ => ((fun k_ => ((P0_1_ k_ ∨ P0_4_ k_) ∨ w.heap.size ≤ k_) ∧ some k_ ≠ (u7 : Value).ownBlock ∧ k_ ≠ gb132)) k_ ∧ some k_ ≠ (v161 : Value).ownBlock) rfl rfl ?aO ?aR (fun _ hk => hk) ?aF ?aB ?aS ?aL ?_; (case aR => exact (by skip; exact Kd.N_F (Kd.N_mono (ok' := (fun k_ => ((fun k_ => ((P0_1_ k_ ∨ P0_4_ k_) ∨ w.heap.size ≤ k_) ∧ some k_ ≠ (u7 : Value).ownBlock ∧ k_ ≠ gb132)) k_ ∧ some k_ ≠ (v161 : Value).ownBlock)) (HO159.out) (fun k_ hk => ⟨⟨hk.1.1, ⟨hk.1.2.1, hk.1.2.2⟩⟩, hk.2⟩)))); (case aB => exact (by repeat (first | (with_reducible first | exact HB.out | apply below_alloc | apply pw_below_drewN | apply below_drew1 | refine below_set ?_ GE132.out) | exact HB.out))); (case aF => exact (fun k_ hk => ⟨(.inr (Nat.le_trans (below_size (by repeat (first | (with_reducible first | exact HB.out | apply below_alloc | apply pw_below_drewN | apply below_drew1 | refine below_set ?_ GE132.out) | exact HB.out))) hk)), Kd.fresh' (Kd.R_lt (by (with_reducible repeat (first | apply Kd.R_alloc | apply Kd.R_drewN | apply Kd.R_drew)); exact HO_7.out)) k_ hk, Kd.freshB (g := gb132) (o := .cells #[.int .i64 a0_0, .slice A0_1 l0_1.length c0_1, .int .i64 a0_2, .int .i64 a0_3, .slice (some ad156) l0_4.length c0_4] 25 (0, 0)) (by (with_reducible repeat (first | refine blk_drewN ?_ _ | refine blk_drew ?_ | refine blk_alloc ?_ _)); exact BK132.out) k_ hk⟩)); (case aO => exact (by (with_reducible repeat (first | apply Kd.N_alloc | apply Kd.N_drewN | apply Kd.N_drew)); exact Kd.N_mono HO162.out (fun _ hk => ⟨hk.1, ⟨hk.2.1, hk.2.2.2⟩⟩))); (case aS => exact (below_size (by repeat (first | (with_reducible first | exact HB.out | apply below_alloc | apply pw_below_drewN | apply below_drew1 | refine below_set ?_ GE132.out) | exact HB.out)))); (case aL => have := LMc47.out; omega); intro v164 w55 ho hb hg hat; rw [← Ny163.out] at ho; have n0_ := Aside0.mk (Kd.R_over' (by (with_reducible repeat (first | apply Kd.R_alloc | apply Kd.R_drewN | apply Kd.R_drew)); exact HO_7.out) (Kd.N_typed (by (with_reducible repeat (first | apply Kd.N_alloc | apply Kd.N_drewN | apply Kd.N_drew)); exact HO162.out)) (by decide) hg); have n1_ := Aside0.mk (Kd.V_afterv (ok := (fun k_ => ((P0_1_ k_ ∨ P0_4_ k_) ∨ w.heap.size ≤ k_) ∧ some k_ ≠ (u7 : Value).ownBlock ∧ some k_ ≠ (.slice Ao53 t157.length co53 : Value).ownBlock ∧ k_ ≠ gb132)) (by (with_reducible repeat (first | apply Kd.V_alloc | apply Kd.V_drewN | apply Kd.V_drew)); exact HO_133001.out) hg hat); have n2_ := Aside0.mk (Kd.V_afterv (ok := (fun k_ => ((P0_1_ k_ ∨ P0_4_ k_) ∨ w.heap.size ≤ k_) ∧ some k_ ≠ (u7 : Value).ownBlock ∧ some k_ ≠ (.slice Ao53 t157.length co53 : Value).ownBlock ∧ k_ ≠ gb132)) (by (with_reducible repeat (first | apply Kd.V_alloc | apply Kd.V_drewN | apply Kd.V_drew)); exact HO_133004.out) hg hat); have n3_ := Aside0.mk (blk_grown (g := gb132) (o := .cells #[.int .i64 a0_0, .slice A0_1 l0_1.length c0_1, .int .i64 a0_2, .int .i64 a0_3, .slice (some ad156) l0_4.length c0_4] 25 (0, 0)) (by (with_reducible repeat (first | refine blk_drewN ?_ _ | refine blk_drew ?_ | refine blk_alloc ?_ _)); exact BK132.out) hg (Kd.N_ne HO162.out BK132.out (by decide))); have n4_ := Aside0.mk (Kd.V_afterv (ok := (fun k_ => ((P0_1_ k_ ∨ P0_4_ k_) ∨ w.heap.size ≤ k_) ∧ some k_ ≠ (u7 : Value).ownBlock ∧ some k_ ≠ (.slice Ao53 t157.length co53 : Value).ownBlock ∧ k_ ≠ gb132)) (by (with_reducible repeat (first | apply Kd.V_alloc | apply Kd.V_drewN | apply Kd.V_drew)); exact HL156_1.out) hg hat); have n5_ := Aside0.mk (Kd.V_afterv (ok := (fun k_ => ((P0_1_ k_ ∨ P0_4_ k_) ∨ w.heap.size ≤ k_) ∧ some k_ ≠ (u7 : Value).ownBlock ∧ some k_ ≠ (.slice Ao53 t157.length co53 : Value).ownBlock ∧ k_ ≠ gb132)) (by (with_reducible repeat (first | apply Kd.V_alloc | apply Kd.V_drewN | apply Kd.V_drew)); exact HL156_4.out) hg hat); have n6_ := Aside0.mk (Kd.N_afterv (ok := (fun k_ => ((P0_1_ k_ ∨ P0_4_ k_) ∨ w.heap.size ≤ k_) ∧ some k_ ≠ (u7 : Value).ownBlock ∧ k_ ≠ gb132)) (by (with_reducible repeat (first | apply Kd.N_alloc | apply Kd.N_drewN | apply Kd.N_drew)); exact HO159.out) hg hat); have n7_ := Aside0.mk (hb); have n8_ := Aside0.mk (ho); clear HO_7; clear HO_133001; clear HO_133004; clear BK132; clear HL156_1; clear HL156_4; clear HO159; clear HB; clear HO162; have HO_7 := n0_; have HO_133001 := n1_; have HO_133004 := n2_; have BK132 := n3_; have HL156_1 := n4_; have HL156_4 := n5_; have HO159 := n6_; have HB := n7_; have HO165 := n8_; clear n0_ n1_ n2_ n3_ n4_ n5_ n6_ n7_ n8_; clear ho hb hg hat; obtain ⟨Ao56, co56, eo56⟩ := Kd.N_slice HO165.out; subst eo56) | ((with_reducible refine gate_builtin (b := .append) (xs := #[.tmp 116, .tmp 119]) rfl ?_); at_builtin; refine Kd.R_append (Kd.int .i64) (w0 := w) w.heap.size rfl (.tmp 116) (.tmp 119) 58 3 (.int .i64 0) 8 rfl Try.underlying58 info3 rfl (by decide) (by omega) u7 x7_1 (y163.length : Int) [.int .i64 (y163.length : Int)] (fun k_ => (w.heap.size ≤ k_)) (fun _ => False) rfl rfl ?aP (fun _ hk => hk.elim) ?aF ?aO ?aB ?aS ?aL ?_; (case aP => exact rfl); (case aB => exact (by repeat (first | (with_reducible first | exact HB.out | apply below_alloc | apply pw_below_drewN | apply below_drew1 | refine below_set ?_ GE132.out) | exact HB.out))); (case aF => exact (fun k_ hk => (Nat.le_trans (below_size (by repeat (first | (with_reducible first | exact HB.out | apply below_alloc | apply pw_below_drewN | apply below_drew1 | refine below_set ?_ GE132.out) | exact HB.out))) hk))); (case aO => exact (by (with_reducible repeat (first | apply Kd.R_alloc | apply Kd.R_drewN | apply Kd.R_drew)); exact HO_7.out)); (case aS => exact (below_size (by repeat (first | (with_reducible first | exact HB.out | apply below_alloc | apply pw_below_drewN | apply below_drew1 | refine below_set ?_ GE132.out) | exact HB.out)))); (case aL => have := LMc48.out; omega); intro v167 w57 ho hb hg hat; rw [← Ny166.out] at ho; have n0_ := Aside0.mk (Kd.V_afterv (ok := (fun k_ => ((P0_1_ k_ ∨ P0_4_ k_) ∨ w.heap.size ≤ k_) ∧ some k_ ≠ (.slice Ao53 t157.length co53 : Value).ownBlock ∧ some k_ ≠ (.slice Ao56 y163.length co56 : Value).ownBlock ∧ k_ ≠ gb132)) (by (with_reducible repeat (first | apply Kd.V_alloc | apply Kd.V_drewN | apply Kd.V_drew)); exact Kd.V_mono HO_133001.out (fun _ hk => ⟨⟨hk.1.1, ⟨hk.1.2.2.1, ⟨hk.2, hk.1.2.2.2⟩⟩⟩, hk.1.2.1⟩)) hg hat); have n1_ := Aside0.mk (Kd.V_afterv (ok := (fun k_ => ((P0_1_ k_ ∨ P0_4_ k_) ∨ w.heap.size ≤ k_) ∧ some k_ ≠ (.slice Ao53 t157.length co53 : Value).ownBlock ∧ some k_ ≠ (.slice Ao56 y163.length co56 : Value).ownBlock ∧ k_ ≠ gb132)) (by (with_reducible repeat (first | apply Kd.V_alloc | apply Kd.V_drewN | apply Kd.V_drew)); exact Kd.V_mono HO_133004.out (fun _ hk => ⟨⟨hk.1.1, ⟨hk.1.2.2.1, ⟨hk.2, hk.1.2.2.2⟩⟩⟩, hk.1.2.1⟩)) hg hat); have n2_ := Aside0.mk (blk_grown (g := gb132) (o := .cells #[.int .i64 a0_0, .slice A0_1 l0_1.length c0_1, .int .i64 a0_2, .int .i64 a0_3, .slice (some ad156) l0_4.length c0_4] 25 (0, 0)) (by (with_reducible repeat (first | refine blk_drewN ?_ _ | refine blk_drew ?_ | refine blk_alloc ?_ _)); exact BK132.out) hg (Kd.R_ne HO_7.out BK132.out (by decide))); have n3_ := Aside0.mk (Kd.V_afterv (ok := (fun k_ => ((P0_1_ k_ ∨ P0_4_ k_) ∨ w.heap.size ≤ k_) ∧ some k_ ≠ (.slice Ao53 t157.length co53 : Value).ownBlock ∧ some k_ ≠ (.slice Ao56 y163.length co56 : Value).ownBlock ∧ k_ ≠ gb132)) (by (with_reducible repeat (first | apply Kd.V_alloc | apply Kd.V_drewN | apply Kd.V_drew)); exact Kd.V_mono HL156_1.out (fun _ hk => ⟨⟨hk.1.1, ⟨hk.1.2.2.1, ⟨hk.2, hk.1.2.2.2⟩⟩⟩, hk.1.2.1⟩)) hg hat); have n4_ := Aside0.mk (Kd.V_afterv (ok := (fun k_ => ((P0_1_ k_ ∨ P0_4_ k_) ∨ w.heap.size ≤ k_) ∧ some k_ ≠ (.slice Ao53 t157.length co53 : Value).ownBlock ∧ some k_ ≠ (.slice Ao56 y163.length co56 : Value).ownBlock ∧ k_ ≠ gb132)) (by (with_reducible repeat (first | apply Kd.V_alloc | apply Kd.V_drewN | apply Kd.V_drew)); exact Kd.V_mono HL156_4.out (fun _ hk => ⟨⟨hk.1.1, ⟨hk.1.2.2.1, ⟨hk.2, hk.1.2.2.2⟩⟩⟩, hk.1.2.1⟩)) hg hat); have n5_ := Aside0.mk (Kd.N_afterv (ok := (fun k_ => ((P0_1_ k_ ∨ P0_4_ k_) ∨ w.heap.size ≤ k_) ∧ some k_ ≠ (.slice Ao56 y163.length co56 : Value).ownBlock ∧ k_ ≠ gb132)) (by (with_reducible repeat (first | apply Kd.N_alloc | apply Kd.N_drewN | apply Kd.N_drew)); exact Kd.N_mono HO159.out (fun _ hk => ⟨⟨hk.1.1, ⟨hk.2, hk.1.2.2⟩⟩, hk.1.2.1⟩)) hg hat); have n6_ := Aside0.mk (Kd.N_afterv (ok := (fun k_ => ((P0_1_ k_ ∨ P0_4_ k_) ∨ w.heap.size ≤ k_) ∧ k_ ≠ gb132)) (by (with_reducible repeat (first | apply Kd.N_alloc | apply Kd.N_drewN | apply Kd.N_drew)); exact Kd.N_mono HO165.out (fun _ hk => ⟨⟨hk.1, hk.2.2⟩, hk.2.1⟩)) hg hat); have n7_ := Aside0.mk (hb); have n8_ := Aside0.mk (ho); clear HO_133001; clear HO_133004; clear BK132; clear HL156_1; clear HL156_4; clear HO159; clear HO165; clear HB; clear HO_7; have HO_133001 := n0_; have HO_133004 := n1_; have BK132 := n2_; have HL156_1 := n3_; have HL156_4 := n4_; have HO159 := n5_; have HO165 := n6_; have HB := n7_; have HO168 := n8_; clear n0_ n1_ n2_ n3_ n4_ n5_ n6_ n7_ n8_; clear ho hb hg hat) | ((with_reducible refine gate_builtin (b := .append) (xs := #[.tmp 121, .tmp 123]) rfl ?_); at_builtin; refine Kd.N_append k39 (w0 := w) w.heap.size rfl (.tmp 121) (.tmp 123) 29 39 (.agg #[(.int .i64 0), (.slice none 0 0), (.int .i64 0), (.int .i64 0)]) 48 rfl Try.underlying29 info39 rfl (by decide) (by omega) (.slice Ao56 y163.length co56) y163 (⟨3, ([] : List (S42)), 0, 0⟩ : S39) [.int .i64 3, .slice none 0 0, .int .i64 0, .int .i64 0] (fun k_ => ((P0_1_ k_ ∨ P0_4_ k_) ∨ w.heap.size ≤ k_) ∧ some k_ ≠ (v167 : Value).ownBlock ∧ k_ ≠ gb132) (fun k_ => ((fun k_ => ((P0_1_ k_ ∨ P0_4_ k_) ∨ w.heap.size ≤ k_) ∧ some k_ ≠ (v167 : Value).ownBlock ∧ k_ ≠ gb132)) k_ ∧ some k_ ≠ (.slice Ao56 y163.length co56 : Value).ownBlock) rfl rfl ?aP (fun _ hk => hk) ?aF ?aO ?aB ?aS ?aL ?_; (case aP => exact (k39_mkF _ _ (⟨3, ([] : List (S42)), 0, 0⟩ : S39) (Nat.le_refl _) (Kd.F_nil _ _ _))); (case aB => exact (by repeat (first | (with_reducible first | exact HB.out | apply below_alloc | apply pw_below_drewN | apply below_drew1 | refine below_set ?_ GE132.out) | exact HB.out))); (case aF => exact (fun k_ hk => ⟨(.inr (Nat.le_trans (below_size (by repeat (first | (with_reducible first | exact HB.out | apply below_alloc | apply pw_below_drewN | apply below_drew1 | refine below_set ?_ GE132.out) | exact HB.out))) hk)), Kd.fresh' (Kd.R_lt (by (with_reducible repeat (first | apply Kd.R_alloc | apply Kd.R_drewN | apply Kd.R_drew)); exact HO168.out)) k_ hk, Kd.freshB (g := gb132) (o := .cells #[.int .i64 a0_0, .slice A0_1 l0_1.length c0_1, .int .i64 a0_2, .int .i64 a0_3, .slice (some ad156) l0_4.length c0_4] 25 (0, 0)) (by (with_reducible repeat (first | refine blk_drewN ?_ _ | refine blk_drew ?_ | refine blk_alloc ?_ _)); exact BK132.out) k_ hk⟩)); (case aO => exact (by (with_reducible repeat (first | apply Kd.N_alloc | apply Kd.N_drewN | apply Kd.N_drew)); exact Kd.N_mono HO165.out (fun _ hk => ⟨hk.1.1, ⟨hk.2, hk.1.2⟩⟩))); (case aS => exact (below_size (by repeat (first | (with_reducible first | exact HB.out | apply below_alloc | apply pw_below_drewN | apply below_drew1 | refine below_set ?_ GE132.out) | exact HB.out)))); (case aL => have := LMc49.out; omega); intro v170 w58 ho hb hg hat; rw [← Ny169.out] at ho; have n0_ := Aside0.mk (Kd.V_afterv (ok := (fun k_ => ((P0_1_ k_ ∨ P0_4_ k_) ∨ w.heap.size ≤ k_) ∧ some k_ ≠ (.slice Ao53 t157.length co53 : Value).ownBlock ∧ some k_ ≠ (v167 : Value).ownBlock ∧ k_ ≠ gb132)) (by (with_reducible repeat (first | apply Kd.V_alloc | apply Kd.V_drewN | apply Kd.V_drew)); exact Kd.V_mono HO_133001.out (fun _ hk => ⟨⟨hk.1.1, ⟨hk.1.2.1, ⟨hk.2, hk.1.2.2.2⟩⟩⟩, hk.1.2.2.1⟩)) hg hat); have n1_ := Aside0.mk (Kd.V_afterv (ok := (fun k_ => ((P0_1_ k_ ∨ P0_4_ k_) ∨ w.heap.size ≤ k_) ∧ some k_ ≠ (.slice Ao53 t157.length co53 : Value).ownBlock ∧ some k_ ≠ (v167 : Value).ownBlock ∧ k_ ≠ gb132)) (by (with_reducible repeat (first | apply Kd.V_alloc | apply Kd.V_drewN | apply Kd.V_drew)); exact Kd.V_mono HO_133004.out (fun _ hk => ⟨⟨hk.1.1, ⟨hk.1.2.1, ⟨hk.2, hk.1.2.2.2⟩⟩⟩, hk.1.2.2.1⟩)) hg hat); have n2_ := Aside0.mk (blk_grown (g := gb132) (o := .cells #[.int .i64 a0_0, .slice A0_1 l0_1.length c0_1, .int .i64 a0_2, .int .i64 a0_3, .slice (some ad156) l0_4.length c0_4] 25 (0, 0)) (by (with_reducible repeat (first | refine blk_drewN ?_ _ | refine blk_drew ?_ | refine blk_alloc ?_ _)); exact BK132.out) hg (Kd.N_ne HO165.out BK132.out (by decide))); have n3_ := Aside0.mk (Kd.V_afterv (ok := (fun k_ => ((P0_1_ k_ ∨ P0_4_ k_) ∨ w.heap.size ≤ k_) ∧ some k_ ≠ (.slice Ao53 t157.length co53 : Value).ownBlock ∧ some k_ ≠ (v167 : Value).ownBlock ∧ k_ ≠ gb132)) (by (with_reducible repeat (first | apply Kd.V_alloc | apply Kd.V_drewN | apply Kd.V_drew)); exact Kd.V_mono HL156_1.out (fun _ hk => ⟨⟨hk.1.1, ⟨hk.1.2.1, ⟨hk.2, hk.1.2.2.2⟩⟩⟩, hk.1.2.2.1⟩)) hg hat); have n4_ := Aside0.mk (Kd.V_afterv (ok := (fun k_ => ((P0_1_ k_ ∨ P0_4_ k_) ∨ w.heap.size ≤ k_) ∧ some k_ ≠ (.slice Ao53 t157.length co53 : Value).ownBlock ∧ some k_ ≠ (v167 : Value).ownBlock ∧ k_ ≠ gb132)) (by (with_reducible repeat (first | apply Kd.V_alloc | apply Kd.V_drewN | apply Kd.V_drew)); exact Kd.V_mono HL156_4.out (fun _ hk => ⟨⟨hk.1.1, ⟨hk.1.2.1, ⟨hk.2, hk.1.2.2.2⟩⟩⟩, hk.1.2.2.1⟩)) hg hat); have n5_ := Aside0.mk (Kd.N_afterv (ok := (fun k_ => ((P0_1_ k_ ∨ P0_4_ k_) ∨ w.heap.size ≤ k_) ∧ some k_ ≠ (v167 : Value).ownBlock ∧ k_ ≠ gb132)) (by (with_reducible repeat (first | apply Kd.N_alloc | apply Kd.N_drewN | apply Kd.N_drew)); exact Kd.N_mono HO159.out (fun _ hk => ⟨⟨hk.1.1, ⟨hk.2, hk.1.2.2⟩⟩, hk.1.2.1⟩)) hg hat); have n6_ := Aside0.mk (Kd.R_over' (by (with_reducible repeat (first | apply Kd.R_alloc | apply Kd.R_drewN | apply Kd.R_drew)); exact HO168.out) (Kd.N_typed (by (with_reducible repeat (first | apply Kd.N_alloc | apply Kd.N_drewN | apply Kd.N_drew)); exact HO165.out)) (by decide) hg); have n7_ := Aside0.mk (hb); have n8_ := Aside0.mk (ho); clear HO_133001; clear HO_133004; clear BK132; clear HL156_1; clear HL156_4; clear HO159; clear HO168; clear HB; clear HO165; have HO_133001 := n0_; have HO_133004 := n1_; have BK132 := n2_; have HL156_1 := n3_; have HL156_4 := n4_; have HO159 := n5_; have HO168 := n6_; have HB := n7_; have HO171 := n8_; clear n0_ n1_ n2_ n3_ n4_ n5_ n6_ n7_ n8_; clear ho hb hg hat))
        go_roundg k1
        case measure => have := HK1.out; omega
        case rel => exact ⟨(y169), (y166), (wrap64 (x8_1 + 1)), (by first | rfl | (simp; done) | (simp [*]; done)), H', ⟨by have := HK1.out; omega⟩, ⟨by (with_reducible repeat (first | apply Kd.N_alloc | apply Kd.N_drewN | apply Kd.N_drew)); exact HO171.out⟩, ⟨by (with_reducible repeat (first | apply Kd.R_alloc | apply Kd.R_drewN | apply Kd.R_drew)); exact HO168.out⟩, ⟨by (with_reducible repeat (first | apply Kd.V_alloc | apply Kd.V_drewN | apply Kd.V_drew)); exact Kd.V_mono HO_133001.out (fun _ hk => ⟨hk.1.1, ⟨hk.2, ⟨hk.1.2.2.1, hk.1.2.2.2⟩⟩⟩)⟩, ⟨by (with_reducible repeat (first | apply Kd.V_alloc | apply Kd.V_drewN | apply Kd.V_drew)); exact Kd.V_mono HO_133004.out (fun _ hk => ⟨hk.1.1, ⟨hk.2, ⟨hk.1.2.2.1, hk.1.2.2.2⟩⟩⟩)⟩, ⟨by (with_reducible repeat (first | refine blk_drewN ?_ _ | refine blk_drew ?_ | refine blk_alloc ?_ _)); exact BK132.out⟩, ⟨by repeat (first | (with_reducible first | exact HB.out | apply below_alloc | apply pw_below_drewN | apply below_drew1 | refine below_set ?_ GE132.out) | exact HB.out)⟩⟩
  rw [if_neg c31] at H
  have c31b0 : (a0_0 == 4) = false := beq_eq_false_iff_ne.mpr c31
  have c31b1 : (a0_0 != 4) = true := bne_iff_ne.mpr c31
  by_cases c70 : a0_0 = 5
  rotate_left
  · rw [if_neg c70] at H
    have c70b0 : (a0_0 == 5) = false := beq_eq_false_iff_ne.mpr c70
    have c70b1 : (a0_0 != 5) = true := bne_iff_ne.mpr c70
    obtain rfl := Option.some.inj H
    go_enter Try.func23, Try.ntmps23
    go_wp2_with (first | ((with_reducible refine gate_dst (N := 2) rfl ?_); refine box_event ?hg (N := 2) ?hd (cs := #[.int .i64 a0_0, .slice A0_1 l0_1.length c0_1, .int .i64 a0_2, .int .i64 a0_3, .slice A0_4 l0_4.length c0_4]) (t := 25) ?hr ?_; (case hd => rfl); (case hg => rfl); (case hr => first | (go_simp; done) | (go_simp; rfl)); intro gb132 hg w122 hbox hb; have n0_ := Aside0.mk (Kd.V_below (Kd.V_elderB (by (with_reducible repeat (first | apply Kd.V_alloc | apply Kd.V_drewN | apply Kd.V_drew)); exact HO0_1.out) gb132 (Nat.le_of_eq hg.symm)) hb); have n1_ := Aside0.mk (Kd.V_below (Kd.V_elderB (by (with_reducible repeat (first | apply Kd.V_alloc | apply Kd.V_drewN | apply Kd.V_drew)); exact HO0_4.out) gb132 (Nat.le_of_eq hg.symm)) hb); have n2_ := Aside0.mk (below_step (by repeat (first | (with_reducible first | exact HB.out | apply below_alloc | apply pw_below_drewN | apply below_drew1) | exact HB.out)) hb); have n3_ := Aside0.mk (hbox); have n4_ := Aside0.mk ((by rw [hg]; exact (below_size (by repeat (first | (with_reducible first | exact HB.out | apply below_alloc | apply pw_below_drewN | apply below_drew1) | exact HB.out))) : w.heap.size ≤ gb132)); have n5_ := Aside0.mk ((by rw [hg]; exact (below_size (by repeat (first | (with_reducible first | exact HB.out | apply below_alloc | apply pw_below_drewN | apply below_drew1) | exact HB.out))) : w.heap.size ≤ gb132)); clear HO0_1; clear HO0_4; clear HB; have HO0_1 := n0_; have HO0_4 := n1_; have HB := n2_; have BK132 := n3_; have GW132 := n4_; have GE132 := n5_; clear n0_ n1_ n2_ n3_ n4_ n5_; clear hb hbox hg; have hcz123_0 : w122.cell? ⟨gb132, 0, none⟩ = some (.int .i64 a0_0) := (blk_cell BK132.out 0).trans rfl; have hcz123_1 : w122.cell? ⟨gb132, 1, none⟩ = some (.slice A0_1 l0_1.length c0_1) := (blk_cell BK132.out 1).trans rfl; have hcz123_2 : w122.cell? ⟨gb132, 2, none⟩ = some (.int .i64 a0_2) := (blk_cell BK132.out 2).trans rfl; have hcz123_3 : w122.cell? ⟨gb132, 3, none⟩ = some (.int .i64 a0_3) := (blk_cell BK132.out 3).trans rfl; have hcz123_4 : w122.cell? ⟨gb132, 4, none⟩ = some (.slice A0_4 l0_4.length c0_4) := (blk_cell BK132.out 4).trans rfl; have hfz123_0 := blk_frozen BK132.out 0; have hfz123_1 := blk_frozen BK132.out 1; have hfz123_2 := blk_frozen BK132.out 2; have hfz123_3 := blk_frozen BK132.out 3; have hfz123_4 := blk_frozen BK132.out 4))
    go_ret
    exact ⟨_, by first | rfl | (simp [errW_none, errW_some] <;> rfl) | (simp [*, errW_none, errW_some] <;> rfl), by first | exact Kd.S_nil _ _ _ _ _ | exact Kd.N_nil _ _ _ _ _ | exact Kd.V_nil _ _ _ _ _ | exact Kd.Q_nil _ _ _ _ _ | exact Kd.R_nil _ _ _ _ _, by repeat (first | (with_reducible first | exact HB.out | apply below_alloc | apply pw_below_drewN | apply below_drew1 | refine below_set ?_ GE132.out) | exact HB.out)⟩
  rw [if_pos c70] at H
  have c70b0 : (a0_0 == 5) = true := beq_iff_eq.mpr c70
  have c70b1 : (a0_0 != 5) = false := bne_eq_false_iff_eq.mpr c70
  clear c70
  have H' := Aside0.mk H
  clear H
  go_enter Try.func23, Try.ntmps23
  go_wp2_with (first | ((with_reducible refine gate_dst (N := 2) rfl ?_); refine box_event ?hg (N := 2) ?hd (cs := #[.int .i64 a0_0, .slice A0_1 l0_1.length c0_1, .int .i64 a0_2, .int .i64 a0_3, .slice A0_4 l0_4.length c0_4]) (t := 25) ?hr ?_; (case hd => rfl); (case hg => rfl); (case hr => first | (go_simp; done) | (go_simp; rfl)); intro gb132 hg w71 hbox hb; have n0_ := Aside0.mk (Kd.V_below (Kd.V_elderB (by (with_reducible repeat (first | apply Kd.V_alloc | apply Kd.V_drewN | apply Kd.V_drew)); exact HO0_1.out) gb132 (Nat.le_of_eq hg.symm)) hb); have n1_ := Aside0.mk (Kd.V_below (Kd.V_elderB (by (with_reducible repeat (first | apply Kd.V_alloc | apply Kd.V_drewN | apply Kd.V_drew)); exact HO0_4.out) gb132 (Nat.le_of_eq hg.symm)) hb); have n2_ := Aside0.mk (below_step (by repeat (first | (with_reducible first | exact HB.out | apply below_alloc | apply pw_below_drewN | apply below_drew1) | exact HB.out)) hb); have n3_ := Aside0.mk (hbox); have n4_ := Aside0.mk ((by rw [hg]; exact (below_size (by repeat (first | (with_reducible first | exact HB.out | apply below_alloc | apply pw_below_drewN | apply below_drew1) | exact HB.out))) : w.heap.size ≤ gb132)); have n5_ := Aside0.mk ((by rw [hg]; exact (below_size (by repeat (first | (with_reducible first | exact HB.out | apply below_alloc | apply pw_below_drewN | apply below_drew1) | exact HB.out))) : w.heap.size ≤ gb132)); clear HO0_1; clear HO0_4; clear HB; have HO0_1 := n0_; have HO0_4 := n1_; have HB := n2_; have BK132 := n3_; have GW132 := n4_; have GE132 := n5_; clear n0_ n1_ n2_ n3_ n4_ n5_; clear hb hbox hg; have hcz72_0 : w71.cell? ⟨gb132, 0, none⟩ = some (.int .i64 a0_0) := (blk_cell BK132.out 0).trans rfl; have hcz72_1 : w71.cell? ⟨gb132, 1, none⟩ = some (.slice A0_1 l0_1.length c0_1) := (blk_cell BK132.out 1).trans rfl; have hcz72_2 : w71.cell? ⟨gb132, 2, none⟩ = some (.int .i64 a0_2) := (blk_cell BK132.out 2).trans rfl; have hcz72_3 : w71.cell? ⟨gb132, 3, none⟩ = some (.int .i64 a0_3) := (blk_cell BK132.out 3).trans rfl; have hcz72_4 : w71.cell? ⟨gb132, 4, none⟩ = some (.slice A0_4 l0_4.length c0_4) := (blk_cell BK132.out 4).trans rfl; have hfz72_0 := blk_frozen BK132.out 0; have hfz72_1 := blk_frozen BK132.out 1; have hfz72_2 := blk_frozen BK132.out 2; have hfz72_3 := blk_frozen BK132.out 3; have hfz72_4 := blk_frozen BK132.out 4))
  go_loopg [5, 12] k (fun kq v5 v12 w' => ∃ (x5_1 : List (S39)) (x12_1 : Int), v12 = .int .i64 x12_1 ∧ Aside0 (ductusref19_lay.l3 kq a1 x5_1 x12_1 a0_0 l0_1 a0_2 a0_3 l0_4 = some r) ∧ Aside0 (kq ≤ k) ∧ Aside0 (Kd.N k39 39 w' w.heap.size (fun k_ => ((P0_1_ k_ ∨ P0_4_ k_) ∨ w.heap.size ≤ k_) ∧ k_ ≠ gb132) v5 x5_1) ∧ Aside0 (Kd.V k42 42 w' w.heap.size (fun k_ => ((P0_1_ k_ ∨ P0_4_ k_) ∨ w.heap.size ≤ k_) ∧ some k_ ≠ (v5 : Value).ownBlock ∧ k_ ≠ gb132) (.slice A0_1 l0_1.length c0_1) l0_1) ∧ Aside0 (Kd.V k25 25 w' w.heap.size (fun k_ => ((P0_1_ k_ ∨ P0_4_ k_) ∨ w.heap.size ≤ k_) ∧ some k_ ≠ (v5 : Value).ownBlock ∧ k_ ≠ gb132) (.slice A0_4 l0_4.length c0_4) l0_4) ∧ Aside0 (w'.heap[gb132]? = some (.cells #[.int .i64 a0_0, (.slice A0_1 l0_1.length c0_1), .int .i64 a0_2, .int .i64 a0_3, (.slice A0_4 l0_4.length c0_4)] 25 (0, 0))) ∧ Aside0 (Below w.heap.size w w'))
  case atStart => exact ⟨(([] : List (S39))), (0), (by first | rfl | (simp; done) | (simp [*]; done)), H', ⟨Nat.le_refl _⟩, ⟨by first | exact Kd.S_nil _ _ _ _ _ | exact Kd.N_nil _ _ _ _ _ | exact Kd.V_nil _ _ _ _ _ | exact Kd.Q_nil _ _ _ _ _ | exact Kd.R_nil _ _ _ _ _⟩, ⟨by (with_reducible repeat (first | apply Kd.V_alloc | apply Kd.V_drewN | apply Kd.V_drew)); exact Kd.V_mono HO0_1.out (fun _ hk => ⟨hk.1, ⟨(by simp [Value.ownBlock]), hk.2⟩⟩)⟩, ⟨by (with_reducible repeat (first | apply Kd.V_alloc | apply Kd.V_drewN | apply Kd.V_drew)); exact Kd.V_mono HO0_4.out (fun _ hk => ⟨hk.1, ⟨(by simp [Value.ownBlock]), hk.2⟩⟩)⟩, ⟨by (with_reducible repeat (first | refine blk_drewN ?_ _ | refine blk_drew ?_ | refine blk_alloc ?_ _)); exact BK132.out⟩, ⟨by repeat (first | (with_reducible first | exact HB.out | apply below_alloc | apply pw_below_drewN | apply below_drew1 | refine below_set ?_ GE132.out) | exact HB.out)⟩⟩
  case round =>
    clear H'
    try clear c1
    try clear p1
    try clear q1
    try clear hx1
    try clear c2
    try clear p2
    try clear c3
    try clear c3b0
    try clear c3b1
    try clear c4
    try clear c6
    try clear p6
    try clear q6
    try clear hx6
    try clear hf6
    try clear c7
    try clear c8
    try clear c8b0
    try clear c8b1
    try clear c9
    try clear c13
    try clear c13b0
    try clear c13b1
    try clear c14
    try clear p14
    try clear q14
    try clear hx14
    try clear c15
    try clear p15
    try clear q15
    try clear hx15
    try clear p17
    try clear q17
    try clear hx17
    try clear c18
    try clear c18b0
    try clear c18b1
    try clear c21
    try clear c21b0
    try clear c22
    try clear c22b0
    try clear c23
    try clear c24
    try clear c31
    try clear c31b0
    try clear c31b1
    try clear c34
    try clear c34b0
    try clear c35
    try clear c35b0
    try clear c35b1
    try clear c36
    try clear c36b0
    try clear c38
    try clear c44
    try clear c44b0
    try clear c46
    try clear c47
    try clear c48
    try clear c49
    try clear c60
    try clear c60b0
    try clear c61
    try clear c61b0
    try clear c62
    try clear c62b0
    try clear c63
    try clear c63b0
    try clear c64
    try clear p64
    try clear q64
    try clear hx64
    try clear hf64
    try clear c67
    try clear hx67
    try clear hf67
    try clear c70
    try clear c70b0
    try clear c70b1
    try clear hcz11_0
    try clear hcz11_1
    try clear hcz11_2
    try clear hcz11_3
    try clear hcz11_4
    try clear hcz16_0
    try clear hcz16_1
    try clear hcz16_2
    try clear hcz16_3
    try clear hcz16_4
    try clear hcz20_0
    try clear hcz20_1
    try clear hcz20_2
    try clear hcz20_3
    try clear hcz20_4
    try clear hcz25_0
    try clear hcz25_1
    try clear hcz25_2
    try clear hcz25_3
    try clear hcz25_4
    try clear hcz30_0
    try clear hcz30_1
    try clear hcz30_2
    try clear hcz30_3
    try clear hcz30_4
    try clear hcz33_0
    try clear hcz33_1
    try clear hcz33_2
    try clear hcz33_3
    try clear hcz33_4
    try clear hcz39_0
    try clear hcz39_1
    try clear hcz39_2
    try clear hcz39_3
    try clear hcz39_4
    try clear hcz50_0
    try clear hcz50_1
    try clear hcz50_2
    try clear hcz50_3
    try clear hcz50_4
    try clear hcz59_0
    try clear hcz59_1
    try clear hcz59_2
    try clear hcz59_3
    try clear hcz59_4
    try clear hcz6_0
    try clear hcz6_1
    try clear hcz6_2
    try clear hcz6_3
    try clear hcz6_4
    try clear hcz72_0
    try clear hcz72_1
    try clear hcz72_2
    try clear hcz72_3
    try clear hcz72_4
    try clear hfz11_0
    try clear hfz11_1
    try clear hfz11_2
    try clear hfz11_3
    try clear hfz11_4
    try clear hfz16_0
    try clear hfz16_1
    try clear hfz16_2
    try clear hfz16_3
    try clear hfz16_4
    try clear hfz20_0
    try clear hfz20_1
    try clear hfz20_2
    try clear hfz20_3
    try clear hfz20_4
    try clear hfz25_0
    try clear hfz25_1
    try clear hfz25_2
    try clear hfz25_3
    try clear hfz25_4
    try clear hfz30_0
    try clear hfz30_1
    try clear hfz30_2
    try clear hfz30_3
    try clear hfz30_4
    try clear hfz33_0
    try clear hfz33_1
    try clear hfz33_2
    try clear hfz33_3
    try clear hfz33_4
    try clear hfz39_0
    try clear hfz39_1
    try clear hfz39_2
    try clear hfz39_3
    try clear hfz39_4
    try clear hfz50_0
    try clear hfz50_1
    try clear hfz50_2
    try clear hfz50_3
    try clear hfz50_4
    try clear hfz59_0
    try clear hfz59_1
    try clear hfz59_2
    try clear hfz59_3
    try clear hfz59_4
    try clear hfz6_0
    try clear hfz6_1
    try clear hfz6_2
    try clear hfz6_3
    try clear hfz6_4
    try clear hfz72_0
    try clear hfz72_1
    try clear hfz72_2
    try clear hfz72_3
    try clear hfz72_4
    try clear hx142_0
    try clear hx142_1
    try clear hx142_2
    try clear hx142_3
    try clear hx142_4
    try clear hx149_0
    try clear hx149_1
    try clear hx149_2
    try clear hx149_3
    try clear hx149_4
    try clear hx156_0
    try clear hx156_1
    try clear hx156_2
    try clear hx156_3
    try clear hx156_4
    try clear hx172_0
    try clear hx64_0
    try clear hx64_1
    try clear hx64_2
    try clear hx64_3
    try clear hx67_2
    try clear p1
    try clear p14
    try clear p142
    try clear p149
    try clear p15
    try clear p156
    try clear p172
    try clear p2
    try clear p6
    try clear p64
    try clear q1
    try clear q14
    try clear q142
    try clear q149
    try clear q15
    try clear q156
    try clear q172
    try clear q64
    obtain ⟨x5_1, x12_1, rfl, HA, HK1, HO_5, HO_133001, HO_133004, BK132, HB⟩ := hrel
    cases gk with
    | zero => exact absurd HA.out (by simp [ductusref19_lay.l3])
    | succ k1 =>
      have H := HA.out
      clear HA
      simp only [ductusref19_lay.l3] at H
      by_cases c73 : x12_1 < a0_2
      · rw [if_pos c73] at H
        have c73b0 : decide (x12_1 < a0_2) = true := decide_eq_true c73
        clear c73
        by_cases c74 : 0 < (l0_4.length : Int)
        rotate_left
        · rw [if_neg c74] at H
          exact absurd H (by simp)
        rw [if_pos c74] at H
        have c74b0 : decide (0 < (l0_4.length : Int)) = true := decide_eq_true c74
        have c74b1 : decide (0 < l0_4.length) = true := decide_eq_true (by omega)
        clear c74
        replace H := Option.bind_eq_some_iff.mp H
        obtain ⟨t175, A750, H⟩ := H
        replace H : (if x5_1.length + t175.length < 2932031007402 then (ductusref19_lay.l3 k1 a1 (x5_1 ++ t175) (wrap64 (x12_1 + 1)) a0_0 l0_1 a0_2 a0_3 l0_4) else (none)) = some r := H
        have A75 := Aside0.mk A750
        clear A750
        by_cases c76 : x5_1.length + t175.length < 2932031007402
        rotate_left
        · rw [if_neg c76] at H
          exact absurd H (by simp)
        rw [if_pos c76] at H
        have LMc76 := Aside0.mk c76
        clear c76
        obtain ⟨y178, hy178⟩ : ∃ y_ : List (S39), y_ = (x5_1 ++ t175) := ⟨_, rfl⟩
        replace H : (ductusref19_lay.l3 k1 a1 y178 (wrap64 (x12_1 + 1)) a0_0 l0_1 a0_2 a0_3 l0_4) = some r := by first | (rw [hy178]; with_reducible exact H) | (have H2_ := (Option.bind_some _ _).symm.trans H; rw [hy178]; with_reducible exact H2_) | (have H2_ := (Option.bind_some _ _).symm.trans H; with_reducible exact H2_) | with_reducible exact H | (rw [hy178]; exact H) | exact H
        have Ny178 := Aside0.mk hy178
        clear hy178
        have H' := Aside0.mk H
        clear H
        have hcz77_0 : wr.cell? ⟨gb132, 0, none⟩ = some (.int .i64 a0_0) := (blk_cell BK132.out 0).trans rfl
        have hcz77_1 : wr.cell? ⟨gb132, 1, none⟩ = some (.slice A0_1 l0_1.length c0_1) := (blk_cell BK132.out 1).trans rfl
        have hcz77_2 : wr.cell? ⟨gb132, 2, none⟩ = some (.int .i64 a0_2) := (blk_cell BK132.out 2).trans rfl
        have hcz77_3 : wr.cell? ⟨gb132, 3, none⟩ = some (.int .i64 a0_3) := (blk_cell BK132.out 3).trans rfl
        have hcz77_4 : wr.cell? ⟨gb132, 4, none⟩ = some (.slice A0_4 l0_4.length c0_4) := (blk_cell BK132.out 4).trans rfl
        have hfz77_0 := blk_frozen BK132.out 0
        have hfz77_1 := blk_frozen BK132.out 1
        have hfz77_2 := blk_frozen BK132.out 2
        have hfz77_3 := blk_frozen BK132.out 3
        have hfz77_4 := blk_frozen BK132.out 4
        have p174 : 0 ≤ (0 : Int) := (by omega)
        have q174 : 0 < (l0_4.length : Int) := of_decide_eq_true (by first | (with_reducible assumption) | assumption)
        obtain ⟨ad174, A174_1, c174_1, A174_4, c174_4, e174, hx174_0, hx174_1, hx174_2, hx174_3, hx174_4, hl174_1, hi174_1, hl174_4, hi174_4⟩ := at_T25 (Kd.V_reads' HO_133004.out).2.2 0 p174 q174
        cases e174
        obtain ⟨ce174, hce174, hMe174, hcc174⟩ := Kd.V_get HO_133004.out z25 0 p174 (by first | exact q174 | exact of_decide_eq_true (by first | (with_reducible assumption) | assumption) | (have e_ := (Kd.V_reads' HO_133004.out).1; omega))
        obtain ⟨ua174_1, uc174_1, ua174_4, uc174_4, rfl, ul174_1, ge174_1, ul174_4, ge174_4⟩ := k25_openF hMe174
        have hv174_1 := hcc174 1 _ rfl
        rw [add_field _ _ 1 (by omega)] at hv174_1
        replace hv174_1 := Option.some.inj (hv174_1.symm.trans hx174_1)
        injection hv174_1 with hva_ hvn_ hvc_
        rw [hva_] at ge174_1
        rw [hvc_] at ul174_1
        have HL174_1 := Aside0.mk (show Kd.V k42 42 _ w.heap.size _ _ ((rd_T25 l0_4 0).f1) from Kd.V_mk ul174_1 ge174_1)
        clear hva_ hvn_ hvc_ ge174_1 ul174_1
        have hv174_4 := hcc174 4 _ rfl
        rw [add_field _ _ 4 (by omega)] at hv174_4
        replace hv174_4 := Option.some.inj (hv174_4.symm.trans hx174_4)
        injection hv174_4 with hva_ hvn_ hvc_
        rw [hva_] at ge174_4
        rw [hvc_] at ul174_4
        have HL174_4 := Aside0.mk (show Kd.V k25 25 _ w.heap.size _ _ ((rd_T25 l0_4 0).f4) from Kd.V_mk ul174_4 ge174_4)
        clear hva_ hvn_ hvc_ ge174_4 ul174_4
        clear hcc174 hce174
        have qi174 : (0 < l0_4.length) = True := eq_true (by omega)
        (try rw [show ((0 : Int)).toNat = 0 from rfl] at hx174_0)
        (try rw [show 0 * 5 = 0 from rfl] at hx174_0)
        (try rw [Addr.add_zero'] at hx174_0)
        (try rw [show ((0 : Int)).toNat = 0 from rfl] at hx174_1)
        (try rw [show 0 * 5 = 0 from rfl] at hx174_1)
        (try rw [Addr.add_zero'] at hx174_1)
        (try rw [show ((0 : Int)).toNat = 0 from rfl] at hx174_2)
        (try rw [show 0 * 5 = 0 from rfl] at hx174_2)
        (try rw [Addr.add_zero'] at hx174_2)
        (try rw [show ((0 : Int)).toNat = 0 from rfl] at hx174_3)
        (try rw [show 0 * 5 = 0 from rfl] at hx174_3)
        (try rw [Addr.add_zero'] at hx174_3)
        (try rw [show ((0 : Int)).toNat = 0 from rfl] at hx174_4)
        (try rw [show 0 * 5 = 0 from rfl] at hx174_4)
        (try rw [Addr.add_zero'] at hx174_4)
        have HR174_1 := Aside0.mk hi174_1
        have HC174_1 := Aside0.mk hl174_1
        clear hi174_1 hl174_1
        have HR174_4 := Aside0.mk hi174_4
        have HC174_4 := Aside0.mk hl174_4
        clear hi174_4 hl174_4
        replace p174 := eq_true p174
        replace q174 := eq_true q174
        obtain ⟨Ao78, co78, eo78⟩ := Kd.N_slice HO_5.out
        subst eo78
        go_wp2_with (first | ((with_reducible refine gate_callee (f := 23) rfl ?_); refine goesL_ (some 159) rfl rfl Try.func23 (by kernel_rfl) rfl #[.agg #[.int .i64 ((rd_T25 l0_4 0).f0), .slice A174_1 ((rd_T25 l0_4 0).f1).length c174_1, .int .i64 ((rd_T25 l0_4 0).f2), .int .i64 ((rd_T25 l0_4 0).f3), .slice A174_4 ((rd_T25 l0_4 0).f4).length c174_4], .int .i64 (wrap64 (a1 + (x5_1.length : Int)))] rfl (by (try simp only [List.map_toArray, List.map_cons, List.map_nil]); first | done | rfl | (simp only [List.length_drop, List.length_take]; rfl)) ?_; (with_reducible refine (ih k1 (by have := HK1.out; omega) ((rd_T25 l0_4 0).f0) (fun k_ => (((P0_1_ k_ ∨ P0_4_ k_) ∨ w.heap.size ≤ k_) ∧ (some k_ ≠ (.slice Ao78 x5_1.length co78 : Value).ownBlock ∧ k_ ≠ gb132))) _ _ ((rd_T25 l0_4 0).f1) ((rd_T25 l0_4 0).f2) ((rd_T25 l0_4 0).f3) (fun k_ => (((P0_1_ k_ ∨ P0_4_ k_) ∨ w.heap.size ≤ k_) ∧ (some k_ ≠ (.slice Ao78 x5_1.length co78 : Value).ownBlock ∧ k_ ≠ gb132))) _ _ ((rd_T25 l0_4 0).f4) (wrap64 (a1 + (x5_1.length : Int))) t175 _ ?side1 ?side2 A75.out).mono ?_); (case side1 => exact HL174_1.out); (case side2 => exact HL174_4.out); rintro e w79 ⟨v176, rfl, ho0, hb⟩; refine ⟨_, rfl, ?_⟩; have n0_ := Aside0.mk (Kd.N_elder' (by (with_reducible repeat (first | apply Kd.N_alloc | apply Kd.N_drewN | apply Kd.N_drew)); exact HO_5.out) (Kd.N_base ho0) hb); have n1_ := Aside0.mk (Kd.V_elder' (by (with_reducible repeat (first | apply Kd.V_alloc | apply Kd.V_drewN | apply Kd.V_drew)); exact HO_133001.out) (Kd.N_base ho0) hb); have n2_ := Aside0.mk (Kd.V_elder' (by (with_reducible repeat (first | apply Kd.V_alloc | apply Kd.V_drewN | apply Kd.V_drew)); exact HO_133004.out) (Kd.N_base ho0) hb); have n3_ := Aside0.mk (Kd.V_elder' (by (with_reducible repeat (first | apply Kd.V_alloc | apply Kd.V_drewN | apply Kd.V_drew)); exact HL174_1.out) (Kd.N_base ho0) hb); have n4_ := Aside0.mk (Kd.V_elder' (by (with_reducible repeat (first | apply Kd.V_alloc | apply Kd.V_drewN | apply Kd.V_drew)); exact HL174_4.out) (Kd.N_base ho0) hb); have n5_ := Aside0.mk (Kd.N_lower (Kd.N_mono (ok' := fun k_ => ((P0_1_ k_ ∨ P0_4_ k_) ∨ w.heap.size ≤ k_) ∧ some k_ ≠ (.slice Ao78 x5_1.length co78 : Value).ownBlock ∧ k_ ≠ gb132) ho0 (fun k_ hk_ => ⟨Or.elim hk_ (fun hs_ => Or.elim hs_ (fun hs_ => hs_.1) (fun hs_ => hs_.1)) (fun hn_ => (.inr (Nat.le_trans (below_size (by repeat (first | (with_reducible first | exact HB.out | apply below_alloc | apply pw_below_drewN | apply below_drew1 | refine below_set ?_ GE132.out) | exact HB.out))) hn_))), Or.elim hk_ (fun hs_ => Or.elim hs_ (fun hs_ => hs_.2.1) (fun hs_ => hs_.2.1)) (fun hn_ => (Kd.fresh' (Kd.N_lt (by (with_reducible repeat (first | apply Kd.N_alloc | apply Kd.N_drewN | apply Kd.N_drew)); exact HO_5.out)) k_ hn_)), Or.elim hk_ (fun hs_ => Or.elim hs_ (fun hs_ => hs_.2.2) (fun hs_ => hs_.2.2)) (fun hn_ => (Kd.freshB (g := gb132) (o := .cells #[.int .i64 a0_0, .slice A0_1 l0_1.length c0_1, .int .i64 a0_2, .int .i64 a0_3, .slice (some ad174) l0_4.length c0_4] 25 (0, 0)) (by (with_reducible repeat (first | refine blk_drewN ?_ _ | refine blk_drew ?_ | refine blk_alloc ?_ _)); exact BK132.out) k_ hn_))⟩)) (below_size (by repeat (first | (with_reducible first | exact HB.out | apply below_alloc | apply pw_below_drewN | apply below_drew1 | refine below_set ?_ GE132.out) | exact HB.out)))); have n6_ := Aside0.mk (blk_below (g := gb132) (o := .cells #[.int .i64 a0_0, .slice A0_1 l0_1.length c0_1, .int .i64 a0_2, .int .i64 a0_3, .slice (some ad174) l0_4.length c0_4] 25 (0, 0)) (by (with_reducible repeat (first | refine blk_drewN ?_ _ | refine blk_drew ?_ | refine blk_alloc ?_ _)); exact BK132.out) hb); have n7_ := Aside0.mk (Kd.C_below (by repeat (first | (with_reducible exact HR174_1.out) | (with_reducible refine Kd.C_alloc ?_ _) | (with_reducible refine Kd.C_drewN ?_ _) | (with_reducible refine Kd.C_drew ?_) | exact HR174_1.out)) hb); have n8_ := Aside0.mk (Kd.C_below (by repeat (first | (with_reducible exact HR174_4.out) | (with_reducible refine Kd.C_alloc ?_ _) | (with_reducible refine Kd.C_drewN ?_ _) | (with_reducible refine Kd.C_drew ?_) | exact HR174_4.out)) hb); have n9_ := Aside0.mk (below_step (by repeat (first | (with_reducible first | exact HB.out | apply below_alloc | apply pw_below_drewN | apply below_drew1 | refine below_set ?_ GE132.out) | exact HB.out)) hb); clear HO_5; clear HO_133001; clear HO_133004; clear HL174_1; clear HL174_4; clear BK132; clear HR174_1; clear HR174_4; clear HB; have HO_5 := n0_; have HO_133001 := n1_; have HO_133004 := n2_; have HL174_1 := n3_; have HL174_4 := n4_; have HO177 := n5_; have BK132 := n6_; have HR174_1 := n7_; have HR174_4 := n8_; have HB := n9_; clear n0_ n1_ n2_ n3_ n4_ n5_ n6_ n7_ n8_ n9_; (try clear hb); (try clear hb2); (try clear hk); (try clear hi); (try clear ho0); obtain ⟨Ao81, co81, eo81⟩ := Kd.N_slice HO177.out; subst eo81) | ((with_reducible refine gate_builtin (b := .append) (xs := #[.tmp 150, .tmp 159]) rfl ?_); at_builtin; refine Kd.N_append_rows k39 (w0 := w) w.heap.size rfl (.tmp 150) (.tmp 159) 29 39 (.agg #[(.int .i64 0), (.slice none 0 0), (.int .i64 0), (.int .i64 0)]) 48 rfl Try.underlying29 info39 rfl (by decide) (by omega) (.slice Ao78 x5_1.length co78) x5_1 t175 _ _ _ (fun k_ => ((P0_1_ k_ ∨ P0_4_ k_) ∨ w.heap.size ≤ k_) ∧ k_ ≠ gb132) (fun k_ => ((fun k_ => ((P0_1_ k_ ∨ P0_4_ k_) ∨ w.heap.size ≤ k_) ∧ k_ ≠ gb132)) k_ ∧ some k_ ≠ (.slice Ao78 x5_1.length co78 : Value).ownBlock) rfl rfl ?aO ?aR (fun _ hk => hk) ?aF ?aB ?aS ?aL ?_; (case aR => exact (by skip; exact Kd.N_F (Kd.N_mono (ok' := (fun k_ => ((fun k_ => ((P0_1_ k_ ∨ P0_4_ k_) ∨ w.heap.size ≤ k_) ∧ k_ ≠ gb132)) k_ ∧ some k_ ≠ (.slice Ao78 x5_1.length co78 : Value).ownBlock)) (HO177.out) (fun k_ hk => ⟨⟨hk.1, hk.2.2⟩, hk.2.1⟩)))); (case aB => exact (by repeat (first | (with_reducible first | exact HB.out | apply below_alloc | apply pw_below_drewN | apply below_drew1 | refine below_set ?_ GE132.out) | exact HB.out))); (case aF => exact (fun k_ hk => ⟨(.inr (Nat.le_trans (below_size (by repeat (first | (with_reducible first | exact HB.out | apply below_alloc | apply pw_below_drewN | apply below_drew1 | refine below_set ?_ GE132.out) | exact HB.out))) hk)), Kd.freshB (g := gb132) (o := .cells #[.int .i64 a0_0, .slice A0_1 l0_1.length c0_1, .int .i64 a0_2, .int .i64 a0_3, .slice (some ad174) l0_4.length c0_4] 25 (0, 0)) (by (with_reducible repeat (first | refine blk_drewN ?_ _ | refine blk_drew ?_ | refine blk_alloc ?_ _)); exact BK132.out) k_ hk⟩)); (case aO => exact (by (with_reducible repeat (first | apply Kd.N_alloc | apply Kd.N_drewN | apply Kd.N_drew)); exact Kd.N_mono HO_5.out (fun _ hk => ⟨hk.1.1, hk.1.2⟩))); (case aS => exact (below_size (by repeat (first | (with_reducible first | exact HB.out | apply below_alloc | apply pw_below_drewN | apply below_drew1 | refine below_set ?_ GE132.out) | exact HB.out)))); (case aL => have := LMc76.out; omega); intro v179 w80 ho hb hg hat; rw [← Ny178.out] at ho; have n0_ := Aside0.mk (Kd.V_afterv (ok := (fun k_ => ((P0_1_ k_ ∨ P0_4_ k_) ∨ w.heap.size ≤ k_) ∧ some k_ ≠ (.slice Ao81 t175.length co81 : Value).ownBlock ∧ k_ ≠ gb132)) (by (with_reducible repeat (first | apply Kd.V_alloc | apply Kd.V_drewN | apply Kd.V_drew)); exact Kd.V_mono HO_133001.out (fun _ hk => ⟨⟨hk.1.1, ⟨hk.2, hk.1.2.2⟩⟩, hk.1.2.1⟩)) hg hat); have n1_ := Aside0.mk (Kd.V_afterv (ok := (fun k_ => ((P0_1_ k_ ∨ P0_4_ k_) ∨ w.heap.size ≤ k_) ∧ some k_ ≠ (.slice Ao81 t175.length co81 : Value).ownBlock ∧ k_ ≠ gb132)) (by (with_reducible repeat (first | apply Kd.V_alloc | apply Kd.V_drewN | apply Kd.V_drew)); exact Kd.V_mono HO_133004.out (fun _ hk => ⟨⟨hk.1.1, ⟨hk.2, hk.1.2.2⟩⟩, hk.1.2.1⟩)) hg hat); have n2_ := Aside0.mk (blk_grown (g := gb132) (o := .cells #[.int .i64 a0_0, .slice A0_1 l0_1.length c0_1, .int .i64 a0_2, .int .i64 a0_3, .slice (some ad174) l0_4.length c0_4] 25 (0, 0)) (by (with_reducible repeat (first | refine blk_drewN ?_ _ | refine blk_drew ?_ | refine blk_alloc ?_ _)); exact BK132.out) hg (Kd.N_ne HO_5.out BK132.out (by decide))); have n3_ := Aside0.mk (Kd.V_afterv (ok := (fun k_ => ((P0_1_ k_ ∨ P0_4_ k_) ∨ w.heap.size ≤ k_) ∧ some k_ ≠ (.slice Ao81 t175.length co81 : Value).ownBlock ∧ k_ ≠ gb132)) (by (with_reducible repeat (first | apply Kd.V_alloc | apply Kd.V_drewN | apply Kd.V_drew)); exact Kd.V_mono HL174_1.out (fun _ hk => ⟨⟨hk.1.1, ⟨hk.2, hk.1.2.2⟩⟩, hk.1.2.1⟩)) hg hat); have n4_ := Aside0.mk (Kd.V_afterv (ok := (fun k_ => ((P0_1_ k_ ∨ P0_4_ k_) ∨ w.heap.size ≤ k_) ∧ some k_ ≠ (.slice Ao81 t175.length co81 : Value).ownBlock ∧ k_ ≠ gb132)) (by (with_reducible repeat (first | apply Kd.V_alloc | apply Kd.V_drewN | apply Kd.V_drew)); exact Kd.V_mono HL174_4.out (fun _ hk => ⟨⟨hk.1.1, ⟨hk.2, hk.1.2.2⟩⟩, hk.1.2.1⟩)) hg hat); have n5_ := Aside0.mk (Kd.N_afterv (ok := (fun k_ => ((P0_1_ k_ ∨ P0_4_ k_) ∨ w.heap.size ≤ k_) ∧ k_ ≠ gb132)) (by (with_reducible repeat (first | apply Kd.N_alloc | apply Kd.N_drewN | apply Kd.N_drew)); exact Kd.N_mono HO177.out (fun _ hk => ⟨⟨hk.1, hk.2.2⟩, hk.2.1⟩)) hg hat); have n6_ := Aside0.mk (hb); have n7_ := Aside0.mk (ho); clear HO_133001; clear HO_133004; clear BK132; clear HL174_1; clear HL174_4; clear HO177; clear HB; clear HO_5; have HO_133001 := n0_; have HO_133004 := n1_; have BK132 := n2_; have HL174_1 := n3_; have HL174_4 := n4_; have HO177 := n5_; have HB := n6_; have HO180 := n7_; clear n0_ n1_ n2_ n3_ n4_ n5_ n6_ n7_; clear ho hb hg hat))
        go_roundg k1
        case measure => have := HK1.out; omega
        case rel => exact ⟨(y178), (wrap64 (x12_1 + 1)), (by first | rfl | (simp; done) | (simp [*]; done)), H', ⟨by have := HK1.out; omega⟩, ⟨by (with_reducible repeat (first | apply Kd.N_alloc | apply Kd.N_drewN | apply Kd.N_drew)); exact HO180.out⟩, ⟨by (with_reducible repeat (first | apply Kd.V_alloc | apply Kd.V_drewN | apply Kd.V_drew)); exact Kd.V_mono HO_133001.out (fun _ hk => ⟨hk.1.1, ⟨hk.2, hk.1.2.2⟩⟩)⟩, ⟨by (with_reducible repeat (first | apply Kd.V_alloc | apply Kd.V_drewN | apply Kd.V_drew)); exact Kd.V_mono HO_133004.out (fun _ hk => ⟨hk.1.1, ⟨hk.2, hk.1.2.2⟩⟩)⟩, ⟨by (with_reducible repeat (first | refine blk_drewN ?_ _ | refine blk_drew ?_ | refine blk_alloc ?_ _)); exact BK132.out⟩, ⟨by repeat (first | (with_reducible first | exact HB.out | apply below_alloc | apply pw_below_drewN | apply below_drew1 | refine below_set ?_ GE132.out) | exact HB.out)⟩⟩
      rw [if_neg c73] at H
      have c73b0 : decide (x12_1 < a0_2) = false := decide_eq_false c73
      clear c73
      by_cases c82 : a0_3 < 0
      · rw [if_pos c82] at H
        have c82b0 : decide (a0_3 < 0) = true := decide_eq_true c82
        clear c82
        by_cases c83 : 0 < (l0_4.length : Int)
        rotate_left
        · rw [if_neg c83] at H
          exact absurd H (by simp)
        rw [if_pos c83] at H
        have c83b0 : decide (0 < (l0_4.length : Int)) = true := decide_eq_true c83
        have c83b1 : decide (0 < l0_4.length) = true := decide_eq_true (by omega)
        clear c83
        replace H := Option.bind_eq_some_iff.mp H
        obtain ⟨t182, A840, H⟩ := H
        replace H : (if x5_1.length < 2932031007402 then ((some (x5_1 ++ [(⟨2, ([] : List (S42)), wrap64 ((wrap64 (a1 + (x5_1.length : Int))) + 1), wrap64 ((wrap64 ((wrap64 (a1 + (x5_1.length : Int))) + 2)) + (t182.length : Int))⟩ : S39)] : List (S39))).bind fun y185 => (if y185.length + t182.length < 2932031007402 then ((some (y185 ++ t182 : List (S39))).bind fun y188 => (if y188.length < 2932031007402 then (some (y188 ++ [(⟨3, ([] : List (S42)), wrap64 (a1 + (x5_1.length : Int)), 0⟩ : S39)])) else (none))) else (none))) else (none)) = some r := H
        have A84 := Aside0.mk A840
        clear A840
        by_cases c85 : x5_1.length < 2932031007402
        rotate_left
        · rw [if_neg c85] at H
          exact absurd H (by simp)
        rw [if_pos c85] at H
        have LMc85 := Aside0.mk c85
        clear c85
        obtain ⟨y185, hy185⟩ : ∃ y_ : List (S39), y_ = (x5_1 ++ [(⟨2, ([] : List (S42)), wrap64 ((wrap64 (a1 + (x5_1.length : Int))) + 1), wrap64 ((wrap64 ((wrap64 (a1 + (x5_1.length : Int))) + 2)) + (t182.length : Int))⟩ : S39)]) := ⟨_, rfl⟩
        replace H : (if y185.length + t182.length < 2932031007402 then ((some (y185 ++ t182 : List (S39))).bind fun y188 => (if y188.length < 2932031007402 then (some (y188 ++ [(⟨3, ([] : List (S42)), wrap64 (a1 + (x5_1.length : Int)), 0⟩ : S39)])) else (none))) else (none)) = some r := by first | (rw [hy185]; with_reducible exact H) | (have H2_ := (Option.bind_some _ _).symm.trans H; rw [hy185]; with_reducible exact H2_) | (have H2_ := (Option.bind_some _ _).symm.trans H; with_reducible exact H2_) | with_reducible exact H | (rw [hy185]; exact H) | exact H
        have Ny185 := Aside0.mk hy185
        clear hy185
        by_cases c86 : y185.length + t182.length < 2932031007402
        rotate_left
        · rw [if_neg c86] at H
          exact absurd H (by simp)
        rw [if_pos c86] at H
        have LMc86 := Aside0.mk c86
        clear c86
        obtain ⟨y188, hy188⟩ : ∃ y_ : List (S39), y_ = (y185 ++ t182) := ⟨_, rfl⟩
        replace H : (if y188.length < 2932031007402 then (some (y188 ++ [(⟨3, ([] : List (S42)), wrap64 (a1 + (x5_1.length : Int)), 0⟩ : S39)])) else (none)) = some r := by first | (rw [hy188]; with_reducible exact H) | (have H2_ := (Option.bind_some _ _).symm.trans H; rw [hy188]; with_reducible exact H2_) | (have H2_ := (Option.bind_some _ _).symm.trans H; with_reducible exact H2_) | with_reducible exact H | (rw [hy188]; exact H) | exact H
        have Ny188 := Aside0.mk hy188
        clear hy188
        by_cases c87 : y188.length < 2932031007402
        rotate_left
        · rw [if_neg c87] at H
          exact absurd H (by simp)
        rw [if_pos c87] at H
        have LMc87 := Aside0.mk c87
        clear c87
        obtain ⟨y191, hy191⟩ : ∃ y_ : List (S39), y_ = (y188 ++ [(⟨3, ([] : List (S42)), wrap64 (a1 + (x5_1.length : Int)), 0⟩ : S39)]) := ⟨_, rfl⟩
        replace H : (some y191) = some r := by first | (rw [hy191]; with_reducible exact H) | (have H2_ := (Option.bind_some _ _).symm.trans H; rw [hy191]; with_reducible exact H2_) | (have H2_ := (Option.bind_some _ _).symm.trans H; with_reducible exact H2_) | with_reducible exact H | (rw [hy191]; exact H) | exact H
        have Ny191 := Aside0.mk hy191
        clear hy191
        obtain rfl := Option.some.inj H
        have hcz88_0 : wr.cell? ⟨gb132, 0, none⟩ = some (.int .i64 a0_0) := (blk_cell BK132.out 0).trans rfl
        have hcz88_1 : wr.cell? ⟨gb132, 1, none⟩ = some (.slice A0_1 l0_1.length c0_1) := (blk_cell BK132.out 1).trans rfl
        have hcz88_2 : wr.cell? ⟨gb132, 2, none⟩ = some (.int .i64 a0_2) := (blk_cell BK132.out 2).trans rfl
        have hcz88_3 : wr.cell? ⟨gb132, 3, none⟩ = some (.int .i64 a0_3) := (blk_cell BK132.out 3).trans rfl
        have hcz88_4 : wr.cell? ⟨gb132, 4, none⟩ = some (.slice A0_4 l0_4.length c0_4) := (blk_cell BK132.out 4).trans rfl
        have hfz88_0 := blk_frozen BK132.out 0
        have hfz88_1 := blk_frozen BK132.out 1
        have hfz88_2 := blk_frozen BK132.out 2
        have hfz88_3 := blk_frozen BK132.out 3
        have hfz88_4 := blk_frozen BK132.out 4
        obtain ⟨Ao89, co89, eo89⟩ := Kd.N_slice HO_5.out
        subst eo89
        have p181 : 0 ≤ (0 : Int) := (by omega)
        have q181 : 0 < (l0_4.length : Int) := of_decide_eq_true (by first | (with_reducible assumption) | assumption)
        obtain ⟨ad181, A181_1, c181_1, A181_4, c181_4, e181, hx181_0, hx181_1, hx181_2, hx181_3, hx181_4, hl181_1, hi181_1, hl181_4, hi181_4⟩ := at_T25 (Kd.V_reads' HO_133004.out).2.2 0 p181 q181
        cases e181
        obtain ⟨ce181, hce181, hMe181, hcc181⟩ := Kd.V_get HO_133004.out z25 0 p181 (by first | exact q181 | exact of_decide_eq_true (by first | (with_reducible assumption) | assumption) | (have e_ := (Kd.V_reads' HO_133004.out).1; omega))
        obtain ⟨ua181_1, uc181_1, ua181_4, uc181_4, rfl, ul181_1, ge181_1, ul181_4, ge181_4⟩ := k25_openF hMe181
        have hv181_1 := hcc181 1 _ rfl
        rw [add_field _ _ 1 (by omega)] at hv181_1
        replace hv181_1 := Option.some.inj (hv181_1.symm.trans hx181_1)
        injection hv181_1 with hva_ hvn_ hvc_
        rw [hva_] at ge181_1
        rw [hvc_] at ul181_1
        have HL181_1 := Aside0.mk (show Kd.V k42 42 _ w.heap.size _ _ ((rd_T25 l0_4 0).f1) from Kd.V_mk ul181_1 ge181_1)
        clear hva_ hvn_ hvc_ ge181_1 ul181_1
        have hv181_4 := hcc181 4 _ rfl
        rw [add_field _ _ 4 (by omega)] at hv181_4
        replace hv181_4 := Option.some.inj (hv181_4.symm.trans hx181_4)
        injection hv181_4 with hva_ hvn_ hvc_
        rw [hva_] at ge181_4
        rw [hvc_] at ul181_4
        have HL181_4 := Aside0.mk (show Kd.V k25 25 _ w.heap.size _ _ ((rd_T25 l0_4 0).f4) from Kd.V_mk ul181_4 ge181_4)
        clear hva_ hvn_ hvc_ ge181_4 ul181_4
        clear hcc181 hce181
        have qi181 : (0 < l0_4.length) = True := eq_true (by omega)
        (try rw [show ((0 : Int)).toNat = 0 from rfl] at hx181_0)
        (try rw [show 0 * 5 = 0 from rfl] at hx181_0)
        (try rw [Addr.add_zero'] at hx181_0)
        (try rw [show ((0 : Int)).toNat = 0 from rfl] at hx181_1)
        (try rw [show 0 * 5 = 0 from rfl] at hx181_1)
        (try rw [Addr.add_zero'] at hx181_1)
        (try rw [show ((0 : Int)).toNat = 0 from rfl] at hx181_2)
        (try rw [show 0 * 5 = 0 from rfl] at hx181_2)
        (try rw [Addr.add_zero'] at hx181_2)
        (try rw [show ((0 : Int)).toNat = 0 from rfl] at hx181_3)
        (try rw [show 0 * 5 = 0 from rfl] at hx181_3)
        (try rw [Addr.add_zero'] at hx181_3)
        (try rw [show ((0 : Int)).toNat = 0 from rfl] at hx181_4)
        (try rw [show 0 * 5 = 0 from rfl] at hx181_4)
        (try rw [Addr.add_zero'] at hx181_4)
        have HR181_1 := Aside0.mk hi181_1
        have HC181_1 := Aside0.mk hl181_1
        clear hi181_1 hl181_1
        have HR181_4 := Aside0.mk hi181_4
        have HC181_4 := Aside0.mk hl181_4
        clear hi181_4 hl181_4
        replace p181 := eq_true p181
        replace q181 := eq_true q181
        go_wp2_with (first | ((with_reducible refine gate_callee (f := 23) rfl ?_); refine goesL_ (some 174) rfl rfl Try.func23 (by kernel_rfl) rfl #[.agg #[.int .i64 ((rd_T25 l0_4 0).f0), .slice A181_1 ((rd_T25 l0_4 0).f1).length c181_1, .int .i64 ((rd_T25 l0_4 0).f2), .int .i64 ((rd_T25 l0_4 0).f3), .slice A181_4 ((rd_T25 l0_4 0).f4).length c181_4], .int .i64 (wrap64 ((wrap64 (a1 + (x5_1.length : Int))) + 1))] rfl (by (try simp only [List.map_toArray, List.map_cons, List.map_nil]); first | done | rfl | (simp only [List.length_drop, List.length_take]; rfl)) ?_; (with_reducible refine (ih k1 (by have := HK1.out; omega) ((rd_T25 l0_4 0).f0) (fun k_ => (((P0_1_ k_ ∨ P0_4_ k_) ∨ w.heap.size ≤ k_) ∧ (some k_ ≠ (.slice Ao89 x5_1.length co89 : Value).ownBlock ∧ k_ ≠ gb132))) _ _ ((rd_T25 l0_4 0).f1) ((rd_T25 l0_4 0).f2) ((rd_T25 l0_4 0).f3) (fun k_ => (((P0_1_ k_ ∨ P0_4_ k_) ∨ w.heap.size ≤ k_) ∧ (some k_ ≠ (.slice Ao89 x5_1.length co89 : Value).ownBlock ∧ k_ ≠ gb132))) _ _ ((rd_T25 l0_4 0).f4) (wrap64 ((wrap64 (a1 + (x5_1.length : Int))) + 1)) t182 _ ?side1 ?side2 A84.out).mono ?_); (case side1 => exact HL181_1.out); (case side2 => exact HL181_4.out); rintro e w90 ⟨v183, rfl, ho0, hb⟩; refine ⟨_, rfl, ?_⟩; have n0_ := Aside0.mk (Kd.N_elder' (by (with_reducible repeat (first | apply Kd.N_alloc | apply Kd.N_drewN | apply Kd.N_drew)); exact HO_5.out) (Kd.N_base ho0) hb); have n1_ := Aside0.mk (Kd.V_elder' (by (with_reducible repeat (first | apply Kd.V_alloc | apply Kd.V_drewN | apply Kd.V_drew)); exact HO_133001.out) (Kd.N_base ho0) hb); have n2_ := Aside0.mk (Kd.V_elder' (by (with_reducible repeat (first | apply Kd.V_alloc | apply Kd.V_drewN | apply Kd.V_drew)); exact HO_133004.out) (Kd.N_base ho0) hb); have n3_ := Aside0.mk (Kd.V_elder' (by (with_reducible repeat (first | apply Kd.V_alloc | apply Kd.V_drewN | apply Kd.V_drew)); exact HL181_1.out) (Kd.N_base ho0) hb); have n4_ := Aside0.mk (Kd.V_elder' (by (with_reducible repeat (first | apply Kd.V_alloc | apply Kd.V_drewN | apply Kd.V_drew)); exact HL181_4.out) (Kd.N_base ho0) hb); have n5_ := Aside0.mk (Kd.N_lower (Kd.N_mono (ok' := fun k_ => ((P0_1_ k_ ∨ P0_4_ k_) ∨ w.heap.size ≤ k_) ∧ some k_ ≠ (.slice Ao89 x5_1.length co89 : Value).ownBlock ∧ k_ ≠ gb132) ho0 (fun k_ hk_ => ⟨Or.elim hk_ (fun hs_ => Or.elim hs_ (fun hs_ => hs_.1) (fun hs_ => hs_.1)) (fun hn_ => (.inr (Nat.le_trans (below_size (by repeat (first | (with_reducible first | exact HB.out | apply below_alloc | apply pw_below_drewN | apply below_drew1 | refine below_set ?_ GE132.out) | exact HB.out))) hn_))), Or.elim hk_ (fun hs_ => Or.elim hs_ (fun hs_ => hs_.2.1) (fun hs_ => hs_.2.1)) (fun hn_ => (Kd.fresh' (Kd.N_lt (by (with_reducible repeat (first | apply Kd.N_alloc | apply Kd.N_drewN | apply Kd.N_drew)); exact HO_5.out)) k_ hn_)), Or.elim hk_ (fun hs_ => Or.elim hs_ (fun hs_ => hs_.2.2) (fun hs_ => hs_.2.2)) (fun hn_ => (Kd.freshB (g := gb132) (o := .cells #[.int .i64 a0_0, .slice A0_1 l0_1.length c0_1, .int .i64 a0_2, .int .i64 a0_3, .slice (some ad181) l0_4.length c0_4] 25 (0, 0)) (by (with_reducible repeat (first | refine blk_drewN ?_ _ | refine blk_drew ?_ | refine blk_alloc ?_ _)); exact BK132.out) k_ hn_))⟩)) (below_size (by repeat (first | (with_reducible first | exact HB.out | apply below_alloc | apply pw_below_drewN | apply below_drew1 | refine below_set ?_ GE132.out) | exact HB.out)))); have n6_ := Aside0.mk (blk_below (g := gb132) (o := .cells #[.int .i64 a0_0, .slice A0_1 l0_1.length c0_1, .int .i64 a0_2, .int .i64 a0_3, .slice (some ad181) l0_4.length c0_4] 25 (0, 0)) (by (with_reducible repeat (first | refine blk_drewN ?_ _ | refine blk_drew ?_ | refine blk_alloc ?_ _)); exact BK132.out) hb); have n7_ := Aside0.mk (Kd.C_below (by repeat (first | (with_reducible exact HR181_1.out) | (with_reducible refine Kd.C_alloc ?_ _) | (with_reducible refine Kd.C_drewN ?_ _) | (with_reducible refine Kd.C_drew ?_) | exact HR181_1.out)) hb); have n8_ := Aside0.mk (Kd.C_below (by repeat (first | (with_reducible exact HR181_4.out) | (with_reducible refine Kd.C_alloc ?_ _) | (with_reducible refine Kd.C_drewN ?_ _) | (with_reducible refine Kd.C_drew ?_) | exact HR181_4.out)) hb); have n9_ := Aside0.mk (below_step (by repeat (first | (with_reducible first | exact HB.out | apply below_alloc | apply pw_below_drewN | apply below_drew1 | refine below_set ?_ GE132.out) | exact HB.out)) hb); clear HO_5; clear HO_133001; clear HO_133004; clear HL181_1; clear HL181_4; clear BK132; clear HR181_1; clear HR181_4; clear HB; have HO_5 := n0_; have HO_133001 := n1_; have HO_133004 := n2_; have HL181_1 := n3_; have HL181_4 := n4_; have HO184 := n5_; have BK132 := n6_; have HR181_1 := n7_; have HR181_4 := n8_; have HB := n9_; clear n0_ n1_ n2_ n3_ n4_ n5_ n6_ n7_ n8_ n9_; (try clear hb); (try clear hb2); (try clear hk); (try clear hi); (try clear ho0); obtain ⟨Ao91, co91, eo91⟩ := Kd.N_slice HO184.out; subst eo91) | ((with_reducible refine gate_builtin (b := .append) (xs := #[.tmp 175, .tmp 184]) rfl ?_); at_builtin; refine Kd.N_append k39 (w0 := w) w.heap.size rfl (.tmp 175) (.tmp 184) 29 39 (.agg #[(.int .i64 0), (.slice none 0 0), (.int .i64 0), (.int .i64 0)]) 48 rfl Try.underlying29 info39 rfl (by decide) (by omega) (.slice Ao89 x5_1.length co89) x5_1 (⟨2, ([] : List (S42)), wrap64 ((wrap64 (a1 + (x5_1.length : Int))) + 1), wrap64 ((wrap64 ((wrap64 (a1 + (x5_1.length : Int))) + 2)) + (t182.length : Int))⟩ : S39) [.int .i64 2, .slice none 0 0, .int .i64 (wrap64 ((wrap64 (a1 + (x5_1.length : Int))) + 1)), .int .i64 (wrap64 ((wrap64 ((wrap64 (a1 + (x5_1.length : Int))) + 2)) + (t182.length : Int)))] (fun k_ => ((P0_1_ k_ ∨ P0_4_ k_) ∨ w.heap.size ≤ k_) ∧ some k_ ≠ (.slice Ao91 t182.length co91 : Value).ownBlock ∧ k_ ≠ gb132) (fun k_ => ((fun k_ => ((P0_1_ k_ ∨ P0_4_ k_) ∨ w.heap.size ≤ k_) ∧ some k_ ≠ (.slice Ao91 t182.length co91 : Value).ownBlock ∧ k_ ≠ gb132)) k_ ∧ some k_ ≠ (.slice Ao89 x5_1.length co89 : Value).ownBlock) rfl rfl ?aP (fun _ hk => hk) ?aF ?aO ?aB ?aS ?aL ?_; (case aP => exact (k39_mkF _ _ (⟨2, ([] : List (S42)), wrap64 ((wrap64 (a1 + (x5_1.length : Int))) + 1), wrap64 ((wrap64 ((wrap64 (a1 + (x5_1.length : Int))) + 2)) + (t182.length : Int))⟩ : S39) (Nat.le_refl _) (Kd.F_nil _ _ _))); (case aB => exact (by repeat (first | (with_reducible first | exact HB.out | apply below_alloc | apply pw_below_drewN | apply below_drew1 | refine below_set ?_ GE132.out) | exact HB.out))); (case aF => exact (fun k_ hk => ⟨(.inr (Nat.le_trans (below_size (by repeat (first | (with_reducible first | exact HB.out | apply below_alloc | apply pw_below_drewN | apply below_drew1 | refine below_set ?_ GE132.out) | exact HB.out))) hk)), Kd.fresh' (Kd.N_lt (by (with_reducible repeat (first | apply Kd.N_alloc | apply Kd.N_drewN | apply Kd.N_drew)); exact HO184.out)) k_ hk, Kd.freshB (g := gb132) (o := .cells #[.int .i64 a0_0, .slice A0_1 l0_1.length c0_1, .int .i64 a0_2, .int .i64 a0_3, .slice (some ad181) l0_4.length c0_4] 25 (0, 0)) (by (with_reducible repeat (first | refine blk_drewN ?_ _ | refine blk_drew ?_ | refine blk_alloc ?_ _)); exact BK132.out) k_ hk⟩)); (case aO => exact (by (with_reducible repeat (first | apply Kd.N_alloc | apply Kd.N_drewN | apply Kd.N_drew)); exact Kd.N_mono HO_5.out (fun _ hk => ⟨hk.1.1, ⟨hk.2, hk.1.2⟩⟩))); (case aS => exact (below_size (by repeat (first | (with_reducible first | exact HB.out | apply below_alloc | apply pw_below_drewN | apply below_drew1 | refine below_set ?_ GE132.out) | exact HB.out)))); (case aL => have := LMc85.out; omega); intro v186 w92 ho hb hg hat; rw [← Ny185.out] at ho; have n0_ := Aside0.mk (Kd.V_afterv (ok := (fun k_ => ((P0_1_ k_ ∨ P0_4_ k_) ∨ w.heap.size ≤ k_) ∧ some k_ ≠ (.slice Ao91 t182.length co91 : Value).ownBlock ∧ k_ ≠ gb132)) (by (with_reducible repeat (first | apply Kd.V_alloc | apply Kd.V_drewN | apply Kd.V_drew)); exact Kd.V_mono HO_133001.out (fun _ hk => ⟨⟨hk.1.1, ⟨hk.2, hk.1.2.2⟩⟩, hk.1.2.1⟩)) hg hat); have n1_ := Aside0.mk (Kd.V_afterv (ok := (fun k_ => ((P0_1_ k_ ∨ P0_4_ k_) ∨ w.heap.size ≤ k_) ∧ some k_ ≠ (.slice Ao91 t182.length co91 : Value).ownBlock ∧ k_ ≠ gb132)) (by (with_reducible repeat (first | apply Kd.V_alloc | apply Kd.V_drewN | apply Kd.V_drew)); exact Kd.V_mono HO_133004.out (fun _ hk => ⟨⟨hk.1.1, ⟨hk.2, hk.1.2.2⟩⟩, hk.1.2.1⟩)) hg hat); have n2_ := Aside0.mk (blk_grown (g := gb132) (o := .cells #[.int .i64 a0_0, .slice A0_1 l0_1.length c0_1, .int .i64 a0_2, .int .i64 a0_3, .slice (some ad181) l0_4.length c0_4] 25 (0, 0)) (by (with_reducible repeat (first | refine blk_drewN ?_ _ | refine blk_drew ?_ | refine blk_alloc ?_ _)); exact BK132.out) hg (Kd.N_ne HO_5.out BK132.out (by decide))); have n3_ := Aside0.mk (Kd.V_afterv (ok := (fun k_ => ((P0_1_ k_ ∨ P0_4_ k_) ∨ w.heap.size ≤ k_) ∧ some k_ ≠ (.slice Ao91 t182.length co91 : Value).ownBlock ∧ k_ ≠ gb132)) (by (with_reducible repeat (first | apply Kd.V_alloc | apply Kd.V_drewN | apply Kd.V_drew)); exact Kd.V_mono HL181_1.out (fun _ hk => ⟨⟨hk.1.1, ⟨hk.2, hk.1.2.2⟩⟩, hk.1.2.1⟩)) hg hat); have n4_ := Aside0.mk (Kd.V_afterv (ok := (fun k_ => ((P0_1_ k_ ∨ P0_4_ k_) ∨ w.heap.size ≤ k_) ∧ some k_ ≠ (.slice Ao91 t182.length co91 : Value).ownBlock ∧ k_ ≠ gb132)) (by (with_reducible repeat (first | apply Kd.V_alloc | apply Kd.V_drewN | apply Kd.V_drew)); exact Kd.V_mono HL181_4.out (fun _ hk => ⟨⟨hk.1.1, ⟨hk.2, hk.1.2.2⟩⟩, hk.1.2.1⟩)) hg hat); have n5_ := Aside0.mk (Kd.N_afterv (ok := (fun k_ => ((P0_1_ k_ ∨ P0_4_ k_) ∨ w.heap.size ≤ k_) ∧ k_ ≠ gb132)) (by (with_reducible repeat (first | apply Kd.N_alloc | apply Kd.N_drewN | apply Kd.N_drew)); exact Kd.N_mono HO184.out (fun _ hk => ⟨⟨hk.1, hk.2.2⟩, hk.2.1⟩)) hg hat); have n6_ := Aside0.mk (hb); have n7_ := Aside0.mk (ho); clear HO_133001; clear HO_133004; clear BK132; clear HL181_1; clear HL181_4; clear HO184; clear HB; clear HO_5; have HO_133001 := n0_; have HO_133004 := n1_; have BK132 := n2_; have HL181_1 := n3_; have HL181_4 := n4_; have HO184 := n5_; have HB := n6_; have HO187 := n7_; clear n0_ n1_ n2_ n3_ n4_ n5_ n6_ n7_; clear ho hb hg hat) | ((with_reducible refine gate_builtin (b := .append) (xs := #[.tmp 185, .tmp 186]) rfl ?_); at_builtin; refine Kd.N_append_rows k39 (w0 := w) w.heap.size rfl (.tmp 185) (.tmp 186) 29 39 (.agg #[(.int .i64 0), (.slice none 0 0), (.int .i64 0), (.int .i64 0)]) 48 rfl Try.underlying29 info39 rfl (by decide) (by omega) v186 y185 t182 _ _ _ (fun k_ => ((P0_1_ k_ ∨ P0_4_ k_) ∨ w.heap.size ≤ k_) ∧ k_ ≠ gb132) (fun k_ => ((fun k_ => ((P0_1_ k_ ∨ P0_4_ k_) ∨ w.heap.size ≤ k_) ∧ k_ ≠ gb132)) k_ ∧ some k_ ≠ (v186 : Value).ownBlock) rfl rfl ?aO ?aR (fun _ hk => hk) ?aF ?aB ?aS ?aL ?_; (case aR => exact (by skip; exact Kd.N_F (Kd.N_mono (ok' := (fun k_ => ((fun k_ => ((P0_1_ k_ ∨ P0_4_ k_) ∨ w.heap.size ≤ k_) ∧ k_ ≠ gb132)) k_ ∧ some k_ ≠ (v186 : Value).ownBlock)) (HO184.out) (fun k_ hk => ⟨⟨hk.1.1, hk.1.2⟩, hk.2⟩)))); (case aB => exact (by repeat (first | (with_reducible first | exact HB.out | apply below_alloc | apply pw_below_drewN | apply below_drew1 | refine below_set ?_ GE132.out) | exact HB.out))); (case aF => exact (fun k_ hk => ⟨(.inr (Nat.le_trans (below_size (by repeat (first | (with_reducible first | exact HB.out | apply below_alloc | apply pw_below_drewN | apply below_drew1 | refine below_set ?_ GE132.out) | exact HB.out))) hk)), Kd.freshB (g := gb132) (o := .cells #[.int .i64 a0_0, .slice A0_1 l0_1.length c0_1, .int .i64 a0_2, .int .i64 a0_3, .slice (some ad181) l0_4.length c0_4] 25 (0, 0)) (by (with_reducible repeat (first | refine blk_drewN ?_ _ | refine blk_drew ?_ | refine blk_alloc ?_ _)); exact BK132.out) k_ hk⟩)); (case aO => exact (by (with_reducible repeat (first | apply Kd.N_alloc | apply Kd.N_drewN | apply Kd.N_drew)); exact Kd.N_mono HO187.out (fun _ hk => ⟨hk.1, hk.2.2⟩))); (case aS => exact (below_size (by repeat (first | (with_reducible first | exact HB.out | apply below_alloc | apply pw_below_drewN | apply below_drew1 | refine below_set ?_ GE132.out) | exact HB.out)))); (case aL => have := LMc86.out; omega); intro v189 w93 ho hb hg hat; rw [← Ny188.out] at ho; have n0_ := Aside0.mk (Kd.V_afterv (ok := (fun k_ => ((P0_1_ k_ ∨ P0_4_ k_) ∨ w.heap.size ≤ k_) ∧ some k_ ≠ (.slice Ao91 t182.length co91 : Value).ownBlock ∧ k_ ≠ gb132)) (by (with_reducible repeat (first | apply Kd.V_alloc | apply Kd.V_drewN | apply Kd.V_drew)); exact HO_133001.out) hg hat); have n1_ := Aside0.mk (Kd.V_afterv (ok := (fun k_ => ((P0_1_ k_ ∨ P0_4_ k_) ∨ w.heap.size ≤ k_) ∧ some k_ ≠ (.slice Ao91 t182.length co91 : Value).ownBlock ∧ k_ ≠ gb132)) (by (with_reducible repeat (first | apply Kd.V_alloc | apply Kd.V_drewN | apply Kd.V_drew)); exact HO_133004.out) hg hat); have n2_ := Aside0.mk (blk_grown (g := gb132) (o := .cells #[.int .i64 a0_0, .slice A0_1 l0_1.length c0_1, .int .i64 a0_2, .int .i64 a0_3, .slice (some ad181) l0_4.length c0_4] 25 (0, 0)) (by (with_reducible repeat (first | refine blk_drewN ?_ _ | refine blk_drew ?_ | refine blk_alloc ?_ _)); exact BK132.out) hg (Kd.N_ne HO187.out BK132.out (by decide))); have n3_ := Aside0.mk (Kd.V_afterv (ok := (fun k_ => ((P0_1_ k_ ∨ P0_4_ k_) ∨ w.heap.size ≤ k_) ∧ some k_ ≠ (.slice Ao91 t182.length co91 : Value).ownBlock ∧ k_ ≠ gb132)) (by (with_reducible repeat (first | apply Kd.V_alloc | apply Kd.V_drewN | apply Kd.V_drew)); exact HL181_1.out) hg hat); have n4_ := Aside0.mk (Kd.V_afterv (ok := (fun k_ => ((P0_1_ k_ ∨ P0_4_ k_) ∨ w.heap.size ≤ k_) ∧ some k_ ≠ (.slice Ao91 t182.length co91 : Value).ownBlock ∧ k_ ≠ gb132)) (by (with_reducible repeat (first | apply Kd.V_alloc | apply Kd.V_drewN | apply Kd.V_drew)); exact HL181_4.out) hg hat); have n5_ := Aside0.mk (Kd.N_afterv (ok := (fun k_ => ((P0_1_ k_ ∨ P0_4_ k_) ∨ w.heap.size ≤ k_) ∧ k_ ≠ gb132)) (by (with_reducible repeat (first | apply Kd.N_alloc | apply Kd.N_drewN | apply Kd.N_drew)); exact HO184.out) hg hat); have n6_ := Aside0.mk (hb); have n7_ := Aside0.mk (ho); clear HO_133001; clear HO_133004; clear BK132; clear HL181_1; clear HL181_4; clear HO184; clear HB; clear HO187; have HO_133001 := n0_; have HO_133004 := n1_; have BK132 := n2_; have HL181_1 := n3_; have HL181_4 := n4_; have HO184 := n5_; have HB := n6_; have HO190 := n7_; clear n0_ n1_ n2_ n3_ n4_ n5_ n6_ n7_; clear ho hb hg hat) | ((with_reducible refine gate_builtin (b := .append) (xs := #[.tmp 187, .tmp 190]) rfl ?_); at_builtin; refine Kd.N_append k39 (w0 := w) w.heap.size rfl (.tmp 187) (.tmp 190) 29 39 (.agg #[(.int .i64 0), (.slice none 0 0), (.int .i64 0), (.int .i64 0)]) 48 rfl Try.underlying29 info39 rfl (by decide) (by omega) v189 y188 (⟨3, ([] : List (S42)), wrap64 (a1 + (x5_1.length : Int)), 0⟩ : S39) [.int .i64 3, .slice none 0 0, .int .i64 (wrap64 (a1 + (x5_1.length : Int))), .int .i64 0] (fun k_ => ((P0_1_ k_ ∨ P0_4_ k_) ∨ w.heap.size ≤ k_) ∧ k_ ≠ gb132) (fun k_ => ((fun k_ => ((P0_1_ k_ ∨ P0_4_ k_) ∨ w.heap.size ≤ k_) ∧ k_ ≠ gb132)) k_ ∧ some k_ ≠ (v189 : Value).ownBlock) rfl rfl ?aP (fun _ hk => hk) ?aF ?aO ?aB ?aS ?aL ?_; (case aP => exact (k39_mkF _ _ (⟨3, ([] : List (S42)), wrap64 (a1 + (x5_1.length : Int)), 0⟩ : S39) (Nat.le_refl _) (Kd.F_nil _ _ _))); (case aB => exact (by repeat (first | (with_reducible first | exact HB.out | apply below_alloc | apply pw_below_drewN | apply below_drew1 | refine below_set ?_ GE132.out) | exact HB.out))); (case aF => exact (fun k_ hk => ⟨(.inr (Nat.le_trans (below_size (by repeat (first | (with_reducible first | exact HB.out | apply below_alloc | apply pw_below_drewN | apply below_drew1 | refine below_set ?_ GE132.out) | exact HB.out))) hk)), Kd.freshB (g := gb132) (o := .cells #[.int .i64 a0_0, .slice A0_1 l0_1.length c0_1, .int .i64 a0_2, .int .i64 a0_3, .slice (some ad181) l0_4.length c0_4] 25 (0, 0)) (by (with_reducible repeat (first | refine blk_drewN ?_ _ | refine blk_drew ?_ | refine blk_alloc ?_ _)); exact BK132.out) k_ hk⟩)); (case aO => exact (by (with_reducible repeat (first | apply Kd.N_alloc | apply Kd.N_drewN | apply Kd.N_drew)); exact HO190.out)); (case aS => exact (below_size (by repeat (first | (with_reducible first | exact HB.out | apply below_alloc | apply pw_below_drewN | apply below_drew1 | refine below_set ?_ GE132.out) | exact HB.out)))); (case aL => have := LMc87.out; omega); intro v192 w94 ho hb hg hat; rw [← Ny191.out] at ho; have n0_ := Aside0.mk (Kd.V_afterv (ok := (fun k_ => ((P0_1_ k_ ∨ P0_4_ k_) ∨ w.heap.size ≤ k_) ∧ some k_ ≠ (.slice Ao91 t182.length co91 : Value).ownBlock ∧ k_ ≠ gb132)) (by (with_reducible repeat (first | apply Kd.V_alloc | apply Kd.V_drewN | apply Kd.V_drew)); exact HO_133001.out) hg hat); have n1_ := Aside0.mk (Kd.V_afterv (ok := (fun k_ => ((P0_1_ k_ ∨ P0_4_ k_) ∨ w.heap.size ≤ k_) ∧ some k_ ≠ (.slice Ao91 t182.length co91 : Value).ownBlock ∧ k_ ≠ gb132)) (by (with_reducible repeat (first | apply Kd.V_alloc | apply Kd.V_drewN | apply Kd.V_drew)); exact HO_133004.out) hg hat); have n2_ := Aside0.mk (blk_grown (g := gb132) (o := .cells #[.int .i64 a0_0, .slice A0_1 l0_1.length c0_1, .int .i64 a0_2, .int .i64 a0_3, .slice (some ad181) l0_4.length c0_4] 25 (0, 0)) (by (with_reducible repeat (first | refine blk_drewN ?_ _ | refine blk_drew ?_ | refine blk_alloc ?_ _)); exact BK132.out) hg (Kd.N_ne HO190.out BK132.out (by decide))); have n3_ := Aside0.mk (Kd.V_afterv (ok := (fun k_ => ((P0_1_ k_ ∨ P0_4_ k_) ∨ w.heap.size ≤ k_) ∧ some k_ ≠ (.slice Ao91 t182.length co91 : Value).ownBlock ∧ k_ ≠ gb132)) (by (with_reducible repeat (first | apply Kd.V_alloc | apply Kd.V_drewN | apply Kd.V_drew)); exact HL181_1.out) hg hat); have n4_ := Aside0.mk (Kd.V_afterv (ok := (fun k_ => ((P0_1_ k_ ∨ P0_4_ k_) ∨ w.heap.size ≤ k_) ∧ some k_ ≠ (.slice Ao91 t182.length co91 : Value).ownBlock ∧ k_ ≠ gb132)) (by (with_reducible repeat (first | apply Kd.V_alloc | apply Kd.V_drewN | apply Kd.V_drew)); exact HL181_4.out) hg hat); have n5_ := Aside0.mk (Kd.N_afterv (ok := (fun k_ => ((P0_1_ k_ ∨ P0_4_ k_) ∨ w.heap.size ≤ k_) ∧ k_ ≠ gb132)) (by (with_reducible repeat (first | apply Kd.N_alloc | apply Kd.N_drewN | apply Kd.N_drew)); exact HO184.out) hg hat); have n6_ := Aside0.mk (hb); have n7_ := Aside0.mk (ho); clear HO_133001; clear HO_133004; clear BK132; clear HL181_1; clear HL181_4; clear HO184; clear HB; clear HO190; have HO_133001 := n0_; have HO_133004 := n1_; have BK132 := n2_; have HL181_1 := n3_; have HL181_4 := n4_; have HO184 := n5_; have HB := n6_; have HO193 := n7_; clear n0_ n1_ n2_ n3_ n4_ n5_ n6_ n7_; clear ho hb hg hat))
        go_ret
        exact ⟨_, by first | rfl | (simp [errW_none, errW_some] <;> rfl) | (simp [*, errW_none, errW_some] <;> rfl), by (with_reducible repeat (first | apply Kd.N_alloc | apply Kd.N_drewN | apply Kd.N_drew)); exact Kd.N_mono HO193.out (fun _ hk => hk.1), by repeat (first | (with_reducible first | exact HB.out | apply below_alloc | apply pw_below_drewN | apply below_drew1 | refine below_set ?_ GE132.out) | exact HB.out)⟩
      rw [if_neg c82] at H
      have c82b0 : decide (a0_3 < 0) = false := decide_eq_false c82
      clear c82
      have H' := Aside0.mk H
      clear H
      have hcz95_0 : wr.cell? ⟨gb132, 0, none⟩ = some (.int .i64 a0_0) := (blk_cell BK132.out 0).trans rfl
      have hcz95_1 : wr.cell? ⟨gb132, 1, none⟩ = some (.slice A0_1 l0_1.length c0_1) := (blk_cell BK132.out 1).trans rfl
      have hcz95_2 : wr.cell? ⟨gb132, 2, none⟩ = some (.int .i64 a0_2) := (blk_cell BK132.out 2).trans rfl
      have hcz95_3 : wr.cell? ⟨gb132, 3, none⟩ = some (.int .i64 a0_3) := (blk_cell BK132.out 3).trans rfl
      have hcz95_4 : wr.cell? ⟨gb132, 4, none⟩ = some (.slice A0_4 l0_4.length c0_4) := (blk_cell BK132.out 4).trans rfl
      have hfz95_0 := blk_frozen BK132.out 0
      have hfz95_1 := blk_frozen BK132.out 1
      have hfz95_2 := blk_frozen BK132.out 2
      have hfz95_3 := blk_frozen BK132.out 3
      have hfz95_4 := blk_frozen BK132.out 4
      go_wp2
      go_loopg [5, 15, 16] k1 (fun kq v5 v15 v16 w' => ∃ (x5_2 : List (S39)) (x15_2 : List Int) (x16_2 : Int), v16 = .int .i64 x16_2 ∧ Aside0 (ductusref19_lay.l4 kq a1 x5_2 x15_2 x16_2 a0_0 l0_1 a0_2 a0_3 l0_4 = some r) ∧ Aside0 (kq ≤ k1) ∧ Aside0 (Kd.N k39 39 w' w.heap.size (fun k_ => ((P0_1_ k_ ∨ P0_4_ k_) ∨ w.heap.size ≤ k_) ∧ some k_ ≠ (v15 : Value).ownBlock ∧ k_ ≠ gb132) v5 x5_2) ∧ Aside0 (Kd.R (Kd.int .i64) 3 w' w.heap.size (fun k_ => (w.heap.size ≤ k_)) v15 x15_2) ∧ Aside0 (Kd.V k42 42 w' w.heap.size (fun k_ => ((P0_1_ k_ ∨ P0_4_ k_) ∨ w.heap.size ≤ k_) ∧ some k_ ≠ (v5 : Value).ownBlock ∧ some k_ ≠ (v15 : Value).ownBlock ∧ k_ ≠ gb132) (.slice A0_1 l0_1.length c0_1) l0_1) ∧ Aside0 (Kd.V k25 25 w' w.heap.size (fun k_ => ((P0_1_ k_ ∨ P0_4_ k_) ∨ w.heap.size ≤ k_) ∧ some k_ ≠ (v5 : Value).ownBlock ∧ some k_ ≠ (v15 : Value).ownBlock ∧ k_ ≠ gb132) (.slice A0_4 l0_4.length c0_4) l0_4) ∧ Aside0 (w'.heap[gb132]? = some (.cells #[.int .i64 a0_0, (.slice A0_1 l0_1.length c0_1), .int .i64 a0_2, .int .i64 a0_3, (.slice A0_4 l0_4.length c0_4)] 25 (0, 0))) ∧ Aside0 (Below w.heap.size w w'))
      case atStart => exact ⟨(x5_1), (([] : List Int)), (a0_2), (by first | rfl | (simp; done) | (simp [*]; done)), H', ⟨Nat.le_refl _⟩, ⟨by (with_reducible repeat (first | apply Kd.N_alloc | apply Kd.N_drewN | apply Kd.N_drew)); exact Kd.N_mono HO_5.out (fun _ hk => ⟨hk.1, ⟨(by simp [Value.ownBlock]), hk.2⟩⟩)⟩, ⟨by first | exact Kd.R_nil _ _ _ _ _ | exact Kd.N_nil _ _ _ _ _ | exact Kd.V_nil _ _ _ _ _ | exact Kd.Q_nil _ _ _ _ _ | exact Kd.S_nil _ _ _ _ _⟩, ⟨by (with_reducible repeat (first | apply Kd.V_alloc | apply Kd.V_drewN | apply Kd.V_drew)); exact Kd.V_mono HO_133001.out (fun _ hk => ⟨hk.1, ⟨hk.2.1, ⟨(by simp [Value.ownBlock]), hk.2.2⟩⟩⟩)⟩, ⟨by (with_reducible repeat (first | apply Kd.V_alloc | apply Kd.V_drewN | apply Kd.V_drew)); exact Kd.V_mono HO_133004.out (fun _ hk => ⟨hk.1, ⟨hk.2.1, ⟨(by simp [Value.ownBlock]), hk.2.2⟩⟩⟩)⟩, ⟨by (with_reducible repeat (first | refine blk_drewN ?_ _ | refine blk_drew ?_ | refine blk_alloc ?_ _)); exact BK132.out⟩, ⟨by repeat (first | (with_reducible first | exact HB.out | apply below_alloc | apply pw_below_drewN | apply below_drew1 | refine below_set ?_ GE132.out) | exact HB.out)⟩⟩
      case round =>
        clear H'
        try clear c1
        try clear p1
        try clear q1
        try clear hx1
        try clear qi1
        try clear c2
        try clear p2
        try clear c3
        try clear c3b0
        try clear c3b1
        try clear c4
        try clear c6
        try clear p6
        try clear q6
        try clear hx6
        try clear hf6
        try clear c7
        try clear c8
        try clear c8b0
        try clear c8b1
        try clear c9
        try clear c13
        try clear c13b0
        try clear c13b1
        try clear c14
        try clear p14
        try clear q14
        try clear hx14
        try clear c15
        try clear p15
        try clear q15
        try clear hx15
        try clear c17
        try clear p17
        try clear q17
        try clear hx17
        try clear qi17
        try clear c18
        try clear c18b0
        try clear c18b1
        try clear p18
        try clear q18
        try clear hx18
        try clear qi18
        try clear c21
        try clear c21b0
        try clear c22
        try clear c22b0
        try clear c23
        try clear c24
        try clear c31
        try clear c31b0
        try clear c31b1
        try clear c34
        try clear c34b0
        try clear c35
        try clear c35b0
        try clear c35b1
        try clear c36
        try clear c36b0
        try clear c38
        try clear c44
        try clear c44b0
        try clear c46
        try clear c47
        try clear c48
        try clear c49
        try clear c60
        try clear c60b0
        try clear c61
        try clear c61b0
        try clear c62
        try clear c62b0
        try clear c63
        try clear c63b0
        try clear c64
        try clear p64
        try clear q64
        try clear hx64
        try clear hf64
        try clear c67
        try clear hx67
        try clear hf67
        try clear c70
        try clear c70b0
        try clear c70b1
        try clear c73
        try clear c73b0
        try clear c74
        try clear c74b0
        try clear c74b1
        try clear c76
        try clear c82
        try clear c82b0
        try clear c83
        try clear c83b0
        try clear c83b1
        try clear c85
        try clear c86
        try clear c87
        try clear hcz11_0
        try clear hcz11_1
        try clear hcz11_2
        try clear hcz11_3
        try clear hcz11_4
        try clear hcz16_0
        try clear hcz16_1
        try clear hcz16_2
        try clear hcz16_3
        try clear hcz16_4
        try clear hcz20_0
        try clear hcz20_1
        try clear hcz20_2
        try clear hcz20_3
        try clear hcz20_4
        try clear hcz25_0
        try clear hcz25_1
        try clear hcz25_2
        try clear hcz25_3
        try clear hcz25_4
        try clear hcz30_0
        try clear hcz30_1
        try clear hcz30_2
        try clear hcz30_3
        try clear hcz30_4
        try clear hcz33_0
        try clear hcz33_1
        try clear hcz33_2
        try clear hcz33_3
        try clear hcz33_4
        try clear hcz39_0
        try clear hcz39_1
        try clear hcz39_2
        try clear hcz39_3
        try clear hcz39_4
        try clear hcz50_0
        try clear hcz50_1
        try clear hcz50_2
        try clear hcz50_3
        try clear hcz50_4
        try clear hcz59_0
        try clear hcz59_1
        try clear hcz59_2
        try clear hcz59_3
        try clear hcz59_4
        try clear hcz6_0
        try clear hcz6_1
        try clear hcz6_2
        try clear hcz6_3
        try clear hcz6_4
        try clear hcz72_0
        try clear hcz72_1
        try clear hcz72_2
        try clear hcz72_3
        try clear hcz72_4
        try clear hcz77_0
        try clear hcz77_1
        try clear hcz77_2
        try clear hcz77_3
        try clear hcz77_4
        try clear hcz88_0
        try clear hcz88_1
        try clear hcz88_2
        try clear hcz88_3
        try clear hcz88_4
        try clear hcz95_0
        try clear hcz95_1
        try clear hcz95_2
        try clear hcz95_3
        try clear hcz95_4
        try clear hfz11_0
        try clear hfz11_1
        try clear hfz11_2
        try clear hfz11_3
        try clear hfz11_4
        try clear hfz16_0
        try clear hfz16_1
        try clear hfz16_2
        try clear hfz16_3
        try clear hfz16_4
        try clear hfz20_0
        try clear hfz20_1
        try clear hfz20_2
        try clear hfz20_3
        try clear hfz20_4
        try clear hfz25_0
        try clear hfz25_1
        try clear hfz25_2
        try clear hfz25_3
        try clear hfz25_4
        try clear hfz30_0
        try clear hfz30_1
        try clear hfz30_2
        try clear hfz30_3
        try clear hfz30_4
        try clear hfz33_0
        try clear hfz33_1
        try clear hfz33_2
        try clear hfz33_3
        try clear hfz33_4
        try clear hfz39_0
        try clear hfz39_1
        try clear hfz39_2
        try clear hfz39_3
        try clear hfz39_4
        try clear hfz50_0
        try clear hfz50_1
        try clear hfz50_2
        try clear hfz50_3
        try clear hfz50_4
        try clear hfz59_0
        try clear hfz59_1
        try clear hfz59_2
        try clear hfz59_3
        try clear hfz59_4
        try clear hfz6_0
        try clear hfz6_1
        try clear hfz6_2
        try clear hfz6_3
        try clear hfz6_4
        try clear hfz72_0
        try clear hfz72_1
        try clear hfz72_2
        try clear hfz72_3
        try clear hfz72_4
        try clear hfz77_0
        try clear hfz77_1
        try clear hfz77_2
        try clear hfz77_3
        try clear hfz77_4
        try clear hfz88_0
        try clear hfz88_1
        try clear hfz88_2
        try clear hfz88_3
        try clear hfz88_4
        try clear hfz95_0
        try clear hfz95_1
        try clear hfz95_2
        try clear hfz95_3
        try clear hfz95_4
        try clear hx142_0
        try clear hx142_1
        try clear hx142_2
        try clear hx142_3
        try clear hx142_4
        try clear hx149_0
        try clear hx149_1
        try clear hx149_2
        try clear hx149_3
        try clear hx149_4
        try clear hx156_0
        try clear hx156_1
        try clear hx156_2
        try clear hx156_3
        try clear hx156_4
        try clear hx172_0
        try clear hx174_0
        try clear hx174_1
        try clear hx174_2
        try clear hx174_3
        try clear hx174_4
        try clear hx181_0
        try clear hx181_1
        try clear hx181_2
        try clear hx181_3
        try clear hx181_4
        try clear hx64_0
        try clear hx64_1
        try clear hx64_2
        try clear hx64_3
        try clear hx67_2
        try clear p1
        try clear p14
        try clear p142
        try clear p149
        try clear p15
        try clear p156
        try clear p17
        try clear p172
        try clear p174
        try clear p181
        try clear p2
        try clear p6
        try clear p64
        try clear q1
        try clear q14
        try clear q142
        try clear q149
        try clear q15
        try clear q156
        try clear q17
        try clear q172
        try clear q174
        try clear q181
        try clear q6
        try clear q64
        obtain ⟨x5_2, x15_2, x16_2, rfl, HA, HK2, HO_5, HO_15, HO_133001, HO_133004, BK132, HB⟩ := hrel
        cases gk with
        | zero => exact absurd HA.out (by simp [ductusref19_lay.l4])
        | succ k2 =>
          have H := HA.out
          clear HA
          simp only [ductusref19_lay.l4] at H
          by_cases c96 : x16_2 < a0_3
          rotate_left
          · rw [if_neg c96] at H
            have c96b0 : decide (x16_2 < a0_3) = false := decide_eq_false c96
            clear c96
            have H' := Aside0.mk H
            clear H
            have hcz111_0 : wr.cell? ⟨gb132, 0, none⟩ = some (.int .i64 a0_0) := (blk_cell BK132.out 0).trans rfl
            have hcz111_1 : wr.cell? ⟨gb132, 1, none⟩ = some (.slice A0_1 l0_1.length c0_1) := (blk_cell BK132.out 1).trans rfl
            have hcz111_2 : wr.cell? ⟨gb132, 2, none⟩ = some (.int .i64 a0_2) := (blk_cell BK132.out 2).trans rfl
            have hcz111_3 : wr.cell? ⟨gb132, 3, none⟩ = some (.int .i64 a0_3) := (blk_cell BK132.out 3).trans rfl
            have hcz111_4 : wr.cell? ⟨gb132, 4, none⟩ = some (.slice A0_4 l0_4.length c0_4) := (blk_cell BK132.out 4).trans rfl
            have hfz111_0 := blk_frozen BK132.out 0
            have hfz111_1 := blk_frozen BK132.out 1
            have hfz111_2 := blk_frozen BK132.out 2
            have hfz111_3 := blk_frozen BK132.out 3
            have hfz111_4 := blk_frozen BK132.out 4
            go_wp2
            go_loopg [17] k2 (fun kq v17 w' => ∃ (x5_3 : List (S39)) (x17_3 : Int), v17 = .int .i64 x17_3 ∧ Aside0 (ductusref19_lay.l5 kq a1 x5_3 x15_2 x17_3 = some r) ∧ Aside0 (kq ≤ k2) ∧ Aside0 (Kd.N k39 39 w' w.heap.size (fun k_ => ((P0_1_ k_ ∨ P0_4_ k_) ∨ w.heap.size ≤ k_) ∧ some k_ ≠ (u15 : Value).ownBlock ∧ k_ ≠ gb132) u5 x5_3) ∧ Aside0 (Kd.R (Kd.int .i64) 3 w' w.heap.size (fun k_ => (w.heap.size ≤ k_)) u15 x15_2) ∧ Aside0 (Kd.V k42 42 w' w.heap.size (fun k_ => ((P0_1_ k_ ∨ P0_4_ k_) ∨ w.heap.size ≤ k_) ∧ some k_ ≠ (u5 : Value).ownBlock ∧ some k_ ≠ (u15 : Value).ownBlock ∧ k_ ≠ gb132) (.slice A0_1 l0_1.length c0_1) l0_1) ∧ Aside0 (Kd.V k25 25 w' w.heap.size (fun k_ => ((P0_1_ k_ ∨ P0_4_ k_) ∨ w.heap.size ≤ k_) ∧ some k_ ≠ (u5 : Value).ownBlock ∧ some k_ ≠ (u15 : Value).ownBlock ∧ k_ ≠ gb132) (.slice A0_4 l0_4.length c0_4) l0_4) ∧ Aside0 (w'.heap[gb132]? = some (.cells #[.int .i64 a0_0, (.slice A0_1 l0_1.length c0_1), .int .i64 a0_2, .int .i64 a0_3, (.slice A0_4 l0_4.length c0_4)] 25 (0, 0))) ∧ Aside0 (Below w.heap.size w w'))
            case atStart => exact ⟨(x5_2), (0), (by first | rfl | (simp; done) | (simp [*]; done)), H', ⟨Nat.le_refl _⟩, ⟨by (with_reducible repeat (first | apply Kd.N_alloc | apply Kd.N_drewN | apply Kd.N_drew)); exact HO_5.out⟩, ⟨by (with_reducible repeat (first | apply Kd.R_alloc | apply Kd.R_drewN | apply Kd.R_drew)); exact HO_15.out⟩, ⟨by (with_reducible repeat (first | apply Kd.V_alloc | apply Kd.V_drewN | apply Kd.V_drew)); exact HO_133001.out⟩, ⟨by (with_reducible repeat (first | apply Kd.V_alloc | apply Kd.V_drewN | apply Kd.V_drew)); exact HO_133004.out⟩, ⟨by (with_reducible repeat (first | refine blk_drewN ?_ _ | refine blk_drew ?_ | refine blk_alloc ?_ _)); exact BK132.out⟩, ⟨by repeat (first | (with_reducible first | exact HB.out | apply below_alloc | apply pw_below_drewN | apply below_drew1 | refine below_set ?_ GE132.out) | exact HB.out)⟩⟩
            case round =>
              clear H'
              try clear c1
              try clear p1
              try clear q1
              try clear hx1
              try clear qi1
              try clear c2
              try clear p2
              try clear q2
              try clear hx2
              try clear qi2
              try clear c3
              try clear c3b0
              try clear c3b1
              try clear c4
              try clear c6
              try clear p6
              try clear q6
              try clear hx6
              try clear hf6
              try clear c7
              try clear c8
              try clear c8b0
              try clear c8b1
              try clear c9
              try clear c10
              try clear c13
              try clear c13b0
              try clear c13b1
              try clear c14
              try clear p14
              try clear q14
              try clear hx14
              try clear c15
              try clear p15
              try clear q15
              try clear hx15
              try clear c17
              try clear p17
              try clear q17
              try clear hx17
              try clear qi17
              try clear c18
              try clear c18b0
              try clear c18b1
              try clear p18
              try clear q18
              try clear hx18
              try clear qi18
              try clear c20
              try clear p20
              try clear q20
              try clear hx20
              try clear qi20
              try clear c21
              try clear c21b0
              try clear c22
              try clear c22b0
              try clear c23
              try clear c24
              try clear c31
              try clear c31b0
              try clear c31b1
              try clear c34
              try clear c34b0
              try clear c35
              try clear c35b0
              try clear c35b1
              try clear c36
              try clear c36b0
              try clear c38
              try clear c44
              try clear c44b0
              try clear c46
              try clear c47
              try clear c48
              try clear c49
              try clear c60
              try clear c60b0
              try clear c61
              try clear c61b0
              try clear c62
              try clear c62b0
              try clear c63
              try clear c63b0
              try clear c64
              try clear p64
              try clear q64
              try clear hx64
              try clear hf64
              try clear c67
              try clear hx67
              try clear hf67
              try clear c70
              try clear c70b0
              try clear c70b1
              try clear c73
              try clear c73b0
              try clear c74
              try clear c74b0
              try clear c74b1
              try clear c76
              try clear c82
              try clear c82b0
              try clear c83
              try clear c83b0
              try clear c83b1
              try clear c85
              try clear c86
              try clear c87
              try clear c96
              try clear c96b0
              try clear c97
              try clear c98
              try clear c99
              try clear c99b0
              try clear c99b1
              try clear c101
              try clear hcz102_0
              try clear hcz102_1
              try clear hcz102_2
              try clear hcz102_3
              try clear hcz102_4
              try clear hcz106_0
              try clear hcz106_1
              try clear hcz106_2
              try clear hcz106_3
              try clear hcz106_4
              try clear hcz111_0
              try clear hcz111_1
              try clear hcz111_2
              try clear hcz111_3
              try clear hcz111_4
              try clear hcz11_0
              try clear hcz11_1
              try clear hcz11_2
              try clear hcz11_3
              try clear hcz11_4
              try clear hcz16_0
              try clear hcz16_1
              try clear hcz16_2
              try clear hcz16_3
              try clear hcz16_4
              try clear hcz20_0
              try clear hcz20_1
              try clear hcz20_2
              try clear hcz20_3
              try clear hcz20_4
              try clear hcz25_0
              try clear hcz25_1
              try clear hcz25_2
              try clear hcz25_3
              try clear hcz25_4
              try clear hcz30_0
              try clear hcz30_1
              try clear hcz30_2
              try clear hcz30_3
              try clear hcz30_4
              try clear hcz33_0
              try clear hcz33_1
              try clear hcz33_2
              try clear hcz33_3
              try clear hcz33_4
              try clear hcz39_0
              try clear hcz39_1
              try clear hcz39_2
              try clear hcz39_3
              try clear hcz39_4
              try clear hcz50_0
              try clear hcz50_1
              try clear hcz50_2
              try clear hcz50_3
              try clear hcz50_4
              try clear hcz59_0
              try clear hcz59_1
              try clear hcz59_2
              try clear hcz59_3
              try clear hcz59_4
              try clear hcz6_0
              try clear hcz6_1
              try clear hcz6_2
              try clear hcz6_3
              try clear hcz6_4
              try clear hcz72_0
              try clear hcz72_1
              try clear hcz72_2
              try clear hcz72_3
              try clear hcz72_4
              try clear hcz77_0
              try clear hcz77_1
              try clear hcz77_2
              try clear hcz77_3
              try clear hcz77_4
              try clear hcz88_0
              try clear hcz88_1
              try clear hcz88_2
              try clear hcz88_3
              try clear hcz88_4
              try clear hcz95_0
              try clear hcz95_1
              try clear hcz95_2
              try clear hcz95_3
              try clear hcz95_4
              try clear hfz102_0
              try clear hfz102_1
              try clear hfz102_2
              try clear hfz102_3
              try clear hfz102_4
              try clear hfz106_0
              try clear hfz106_1
              try clear hfz106_2
              try clear hfz106_3
              try clear hfz106_4
              try clear hfz111_0
              try clear hfz111_1
              try clear hfz111_2
              try clear hfz111_3
              try clear hfz111_4
              try clear hfz11_0
              try clear hfz11_1
              try clear hfz11_2
              try clear hfz11_3
              try clear hfz11_4
              try clear hfz16_0
              try clear hfz16_1
              try clear hfz16_2
              try clear hfz16_3
              try clear hfz16_4
              try clear hfz20_0
              try clear hfz20_1
              try clear hfz20_2
              try clear hfz20_3
              try clear hfz20_4
              try clear hfz25_0
              try clear hfz25_1
              try clear hfz25_2
              try clear hfz25_3
              try clear hfz25_4
              try clear hfz30_0
              try clear hfz30_1
              try clear hfz30_2
              try clear hfz30_3
              try clear hfz30_4
              try clear hfz33_0
              try clear hfz33_1
              try clear hfz33_2
              try clear hfz33_3
              try clear hfz33_4
              try clear hfz39_0
              try clear hfz39_1
              try clear hfz39_2
              try clear hfz39_3
              try clear hfz39_4
              try clear hfz50_0
              try clear hfz50_1
              try clear hfz50_2
              try clear hfz50_3
              try clear hfz50_4
              try clear hfz59_0
              try clear hfz59_1
              try clear hfz59_2
              try clear hfz59_3
              try clear hfz59_4
              try clear hfz6_0
              try clear hfz6_1
              try clear hfz6_2
              try clear hfz6_3
              try clear hfz6_4
              try clear hfz72_0
              try clear hfz72_1
              try clear hfz72_2
              try clear hfz72_3
              try clear hfz72_4
              try clear hfz77_0
              try clear hfz77_1
              try clear hfz77_2
              try clear hfz77_3
              try clear hfz77_4
              try clear hfz88_0
              try clear hfz88_1
              try clear hfz88_2
              try clear hfz88_3
              try clear hfz88_4
              try clear hfz95_0
              try clear hfz95_1
              try clear hfz95_2
              try clear hfz95_3
              try clear hfz95_4
              try clear hx142_0
              try clear hx142_1
              try clear hx142_2
              try clear hx142_3
              try clear hx142_4
              try clear hx149_0
              try clear hx149_1
              try clear hx149_2
              try clear hx149_3
              try clear hx149_4
              try clear hx156_0
              try clear hx156_1
              try clear hx156_2
              try clear hx156_3
              try clear hx156_4
              try clear hx172_0
              try clear hx174_0
              try clear hx174_1
              try clear hx174_2
              try clear hx174_3
              try clear hx174_4
              try clear hx181_0
              try clear hx181_1
              try clear hx181_2
              try clear hx181_3
              try clear hx181_4
              try clear hx200_0
              try clear hx200_1
              try clear hx200_2
              try clear hx200_3
              try clear hx200_4
              try clear hx64_0
              try clear hx64_1
              try clear hx64_2
              try clear hx64_3
              try clear hx67_2
              try clear p1
              try clear p14
              try clear p142
              try clear p149
              try clear p15
              try clear p156
              try clear p17
              try clear p172
              try clear p174
              try clear p18
              try clear p181
              try clear p2
              try clear p200
              try clear p6
              try clear p64
              try clear q1
              try clear q14
              try clear q142
              try clear q149
              try clear q15
              try clear q156
              try clear q17
              try clear q172
              try clear q174
              try clear q18
              try clear q181
              try clear q200
              try clear q6
              try clear q64
              obtain ⟨x5_3, x17_3, rfl, HA, HK3, HO_5, HO_15, HO_133001, HO_133004, BK132, HB⟩ := hrel
              cases gk with
              | zero => exact absurd HA.out (by simp [ductusref19_lay.l5])
              | succ k3 =>
                have H := HA.out
                clear HA
                simp only [ductusref19_lay.l5] at H
                by_cases c112 : x17_3 < (x15_2.length : Int)
                rotate_left
                · rw [if_neg c112] at H
                  have c112b0 : decide (x17_3 < (x15_2.length : Int)) = false := decide_eq_false c112
                  clear c112
                  obtain rfl := Option.some.inj H
                  obtain ⟨Ao121, co121, eo121⟩ := Kd.R_slice HO_15.out
                  subst eo121
                  go_wp2
                  go_ret
                  exact ⟨_, by first | rfl | (simp [errW_none, errW_some] <;> rfl) | (simp [*, errW_none, errW_some] <;> rfl), by (with_reducible repeat (first | apply Kd.N_alloc | apply Kd.N_drewN | apply Kd.N_drew)); exact Kd.N_mono HO_5.out (fun _ hk => hk.1), by repeat (first | (with_reducible first | exact HB.out | apply below_alloc | apply pw_below_drewN | apply below_drew1 | refine below_set ?_ GE132.out) | exact HB.out)⟩
                rw [if_pos c112] at H
                have c112b0 : decide (x17_3 < (x15_2.length : Int)) = true := decide_eq_true c112
                clear c112
                by_cases c113 : 0 ≤ x17_3
                rotate_left
                · rw [if_neg c113] at H
                  exact absurd H (by simp)
                rw [if_pos c113] at H
                have c113b0 : decide (0 ≤ x17_3) = true := decide_eq_true c113
                clear c113
                by_cases c114 : 0 ≤ (rd x15_2 x17_3)
                rotate_left
                · rw [if_neg c114] at H
                  exact absurd H (by simp)
                rw [if_pos c114] at H
                have c114b0 : decide (0 ≤ (rd x15_2 x17_3)) = true := decide_eq_true c114
                clear c114
                by_cases c115 : (rd x15_2 x17_3) < (x5_3.length : Int)
                rotate_left
                · rw [if_neg c115] at H
                  exact absurd H (by simp)
                rw [if_pos c115] at H
                have c115b0 : decide ((rd x15_2 x17_3) < (x5_3.length : Int)) = true := decide_eq_true c115
                clear c115
                obtain ⟨y208, hy208⟩ : ∃ y_ : List (S39), y_ = (x5_3.set ((rd x15_2 x17_3) : Int).toNat (⟨(rd_T39 x5_3 (rd x15_2 x17_3)).f0, (rd_T39 x5_3 (rd x15_2 x17_3)).f1, (rd_T39 x5_3 (rd x15_2 x17_3)).f2, wrap64 (a1 + (x5_3.length : Int))⟩ : S39)) := ⟨_, rfl⟩
                replace H : (ductusref19_lay.l5 k3 a1 y208 x15_2 (wrap64 (x17_3 + 1))) = some r := by first | (rw [hy208]; with_reducible exact H) | (have H2_ := (Option.bind_some _ _).symm.trans H; rw [hy208]; with_reducible exact H2_) | (have H2_ := (Option.bind_some _ _).symm.trans H; with_reducible exact H2_) | with_reducible exact H | (rw [hy208]; exact H) | exact H
                have Ny208 := Aside0.mk hy208
                clear hy208
                have H' := Aside0.mk H
                clear H
                obtain ⟨Ao117, co117, eo117⟩ := Kd.R_slice HO_15.out
                subst eo117
                have p207 : 0 ≤ (x17_3 : Int) := of_decide_eq_true (by first | (with_reducible assumption) | assumption)
                have q207 : x17_3 < (x15_2.length : Int) := of_decide_eq_true (by first | (with_reducible assumption) | assumption)
                obtain ⟨ad207, e207, hx207_0⟩ := Kd.at_int (Kd.R_reads' HO_15.out).2.2 x17_3 p207 q207
                cases e207
                replace p207 := eq_true p207
                replace q207 := eq_true q207
                obtain ⟨Ao118, co118, eo118⟩ := Kd.N_slice HO_5.out
                subst eo118
                have p116 : 0 ≤ ((rd x15_2 x17_3) : Int) := of_decide_eq_true (by first | (with_reducible assumption) | assumption)
                have q116 : ((rd x15_2 x17_3) : Int) < ((x5_3.length : Int) : Int) := of_decide_eq_true (by first | (with_reducible assumption) | assumption)
                obtain ⟨go116, co116, eo116, gb116, gl116, cl116, HG116⟩ := Kd.N_form HO_5.out (by omega)
                (first | cases eo116 | (injection eo116 with ea_ en_ ec_; (first | subst ea_ | (injection ea_ with ea_; subst ea_)); subst ec_; clear en_))
                have GB116 := Aside0.mk gb116
                have GG116 := Aside0.mk HG116
                clear gb116 gl116 HG116
                obtain ⟨ce116, hcl116, hM116, hcc116, hfr116⟩ := Kd.N_elem HO_5.out z39 ((rd x15_2 x17_3) : Int) p116 q116
                obtain ⟨ua116_1, uc116_1, rfl, ul116_1, ge116_1⟩ := k39_openF hM116
                have hx116_0 : wr.cell? ⟨go116, ((rd x15_2 x17_3) : Int).toNat * 4, none⟩ = some (.int .i64 ((rd_T39 x5_3 (rd x15_2 x17_3)).f0)) := hcc116 0 _ rfl
                have hx116_1 : wr.cell? ⟨go116, ((rd x15_2 x17_3) : Int).toNat * 4 + 1, none⟩ = some (.slice ua116_1 ((rd_T39 x5_3 (rd x15_2 x17_3)).f1).length uc116_1) := hcc116 1 _ rfl
                have hx116_2 : wr.cell? ⟨go116, ((rd x15_2 x17_3) : Int).toNat * 4 + 2, none⟩ = some (.int .i64 ((rd_T39 x5_3 (rd x15_2 x17_3)).f2)) := hcc116 2 _ rfl
                have hx116_3 : wr.cell? ⟨go116, ((rd x15_2 x17_3) : Int).toNat * 4 + 3, none⟩ = some (.int .i64 ((rd_T39 x5_3 (rd x15_2 x17_3)).f3)) := hcc116 3 _ rfl
                have hf116_0 : wr.frozen? ⟨go116, ((rd x15_2 x17_3) : Int).toNat * 4, none⟩ = false := hfr116 0
                have hf116_1 : wr.frozen? ⟨go116, ((rd x15_2 x17_3) : Int).toNat * 4 + 1, none⟩ = false := hfr116 1
                have hf116_2 : wr.frozen? ⟨go116, ((rd x15_2 x17_3) : Int).toNat * 4 + 2, none⟩ = false := hfr116 2
                have hf116_3 : wr.frozen? ⟨go116, ((rd x15_2 x17_3) : Int).toNat * 4 + 3, none⟩ = false := hfr116 3
                clear hcl116 hcc116 hfr116 hM116
                replace p116 := eq_true p116
                replace q116 := eq_true q116
                have HX119 := Aside0.mk (show Kd.N k39 39 wr w.heap.size (fun k_ => ((P0_1_ k_ ∨ P0_4_ k_) ∨ w.heap.size ≤ k_) ∧ some k_ ≠ (.slice (some ad207) x15_2.length co117 : Value).ownBlock ∧ k_ ≠ gb132) (.slice (some ⟨go116, 0, none⟩) x5_3.length co118) x5_3 from (by (with_reducible repeat (first | apply Kd.N_alloc | apply Kd.N_drewN | apply Kd.N_drew)); exact HO_5.out))
                obtain ⟨ce119, hcl119, hM119, hcc119, hfr119⟩ := Kd.N_elem HX119.out z39 ((rd x15_2 x17_3) : Int) (of_decide_eq_true (by first | (with_reducible assumption) | assumption)) (by have h_ : ((rd x15_2 x17_3) : Int) < ((x5_3.length : Int) : Int) := of_decide_eq_true (by first | (with_reducible assumption) | assumption); first | exact h_ | (have e_ := (Kd.N_reads' HO_5.out).1; omega) | simpa using h_)
                obtain ⟨ua119_1, uc119_1, rfl, ul119_1, ge119_1⟩ := k39_openF hM119
                have HP119 := Kd.N_seg HX119.out ((rd x15_2 x17_3) : Int) (of_decide_eq_true (by first | (with_reducible assumption) | assumption)) (by have h_ : ((rd x15_2 x17_3) : Int) < ((x5_3.length : Int) : Int) := of_decide_eq_true (by first | (with_reducible assumption) | assumption); first | exact h_ | (have e_ := (Kd.N_reads' HO_5.out).1; omega) | simpa using h_) (seg := [.int .i64 (wrap64 (a1 + (x5_3.length : Int)))]) (j := 3) hcl119 hcc119 (show 4 ≤ 4 from by decide) (x' := (⟨(rd_T39 x5_3 (rd x15_2 x17_3)).f0, (rd_T39 x5_3 (rd x15_2 x17_3)).f1, (rd_T39 x5_3 (rd x15_2 x17_3)).f2, wrap64 (a1 + (x5_3.length : Int))⟩ : S39)) (k39_mkF _ _ (⟨(rd_T39 x5_3 (rd x15_2 x17_3)).f0, (rd_T39 x5_3 (rd x15_2 x17_3)).f1, (rd_T39 x5_3 (rd x15_2 x17_3)).f2, wrap64 (a1 + (x5_3.length : Int))⟩ : S39) ul119_1 ge119_1) (fun _ hk => hk)
                have hx119_3 := hcc119 3 _ rfl
                (try simp only [show (k39).sz = 4 from rfl, Nat.mul_one, Nat.add_zero] at hx119_3)
                have hf119_3 := hfr119 3
                (try simp only [show (k39).sz = 4 from rfl, Nat.mul_one, Nat.add_zero] at hf119_3)
                clear hcl119 hcc119 hfr119 hM119
                go_wp2_with (first | ((with_reducible refine gate_store (t := 3) (p := 242) rfl ?_); refine store_event (t := 3) (p := 242) (v := ?vo_w120) (w1 := (wr.setCell ⟨go116, ((rd x15_2 x17_3) : Int).toNat * 4 + 3, none⟩ (.int .i64 (wrap64 (a1 + (x5_3.length : Int)))))) ?hg ?ho ?hn ?hr ?_; (case ho => rfl); (case hg => rfl); (case hn => rfl); (case hr => first | (go_simp; done) | (go_simp; rfl)); intro w120 hw; have hg : wr.grownBy w120 (some go116) := (by rw [hw]; exact HP119.2); have hp_ : Kd.N k39 39 w120 w.heap.size (fun k_ => ((P0_1_ k_ ∨ P0_4_ k_) ∨ w.heap.size ≤ k_) ∧ some k_ ≠ (.slice (some ad207) x15_2.length co117 : Value).ownBlock ∧ k_ ≠ gb132) (.slice (some ⟨go116, 0, none⟩) x5_3.length co118) y208 := (by rw [hw, Ny208.out]; exact HP119.1); clear HP119; have n0_ := Aside0.mk (hp_); have n1_ := Aside0.mk (Kd.R_over' (v := (.slice (some ⟨go116, 0, none⟩) x5_3.length co118)) (by (with_reducible repeat (first | apply Kd.R_alloc | apply Kd.R_drewN | apply Kd.R_drew)); exact HO_15.out) (Kd.N_typed HO_5.out) (by decide) hg); have n2_ := Aside0.mk (Kd.V_afterv (v := (.slice (some ⟨go116, 0, none⟩) x5_3.length co118)) (v1 := (.slice (some ⟨go116, 0, none⟩) x5_3.length co118)) (ok := (fun k_ => ((P0_1_ k_ ∨ P0_4_ k_) ∨ w.heap.size ≤ k_) ∧ some k_ ≠ (.slice (some ad207) x15_2.length co117 : Value).ownBlock ∧ k_ ≠ gb132)) (by (with_reducible repeat (first | apply Kd.V_alloc | apply Kd.V_drewN | apply Kd.V_drew)); exact Kd.V_mono HO_133001.out (fun _ hk => ⟨⟨hk.1, ⟨hk.2.2.1, hk.2.2.2⟩⟩, hk.2.1⟩)) hg (.inl rfl)); have n3_ := Aside0.mk (Kd.V_afterv (v := (.slice (some ⟨go116, 0, none⟩) x5_3.length co118)) (v1 := (.slice (some ⟨go116, 0, none⟩) x5_3.length co118)) (ok := (fun k_ => ((P0_1_ k_ ∨ P0_4_ k_) ∨ w.heap.size ≤ k_) ∧ some k_ ≠ (.slice (some ad207) x15_2.length co117 : Value).ownBlock ∧ k_ ≠ gb132)) (by (with_reducible repeat (first | apply Kd.V_alloc | apply Kd.V_drewN | apply Kd.V_drew)); exact Kd.V_mono HO_133004.out (fun _ hk => ⟨⟨hk.1, ⟨hk.2.2.1, hk.2.2.2⟩⟩, hk.2.1⟩)) hg (.inl rfl)); have n4_ := Aside0.mk (blk_grown (g := gb132) (o := .cells #[.int .i64 a0_0, .slice A0_1 l0_1.length c0_1, .int .i64 a0_2, .int .i64 a0_3, .slice A0_4 l0_4.length c0_4] 25 (0, 0)) (by (with_reducible repeat (first | refine blk_drewN ?_ _ | refine blk_drew ?_ | refine blk_alloc ?_ _)); exact BK132.out) hg (Kd.N_ne HO_5.out BK132.out (by decide))); have n5_ := Aside0.mk ((by rw [hw]; exact below_set (HB.out) GB116.out : Below w.heap.size w w120)); clear HO_5; clear HO_15; clear HO_133001; clear HO_133004; clear BK132; clear HB; have HO_5 := n0_; have HO_15 := n1_; have HO_133001 := n2_; have HO_133004 := n3_; have BK132 := n4_; have HB := n5_; clear n0_ n1_ n2_ n3_ n4_ n5_; clear hg hw hp_))
                go_roundg k3
                case measure => have := HK1.out; have := HK2.out; have := HK3.out; omega
                case rel => exact ⟨(y208), (wrap64 (x17_3 + 1)), (by first | rfl | (simp; done) | (simp [*]; done)), H', ⟨by have := HK1.out; have := HK2.out; have := HK3.out; omega⟩, ⟨by (with_reducible repeat (first | apply Kd.N_alloc | apply Kd.N_drewN | apply Kd.N_drew)); exact HO_5.out⟩, ⟨by (with_reducible repeat (first | apply Kd.R_alloc | apply Kd.R_drewN | apply Kd.R_drew)); exact HO_15.out⟩, ⟨by (with_reducible repeat (first | apply Kd.V_alloc | apply Kd.V_drewN | apply Kd.V_drew)); exact Kd.V_mono HO_133001.out (fun _ hk => ⟨hk.1.1, ⟨hk.2, ⟨hk.1.2.1, hk.1.2.2⟩⟩⟩)⟩, ⟨by (with_reducible repeat (first | apply Kd.V_alloc | apply Kd.V_drewN | apply Kd.V_drew)); exact Kd.V_mono HO_133004.out (fun _ hk => ⟨hk.1.1, ⟨hk.2, ⟨hk.1.2.1, hk.1.2.2⟩⟩⟩)⟩, ⟨by (with_reducible repeat (first | refine blk_drewN ?_ _ | refine blk_drew ?_ | refine blk_alloc ?_ _)); exact BK132.out⟩, ⟨by repeat (first | (with_reducible first | exact HB.out | apply below_alloc | apply pw_below_drewN | apply below_drew1 | refine below_set ?_ GE132.out) | exact HB.out)⟩⟩
          rw [if_pos c96] at H
          have c96b0 : decide (x16_2 < a0_3) = true := decide_eq_true c96
          clear c96
          by_cases c97 : x15_2.length < 17592186044416
          rotate_left
          · rw [if_neg c97] at H
            exact absurd H (by simp)
          rw [if_pos c97] at H
          have LMc97 := Aside0.mk c97
          clear c97
          obtain ⟨y194, hy194⟩ : ∃ y_ : List Int, y_ = (x15_2 ++ [(x5_2.length : Int)]) := ⟨_, rfl⟩
          replace H : (if x5_2.length < 2932031007402 then ((some (x5_2 ++ [(⟨2, ([] : List (S42)), wrap64 ((wrap64 (a1 + (x5_2.length : Int))) + 1), 0⟩ : S39)] : List (S39))).bind fun y197 => (if 0 < (l0_4.length : Int) then ((ductusref19_lay.f k2 ((rd_T25 l0_4 0).f0) ((rd_T25 l0_4 0).f1) ((rd_T25 l0_4 0).f2) ((rd_T25 l0_4 0).f3) ((rd_T25 l0_4 0).f4) (wrap64 (a1 + (y197.length : Int)))).bind fun t201 => (if y197.length + t201.length < 2932031007402 then (ductusref19_lay.l4 k2 a1 (y197 ++ t201) y194 (wrap64 (x16_2 + 1)) a0_0 l0_1 a0_2 a0_3 l0_4) else (none))) else (none))) else (none)) = some r := by first | (rw [hy194]; with_reducible exact H) | (have H2_ := (Option.bind_some _ _).symm.trans H; rw [hy194]; with_reducible exact H2_) | (have H2_ := (Option.bind_some _ _).symm.trans H; with_reducible exact H2_) | with_reducible exact H | (rw [hy194]; exact H) | exact H
          have Ny194 := Aside0.mk hy194
          clear hy194
          by_cases c98 : x5_2.length < 2932031007402
          rotate_left
          · rw [if_neg c98] at H
            exact absurd H (by simp)
          rw [if_pos c98] at H
          have LMc98 := Aside0.mk c98
          clear c98
          obtain ⟨y197, hy197⟩ : ∃ y_ : List (S39), y_ = (x5_2 ++ [(⟨2, ([] : List (S42)), wrap64 ((wrap64 (a1 + (x5_2.length : Int))) + 1), 0⟩ : S39)]) := ⟨_, rfl⟩
          replace H : (if 0 < (l0_4.length : Int) then ((ductusref19_lay.f k2 ((rd_T25 l0_4 0).f0) ((rd_T25 l0_4 0).f1) ((rd_T25 l0_4 0).f2) ((rd_T25 l0_4 0).f3) ((rd_T25 l0_4 0).f4) (wrap64 (a1 + (y197.length : Int)))).bind fun t201 => (if y197.length + t201.length < 2932031007402 then (ductusref19_lay.l4 k2 a1 (y197 ++ t201) y194 (wrap64 (x16_2 + 1)) a0_0 l0_1 a0_2 a0_3 l0_4) else (none))) else (none)) = some r := by first | (rw [hy197]; with_reducible exact H) | (have H2_ := (Option.bind_some _ _).symm.trans H; rw [hy197]; with_reducible exact H2_) | (have H2_ := (Option.bind_some _ _).symm.trans H; with_reducible exact H2_) | with_reducible exact H | (rw [hy197]; exact H) | exact H
          have Ny197 := Aside0.mk hy197
          clear hy197
          by_cases c99 : 0 < (l0_4.length : Int)
          rotate_left
          · rw [if_neg c99] at H
            exact absurd H (by simp)
          rw [if_pos c99] at H
          have c99b0 : decide (0 < (l0_4.length : Int)) = true := decide_eq_true c99
          have c99b1 : decide (0 < l0_4.length) = true := decide_eq_true (by omega)
          clear c99
          replace H := Option.bind_eq_some_iff.mp H
          obtain ⟨t201, A1000, H⟩ := H
          replace H : (if y197.length + t201.length < 2932031007402 then (ductusref19_lay.l4 k2 a1 (y197 ++ t201) y194 (wrap64 (x16_2 + 1)) a0_0 l0_1 a0_2 a0_3 l0_4) else (none)) = some r := H
          have A100 := Aside0.mk A1000
          clear A1000
          by_cases c101 : y197.length + t201.length < 2932031007402
          rotate_left
          · rw [if_neg c101] at H
            exact absurd H (by simp)
          rw [if_pos c101] at H
          have LMc101 := Aside0.mk c101
          clear c101
          obtain ⟨y204, hy204⟩ : ∃ y_ : List (S39), y_ = (y197 ++ t201) := ⟨_, rfl⟩
          replace H : (ductusref19_lay.l4 k2 a1 y204 y194 (wrap64 (x16_2 + 1)) a0_0 l0_1 a0_2 a0_3 l0_4) = some r := by first | (rw [hy204]; with_reducible exact H) | (have H2_ := (Option.bind_some _ _).symm.trans H; rw [hy204]; with_reducible exact H2_) | (have H2_ := (Option.bind_some _ _).symm.trans H; with_reducible exact H2_) | with_reducible exact H | (rw [hy204]; exact H) | exact H
          have Ny204 := Aside0.mk hy204
          clear hy204
          have H' := Aside0.mk H
          clear H
          have hcz102_0 : wr.cell? ⟨gb132, 0, none⟩ = some (.int .i64 a0_0) := (blk_cell BK132.out 0).trans rfl
          have hcz102_1 : wr.cell? ⟨gb132, 1, none⟩ = some (.slice A0_1 l0_1.length c0_1) := (blk_cell BK132.out 1).trans rfl
          have hcz102_2 : wr.cell? ⟨gb132, 2, none⟩ = some (.int .i64 a0_2) := (blk_cell BK132.out 2).trans rfl
          have hcz102_3 : wr.cell? ⟨gb132, 3, none⟩ = some (.int .i64 a0_3) := (blk_cell BK132.out 3).trans rfl
          have hcz102_4 : wr.cell? ⟨gb132, 4, none⟩ = some (.slice A0_4 l0_4.length c0_4) := (blk_cell BK132.out 4).trans rfl
          have hfz102_0 := blk_frozen BK132.out 0
          have hfz102_1 := blk_frozen BK132.out 1
          have hfz102_2 := blk_frozen BK132.out 2
          have hfz102_3 := blk_frozen BK132.out 3
          have hfz102_4 := blk_frozen BK132.out 4
          obtain ⟨Ao103, co103, eo103⟩ := Kd.N_slice HO_5.out
          subst eo103
          go_wp2_with (first | ((with_reducible refine gate_builtin (b := .append) (xs := #[.tmp 201, .tmp 204]) rfl ?_); at_builtin; refine Kd.R_append (Kd.int .i64) (w0 := w) w.heap.size rfl (.tmp 201) (.tmp 204) 58 3 (.int .i64 0) 8 rfl Try.underlying58 info3 rfl (by decide) (by omega) u15 x15_2 (x5_2.length : Int) [.int .i64 (x5_2.length : Int)] (fun k_ => (w.heap.size ≤ k_)) (fun _ => False) rfl rfl ?aP (fun _ hk => hk.elim) ?aF ?aO ?aB ?aS ?aL ?_; (case aP => exact rfl); (case aB => exact (by repeat (first | (with_reducible first | exact HB.out | apply below_alloc | apply pw_below_drewN | apply below_drew1 | refine below_set ?_ GE132.out) | exact HB.out))); (case aF => exact (fun k_ hk => (Nat.le_trans (below_size (by repeat (first | (with_reducible first | exact HB.out | apply below_alloc | apply pw_below_drewN | apply below_drew1 | refine below_set ?_ GE132.out) | exact HB.out))) hk))); (case aO => exact (by (with_reducible repeat (first | apply Kd.R_alloc | apply Kd.R_drewN | apply Kd.R_drew)); exact HO_15.out)); (case aS => exact (below_size (by repeat (first | (with_reducible first | exact HB.out | apply below_alloc | apply pw_below_drewN | apply below_drew1 | refine below_set ?_ GE132.out) | exact HB.out)))); (case aL => have := LMc97.out; omega); intro v195 w104 ho hb hg hat; rw [← Ny194.out] at ho; have n0_ := Aside0.mk (Kd.N_afterv (ok := (fun k_ => ((P0_1_ k_ ∨ P0_4_ k_) ∨ w.heap.size ≤ k_) ∧ k_ ≠ gb132)) (by (with_reducible repeat (first | apply Kd.N_alloc | apply Kd.N_drewN | apply Kd.N_drew)); exact Kd.N_mono HO_5.out (fun _ hk => ⟨⟨hk.1, hk.2.2⟩, hk.2.1⟩)) hg hat); have n1_ := Aside0.mk (Kd.V_afterv (ok := (fun k_ => ((P0_1_ k_ ∨ P0_4_ k_) ∨ w.heap.size ≤ k_) ∧ some k_ ≠ (.slice Ao103 x5_2.length co103 : Value).ownBlock ∧ k_ ≠ gb132)) (by (with_reducible repeat (first | apply Kd.V_alloc | apply Kd.V_drewN | apply Kd.V_drew)); exact Kd.V_mono HO_133001.out (fun _ hk => ⟨⟨hk.1, ⟨hk.2.1, hk.2.2.2⟩⟩, hk.2.2.1⟩)) hg hat); have n2_ := Aside0.mk (Kd.V_afterv (ok := (fun k_ => ((P0_1_ k_ ∨ P0_4_ k_) ∨ w.heap.size ≤ k_) ∧ some k_ ≠ (.slice Ao103 x5_2.length co103 : Value).ownBlock ∧ k_ ≠ gb132)) (by (with_reducible repeat (first | apply Kd.V_alloc | apply Kd.V_drewN | apply Kd.V_drew)); exact Kd.V_mono HO_133004.out (fun _ hk => ⟨⟨hk.1, ⟨hk.2.1, hk.2.2.2⟩⟩, hk.2.2.1⟩)) hg hat); have n3_ := Aside0.mk (blk_grown (g := gb132) (o := .cells #[.int .i64 a0_0, .slice A0_1 l0_1.length c0_1, .int .i64 a0_2, .int .i64 a0_3, .slice A0_4 l0_4.length c0_4] 25 (0, 0)) (by (with_reducible repeat (first | refine blk_drewN ?_ _ | refine blk_drew ?_ | refine blk_alloc ?_ _)); exact BK132.out) hg (Kd.R_ne HO_15.out BK132.out (by decide))); have n4_ := Aside0.mk (hb); have n5_ := Aside0.mk (ho); clear HO_5; clear HO_133001; clear HO_133004; clear BK132; clear HB; clear HO_15; have HO_5 := n0_; have HO_133001 := n1_; have HO_133004 := n2_; have BK132 := n3_; have HB := n4_; have HO196 := n5_; clear n0_ n1_ n2_ n3_ n4_ n5_; clear ho hb hg hat) | ((with_reducible refine gate_builtin (b := .append) (xs := #[.tmp 206, .tmp 213]) rfl ?_); at_builtin; refine Kd.N_append k39 (w0 := w) w.heap.size rfl (.tmp 206) (.tmp 213) 29 39 (.agg #[(.int .i64 0), (.slice none 0 0), (.int .i64 0), (.int .i64 0)]) 48 rfl Try.underlying29 info39 rfl (by decide) (by omega) (.slice Ao103 x5_2.length co103) x5_2 (⟨2, ([] : List (S42)), wrap64 ((wrap64 (a1 + (x5_2.length : Int))) + 1), 0⟩ : S39) [.int .i64 2, .slice none 0 0, .int .i64 (wrap64 ((wrap64 (a1 + (x5_2.length : Int))) + 1)), .int .i64 0] (fun k_ => ((P0_1_ k_ ∨ P0_4_ k_) ∨ w.heap.size ≤ k_) ∧ some k_ ≠ (v195 : Value).ownBlock ∧ k_ ≠ gb132) (fun k_ => ((fun k_ => ((P0_1_ k_ ∨ P0_4_ k_) ∨ w.heap.size ≤ k_) ∧ some k_ ≠ (v195 : Value).ownBlock ∧ k_ ≠ gb132)) k_ ∧ some k_ ≠ (.slice Ao103 x5_2.length co103 : Value).ownBlock) rfl rfl ?aP (fun _ hk => hk) ?aF ?aO ?aB ?aS ?aL ?_; (case aP => exact (k39_mkF _ _ (⟨2, ([] : List (S42)), wrap64 ((wrap64 (a1 + (x5_2.length : Int))) + 1), 0⟩ : S39) (Nat.le_refl _) (Kd.F_nil _ _ _))); (case aB => exact (by repeat (first | (with_reducible first | exact HB.out | apply below_alloc | apply pw_below_drewN | apply below_drew1 | refine below_set ?_ GE132.out) | exact HB.out))); (case aF => exact (fun k_ hk => ⟨(.inr (Nat.le_trans (below_size (by repeat (first | (with_reducible first | exact HB.out | apply below_alloc | apply pw_below_drewN | apply below_drew1 | refine below_set ?_ GE132.out) | exact HB.out))) hk)), Kd.fresh' (Kd.R_lt (by (with_reducible repeat (first | apply Kd.R_alloc | apply Kd.R_drewN | apply Kd.R_drew)); exact HO196.out)) k_ hk, Kd.freshB (g := gb132) (o := .cells #[.int .i64 a0_0, .slice A0_1 l0_1.length c0_1, .int .i64 a0_2, .int .i64 a0_3, .slice A0_4 l0_4.length c0_4] 25 (0, 0)) (by (with_reducible repeat (first | refine blk_drewN ?_ _ | refine blk_drew ?_ | refine blk_alloc ?_ _)); exact BK132.out) k_ hk⟩)); (case aO => exact (by (with_reducible repeat (first | apply Kd.N_alloc | apply Kd.N_drewN | apply Kd.N_drew)); exact Kd.N_mono HO_5.out (fun _ hk => ⟨hk.1.1, ⟨hk.2, hk.1.2⟩⟩))); (case aS => exact (below_size (by repeat (first | (with_reducible first | exact HB.out | apply below_alloc | apply pw_below_drewN | apply below_drew1 | refine below_set ?_ GE132.out) | exact HB.out)))); (case aL => have := LMc98.out; omega); intro v198 w105 ho hb hg hat; rw [← Ny197.out] at ho; have n0_ := Aside0.mk (Kd.V_afterv (ok := (fun k_ => ((P0_1_ k_ ∨ P0_4_ k_) ∨ w.heap.size ≤ k_) ∧ some k_ ≠ (v195 : Value).ownBlock ∧ k_ ≠ gb132)) (by (with_reducible repeat (first | apply Kd.V_alloc | apply Kd.V_drewN | apply Kd.V_drew)); exact Kd.V_mono HO_133001.out (fun _ hk => ⟨⟨hk.1.1, ⟨hk.2, hk.1.2.2⟩⟩, hk.1.2.1⟩)) hg hat); have n1_ := Aside0.mk (Kd.V_afterv (ok := (fun k_ => ((P0_1_ k_ ∨ P0_4_ k_) ∨ w.heap.size ≤ k_) ∧ some k_ ≠ (v195 : Value).ownBlock ∧ k_ ≠ gb132)) (by (with_reducible repeat (first | apply Kd.V_alloc | apply Kd.V_drewN | apply Kd.V_drew)); exact Kd.V_mono HO_133004.out (fun _ hk => ⟨⟨hk.1.1, ⟨hk.2, hk.1.2.2⟩⟩, hk.1.2.1⟩)) hg hat); have n2_ := Aside0.mk (blk_grown (g := gb132) (o := .cells #[.int .i64 a0_0, .slice A0_1 l0_1.length c0_1, .int .i64 a0_2, .int .i64 a0_3, .slice A0_4 l0_4.length c0_4] 25 (0, 0)) (by (with_reducible repeat (first | refine blk_drewN ?_ _ | refine blk_drew ?_ | refine blk_alloc ?_ _)); exact BK132.out) hg (Kd.N_ne HO_5.out BK132.out (by decide))); have n3_ := Aside0.mk (Kd.R_over' (by (with_reducible repeat (first | apply Kd.R_alloc | apply Kd.R_drewN | apply Kd.R_drew)); exact HO196.out) (Kd.N_typed (by (with_reducible repeat (first | apply Kd.N_alloc | apply Kd.N_drewN | apply Kd.N_drew)); exact HO_5.out)) (by decide) hg); have n4_ := Aside0.mk (hb); have n5_ := Aside0.mk (ho); clear HO_133001; clear HO_133004; clear BK132; clear HO196; clear HB; clear HO_5; have HO_133001 := n0_; have HO_133004 := n1_; have BK132 := n2_; have HO196 := n3_; have HB := n4_; have HO199 := n5_; clear n0_ n1_ n2_ n3_ n4_ n5_; clear ho hb hg hat; have hcz106_0 : w105.cell? ⟨gb132, 0, none⟩ = some (.int .i64 a0_0) := (blk_cell BK132.out 0).trans rfl; have hcz106_1 : w105.cell? ⟨gb132, 1, none⟩ = some (.slice A0_1 l0_1.length c0_1) := (blk_cell BK132.out 1).trans rfl; have hcz106_2 : w105.cell? ⟨gb132, 2, none⟩ = some (.int .i64 a0_2) := (blk_cell BK132.out 2).trans rfl; have hcz106_3 : w105.cell? ⟨gb132, 3, none⟩ = some (.int .i64 a0_3) := (blk_cell BK132.out 3).trans rfl; have hcz106_4 : w105.cell? ⟨gb132, 4, none⟩ = some (.slice A0_4 l0_4.length c0_4) := (blk_cell BK132.out 4).trans rfl; have hfz106_0 := blk_frozen BK132.out 0; have hfz106_1 := blk_frozen BK132.out 1; have hfz106_2 := blk_frozen BK132.out 2; have hfz106_3 := blk_frozen BK132.out 3; have hfz106_4 := blk_frozen BK132.out 4; have p200 : 0 ≤ (0 : Int) := (by omega); have q200 : 0 < (l0_4.length : Int) := of_decide_eq_true (by first | (with_reducible assumption) | assumption); obtain ⟨ad200, A200_1, c200_1, A200_4, c200_4, e200, hx200_0, hx200_1, hx200_2, hx200_3, hx200_4, hl200_1, hi200_1, hl200_4, hi200_4⟩ := at_T25 (Kd.V_reads' HO_133004.out).2.2 0 p200 q200; cases e200; obtain ⟨ce200, hce200, hMe200, hcc200⟩ := Kd.V_get HO_133004.out z25 0 p200 (by first | exact q200 | exact of_decide_eq_true (by first | (with_reducible assumption) | assumption) | (have e_ := (Kd.V_reads' HO_133004.out).1; omega)); obtain ⟨ua200_1, uc200_1, ua200_4, uc200_4, rfl, ul200_1, ge200_1, ul200_4, ge200_4⟩ := k25_openF hMe200; have hv200_1 := hcc200 1 _ rfl; rw [add_field _ _ 1 (by omega)] at hv200_1; replace hv200_1 := Option.some.inj (hv200_1.symm.trans hx200_1); injection hv200_1 with hva_ hvn_ hvc_; rw [hva_] at ge200_1; rw [hvc_] at ul200_1; have HL200_1 := Aside0.mk (show Kd.V k42 42 _ w.heap.size _ _ ((rd_T25 l0_4 0).f1) from Kd.V_mk ul200_1 ge200_1); clear hva_ hvn_ hvc_ ge200_1 ul200_1; have hv200_4 := hcc200 4 _ rfl; rw [add_field _ _ 4 (by omega)] at hv200_4; replace hv200_4 := Option.some.inj (hv200_4.symm.trans hx200_4); injection hv200_4 with hva_ hvn_ hvc_; rw [hva_] at ge200_4; rw [hvc_] at ul200_4; have HL200_4 := Aside0.mk (show Kd.V k25 25 _ w.heap.size _ _ ((rd_T25 l0_4 0).f4) from Kd.V_mk ul200_4 ge200_4); clear hva_ hvn_ hvc_ ge200_4 ul200_4; clear hcc200 hce200; have qi200 : (0 < l0_4.length) = True := eq_true (by omega); (try rw [show ((0 : Int)).toNat = 0 from rfl] at hx200_0); (try rw [show 0 * 5 = 0 from rfl] at hx200_0); (try rw [Addr.add_zero'] at hx200_0); (try rw [show ((0 : Int)).toNat = 0 from rfl] at hx200_1); (try rw [show 0 * 5 = 0 from rfl] at hx200_1); (try rw [Addr.add_zero'] at hx200_1); (try rw [show ((0 : Int)).toNat = 0 from rfl] at hx200_2); (try rw [show 0 * 5 = 0 from rfl] at hx200_2); (try rw [Addr.add_zero'] at hx200_2); (try rw [show ((0 : Int)).toNat = 0 from rfl] at hx200_3); (try rw [show 0 * 5 = 0 from rfl] at hx200_3); (try rw [Addr.add_zero'] at hx200_3); (try rw [show ((0 : Int)).toNat = 0 from rfl] at hx200_4); (try rw [show 0 * 5 = 0 from rfl] at hx200_4); (try rw [Addr.add_zero'] at hx200_4); have HR200_1 := Aside0.mk hi200_1; have HC200_1 := Aside0.mk hl200_1; clear hi200_1 hl200_1; have HR200_4 := Aside0.mk hi200_4; have HC200_4 := Aside0.mk hl200_4; clear hi200_4 hl200_4; replace p200 := eq_true p200; replace q200 := eq_true q200; obtain ⟨Ao107, co107, eo107⟩ := Kd.N_slice HO199.out; subst eo107) | ((with_reducible refine gate_callee (f := 23) rfl ?_); refine goesL_ (some 224) rfl rfl Try.func23 (by kernel_rfl) rfl #[.agg #[.int .i64 ((rd_T25 l0_4 0).f0), .slice A200_1 ((rd_T25 l0_4 0).f1).length c200_1, .int .i64 ((rd_T25 l0_4 0).f2), .int .i64 ((rd_T25 l0_4 0).f3), .slice A200_4 ((rd_T25 l0_4 0).f4).length c200_4], .int .i64 (wrap64 (a1 + (y197.length : Int)))] rfl (by (try simp only [List.map_toArray, List.map_cons, List.map_nil]); first | done | rfl | (simp only [List.length_drop, List.length_take]; rfl)) ?_; (with_reducible refine (ih k2 (by have := HK1.out; have := HK2.out; omega) ((rd_T25 l0_4 0).f0) (fun k_ => ((((P0_1_ k_ ∨ P0_4_ k_) ∨ w.heap.size ≤ k_) ∧ (some k_ ≠ (v195 : Value).ownBlock ∧ k_ ≠ gb132)) ∧ some k_ ≠ (.slice Ao107 y197.length co107 : Value).ownBlock)) _ _ ((rd_T25 l0_4 0).f1) ((rd_T25 l0_4 0).f2) ((rd_T25 l0_4 0).f3) (fun k_ => ((((P0_1_ k_ ∨ P0_4_ k_) ∨ w.heap.size ≤ k_) ∧ (some k_ ≠ (v195 : Value).ownBlock ∧ k_ ≠ gb132)) ∧ some k_ ≠ (.slice Ao107 y197.length co107 : Value).ownBlock)) _ _ ((rd_T25 l0_4 0).f4) (wrap64 (a1 + (y197.length : Int))) t201 _ ?side1 ?side2 A100.out).mono ?_); (case side1 => exact HL200_1.out); (case side2 => exact HL200_4.out); rintro e w108 ⟨v202, rfl, ho0, hb⟩; refine ⟨_, rfl, ?_⟩; have n0_ := Aside0.mk (Kd.V_elder' (by (with_reducible repeat (first | apply Kd.V_alloc | apply Kd.V_drewN | apply Kd.V_drew)); exact HO_133001.out) (Kd.N_base ho0) hb); have n1_ := Aside0.mk (Kd.V_elder' (by (with_reducible repeat (first | apply Kd.V_alloc | apply Kd.V_drewN | apply Kd.V_drew)); exact HO_133004.out) (Kd.N_base ho0) hb); have n2_ := Aside0.mk (Kd.R_below (by (with_reducible repeat (first | apply Kd.R_alloc | apply Kd.R_drewN | apply Kd.R_drew)); exact HO196.out) hb); have n3_ := Aside0.mk (Kd.N_elder' (by (with_reducible repeat (first | apply Kd.N_alloc | apply Kd.N_drewN | apply Kd.N_drew)); exact HO199.out) (Kd.N_base ho0) hb); have n4_ := Aside0.mk (Kd.V_elder' (by (with_reducible repeat (first | apply Kd.V_alloc | apply Kd.V_drewN | apply Kd.V_drew)); exact HL200_1.out) (Kd.N_base ho0) hb); have n5_ := Aside0.mk (Kd.V_elder' (by (with_reducible repeat (first | apply Kd.V_alloc | apply Kd.V_drewN | apply Kd.V_drew)); exact HL200_4.out) (Kd.N_base ho0) hb); have n6_ := Aside0.mk (Kd.N_lower (Kd.N_mono (ok' := fun k_ => ((P0_1_ k_ ∨ P0_4_ k_) ∨ w.heap.size ≤ k_) ∧ some k_ ≠ (v195 : Value).ownBlock ∧ some k_ ≠ (.slice Ao107 y197.length co107 : Value).ownBlock ∧ k_ ≠ gb132) ho0 (fun k_ hk_ => ⟨Or.elim hk_ (fun hs_ => Or.elim hs_ (fun hs_ => hs_.1.1) (fun hs_ => hs_.1.1)) (fun hn_ => (.inr (Nat.le_trans (below_size (by repeat (first | (with_reducible first | exact HB.out | apply below_alloc | apply pw_below_drewN | apply below_drew1 | refine below_set ?_ GE132.out) | exact HB.out))) hn_))), Or.elim hk_ (fun hs_ => Or.elim hs_ (fun hs_ => hs_.1.2.1) (fun hs_ => hs_.1.2.1)) (fun hn_ => (Kd.fresh' (Kd.R_lt (by (with_reducible repeat (first | apply Kd.R_alloc | apply Kd.R_drewN | apply Kd.R_drew)); exact HO196.out)) k_ hn_)), Or.elim hk_ (fun hs_ => Or.elim hs_ (fun hs_ => hs_.2) (fun hs_ => hs_.2)) (fun hn_ => (Kd.fresh' (Kd.N_lt (by (with_reducible repeat (first | apply Kd.N_alloc | apply Kd.N_drewN | apply Kd.N_drew)); exact HO199.out)) k_ hn_)), Or.elim hk_ (fun hs_ => Or.elim hs_ (fun hs_ => hs_.1.2.2) (fun hs_ => hs_.1.2.2)) (fun hn_ => (Kd.freshB (g := gb132) (o := .cells #[.int .i64 a0_0, .slice A0_1 l0_1.length c0_1, .int .i64 a0_2, .int .i64 a0_3, .slice (some ad200) l0_4.length c0_4] 25 (0, 0)) (by (with_reducible repeat (first | refine blk_drewN ?_ _ | refine blk_drew ?_ | refine blk_alloc ?_ _)); exact BK132.out) k_ hn_))⟩)) (below_size (by repeat (first | (with_reducible first | exact HB.out | apply below_alloc | apply pw_below_drewN | apply below_drew1 | refine below_set ?_ GE132.out) | exact HB.out)))); have n7_ := Aside0.mk (blk_below (g := gb132) (o := .cells #[.int .i64 a0_0, .slice A0_1 l0_1.length c0_1, .int .i64 a0_2, .int .i64 a0_3, .slice (some ad200) l0_4.length c0_4] 25 (0, 0)) (by (with_reducible repeat (first | refine blk_drewN ?_ _ | refine blk_drew ?_ | refine blk_alloc ?_ _)); exact BK132.out) hb); have n8_ := Aside0.mk (Kd.C_below (by repeat (first | (with_reducible exact HR200_1.out) | (with_reducible refine Kd.C_alloc ?_ _) | (with_reducible refine Kd.C_drewN ?_ _) | (with_reducible refine Kd.C_drew ?_) | exact HR200_1.out)) hb); have n9_ := Aside0.mk (Kd.C_below (by repeat (first | (with_reducible exact HR200_4.out) | (with_reducible refine Kd.C_alloc ?_ _) | (with_reducible refine Kd.C_drewN ?_ _) | (with_reducible refine Kd.C_drew ?_) | exact HR200_4.out)) hb); have n10_ := Aside0.mk (below_step (by repeat (first | (with_reducible first | exact HB.out | apply below_alloc | apply pw_below_drewN | apply below_drew1 | refine below_set ?_ GE132.out) | exact HB.out)) hb); clear HO_133001; clear HO_133004; clear HO196; clear HO199; clear HL200_1; clear HL200_4; clear BK132; clear HR200_1; clear HR200_4; clear HB; have HO_133001 := n0_; have HO_133004 := n1_; have HO196 := n2_; have HO199 := n3_; have HL200_1 := n4_; have HL200_4 := n5_; have HO203 := n6_; have BK132 := n7_; have HR200_1 := n8_; have HR200_4 := n9_; have HB := n10_; clear n0_ n1_ n2_ n3_ n4_ n5_ n6_ n7_ n8_ n9_ n10_; (try clear hb); (try clear hb2); (try clear hk); (try clear hi); (try clear ho0); obtain ⟨Ao110, co110, eo110⟩ := Kd.N_slice HO203.out; subst eo110) | ((with_reducible refine gate_builtin (b := .append) (xs := #[.tmp 215, .tmp 224]) rfl ?_); at_builtin; refine Kd.N_append_rows k39 (w0 := w) w.heap.size rfl (.tmp 215) (.tmp 224) 29 39 (.agg #[(.int .i64 0), (.slice none 0 0), (.int .i64 0), (.int .i64 0)]) 48 rfl Try.underlying29 info39 rfl (by decide) (by omega) (.slice Ao107 y197.length co107) y197 t201 _ _ _ (fun k_ => ((P0_1_ k_ ∨ P0_4_ k_) ∨ w.heap.size ≤ k_) ∧ some k_ ≠ (v195 : Value).ownBlock ∧ k_ ≠ gb132) (fun k_ => ((fun k_ => ((P0_1_ k_ ∨ P0_4_ k_) ∨ w.heap.size ≤ k_) ∧ some k_ ≠ (v195 : Value).ownBlock ∧ k_ ≠ gb132)) k_ ∧ some k_ ≠ (.slice Ao107 y197.length co107 : Value).ownBlock) rfl rfl ?aO ?aR (fun _ hk => hk) ?aF ?aB ?aS ?aL ?_; (case aR => exact (by skip; exact Kd.N_F (Kd.N_mono (ok' := (fun k_ => ((fun k_ => ((P0_1_ k_ ∨ P0_4_ k_) ∨ w.heap.size ≤ k_) ∧ some k_ ≠ (v195 : Value).ownBlock ∧ k_ ≠ gb132)) k_ ∧ some k_ ≠ (.slice Ao107 y197.length co107 : Value).ownBlock)) (HO203.out) (fun k_ hk => ⟨⟨hk.1, ⟨hk.2.1, hk.2.2.2⟩⟩, hk.2.2.1⟩)))); (case aB => exact (by repeat (first | (with_reducible first | exact HB.out | apply below_alloc | apply pw_below_drewN | apply below_drew1 | refine below_set ?_ GE132.out) | exact HB.out))); (case aF => exact (fun k_ hk => ⟨(.inr (Nat.le_trans (below_size (by repeat (first | (with_reducible first | exact HB.out | apply below_alloc | apply pw_below_drewN | apply below_drew1 | refine below_set ?_ GE132.out) | exact HB.out))) hk)), Kd.fresh' (Kd.R_lt (by (with_reducible repeat (first | apply Kd.R_alloc | apply Kd.R_drewN | apply Kd.R_drew)); exact HO196.out)) k_ hk, Kd.freshB (g := gb132) (o := .cells #[.int .i64 a0_0, .slice A0_1 l0_1.length c0_1, .int .i64 a0_2, .int .i64 a0_3, .slice (some ad200) l0_4.length c0_4] 25 (0, 0)) (by (with_reducible repeat (first | refine blk_drewN ?_ _ | refine blk_drew ?_ | refine blk_alloc ?_ _)); exact BK132.out) k_ hk⟩)); (case aO => exact (by (with_reducible repeat (first | apply Kd.N_alloc | apply Kd.N_drewN | apply Kd.N_drew)); exact Kd.N_mono HO199.out (fun _ hk => ⟨hk.1.1, ⟨hk.1.2.1, hk.1.2.2⟩⟩))); (case aS => exact (below_size (by repeat (first | (with_reducible first | exact HB.out | apply below_alloc | apply pw_below_drewN | apply below_drew1 | refine below_set ?_ GE132.out) | exact HB.out)))); (case aL => have := LMc101.out; omega); intro v205 w109 ho hb hg hat; rw [← Ny204.out] at ho; have n0_ := Aside0.mk (Kd.V_afterv (ok := (fun k_ => ((P0_1_ k_ ∨ P0_4_ k_) ∨ w.heap.size ≤ k_) ∧ some k_ ≠ (v195 : Value).ownBlock ∧ some k_ ≠ (.slice Ao110 t201.length co110 : Value).ownBlock ∧ k_ ≠ gb132)) (by (with_reducible repeat (first | apply Kd.V_alloc | apply Kd.V_drewN | apply Kd.V_drew)); exact Kd.V_mono HO_133001.out (fun _ hk => ⟨⟨hk.1.1.1, ⟨hk.1.1.2.1, ⟨hk.2, hk.1.1.2.2⟩⟩⟩, hk.1.2⟩)) hg hat); have n1_ := Aside0.mk (Kd.V_afterv (ok := (fun k_ => ((P0_1_ k_ ∨ P0_4_ k_) ∨ w.heap.size ≤ k_) ∧ some k_ ≠ (v195 : Value).ownBlock ∧ some k_ ≠ (.slice Ao110 t201.length co110 : Value).ownBlock ∧ k_ ≠ gb132)) (by (with_reducible repeat (first | apply Kd.V_alloc | apply Kd.V_drewN | apply Kd.V_drew)); exact Kd.V_mono HO_133004.out (fun _ hk => ⟨⟨hk.1.1.1, ⟨hk.1.1.2.1, ⟨hk.2, hk.1.1.2.2⟩⟩⟩, hk.1.2⟩)) hg hat); have n2_ := Aside0.mk (blk_grown (g := gb132) (o := .cells #[.int .i64 a0_0, .slice A0_1 l0_1.length c0_1, .int .i64 a0_2, .int .i64 a0_3, .slice (some ad200) l0_4.length c0_4] 25 (0, 0)) (by (with_reducible repeat (first | refine blk_drewN ?_ _ | refine blk_drew ?_ | refine blk_alloc ?_ _)); exact BK132.out) hg (Kd.N_ne HO199.out BK132.out (by decide))); have n3_ := Aside0.mk (Kd.R_over' (by (with_reducible repeat (first | apply Kd.R_alloc | apply Kd.R_drewN | apply Kd.R_drew)); exact HO196.out) (Kd.N_typed (by (with_reducible repeat (first | apply Kd.N_alloc | apply Kd.N_drewN | apply Kd.N_drew)); exact HO199.out)) (by decide) hg); have n4_ := Aside0.mk (Kd.V_afterv (ok := (fun k_ => ((P0_1_ k_ ∨ P0_4_ k_) ∨ w.heap.size ≤ k_) ∧ some k_ ≠ (v195 : Value).ownBlock ∧ some k_ ≠ (.slice Ao110 t201.length co110 : Value).ownBlock ∧ k_ ≠ gb132)) (by (with_reducible repeat (first | apply Kd.V_alloc | apply Kd.V_drewN | apply Kd.V_drew)); exact Kd.V_mono HL200_1.out (fun _ hk => ⟨⟨hk.1.1.1, ⟨hk.1.1.2.1, ⟨hk.2, hk.1.1.2.2⟩⟩⟩, hk.1.2⟩)) hg hat); have n5_ := Aside0.mk (Kd.V_afterv (ok := (fun k_ => ((P0_1_ k_ ∨ P0_4_ k_) ∨ w.heap.size ≤ k_) ∧ some k_ ≠ (v195 : Value).ownBlock ∧ some k_ ≠ (.slice Ao110 t201.length co110 : Value).ownBlock ∧ k_ ≠ gb132)) (by (with_reducible repeat (first | apply Kd.V_alloc | apply Kd.V_drewN | apply Kd.V_drew)); exact Kd.V_mono HL200_4.out (fun _ hk => ⟨⟨hk.1.1.1, ⟨hk.1.1.2.1, ⟨hk.2, hk.1.1.2.2⟩⟩⟩, hk.1.2⟩)) hg hat); have n6_ := Aside0.mk (Kd.N_afterv (ok := (fun k_ => ((P0_1_ k_ ∨ P0_4_ k_) ∨ w.heap.size ≤ k_) ∧ some k_ ≠ (v195 : Value).ownBlock ∧ k_ ≠ gb132)) (by (with_reducible repeat (first | apply Kd.N_alloc | apply Kd.N_drewN | apply Kd.N_drew)); exact Kd.N_mono HO203.out (fun _ hk => ⟨⟨hk.1, ⟨hk.2.1, hk.2.2.2⟩⟩, hk.2.2.1⟩)) hg hat); have n7_ := Aside0.mk (hb); have n8_ := Aside0.mk (ho); clear HO_133001; clear HO_133004; clear BK132; clear HO196; clear HL200_1; clear HL200_4; clear HO203; clear HB; clear HO199; have HO_133001 := n0_; have HO_133004 := n1_; have BK132 := n2_; have HO196 := n3_; have HL200_1 := n4_; have HL200_4 := n5_; have HO203 := n6_; have HB := n7_; have HO206 := n8_; clear n0_ n1_ n2_ n3_ n4_ n5_ n6_ n7_ n8_; clear ho hb hg hat))
          go_roundg k2
          case measure => have := HK1.out; have := HK2.out; omega
          case rel => exact ⟨(y204), (y194), (wrap64 (x16_2 + 1)), (by first | rfl | (simp; done) | (simp [*]; done)), H', ⟨by have := HK1.out; have := HK2.out; omega⟩, ⟨by (with_reducible repeat (first | apply Kd.N_alloc | apply Kd.N_drewN | apply Kd.N_drew)); exact HO206.out⟩, ⟨by (with_reducible repeat (first | apply Kd.R_alloc | apply Kd.R_drewN | apply Kd.R_drew)); exact HO196.out⟩, ⟨by (with_reducible repeat (first | apply Kd.V_alloc | apply Kd.V_drewN | apply Kd.V_drew)); exact Kd.V_mono HO_133001.out (fun _ hk => ⟨hk.1.1, ⟨hk.2, ⟨hk.1.2.1, hk.1.2.2.2⟩⟩⟩)⟩, ⟨by (with_reducible repeat (first | apply Kd.V_alloc | apply Kd.V_drewN | apply Kd.V_drew)); exact Kd.V_mono HO_133004.out (fun _ hk => ⟨hk.1.1, ⟨hk.2, ⟨hk.1.2.1, hk.1.2.2.2⟩⟩⟩)⟩, ⟨by (with_reducible repeat (first | refine blk_drewN ?_ _ | refine blk_drew ?_ | refine blk_alloc ?_ _)); exact BK132.out⟩, ⟨by repeat (first | (with_reducible first | exact HB.out | apply below_alloc | apply pw_below_drewN | apply below_drew1 | refine below_set ?_ GE132.out) | exact HB.out)⟩⟩

end Go.Proofs.Ytbbplchdgedhcaa.P
