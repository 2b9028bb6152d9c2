/- Texts of this claim put together by a program of its own (SSize, Px5, Px9), what the law does not use left out: each part's statements bear their own conditions. -/
import Derived.Test.YtbbplchdgedhcaaC10
import Derived.Test.YtbbplchdgedhcaaC11
namespace Go.Proofs.Ytbbplchdgedhcaa.P
open Go.RowKit Go.Proofs.YtbbplchdgedhcaaW.PrintWords Go.Proofs.YtbbplchdgedhcaaW.PrintLast Go.Proofs.YtbbplchdgedhcaaW.PrintMore
set_option linter.unusedVariables false
set_option linter.unusedSimpArgs false

theorem max2_mx (k k' : IntKind) (x y : Int) : Builtin.max2 (.int k x) (.int k' y) = pure (.int k (mx x y)) := max2_int k k' x y
theorem min2_mn (k k' : IntKind) (x y : Int) : Builtin.min2 (.int k x) (.int k' y) = pure (.int k (mn x y)) := min2_int k k' x y
attribute [local go_sem] max2_mx min2_mn max_two min_two
def multT (f0 f2 f3 : Int) : Int := mn (if f0 = 5 then (if f3 < 0 then mx 1 (mn f2 1000000 + 1) else mx 1 f3) else 1) 1000000
def sizesC (f : S25 → Option Int) (t : Int) : List S25 → Int → Option Int
  | [], s => some s
  | x :: l, s => (f x).bind fun v => if 1 ≤ v ∧ v ≤ 1000000 ∧ 1 ≤ s ∧ s ≤ 1000000 then sizesC f t l (mn 1000000 (s + t * v)) else none
def sizeC : Nat → S25 → Option Int
  | 0, _ => none
  | k + 1, x => if -9223372036854775808 ≤ x.f2 then sizesC (sizeC k) (multT x.f0 x.f2 x.f3) x.f4 1 else none
theorem multT_le (f0 f2 f3 : Int) : 1 ≤ multT f0 f2 f3 ∧ multT f0 f2 f3 ≤ 1000000 := by
  unfold multT
  unfold mn mx
  repeat' split
  all_goals omega
theorem mn_rng (a b : Int) : mn a b ≤ a ∧ mn a b ≤ b := by unfold mn; split <;> omega
def ductusref16_Size.f (k : Nat) (a0_0 : Int) (l0_1 : List (S42)) (a0_2 : Int) (a0_3 : Int) (l0_4 : List (S25)) : Option Int := sizeC k ⟨a0_0, l0_1, a0_2, a0_3, l0_4⟩
abbrev SizeN (f : S25 → Option Int) : Prop := ∀ (x : S25) (v : Value) (r : Int) (w : World), NodeAt w x v → f x = some r → Calls Try.prog 9 #[v] w fun e w' => e = .returned (.int .i64 r) ∧ Below w.heap.size w w'
set_option maxHeartbeats 8000000 in
set_option maxRecDepth 100000 in
theorem size_step (f : S25 → Option Int) (ih : SizeN f) (f0 : Int) (A1 : Option Addr) (n1 c1 : Nat) (f2 f3 : Int) (A4 : Option Addr) (c4 : Nat) (l : List S25) (r : Int) (wo : World) (hc : k25.C wo A4 l.length l) (hf2 : -9223372036854775808 ≤ f2) (h : sizesC f (multT f0 f2 f3) l 1 = some r) :
    Calls Try.prog 9 #[.agg #[.int .i64 f0, .slice A1 n1 c1, .int .i64 f2, .int .i64 f3, .slice A4 l.length c4]] wo fun e w' => e = .returned (.int .i64 r) ∧ Below wo.heap.size wo w' := by
  have hu := Try.underlying25
  obtain ⟨T, hT⟩ : ∃ T, multT f0 f2 f3 = T := ⟨_, rfl⟩
  have hT1 := multT_le f0 f2 f3
  rw [hT] at h hT1
  have HC := Aside0.mk hc
  have HN := Aside0.mk (Kd.C_max hc)
  have HX := Aside0.mk (heap_alloc_new wo (.cells #[.int .i64 f0, .slice A1 n1 c1, .int .i64 f2, .int .i64 f3, .slice A4 l.length c4] 25))
  have HB := Aside0.mk (below_alloc (Below.refl wo.heap.size wo) (.cells #[.int .i64 f0, .slice A1 n1 c1, .int .i64 f2, .int .i64 f3, .slice A4 l.length c4] 25))
  have HH := Aside0.mk h
  have HT := Aside0.mk hT
  have HT1 := Aside0.mk hT1
  have HF2 := Aside0.mk hf2
  clear hc h hT hT1 hf2
  go_enter Try.func9, Try.ntmps9
  go_wp2
  go_loopw [3, 4] (fun s3 s4 wx => ∃ (i : Nat) (s : Int), s3 = .int .i64 s ∧ s4 = .int .i64 (i : Int) ∧ i ≤ l.length ∧ Aside0 (sizesC f T (l.drop i) s = some r) ∧ Aside0 (wx.heap[wo.heap.size]? = some (.cells #[.int .i64 f0, .slice A1 n1 c1, .int .i64 f2, .int .i64 f3, .slice A4 l.length c4] 25 (0, 0))) ∧ Aside0 (Below wo.heap.size wo wx)) (fun _ s4 _ => l.length - (intOf s4).toNat)
  case atStart => exact ⟨0, 1, rfl, rfl, by omega, by simpa using HH, HX, HB⟩
  case round =>
    clear HH HX HB
    obtain ⟨i, s, rfl, rfl, hi, HH, HX, HB⟩ := hrel
    have y0 : wr.cell? ⟨wo.heap.size, 0, none⟩ = some (.int .i64 f0) := blk_cell HX.out 0
    have y2 : wr.cell? ⟨wo.heap.size, 2, none⟩ = some (.int .i64 f2) := blk_cell HX.out 2
    have y3 : wr.cell? ⟨wo.heap.size, 3, none⟩ = some (.int .i64 f3) := blk_cell HX.out 3
    have y4 : wr.cell? ⟨wo.heap.size, 4, none⟩ = some (.slice A4 l.length c4) := blk_cell HX.out 4
    by_cases hlt : i < l.length
    · obtain ⟨ad, B1, d1, B4, d4, e, h0, h1, h2, h3, h4, q1, q2, q3, q4⟩ := at_T25 (Kd.C_below HC.out HB.out) (i : Int) (by omega) (by omega)
      cases e
      rw [Int.toNat_natCast] at h0 h1 h2 h3 h4
      have hx : rd_T25 l (i : Int) = l.getD i z25 := rfl
      have hh := HH.out
      rw [sn_drop z25 l i hlt] at hh
      rw [hx] at h0 h1 h2 h3 h4 q1 q2 q3 q4
      obtain ⟨x, hxx⟩ : ∃ x, l.getD i z25 = x := ⟨_, rfl⟩
      rw [hxx] at h0 h1 h2 h3 h4 q1 q2 q3 q4 hh
      have hNA : NodeAt wr x _ := ⟨B1, d1, B4, d4, rfl, q1, q2, q3, q4⟩
      simp only [sizesC] at hh
      obtain ⟨v, hv, hh2⟩ := Option.bind_eq_some_iff.mp hh
      by_cases hb : 1 ≤ v ∧ v ≤ 1000000 ∧ 1 ≤ s ∧ s ≤ 1000000
      rotate_left
      · rw [if_neg hb] at hh2
        cases hh2
      rw [if_pos hb] at hh2
      have hm1 : T * v ≤ 1000000 * 1000000 := Int.mul_le_mul HT1.out.2 hb.2.1 (by omega) (by omega)
      have hm0 : 0 ≤ T * v := Int.mul_nonneg (by have := HT1.out.1; omega) (by omega)
      obtain ⟨P, hP⟩ : ∃ P, T * v = P := ⟨_, rfl⟩
      rw [hP] at hm1 hm0 hh2
      have i1 : IntKind.i64.wrap P = P := by rw [IntKind.wrap_i64]; omega
      have i2 : IntKind.i64.wrap (s + P) = s + P := by rw [IntKind.wrap_i64]; omega
      have hct := ih x _ v wr hNA hv
      have g1 : decide ((i : Int) < (l.length : Int)) = true := decide_eq_true (by omega)
      have g2 : ((0 : Int) ≤ (i : Int)) = True := eq_true (by omega)
      have g3 : ((i : Int) < (l.length : Int)) = True := eq_true (by omega)
      have hnw : i < 9223372036854775807 := by have := HN.out; omega
      have HH2 := Aside0.mk hh2
      have HLT := Aside0.mk (And.intro hlt hnw)
      have hTT := HT.out
      unfold multT at hTT
      have hi3 : IntKind.i64.wrap (mn f2 1000000 + 1) = mn f2 1000000 + 1 := by
        rw [IntKind.wrap_i64]
        have := (mn_rng f2 1000000).2
        have : -9223372036854775808 ≤ mn f2 1000000 := by have := HF2.out; unfold mn; split <;> omega
        omega
      clear hx hxx q1 q2 q3 q4 hNA hh hh2 hv HH hb hm1 hm0 hnw
      obtain ⟨x0, x1, x2, x3, x4⟩ := x
      dsimp only at h0 h1 h2 h3 h4 hct
      have HCT := Aside0.mk hct
      clear hct
      by_cases c5 : f0 = 5
      · rw [if_pos c5] at hTT
        have k5 : (f0 == 5) = true := beq_iff_eq.mpr c5
        by_cases c3 : f3 < 0
        · rw [if_pos c3] at hTT
          have k3 : decide (f3 < 0) = true := decide_eq_true c3
          clear c5 c3
          go_wp2_with (go_at_call 9; (with_reducible refine HCT.out.mono ?_); rintro e w3 ⟨rfl, hb⟩; have HB3 := Aside0.mk hb; clear hb)
          clear i1 i2 hi3
          have hw := sn_wrap i HLT.out.2
          refine ⟨⟨i + 1, _, rfl, by rw [hw], HLT.out.1, HH2, ⟨blk_below HX.out HB3.out⟩, ⟨below_step HB.out HB3.out⟩⟩, ?_⟩
          rw [hw]
          clear hw
          show l.length - (((i + 1 : Nat) : Int)).toNat < l.length - ((i : Int)).toNat
          simp only [Int.toNat_natCast]
          exact Nat.sub_lt_sub_left HLT.out.1 (Nat.lt_succ_self i)
        · rw [if_neg c3] at hTT
          have k3 : decide (f3 < 0) = false := decide_eq_false c3
          clear c5 c3 hi3
          go_wp2_with (go_at_call 9; (with_reducible refine HCT.out.mono ?_); rintro e w3 ⟨rfl, hb⟩; have HB3 := Aside0.mk hb; clear hb)
          clear i1 i2
          have hw := sn_wrap i HLT.out.2
          refine ⟨⟨i + 1, _, rfl, by rw [hw], HLT.out.1, HH2, ⟨blk_below HX.out HB3.out⟩, ⟨below_step HB.out HB3.out⟩⟩, ?_⟩
          rw [hw]
          clear hw
          show l.length - (((i + 1 : Nat) : Int)).toNat < l.length - ((i : Int)).toNat
          simp only [Int.toNat_natCast]
          exact Nat.sub_lt_sub_left HLT.out.1 (Nat.lt_succ_self i)
      · rw [if_neg c5] at hTT
        have k5 : (f0 == 5) = false := beq_eq_false_iff_ne.mpr c5
        clear c5 hi3
        go_wp2_with (go_at_call 9; (with_reducible refine HCT.out.mono ?_); rintro e w3 ⟨rfl, hb⟩; have HB3 := Aside0.mk hb; clear hb)
        clear i1 i2
        have hw := sn_wrap i HLT.out.2
        refine ⟨⟨i + 1, _, rfl, by rw [hw], HLT.out.1, HH2, ⟨blk_below HX.out HB3.out⟩, ⟨below_step HB.out HB3.out⟩⟩, ?_⟩
        rw [hw]
        clear hw
        show l.length - (((i + 1 : Nat) : Int)).toNat < l.length - ((i : Int)).toNat
        simp only [Int.toNat_natCast]
        exact Nat.sub_lt_sub_left HLT.out.1 (Nat.lt_succ_self i)
    · obtain rfl : i = l.length := by omega
      have hh := HH.out
      rw [List.drop_length] at hh
      simp only [sizesC, Option.some.injEq] at hh
      subst hh
      have g1 : decide ((l.length : Int) < (l.length : Int)) = false := decide_eq_false (by omega)
      clear HH
      go_wp2
      go_ret
      exact ⟨rfl, HB.out⟩
theorem size_calls : ∀ k, SizeN (sizeC k)
  | 0 => fun x v r w _ h => by simp [sizeC] at h
  | k + 1 => by
    intro x v r w hN h
    obtain ⟨A1, c1, A4, c4, rfl, l1, g1, l4, g4⟩ := hN
    rw [sizeC] at h
    by_cases hf : -9223372036854775808 ≤ x.f2
    · rw [if_pos hf] at h
      exact size_step (sizeC k) (size_calls k) x.f0 A1 _ c1 x.f2 x.f3 A4 c4 x.f4 r w g4 hf h
    · rw [if_neg hf] at h
      cases h
theorem ductusref16_Size.calls (k : Nat) (a0_0 : Int) (A0_1 : Option Addr) (c0_1 : Nat) (l0_1 : List (S42)) (a0_2 : Int) (a0_3 : Int) (A0_4 : Option Addr) (c0_4 : Nat) (l0_4 : List (S25)) (r : Int) (w : World) (hr0_1 : Kd.C k42 w A0_1 l0_1.length l0_1) (hc0_1 : l0_1.length ≤ c0_1) (hr0_4 : Kd.C k25 w A0_4 l0_4.length l0_4) (hc0_4 : l0_4.length ≤ c0_4) (h : ductusref16_Size.f k a0_0 l0_1 a0_2 a0_3 l0_4 = some r) :
    Calls Try.prog 9 #[.agg #[.int .i64 a0_0, .slice A0_1 l0_1.length c0_1, .int .i64 a0_2, .int .i64 a0_3, .slice A0_4 l0_4.length c0_4]] w fun e w' => e = .returned (.int .i64 r) ∧ Below w.heap.size w w' :=
  size_calls k ⟨a0_0, l0_1, a0_2, a0_3, l0_4⟩ _ r w ⟨A0_1, c0_1, A0_4, c0_4, rfl, hc0_1, hr0_1, hc0_4, hr0_4⟩ h
end Go.Proofs.Ytbbplchdgedhcaa.P
namespace Go.Proofs.Ytbbplchdgedhcaa.P
open Go.RowKit Go.Proofs.YtbbplchdgedhcaaW.PrintWords Go.Proofs.YtbbplchdgedhcaaW.PrintLast Go.Proofs.YtbbplchdgedhcaaW.PrintMore
attribute [local go_sem] max2_int min2_int max_two min_two
set_option linter.unusedVariables false
set_option linter.unusedSimpArgs false

-- BY HAND: function 7 (ductuslaw19_alive)

mutual
def ductusref16_Weight.l0 : Nat → Int → Int → Int → Int → List (S42) → Int → Int → List (S25) → Option (Int)
  | 0, _, _, _, _, _, _, _, _ => none
  | k + 1, x1, x5, x6, x127000, x127001, x127002, x127003, x127004 => if x6 < (x127004.length : Int) then (if x5 ≤ 2000 then (if 0 ≤ x6 then ((ductusref16_Weight.f k ((rd_T25 x127004 x6).f0) ((rd_T25 x127004 x6).f1) ((rd_T25 x127004 x6).f2) ((rd_T25 x127004 x6).f3) ((rd_T25 x127004 x6).f4) (wrap64 (x1 + 1))).bind fun t128 => (ductusref16_Weight.l0 k x1 (wrap64 (x5 + t128)) (wrap64 (x6 + 1)) x127000 x127001 x127002 x127003 x127004)) else (none)) else (some x5)) else (some x5)
def ductusref16_Weight.f : Nat → Int → List (S42) → Int → Int → List (S25) → Int → Option (Int)
  | 0, _, _, _, _, _, _ => none
  | k + 1, a0_0, l0_1, a0_2, a0_3, l0_4, a1 => if a1 > 100 then (some 3000) else (ductusref16_Weight.l0 k a1 (wrap64 (1 + (l0_1.length : Int))) 0 a0_0 l0_1 a0_2 a0_3 l0_4)
end
set_option maxHeartbeats 8000000 in
set_option maxRecDepth 100000 in
theorem ductusref16_Weight.calls (k : Nat) : ∀ (a0_0 : Int) (A0_1 : Option Addr) (c0_1 : Nat) (l0_1 : List (S42)) (a0_2 : Int) (a0_3 : Int) (A0_4 : Option Addr) (c0_4 : Nat) (l0_4 : List (S25)) (a1 : Int) (r : Int) (w : World) (hr0_1 : Kd.C k42 w A0_1 l0_1.length l0_1) (hc0_1 : l0_1.length ≤ c0_1) (hr0_4 : Kd.C k25 w A0_4 l0_4.length l0_4) (hc0_4 : l0_4.length ≤ c0_4) (h : ductusref16_Weight.f k a0_0 l0_1 a0_2 a0_3 l0_4 a1 = some r),
    Calls Try.prog 8 #[.agg #[.int .i64 a0_0, .slice A0_1 l0_1.length c0_1, .int .i64 a0_2, .int .i64 a0_3, .slice A0_4 l0_4.length c0_4], .int .i64 a1] w fun e w' => e = .returned (.int .i64 r) ∧ Below w.heap.size w w' := by
  induction k using Nat.strongRecOn with
  | _ k ih =>
  intro a0_0 A0_1 c0_1 l0_1 a0_2 a0_3 A0_4 c0_4 l0_4 a1 r w hr0_1 hc0_1 hr0_4 hc0_4 h
  cases k with
  | zero => exact absurd h (by simp [ductusref16_Weight.f])
  | succ k =>
  simp only [ductusref16_Weight.f] at h
  have hu25 := Try.underlying25
  have HR0_1 := Aside0.mk hr0_1
  have HC0_1 := Aside0.mk hc0_1
  clear hr0_1 hc0_1
  have HR0_4 := Aside0.mk hr0_4
  have HC0_4 := Aside0.mk hc0_4
  clear hr0_4 hc0_4
  have HB := Aside0.mk (Below.refl w.heap.size w)
  have H : (if a1 > 100 then (some 3000) else (ductusref16_Weight.l0 k a1 (wrap64 (1 + (l0_1.length : Int))) 0 a0_0 l0_1 a0_2 a0_3 l0_4)) = some r := h
  clear h
  by_cases c3 : a1 > 100
  · rw [if_pos c3] at H
    have c3b0 : decide (100 < a1) = true := decide_eq_true c3
    clear c3
    obtain rfl := Option.some.inj H
    go_enter Try.func8, Try.ntmps8
    go_wp2_with (first | ((with_reducible refine gate_dst (N := 2) rfl ?_); refine box_event ?hg (N := 2) ?hd (cs := #[.int .i64 a0_0, .slice A0_1 l0_1.length c0_1, .int .i64 a0_2, .int .i64 a0_3, .slice A0_4 l0_4.length c0_4]) (t := 25) ?hr ?_; (case hd => rfl); (case hg => rfl); (case hr => first | (go_simp; done) | (go_simp; rfl)); intro gb126 hg w4 hbox hb; have n0_ := Aside0.mk (below_step (by repeat (first | (with_reducible first | exact HB.out | apply below_alloc | apply pw_below_drewN | apply below_drew1) | exact HB.out)) hb); have n1_ := Aside0.mk (hbox); have n2_ := Aside0.mk ((by rw [hg]; exact (below_size (by repeat (first | (with_reducible first | exact HB.out | apply below_alloc | apply pw_below_drewN | apply below_drew1) | exact HB.out))) : w.heap.size ≤ gb126)); have n3_ := Aside0.mk ((by rw [hg]; exact (below_size (by repeat (first | (with_reducible first | exact HB.out | apply below_alloc | apply pw_below_drewN | apply below_drew1) | exact HB.out))) : w.heap.size ≤ gb126)); clear HB; have HB := n0_; have BK126 := n1_; have GW126 := n2_; have GE126 := n3_; clear n0_ n1_ n2_ n3_; clear hb hbox hg; have hcz5_0 : w4.cell? ⟨gb126, 0, none⟩ = some (.int .i64 a0_0) := (blk_cell BK126.out 0).trans rfl; have hcz5_1 : w4.cell? ⟨gb126, 1, none⟩ = some (.slice A0_1 l0_1.length c0_1) := (blk_cell BK126.out 1).trans rfl; have hcz5_2 : w4.cell? ⟨gb126, 2, none⟩ = some (.int .i64 a0_2) := (blk_cell BK126.out 2).trans rfl; have hcz5_3 : w4.cell? ⟨gb126, 3, none⟩ = some (.int .i64 a0_3) := (blk_cell BK126.out 3).trans rfl; have hcz5_4 : w4.cell? ⟨gb126, 4, none⟩ = some (.slice A0_4 l0_4.length c0_4) := (blk_cell BK126.out 4).trans rfl; have hfz5_0 := blk_frozen BK126.out 0; have hfz5_1 := blk_frozen BK126.out 1; have hfz5_2 := blk_frozen BK126.out 2; have hfz5_3 := blk_frozen BK126.out 3; have hfz5_4 := blk_frozen BK126.out 4))
    go_ret
    exact ⟨by first | rfl | (simp [errW_none, errW_some] <;> rfl) | (simp [*, errW_none, errW_some] <;> rfl), by repeat (first | (with_reducible first | exact HB.out | apply below_alloc | apply pw_below_drewN | apply below_drew1 | refine below_set ?_ GE126.out) | exact HB.out)⟩
  rw [if_neg c3] at H
  have c3b0 : decide (100 < a1) = false := decide_eq_false c3
  clear c3
  have H' := Aside0.mk H
  clear H
  go_enter Try.func8, Try.ntmps8
  go_wp2_with (first | ((with_reducible refine gate_dst (N := 2) rfl ?_); refine box_event ?hg (N := 2) ?hd (cs := #[.int .i64 a0_0, .slice A0_1 l0_1.length c0_1, .int .i64 a0_2, .int .i64 a0_3, .slice A0_4 l0_4.length c0_4]) (t := 25) ?hr ?_; (case hd => rfl); (case hg => rfl); (case hr => first | (go_simp; done) | (go_simp; rfl)); intro gb126 hg w6 hbox hb; have n0_ := Aside0.mk (below_step (by repeat (first | (with_reducible first | exact HB.out | apply below_alloc | apply pw_below_drewN | apply below_drew1) | exact HB.out)) hb); have n1_ := Aside0.mk (hbox); have n2_ := Aside0.mk ((by rw [hg]; exact (below_size (by repeat (first | (with_reducible first | exact HB.out | apply below_alloc | apply pw_below_drewN | apply below_drew1) | exact HB.out))) : w.heap.size ≤ gb126)); have n3_ := Aside0.mk ((by rw [hg]; exact (below_size (by repeat (first | (with_reducible first | exact HB.out | apply below_alloc | apply pw_below_drewN | apply below_drew1) | exact HB.out))) : w.heap.size ≤ gb126)); clear HB; have HB := n0_; have BK126 := n1_; have GW126 := n2_; have GE126 := n3_; clear n0_ n1_ n2_ n3_; clear hb hbox hg; have hcz7_0 : w6.cell? ⟨gb126, 0, none⟩ = some (.int .i64 a0_0) := (blk_cell BK126.out 0).trans rfl; have hcz7_1 : w6.cell? ⟨gb126, 1, none⟩ = some (.slice A0_1 l0_1.length c0_1) := (blk_cell BK126.out 1).trans rfl; have hcz7_2 : w6.cell? ⟨gb126, 2, none⟩ = some (.int .i64 a0_2) := (blk_cell BK126.out 2).trans rfl; have hcz7_3 : w6.cell? ⟨gb126, 3, none⟩ = some (.int .i64 a0_3) := (blk_cell BK126.out 3).trans rfl; have hcz7_4 : w6.cell? ⟨gb126, 4, none⟩ = some (.slice A0_4 l0_4.length c0_4) := (blk_cell BK126.out 4).trans rfl; have hfz7_0 := blk_frozen BK126.out 0; have hfz7_1 := blk_frozen BK126.out 1; have hfz7_2 := blk_frozen BK126.out 2; have hfz7_3 := blk_frozen BK126.out 3; have hfz7_4 := blk_frozen BK126.out 4))
  go_loopg [5, 6] k (fun kq v5 v6 w' => ∃ (x5_1 : Int) (x6_1 : Int), v5 = .int .i64 x5_1 ∧ v6 = .int .i64 x6_1 ∧ Aside0 (ductusref16_Weight.l0 kq a1 x5_1 x6_1 a0_0 l0_1 a0_2 a0_3 l0_4 = some r) ∧ Aside0 (kq ≤ k) ∧ Aside0 (w'.heap[gb126]? = some (.cells #[.int .i64 a0_0, (.slice A0_1 l0_1.length c0_1), .int .i64 a0_2, .int .i64 a0_3, (.slice A0_4 l0_4.length c0_4)] 25 (0, 0))) ∧ Aside0 (Below w.heap.size w w'))
  case atStart => exact ⟨(wrap64 (1 + (l0_1.length : Int))), (0), (by first | rfl | (simp; done) | (simp [*]; done)), (by first | rfl | (simp; done) | (simp [*]; done)), H', ⟨Nat.le_refl _⟩, ⟨by (with_reducible repeat (first | refine blk_drewN ?_ _ | refine blk_drew ?_ | refine blk_alloc ?_ _)); exact BK126.out⟩, ⟨by repeat (first | (with_reducible first | exact HB.out | apply below_alloc | apply pw_below_drewN | apply below_drew1 | refine below_set ?_ GE126.out) | exact HB.out)⟩⟩
  case round =>
    clear H'
    try clear p2
    try clear c3
    try clear c3b0
    try clear p6
    try clear hcz5_0
    try clear hcz5_1
    try clear hcz5_2
    try clear hcz5_3
    try clear hcz5_4
    try clear hcz7_0
    try clear hcz7_1
    try clear hcz7_2
    try clear hcz7_3
    try clear hcz7_4
    try clear hfz5_0
    try clear hfz5_1
    try clear hfz5_2
    try clear hfz5_3
    try clear hfz5_4
    try clear hfz7_0
    try clear hfz7_1
    try clear hfz7_2
    try clear hfz7_3
    try clear hfz7_4
    obtain ⟨x5_1, x6_1, rfl, rfl, HA, HK1, BK126, HB⟩ := hrel
    cases gk with
    | zero => exact absurd HA.out (by simp [ductusref16_Weight.l0])
    | succ k1 =>
      have H := HA.out
      clear HA
      simp only [ductusref16_Weight.l0] at H
      by_cases c8 : x6_1 < (l0_4.length : Int)
      rotate_left
      · rw [if_neg c8] at H
        have c8b0 : decide (x6_1 < (l0_4.length : Int)) = false := decide_eq_false c8
        clear c8
        obtain rfl := Option.some.inj H
        have hcz15_0 : wr.cell? ⟨gb126, 0, none⟩ = some (.int .i64 a0_0) := (blk_cell BK126.out 0).trans rfl
        have hcz15_1 : wr.cell? ⟨gb126, 1, none⟩ = some (.slice A0_1 l0_1.length c0_1) := (blk_cell BK126.out 1).trans rfl
        have hcz15_2 : wr.cell? ⟨gb126, 2, none⟩ = some (.int .i64 a0_2) := (blk_cell BK126.out 2).trans rfl
        have hcz15_3 : wr.cell? ⟨gb126, 3, none⟩ = some (.int .i64 a0_3) := (blk_cell BK126.out 3).trans rfl
        have hcz15_4 : wr.cell? ⟨gb126, 4, none⟩ = some (.slice A0_4 l0_4.length c0_4) := (blk_cell BK126.out 4).trans rfl
        have hfz15_0 := blk_frozen BK126.out 0
        have hfz15_1 := blk_frozen BK126.out 1
        have hfz15_2 := blk_frozen BK126.out 2
        have hfz15_3 := blk_frozen BK126.out 3
        have hfz15_4 := blk_frozen BK126.out 4
        go_wp2
        go_ret
        exact ⟨by first | rfl | (simp [errW_none, errW_some] <;> rfl) | (simp [*, errW_none, errW_some] <;> rfl), by repeat (first | (with_reducible first | exact HB.out | apply below_alloc | apply pw_below_drewN | apply below_drew1 | refine below_set ?_ GE126.out) | exact HB.out)⟩
      rw [if_pos c8] at H
      have c8b0 : decide (x6_1 < (l0_4.length : Int)) = true := decide_eq_true c8
      clear c8
      by_cases c9 : x5_1 ≤ 2000
      rotate_left
      · rw [if_neg c9] at H
        have c9b0 : decide (x5_1 ≤ 2000) = false := decide_eq_false c9
        clear c9
        obtain rfl := Option.some.inj H
        have hcz14_0 : wr.cell? ⟨gb126, 0, none⟩ = some (.int .i64 a0_0) := (blk_cell BK126.out 0).trans rfl
        have hcz14_1 : wr.cell? ⟨gb126, 1, none⟩ = some (.slice A0_1 l0_1.length c0_1) := (blk_cell BK126.out 1).trans rfl
        have hcz14_2 : wr.cell? ⟨gb126, 2, none⟩ = some (.int .i64 a0_2) := (blk_cell BK126.out 2).trans rfl
        have hcz14_3 : wr.cell? ⟨gb126, 3, none⟩ = some (.int .i64 a0_3) := (blk_cell BK126.out 3).trans rfl
        have hcz14_4 : wr.cell? ⟨gb126, 4, none⟩ = some (.slice A0_4 l0_4.length c0_4) := (blk_cell BK126.out 4).trans rfl
        have hfz14_0 := blk_frozen BK126.out 0
        have hfz14_1 := blk_frozen BK126.out 1
        have hfz14_2 := blk_frozen BK126.out 2
        have hfz14_3 := blk_frozen BK126.out 3
        have hfz14_4 := blk_frozen BK126.out 4
        go_wp2
        go_ret
        exact ⟨by first | rfl | (simp [errW_none, errW_some] <;> rfl) | (simp [*, errW_none, errW_some] <;> rfl), by repeat (first | (with_reducible first | exact HB.out | apply below_alloc | apply pw_below_drewN | apply below_drew1 | refine below_set ?_ GE126.out) | exact HB.out)⟩
      rw [if_pos c9] at H
      have c9b0 : decide (x5_1 ≤ 2000) = true := decide_eq_true c9
      clear c9
      by_cases c10 : 0 ≤ x6_1
      rotate_left
      · rw [if_neg c10] at H
        exact absurd H (by simp)
      rw [if_pos c10] at H
      have c10b0 : decide (0 ≤ x6_1) = true := decide_eq_true c10
      clear c10
      replace H := Option.bind_eq_some_iff.mp H
      obtain ⟨t128, A110, H⟩ := H
      replace H : (ductusref16_Weight.l0 k1 a1 (wrap64 (x5_1 + t128)) (wrap64 (x6_1 + 1)) a0_0 l0_1 a0_2 a0_3 l0_4) = some r := H
      have A11 := Aside0.mk A110
      clear A110
      have H' := Aside0.mk H
      clear H
      have hcz12_0 : wr.cell? ⟨gb126, 0, none⟩ = some (.int .i64 a0_0) := (blk_cell BK126.out 0).trans rfl
      have hcz12_1 : wr.cell? ⟨gb126, 1, none⟩ = some (.slice A0_1 l0_1.length c0_1) := (blk_cell BK126.out 1).trans rfl
      have hcz12_2 : wr.cell? ⟨gb126, 2, none⟩ = some (.int .i64 a0_2) := (blk_cell BK126.out 2).trans rfl
      have hcz12_3 : wr.cell? ⟨gb126, 3, none⟩ = some (.int .i64 a0_3) := (blk_cell BK126.out 3).trans rfl
      have hcz12_4 : wr.cell? ⟨gb126, 4, none⟩ = some (.slice A0_4 l0_4.length c0_4) := (blk_cell BK126.out 4).trans rfl
      have hfz12_0 := blk_frozen BK126.out 0
      have hfz12_1 := blk_frozen BK126.out 1
      have hfz12_2 := blk_frozen BK126.out 2
      have hfz12_3 := blk_frozen BK126.out 3
      have hfz12_4 := blk_frozen BK126.out 4
      have p127 : 0 ≤ (x6_1 : Int) := of_decide_eq_true (by first | (with_reducible assumption) | assumption)
      have q127 : x6_1 < (l0_4.length : Int) := of_decide_eq_true (by first | (with_reducible assumption) | assumption)
      obtain ⟨ad127, A127_1, c127_1, A127_4, c127_4, e127, hx127_0, hx127_1, hx127_2, hx127_3, hx127_4, hl127_1, hi127_1, hl127_4, hi127_4⟩ := at_T25 HR0_4.out x6_1 p127 q127
      cases e127
      replace hx127_0 := (HB.out.cell (World.block_lt_of_cell? w _ hx127_0)).trans hx127_0
      replace hx127_1 := (HB.out.cell (World.block_lt_of_cell? w _ hx127_1)).trans hx127_1
      replace hx127_2 := (HB.out.cell (World.block_lt_of_cell? w _ hx127_2)).trans hx127_2
      replace hx127_3 := (HB.out.cell (World.block_lt_of_cell? w _ hx127_3)).trans hx127_3
      replace hx127_4 := (HB.out.cell (World.block_lt_of_cell? w _ hx127_4)).trans hx127_4
      have HR127_1 := Aside0.mk hi127_1
      have HC127_1 := Aside0.mk hl127_1
      clear hi127_1 hl127_1
      have HR127_4 := Aside0.mk hi127_4
      have HC127_4 := Aside0.mk hl127_4
      clear hi127_4 hl127_4
      replace p127 := eq_true p127
      replace q127 := eq_true q127
      go_wp2_with (first | ((with_reducible refine gate_callee (f := 8) rfl ?_); refine goesL_ (some 32) rfl rfl Try.func8 (by kernel_rfl) rfl #[.agg #[.int .i64 ((rd_T25 l0_4 x6_1).f0), .slice A127_1 ((rd_T25 l0_4 x6_1).f1).length c127_1, .int .i64 ((rd_T25 l0_4 x6_1).f2), .int .i64 ((rd_T25 l0_4 x6_1).f3), .slice A127_4 ((rd_T25 l0_4 x6_1).f4).length c127_4], .int .i64 (wrap64 (a1 + 1))] rfl (by (try simp only [List.map_toArray, List.map_cons, List.map_nil]); first | done | rfl | (simp only [List.length_drop, List.length_take]; rfl)) ?_; (with_reducible refine (ih k1 (by have := HK1.out; omega) ((rd_T25 l0_4 x6_1).f0) _ _ ((rd_T25 l0_4 x6_1).f1) ((rd_T25 l0_4 x6_1).f2) ((rd_T25 l0_4 x6_1).f3) _ _ ((rd_T25 l0_4 x6_1).f4) (wrap64 (a1 + 1)) t128 _ ?side1 ?side2 ?side3 ?side4 A11.out).mono ?_); (case side1 => repeat (first | exact (Kd.C_below HR127_1.out HB.out) | (with_reducible refine Kd.C_alloc ?_ _) | (with_reducible refine Kd.C_drewN ?_ _) | (with_reducible refine Kd.C_drew ?_))); (case side2 => exact HC127_1.out); (case side3 => repeat (first | exact (Kd.C_below HR127_4.out HB.out) | (with_reducible refine Kd.C_alloc ?_ _) | (with_reducible refine Kd.C_drewN ?_ _) | (with_reducible refine Kd.C_drew ?_))); (case side4 => exact HC127_4.out); rintro e w13 ⟨rfl, hb⟩; refine ⟨_, rfl, ?_⟩; have n0_ := Aside0.mk (blk_below (g := gb126) (o := .cells #[.int .i64 a0_0, .slice A0_1 l0_1.length c0_1, .int .i64 a0_2, .int .i64 a0_3, .slice (some ad127) l0_4.length c0_4] 25 (0, 0)) (by (with_reducible repeat (first | refine blk_drewN ?_ _ | refine blk_drew ?_ | refine blk_alloc ?_ _)); exact BK126.out) hb); have n1_ := Aside0.mk (below_step (by repeat (first | (with_reducible first | exact HB.out | apply below_alloc | apply pw_below_drewN | apply below_drew1 | refine below_set ?_ GE126.out) | exact HB.out)) hb); clear BK126; clear HB; have BK126 := n0_; have HB := n1_; clear n0_ n1_; (try clear hb); (try clear hb2); (try clear hk); (try clear hi)))
      go_roundg k1
      case measure => have := HK1.out; omega
      case rel => exact ⟨(wrap64 (x5_1 + t128)), (wrap64 (x6_1 + 1)), (by first | rfl | (simp; done) | (simp [*]; done)), (by first | rfl | (simp; done) | (simp [*]; done)), H', ⟨by have := HK1.out; omega⟩, ⟨by (with_reducible repeat (first | refine blk_drewN ?_ _ | refine blk_drew ?_ | refine blk_alloc ?_ _)); exact BK126.out⟩, ⟨by repeat (first | (with_reducible first | exact HB.out | apply below_alloc | apply pw_below_drewN | apply below_drew1 | refine below_set ?_ GE126.out) | exact HB.out)⟩⟩

end Go.Proofs.Ytbbplchdgedhcaa.P
namespace Go.Proofs.Ytbbplchdgedhcaa.P
open Go.RowKit Go.Proofs.YtbbplchdgedhcaaW.PrintWords Go.Proofs.YtbbplchdgedhcaaW.PrintLast Go.Proofs.YtbbplchdgedhcaaW.PrintMore
attribute [local go_sem] max2_int min2_int max_two min_two
set_option linter.unusedVariables false
set_option linter.unusedSimpArgs false

attribute [local go_sem high] eqA42
def ductusref16_SameSets.l0 : Nat → List (S42) → List (S42) → Int → Option (Bool)
  | 0, _, _, _ => none
  | k + 1, x0, x1, x5 => if x5 < (x0.length : Int) then (if 0 ≤ x5 then (if x5 < (x1.length : Int) then (if (!(((rd_T42 x0 x5).f0) == ((rd_T42 x1 x5).f0)) || (!(((rd_T42 x0 x5).f1) == ((rd_T42 x1 x5).f1)))) = true then (some false) else (ductusref16_SameSets.l0 k x0 x1 (wrap64 (x5 + 1)))) else (none)) else (none)) else (some true)
def ductusref16_SameSets.f (k : Nat) (l0 : List (S42)) (l1 : List (S42)) : Option (Bool) := if (l0.length : Int) = (l1.length : Int) then (ductusref16_SameSets.l0 k l0 l1 0) else (some false)
set_option maxHeartbeats 8000000 in
set_option maxRecDepth 100000 in
theorem ductusref16_SameSets.calls (k : Nat) (A0 : Option Addr) (c0 : Nat) (l0 : List (S42)) (A1 : Option Addr) (c1 : Nat) (l1 : List (S42)) (r : Bool) (w : World) (hr0 : Kd.C k42 w A0 l0.length l0) (hc0 : l0.length ≤ c0) (hr1 : Kd.C k42 w A1 l1.length l1) (hc1 : l1.length ≤ c1) (h : ductusref16_SameSets.f k l0 l1 = some r) :
    Calls Try.prog 24 #[.slice A0 l0.length c0, .slice A1 l1.length c1] w fun e w' => e = .returned (.bool r) ∧ Drawn0 w w' := by
  have hu42 := Try.underlying42
  have HR0 := Aside0.mk hr0
  have HC0 := Aside0.mk hc0
  clear hr0 hc0
  have HR1 := Aside0.mk hr1
  have HC1 := Aside0.mk hc1
  clear hr1 hc1
  have H : (if (l0.length : Int) = (l1.length : Int) then (ductusref16_SameSets.l0 k l0 l1 0) else (some false)) = some r := h
  clear h
  by_cases c3 : (l0.length : Int) = (l1.length : Int)
  rotate_left
  · rw [if_neg c3] at H
    have c3b0 : ((l0.length : Int) == (l1.length : Int)) = false := beq_eq_false_iff_ne.mpr c3
    have c3b1 : ((l0.length : Int) != (l1.length : Int)) = true := bne_iff_ne.mpr c3
    have c3b2 : (l0.length == l1.length) = false := by first | simpa using c3 | (simp at c3 ⊢; omega)
    obtain rfl := Option.some.inj H
    go_enter Try.func24, Try.ntmps24
    go_wp2
    repeat (go_quiet (fail); try go_wp2)
    go_ret
    exact ⟨by first | rfl | (simp; done) | (simp [*]; done), by repeat (first | exact Drawn0.refl _ | apply Drawn0.step)⟩
  rw [if_pos c3] at H
  have c3b0 : ((l0.length : Int) == (l1.length : Int)) = true := beq_iff_eq.mpr c3
  have c3b1 : ((l0.length : Int) != (l1.length : Int)) = false := bne_eq_false_iff_eq.mpr c3
  have c3b2 : (l0.length == l1.length) = true := by first | simpa using c3 | (simp at c3 ⊢; omega)
  clear c3
  have H' := Aside0.mk H
  clear H
  go_enter Try.func24, Try.ntmps24
  go_wp2
  repeat (go_quiet (fail); try go_wp2)
  go_loopg [5] k (fun kq v5 w' => ∃ (x5_1 : Int), v5 = .int .i64 x5_1 ∧ Aside0 (ductusref16_SameSets.l0 kq l0 l1 x5_1 = some r) ∧ Aside0 (kq ≤ k) ∧ Drawn0 w w')
  case atStart => exact ⟨(0), (by first | rfl | (simp; done) | (simp [*]; done)), H', ⟨Nat.le_refl _⟩, by repeat (first | exact Drawn0.refl _ | apply Drawn0.step)⟩
  case round =>
    clear H'
    try clear c1
    try clear c2
    try clear p2
    try clear c3
    try clear c3b0
    try clear c3b1
    try clear c3b2
    obtain ⟨x5_1, rfl, HA, HK1, ⟨m1, rfl⟩⟩ := hrel
    cases gk with
    | zero => exact absurd HA.out (by simp [ductusref16_SameSets.l0])
    | succ k1 =>
      have H := HA.out
      clear HA
      simp only [ductusref16_SameSets.l0] at H
      by_cases c4 : x5_1 < (l0.length : Int)
      rotate_left
      · rw [if_neg c4] at H
        have c4b0 : decide (x5_1 < (l0.length : Int)) = false := decide_eq_false c4
        clear c4
        obtain rfl := Option.some.inj H
        go_wp2
        repeat (go_quiet (fail); try go_wp2)
        go_ret
        exact ⟨by first | rfl | (simp; done) | (simp [*]; done), by repeat (first | exact Drawn0.refl _ | apply Drawn0.step)⟩
      rw [if_pos c4] at H
      have c4b0 : decide (x5_1 < (l0.length : Int)) = true := decide_eq_true c4
      clear c4
      by_cases c5 : 0 ≤ x5_1
      rotate_left
      · rw [if_neg c5] at H
        exact absurd H (by simp)
      rw [if_pos c5] at H
      have c5b0 : decide (0 ≤ x5_1) = true := decide_eq_true c5
      clear c5
      by_cases c6 : x5_1 < (l1.length : Int)
      rotate_left
      · rw [if_neg c6] at H
        exact absurd H (by simp)
      rw [if_pos c6] at H
      have c6b0 : decide (x5_1 < (l1.length : Int)) = true := decide_eq_true c6
      clear c6
      by_cases c7 : (!(((rd_T42 l0 x5_1).f0) == ((rd_T42 l1 x5_1).f0)) || (!(((rd_T42 l0 x5_1).f1) == ((rd_T42 l1 x5_1).f1)))) = true
      · rw [if_pos c7] at H
        have c7b0 : (!(((rd_T42 l0 x5_1).f0) == ((rd_T42 l1 x5_1).f0)) || (!(((rd_T42 l0 x5_1).f1) == ((rd_T42 l1 x5_1).f1)))) = true := c7
        clear c7
        obtain rfl := Option.some.inj H
        have p217 : 0 ≤ (x5_1 : Int) := of_decide_eq_true (by first | (with_reducible assumption) | assumption)
        have q217 : x5_1 < (l0.length : Int) := of_decide_eq_true (by first | (with_reducible assumption) | assumption)
        obtain ⟨ad217, e217, hx217_0, hx217_1⟩ := at_T42 HR0.out x5_1 p217 q217
        cases e217
        replace p217 := eq_true p217
        replace q217 := eq_true q217
        have p218 : 0 ≤ (x5_1 : Int) := of_decide_eq_true (by first | (with_reducible assumption) | assumption)
        have q218 : x5_1 < (l1.length : Int) := of_decide_eq_true (by first | (with_reducible assumption) | assumption)
        obtain ⟨ad218, e218, hx218_0, hx218_1⟩ := at_T42 HR1.out x5_1 p218 q218
        cases e218
        replace p218 := eq_true p218
        replace q218 := eq_true q218
        go_wp2
        repeat (go_quiet (fail); try go_wp2)
        go_ret
        exact ⟨by first | rfl | (simp; done) | (simp [*]; done), by repeat (first | exact Drawn0.refl _ | apply Drawn0.step)⟩
      rw [if_neg c7] at H
      have c7b0 : (!(((rd_T42 l0 x5_1).f0) == ((rd_T42 l1 x5_1).f0)) || (!(((rd_T42 l0 x5_1).f1) == ((rd_T42 l1 x5_1).f1)))) = false := by simpa using c7
      clear c7
      have H' := Aside0.mk H
      clear H
      have p217 : 0 ≤ (x5_1 : Int) := of_decide_eq_true (by first | (with_reducible assumption) | assumption)
      have q217 : x5_1 < (l0.length : Int) := of_decide_eq_true (by first | (with_reducible assumption) | assumption)
      obtain ⟨ad217, e217, hx217_0, hx217_1⟩ := at_T42 HR0.out x5_1 p217 q217
      cases e217
      replace p217 := eq_true p217
      replace q217 := eq_true q217
      have p218 : 0 ≤ (x5_1 : Int) := of_decide_eq_true (by first | (with_reducible assumption) | assumption)
      have q218 : x5_1 < (l1.length : Int) := of_decide_eq_true (by first | (with_reducible assumption) | assumption)
      obtain ⟨ad218, e218, hx218_0, hx218_1⟩ := at_T42 HR1.out x5_1 p218 q218
      cases e218
      replace p218 := eq_true p218
      replace q218 := eq_true q218
      go_wp2
      repeat (go_quiet (fail); try go_wp2)
      go_roundg k1
      case measure => have := HK1.out; omega
      case rel => exact ⟨(wrap64 (x5_1 + 1)), (by first | rfl | (simp; done) | (simp [*]; done)), H', ⟨by have := HK1.out; omega⟩, by repeat (first | exact Drawn0.refl _ | apply Drawn0.step)⟩

end Go.Proofs.Ytbbplchdgedhcaa.P
