/- Proved: a call of the Go function balance.Close, with any list of int, answers the characters up to where it is wrong, and what closes all that is open, in new memory; condition: a list shorter than 2^42, which its answer says. -/
import Derived.Test.YtpgpckglgkichaaSBal
import Derived.Test.YtpgpckglgkichaaSClone
import Derived.RangeFuncNested
import Derived.RangeFuncBound
import Derived.RangeFuncCalls
import Derived.RangeFuncBox
import Derived.RangeFuncLeaves
import Derived.Shelf.Abstract
import Derived.Shelf.RegionOpen
import Derived.WalkKit
import Derived.OwnWalkIn
import Derived.TacticsInMore
import Derived.LoopNIn
import Derived.LoopIn
import Derived.Maps.AppendAt
namespace Go.Proofs.Ytpgpckglgkichaa.P
open Go.RowKit Go.Shelf Go.Proofs.YtpgpckglgkichaaW.PrintWords Go.Proofs.YtpgpckglgkichaaW.PrintLast Go.Proofs.YtpgpckglgkichaaW.PrintMore
attribute [local go_sem] Oper.semAt_some
set_option linter.unusedVariables false
set_option linter.unusedSimpArgs false

/-- What has come when k rounds are over: the last one first. -/
def bwd (zs : List Int) (k : Nat) : List (Int × Int) := (List.range k).map fun (j : Nat) => (((zs.length - 1 - j : Nat) : Int), rd zs ((zs.length - 1 - j : Nat) : Int))
theorem bwd_succ (zs : List Int) (k : Nat) : bwd zs (k + 1) = bwd zs k ++ [(((zs.length - 1 - k : Nat) : Int), rd zs ((zs.length - 1 - k : Nat) : Int))] := by simp [bwd, List.range_succ]
theorem bwd_len (zs : List Int) (k : Nat) : (bwd zs k).length = k := by simp [bwd]
theorem bwd_vals (zs : List Int) : (bwd zs zs.length).map (·.2) = zs.reverse := by
  apply List.ext_getElem
  · simp [bwd]
  · intro i h1 h2
    simp only [bwd, List.length_map, List.length_range] at h1
    simp only [bwd, List.map_map, List.getElem_map, List.getElem_range, Function.comp, List.getElem_reverse]
    rw [rd_get zs _ (by omega)]

/-- What a round keeps: what lay below, and the box of what is gone through. -/
def BackK (n₀ Bs : Nat) (A B : World) : Prop := Below n₀ A B ∧ B.heap[Bs]? = A.heap[Bs]?
theorem backK_t {n₀ Bs : Nat} {A B C : World} (h : BackK n₀ Bs A B) (k : BackK n₀ Bs B C) : BackK n₀ Bs A C := ⟨h.1.trans k.1, k.2.trans h.2⟩
theorem backK_b {n₀ Bs : Nat} {w : World} (hn : n₀ ≤ w.heap.size) (hs : Bs < w.heap.size) (W : World) (l : Nat) (o o' : Obj) (hl : w.heap.size ≤ l) (h : W.heap[l]? = some o) (hc : o.isCells = false) (hw : o.isWalk = false) : BackK n₀ Bs W (W.putObj l o') :=
  ⟨belowK_b hn W l o o' hl h hc hw, World.putObj_heap_other (by omega)⟩
set_option maxRecDepth 100000 in
set_option maxHeartbeats 2000000 in
theorem back1_in (F : Fence) (n : Nat) (h7 : F.fn 35) (hro : F.round = none) (hn : 1 ≤ n) (l Bs n₀ cap : Nat) (A : Option Addr) (zs : List Int) (hreach : zs.length < 17592186044416) (hA : ∀ ad, A = some ad → 0 < zs.length → ad.block < n₀) (J Jx : List (Int × Int) → World → Prop)
    (hY : ∀ pre x W, J pre W → pre.length < zs.length → YieldAt F (n - 1) Try.prog l #[.int .i64 x.1, .int .i64 x.2] W fun e W' =>
      (e = .returned (.bool true) ∧ J (pre ++ [x]) W' ∧ BackK n₀ Bs W W') ∨ (e = .returned (.bool false) ∧ Jx (pre ++ [x]) W'))
    (W : World) (hBs : W.heap[Bs]? = some (.cells #[.slice A zs.length cap] 22 (0, 0))) (hc : Kd.C (Kd.int .i64) W A zs.length zs) (h0 : J [] W) :
    CallsIn F n Try.prog 35 #[.func (.yield l) #[] #[], .pointer (some ⟨Bs, 0, none⟩)] W fun e W' => (∃ v, e = .returned v) ∧
      ((∃ ys, ys = bwd zs zs.length ∧ J ys W') ∨ (∃ pre, (∃ k, k ≤ zs.length ∧ pre = bwd zs k) ∧ Jx pre W')) := by
  refine callsIn_of_wp Try.func35 rfl h7 ?_ hro
  simp only [Try.ntmps35, List.size_toArray, List.length_cons, List.length_nil, Nat.reduceAdd, Nat.reduceSub, Array.replicate_succ, Array.replicate_zero, List.push_toArray, List.append_toArray, List.nil_append, List.cons_append]
  have HC := Aside0.mk hc
  have HBS := Aside0.mk hBs
  have hbs0 := blk_cell hBs 0
  clear hc hBs
  gi_wp2
  gi_loopw [3] (fun i wr => ∃ k : Nat, k ≤ zs.length ∧ i = .int .i64 ((zs.length : Int) - 1 - (k : Int)) ∧ J (bwd zs k) wr ∧ BackK n₀ Bs W wr)
    (fun i _ => (intOf i + 1).toNat)
  case atStart => exact ⟨0, Nat.zero_le _, by congr 1; omega, h0, Below.refl _ _, rfl⟩
  case round =>
    obtain ⟨k, hk, rfl, hJs, hnx⟩ := hrel
    have hbs := blk_cell (hnx.2.trans HBS.out) 0
    have HNX := Aside0.mk hnx
    by_cases hlt : k < zs.length
    · obtain ⟨m, hm⟩ : ∃ m : Nat, m = zs.length - 1 - k := ⟨_, rfl⟩
      have e : (zs.length : Int) - 1 - (k : Int) = (m : Int) := by omega
      obtain ⟨ad, ea, hx⟩ := Kd.at_int HC.out (m : Int) (by omega) (by omega)
      have hb := hA ad ea (by omega)
      cases ea
      rw [Int.toNat_natCast] at hx
      have hcx := (hnx.1.cell (p := ad.add m) (by rw [add_block]; exact hb)).trans hx
      obtain ⟨fn, tmps, assign, body, hy, hR⟩ := hY _ ((m : Int), rd zs (m : Int)) wr hJs (by rw [bwd_len]; exact hlt)
      dsimp only at hy
      have hml : ((m : Nat) : Int) < (zs.length : Int) := by omega
      have hm0 : (0 : Int) ≤ ((m : Nat) : Int) := by omega
      have HM := Aside0.mk hm
      have HE := Aside0.mk e
      rw [e]
      clear hx hm e hnx
      gi_wp2
      refine hR.mono ?_
      rintro e W3 (⟨rfl, hJ3, hk3⟩ | ⟨rfl, hJx3⟩)
      · gi_wp2
        exact ⟨⟨k + 1, by omega, by congr 1; have := HE.out; omega, by rw [bwd_succ, ← HM.out]; exact hJ3, backK_t HNX.out hk3⟩, by show ((m : Int) - 1 + 1).toNat < ((m : Int) + 1).toNat; omega⟩
      · gi_wp2
        refine bodyPost_ret (results_none rfl _ _ _) rfl ?_
        exact ⟨⟨_, rfl⟩, .inr ⟨_, ⟨k + 1, by omega, by rw [bwd_succ, ← HM.out]⟩, hJx3⟩⟩
    · obtain rfl : k = zs.length := by omega
      have e : (zs.length : Int) - 1 - (zs.length : Int) = -1 := by omega
      rw [e]
      clear e hnx
      gi_wp2
      go_end0
      exact ⟨⟨_, rfl⟩, .inl ⟨_, rfl, hJs⟩⟩

set_option maxHeartbeats 1000000 in
theorem back_in (F : Fence) (n : Nat) (h5 : F.fn 30) (hro : F.round = none) (a : Option Addr) (len cap : Nat) (w : World) :
    CallsIn F n Try.prog 30 #[.slice a len cap] w fun e w' => e = .returned (.func (.func 35) #[] #[.pointer (some ⟨w.heap.size, 0, none⟩)]) ∧ w' = w.alloc (.cells #[.slice a len cap] 22) := by
  refine callsIn_of_wp Try.func30 rfl h5 ?_ hro
  simp only [Try.ntmps30, List.size_toArray, List.length_cons, List.length_nil, Nat.reduceAdd, Nat.reduceSub, Array.replicate_succ, Array.replicate_zero, List.push_toArray, List.append_toArray, List.nil_append, List.cons_append]
  gi_wp2
  go_ret
  exact ⟨rfl, rfl⟩
theorem back_stops (F : Fence) (n : Nat) (h7 : F.fn 35) (hro : F.round = none) (hn : 1 ≤ n) (Bs n₀ cap : Nat) (A : Option Addr) (zs : List Int) (hreach : zs.length < 17592186044416) (w : World) (hn₀ : n₀ ≤ w.heap.size) (hA : ∀ ad, A = some ad → 0 < zs.length → ad.block < n₀)
    (hBs : w.heap[Bs]? = some (.cells #[.slice A zs.length cap] 22 (0, 0))) (hc : Kd.C (Kd.int .i64) w A zs.length zs) :
    SeqStopsK F n Try.prog 35 #[.pointer (some ⟨Bs, 0, none⟩)] (fun x : Int × Int => #[Value.int .i64 x.1, Value.int .i64 x.2]) (BackK n₀ Bs) (fun ys => ys = bwd zs zs.length)
      (fun pre => ∃ k, k ≤ zs.length ∧ pre = bwd zs k) zs.length w := fun l J Jx W hW _ _ hY h0 =>
  back1_in F n h7 hro hn l Bs n₀ cap A zs hreach hA J Jx hY W ((hW.block Bs (blk_lt hBs)).trans hBs) (Kd.C_below hc hW) h0

theorem walkM_len : ∀ (l : List Int) (i : Nat) (op : List Int) (m : Int), (walkM i op m l).1.length ≤ op.length + l.length
  | [], _, op, m => by simp [walkM]
  | c :: l, i, op, m => by
    have h := step_len op m (cls c)
    simp only [walkM]
    split
    · have h2 := walkM_len l (i + 1) (stepM op m (cls c)).2.1 (stepM op m (cls c)).2.2
      simp only [List.length_cons]
      omega
    · simp only [List.length_cons]
      omega
theorem walkM_wrong : ∀ (l : List Int) (i : Nat) (op : List Int) (m : Int), (walkM i op m l).2.2 = -1 ∨ ∃ q : Nat, (walkM i op m l).2.2 = (q : Int) ∧ i ≤ q ∧ q ≤ i + l.length
  | [], i, op, m => by
    simp only [walkM]
    split
    · exact .inl rfl
    · exact .inr ⟨i, rfl, Nat.le_refl _, by simp⟩
  | c :: l, i, op, m => by
    simp only [walkM]
    split
    · rcases walkM_wrong l (i + 1) (stepM op m (cls c)).2.1 (stepM op m (cls c)).2.2 with h | ⟨q, h, h1, h2⟩
      · exact .inl h
      · exact .inr ⟨q, h, by omega, by simp only [List.length_cons]; omega⟩
    · exact .inr ⟨i, rfl, Nat.le_refl _, by omega⟩
/-- What closes what is open. -/
def sgn (k : Int) : Int := if k = 18 then 8236 else 8297
/-- With all closed. -/
def closeM (l : List Int) : List Int := if (walkM 0 [] 0 l).2.2 = -1 then l else l.take (walkM 0 [] 0 l).2.2.toNat ++ (walkM 0 [] 0 l).1.reverse.map sgn
def balance_Close.f (l0 : List Int) : Option (List Int) := if l0.length < 4398046511104 then some (closeM l0) else none

set_option maxRecDepth 100000 in
set_option maxHeartbeats 2000000 in
theorem close_right (A0 : Option Addr) (c0 : Nat) (l0 : List Int) (w : World) (hr0 : Kd.C (Kd.int .i64) w A0 l0.length l0) (hc0 : l0.length ≤ c0) (hl : l0.length < 4398046511104) (hw : (walkM 0 [] 0 l0).2.2 = -1) :
    Calls Try.prog 18 #[.slice A0 l0.length c0] w fun e w' => ∃ v0_ : Value, e = .returned (v0_) ∧ Kd.R (Kd.int .i64) 3 w' w.heap.size (fun _ => True) v0_ l0 ∧ Below w.heap.size w w' := by
  have hct := walked_calls A0 c0 l0 w hr0 (by omega)
  rw [hw] at hct
  have hcl : ∀ W, Below w.heap.size w W → _ := fun W hb => slices_Clone_int.calls A0 c0 l0 l0 W (Kd.C_below hr0 hb) hc0 (by unfold slices_Clone_int.f; rw [if_pos (by omega)])
  clear hw hr0 hc0
  go_enter Try.func18, Try.ntmps18
  go_wp2_with (first
    | (go_at_call 21; (with_reducible refine hct.mono ?_); rintro e w' ⟨v, rfl, hq, hb⟩; obtain ⟨A2, c2, rfl, _⟩ := Kd.Q_slice hq; have HB := Aside0.mk hb; clear hq hb)
    | (go_at_call 24; (with_reducible refine (hcl _ (below_alloc HB.out _)).mono ?_); rintro e w2 ⟨v2, rfl, hq2, hb2⟩; obtain ⟨A3, c3, rfl⟩ := Kd.R_slice hq2; have HB2 := Aside0.mk hb2; have HQ2 := Aside0.mk hq2; clear hq2 hb2))
  go_ret
  exact ⟨_, rfl, Kd.R_lower HQ2.out (by rw [World.size_alloc]; have := HB.out.size; omega), below_step (below_alloc HB.out _) HB2.out⟩
set_option maxRecDepth 100000 in
set_option maxHeartbeats 4000000 in
theorem close_wrong (A0 : Option Addr) (c0 : Nat) (l0 : List Int) (w : World) (hr0 : Kd.C (Kd.int .i64) w A0 l0.length l0) (hc0 : l0.length ≤ c0) (hl : l0.length < 4398046511104) (op : List Int) (m : Int) (q : Nat) (hq : q ≤ l0.length) (hop : op.length ≤ l0.length) (hw : walkM 0 [] 0 l0 = (op, m, (q : Int))) :
    Calls Try.prog 18 #[.slice A0 l0.length c0] w fun e w' => ∃ v0_ : Value, e = .returned (v0_) ∧ Kd.R (Kd.int .i64) 3 w' w.heap.size (fun _ => True) v0_ (l0.take q ++ op.reverse.map sgn) ∧ Below w.heap.size w w' := by
  have hct := walked_calls A0 c0 l0 w hr0 (by omega)
  rw [hw] at hct
  have hlq : (l0.take q).length = q := by
    rw [List.length_take]
    omega
  have hcl : ∀ W, Below w.heap.size w W → _ := fun W hb => slices_Clone_int.calls A0 c0 (l0.take q) (l0.take q) W (Kd.C_take (Kd.C_below hr0 hb) hq) (by omega) (by unfold slices_Clone_int.f; rw [if_pos (by omega)])
  rw [hlq] at hcl
  have hne : ((q : Int) == -1) = false := by
    simp only [beq_eq_false_iff_ne, ne_eq]
    omega
  have h4 : ((0 : Int) ≤ (q : Int)) = True := eq_true (by omega)
  have h5 : ((q : Int) ≤ (c0 : Int)) = True := eq_true (by omega)
  clear hw hr0
  refine (callsIn_wide (n := 5)).1 ?_
  refine callsIn_of_wp_marks Try.func18 rfl trivial ?_ rfl
  simp only [Try.ntmps18, List.size_toArray, List.length_cons, List.length_nil, Nat.reduceAdd, Nat.reduceSub, Array.replicate_succ, Array.replicate_zero, List.push_toArray, List.append_toArray, List.nil_append, List.cons_append]
  gi_wp2_with (first
    | (refine ⟨trivial, ?_⟩; gi_at_call 21; refine (callsIn_wide.2 hct).mono ?_; rintro e w' ⟨v, rfl, hq, hb⟩; obtain ⟨A2, c2, rfl, _⟩ := Kd.Q_slice hq; have HB := Aside0.mk hb; have HQ := Aside0.mk hq; clear hq hb)
    | (refine ⟨trivial, ?_⟩; gi_at_call 24; refine (callsIn_wide.2 (hcl _ (below_alloc HB.out _))).mono ?_; rintro e w2 ⟨v2, rfl, hq2, hb2⟩; obtain ⟨A3, c3, rfl⟩ := Kd.R_slice hq2; rw [hlq] at hq2; have hs2 := (hb2.block w'.heap.size (by rw [World.size_alloc]; omega)).trans (heap_alloc_new w' _); have a0 := blk_cell (blk_alloc hs2 (.cells #[.slice A3 q c3] 22)) 0; have HS2 := Aside0.mk hs2; have HB2 := Aside0.mk hb2; have HQ2 := Aside0.mk hq2; clear hq2 hb2 hs2)
    | (refine ⟨trivial, ?_⟩; gi_at_call 30; refine (back_in Fence.wide _ trivial rfl _ _ _ _).mono ?_; rintro e w' ⟨rfl, rfl⟩))
  have hzero := HB.out.size
  have hz2 := HB2.out.size
  rw [World.size_alloc] at hz2
  have bO := Boxed.new w2 22 (.slice A3 q c3)
  have bN := Boxed.new (w2.alloc (.cells #[.slice A3 q c3] 22)) 22 (.slice A2 op.length c2)
  rw [World.size_alloc] at bN
  have hC : Kd.C (Kd.int .i64) ((w2.alloc (.cells #[.slice A3 q c3] 22)).alloc (.cells #[.slice A2 op.length c2] 22)) A2 op.length op :=
    Kd.C_below (Kd.C_below (Kd.Q_reads' HQ.out).2.2 (below_alloc (Below.refl _ _) _)) (below_alloc (below_alloc HB2.out _) _)
  have hB0 : Below w.heap.size w ((w2.alloc (.cells #[.slice A3 q c3] 22)).alloc (.cells #[.slice A2 op.length c2] 22)) := below_alloc (below_alloc (below_step (below_alloc HB.out _) HB2.out) _) _
  have hrow0 : ((w2.alloc (.cells #[.slice A3 q c3] 22)).alloc (.cells #[.slice A2 op.length c2] 22)).ownsRow w'.heap.size 3 1 (.slice A3 q c3) (q + 0) ((l0.take q ++ ([] : List (Int × Int)).map fun x => sgn x.2).map (Value.int .i64)) := by
    have h := Kd.own_of_R HQ2.out
    rw [hlq] at h
    have h2 := own_weaken h (base' := w'.heap.size) (by rw [World.size_alloc]; omega)
    simp only [List.map_nil, List.append_nil, Nat.add_zero]
    exact (h2.alloc _).alloc _
  have hsz : ((w2.alloc (.cells #[.slice A3 q c3] 22)).alloc (.cells #[.slice A2 op.length c2] 22)).heap.size = w2.heap.size + 2 := by simp
  obtain ⟨i0, hi, hz0, hz1, hz2'⟩ := info_parts binfo3
  refine wpIn_rangeFunc_ownG (α := Int × Int) rfl (by omega) (gf := 35) (lb := #[.pointer (some ⟨w2.heap.size + 1, 0, none⟩)]) rfl trivial (enters_of Try.func35 (by kernel_rfl) rfl)
    (back_stops Fence.wide _ trivial rfl (by omega) (w2.heap.size + 1) w'.heap.size c2 A2 op (by omega) _ (by rw [hsz]; omega) (fun ad e _ => Kd.Q_lt HQ.out ad.block (by rw [e]; rfl)) bN hC) backK_t (backK_b (by rw [hsz]; omega) (by rw [hsz]; omega)) (Below.refl _ _) (fun _ => rfl)
    (fun pre W => ((∃ v, Boxed W w2.heap.size 22 v ∧ W.ownsRow w'.heap.size 3 1 v (q + pre.length) ((l0.take q ++ pre.map fun x => sgn x.2).map (Value.int .i64)) ∧ True) ∧ Boxed W (w2.heap.size + 1) 22 (.slice A2 op.length c2)) ∧ Below w.heap.size w W)
    (fun _ _ _ => False)
    (OwnFrom.and (OwnFrom.and (Own.from (holdsRow_own w'.heap.size w2.heap.size 22 3 1 (fun (pre : List (Int × Int)) => q + pre.length) (fun (pre : List (Int × Int)) => (l0.take q ++ pre.map fun x => sgn x.2).map (Value.int .i64)) (fun _ _ => True)) _) (Own.from (boxed_own _ _ _) _)) (ownFrom_below (Nat.le_refl _) (by rw [hsz]; omega)))
    (fun _ _ _ _ _ hs _ _ => hs)
    ⟨⟨⟨_, bO.alloc _, hrow0, trivial⟩, bN⟩, hB0⟩
    (fun x => { tmps := #[.slice A0 l0.length c0, undef, .slice none 0 0, .pointer (some ⟨w'.heap.size, 0, none⟩), .int .i64 q, .pointer (some ⟨w2.heap.size, 0, none⟩), undef, .int .i64 x.2, .tuple #[.agg #[.slice A2 op.length c2, .int .i64 m], .int .i64 q], .slice A0 l0.length c0, .tuple #[.agg #[.slice A2 op.length c2, .int .i64 m], .int .i64 q], .agg #[.slice A2 op.length c2, .int .i64 m], .int .i64 q, .int .i64 q, .bool false, undef, undef, .slice A0 l0.length c0, .int .i64 q, .slice A0 q c0, .slice A3 q c3, .pointer (some ⟨w'.heap.size, 0, none⟩), .slice A2 op.length c2, .func (.func 35) #[] #[.pointer (some ⟨w2.heap.size + 1, 0, none⟩)], .int .i64 x.1, .int .i64 x.2, undef, undef, undef, undef, undef, undef, undef, undef, undef], defers := [] }) ?assign ?body ?done ?stop
  case assign =>
    intro l x W K hK
    gi_wp2
    exact hK
  case body =>
    rintro l pre x W ⟨⟨⟨v, hv, hrow, _⟩, hbx⟩, hB⟩ hlt
    have hc := hv.cell
    have hBs : w'.heap.size ≤ W.heap.size := by
      have := hbx.lt
      omega
    have fin : ∀ (s : Int) (w1 : World) (v' : Value), s = sgn x.2 → Boxed (w1.setCell ⟨w2.heap.size, 0, none⟩ v') w2.heap.size 22 v' → (w1.setCell ⟨w2.heap.size, 0, none⟩ v').ownsRow w'.heap.size 3 1 v' (q + pre.length + 1) ((l0.take q ++ pre.map fun x => sgn x.2).map (Value.int .i64) ++ [.int .i64 s]) → Boxed w1 (w2.heap.size + 1) 22 (.slice A2 op.length c2) → Below w'.heap.size W (w1.setCell ⟨w2.heap.size, 0, none⟩ v') →
        BackK w'.heap.size (w2.heap.size + 1) W (w1.setCell ⟨w2.heap.size, 0, none⟩ v') ∧ ((∃ v, Boxed (w1.setCell ⟨w2.heap.size, 0, none⟩ v') w2.heap.size 22 v ∧ (w1.setCell ⟨w2.heap.size, 0, none⟩ v').ownsRow w'.heap.size 3 1 v (q + (pre ++ [x]).length) ((l0.take q ++ (pre ++ [x]).map fun x => sgn x.2).map (Value.int .i64)) ∧ True) ∧ Boxed (w1.setCell ⟨w2.heap.size, 0, none⟩ v') (w2.heap.size + 1) 22 (.slice A2 op.length c2)) ∧ Below w.heap.size w (w1.setCell ⟨w2.heap.size, 0, none⟩ v') := by
      intro s w1 v' hs hv2 hr2 hbx1 hb2
      subst hs
      have hbx2 := hbx1.other (show w2.heap.size + 1 ≠ w2.heap.size by omega) v'
      refine ⟨⟨hb2, hbx2.trans hbx.symm⟩, ⟨⟨v', hv2, ?_, trivial⟩, hbx2⟩, hB.trans (hb2.mono hzero)⟩
      have e1 : q + (pre ++ [x]).length = q + pre.length + 1 := by simp; omega
      rw [e1]
      simpa using hr2
    have FIN := Aside0.mk fin
    clear fin
    by_cases h18 : x.2 = 18
    · have hs : (8236 : Int) = sgn x.2 := by
        unfold sgn
        rw [if_pos h18]
      have hb18 : (x.2 == 18) = true := by simpa using h18
      have HS := Aside0.mk hs
      clear hs h18
      gi_wp2_with (gi_at_builtin; refine wpListIn_append_own _ rfl _ _ 22 rfl w'.heap.size 3 i0 (.int .i64 0) 1 8 Try.underlying22 hi hz0 hz1 hz2' rfl (by decide) _ _ _ rfl (hrow.alloc _) ⟨W.heap.size, 0, none⟩ 1 1 [.int .i64 8236] rfl rfl (cell_one_new _ _ _) (by simp [Value.oneCell']) (by unfold maxLen; omega) (by omega) (by simp; omega) ?_; intro v' w1 hown' hgrow _; obtain ⟨g', cap', rfl⟩ := ownsRow_succ hown'; obtain ⟨hv1, hv2, hr2, hk2, hb2⟩ := hv.appended (by decide) hrow hBs (by omega) hown' hgrow; have hbx1 := hbx.kept ((World.grownBy_alloc W _ _).trans hgrow) (hbx.not_row (by decide) hrow); have HBX := Aside0.mk hbx1; have HR2 := Aside0.mk hr2; have HV2 := Aside0.mk hv2; have HK2 := Aside0.mk hk2; have HB3 := Aside0.mk hb2; have hc1 := hv1.cell; have hf1 := hv1.frozen; clear hbx1 hr2 hv2 hk2 hb2 hown' hgrow)
      exact ⟨HK2.out.from _, FIN.out _ _ _ HS.out HV2.out HR2.out HBX.out HB3.out⟩
    · have hs : (8297 : Int) = sgn x.2 := by
        unfold sgn
        rw [if_neg h18]
      have hb18 : (x.2 == 18) = false := by simpa using h18
      have HS := Aside0.mk hs
      clear hs h18
      gi_wp2_with (gi_at_builtin; refine wpListIn_append_own _ rfl _ _ 22 rfl w'.heap.size 3 i0 (.int .i64 0) 1 8 Try.underlying22 hi hz0 hz1 hz2' rfl (by decide) _ _ _ rfl (hrow.alloc _) ⟨W.heap.size, 0, none⟩ 1 1 [.int .i64 8297] rfl rfl (cell_one_new _ _ _) (by simp [Value.oneCell']) (by unfold maxLen; omega) (by omega) (by simp; omega) ?_; intro v' w1 hown' hgrow _; obtain ⟨g', cap', rfl⟩ := ownsRow_succ hown'; obtain ⟨hv1, hv2, hr2, hk2, hb2⟩ := hv.appended (by decide) hrow hBs (by omega) hown' hgrow; have hbx1 := hbx.kept ((World.grownBy_alloc W _ _).trans hgrow) (hbx.not_row (by decide) hrow); have HBX := Aside0.mk hbx1; have HR2 := Aside0.mk hr2; have HV2 := Aside0.mk hv2; have HK2 := Aside0.mk hk2; have HB3 := Aside0.mk hb2; have hc1 := hv1.cell; have hf1 := hv1.frozen; clear hbx1 hr2 hv2 hk2 hb2 hown' hgrow)
      exact ⟨HK2.out.from _, FIN.out _ _ _ HS.out HV2.out HR2.out HBX.out HB3.out⟩
  case done =>
    rintro D ys W hD rfl ⟨⟨⟨v, hv, hrow, _⟩, hbx⟩, hB⟩ hK
    have hc := hv.cell
    gi_wp2
    refine ⟨by simp, .inl ⟨_, _, rfl, run_takeDeferred hK, ?_⟩⟩
    have hr := ownsRow_putObj hrow (.deferred none) hK rfl
    have hbl := (bwd_vals op)
    refine ⟨_, results_tmp rfl _ _ _, v, rfl, ?_, hB.trans (belowK_b (w := w) (Nat.le_refl _) W D _ _ (by have := hB0.size; omega) hK rfl rfl)⟩
    have e1 : ((bwd op op.length).map fun x => sgn x.2) = op.reverse.map sgn := by
      rw [← bwd_vals op, List.map_map]
      rfl
    rw [e1] at hr
    have e2 : q + (bwd op op.length).length = (l0.take q ++ op.reverse.map sgn).length := by
      rw [bwd_len, List.length_append, hlq]
      simp
    rw [e2] at hr
    exact Kd.R_of_own (own_weaken hr hzero) (fun _ _ => trivial)
  case stop =>
    rintro D c pre W _ _ h _
    exact h.elim

theorem balance_Close.calls (A0 : Option Addr) (c0 : Nat) (l0 r : List Int) (w : World) (hr0 : Kd.C (Kd.int .i64) w A0 l0.length l0) (hc0 : l0.length ≤ c0) (h : balance_Close.f l0 = some r) :
    Calls Try.prog 18 #[.slice A0 l0.length c0] w fun e w' => ∃ v0_ : Value, e = .returned (v0_) ∧ Kd.R (Kd.int .i64) 3 w' w.heap.size (fun _ => True) v0_ r ∧ Below w.heap.size w w' := by
  unfold balance_Close.f at h
  by_cases hl : l0.length < 4398046511104
  · rw [if_pos hl] at h
    obtain rfl : closeM l0 = r := Option.some.inj h
    unfold closeM
    by_cases hw : (walkM 0 [] 0 l0).2.2 = -1
    · rw [if_pos hw]
      exact close_right A0 c0 l0 w hr0 hc0 hl hw
    · rw [if_neg hw]
      rcases walkM_wrong l0 0 [] 0 with h0 | ⟨q, h1, _, h2⟩
      · exact (hw h0).elim
      · rw [h1, Int.toNat_natCast]
        have h3 := walkM_len l0 0 [] 0
        exact close_wrong A0 c0 l0 w hr0 hc0 hl _ (walkM 0 [] 0 l0).2.1 q (by omega) (by simpa using h3) (by rw [← h1])
  · rw [if_neg hl] at h
    cases h
end Go.Proofs.Ytpgpckglgkichaa.P
