/- Texts of this claim put together by a program of its own (SSwap), what the law does not use left out: each part's statements bear their own conditions. -/
import Derived.Lib.AppendZeros
import Derived.Deep.RegionHeld3
import Derived.WalkKit
import Derived.WalkSpells
import Derived.ProofKit
import Derived.Test.YthgmkbghdobmlaaC11
import Derived.Test.YthgmkbghdobmlaaC12
import Derived.Test.YthgmkbghdobmlaaC13
import Derived.Test.YthgmkbghdobmlaaC14
namespace Go.Proofs.Ythgmkbghdobmlaa.P
open Go.RowKit Go.Proofs.YthgmkbghdobmlaaW.PrintWords Go.Proofs.YthgmkbghdobmlaaW.PrintLast Go.Proofs.YthgmkbghdobmlaaW.PrintMore
set_option linter.unusedVariables false
set_option linter.unusedSimpArgs false

set_option maxHeartbeats 1000000 in
set_option maxRecDepth 100000 in
theorem grow_calls (n : Nat) (w : World) (hn : n < 8796093022208) :
    Calls Try.prog 62 #[.slice none 0 0, .int .i64 (n : Int)] w fun e w' => ∃ v : Value, e = .returned v ∧ Kd.R (Kd.int .i64) 3 w' w.heap.size (fun _ => True) v ([] : List Int) ∧ Below w.heap.size w w' := by
  obtain ⟨i, hi, hz, hs, hb⟩ := info_parts info3
  have h0 : decide ((n : Int) < 0) = false := decide_eq_false (by omega)
  have hw : wrap64 (n : Int) = (n : Int) := wrap_id (by omega) (by omega)
  by_cases hp : 0 < n
  · have h1 : decide ((0 : Int) < (n : Int)) = true := decide_eq_true (by omega)
    have hrun := Lib.run_append_nil_zeros (P := Try.prog) w 22 3 22 3 i (.int .i64 0) .i64 .i64 Try.underlying22 Try.underlying3 hi hz n hp (by omega) (by omega) (by rw [hb]; omega)
    have hC1 := grownCap_ge w n 0 3
    have hC2 := grownCap_le_maxLen w n 0 3 (by simp only [maxLen]; omega)
    obtain ⟨C, hC⟩ : ∃ C, grownCap w n 0 3 = C := ⟨_, rfl⟩
    rw [hC] at hrun hC1 hC2
    have hZs : (Builtin.zeroCells (Value.int .i64 0).cells n ++ Builtin.zeroCells (Value.int .i64 0).cells (C - n)).size = C := by
      simp [size_zeroCells, Value.cells]
      omega
    obtain ⟨Z, hZ⟩ : ∃ Z, Builtin.zeroCells (Value.int .i64 0).cells n ++ Builtin.zeroCells (Value.int .i64 0).cells (C - n) = Z := ⟨_, rfl⟩
    rw [hZ] at hrun hZs
    rw [← hw] at hrun
    have h1' : decide ((0 : Int) < wrap64 (n : Int)) = true := by rw [hw]; exact h1
    have HC2 := Aside0.mk hC2
    have HZ := Aside0.mk hZs
    have HRUN := Aside0.mk hrun
    clear hC hZ hC2 hZs hi hz hs hb hrun hn
    go_enter Try.func62, Try.ntmps62
    go_wp2_with (at_builtin; refine Lib.wpList_append_run _ rfl _ _ _ _ rfl _ _ rfl rfl _ _ HRUN.out ?_)
    go_ret
    exact ⟨_, rfl, Kd.R_of_own (World.ownsRow_made w.drew Z C (Nat.le_refl _) HC2.out (by rw [HZ.out, Nat.mul_one])) (fun _ _ => trivial), below_alloc (below_drew (Below.refl _ _)) _⟩
  · obtain rfl : n = 0 := by omega
    clear hp hn
    go_enter Try.func62, Try.ntmps62
    go_wp2
    go_ret
    exact ⟨_, rfl, Kd.R_nil _ _ _ _ _, Below.refl _ _⟩
/-- The parts of a list of slices: how many elements up to one of them. -/
def sumL (ps : List (List Int)) (i : Nat) : Nat := (ps.take i).flatten.length
theorem take_next {α : Type} (ps : List (List α)) (i : Nat) (h : i < ps.length) : (ps.take (i + 1)).flatten = (ps.take i).flatten ++ ps.getD i [] := by
  rw [List.take_succ_eq_append_getElem h, List.flatten_append, List.getD_eq_getElem?_getD, List.getElem?_eq_getElem h]
  simp
theorem sumL_next (ps : List (List Int)) (i : Nat) (h : i < ps.length) : sumL ps (i + 1) = sumL ps i + (ps.getD i []).length := by
  unfold sumL
  rw [take_next ps i h, List.length_append]
theorem sumL_le (ps : List (List Int)) (i : Nat) : sumL ps i ≤ ps.flatten.length := by
  unfold sumL
  conv => rhs; rw [← List.take_append_drop i ps]
  rw [List.flatten_append, List.length_append]
  omega
theorem sumL_all (ps : List (List Int)) : sumL ps ps.length = ps.flatten.length := by
  unfold sumL
  rw [List.take_length]
set_option maxHeartbeats 2000000 in
set_option maxRecDepth 100000 in
theorem concat_calls (w0 w : World) (g : Nat) (ps : List (List Int)) (vA : Nat → Option Addr) (vc : Nat → Nat) (hn : ps.length < 1000) (hl : ps.flatten.length < 8796093022208)
    (hc : ∀ i : Nat, i < ps.length → w.cell? ⟨g, i, none⟩ = some (.slice (vA i) (ps.getD i []).length (vc i))) (hr : ∀ i : Nat, i < ps.length → Kd.C (Kd.int .i64) w (vA i) (ps.getD i []).length (ps.getD i [])) :
    Calls Try.prog 42 #[.slice (some ⟨g, 0, none⟩) ps.length ps.length] w fun e w' => ∃ v : Value, e = .returned v ∧ Kd.R (Kd.int .i64) 3 w' w.heap.size (fun _ => True) v ps.flatten ∧ Below w.heap.size w w' := by
  have HC := Aside0.mk hc
  have HR := Aside0.mk hr
  have HN := Aside0.mk hn
  have HL := Aside0.mk hl
  clear hc hr hn hl
  go_enter Try.func42, Try.ntmps42
  go_wp2
  go_loopg [3, 11] (ps.length + 1) (fun gk s3 s11 wx => ∃ i : Nat, s3 = .int .i64 ((sumL ps i : Nat) : Int) ∧ s11 = .int .i64 (i : Int) ∧ i ≤ ps.length ∧ ps.length - i < gk ∧ wx = w)
  case atStart => exact ⟨0, rfl, rfl, Nat.zero_le _, by omega, rfl⟩
  case round =>
    obtain ⟨i, rfl, rfl, hi, hg, hwx⟩ := hrel
    have hwx2 := hwx.symm
    subst hwx2
    clear hwx
    by_cases h : i < ps.length
    · obtain ⟨g', rfl⟩ : ∃ g', gk = g' + 1 := ⟨gk - 1, by omega⟩
      have hx := HC.out i h
      have hsl := sumL_le ps (i + 1)
      have hs := sumL_next ps i h
      obtain ⟨y, hy⟩ : ∃ y, ps.getD i [] = y := ⟨_, rfl⟩
      rw [hy] at hx hs
      have h1 : decide ((i : Int) < (ps.length : Int)) = true := decide_eq_true (by omega)
      have h2 : ((0 : Int) ≤ (i : Int)) = True := eq_true (by omega)
      have h3 : ((i : Int) < (ps.length : Int)) = True := eq_true (by omega)
      have hw1 : wrap64 ((i : Int) + 1) = ((i + 1 : Nat) : Int) := wrap_succ i (by have := HN.out; omega)
      have hw2 : wrap64 (((sumL ps i : Nat) : Int) + (y.length : Int)) = ((sumL ps (i + 1) : Nat) : Int) := by
        rw [wrap_id (by omega) (by have := HL.out; omega)]
        omega
      have h4 : decide (((sumL ps (i + 1) : Nat) : Int) < 0) = false := decide_eq_false (by omega)
      obtain ⟨q, hq⟩ : ∃ q, sumL ps (i + 1) = q := ⟨_, rfl⟩
      rw [hq] at hw2 h4
      have HQ := Aside0.mk hq
      have HW1 := Aside0.mk hw1
      clear hs hsl hq hw1 hy
      go_wp2
      go_roundg g'
      case measure => omega
      case rel => exact ⟨i + 1, by rw [HQ.out, hw2], by rw [HW1.out], by omega, by omega, rfl⟩
    · obtain rfl : i = ps.length := by omega
      have h1 : decide ((ps.length : Int) < (ps.length : Int)) = false := decide_eq_false (by omega)
      have hgr := grow_calls (sumL ps ps.length) w (by rw [sumL_all]; exact HL.out)
      clear hg hi h
      go_wp2_with (go_at_call 62; refine hgr.mono ?_; rintro e w1 ⟨v, rfl, hR, hB⟩; have HRR := Aside0.mk hR; have HB := Aside0.mk hB; clear hR hB)
      go_loopg [6, 27] (ps.length + 1) (fun gk s6 s27 wx => ∃ i : Nat, s27 = .int .i64 (i : Int) ∧ i ≤ ps.length ∧ ps.length - i < gk ∧ Aside0 (Kd.R (Kd.int .i64) 3 wx w.heap.size (fun _ => True) s6 (ps.take i).flatten) ∧ Aside0 (Below w.heap.size w wx))
      case atStart => exact ⟨0, rfl, Nat.zero_le _, by omega, HRR, HB⟩
      case round =>
        clear HRR HB
        obtain ⟨i, rfl, hi, hg, HO, HB⟩ := hrel
        by_cases h : i < ps.length
        · obtain ⟨g', rfl⟩ : ∃ g', gk = g' + 1 := ⟨gk - 1, by omega⟩
          have hx := cell_later HB.out (HC.out i h)
          have hri := Aside0.mk (Kd.C_below (HR.out i h) HB.out)
          have htn := take_next ps i h
          have hsl := sumL_le ps (i + 1)
          have hs := sumL_next ps i h
          unfold sumL at hsl hs
          have HLN := Aside0.mk (show ((ps.take i).flatten.length + (ps.getD i []).length) * 8 ≤ 140737488355328 by have := HL.out; omega)
          obtain ⟨y, hy⟩ : ∃ y, ps.getD i [] = y := ⟨_, rfl⟩
          rw [hy] at hx hri htn HLN
          obtain ⟨z, hz⟩ : ∃ z, (ps.take i).flatten = z := ⟨_, rfl⟩
          rw [hz] at HO htn HLN
          have HTN := Aside0.mk htn
          have h1 : decide ((i : Int) < (ps.length : Int)) = true := decide_eq_true (by omega)
          have h2 : ((0 : Int) ≤ (i : Int)) = True := eq_true (by omega)
          have h3 : ((i : Int) < (ps.length : Int)) = True := eq_true (by omega)
          have hw1 : wrap64 ((i : Int) + 1) = ((i + 1 : Nat) : Int) := wrap_succ i (by have := HN.out; omega)
          have HW1 := Aside0.mk hw1
          clear hsl hs hy hz htn hw1
          go_wp2_with (first | ((with_reducible refine gate_builtin (b := .append) (xs := #[.tmp 31, .tmp 32]) rfl ?_); at_builtin; refine Kd.R_append_rows (Kd.int .i64) (w0 := w) w.heap.size rfl (.tmp 31) (.tmp 32) 22 3 (.int .i64 0) 8 rfl Try.underlying22 cinfo3 rfl (by decide) (by omega) _ z y _ _ _ (fun k_ => True) (fun _ => False) rfl rfl ?aO ?aR (fun _ _ h => h) (fun _ h => h.elim) ?aF ?aB ?aS ?aL ?_; (case aR => exact hri.out); (case aB => exact HB.out); (case aF => exact (fun k_ hk => trivial)); (case aO => exact HO.out); (case aS => exact (below_size HB.out)); (case aL => exact HLN.out); intro v257 w34 ho hb hg hat; have HO2 := Aside0.mk ho; clear HB; have HB := Aside0.mk hb; clear ho hb hg hat))
          go_roundg g'
          case measure => omega
          case rel => exact ⟨i + 1, by rw [HW1.out], by omega, by omega, ⟨by rw [HTN.out]; exact HO2.out⟩, HB⟩
        · obtain rfl : i = ps.length := by omega
          have h1 : decide ((ps.length : Int) < (ps.length : Int)) = false := decide_eq_false (by omega)
          clear hg hi h
          go_wp2
          go_ret
          exact ⟨_, rfl, by have := HO.out; rw [List.take_length] at this; exact this, HB.out⟩
set_option maxHeartbeats 1000000 in
theorem concat4_calls (w : World) (g : Nat) (a0 a1 a2 a3 : List Int) (v0 v1 v2 v3 : Option Addr) (d0 d1 d2 d3 : Nat) (t : TypeId) (r : List Int) (hr : ([a0, a1, a2, a3] : List (List Int)).flatten = r) (hl : r.length < 8796093022208)
    (hb : w.heap[g]? = some (.cells #[.slice v0 a0.length d0, .slice v1 a1.length d1, .slice v2 a2.length d2, .slice v3 a3.length d3] t (0, 0)))
    (h0 : Kd.C (Kd.int .i64) w v0 a0.length a0) (h1 : Kd.C (Kd.int .i64) w v1 a1.length a1) (h2 : Kd.C (Kd.int .i64) w v2 a2.length a2) (h3 : Kd.C (Kd.int .i64) w v3 a3.length a3) :
    Calls Try.prog 42 #[.slice (some ⟨g, 0, none⟩) 4 4] w fun e w' => ∃ v : Value, e = .returned v ∧ Kd.R (Kd.int .i64) 3 w' w.heap.size (fun _ => True) v r ∧ Below w.heap.size w w' := by
  subst hr
  refine concat_calls w w g [a0, a1, a2, a3] (fun i => if i = 0 then v0 else if i = 1 then v1 else if i = 2 then v2 else v3) (fun i => if i = 0 then d0 else if i = 1 then d1 else if i = 2 then d2 else d3) (by simp) hl ?_ ?_
  · intro i hi
    match i, hi with
    | 0, _ => exact blk_cell hb 0
    | 1, _ => exact blk_cell hb 1
    | 2, _ => exact blk_cell hb 2
    | 3, _ => exact blk_cell hb 3
    | n + 4, h => simp at h; omega
  · intro i hi
    match i, hi with
    | 0, _ => exact h0
    | 1, _ => exact h1
    | 2, _ => exact h2
    | 3, _ => exact h3
    | n + 4, h => simp at h; omega
def swap_looked.f (k : Nat) (l0 : List Int) (l1 : List S39) (l2 : List Int) : Option (List Int × Bool) := (norm_Of.f k l0 0).bind fun bt => (slices_ContainsFunc_int_swap_looked_1.f k l0).bind fun c => if c = true then some (bt.2, false) else (slices_ContainsFunc_int_swap_looked_1.f k l2).bind fun c2 => if c2 = true then some (bt.2, false) else (scan_Right.f k l1 (wrap64 ((bt.2.length : Int) - 1))).bind fun r => some (bt.2, r)
/-- What looked leaves: a text's struct, in block g: the list that came in, and its places. -/
def TextAt (g : Nat) (A0 : Option Addr) (n c0 : Nat) (v : Value) (w : World) : Prop := w.cell? ⟨g, 0, none⟩ = some (.slice A0 n c0) ∧ w.cell? ⟨g, 1, none⟩ = some v
theorem TextAt.below {g : Nat} {A0 : Option Addr} {n c0 : Nat} {v : Value} {w w' : World} (h : TextAt g A0 n c0 v w) (hb : Below w.heap.size w w') : TextAt g A0 n c0 v w' := ⟨cell_later hb h.1, cell_later hb h.2⟩
theorem TextAt.new (A0 : Option Addr) (n c0 : Nat) (v : Value) (w : World) (t : TypeId) : TextAt w.heap.size A0 n c0 v (w.alloc (.cells #[.slice A0 n c0, v] t)) := ⟨blk_cell (heap_alloc_new w _) 0, blk_cell (heap_alloc_new w _) 1⟩
set_option maxHeartbeats 2000000 in
set_option maxRecDepth 100000 in
theorem looked_calls (k : Nat) (A0 : Option Addr) (c0 : Nat) (l0 : List Int) (A1 : Option Addr) (c1 : Nat) (l1 : List S39) (A2 : Option Addr) (c2 : Nat) (l2 : List Int) (at_ : List Int) (b : Bool) (w : World) (hr0 : Kd.C (Kd.int .i64) w A0 l0.length l0) (hc0 : l0.length ≤ c0) (hr1 : Kd.C k39 w A1 l1.length l1) (hc1 : l1.length ≤ c1) (hr2 : Kd.C (Kd.int .i64) w A2 l2.length l2) (hc2 : l2.length ≤ c2) (h : swap_looked.f k l0 l1 l2 = some (at_, b)) :
    Calls Try.prog 24 #[.slice A0 l0.length c0, .slice A1 l1.length c1, .slice A2 l2.length c2] w fun e w' => ∃ (g : Nat) (v : Value), e = .returned (.tuple #[.pointer (some ⟨g, 0, none⟩), .bool b]) ∧ TextAt g A0 l0.length c0 v w' ∧ Kd.R (Kd.int .i64) 3 w' w.heap.size (fun _ => True) v at_ ∧ Below w.heap.size w w' := by
  unfold swap_looked.f at h
  obtain ⟨⟨x1, x2⟩, E10, h⟩ := Option.bind_eq_some_iff.mp h
  obtain ⟨cb, E20, h⟩ := Option.bind_eq_some_iff.mp h
  have E1 := Aside0.mk E10
  have E2 := Aside0.mk E20
  have HR0 := Aside0.mk hr0
  have HC0 := Aside0.mk hc0
  have HR1 := Aside0.mk hr1
  have HC1 := Aside0.mk hc1
  have HR2 := Aside0.mk hr2
  have HC2 := Aside0.mk hc2
  clear E10 E20 hr0 hc0 hr1 hc1 hr2 hc2
  cases cb with
  | true =>
    rw [if_pos rfl] at h
    simp only [Option.some.injEq, Prod.mk.injEq] at h
    obtain ⟨rfl, rfl⟩ := h
    go_enter Try.func24, Try.ntmps24
    go_wp2_with (first | (go_at_call 38; (with_reducible refine (norm_Of.calls k _ _ l0 0 x1 _ _ ?side1 ?side2 E1.out).mono ?_); (case side1 => exact HR0.out); (case side2 => exact HC0.out); rintro e w6 ⟨v1, v2, rfl, ho0, ho1, hb⟩; obtain ⟨Aa, ca, rfl⟩ := Kd.R_slice ho0; obtain ⟨Ab, cB, rfl⟩ := Kd.R_slice ho1; have HB := Aside0.mk hb; have HO := Aside0.mk (Kd.R_mono ho1 (fun _ _ => trivial)); clear hb ho0 ho1) | (go_at_call 39; (with_reducible refine (slices_ContainsFunc_int_swap_looked_1.calls k _ _ l0 true _ ?side1 ?side2 E2.out).mono ?_); (case side1 => repeat (first | exact (Kd.C_below HR0.out HB.out) | (with_reducible refine Kd.C_alloc ?_ _) | (with_reducible refine Kd.C_drewN ?_ _) | (with_reducible refine Kd.C_drew ?_))); (case side2 => exact HC0.out); rintro e w14 ⟨rfl, ⟨nd, rfl⟩⟩))
    go_ret2
    exact ⟨_, _, rfl, (TextAt.new _ _ _ _ _ _).below (by repeat (first | exact Below.refl _ _ | apply pw_below_drewN)), by repeat (first | exact HO.out | apply Kd.R_alloc | apply Kd.R_drewN | apply Kd.R_drew), by repeat (first | (with_reducible first | exact HB.out | apply below_alloc | apply pw_below_drewN | apply below_drew1) | exact HB.out)⟩
  | false =>
    rw [if_neg (by simp)] at h
    obtain ⟨cb2, E30, h⟩ := Option.bind_eq_some_iff.mp h
    have E3 := Aside0.mk E30
    clear E30
    cases cb2 with
    | true =>
      rw [if_pos rfl] at h
      simp only [Option.some.injEq, Prod.mk.injEq] at h
      obtain ⟨rfl, rfl⟩ := h
      go_enter Try.func24, Try.ntmps24
      go_wp2_with (first | (go_at_call 38; (with_reducible refine (norm_Of.calls k _ _ l0 0 x1 _ _ ?side1 ?side2 E1.out).mono ?_); (case side1 => exact HR0.out); (case side2 => exact HC0.out); rintro e w6 ⟨v1, v2, rfl, ho0, ho1, hb⟩; obtain ⟨Aa, ca, rfl⟩ := Kd.R_slice ho0; obtain ⟨Ab, cB, rfl⟩ := Kd.R_slice ho1; have HB := Aside0.mk hb; have HO := Aside0.mk (Kd.R_mono ho1 (fun _ _ => trivial)); clear hb ho0 ho1) | (go_at_call 39; (with_reducible refine (slices_ContainsFunc_int_swap_looked_1.calls k _ _ l0 false _ ?side1 ?side2 E2.out).mono ?_); (case side1 => repeat (first | exact (Kd.C_below HR0.out HB.out) | (with_reducible refine Kd.C_alloc ?_ _) | (with_reducible refine Kd.C_drewN ?_ _) | (with_reducible refine Kd.C_drew ?_))); (case side2 => exact HC0.out); rintro e w14 ⟨rfl, ⟨nd, rfl⟩⟩) | (go_at_call 39; (with_reducible refine (slices_ContainsFunc_int_swap_looked_1.calls k _ _ l2 true _ ?side1 ?side2 E3.out).mono ?_); (case side1 => repeat (first | exact (Kd.C_below HR2.out HB.out) | (with_reducible refine Kd.C_alloc ?_ _) | (with_reducible refine Kd.C_drewN ?_ _) | (with_reducible refine Kd.C_drew ?_))); (case side2 => exact HC2.out); rintro e w14 ⟨rfl, ⟨nd, rfl⟩⟩))
      go_ret2
      exact ⟨_, _, rfl, (TextAt.new _ _ _ _ _ _).below (by repeat (first | exact Below.refl _ _ | apply pw_below_drewN)), by repeat (first | exact HO.out | apply Kd.R_alloc | apply Kd.R_drewN | apply Kd.R_drew), by repeat (first | (with_reducible first | exact HB.out | apply below_alloc | apply pw_below_drewN | apply below_drew1) | exact HB.out)⟩
    | false =>
      rw [if_neg (by simp)] at h
      obtain ⟨r, E40, h⟩ := Option.bind_eq_some_iff.mp h
      have E4 := Aside0.mk E40
      clear E40
      simp only [Option.some.injEq, Prod.mk.injEq] at h
      obtain ⟨rfl, rfl⟩ := h
      go_enter Try.func24, Try.ntmps24
      go_wp2_with (first | (go_at_call 38; (with_reducible refine (norm_Of.calls k _ _ l0 0 x1 _ _ ?side1 ?side2 E1.out).mono ?_); (case side1 => exact HR0.out); (case side2 => exact HC0.out); rintro e w6 ⟨v1, v2, rfl, ho0, ho1, hb⟩; obtain ⟨Aa, ca, rfl⟩ := Kd.R_slice ho0; obtain ⟨Ab, cB, rfl⟩ := Kd.R_slice ho1; have HB := Aside0.mk hb; have HO := Aside0.mk (Kd.R_mono ho1 (fun _ _ => trivial)); clear hb ho0 ho1) | (go_at_call 39; (with_reducible refine (slices_ContainsFunc_int_swap_looked_1.calls k _ _ l0 false _ ?side1 ?side2 E2.out).mono ?_); (case side1 => repeat (first | exact (Kd.C_below HR0.out HB.out) | (with_reducible refine Kd.C_alloc ?_ _) | (with_reducible refine Kd.C_drewN ?_ _) | (with_reducible refine Kd.C_drew ?_))); (case side2 => exact HC0.out); rintro e w14 ⟨rfl, ⟨nd, rfl⟩⟩) | (go_at_call 39; (with_reducible refine (slices_ContainsFunc_int_swap_looked_1.calls k _ _ l2 false _ ?side1 ?side2 E3.out).mono ?_); (case side1 => repeat (first | exact (Kd.C_below HR2.out HB.out) | (with_reducible refine Kd.C_alloc ?_ _) | (with_reducible refine Kd.C_drewN ?_ _) | (with_reducible refine Kd.C_drew ?_))); (case side2 => exact HC2.out); rintro e w14 ⟨rfl, ⟨nd, rfl⟩⟩) | (go_at_call 40; (with_reducible refine (scan_Right.calls k _ _ l1 _ r _ ?side1 ?side2 E4.out).mono ?_); (case side1 => repeat (first | exact (Kd.C_below HR1.out HB.out) | (with_reducible refine Kd.C_alloc ?_ _) | (with_reducible refine Kd.C_drewN ?_ _) | (with_reducible refine Kd.C_drew ?_))); (case side2 => exact HC1.out); rintro e w15 ⟨rfl, hb⟩; have HB2 := Aside0.mk hb; clear hb))
      go_ret2
      exact ⟨_, _, rfl, ((TextAt.new _ _ _ _ _ _).below (by repeat (first | exact Below.refl _ _ | apply pw_below_drewN))).below HB2.out, Kd.R_below (by repeat (first | exact HO.out | apply Kd.R_alloc | apply Kd.R_drewN | apply Kd.R_drew)) HB2.out, below_step (by repeat (first | (with_reducible first | exact HB.out | apply below_alloc | apply pw_below_drewN | apply below_drew1) | exact HB.out)) HB2.out⟩
def swap_exchange.l0 : Nat → List Int → List Int → List S39 → List Int → List Int → Int → Int → Option (List Int × Int)
  | 0, _, _, _, _, _, _, _ => none
  | k + 1, l, at_, sp, pl, out, last, i => if i < (sp.length : Int) then (if 0 ≤ i then ((norm_Back.f at_ (rd_T39 sp i).f0 (rd_T39 sp i).f1).bind fun b => if 0 ≤ last ∧ last ≤ b.1 ∧ b.1 ≤ b.2.1 ∧ b.2.1 ≤ (l.length : Int) then ((balance_Controls.f ((l.take b.2.1.toNat).drop b.1.toNat)).bind fun ct => if ([out, (l.take b.1.toNat).drop last.toNat, pl, ct] : List (List Int)).flatten.length < 8796093022208 then (if ((([out, (l.take b.1.toNat).drop last.toNat, pl, ct] : List (List Int)).flatten.length : Nat) : Int) > 8000 then some ([], 2) else swap_exchange.l0 k l at_ sp pl ([out, (l.take b.1.toNat).drop last.toNat, pl, ct] : List (List Int)).flatten b.2.1 (wrap64 (i + 1))) else none) else none) else none) else (if 0 ≤ last ∧ last ≤ (l.length : Int) then (if out.length + (l.drop last.toNat).length < 8796093022208 then (if (((out ++ l.drop last.toNat).length : Nat) : Int) > 8000 then some ([], 2) else some (out ++ l.drop last.toNat, 0)) else none) else none)
def swap_exchange.f (k : Nat) (l at_ : List Int) (sp : List S39) (l2 : List Int) : Option (List Int × Int) := (swap_Plain.f l2).bind fun pl => swap_exchange.l0 k l at_ sp pl [] 0 0
set_option maxHeartbeats 4000000 in
set_option maxRecDepth 100000 in
theorem exchange_calls (k : Nat) (gt : Nat) (A0 : Option Addr) (c0 : Nat) (l0 : List Int) (v : Value) (at_ : List Int) (A1 : Option Addr) (c1 : Nat) (l1 : List S39) (A2 : Option Addr) (c2 : Nat) (l2 : List Int) (r1 : List Int) (r2 : Int) (w : World) (hT : TextAt gt A0 l0.length c0 v w) (base : Nat) (okv : Nat → Prop) (hRv : Kd.R (Kd.int .i64) 3 w base okv v at_) (hr0 : Kd.C (Kd.int .i64) w A0 l0.length l0) (hc0 : l0.length ≤ c0) (hr1 : Kd.C k39 w A1 l1.length l1) (hc1 : l1.length ≤ c1) (hr2 : Kd.C (Kd.int .i64) w A2 l2.length l2) (hc2 : l2.length ≤ c2) (h : swap_exchange.f k l0 at_ l1 l2 = some (r1, r2)) :
    Calls Try.prog 25 #[.pointer (some ⟨gt, 0, none⟩), .slice A1 l1.length c1, .slice A2 l2.length c2] w fun e w' => ∃ u : Value, e = .returned (.tuple #[u, .int .i64 r2]) ∧ Kd.R (Kd.int .i64) 3 w' w.heap.size (fun _ => True) u r1 ∧ Below w.heap.size w w' := by
  have hu39 := Try.underlying39
  obtain ⟨Av, cv, rfl⟩ := Kd.R_slice hRv
  have HV := Aside0.mk (Kd.R_reads' hRv).2.2
  have HVC := Aside0.mk (Kd.R_reads' hRv).2.1
  unfold swap_exchange.f at h
  obtain ⟨pl, E10, H⟩ := Option.bind_eq_some_iff.mp h
  have E1 := Aside0.mk E10
  have H' := Aside0.mk H
  have HT := Aside0.mk hT
  have HR0 := Aside0.mk hr0
  have HC0 := Aside0.mk hc0
  have HR1 := Aside0.mk hr1
  have HC1 := Aside0.mk hc1
  have HR2 := Aside0.mk hr2
  have HC2 := Aside0.mk hc2
  clear E10 H h hT hr0 hc0 hr1 hc1 hr2 hc2 hRv
  go_enter Try.func25, Try.ntmps25
  go_wp2_with (go_at_call 17; (with_reducible refine (swap_Plain.calls _ _ l2 pl _ ?side1 ?side2 E1.out).mono ?_); (case side1 => exact HR2.out); (case side2 => exact HC2.out); rintro e w6 ⟨v1, rfl, ho0, hb⟩; obtain ⟨Ap, cp, rfl⟩ := Kd.R_slice ho0; have HB := Aside0.mk hb; have HP := Aside0.mk (Kd.R_reads' ho0).2.2; have HPC := Aside0.mk (Kd.R_reads' ho0).2.1; clear hb ho0)
  have HBP := HB
  go_loopg [9, 10, 19] k (fun kq v9 v10 v19 wx => ∃ (out : List Int) (last i : Int), v10 = .int .i64 last ∧ v19 = .int .i64 i ∧ Aside0 (swap_exchange.l0 kq l0 at_ l1 pl out last i = some (r1, r2)) ∧ Aside0 (kq ≤ k) ∧ Aside0 (Kd.R (Kd.int .i64) 3 wx w.heap.size (fun _ => True) v9 out) ∧ Aside0 (Below w.heap.size w wx) ∧ Aside0 (Below w6.heap.size w6 wx))
  case atStart => exact ⟨[], 0, 0, rfl, rfl, H', ⟨Nat.le_refl _⟩, ⟨Kd.R_nil _ _ _ _ _⟩, HB, ⟨Below.refl _ _⟩⟩
  case round =>
    clear H' HB
    obtain ⟨out, last, i, rfl, rfl, HA, HK, HO, HB, HB6⟩ := hrel
    cases gk with
    | zero => exact absurd HA.out (by simp [swap_exchange.l0])
    | succ k1 =>
      have H := HA.out
      clear HA
      simp only [swap_exchange.l0] at H
      by_cases c1_ : i < (l1.length : Int)
      · rw [if_pos c1_] at H
        have c1b : decide (i < (l1.length : Int)) = true := decide_eq_true c1_
        by_cases c2_ : 0 ≤ i
        rotate_left
        · rw [if_neg c2_] at H
          exact absurd H (by simp)
        rw [if_pos c2_] at H
        obtain ⟨⟨b1, b2, b3⟩, E20, H⟩ := Option.bind_eq_some_iff.mp H
        have E2 := Aside0.mk E20
        clear E20
        dsimp only at H
        by_cases c3_ : 0 ≤ last ∧ last ≤ b1 ∧ b1 ≤ b2 ∧ b2 ≤ (l0.length : Int)
        rotate_left
        · rw [if_neg c3_] at H
          exact absurd H (by simp)
        rw [if_pos c3_] at H
        obtain ⟨i03, hi03, _, hsz3, _⟩ := info_parts info3
        obtain ⟨Am, hcut1, hA1, hC1⟩ := print_mid_of (P := Try.prog) (Value.int .i64) 0 22 3 .i64 .i64 Try.underlying22 hi03 hsz3 A0 c0 l0 last b1 c3_.1 c3_.2.1 (Int.le_trans c3_.2.2.1 c3_.2.2.2) HC0.out
        obtain ⟨An2, hcut2, hA2, hC2⟩ := print_mid_of (P := Try.prog) (Value.int .i64) 0 22 3 .i64 .i64 Try.underlying22 hi03 hsz3 A0 c0 l0 b1 b2 (Int.le_trans c3_.1 c3_.2.1) c3_.2.2.1 c3_.2.2.2 HC0.out
        have hA1' := hA1 _ (Kd.reads_of_C HR0.out)
        have hA2' := hA2 _ (Kd.reads_of_C HR0.out)
        obtain ⟨mid, hmid⟩ : ∃ m, (l0.take b1.toNat).drop last.toNat = m := ⟨_, rfl⟩
        obtain ⟨mid2, hmid2⟩ : ∃ m, (l0.take b2.toNat).drop b1.toNat = m := ⟨_, rfl⟩
        obtain ⟨cm, hcm⟩ : ∃ m, c0 - last.toNat = m := ⟨_, rfl⟩
        obtain ⟨cm2, hcm2⟩ : ∃ m, c0 - b1.toNat = m := ⟨_, rfl⟩
        rw [hmid, hmid2] at H
        rw [hmid] at hA1'
        rw [hmid2] at hA2'
        rw [hmid, hcm] at hC1
        rw [hmid2, hcm2] at hC2
        simp only [hmid, hcm] at hcut1
        simp only [hmid2, hcm2] at hcut2
        have HCUT1 := Aside0.mk hcut1
        have HCUT2 := Aside0.mk hcut2
        have HM1 := Aside0.mk (Kd.C_of_reads (h1 := fun _ => rfl) hA1')
        have HM2 := Aside0.mk (Kd.C_of_reads (h1 := fun _ => rfl) hA2')
        have HMC2 := Aside0.mk hC2
        clear hcut1 hcut2 hA1 hA2 hC1 hC2 hA1' hA2' hi03 hsz3 hmid hmid2 hcm hcm2
        obtain ⟨ct, E30, H⟩ := Option.bind_eq_some_iff.mp H
        have E3 := Aside0.mk E30
        clear E30
        obtain ⟨nw, hnw⟩ : ∃ m, ([out, mid, pl, ct] : List (List Int)).flatten = m := ⟨_, rfl⟩
        rw [hnw] at H
        by_cases c4_ : nw.length < 8796093022208
        rotate_left
        · rw [if_neg c4_] at H
          exact absurd H (by simp)
        rw [if_pos c4_] at H
        have HNW := Aside0.mk hnw
        have HNL := Aside0.mk c4_
        have H2 := Aside0.mk H
        clear H hnw c4_
        obtain ⟨ad, ea, hx0, hx1⟩ := at_T39 HR1.out i c2_ c1_
        cases ea
        replace hx0 := cell_later HB.out hx0
        replace hx1 := cell_later HB.out hx1
        have p1 := eq_true c2_
        have p2 := eq_true c1_
        obtain ⟨f0, hf0⟩ : ∃ f0, (rd_T39 l1 i).f0 = f0 := ⟨_, rfl⟩
        obtain ⟨f1, hf1⟩ : ∃ f1, (rd_T39 l1 i).f1 = f1 := ⟨_, rfl⟩
        rw [hf0] at hx0 E2
        rw [hf1] at hx1 E2
        have C3 := Aside0.mk c3_
        clear c1_ c2_ c3_ hf0 hf1
        obtain ⟨t0, t1⟩ := (HT.out.below HB.out)
        go_upto_region 7 with fail
        have n0_ := Aside0.mk (Kd.R_alloc HO.out (Obj.cells #[Value.int .i64 f0, Value.int .i64 f1] 39))
        have n1_ := Aside0.mk (below_alloc HB.out (Obj.cells #[Value.int .i64 f0, Value.int .i64 f1] 39))
        have n2_ := Aside0.mk (below_alloc HB6.out (Obj.cells #[Value.int .i64 f0, Value.int .i64 f1] 39))
        have s0 : (wr.alloc (Obj.cells #[Value.int .i64 f0, Value.int .i64 f1] 39)).cell? ⟨wr.heap.size, 0, none⟩ = some (.int .i64 f0) := blk_cell (heap_alloc_new wr _) 0
        have s1 : (wr.alloc (Obj.cells #[Value.int .i64 f0, Value.int .i64 f1] 39)).cell? ⟨wr.heap.size, 1, none⟩ = some (.int .i64 f1) := blk_cell (heap_alloc_new wr _) 1
        have t0' := cell_later (below_alloc (Below.refl wr.heap.size wr) (Obj.cells #[Value.int .i64 f0, Value.int .i64 f1] 39)) t0
        have t1' := cell_later (below_alloc (Below.refl wr.heap.size wr) (Obj.cells #[Value.int .i64 f0, Value.int .i64 f1] 39)) t1
        generalize wr.alloc (Obj.cells #[Value.int .i64 f0, Value.int .i64 f1] 39) = W1 at n0_ n1_ n2_ s0 s1 t0' t1' ⊢
        generalize wr.heap.size = gs at s0 s1 ⊢
        clear HO HB HB6 t0 t1 hx0 hx1
        have HO := n0_
        have HB := n1_
        have HB6 := n2_
        clear n0_ n1_ n2_
        have HSZ : ∀ o : Obj, W1.heap.size < (W1.alloc o).drew.heap.size := fun o => by show W1.heap.size < (W1.heap.push o).size; rw [Array.size_push]; omega
        have e0 := World.new_ne W1 ⟨gs, 0, none⟩ s0
        have e1 := World.new_ne W1 ⟨gt, 0, none⟩ t0'
        go_cut [13] (fun v13 wx => ∃ g13 : Nat, v13 = .pointer (some ⟨g13, 0, none⟩) ∧ Aside0 (wx.cell? ⟨g13, 0, none⟩ = some (.int .i64 b1) ∧ wx.cell? ⟨g13, 1, none⟩ = some (.int .i64 b2)) ∧ Aside0 (Below W1.heap.size W1 wx))
        case first =>
          go_region_held3 (fun w' => w'.cell? ⟨gt, 1, none⟩ = some (.slice Av at_.length cv) ∧ w'.cell? ⟨gs, 0, none⟩ = some (.int .i64 f0) ∧ w'.cell? ⟨gs, 1, none⟩ = some (.int .i64 f1) ∧ Below W1.heap.size W1 w')
            (first | (refine ⟨?_, ?_, ?_, ?_⟩ <;> first | exact cell_later (below_alloc (Below.refl _ _) _) (cell_later hb t1') | exact cell_later (below_alloc (Below.refl _ _) _) (cell_later hb s0) | exact cell_later (below_alloc (Below.refl _ _) _) (cell_later hb s1) | exact below_alloc (below_step (below_drew1 (Below.refl _ _)) hb) _) | (obtain ⟨hS0, hS1, hS2, hS3⟩ := ‹_ ∧ _ ∧ _ ∧ Below W1.heap.size W1 _›; refine ⟨?_, ?_, ?_, ?_⟩ <;> first | exact hcl _ _ hS0 | exact hcl _ _ hS1 | exact hcl _ _ hS2 | exact below_step hS3 hb | exact cell_later (below_alloc (Below.refl _ _) _) hS0 | exact cell_later (below_alloc (Below.refl _ _) _) hS1 | exact cell_later (below_alloc (Below.refl _ _) _) hS2 | exact below_alloc hS3 _ | exact Below.setCell (Below.setCell hS3 (Nat.le_refl _) _) (Nat.le_refl _) _ | (rw [World.cell?_setCell_far _ _ _ _ (by assumption), World.cell?_setCell_far _ _ _ _ (by assumption)]; first | exact hS0 | exact hS1 | exact hS2)) | exact ⟨t1', s0, s1, below_drew1 (Below.refl _ _)⟩)
            (first | (go_at_call 41; (with_reducible refine (norm_Back.calls _ _ at_ f0 f1 b1 b2 b3 _ ?side1 ?side2 E2.out).mono ?_); (case side1 => exact Kd.C_below HV.out (below_step HB.out (by first | exact (‹_ ∧ _ ∧ _ ∧ Below W1.heap.size W1 _› : _ ∧ _ ∧ _ ∧ _).2.2.2 | exact below_drew1 (Below.refl _ _)))); (case side2 => exact HVC.out); rintro e w7 ⟨rfl, hb⟩; have hcl := fun (a : Addr) (v : Value) (h : _ = some v) => cell_later (a := a) hb h; try (have hq : w7.heap[W1.heap.size]? = some (Obj.cells #[Value.int .i64 0, Value.int .i64 0] 39) := (hb.block _ (HSZ _)).trans (heap_alloc_new W1 _); have z0 := blk_frozen hq 0; have z1 := blk_frozen hq 1; have q0 := blk_cell hq 0; have q1 := blk_cell hq 1)))
          all_goals (go_wp2; go_meet)
          · exact ⟨w7.heap.size, rfl, ⟨blk_cell (heap_alloc_new w7 _) 0, blk_cell (heap_alloc_new w7 _) 1⟩, ⟨(‹_ ∧ _ ∧ _ ∧ Below W1.heap.size W1 _› : _ ∧ _ ∧ _ ∧ _).2.2.2⟩⟩
          · exact ⟨W1.heap.size, rfl, ⟨blk_cell (blk_set (blk_set hq 0 (.int .i64 b1)) 1 (.int .i64 b2)) 0, blk_cell (blk_set (blk_set hq 0 (.int .i64 b1)) 1 (.int .i64 b2)) 1⟩, ⟨(‹_ ∧ _ ∧ _ ∧ Below W1.heap.size W1 _› : _ ∧ _ ∧ _ ∧ _).2.2.2⟩⟩
        case rest =>
          obtain ⟨g13, rfl, HG, HB3⟩ := hcut
          have hcut1 := HCUT1.out
          have hcut2 := HCUT2.out
          obtain ⟨q0, q1⟩ := HG.out
          have t0w := cell_later HB3.out t0'
          have HOw := Aside0.mk (Kd.R_below HO.out HB3.out)
          have HBw := Aside0.mk (below_step HB.out HB3.out)
          have HB6w := Aside0.mk (below_step HB6.out HB3.out)
          clear s0 s1 t0' t1' e0 e1 HSZ HG HO HB HB6
          obtain ⟨Ao, co, rfl⟩ := Kd.R_slice HOw.out
          have e0 := World.new_ne wc ⟨g13, 0, none⟩ q0
          have e1 := World.new_ne wc ⟨gt, 0, none⟩ t0w
          go_upto_region 8 with fail
          go_region_held3 (fun w' => w'.cell? ⟨gt, 0, none⟩ = some (.slice A0 l0.length c0) ∧ w'.cell? ⟨g13, 0, none⟩ = some (.int .i64 b1) ∧ w'.cell? ⟨g13, 1, none⟩ = some (.int .i64 b2) ∧ Below wc.heap.size wc w')
            (first | exact ⟨t0w, q0, q1, below_drew1 (Below.refl _ _)⟩ | (obtain ⟨hS0, hS1, hS2, hS3⟩ := ‹_ ∧ _ ∧ _ ∧ Below wc.heap.size wc _›; refine ⟨?_, ?_, ?_, ?_⟩ <;> first | exact hcl _ _ hS0 | exact hcl _ _ hS1 | exact hcl _ _ hS2 | exact below_step hS3 hb | exact cell_later (below_alloc (Below.refl _ _) _) hS0 | exact cell_later (below_alloc (Below.refl _ _) _) hS1 | exact cell_later (below_alloc (Below.refl _ _) _) hS2 | exact below_alloc hS3 _))
            (first | (go_at_call 43; (with_reducible refine (balance_Controls.calls _ _ mid2 ct _ ?side1 ?side2 E3.out).mono ?_); (case side1 => exact Kd.C_below (Kd.C_below HM2.out HBw.out) (by first | exact below_drew1 (Below.refl _ _) | exact (‹_ ∧ _ ∧ _ ∧ Below wc.heap.size wc _› : _ ∧ _ ∧ _ ∧ _).2.2.2)); (case side2 => exact HMC2.out); rintro e w8 ⟨v8, rfl, ho8, hb⟩; obtain ⟨Ac, cc, rfl⟩ := Kd.R_slice ho8; have hcl := fun (a : Addr) (v : Value) (h : _ = some v) => cell_later (a := a) hb h; have HB8 := Aside0.mk (below_step (below_drew1 (Below.refl wc.heap.size wc)) hb); have HX3 := Aside0.mk (Kd.R_reads' ho8).2.2; clear ho8) | (go_at_call 42; (with_reducible refine (concat4_calls _ _ out mid pl ct Ao Am Ap Ac co cm cp cc 22 nw HNW.out HNL.out (heap_alloc_new _ _) ?side1 ?side2 ?side3 ?side4).mono ?_); (case side1 => exact Kd.C_alloc (Kd.C_below (Kd.R_reads' HOw.out).2.2 HB8.out) _); (case side2 => exact Kd.C_alloc (Kd.C_below (Kd.C_below HM1.out HBw.out) HB8.out) _); (case side3 => exact Kd.C_alloc (Kd.C_below (Kd.C_below HP.out HB6w.out) HB8.out) _); (case side4 => exact Kd.C_alloc HX3.out _); rintro e w10 ⟨v10, rfl, ho10, hb⟩; obtain ⟨An, cn, rfl⟩ := Kd.R_slice ho10; have hcl := fun (a : Addr) (v : Value) (h : _ = some v) => cell_later (a := a) hb h; have HN10 := Aside0.mk ho10; have HB10 := Aside0.mk (below_step (below_alloc HB8.out _) hb); clear ho10))
          have HSS := Aside0.mk (‹_ ∧ _ ∧ _ ∧ Below wc.heap.size wc w10› : _ ∧ _ ∧ _ ∧ _)
          have q1' := HSS.out.2.2.1
          clear hcl hb q0 q1 t0w e0 e1
          have H := H2.out
          by_cases c5_ : ((nw.length : Nat) : Int) > 8000
          · rw [if_pos c5_] at H
            have c5b : decide ((8000 : Int) < (nw.length : Int)) = true := decide_eq_true c5_
            have c5c : decide ((nw.length : Int) > (8000 : Int)) = true := decide_eq_true c5_
            simp only [Option.some.injEq, Prod.mk.injEq] at H
            obtain ⟨rfl, rfl⟩ := H
            go_wp2
            go_ret2
            exact ⟨_, rfl, Kd.R_nil _ _ _ _ _, below_step HBw.out HB10.out⟩
          · rw [if_neg c5_] at H
            have c5b : decide ((8000 : Int) < (nw.length : Int)) = false := decide_eq_false c5_
            have c5c : decide ((nw.length : Int) > (8000 : Int)) = false := decide_eq_false c5_
            go_wp2
            go_roundg k1
            case measure => omega
            case rel => exact ⟨nw, b2, wrap64 (i + 1), rfl, rfl, ⟨H⟩, ⟨by have := HK.out; omega⟩, ⟨Kd.R_lower HN10.out (by rw [World.size_alloc]; have := HBw.out.size; have := HB8.out.size; omega)⟩, ⟨below_step HBw.out HB10.out⟩, ⟨below_step HB6w.out HB10.out⟩⟩
      · rw [if_neg c1_] at H
        have c1b : decide (i < (l1.length : Int)) = false := decide_eq_false c1_
        by_cases c3_ : 0 ≤ last ∧ last ≤ (l0.length : Int)
        rotate_left
        · rw [if_neg c3_] at H
          exact absurd H (by simp)
        rw [if_pos c3_] at H
        obtain ⟨i03, hi03, _, hsz3, _⟩ := info_parts info3
        obtain ⟨Am, hcut1, hA1, hC1⟩ := print_drop_of (P := Try.prog) (Value.int .i64) 0 22 3 .i64 Try.underlying22 hi03 hsz3 A0 c0 l0 last c3_.1 c3_.2 HC0.out
        have hA1' := hA1 _ (Kd.reads_of_C HR0.out)
        obtain ⟨tl, htl⟩ : ∃ m, l0.drop last.toNat = m := ⟨_, rfl⟩
        obtain ⟨cm, hcm⟩ : ∃ m, c0 - last.toNat = m := ⟨_, rfl⟩
        rw [htl] at H hA1'
        simp only [htl, hcm] at hcut1
        have HM1 := Aside0.mk (Kd.C_of_reads (h1 := fun _ => rfl) hA1')
        clear hA1 hC1 hA1' hi03 hsz3 htl hcm
        by_cases c4_ : out.length + tl.length < 8796093022208
        rotate_left
        · rw [if_neg c4_] at H
          exact absurd H (by simp)
        rw [if_pos c4_] at H
        have HLN := Aside0.mk (show (out.length + tl.length) * 8 ≤ 140737488355328 by omega)
        obtain ⟨nw, hnw⟩ : ∃ m, out ++ tl = m := ⟨_, rfl⟩
        rw [hnw] at H
        have HNW := Aside0.mk hnw
        obtain ⟨t0, t1⟩ := (HT.out.below HB.out)
        clear hnw c4_ c3_ c1_ t1
        have H2 := Aside0.mk H
        clear H
        go_upto_region 14 with (first | ((with_reducible refine gate_builtin (b := .append) (xs := #[.tmp 60, .tmp 66]) rfl ?_); at_builtin; refine Kd.R_append_rows (Kd.int .i64) (w0 := w) w.heap.size rfl (.tmp 60) (.tmp 66) 22 3 (.int .i64 0) 8 rfl Try.underlying22 cinfo3 rfl (by decide) (by omega) _ out tl _ _ _ (fun k_ => True) (fun _ => False) rfl rfl ?aO ?aR (fun _ _ h => h) (fun _ h => h.elim) ?aF ?aB ?aS ?aL ?_; (case aR => exact (Kd.C_below HM1.out HB.out)); (case aB => exact HB.out); (case aF => exact (fun k_ hk => trivial)); (case aO => exact HO.out); (case aS => exact (below_size HB.out)); (case aL => exact HLN.out); intro v257 w34 ho hb hg hat; rw [HNW.out] at ho; obtain ⟨An, cn, rfl⟩ := Kd.R_slice ho; have HO2 := Aside0.mk ho; have HB34 := Aside0.mk hb; clear ho hb hg hat t0))
        have H := H2.out
        by_cases c5_ : ((nw.length : Nat) : Int) > 8000
        · rw [if_pos c5_] at H
          have c5b : decide ((8000 : Int) < (nw.length : Int)) = true := decide_eq_true c5_
          have c5c : decide ((nw.length : Int) > (8000 : Int)) = true := decide_eq_true c5_
          simp only [Option.some.injEq, Prod.mk.injEq] at H
          obtain ⟨rfl, rfl⟩ := H
          go_wp2
          go_ret2
          exact ⟨_, rfl, Kd.R_nil _ _ _ _ _, HB34.out⟩
        · rw [if_neg c5_] at H
          have c5b : decide ((8000 : Int) < (nw.length : Int)) = false := decide_eq_false c5_
          have c5c : decide ((nw.length : Int) > (8000 : Int)) = false := decide_eq_false c5_
          simp only [Option.some.injEq, Prod.mk.injEq] at H
          obtain ⟨rfl, rfl⟩ := H
          go_wp2
          go_ret2
          exact ⟨_, rfl, Kd.R_mono HO2.out (fun _ _ => trivial), HB34.out⟩
theorem swap_looked.mono : ∀ a0 a1 a2 k, LeO (swap_looked.f k a0 a1 a2) (swap_looked.f (k + 1) a0 a1 a2) := by
  intro a0 a1 a2 k
  unfold swap_looked.f
  repeat' first
      | (with_reducible exact norm_Of.mono _ _ _)
      | (with_reducible exact slices_ContainsFunc_int_swap_looked_1.mono _ _)
      | (with_reducible exact scan_Right.mono _ _ _)
      | (with_reducible exact LeO.refl _)
      | (with_reducible exact LeO.none _)
      | (with_reducible refine LeO.ite ?_ ?_)
      | (with_reducible refine LeO.bind ?_ (fun _ => ?_))
      | exact norm_Of.mono _ _ _
      | exact slices_ContainsFunc_int_swap_looked_1.mono _ _
      | exact scan_Right.mono _ _ _
      | exact LeO.refl _
      | exact LeO.none _
      | refine LeO.ite ?_ ?_
      | refine LeO.bind ?_ (fun _ => ?_)
theorem swap_exchange.mono_l : ∀ k, (∀ y0 y1 y2 y3 y4 y5 y6, LeO (swap_exchange.l0 k y0 y1 y2 y3 y4 y5 y6) (swap_exchange.l0 (k + 1) y0 y1 y2 y3 y4 y5 y6))
  | 0 => fun _ _ _ _ _ _ _ r h => by simp [swap_exchange.l0] at h
  | k + 1 => by
    have ih0 := swap_exchange.mono_l k
    · intro y0 y1 y2 y3 y4 y5 y6
      unfold swap_exchange.l0
      repeat' first
      | (with_reducible exact ih0 _ _ _ _ _ _ _)
      | (with_reducible exact LeO.refl _)
      | (with_reducible exact LeO.none _)
      | (with_reducible refine LeO.ite ?_ ?_)
      | (with_reducible refine LeO.bind ?_ (fun _ => ?_))
      | exact ih0 _ _ _ _ _ _ _
      | exact LeO.refl _
      | exact LeO.none _
      | refine LeO.ite ?_ ?_
      | refine LeO.bind ?_ (fun _ => ?_)
theorem swap_exchange.mono : ∀ a0 a1 a2 a3 k, LeO (swap_exchange.f k a0 a1 a2 a3) (swap_exchange.f (k + 1) a0 a1 a2 a3) := by
  intro a0 a1 a2 a3 k
  have ih0 := swap_exchange.mono_l k
  unfold swap_exchange.f
  repeat' first
      | (with_reducible exact ih0 _ _ _ _ _ _ _)
      | (with_reducible exact LeO.refl _)
      | (with_reducible exact LeO.none _)
      | (with_reducible refine LeO.ite ?_ ?_)
      | (with_reducible refine LeO.bind ?_ (fun _ => ?_))
      | exact ih0 _ _ _ _ _ _ _
      | exact LeO.refl _
      | exact LeO.none _
      | refine LeO.ite ?_ ?_
      | refine LeO.bind ?_ (fun _ => ?_)
def swap_All.f (k : Nat) (l0 : List Int) (l1 : List (S39)) (l2 : List Int) : Option (List Int × Int) := (swap_looked.f k l0 l1 l2).bind fun bt => if bt.2 = true then swap_exchange.f k l0 bt.1 l1 l2 else some (([] : List Int), 1)
theorem swap_All.mono : ∀ a0 a1 a2 k, LeO (swap_All.f k a0 a1 a2) (swap_All.f (k + 1) a0 a1 a2) := by
  intro a0 a1 a2 k
  unfold swap_All.f
  repeat' first
      | (with_reducible exact swap_looked.mono _ _ _ _)
      | (with_reducible exact swap_exchange.mono _ _ _ _ _)
      | (with_reducible exact LeO.refl _)
      | (with_reducible exact LeO.none _)
      | (with_reducible refine LeO.ite ?_ ?_)
      | (with_reducible refine LeO.bind ?_ (fun _ => ?_))
      | exact swap_looked.mono _ _ _ _
      | exact swap_exchange.mono _ _ _ _ _
      | exact LeO.refl _
      | exact LeO.none _
      | refine LeO.ite ?_ ?_
      | refine LeO.bind ?_ (fun _ => ?_)
set_option maxHeartbeats 2000000 in
set_option maxRecDepth 100000 in
theorem swap_All.calls (k : Nat) (A0 : Option Addr) (c0 : Nat) (l0 : List Int) (A1 : Option Addr) (c1 : Nat) (l1 : List (S39)) (A2 : Option Addr) (c2 : Nat) (l2 : List Int) (r1 : List Int) (r2 : Int) (w : World) (hr0 : Kd.C (Kd.int .i64) w A0 l0.length l0) (hc0 : l0.length ≤ c0) (hr1 : Kd.C k39 w A1 l1.length l1) (hc1 : l1.length ≤ c1) (hr2 : Kd.C (Kd.int .i64) w A2 l2.length l2) (hc2 : l2.length ≤ c2) (h : swap_All.f k l0 l1 l2 = some (r1, r2)) :
    Calls Try.prog 10 #[.slice A0 l0.length c0, .slice A1 l1.length c1, .slice A2 l2.length c2] w fun e w' => ∃ v0_ : Value, e = .returned (.tuple #[v0_, .int .i64 r2]) ∧ Kd.R (Kd.int .i64) 3 w' w.heap.size (fun _ => True) v0_ r1 ∧ Below w.heap.size w w' := by
  unfold swap_All.f at h
  obtain ⟨⟨at_, b⟩, E10, h⟩ := Option.bind_eq_some_iff.mp h
  have E1 := Aside0.mk E10
  have HR0 := Aside0.mk hr0
  have HC0 := Aside0.mk hc0
  have HR1 := Aside0.mk hr1
  have HC1 := Aside0.mk hc1
  have HR2 := Aside0.mk hr2
  have HC2 := Aside0.mk hc2
  clear E10 hr0 hc0 hr1 hc1 hr2 hc2
  dsimp only at h
  cases b with
  | false =>
    rw [if_neg (by simp)] at h
    simp only [Option.some.injEq, Prod.mk.injEq] at h
    obtain ⟨rfl, rfl⟩ := h
    go_enter Try.func10, Try.ntmps10
    go_wp2_with (go_at_call 24; (with_reducible refine (looked_calls k _ _ l0 _ _ l1 _ _ l2 at_ false _ ?side1 ?side2 ?side3 ?side4 ?side5 ?side6 E1.out).mono ?_); (case side1 => exact HR0.out); (case side2 => exact HC0.out); (case side3 => exact HR1.out); (case side4 => exact HC1.out); (case side5 => exact HR2.out); (case side6 => exact HC2.out); rintro e w6 ⟨gt, v1, rfl, hT, hR, hb⟩; have HB := Aside0.mk hb; clear hb hT hR)
    go_ret2
    exact ⟨_, rfl, Kd.R_nil _ _ _ _ _, HB.out⟩
  | true =>
    rw [if_pos rfl] at h
    have H := Aside0.mk h
    clear h
    go_enter Try.func10, Try.ntmps10
    go_wp2_with (first | (go_at_call 24; (with_reducible refine (looked_calls k _ _ l0 _ _ l1 _ _ l2 at_ true _ ?side1 ?side2 ?side3 ?side4 ?side5 ?side6 E1.out).mono ?_); (case side1 => exact HR0.out); (case side2 => exact HC0.out); (case side3 => exact HR1.out); (case side4 => exact HC1.out); (case side5 => exact HR2.out); (case side6 => exact HC2.out); rintro e w6 ⟨gt, v1, rfl, hT, hR, hb⟩; have HB := Aside0.mk hb; have HT := Aside0.mk hT; have HRv := Aside0.mk hR; clear hb hT hR) | (go_at_call 25; (with_reducible refine (exchange_calls k _ _ _ l0 _ at_ _ _ l1 _ _ l2 r1 r2 _ HT.out _ _ HRv.out ?side1 ?side2 ?side3 ?side4 ?side5 ?side6 H.out).mono ?_); (case side1 => exact Kd.C_below HR0.out HB.out); (case side2 => exact HC0.out); (case side3 => exact Kd.C_below HR1.out HB.out); (case side4 => exact HC1.out); (case side5 => exact Kd.C_below HR2.out HB.out); (case side6 => exact HC2.out); rintro e w7 ⟨v2, rfl, hR, hb⟩; have HB2 := Aside0.mk hb; have HO := Aside0.mk hR; clear hb hR))
    go_ret2
    exact ⟨_, rfl, Kd.R_lower HO.out HB.out.size, below_step HB.out HB2.out⟩
def swap_Some.l0 : Nat → List Int → List Int → List (S39) → List Int → List Int → List (S39) → Int → Int → Option (List Int × Int)
  | 0, _, _, _, _, _, _, _, _ => none
  | k + 1, l0, at_, l1, l2, l3, kept, last, i => if i < (l2.length : Int) then (if 0 ≤ i then (if rd l2 i ≤ last then some (([] : List Int), 12) else if (l1.length : Int) ≤ rd l2 i then some (([] : List Int), 12) else if 0 ≤ rd l2 i then (if kept.length < 8796093022208 then swap_Some.l0 k l0 at_ l1 l2 l3 (kept ++ [(⟨(rd_T39 l1 (rd l2 i)).f0, (rd_T39 l1 (rd l2 i)).f1⟩ : S39)]) (rd l2 i) (wrap64 (i + 1)) else none) else none) else none) else swap_exchange.f k l0 at_ kept l3
def swap_Some.f (k : Nat) (l0 : List Int) (l1 : List (S39)) (l2 : List Int) (l3 : List Int) : Option (List Int × Int) := (swap_looked.f k l0 l1 l3).bind fun bt => if bt.2 = true then swap_Some.l0 k l0 bt.1 l1 l2 l3 [] (-1) 0 else some (([] : List Int), 1)
theorem swap_Some.mono_l : ∀ k, (∀ y0 y1 y2 y3 y4 y5 y6 y7, LeO (swap_Some.l0 k y0 y1 y2 y3 y4 y5 y6 y7) (swap_Some.l0 (k + 1) y0 y1 y2 y3 y4 y5 y6 y7))
  | 0 => fun _ _ _ _ _ _ _ _ r h => by simp [swap_Some.l0] at h
  | k + 1 => by
    have ih0 := swap_Some.mono_l k
    · intro y0 y1 y2 y3 y4 y5 y6 y7
      unfold swap_Some.l0
      repeat' first
      | (with_reducible exact ih0 _ _ _ _ _ _ _ _)
      | (with_reducible exact swap_exchange.mono _ _ _ _ _)
      | (with_reducible exact LeO.refl _)
      | (with_reducible exact LeO.none _)
      | (with_reducible refine LeO.ite ?_ ?_)
      | (with_reducible refine LeO.bind ?_ (fun _ => ?_))
      | exact ih0 _ _ _ _ _ _ _ _
      | exact swap_exchange.mono _ _ _ _ _
      | exact LeO.refl _
      | exact LeO.none _
      | refine LeO.ite ?_ ?_
      | refine LeO.bind ?_ (fun _ => ?_)
theorem swap_Some.mono : ∀ a0 a1 a2 a3 k, LeO (swap_Some.f k a0 a1 a2 a3) (swap_Some.f (k + 1) a0 a1 a2 a3) := by
  intro a0 a1 a2 a3 k
  have ih0 := swap_Some.mono_l k
  unfold swap_Some.f
  repeat' first
      | (with_reducible exact ih0 _ _ _ _ _ _ _ _)
      | (with_reducible exact swap_looked.mono _ _ _ _)
      | (with_reducible exact LeO.refl _)
      | (with_reducible exact LeO.none _)
      | (with_reducible refine LeO.ite ?_ ?_)
      | (with_reducible refine LeO.bind ?_ (fun _ => ?_))
      | exact ih0 _ _ _ _ _ _ _ _
      | exact swap_looked.mono _ _ _ _
      | exact LeO.refl _
      | exact LeO.none _
      | refine LeO.ite ?_ ?_
      | refine LeO.bind ?_ (fun _ => ?_)
set_option maxHeartbeats 4000000 in
set_option maxRecDepth 100000 in
theorem swap_Some.calls (k : Nat) (A0 : Option Addr) (c0 : Nat) (l0 : List Int) (A1 : Option Addr) (c1 : Nat) (l1 : List (S39)) (A2 : Option Addr) (c2 : Nat) (l2 : List Int) (A3 : Option Addr) (c3 : Nat) (l3 : List Int) (r1 : List Int) (r2 : Int) (w : World) (hr0 : Kd.C (Kd.int .i64) w A0 l0.length l0) (hc0 : l0.length ≤ c0) (hr1 : Kd.C k39 w A1 l1.length l1) (hc1 : l1.length ≤ c1) (hr2 : Kd.C (Kd.int .i64) w A2 l2.length l2) (hc2 : l2.length ≤ c2) (hr3 : Kd.C (Kd.int .i64) w A3 l3.length l3) (hc3 : l3.length ≤ c3) (h : swap_Some.f k l0 l1 l2 l3 = some (r1, r2)) :
    Calls Try.prog 12 #[.slice A0 l0.length c0, .slice A1 l1.length c1, .slice A2 l2.length c2, .slice A3 l3.length c3] w fun e w' => ∃ v0_ : Value, e = .returned (.tuple #[v0_, .int .i64 r2]) ∧ Kd.R (Kd.int .i64) 3 w' w.heap.size (fun _ => True) v0_ r1 ∧ Below w.heap.size w w' := by
  have hu39 := Try.underlying39
  unfold swap_Some.f at h
  obtain ⟨⟨at_, b⟩, E10, h⟩ := Option.bind_eq_some_iff.mp h
  have E1 := Aside0.mk E10
  have HR0 := Aside0.mk hr0
  have HC0 := Aside0.mk hc0
  have HR1 := Aside0.mk hr1
  have HC1 := Aside0.mk hc1
  have HR2 := Aside0.mk hr2
  have HC2 := Aside0.mk hc2
  have HR3 := Aside0.mk hr3
  have HC3 := Aside0.mk hc3
  clear E10 hr0 hc0 hr1 hc1 hr2 hc2 hr3 hc3
  dsimp only at h
  cases b with
  | false =>
    rw [if_neg (by simp)] at h
    simp only [Option.some.injEq, Prod.mk.injEq] at h
    obtain ⟨rfl, rfl⟩ := h
    go_enter Try.func12, Try.ntmps12
    go_wp2_with (go_at_call 24; (with_reducible refine (looked_calls k _ _ l0 _ _ l1 _ _ l3 at_ false _ ?side1 ?side2 ?side3 ?side4 ?side5 ?side6 E1.out).mono ?_); (case side1 => exact HR0.out); (case side2 => exact HC0.out); (case side3 => exact HR1.out); (case side4 => exact HC1.out); (case side5 => exact HR3.out); (case side6 => exact HC3.out); rintro e w6 ⟨gt, v1, rfl, hT, hR, hb⟩; have HB := Aside0.mk hb; clear hb hT hR)
    go_ret2
    exact ⟨_, rfl, Kd.R_nil _ _ _ _ _, HB.out⟩
  | true =>
    rw [if_pos rfl] at h
    have H' := Aside0.mk h
    clear h
    go_enter Try.func12, Try.ntmps12
    go_wp2_with (go_at_call 24; (with_reducible refine (looked_calls k _ _ l0 _ _ l1 _ _ l3 at_ true _ ?side1 ?side2 ?side3 ?side4 ?side5 ?side6 E1.out).mono ?_); (case side1 => exact HR0.out); (case side2 => exact HC0.out); (case side3 => exact HR1.out); (case side4 => exact HC1.out); (case side5 => exact HR3.out); (case side6 => exact HC3.out); rintro e w6 ⟨gt, v1, rfl, hT, hR, hb⟩; have HB0 := Aside0.mk hb; have HT := Aside0.mk hT; have HRv := Aside0.mk hR; clear hb hT hR)
    go_loopg [12, 13, 27] k (fun kq v12 v13 v27 wx => ∃ (kept : List S39) (last i : Int), v13 = .int .i64 last ∧ v27 = .int .i64 i ∧ Aside0 (swap_Some.l0 kq l0 at_ l1 l2 l3 kept last i = some (r1, r2)) ∧ Aside0 (kq ≤ k) ∧ Aside0 (Kd.R k39 39 wx w6.heap.size (fun _ => True) v12 kept) ∧ Aside0 (Below w6.heap.size w6 wx))
    case atStart => exact ⟨[], -1, 0, rfl, rfl, H', ⟨Nat.le_refl _⟩, ⟨Kd.R_nil _ _ _ _ _⟩, ⟨Below.refl _ _⟩⟩
    case round =>
      clear H'
      obtain ⟨kept, last, i, rfl, rfl, HA, HK, HO, HB⟩ := hrel
      cases gk with
      | zero => exact absurd HA.out (by simp [swap_Some.l0])
      | succ k1 =>
        have H := HA.out
        clear HA
        simp only [swap_Some.l0] at H
        by_cases c1_ : i < (l2.length : Int)
        · rw [if_pos c1_] at H
          have c1b : decide (i < (l2.length : Int)) = true := decide_eq_true c1_
          by_cases c2_ : 0 ≤ i
          rotate_left
          · rw [if_neg c2_] at H
            exact absurd H (by simp)
          rw [if_pos c2_] at H
          obtain ⟨ad2, ea2, hx2⟩ := Kd.at_int HR2.out i c2_ c1_
          cases ea2
          replace hx2 := cell_later (below_step HB0.out HB.out) hx2
          obtain ⟨z, hz⟩ : ∃ z, rd l2 i = z := ⟨_, rfl⟩
          rw [hz] at H hx2
          have p1 := eq_true c2_
          have p2 := eq_true c1_
          clear c1_ c2_ hz
          by_cases c3_ : z ≤ last
          · rw [if_pos c3_] at H
            have c3b : decide (z ≤ last) = true := decide_eq_true c3_
            simp only [Option.some.injEq, Prod.mk.injEq] at H
            obtain ⟨rfl, rfl⟩ := H
            go_wp2
            go_ret2
            exact ⟨_, rfl, Kd.R_nil _ _ _ _ _, below_step HB0.out HB.out⟩
          rw [if_neg c3_] at H
          have c3b : decide (z ≤ last) = false := decide_eq_false c3_
          by_cases c4_ : (l1.length : Int) ≤ z
          · rw [if_pos c4_] at H
            have c4b : decide ((l1.length : Int) ≤ z) = true := decide_eq_true c4_
            have c4c : decide (z ≥ (l1.length : Int)) = true := decide_eq_true c4_
            simp only [Option.some.injEq, Prod.mk.injEq] at H
            obtain ⟨rfl, rfl⟩ := H
            go_wp2
            go_ret2
            exact ⟨_, rfl, Kd.R_nil _ _ _ _ _, below_step HB0.out HB.out⟩
          rw [if_neg c4_] at H
          have c4b : decide ((l1.length : Int) ≤ z) = false := decide_eq_false c4_
          have c4c : decide (z ≥ (l1.length : Int)) = false := decide_eq_false c4_
          by_cases c5_ : 0 ≤ z
          rotate_left
          · rw [if_neg c5_] at H
            exact absurd H (by simp)
          rw [if_pos c5_] at H
          by_cases c6_ : kept.length < 8796093022208
          rotate_left
          · rw [if_neg c6_] at H
            exact absurd H (by simp)
          rw [if_pos c6_] at H
          have C6 := Aside0.mk c6_
          have c7_ : z < (l1.length : Int) := by omega
          obtain ⟨ad, ea, hx0, hx1⟩ := at_T39 HR1.out z c5_ c7_
          cases ea
          replace hx0 := cell_later (below_step HB0.out HB.out) hx0
          replace hx1 := cell_later (below_step HB0.out HB.out) hx1
          have p3 := eq_true c5_
          have p4 := eq_true c7_
          obtain ⟨f0, hf0⟩ : ∃ f0, (rd_T39 l1 z).f0 = f0 := ⟨_, rfl⟩
          obtain ⟨f1, hf1⟩ : ∃ f1, (rd_T39 l1 z).f1 = f1 := ⟨_, rfl⟩
          rw [hf0] at hx0 H
          rw [hf1] at hx1 H
          have H2 := Aside0.mk H
          clear H hf0 hf1 c3_ c4_ c5_ c6_ c7_
          go_wp2_with (first | ((with_reducible refine gate_builtin (b := .append) (xs := #[.tmp 40, .tmp 45]) rfl ?_); at_builtin; refine Kd.R_append k39 (w0 := w6) w6.heap.size rfl (.tmp 40) (.tmp 45) 23 39 (.agg #[(.int .i64 0), (.int .i64 0)]) 16 rfl Try.underlying23 info39 rfl (by decide) (by omega) _ kept (⟨f0, f1⟩ : S39) [.int .i64 f0, .int .i64 f1] (fun _ => True) (fun _ => False) rfl rfl ?aP (fun _ hk => hk.elim) ?aF ?aO ?aB ?aS ?aL ?_; (case aP => exact k39_mkM _ _ _ (⟨f0, f1⟩ : S39)); (case aB => exact (by repeat (first | (with_reducible first | exact HB.out | apply below_alloc | apply pw_below_drewN | apply below_drew1) | exact HB.out))); (case aF => exact (fun _ _ => trivial)); (case aO => exact (by (with_reducible repeat (first | apply Kd.R_alloc | apply Kd.R_drewN | apply Kd.R_drew)); exact HO.out)); (case aS => exact (below_size (by repeat (first | (with_reducible first | exact HB.out | apply below_alloc | apply pw_below_drewN | apply below_drew1) | exact HB.out)))); (case aL => have := C6.out; omega); intro v491 w24 ho hb hg hat; have HBn := Aside0.mk (hb); have HOn := Aside0.mk (ho); clear HB HO; have HB := HBn; have HO := HOn; clear HBn HOn; clear ho hb hg hat))
          go_roundg k1
          case measure => omega
          case rel => exact ⟨_, z, wrap64 (i + 1), rfl, rfl, H2, ⟨by have := HK.out; omega⟩, ⟨Kd.R_mono HO.out (fun _ _ => trivial)⟩, HB⟩
        · rw [if_neg c1_] at H
          have c1b : decide (i < (l2.length : Int)) = false := decide_eq_false c1_
          have H2 := Aside0.mk H
          clear H c1_
          obtain ⟨Ak, ck, rfl⟩ := Kd.R_slice HO.out
          go_wp2_with (go_at_call 25; (with_reducible refine (exchange_calls k1 _ _ _ l0 _ at_ _ _ kept _ _ l3 r1 r2 _ (HT.out.below HB.out) _ _ (Kd.R_below HRv.out HB.out) ?side1 ?side2 ?side3 ?side4 ?side5 ?side6 H2.out).mono ?_); (case side1 => exact Kd.C_below HR0.out (below_step HB0.out HB.out)); (case side2 => exact HC0.out); (case side3 => exact (Kd.R_reads' HO.out).2.2); (case side4 => exact (Kd.R_reads' HO.out).2.1); (case side5 => exact Kd.C_below HR3.out (below_step HB0.out HB.out)); (case side6 => exact HC3.out); rintro e w7 ⟨v2, rfl, hR, hb⟩; have HB2 := Aside0.mk hb; have HO2 := Aside0.mk hR; clear hb hR)
          go_ret2
          exact ⟨_, rfl, Kd.R_lower HO2.out (by have := HB0.out.size; have := HB.out.size; omega), below_step (below_step HB0.out HB.out) HB2.out⟩
end Go.Proofs.Ythgmkbghdobmlaa.P
