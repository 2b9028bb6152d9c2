/- Proved: slices.IndexFunc and slices.DeleteFunc at lists of int with a function value that answers by a test and may make memory: the first place that the test lets; the list without those that the test lets, in the same row; conditions: the list can be read, and is the caller's own where it is written; the function value answers so. -/
import Derived.Test.YtpgpckglgkichaaPx0
import Derived.Lib.SliceRun
namespace Go.Proofs.Ytpgpckglgkichaa.P
open Go.RowKit Go.Proofs.YtpgpckglgkichaaW.PrintWords Go.Proofs.YtpgpckglgkichaaW.PrintLast
set_option linter.unusedVariables false
set_option linter.unusedSimpArgs false

/-- The first place at or behind i that a test lets; -1: none. -/
def idxFrom (p : Int → Bool) (i : Nat) : List Int → Int
  | [] => -1
  | x :: l => if p x = true then (i : Int) else idxFrom p (i + 1) l
/-- What a call of a function value answers: a test's answer; new memory may be made. -/
def TestB (g : Nat) (caps : Array Value) (p : Int → Bool) : Prop :=
  ∀ (x : Int) (W : World), Calls Try.prog g (#[.int .i64 x] ++ caps) W fun e w' => e = .returned (.bool (p x)) ∧ Below W.heap.size W w'
theorem dl_drop (xs : List Int) (i : Nat) (h : i < xs.length) : xs.drop i = rd xs (i : Int) :: xs.drop (i + 1) := by
  unfold rd
  rw [Int.toNat_natCast, List.getD_eq_getElem?_getD, List.getElem?_eq_getElem h, Option.getD_some]
  exact List.drop_eq_getElem_cons h
theorem dl_take (xs : List Int) (i : Nat) (h : i < xs.length) : xs.take (i + 1) = xs.take i ++ [rd xs (i : Int)] := by
  unfold rd
  rw [Int.toNat_natCast, List.getD_eq_getElem?_getD, List.getElem?_eq_getElem h, Option.getD_some]
  exact List.take_succ_eq_append_getElem h
theorem dl_wrap (i : Nat) (h : i < 9223372036854775807) : wrap64 ((i : Int) + 1) = ((i + 1 : Nat) : Int) := by
  unfold wrap64
  omega

set_option maxHeartbeats 4000000 in
set_option maxRecDepth 100000 in
theorem idx_funcB.calls (g : Nat) (caps : Array Value) (p : Int → Bool) (A0 : Option Addr) (c0 : Nat) (l0 : List Int) (w : World) (hr0 : Kd.C (Kd.int .i64) w A0 l0.length l0) (hl : l0.length < 9223372036854775807) (ht : TestB g caps p) (hgo : ∀ (x : Int) (W : World), (callFunc g (#[.int .i64 x] ++ caps)).run Try.prog W = .ok (.enter g (#[.int .i64 x] ++ caps)) W) :
    Calls Try.prog 32 #[.slice A0 l0.length c0, .func (.func g) #[] caps] w fun e w' => e = .returned (.int .i64 (idxFrom p 0 l0)) ∧ Below w.heap.size w w' := by
  have HR0 := Aside0.mk hr0
  have HL := Aside0.mk hl
  have HT := Aside0.mk ht
  clear hr0 hl ht
  go_enter Try.func32, Try.ntmps32
  go_wp2
  go_loopw [8] (fun v wr => ∃ i : Nat, v = .int .i64 (i : Int) ∧ i ≤ l0.length ∧ Below w.heap.size w wr ∧ idxFrom p 0 l0 = idxFrom p i (l0.drop i)) (fun v wr => l0.length - (intOf v).toNat)
  case atStart => exact ⟨0, rfl, by omega, Below.refl _ _, by simp⟩
  case round =>
    obtain ⟨i, rfl, hi, hB, hidx⟩ := hrel
    have HB := Aside0.mk hB
    by_cases h : i < l0.length
    · obtain ⟨ad, e, hx⟩ := Kd.at_int (Kd.C_below HR0.out hB) (i : Int) (by omega) (by omega)
      cases e
      rw [Int.toNat_natCast] at hx
      have hcall := HT.out (rd l0 (i : Int)) wr
      rw [dl_drop l0 i h] at hidx
      have H := Aside0.mk hidx
      have h1 : decide ((i : Int) < (l0.length : Int)) = true := decide_eq_true (by omega)
      have h2 : ((0 : Int) ≤ (i : Int)) = True := eq_true (by omega)
      have h3 : ((i : Int) < (l0.length : Int)) = True := eq_true (by omega)
      have hgo1 := hgo (rd l0 (i : Int))
      clear hidx hB
      obtain ⟨b, hb⟩ : ∃ b, p (rd l0 (i : Int)) = b := ⟨_, rfl⟩
      rw [hb] at hcall
      have HP := Aside0.mk hb
      clear hb
      cases b with
      | true =>
        go_wp2_with (refine hcall.mono ?_; rintro e w' ⟨rfl, hb1⟩; have HB1 := Aside0.mk hb1; clear hb1)
        go_ret
        refine ⟨?_, below_step HB.out HB1.out⟩
        rw [H.out]
        simp only [idxFrom]
        rw [if_pos HP.out]
        rfl
      | false =>
        go_wp2_with (refine hcall.mono ?_; rintro e w' ⟨rfl, hb1⟩; have HB1 := Aside0.mk hb1; clear hb1)
        have hw := dl_wrap i (by have := HL.out; omega)
        refine ⟨⟨i + 1, by rw [hw], by omega, below_step HB.out HB1.out, ?_⟩, ?_⟩
        · rw [H.out]
          simp only [idxFrom]
          rw [if_neg (by rw [HP.out]; decide)]
        · rw [hw]
          show l0.length - (((i + 1 : Nat) : Int)).toNat < l0.length - ((i : Int)).toNat
          clear hw
          omega
    · have hn : i = l0.length := by omega
      subst hn
      have h1 : decide ((l0.length : Int) < (l0.length : Int)) = false := decide_eq_false (by omega)
      have H := Aside0.mk hidx
      clear hidx hB
      go_wp2
      go_ret
      refine ⟨?_, HB.out⟩
      rw [H.out, List.drop_length]
      rfl

theorem idx_some (p : Int → Bool) : ∀ (l : List Int) (i : Nat), (idxFrom p i l = -1 ∧ ∀ x ∈ l, p x = false) ∨ ∃ j : Nat, j < l.length ∧ idxFrom p i l = ((i + j : Nat) : Int) ∧ (∀ x ∈ l.take j, p x = false) ∧ p (rd l (j : Int)) = true
  | [], i => .inl ⟨rfl, by simp⟩
  | x :: l, i => by
    simp only [idxFrom]
    by_cases h : p x = true
    · rw [if_pos h]
      exact .inr ⟨0, by simp, rfl, by simp, by simpa [rd] using h⟩
    · rw [if_neg h]
      have h0 : p x = false := by simpa using h
      rcases idx_some p l (i + 1) with ⟨h1, h2⟩ | ⟨j, h1, h2, h3, h4⟩
      · exact .inl ⟨h1, fun y hy => by
          rcases List.mem_cons.1 hy with rfl | hy
          · exact h0
          · exact h2 y hy⟩
      · refine .inr ⟨j + 1, by simpa using h1, by rw [h2]; omega, fun y hy => ?_, ?_⟩
        · rw [List.take_succ_cons] at hy
          rcases List.mem_cons.1 hy with rfl | hy
          · exact h0
          · exact h3 y hy
        · have e : rd (x :: l) ((j + 1 : Nat) : Int) = rd l (j : Int) := by simp [rd]
          rw [e]
          exact h4
/-- A row's first elements. -/
theorem own_first {W : World} {base g n cap m : Nat} {e : TypeId} {xs : List Value} (h : W.ownsRow base e 1 (.slice (some ⟨g, 0, none⟩) n cap) n xs) (hm : m ≤ n) : W.ownsRow base e 1 (.slice (some ⟨g, 0, none⟩) m cap) m (xs.take m) := by
  obtain ⟨h1, h2⟩ := h
  refine ⟨by rw [List.length_take, h1]; omega, ?_⟩
  rcases h2 with ⟨h2, _⟩ | ⟨g', cap', cur, he, hb, hh, hnc, hcm, hcs, ht⟩
  · cases h2
  · injection he with e1 e2 e3
    injection e1 with e1
    injection e1 with e1
    subst e1; subst e3
    refine .inr ⟨g, cap, cur, rfl, hb, hh, by omega, hcm, hcs, ?_⟩
    rw [← ht, List.take_take]
    congr 1
    omega
/-- A row's last elements made nought. -/
theorem own_zeros {base g n cap : Nat} {e : TypeId} : ∀ (m o : Nat) (W : World) (xs : List Int), W.ownsRow base e 1 (.slice (some ⟨g, 0, none⟩) n cap) n (nums .i64 xs) → o + m ≤ n →
    ∃ ys : List Int, (W.setCells g o (List.replicate m (.int .i64 0))).ownsRow base e 1 (.slice (some ⟨g, 0, none⟩) n cap) n (nums .i64 ys) ∧ ys.take o = xs.take o ∧ W.grownBy (W.setCells g o (List.replicate m (.int .i64 0))) (some g)
  | 0, o, W, xs, h, _ => ⟨xs, h, rfl, ⟨rfl, rfl, rfl, Nat.le_refl _, fun _ _ _ => rfl⟩⟩
  | m + 1, o, W, xs, h, hm => by
    obtain ⟨h1, g1⟩ := own_store h (o : Int) 0
    rw [Int.toNat_natCast] at h1 g1
    obtain ⟨ys, h2, e2, g2⟩ := own_zeros m (o + 1) _ _ h1 (by omega)
    rw [List.replicate_succ]
    refine ⟨ys, h2, ?_, g1.trans g2⟩
    have h3 := congrArg (List.take o) e2
    rw [List.take_take, List.take_take, Nat.min_eq_left (by omega)] at h3
    rw [h3, List.take_set_of_le (by omega)]

theorem dl_less (n j : Nat) (h : j < n) : n - (intOf (.int .i64 ((j + 1 : Nat) : Int))).toNat < n - (intOf (.int .i64 (j : Int))).toNat := by
  show n - (((j + 1 : Nat) : Int)).toNat < n - ((j : Int)).toNat
  omega
theorem dl_set (cur : List Int) (i j : Nat) (x : Int) (hij : i < j) (hj : j ≤ cur.length) : (cur.set i x).take (i + 1) = cur.take i ++ [x] ∧ (cur.set i x).drop j = cur.drop j := by
  constructor
  · have hl : i < (cur.set i x).length := by rw [List.length_set]; omega
    rw [List.take_succ_eq_append_getElem hl, List.take_set_of_le (by omega), List.getElem_set_self]
  · rw [List.drop_set_of_lt hij]
set_option maxHeartbeats 4000000 in
set_option maxRecDepth 100000 in
theorem del_func.calls (g : Nat) (caps : Array Value) (p : Int → Bool) (A : Option Addr) (c : Nat) (l : List Int) (w0 w : World) (hR : Kd.R (Kd.int .i64) 3 w w0.heap.size (fun _ => True) (.slice A l.length c) l) (hB : Below w0.heap.size w0 w) (hl : l.length < 17592186044416) (ht : TestB g caps p) (hgo : ∀ (x : Int) (W : World), (callFunc g (#[.int .i64 x] ++ caps)).run Try.prog W = .ok (.enter g (#[.int .i64 x] ++ caps)) W) :
    Calls Try.prog 23 #[.slice A l.length c, .func (.func g) #[] caps] w fun e w' => ∃ v : Value, e = .returned v ∧ Kd.R (Kd.int .i64) 3 w' w0.heap.size (fun _ => True) v (l.filter fun x => !(p x)) ∧ Below w0.heap.size w0 w' := by
  have hix := idx_funcB.calls g caps p A c l w (Kd.R_reads' hR).2.2 (by omega) ht hgo
  rcases idx_some p l 0 with ⟨hi, hno⟩ | ⟨i0, hi0, hi, hpre, hat⟩
  · rw [hi] at hix
    have hf : (l.filter fun x => !(p x)) = l := List.filter_eq_self.2 fun x hx => by rw [hno x hx]; rfl
    rw [hf]
    have HR := Aside0.mk hR
    have HB := Aside0.mk hB
    clear hR hB hi hno hf ht
    go_enter Try.func23, Try.ntmps23
    go_wp2_with (first | (go_at_call 32; (with_reducible refine hix.mono ?_); rintro e w' ⟨rfl, hb1⟩; have HB1 := Aside0.mk hb1; clear hb1))
    go_ret
    exact ⟨_, rfl, Kd.R_below HR.out HB1.out, below_step HB.out HB1.out⟩
  · rw [hi] at hix
    obtain ⟨gb, cap, hv, _, hlt⟩ := (Kd.own_of_R hR).form (by omega)
    injection hv with hv1 hv2 hv3
    subst hv1; subst hv3
    have hcap := (Kd.R_reads' hR).2.1
    have hgb : w0.heap.size ≤ gb := own_base (Kd.own_of_R hR) gb rfl
    have e0 : (0 + i0 : Nat) = i0 := by omega
    rw [e0] at hix
    have hne : ((i0 : Int) == -1) = false := by
      simp only [beq_eq_false_iff_ne, ne_eq]
      omega
    have hpl : (i0 : Int) + 1 = ((i0 + 1 : Nat) : Int) := by omega
    have hstart : l.take i0 = (l.take (i0 + 1)).filter fun x => !(p x) := by
      rw [dl_take l i0 hi0, List.filter_append]
      have e1 : ((l.take i0).filter fun x => !(p x)) = l.take i0 := List.filter_eq_self.2 fun x hx => by rw [hpre x hx]; rfl
      have e2 : (([rd l (i0 : Int)] : List Int).filter fun x => !(p x)) = [] := by simp [hat]
      rw [e1, e2, List.append_nil]
    have HR := Aside0.mk hR
    have HB := Aside0.mk hB
    have HT := Aside0.mk ht
    have HS := Aside0.mk hstart
    have HL := Aside0.mk hl
    have HPL := Aside0.mk hpl
    clear hR hB hi ht hpre hat hstart hv2 hlt hpl
    go_enter Try.func23, Try.ntmps23
    go_wp2_with (first | (go_at_call 32; (with_reducible refine hix.mono ?_); rintro e w' ⟨rfl, hb1⟩; have HB1 := Aside0.mk hb1; clear hb1))
    go_loopw [5, 6] (fun a b wr => ∃ (i j : Nat) (cur : List Int), a = .int .i64 (i : Int) ∧ b = .int .i64 (j : Int) ∧ i < j ∧ j ≤ l.length ∧ cur.length = l.length ∧ cur.take i = ((l.take j).filter fun x => !(p x)) ∧ cur.drop j = l.drop j ∧ Kd.R (Kd.int .i64) 3 wr w0.heap.size (fun _ => True) (.slice (some ⟨gb, 0, none⟩) l.length c) cur ∧ Below w0.heap.size w0 wr) (fun a b wr => l.length - (intOf b).toNat)
    case atStart => 
      exact ⟨i0, i0 + 1, l, rfl, by simp, by omega, by omega, rfl, HS.out, rfl, Kd.R_below HR.out HB1.out, below_step HB.out HB1.out⟩
    case round =>
      obtain ⟨i, j, cur, rfl, rfl, hij, hj, hcl, htk, hdr, hR, hB⟩ := hrel
      have hown := Kd.own_of_R hR
      rw [hcl] at hown
      have HR2 := Aside0.mk hR
      have HB2 := Aside0.mk hB
      have HTK := Aside0.mk htk
      have HDR := Aside0.mk hdr
      clear htk hdr
      by_cases h : j < l.length
      · obtain ⟨x, hxe⟩ : ∃ x, rd cur (j : Int) = x := ⟨_, rfl⟩
        have hx := (own_at hown (j : Int) (by omega) (by omega)).1
        rw [Int.toNat_natCast, hxe] at hx
        have hxl : rd l (j : Int) = x := by
          have h1 := dl_drop cur j (by omega)
          rw [HDR.out, dl_drop l j h, hxe] at h1
          injection h1
        have hdr2 : cur.drop (j + 1) = l.drop (j + 1) := by
          have h1 := dl_drop cur j (by omega)
          rw [HDR.out, dl_drop l j h] at h1
          injection h1 with _ h1
          exact h1.symm
        have htk2 := dl_take l j h
        rw [hxl] at htk2
        have hcall := HT.out x wr
        have hgo1 := hgo x
        have HTK2 := Aside0.mk htk2
        have HDR2 := Aside0.mk hdr2
        have h1 : decide ((j : Int) < (l.length : Int)) = true := decide_eq_true (by omega)
        have h2 : ((0 : Int) ≤ (j : Int)) = True := eq_true (by omega)
        have h3 : ((j : Int) < (l.length : Int)) = True := eq_true (by omega)
        have h4 : ((0 : Int) ≤ (i : Int)) = True := eq_true (by omega)
        have h5 : ((i : Int) < (l.length : Int)) = True := eq_true (by omega)
        have hwj : (j : Int) + 1 = ((j + 1 : Nat) : Int) := by omega
        have hwi : (i : Int) + 1 = ((i + 1 : Nat) : Int) := by omega
        have HWJ := Aside0.mk hwj
        have HWI := Aside0.mk hwi
        clear hdr2 htk2 hxl hxe hB hwj hwi hown hR
        obtain ⟨b, hb⟩ : ∃ b, p x = b := ⟨_, rfl⟩
        rw [hb] at hcall
        have HP := Aside0.mk hb
        clear hb
        cases b with
        | true =>
          go_wp2_with (refine hcall.mono ?_; rintro e w' ⟨rfl, hb1⟩; have HB3 := Aside0.mk hb1; clear hb1)
          refine ⟨⟨i, j + 1, cur, rfl, by rw [HWJ.out], by omega, by omega, hcl, ?_, HDR2.out, Kd.R_below HR2.out HB3.out, below_step HB2.out HB3.out⟩, by rw [HWJ.out]; exact dl_less l.length j h⟩
          have e2 : (([x] : List Int).filter fun x => !(p x)) = [] := by simp [HP.out]
          rw [HTK2.out, List.filter_append, e2, List.append_nil]
          exact HTK.out
        | false =>
          go_wp2_with (refine hcall.mono ?_; rintro e w' ⟨rfl, hb1⟩; have HB3 := Aside0.mk hb1; obtain ⟨hc3, hf3⟩ := own_at (k := .i64) (by have hq := Kd.own_of_R (Kd.R_below HR2.out hb1); rw [hcl] at hq; exact hq) (i : Int) (by omega) (by omega); rw [Int.toNat_natCast] at hc3 hf3; clear hb1)
          have hq := Kd.own_of_R (Kd.R_below HR2.out HB3.out)
          rw [hcl] at hq
          obtain ⟨o1, g1⟩ := own_store hq (i : Int) x
          rw [Int.toNat_natCast] at o1 g1
          obtain ⟨s1, s2⟩ := dl_set cur i (j + 1) x (by omega) (by omega)
          have hls : (cur.set i x).length = l.length := by rw [List.length_set, hcl]
          refine ⟨⟨i + 1, j + 1, cur.set i x, by rw [HWI.out], by rw [HWJ.out], by omega, by omega, hls, ?_, s2.trans HDR2.out, Kd.R_of_own (by rw [hls]; exact o1) (fun _ _ => trivial), (below_step HB2.out HB3.out).grown g1 (below_step HB2.out HB3.out).size (fun k e => by cases e; exact hgb)⟩, by rw [HWJ.out]; exact dl_less l.length j h⟩
          have e2 : (([x] : List Int).filter fun x => !(p x)) = [x] := by simp [HP.out]
          rw [HTK2.out, List.filter_append, e2, s1, HTK.out]
      · have hn : j = l.length := by omega
        subst hn
        have hi : i < l.length := hij
        have hne2 : ¬ c = i := by omega
        have hic : i ≤ c := by omega
        have hclr : ∀ ty, (Builtin.clear_ #[22] ty #[.slice (some ⟨gb, i, none⟩) (l.length - i) (c - i)]).run Try.prog wr = .ok (.tuple #[]) (wr.setCells gb i (List.replicate (l.length - i) (.int .i64 0))) := fun ty =>
          Lib.run_clear_slice wr 22 3 ty (.int .i64 0) Try.underlying22 (fun W => by kernel_rfl) rfl rfl gb i (l.length - i) (c - i) (by omega)
            (fun q hq => by have := (own_at hown ((i + q : Nat) : Int) (by omega) (by omega)).1; rw [Int.toNat_natCast] at this; rw [this]; rfl) (fun q hq => by have := (own_at hown ((i + q : Nat) : Int) (by omega) (by omega)).2; rw [Int.toNat_natCast] at this; exact this)
        obtain ⟨ys, hz1, hz2, hz3⟩ := own_zeros (l.length - i) i wr cur hown (by omega)
        have HZ1 := Aside0.mk hz1
        have HZ2 := Aside0.mk hz2
        have HZ3 := Aside0.mk hz3
        have h1 : decide ((l.length : Int) < (l.length : Int)) = false := decide_eq_false (by omega)
        have h4 : ((0 : Int) ≤ (i : Int)) = True := eq_true (by omega)
        have h5 : ((i : Int) ≤ (l.length : Int)) = True := eq_true (by omega)
        have h6 : ((i : Int) ≤ (c : Int)) = True := eq_true (by omega)
        clear hz1 hz2 hz3 hown hR hB
        go_wp2
        go_ret
        have hfl : (l.filter fun x => !(p x)) = ys.take i := by
          rw [HZ2.out, HTK.out, List.take_length]
        have hol := own_first HZ1.out (m := i) (by omega)
        have hyl : ys.length = l.length := by
          have := HZ1.out.1
          simpa [nums] using this
        have hlen : (ys.take i).length = i := by
          rw [List.length_take]
          omega
        have he : (nums .i64 ys).take i = nums .i64 (ys.take i) := by simp [nums, List.map_take]
        rw [he] at hol
        refine ⟨_, rfl, ?_, HB2.out.grown HZ3.out HB2.out.size (fun k e => by cases e; exact hgb)⟩
        rw [hfl]
        exact Kd.R_of_own (by rw [hlen]; exact hol) (fun _ _ => trivial)
end Go.Proofs.Ytpgpckglgkichaa.P
