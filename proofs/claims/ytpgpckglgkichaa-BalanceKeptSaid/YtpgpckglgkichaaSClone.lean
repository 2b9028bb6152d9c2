/- Proved: a call of slices.Clone at a slice of int hands back a list like the one that came in, in new memory or nil; condition: fewer than 2^44 elements, which the answer of slices_Clone_int.f says. -/
import Derived.Test.YtpgpckglgkichaaPx0
import Derived.Lib.SliceRun
namespace Go.Proofs.Ytpgpckglgkichaa.P
open Go.RowKit Go.Proofs.YtpgpckglgkichaaW.PrintWords Go.Proofs.YtpgpckglgkichaaW.PrintLast
set_option linter.unusedVariables false

def slices_Clone_int.f (l0 : List Int) : Option (List Int) := if l0.length < 17592186044416 then some l0 else none
theorem cinfo3 : (Try.prog.info? 3).map (fun i => (i.zero, i.size, i.bytes)) = some (some (.int .i64 0), 1, 8) := by kernel_rfl

set_option maxHeartbeats 4000000 in
set_option maxRecDepth 100000 in
theorem slices_Clone_int.calls (A0 : Option Addr) (c0 : Nat) (l0 : List Int) (r : List Int) (w : World) (hr0 : Kd.C (Kd.int .i64) w A0 l0.length l0) (hc0 : l0.length ≤ c0) (h : slices_Clone_int.f l0 = some r) :
    Calls Try.prog 24 #[.slice A0 l0.length c0] w fun e w' => ∃ v0_ : Value, e = .returned (v0_) ∧ Kd.R (Kd.int .i64) 3 w' w.heap.size (fun _ => True) v0_ r ∧ Below w.heap.size w w' := by
  have HL : Aside0 (l0.length < 17592186044416) := by
    refine ⟨?_⟩
    unfold slices_Clone_int.f at h
    by_cases hl : l0.length < 17592186044416
    · exact hl
    · rw [if_neg hl] at h
      cases h
  obtain rfl : l0 = r := by
    unfold slices_Clone_int.f at h
    rw [if_pos HL.out] at h
    exact Option.some.inj h
  clear h
  have HR0 := Aside0.mk hr0
  have HC0 := Aside0.mk hc0
  clear hr0 hc0
  have qT : ∀ (W : World) (a : Option Addr) (n c n' c' : Nat), (binOp .eql 22 (.slice a n c) (.slice none n' c')).run Try.prog W = .ok (.bool a.isNone) W := fun W a n c n' c' => Lib.run_eql_slice_nil W _ _ a n c n' c' Try.underlying22
  have HB := Aside0.mk (Below.refl w.heap.size w)
  cases A0 with
  | none =>
    have h0 : l0 = [] := by
      rcases Nat.eq_zero_or_pos l0.length with h0 | h0
      · exact List.eq_nil_of_length_eq_zero h0
      · have h1 := Kd.C_get HR0.out (0 : Int) 0 (by omega) (by omega)
        obtain ⟨ad, c, e, _⟩ := h1
        cases e
    subst h0
    go_enter Try.func24, Try.ntmps24
    go_wp2
    go_ret
    exact ⟨_, rfl, Kd.R_nil _ _ _ _ _, HB.out⟩
  | some ad =>
    go_enter Try.func24, Try.ntmps24
    go_wp2_with (first
      | ((with_reducible refine gate_dst (N := 5) rfl ?_); refine Kd.R_lit (Kd.int .i64) _ 3 ?hg (N := 5) ?hd (xs := ([] : List Int)) (inner := []) (ok := fun _ => True) (okp := fun _ => True) ?hr ?hp (fun _ hk => hk) trivial (Below.refl _ _) (Nat.le_refl _) (by simp) ?_; (case hd => rfl); (case hg => rfl); (case hr => first | (go_simp; done) | (go_simp; rfl)); (case hp => exact (Reps.none _ _)); intro v254 w32 ho33 hb hg_ hnew_; clear hg_ hnew_; have HO := Aside0.mk ho33; have n6_ := Aside0.mk (below_step (by exact HB.out) hb); clear HB; have HB := n6_; clear n6_; clear hb ho33)
      | ((with_reducible refine gate_builtin (b := .append) (xs := #[.tmp 5, .tmp 6]) rfl ?_); at_builtin; refine Kd.R_append_rows (Kd.int .i64) (w0 := w) w.heap.size rfl (.tmp 5) (.tmp 6) 22 3 (.int .i64 0) 8 rfl Try.underlying22 cinfo3 rfl (by decide) (by omega) v254 ([] : List Int) l0 _ _ _ (fun k_ => True) (fun _ => False) rfl rfl ?aO ?aR (fun _ _ h => h) (fun _ h => h.elim) ?aF ?aB ?aS ?aL ?_; (case aR => exact (Kd.C_below HR0.out HB.out)); (case aB => exact HB.out); (case aF => exact (fun k_ hk => trivial)); (case aO => exact Kd.R_lower (Kd.R_mono HO.out (fun _ _ => trivial)) (Nat.le_refl _)); (case aS => exact (below_size HB.out)); (case aL => have := HL.out; simp; omega); intro v257 w34 ho hb hg hat; have HO2 := Aside0.mk ho; clear HB; have HB := Aside0.mk hb; clear ho hb hg hat))
    go_ret
    exact ⟨_, rfl, by simpa using HO2.out, HB.out⟩
end Go.Proofs.Ytpgpckglgkichaa.P
