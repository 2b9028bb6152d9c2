/- Proved: a call of the Go function utf.Decode, with any bytes, answers the characters that the model's own reading of a text yields, where they begin, and the end; more than 4000 bytes are refused; condition: enough rounds. -/
import Derived.Test.YtgcdhjgdlnpknaaDoorPLib
import Derived.WalkKit
import Derived.ProofKit
import Derived.Lib.OthersKept
namespace Go.Proofs.YtgcdhjgdlnpknaaDoor.P
open Go.RowKit Go.Proofs.YtgcdhjgdlnpknaaDoorW.PrintWords Go.Proofs.YtgcdhjgdlnpknaaDoorW.PrintLast
set_option linter.unusedVariables false
set_option linter.unusedSimpArgs false

theorem R_iter {α : Type} {d : Kd α} {e : Nat} {W : World} {base : Nat} {ok : Nat → Prop} {v : Value} {xs : List α} (h : d.R e W base ok v xs) {k : Nat} {s : ByteArray} {pos : Nat} (hk : W.heap[k]? = some (.stringIter s pos)) (pos' : Nat) : d.R e (W.iterAt k s pos') base ok v xs :=
  Kd.R_mono (Kd.R_move (Kd.R_bound h) (fun j hj => Lib.iterAt_other W k j s pos' (by
    obtain ⟨_, _, _, q, _, cells, hc⟩ := hj
    intro e1
    subst e1
    rw [hk] at hc
    cases hc))) (fun _ hj => hj.1)
theorem iter_ne {α : Type} {d : Kd α} {e : Nat} {W : World} {base : Nat} {ok : Nat → Prop} {v : Value} {xs : List α} (h : d.R e W base ok v xs) {k : Nat} {s : ByteArray} {pos : Nat} (hk : W.heap[k]? = some (.stringIter s pos)) : some k ≠ v.ownBlock := fun e1 => by
  obtain ⟨_, _, _, q, _, cells, hc⟩ := (Kd.R_bound h).1 k e1.symm
  rw [hk] at hc
  cases hc
theorem iter_grown {W W1 : World} {row : Option Nat} {k : Nat} {s : ByteArray} {pos : Nat} (hk : W.heap[k]? = some (.stringIter s pos)) (hg : W.grownBy W1 row) (hne : some k ≠ row) : W1.heap[k]? = some (.stringIter s pos) :=
  (hg.block k (Array.getElem?_eq_some_iff.1 hk).1 hne).trans hk
theorem iter_below {W W1 : World} {k : Nat} {s : ByteArray} {pos : Nat} (hk : W.heap[k]? = some (.stringIter s pos)) (hb : Below W.heap.size W W1) : W1.heap[k]? = some (.stringIter s pos) :=
  (hb.block k (Array.getElem?_eq_some_iff.1 hk).1).trans hk
def utf_Decode.l0 : Nat → ByteArray → Nat → List Int → List Int → Option (List Int × List Int)
  | 0, _, _, _, _ => none
  | k + 1, s, pos, cs, at_ => if pos < s.size then (if cs.length < 17592186044416 then (if at_.length < 17592186044416 then utf_Decode.l0 k s (pos + (Utf8.decode s pos).2) (cs ++ [wrap64 ((Utf8.decode s pos).1 : Int)]) (at_ ++ [(pos : Int)]) else none) else none) else (if at_.length < 17592186044416 then some (cs, at_) else none)
def utf_Decode.f (k : Nat) (l0 : List Int) : Option (List Int × List Int × Int) := if (l0.length : Int) > 4000 then (some (([] : List Int), ([] : List Int), 2)) else ((utf_Decode.l0 k (strOfNums l0) 0 [] []).bind fun p => some (p.1, p.2 ++ [(l0.length : Int)], 0))
theorem utf_Decode.mono_l : ∀ k s p a b, LeO (utf_Decode.l0 k s p a b) (utf_Decode.l0 (k + 1) s p a b) := by
  intro k
  induction k with
  | zero => intro s p a b; exact LeO.none _
  | succ k ih =>
    intro s p a b
    simp only [utf_Decode.l0]
    repeat' first
      | exact ih _ _ _ _
      | exact LeO.refl _
      | exact LeO.none _
      | refine LeO.ite ?_ ?_
theorem utf_Decode.mono : ∀ a0 k, LeO (utf_Decode.f k a0) (utf_Decode.f (k + 1) a0) := by
  intro a0 k
  unfold utf_Decode.f
  refine LeO.ite (LeO.refl _) (LeO.bind (utf_Decode.mono_l _ _ _ _ _) fun _ => LeO.refl _)
set_option maxHeartbeats 4000000 in
set_option maxRecDepth 100000 in
theorem utf_Decode.calls (k : Nat) (A0 : Option Addr) (c0 : Nat) (l0 : List Int) (r1 : List Int) (r2 : List Int) (r3 : Int) (w : World) (hr0 : Kd.C (Kd.int .u8) w A0 l0.length l0) (hc0 : l0.length ≤ c0) (h : utf_Decode.f k l0 = some (r1, r2, r3)) :
    Calls Tryd.prog 9 #[.slice A0 l0.length c0] w fun e w' => ∃ v0_ v1_ : Value, e = .returned (.tuple #[v0_, v1_, .int .i64 r3]) ∧ Kd.R (Kd.int .i64) 3 w' w.heap.size (fun k_ => some k_ ≠ (v1_ : Value).ownBlock) v0_ r1 ∧ Kd.R (Kd.int .i64) 3 w' w.heap.size (fun k_ => some k_ ≠ (v0_ : Value).ownBlock) v1_ r2 ∧ Below w.heap.size w w' := by
  have HR0 := Aside0.mk hr0
  clear hc0
  have HB := Aside0.mk (Below.refl w.heap.size w)
  unfold utf_Decode.f at h
  by_cases c2 : (l0.length : Int) > 4000
  · rw [if_pos c2] at h
    have c2b0 : decide (4000 < (l0.length : Int)) = true := decide_eq_true c2
    clear c2 hr0
    simp only [Option.some.injEq, Prod.mk.injEq] at h
    obtain ⟨rfl, rfl, rfl⟩ := h
    go_enter Tryd.func9, Tryd.ntmps9
    go_wp2
    go_ret3
    exact ⟨_, _, rfl, Kd.R_nil _ _ _ _ _, Kd.R_nil _ _ _ _ _, HB.out⟩
  rw [if_neg c2] at h
  have c2b0 : decide (4000 < (l0.length : Int)) = false := decide_eq_false c2
  clear c2
  obtain ⟨⟨cs, at_⟩, h1, h2⟩ := Option.bind_eq_some_iff.mp h
  clear h
  simp only [Option.some.injEq, Prod.mk.injEq] at h2
  obtain ⟨rfl, rfl, rfl⟩ := h2
  have hcv := fun n_ : Nat => Kd.C_string (c := c0) (dst := 9) Tryd.underlying22 Tryd.underlying5 Tryd.underlying9 (Kd.C_drewN hr0 n_)
  have hcv0 := Kd.C_string (c := c0) (dst := 9) Tryd.underlying22 Tryd.underlying5 Tryd.underlying9 hr0
  obtain ⟨s, hs⟩ : ∃ s, strOfNums l0 = s := ⟨_, rfl⟩
  rw [hs] at hcv0 h1
  simp only [hs] at hcv
  clear hr0
  have H' := Aside0.mk h1
  clear h1 hs
  go_enter Tryd.func9, Tryd.ntmps9
  go_wp2
  go_loopg [2, 3] k (fun kq v2 v3 w' => ∃ (cs1 at1 : List Int) (pos : Nat), Aside0 (utf_Decode.l0 kq s pos cs1 at1 = some (cs, at_)) ∧ Aside0 (kq ≤ k) ∧ Aside0 (w'.heap[w.heap.size]? = some (.stringIter s pos)) ∧ Aside0 (Kd.R (Kd.int .i64) 3 w' w.heap.size (fun k_ => some k_ ≠ (v3 : Value).ownBlock) v2 cs1) ∧ Aside0 (Kd.R (Kd.int .i64) 3 w' w.heap.size (fun k_ => some k_ ≠ (v2 : Value).ownBlock) v3 at1) ∧ Aside0 (Below w.heap.size w w'))
  case atStart => exact ⟨[], [], 0, H', ⟨Nat.le_refl _⟩, ⟨heap_alloc_new w _⟩, ⟨Kd.R_nil _ _ _ _ _⟩, ⟨Kd.R_nil _ _ _ _ _⟩, ⟨(below_alloc HB.out _ : Below w.heap.size w (w.alloc (.stringIter s 0)))⟩⟩
  case round =>
    clear H' hcv hcv0
    obtain ⟨cs1, at1, pos, HA, HK, HI, HO_2, HO_3, HB⟩ := hrel
    cases gk with
    | zero => exact absurd HA.out (by simp [utf_Decode.l0])
    | succ k1 =>
      have H := HA.out
      clear HA
      simp only [utf_Decode.l0] at H
      by_cases hp : pos < s.size
      · rw [if_pos hp] at H
        by_cases c1 : cs1.length < 17592186044416
        rotate_left
        · rw [if_neg c1] at H
          exact absurd H (by simp)
        rw [if_pos c1] at H
        by_cases c3 : at1.length < 17592186044416
        rotate_left
        · rw [if_neg c3] at H
          exact absurd H (by simp)
        rw [if_pos c3] at H
        have LM1 := Aside0.mk c1
        have LM2 := Aside0.mk c3
        clear c1 c3
        have H' := Aside0.mk H
        clear H
        have hnx : ∀ ty, (Instr.next (.pointer (some ⟨w.heap.size, 0, none⟩)) true ty).run Tryd.prog wr = .ok (.tuple #[.bool true, .int .i64 pos, .int .i32 (Utf8.decode s pos).1]) (wr.iterAt w.heap.size s (pos + (Utf8.decode s pos).2)) := fun ty => Lib.run_next_any_at wr w.heap.size s pos ty HI.out hp
        have n0_ := Aside0.mk (R_iter HO_2.out HI.out (pos + (Utf8.decode s pos).2))
        have n1_ := Aside0.mk (R_iter HO_3.out HI.out (pos + (Utf8.decode s pos).2))
        have n2_ := Aside0.mk (Lib.below_iterAt HB.out (Nat.le_refl _) s (pos + (Utf8.decode s pos).2))
        have n3_ := Aside0.mk (Lib.iterAt_heap wr w.heap.size s pos (pos + (Utf8.decode s pos).2) HI.out)
        have HNE := Aside0.mk (iter_ne HO_2.out HI.out)
        have HNE3 := Aside0.mk (iter_ne HO_3.out HI.out)
        clear HO_2 HO_3 HB HI
        have HO_2 := n0_
        have HO_3 := n1_
        have HB := n2_
        have HI := n3_
        clear n0_ n1_ n2_ n3_
        obtain ⟨W1, hW1⟩ : ∃ W1, wr.iterAt w.heap.size s (pos + (Utf8.decode s pos).2) = W1 := ⟨_, rfl⟩
        rw [hW1] at HO_2 HO_3 HB HI
        simp only [hW1] at hnx
        clear hW1 hp
        go_wp2_with (first | ((with_reducible refine gate_builtin (b := .append) (xs := #[.tmp 17, .tmp 20]) rfl ?_); at_builtin; refine Kd.R_append (Kd.int .i64) (w0 := w) w.heap.size rfl (.tmp 17) (.tmp 20) 24 3 (.int .i64 0) 8 rfl Tryd.underlying24 info3 rfl (by decide) (by omega) u2 cs1 (wrap64 ((Utf8.decode s pos).1 : Int)) [.int .i64 (wrap64 ((Utf8.decode s pos).1 : Int))] (fun k_ => some k_ ≠ (u3 : Value).ownBlock) (fun _ => False) rfl rfl ?aP (fun _ hk => hk.elim) ?aF ?aO ?aB ?aS ?aL ?_; (case aP => exact rfl); (case aB => exact (by repeat (first | (with_reducible first | exact HB.out | apply below_alloc | apply pw_below_drewN | apply below_drew1) | exact HB.out))); (case aF => exact (fun k_ hk => Kd.fresh' (Kd.R_lt (by (with_reducible repeat (first | apply Kd.R_alloc | apply Kd.R_drewN | apply Kd.R_drew)); exact HO_3.out)) k_ hk)); (case aO => exact (by (with_reducible repeat (first | apply Kd.R_alloc | apply Kd.R_drewN | apply Kd.R_drew)); exact HO_2.out)); (case aS => exact (below_size (by repeat (first | (with_reducible first | exact HB.out | apply below_alloc | apply pw_below_drewN | apply below_drew1) | exact HB.out)))); (case aL => have := LM1.out; omega); intro v21 w21 ho hb hg hat; have n0_ := Aside0.mk (Kd.R_after (ok := (fun _ => True)) (by (with_reducible repeat (first | apply Kd.R_alloc | apply Kd.R_drewN | apply Kd.R_drew)); exact Kd.R_mono HO_3.out (fun _ hk => ⟨trivial, hk⟩)) hg hat); have n1_ := Aside0.mk hb; have n2_ := Aside0.mk ho; have n3_ := Aside0.mk (iter_grown (by exact HI.out) hg HNE.out); clear HO_3 HB HO_2 HI; have HO_3 := n0_; have HB := n1_; have HO_2 := n2_; have HI := n3_; clear n0_ n1_ n2_ n3_; clear ho hb hg hat) | ((with_reducible refine gate_builtin (b := .append) (xs := #[.tmp 22, .tmp 24]) rfl ?_); at_builtin; refine Kd.R_append (Kd.int .i64) (w0 := w) w.heap.size rfl (.tmp 22) (.tmp 24) 24 3 (.int .i64 0) 8 rfl Tryd.underlying24 info3 rfl (by decide) (by omega) u3 at1 (pos : Int) [.int .i64 (pos : Int)] (fun k_ => some k_ ≠ (v21 : Value).ownBlock) (fun _ => False) rfl rfl ?aP (fun _ hk => hk.elim) ?aF ?aO ?aB ?aS ?aL ?_; (case aP => exact rfl); (case aB => exact (by repeat (first | (with_reducible first | exact HB.out | apply below_alloc | apply pw_below_drewN | apply below_drew1) | exact HB.out))); (case aF => exact (fun k_ hk => Kd.fresh' (Kd.R_lt (by (with_reducible repeat (first | apply Kd.R_alloc | apply Kd.R_drewN | apply Kd.R_drew)); exact HO_2.out)) k_ hk)); (case aO => exact (by (with_reducible repeat (first | apply Kd.R_alloc | apply Kd.R_drewN | apply Kd.R_drew)); exact Kd.R_mono HO_3.out (fun _ hk => hk.2))); (case aS => exact (below_size (by repeat (first | (with_reducible first | exact HB.out | apply below_alloc | apply pw_below_drewN | apply below_drew1) | exact HB.out)))); (case aL => have := LM2.out; omega); intro v25 w25 ho hb hg hat; have n0_ := Aside0.mk (Kd.R_after (ok := (fun _ => True)) (by (with_reducible repeat (first | apply Kd.R_alloc | apply Kd.R_drewN | apply Kd.R_drew)); exact Kd.R_mono HO_2.out (fun _ hk => ⟨trivial, hk⟩)) hg hat); have n1_ := Aside0.mk hb; have n2_ := Aside0.mk ho; have n3_ := Aside0.mk (iter_grown (by exact HI.out) hg HNE3.out); clear HO_3 HB HO_2 HI; have HO_2 := n0_; have HB := n1_; have HO_3 := n2_; have HI := n3_; clear n0_ n1_ n2_ n3_; clear ho hb hg hat))
        go_roundg k1
        case measure => have := HK.out; omega
        case rel => exact ⟨_, _, _, H', ⟨by have := HK.out; omega⟩, HI, ⟨by (with_reducible repeat (first | apply Kd.R_alloc | apply Kd.R_drewN | apply Kd.R_drew)); exact Kd.R_mono HO_2.out (fun _ hk => hk.2)⟩, ⟨by (with_reducible repeat (first | apply Kd.R_alloc | apply Kd.R_drewN | apply Kd.R_drew)); exact HO_3.out⟩, ⟨by repeat (first | (with_reducible first | exact HB.out | apply below_alloc | apply pw_below_drewN | apply below_drew1) | exact HB.out)⟩⟩
      · rw [if_neg hp] at H
        by_cases c3 : at1.length < 17592186044416
        rotate_left
        · rw [if_neg c3] at H
          exact absurd H (by simp)
        rw [if_pos c3] at H
        have LM2 := Aside0.mk c3
        clear c3
        simp only [Option.some.injEq, Prod.mk.injEq] at H
        obtain ⟨rfl, rfl⟩ := H
        have hnx : ∀ ty, (Instr.next (.pointer (some ⟨w.heap.size, 0, none⟩)) true ty).run Tryd.prog wr = .ok (.tuple #[.bool false]) wr := fun ty => Lib.run_next_end_at wr w.heap.size s pos ty HI.out hp
        clear hp HI
        go_wp2_with (first | ((with_reducible refine gate_builtin (b := .append) (xs := #[.tmp 27, .tmp 30]) rfl ?_); at_builtin; refine Kd.R_append (Kd.int .i64) (w0 := w) w.heap.size rfl (.tmp 27) (.tmp 30) 24 3 (.int .i64 0) 8 rfl Tryd.underlying24 info3 rfl (by decide) (by omega) u3 at1 (l0.length : Int) [.int .i64 (l0.length : Int)] (fun k_ => some k_ ≠ (u2 : Value).ownBlock) (fun _ => False) rfl rfl ?aP (fun _ hk => hk.elim) ?aF ?aO ?aB ?aS ?aL ?_; (case aP => exact rfl); (case aB => exact (by repeat (first | (with_reducible first | exact HB.out | apply below_alloc | apply pw_below_drewN | apply below_drew1) | exact HB.out))); (case aF => exact (fun k_ hk => Kd.fresh' (Kd.R_lt (by (with_reducible repeat (first | apply Kd.R_alloc | apply Kd.R_drewN | apply Kd.R_drew)); exact HO_2.out)) k_ hk)); (case aO => exact (by (with_reducible repeat (first | apply Kd.R_alloc | apply Kd.R_drewN | apply Kd.R_drew)); exact HO_3.out)); (case aS => exact (below_size (by repeat (first | (with_reducible first | exact HB.out | apply below_alloc | apply pw_below_drewN | apply below_drew1) | exact HB.out)))); (case aL => have := LM2.out; omega); intro v31 w31 ho hb hg hat; have n0_ := Aside0.mk (Kd.R_after (ok := (fun _ => True)) (by (with_reducible repeat (first | apply Kd.R_alloc | apply Kd.R_drewN | apply Kd.R_drew)); exact Kd.R_mono HO_2.out (fun _ hk => ⟨trivial, hk⟩)) hg hat); have n1_ := Aside0.mk hb; have n2_ := Aside0.mk ho; clear HO_3 HB HO_2; have HO_2 := n0_; have HB := n1_; have HO_3 := n2_; clear n0_ n1_ n2_; clear ho hb hg hat))
        go_ret3
        exact ⟨_, _, rfl, by (with_reducible repeat (first | apply Kd.R_alloc | apply Kd.R_drewN | apply Kd.R_drew)); exact Kd.R_mono HO_2.out (fun _ hk => hk.2), by (with_reducible repeat (first | apply Kd.R_alloc | apply Kd.R_drewN | apply Kd.R_drew)); exact HO_3.out, by repeat (first | (with_reducible first | exact HB.out | apply below_alloc | apply pw_below_drewN | apply below_drew1) | exact HB.out)⟩
end Go.Proofs.YtgcdhjgdlnpknaaDoor.P
