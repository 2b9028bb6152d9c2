/- Proved: a call of the Go function weak.become stores, into a row of its caller, another class for one of them, wherever the last strong one ahead is the one that is given; all else stays. -/
import Derived.Test.YtgoebfeojkgimaaDoorPx1
import Derived.Test.YtgoebfeojkgimaaDoorPLib
import Derived.WalkKit
import Derived.ProofKit
namespace Go.Proofs.YtgoebfeojkgimaaDoor.P
open Go.RowKit Go.Proofs.YtgoebfeojkgimaaDoorW.PrintWords Go.Proofs.YtgoebfeojkgimaaDoorW.PrintLast Go.Proofs.YtgoebfeojkgimaaDoorW.PrintMore
set_option linter.unusedVariables false
set_option linter.unusedSimpArgs false

def stgK (k : Int) : Bool := decide (k ∈ [0, 1, 2])
theorem stg_eq0 (k : Int) : class_Strong.f 20 k = some (stgK k) := by
  obtain ⟨b, hb⟩ : ∃ b, class_set.f 20 ([0, 1, 2] : List Int) = some b := Option.isSome_iff_exists.1 (by decide +kernel)
  by_cases h : 0 ≤ k ∧ k ≤ 22
  · have hall : ∀ j : Fin 23, class_Strong.f 20 ((j.val : Nat) : Int) = some (stgK ((j.val : Nat) : Int)) := by decide +kernel
    have := hall ⟨k.toNat, by omega⟩
    simpa [Int.toNat_of_nonneg h.1] using this
  · have e : stgK k = false := by
      unfold stgK
      rw [decide_eq_false_iff_not]
      simp only [List.mem_cons, List.not_mem_nil, or_false]
      omega
    unfold class_Strong.f
    rw [hb, e, Option.bind_some]
    unfold class_in.f
    by_cases h0 : k ≥ 0
    · rw [if_pos h0, if_neg (by omega)]
      rfl
    · rw [if_neg h0]
      rfl

/-- Of one class those behind a strong one of a kind become another. -/
def becomeM (frm tgt strong : Int) : Int → List Int → List Int
  | _, [] => []
  | last, c :: l => (if c = frm ∧ last = strong then tgt else c) :: becomeM frm tgt strong (if stgK c = true then c else last) l
theorem becomeM_len (frm tgt strong : Int) : ∀ (l : List Int) (last : Int), (becomeM frm tgt strong last l).length = l.length
  | [], _ => rfl
  | c :: l, last => by simp [becomeM, becomeM_len frm tgt strong l]
def weak_become.f (l0 : List Int) (a1 a2 a3 a4 : Int) : Option (List Int) := if l0.length < 17592186044416 then some (becomeM a2 a3 a4 a1 l0) else none

/-- A row of the caller's, as a function that stores into it must leave it. -/
def RowSt (w0 w : World) (P0 : Nat → Prop) (v : Value) (W : World) (xs : List Int) : Prop :=
  Kd.R (Kd.int .i64) 3 W w0.heap.size (fun k_ => (P0 k_ ∨ w.heap.size ≤ k_)) v xs ∧ Below w0.heap.size w0 W ∧ Kept w W (fun k_ => P0 k_)
section
variable {w0 w W W2 : World} {P0 : Nat → Prop} {v : Value} {xs : List Int} {g n c : Nat}
theorem RowSt.below (h : RowSt w0 w P0 v W xs) (hb : Below W.heap.size W W2) : RowSt w0 w P0 v W2 xs := ⟨Kd.R_below h.1 hb, below_step h.2.1 hb, h.2.2.below hb⟩
theorem RowSt.drewN (h : RowSt w0 w P0 v W xs) (m : Nat) : RowSt w0 w P0 v (W.drewN m) xs := ⟨Kd.R_drewN h.1 m, pw_below_drewN h.2.1 m, h.2.2.drewN m⟩
theorem RowSt.at (h : RowSt w0 w P0 (.slice (some ⟨g, 0, none⟩) n c) W xs) (hn : xs.length = n) (i : Nat) (hi : i < n) : W.cell? ⟨g, i, none⟩ = some (.int .i64 (rd xs (i : Int))) ∧ W.frozen? ⟨g, i, none⟩ = false := by
  have h1 := Kd.own_of_R h.1
  rw [hn] at h1
  have := own_at (k := .i64) h1 (i : Int) (by omega) (by omega)
  rwa [Int.toNat_natCast] at this
theorem RowSt.set (h : RowSt w0 w P0 (.slice (some ⟨g, 0, none⟩) n c) W xs) (hn : xs.length = n) (i : Nat) (x : Int) : RowSt w0 w P0 (.slice (some ⟨g, 0, none⟩) n c) (W.setCell ⟨g, i, none⟩ (.int .i64 x)) (xs.set i x) := by
  have h1 := Kd.own_of_R h.1
  have hg : w0.heap.size ≤ g := own_base h1 g rfl
  have hok := h.1.1 g rfl
  rw [hn] at h1
  obtain ⟨o1, g1⟩ := own_store (k := .i64) h1 (i : Int) x
  rw [Int.toNat_natCast] at o1
  exact ⟨Kd.R_of_own (by rw [List.length_set, hn]; exact o1) (fun k hk => h.1.1 k hk), below_set h.2.1 hg, h.2.2.setCell (p := ⟨g, i, none⟩) hok _⟩
end
/-- What a closure holds: the slice, and three classes. -/
def BoxSt (B : Nat) (v : Value) (frm tgt strong : Int) (W : World) : Prop :=
  W.cell? ⟨B, 0, none⟩ = some v ∧ W.cell? ⟨B + 1, 0, none⟩ = some (.int .i64 frm) ∧ W.cell? ⟨B + 2, 0, none⟩ = some (.int .i64 tgt) ∧ W.cell? ⟨B + 3, 0, none⟩ = some (.int .i64 strong)
theorem BoxSt.below {B : Nat} {v : Value} {frm tgt strong : Int} {W W2 : World} (h : BoxSt B v frm tgt strong W) (hb : Below W.heap.size W W2) : BoxSt B v frm tgt strong W2 :=
  ⟨cell_later hb h.1, cell_later hb h.2.1, cell_later hb h.2.2.1, cell_later hb h.2.2.2⟩
theorem cell_set_other {W : World} {p q : Addr} {x : Value} (hne : p.block ≠ q.block) : (W.setCell q x).cell? p = W.cell? p := by
  have := Below.heap_setCell W q x p.block hne
  simp [World.cell?, this]
theorem BoxSt.set {B g i : Nat} {v x : Value} {frm tgt strong : Int} {W : World} (h : BoxSt B v frm tgt strong W) (hg : g < B) : BoxSt B v frm tgt strong (W.setCell ⟨g, i, none⟩ x) :=
  ⟨(cell_set_other (by simp; omega)).trans h.1, (cell_set_other (by simp; omega)).trans h.2.1, (cell_set_other (by simp; omega)).trans h.2.2.1, (cell_set_other (by simp; omega)).trans h.2.2.2⟩
theorem BoxSt.drewN {B : Nat} {v : Value} {frm tgt strong : Int} {W : World} (h : BoxSt B v frm tgt strong W) (m : Nat) : BoxSt B v frm tgt strong (W.drewN m) := h
abbrev becCaps (B : Nat) : Array Value := #[.pointer (some ⟨B, 0, none⟩), .pointer (some ⟨B + 1, 0, none⟩), .pointer (some ⟨B + 3, 0, none⟩), .pointer (some ⟨B + 2, 0, none⟩)]

set_option maxHeartbeats 1000000 in
theorem become1_calls (w0 w W : World) (P0 : Nat → Prop) (g n c B : Nat) (xs : List Int) (frm tgt strong last : Int) (i : Nat) (hn : xs.length = n) (hi : i < n) (hg : g < B) (hR : RowSt w0 w P0 (.slice (some ⟨g, 0, none⟩) n c) W xs) (hX : BoxSt B (.slice (some ⟨g, 0, none⟩) n c) frm tgt strong W) :
    Calls Tryd.prog 26 (#[.int .i64 (i : Int), .int .i64 last] ++ becCaps B) W fun e W' => e = .returned (.tuple #[]) ∧ RowSt w0 w P0 (.slice (some ⟨g, 0, none⟩) n c) W' (if rd xs (i : Int) = frm ∧ last = strong then xs.set i tgt else xs) ∧ BoxSt B (.slice (some ⟨g, 0, none⟩) n c) frm tgt strong W' := by
  show Calls Tryd.prog 26 #[.int .i64 (i : Int), .int .i64 last, .pointer (some ⟨B, 0, none⟩), .pointer (some ⟨B + 1, 0, none⟩), .pointer (some ⟨B + 3, 0, none⟩), .pointer (some ⟨B + 2, 0, none⟩)] W _
  obtain ⟨hx, hf⟩ := hR.at hn i hi
  obtain ⟨x0, x1, x2, x3⟩ := id hX
  have q1 : ((0 : Int) ≤ (i : Int)) = True := eq_true (by omega)
  have q2 : ((i : Int) < (n : Int)) = True := eq_true (by omega)
  have HR := Aside0.mk hR
  have HX := Aside0.mk hX
  have HN := Aside0.mk hn
  have HG := Aside0.mk hg
  clear hR hX hn hg hi
  obtain ⟨y, hy⟩ : ∃ y, rd xs (i : Int) = y := ⟨_, rfl⟩
  rw [hy] at hx ⊢
  clear hy
  by_cases h1 : y = frm
  · have b1 : (y == frm) = true := by simpa using h1
    by_cases h2 : last = strong
    · have b2 : (last == strong) = true := by simpa using h2
      rw [if_pos ⟨h1, h2⟩]
      clear h1 h2
      go_enter Tryd.func26, Tryd.ntmps26
      go_wp2
      repeat (go_quiet (fail); try go_wp2)
      go_end0
      exact ⟨rfl, (HR.out.drewN _).set HN.out i tgt, (HX.out.drewN _).set HG.out⟩
    · have b2 : (last == strong) = false := by simpa using h2
      rw [if_neg (fun h => h2 h.2)]
      clear h1 h2
      go_enter Tryd.func26, Tryd.ntmps26
      go_wp2
      repeat (go_quiet (fail); try go_wp2)
      go_end0
      exact ⟨rfl, HR.out.drewN _, HX.out.drewN _⟩
  · have b1 : (y == frm) = false := by simpa using h1
    rw [if_neg (fun h => h1 h.1)]
    clear h1
    go_enter Tryd.func26, Tryd.ntmps26
    go_wp2
    repeat (go_quiet (fail); try go_wp2)
    go_end0
    exact ⟨rfl, HR.out.drewN _, HX.out.drewN _⟩

theorem blk_alloc_new (w : World) (v : Value) (t : TypeId) : (w.alloc (.cells #[v] t)).heap[w.heap.size]? = some (.cells #[v] t (0, 0)) := heap_alloc_new w _
theorem cell_new (w : World) (v : Value) (t : TypeId) : (w.alloc (.cells #[v] t)).cell? ⟨w.heap.size, 0, none⟩ = some v := blk_cell (blk_alloc_new w v t) 0
theorem take_set_succ (xs : List Int) (i : Nat) (x : Int) (h : i < xs.length) : (xs.set i x).take (i + 1) = xs.take i ++ [x] := by
  rw [List.take_succ_eq_append_getElem (by simpa using h), List.take_set_of_le (Nat.le_refl _)]
  simp
theorem drop_set_succ (xs : List Int) (i : Nat) (x : Int) : (xs.set i x).drop (i + 1) = xs.drop (i + 1) := List.drop_set_of_lt (by omega)
theorem drop_cons' (xs : List Int) (i : Nat) (h : i < xs.length) : xs.drop i = rd xs (i : Int) :: xs.drop (i + 1) := by
  unfold rd
  rw [Int.toNat_natCast, List.getD_eq_getElem?_getD, List.getElem?_eq_getElem h, Option.getD_some]
  exact List.drop_eq_getElem_cons h
theorem take_succ' (xs : List Int) (i : Nat) (h : i < xs.length) : xs.take (i + 1) = xs.take i ++ [rd xs (i : Int)] := by
  unfold rd
  rw [Int.toNat_natCast, List.getD_eq_getElem?_getD, List.getElem?_eq_getElem h, Option.getD_some]
  exact List.take_succ_eq_append_getElem h
set_option maxHeartbeats 2000000 in
theorem behind_calls (w0 w W : World) (P0 : Nat → Prop) (A : Option Addr) (c B : Nat) (l0 : List Int) (frm tgt strong sos : Int) (hl : l0.length < 17592186044416) (hA : 0 < l0.length → ∃ g, A = some ⟨g, 0, none⟩ ∧ g < B)
    (hR : RowSt w0 w P0 (.slice A l0.length c) W l0) (hX : BoxSt B (.slice A l0.length c) frm tgt strong W) :
    Calls Tryd.prog 25 #[.slice A l0.length c, .int .i64 sos, .func (.func 16) #[] #[], .func (.func 26) #[] (becCaps B)] W fun e W' => e = .returned (.tuple #[]) ∧ RowSt w0 w P0 (.slice A l0.length c) W' (becomeM frm tgt strong sos l0) := by
  have HR := Aside0.mk hR
  have HX := Aside0.mk hX
  have HA := Aside0.mk hA
  have HL := Aside0.mk hl
  clear hR hX hA hl
  go_enter Tryd.func25, Tryd.ntmps25
  go_wp2
  go_loopw [8, 14] (fun vl vi wr => ∃ (i : Nat) (last : Int) (cur : List Int), vl = .int .i64 last ∧ vi = .int .i64 (i : Int) ∧ i ≤ l0.length ∧ cur.length = l0.length ∧ cur.drop i = l0.drop i ∧ becomeM frm tgt strong sos l0 = cur.take i ++ becomeM frm tgt strong last (l0.drop i) ∧ RowSt w0 w P0 (.slice A l0.length c) wr cur ∧ BoxSt B (.slice A l0.length c) frm tgt strong wr) (fun _ vi _ => l0.length - (intOf vi).toNat)
  case atStart => exact ⟨0, sos, l0, rfl, rfl, Nat.zero_le _, rfl, rfl, rfl, HR.out, HX.out⟩
  case round =>
    obtain ⟨i, last, cur, rfl, rfl, hi, hcl, hdr, hm, hR, hX⟩ := hrel
    by_cases h : i < l0.length
    · obtain ⟨g, rfl, hg⟩ := HA.out (by omega)
      obtain ⟨x, hxe⟩ : ∃ x, rd cur (i : Int) = x := ⟨_, rfl⟩
      have hx := (hR.at hcl i h).1
      rw [hxe] at hx
      have hd1 := drop_cons' cur i (by omega)
      rw [hdr, drop_cons' l0 i h, hxe] at hd1
      injection hd1 with hxl hd2
      rw [drop_cons' l0 i h, hxl] at hm
      simp only [becomeM] at hm
      have hcall := become1_calls w0 w wr P0 g l0.length c B cur frm tgt strong last i hcl h hg hR hX
      rw [hxe] at hcall
      have hst : ∀ W, Calls Tryd.prog 16 #[.int .i64 x] W fun e w' => e = .returned (.bool (stgK x)) ∧ Below W.heap.size W w' := fun W => class_Strong.calls 20 x _ W (stg_eq0 x)
      have h1 : decide ((i : Int) < (l0.length : Int)) = true := decide_eq_true (by omega)
      have h2 : ((0 : Int) ≤ (i : Int)) = True := eq_true (by omega)
      have h3 : ((i : Int) < (l0.length : Int)) = True := eq_true (by omega)
      have hwi : wrap64 ((i : Int) + 1) = ((i + 1 : Nat) : Int) := wrap_succ i (by have := HL.out; omega)
      have HWI := Aside0.mk hwi
      have HM := Aside0.mk hm
      have HD := Aside0.mk hd2
      have HC := Aside0.mk hcl
      have HXE := Aside0.mk hxe
      have HLT := Aside0.mk h
      have HME := Aside0.mk (show l0.length - (i + 1) < l0.length - i by omega)
      clear hwi hm hd2 hcl hxe hR hX hdr hxl hi h hg
      have fin : ∀ (last' : Int) (w2 : World), last' = (if stgK x = true then x else last) → RowSt w0 w P0 (.slice (some ⟨g, 0, none⟩) l0.length c) w2 (if x = frm ∧ last = strong then cur.set i tgt else cur) → BoxSt B (.slice (some ⟨g, 0, none⟩) l0.length c) frm tgt strong w2 →
          ∃ (i' : Nat) (la : Int) (cu : List Int), Value.int .i64 last' = .int .i64 la ∧ Value.int .i64 (((i + 1 : Nat) : Int)) = .int .i64 (i' : Int) ∧ i' ≤ l0.length ∧ cu.length = l0.length ∧ cu.drop i' = l0.drop i' ∧ becomeM frm tgt strong sos l0 = cu.take i' ++ becomeM frm tgt strong la (l0.drop i') ∧ RowSt w0 w P0 (.slice (some ⟨g, 0, none⟩) l0.length c) w2 cu ∧ BoxSt B (.slice (some ⟨g, 0, none⟩) l0.length c) frm tgt strong w2 := by
        intro last' w2 hlast hr hb
        have hlt := HLT.out
        have hcc := HC.out
        have hdd := HD.out
        have hmm := HM.out
        rw [← hlast] at hmm
        refine ⟨i + 1, last', _, rfl, rfl, by omega, ?_, ?_, ?_, hr, hb⟩
        · split
          · rw [List.length_set, hcc]
          · exact hcc
        · split
          · rw [drop_set_succ]
            exact hdd.symm
          · exact hdd.symm
        · rw [hmm]
          split
          · rw [take_set_succ cur i tgt (by omega), List.append_assoc, List.singleton_append]
          · rw [take_succ' cur i (by omega), HXE.out, List.append_assoc, List.singleton_append]
      have FIN := Aside0.mk fin
      clear fin
      obtain ⟨b, hb⟩ : ∃ b, stgK x = b := ⟨_, rfl⟩
      rw [hb] at hst
      have HSB := Aside0.mk hb
      clear hb
      cases b with
      | true =>
        go_wp2_with (first | (refine hcall.mono ?_; rintro e w' ⟨rfl, hr2, hb2⟩; have HR2 := Aside0.mk hr2; have HB2 := Aside0.mk hb2; clear hr2 hb2) | (refine (hst _).mono ?_; rintro e w'' ⟨rfl, hb3⟩; have HB3 := Aside0.mk hb3; clear hb3))
        refine ⟨?_, by rw [HWI.out]; exact HME.out⟩
        rw [HWI.out]
        exact FIN.out x _ (by rw [HSB.out, if_pos rfl]) (HR2.out.below HB3.out) (HB2.out.below HB3.out)
      | false =>
        go_wp2_with (first | (refine hcall.mono ?_; rintro e w' ⟨rfl, hr2, hb2⟩; have HR2 := Aside0.mk hr2; have HB2 := Aside0.mk hb2; clear hr2 hb2) | (refine (hst _).mono ?_; rintro e w'' ⟨rfl, hb3⟩; have HB3 := Aside0.mk hb3; clear hb3))
        refine ⟨?_, by rw [HWI.out]; exact HME.out⟩
        rw [HWI.out]
        exact FIN.out last _ (by rw [HSB.out, if_neg (by simp)]) (HR2.out.below HB3.out) (HB2.out.below HB3.out)
    · obtain rfl : i = l0.length := by omega
      have h1 : decide ((l0.length : Int) < (l0.length : Int)) = false := decide_eq_false (by omega)
      have HRR := Aside0.mk hR
      have hfin : becomeM frm tgt strong sos l0 = cur := by
        rw [hm, List.drop_length, ← hcl, List.take_length]
        simp [becomeM]
      have HF := Aside0.mk hfin
      clear hR hX hm hdr hcl hfin
      go_wp2
      go_end0
      rw [HF.out]
      exact ⟨rfl, HRR.out⟩
set_option maxHeartbeats 1000000 in
theorem weak_become.calls (P0_ : Nat → Prop) (u9000_ : Value) (l0 : List Int) (a1 a2 a3 a4 : Int) (r : List Int) (w0 w : World) (hB : Below w0.heap.size w0 w) (ho0 : Kd.R (Kd.int .i64) 3 w w0.heap.size P0_ u9000_ l0) (h : weak_become.f l0 a1 a2 a3 a4 = some r) :
    Calls Tryd.prog 18 #[u9000_, .int .i64 a1, .int .i64 a2, .int .i64 a3, .int .i64 a4] w fun e w' => e = .returned (.tuple #[]) ∧ Kd.R (Kd.int .i64) 3 w' w0.heap.size (fun k_ => (P0_ k_ ∨ w.heap.size ≤ k_)) u9000_ r ∧ Below w0.heap.size w0 w' ∧ Kept w w' (fun k_ => P0_ k_) := by
  unfold weak_become.f at h
  by_cases hl : l0.length < 17592186044416
  · rw [if_pos hl] at h
    obtain rfl := Option.some.inj h
    obtain ⟨A, c, rfl⟩ := Kd.R_slice ho0
    have hR : RowSt w0 w P0_ (.slice A l0.length c) w l0 := ⟨Kd.R_mono ho0 (fun _ hk => .inl hk), hB, Kept.refl _ _⟩
    have hA : 0 < l0.length → ∃ g, A = some ⟨g, 0, none⟩ ∧ g < w.heap.size := by
      intro hn
      obtain ⟨gb, cap, hv, _, _⟩ := (Kd.own_of_R ho0).form (by omega)
      injection hv with hv1 _ _
      subst hv1
      exact ⟨gb, rfl, Kd.R_lt ho0 gb rfl⟩
    obtain ⟨Wb, hWb⟩ : ∃ Wb, Wb = (((w.alloc (.cells #[.slice A l0.length c] 22)).alloc (.cells #[.int .i64 a2] 3)).alloc (.cells #[.int .i64 a3] 3)).alloc (.cells #[.int .i64 a4] 3) := ⟨_, rfl⟩
    have hb : Below w.heap.size w Wb := by
      rw [hWb]
      exact below_alloc (below_alloc (below_alloc (below_alloc (Below.refl _ _) _) _) _) _
    have hX : BoxSt w.heap.size (.slice A l0.length c) a2 a3 a4 Wb := by
      rw [hWb]
      refine ⟨?_, ?_, ?_, ?_⟩
      · exact (World.cell?_alloc_lt _ _ _ (by first | (simp; done) | (simp; omega))).trans ((World.cell?_alloc_lt _ _ _ (by first | (simp; done) | (simp; omega))).trans ((World.cell?_alloc_lt _ _ _ (by simp)).trans (cell_new _ _ _)))
      · have e := cell_new (w.alloc (.cells #[.slice A l0.length c] 22)) (.int .i64 a2) 3
        rw [World.size_alloc] at e
        exact (World.cell?_alloc_lt _ _ _ (by simp)).trans ((World.cell?_alloc_lt _ _ _ (by simp)).trans e)
      · have e := cell_new ((w.alloc (.cells #[.slice A l0.length c] 22)).alloc (.cells #[.int .i64 a2] 3)) (.int .i64 a3) 3
        rw [World.size_alloc, World.size_alloc] at e
        exact (World.cell?_alloc_lt _ _ _ (by simp)).trans e
      · have e := cell_new (((w.alloc (.cells #[.slice A l0.length c] 22)).alloc (.cells #[.int .i64 a2] 3)).alloc (.cells #[.int .i64 a3] 3)) (.int .i64 a4) 3
        rw [World.size_alloc, World.size_alloc, World.size_alloc] at e
        exact e
    have hcall := behind_calls w0 w Wb P0_ A c w.heap.size l0 a2 a3 a4 a1 hl hA (hR.below hb) hX
    rw [hWb] at hcall
    have a0 := hX.1
    rw [hWb] at a0
    clear hR hA hX hb hWb ho0 hB h hl
    go_enter Tryd.func18, Tryd.ntmps18
    go_wp2_with (refine hcall.mono ?_; rintro e w' ⟨rfl, h1, h2, h3⟩)
    go_end0
    exact ⟨rfl, h1, h2, h3⟩
  · rw [if_neg hl] at h
    cases h
end Go.Proofs.YtgoebfeojkgimaaDoor.P
