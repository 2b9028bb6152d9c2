/- Texts of this claim put together by a program of its own (SRightN, SAlive19, SSize, Px13, PLib, PEv, PTree, PLay), what the law does not use left out: each part's statements bear their own conditions. -/
import Derived.Lib.SliceRun
import Derived.WalkKit
import Derived.WalkSpells
import Derived.ProofKit
import Derived.Laws.EntriesVeiled
import Derived.Test.YtbbplchdgedhcaaC9
import Derived.Test.YtbbplchdgedhcaaC10
namespace Go.Proofs.Ytbbplchdgedhcaa.P
open Go.RowKit Go.Proofs.YtbbplchdgedhcaaW.PrintWords Go.Proofs.YtbbplchdgedhcaaW.PrintLast
set_option linter.unusedVariables false
set_option linter.unusedSimpArgs false

/-- Is a place within a program? -/
def inI (n x : Int) : Bool := decide (0 ≤ x ∧ x < n)
/-- May an instruction not be? -/
def badV (n f0 f2 f3 : Int) : Bool :=
  if f0 = 0 ∨ f0 = 1 ∨ f0 = 4 ∨ f0 = 5 then false
  else if f0 = 2 then !(inI n f2) || !(inI n f3)
  else if f0 = 3 then !(inI n f2) else true
def badI (n : Int) (x : S39) : Bool := badV n x.f0 x.f2 x.f3
def rightI (l : List S39) : Bool := if l.length = 0 then false else if (l.length : Int) > 1000 then false else if (rd_T39 l ((l.length : Int) - 1)).f0 ≠ 0 then false else !(l.any (badI (l.length : Int)))
def nfa_Right.f (l0 : List S39) : Option Bool := some (rightI l0)
set_option maxHeartbeats 1000000 in
theorem in_calls (n x : Int) (c : Nat) (w : World) (hc : w.cell? ⟨c, 0, none⟩ = some (.int .i64 n)) :
    Calls Try.prog 25 #[.int .i64 x, .pointer (some ⟨c, 0, none⟩)] w fun e w' => e = .returned (.bool (inI n x)) ∧ w' = w := by
  by_cases h0 : x ≥ 0
  · have k0 : decide (x ≥ 0) = true := decide_eq_true h0
    have k0' : decide (0 ≤ x) = true := decide_eq_true h0
    have hi : inI n x = decide (x < n) := by unfold inI; simp [h0]
    rw [hi]
    clear hi h0
    go_enter Try.func25, Try.ntmps25
    go_wp2
    go_ret
    exact ⟨rfl, rfl⟩
  · have k0 : decide (x ≥ 0) = false := decide_eq_false h0
    have k0' : decide (0 ≤ x) = false := decide_eq_false h0
    have hi : inI n x = false := by unfold inI; exact decide_eq_false (by omega)
    rw [hi]
    clear hi h0
    go_enter Try.func25, Try.ntmps25
    go_wp2
    go_ret
    exact ⟨rfl, rfl⟩
set_option maxHeartbeats 4000000 in
theorem bad_calls (n : Int) (c d : Nat) (f0 : Int) (A1 : Option Addr) (n1 c1 : Nat) (f2 f3 : Int) (w : World) (hc : w.cell? ⟨c, 0, none⟩ = some (.int .i64 n)) (hd : w.cell? ⟨d, 0, none⟩ = some (.func (.func 25) #[] #[.pointer (some ⟨c, 0, none⟩)])) :
    Calls Try.prog 27 #[.agg #[.int .i64 f0, .slice A1 n1 c1, .int .i64 f2, .int .i64 f3], .pointer (some ⟨d, 0, none⟩)] w fun e w' => e = .returned (.bool (badV n f0 f2 f3)) ∧ Below w.heap.size w w' := by
  have hu := Try.underlying39
  have hw2 := fun W y (h : W.cell? ⟨c, 0, none⟩ = some (.int .i64 n)) => in_calls n y c W h
  have HC := Aside0.mk hc
  have HW := Aside0.mk hw2
  have hd2 : ∀ o, (w.alloc o).cell? ⟨d, 0, none⟩ = some (.func (.func 25) #[] #[.pointer (some ⟨c, 0, none⟩)]) := fun o => cell_later (below_alloc (Below.refl _ _) o) hd
  clear hw2 hc hd
  unfold badV
  by_cases a0 : f0 = 0 ∨ f0 = 1 ∨ f0 = 4 ∨ f0 = 5
  · rw [if_pos a0]
    rcases a0 with rfl | rfl | rfl | rfl
    all_goals
      go_enter Try.func27, Try.ntmps27
      go_wp2
      go_ret
      exact ⟨rfl, below_alloc (Below.refl _ _) _⟩
  rw [if_neg a0]
  by_cases a2 : f0 = 2
  · rw [if_pos a2]
    subst a2
    clear a0
    have hd3 := hd2 (.cells #[.int .i64 2, .slice A1 n1 c1, .int .i64 f2, .int .i64 f3] 39)
    clear hd2
    cases hb : inI n f2 with
    | true =>
      go_enter Try.func27, Try.ntmps27
      go_wp2_with (refine (HW.out _ _ (cell_later (below_alloc (Below.refl _ _) _) HC.out)).mono ?_; rintro e w' ⟨rfl, rfl⟩; try rw [hb])
      go_ret
      exact ⟨by simp, below_alloc (Below.refl _ _) _⟩
    | false =>
      go_enter Try.func27, Try.ntmps27
      go_wp2_with (refine (HW.out _ _ (cell_later (below_alloc (Below.refl _ _) _) HC.out)).mono ?_; rintro e w' ⟨rfl, rfl⟩; try rw [hb])
      go_ret
      exact ⟨by simp, below_alloc (Below.refl _ _) _⟩
  rw [if_neg a2]
  by_cases a3 : f0 = 3
  · rw [if_pos a3]
    subst a3
    clear a0 a2
    have hd3 := hd2 (.cells #[.int .i64 3, .slice A1 n1 c1, .int .i64 f2, .int .i64 f3] 39)
    clear hd2
    go_enter Try.func27, Try.ntmps27
    go_wp2_with (refine (HW.out _ _ (cell_later (below_alloc (Below.refl _ _) _) HC.out)).mono ?_; rintro e w' ⟨rfl, rfl⟩)
    go_ret
    exact ⟨rfl, below_alloc (Below.refl _ _) _⟩
  · rw [if_neg a3]
    have k0 : (f0 == 0) = false := beq_eq_false_iff_ne.mpr (by omega)
    have k1 : (f0 == 1) = false := beq_eq_false_iff_ne.mpr (by omega)
    have k2 : (f0 == 2) = false := beq_eq_false_iff_ne.mpr (by omega)
    have k3 : (f0 == 3) = false := beq_eq_false_iff_ne.mpr (by omega)
    have k4 : (f0 == 4) = false := beq_eq_false_iff_ne.mpr (by omega)
    have k5 : (f0 == 5) = false := beq_eq_false_iff_ne.mpr (by omega)
    clear a0 a2 a3
    go_enter Try.func27, Try.ntmps27
    go_wp2
    go_ret
    exact ⟨rfl, below_alloc (Below.refl _ _) _⟩
theorem si_drop {α : Type} (z : α) (xs : List α) (i : Nat) (h : i < xs.length) : xs.drop i = xs.getD i z :: xs.drop (i + 1) := by
  rw [List.getD_eq_getElem?_getD, List.getElem?_eq_getElem h, Option.getD_some]
  exact List.drop_eq_getElem_cons h
theorem si_wrap (i : Nat) (h : i < 9223372036854775807) : wrap64 ((i : Int) + 1) = ((i + 1 : Nat) : Int) := by
  unfold wrap64
  omega
set_option maxHeartbeats 4000000 in
set_option maxRecDepth 100000 in
theorem index_inst (g : Nat) (caps : Array Value) (t : S39 → Bool) (A0 : Option Addr) (c0 : Nat) (l0 : List S39) (w : World) (hr0 : k39.C w A0 l0.length l0)
    (ht : ∀ (x : S39) (A1 : Option Addr) (c1 : Nat) (W : World), Below w.heap.size w W → Calls Try.prog g (#[.agg #[.int .i64 x.f0, .slice A1 x.f1.length c1, .int .i64 x.f2, .int .i64 x.f3]] ++ caps) W fun e w' => e = .returned (.bool (t x)) ∧ Below W.heap.size W w')
    (hgo : ∀ (v : Value) (W : World), (callFunc g (#[v] ++ caps)).run Try.prog W = .ok (.enter g (#[v] ++ caps)) W) :
    Calls Try.prog 36 #[.slice A0 l0.length c0, .func (.func g) #[] caps] w fun e w' => (∃ i : Int, e = .returned (.int .i64 i) ∧ decide (i ≥ 0) = l0.any t) ∧ Below w.heap.size w w' := by
  have HL := Aside0.mk (Kd.C_max hr0)
  have HR0 := Aside0.mk hr0
  have HT := Aside0.mk ht
  obtain ⟨r, hr⟩ : ∃ r, l0.any t = r := ⟨_, rfl⟩
  rw [hr]
  have HH := Aside0.mk hr
  clear hr0 ht hr
  go_enter Try.func36, Try.ntmps36
  go_wp2
  go_loopw [8] (fun v wr => ∃ i : Nat, v = .int .i64 (i : Int) ∧ i ≤ l0.length ∧ Below w.heap.size w wr ∧ (l0.drop i).any t = r) (fun v wr => l0.length - (intOf v).toNat)
  case atStart => exact ⟨0, rfl, by omega, Below.refl _ _, by simpa using HH.out⟩
  case round =>
    obtain ⟨i, rfl, hi, hB, hidx⟩ := hrel
    have HB := Aside0.mk hB
    by_cases h : i < l0.length
    · obtain ⟨ad, A1, c1, e, h0, h1, h2, h3, q1, q2⟩ := at_T39 (Kd.C_below HR0.out hB) (i : Int) (by omega) (by omega)
      cases e
      rw [Int.toNat_natCast] at h0 h1 h2 h3
      rw [si_drop z39 l0 i h] at hidx
      have hx : rd_T39 l0 (i : Int) = l0.getD i z39 := rfl
      rw [hx] at h0 h1 h2 h3 q1 q2
      obtain ⟨x, hxx⟩ : ∃ x, l0.getD i z39 = x := ⟨_, rfl⟩
      rw [hxx] at h0 h1 h2 h3 q1 q2 hidx
      simp only [List.any_cons] at hidx
      have hcall := HT.out x A1 c1 wr hB
      have p1 : decide ((i : Int) < (l0.length : Int)) = true := decide_eq_true (by omega)
      have p2 : ((0 : Int) ≤ (i : Int)) = True := eq_true (by omega)
      have p3 : ((i : Int) < (l0.length : Int)) = True := eq_true (by omega)
      have hgo1 := hgo (.agg #[.int .i64 x.f0, .slice A1 x.f1.length c1, .int .i64 x.f2, .int .i64 x.f3])
      obtain ⟨b, hb⟩ : ∃ b, t x = b := ⟨_, rfl⟩
      rw [hb] at hcall hidx
      have H := Aside0.mk hidx
      clear hidx hB hx hxx hb q1 q2
      cases b with
      | true =>
        go_wp2_with (refine hcall.mono ?_; rintro e w' ⟨rfl, hb1⟩; have HB1 := Aside0.mk hb1; clear hb1)
        go_ret
        refine ⟨⟨_, rfl, ?_⟩, below_step HB.out HB1.out⟩
        have := H.out
        rw [Bool.true_or] at this
        rw [← this]
        exact decide_eq_true (by omega)
      | false =>
        go_wp2_with (refine hcall.mono ?_; rintro e w' ⟨rfl, hb1⟩; have HB1 := Aside0.mk hb1; clear hb1)
        have hw := si_wrap i (by have := HL.out; omega)
        refine ⟨⟨i + 1, by rw [hw], by omega, below_step HB.out HB1.out, ?_⟩, ?_⟩
        · have := H.out
          rw [Bool.false_or] at this
          exact this
        · rw [hw]
          show l0.length - (((i + 1 : Nat) : Int)).toNat < l0.length - ((i : Int)).toNat
          clear hw
          omega
    · have hn : i = l0.length := by omega
      subst hn
      have p1 : decide ((l0.length : Int) < (l0.length : Int)) = false := decide_eq_false (by omega)
      have H := Aside0.mk hidx
      clear hidx hB
      go_wp2
      go_ret
      refine ⟨⟨_, rfl, ?_⟩, HB.out⟩
      have := H.out
      rw [List.drop_length] at this
      rw [← this]
      exact decide_eq_false (by omega)
set_option maxHeartbeats 4000000 in
theorem contains_inst (g : Nat) (caps : Array Value) (t : S39 → Bool) (A0 : Option Addr) (c0 : Nat) (l0 : List S39) (w : World) (hr0 : k39.C w A0 l0.length l0)
    (ht : ∀ (x : S39) (A1 : Option Addr) (c1 : Nat) (W : World), Below w.heap.size w W → Calls Try.prog g (#[.agg #[.int .i64 x.f0, .slice A1 x.f1.length c1, .int .i64 x.f2, .int .i64 x.f3]] ++ caps) W fun e w' => e = .returned (.bool (t x)) ∧ Below W.heap.size W w')
    (hgo : ∀ (v : Value) (W : World), (callFunc g (#[v] ++ caps)).run Try.prog W = .ok (.enter g (#[v] ++ caps)) W) :
    Calls Try.prog 26 #[.slice A0 l0.length c0, .func (.func g) #[] caps] w fun e w' => e = .returned (.bool (l0.any t)) ∧ Below w.heap.size w w' := by
  have hct := index_inst g caps t A0 c0 l0 w hr0 ht hgo
  clear hr0 ht hgo
  go_enter Try.func26, Try.ntmps26
  go_wp2_with (go_at_call 36; (with_reducible refine hct.mono ?_); rintro e w' ⟨⟨i, rfl, hi⟩, hb⟩; have HB := Aside0.mk hb; have HI := Aside0.mk hi; clear hb hi)
  go_ret
  exact ⟨by rw [← HI.out]; rfl, HB.out⟩
theorem alloc2_cell (w : World) (o : Obj) (cs : Array Value) (t : TypeId) : ((w.alloc o).alloc (.cells cs t)).cell? ⟨w.heap.size + 1, 0, none⟩ = cs[0]? := by
  have h := blk_cell (heap_alloc_new (w.alloc o) (.cells cs t)) 0
  rwa [show (w.alloc o).heap.size = w.heap.size + 1 from by simp] at h
set_option maxHeartbeats 4000000 in
theorem nfa_Right.calls (A0 : Option Addr) (c0 : Nat) (l0 : List S39) (r : Bool) (w : World) (hr0 : Kd.C k39 w A0 l0.length l0) (hc0 : l0.length ≤ c0) (h : nfa_Right.f l0 = some r) :
    Calls Try.prog 14 #[.slice A0 l0.length c0] w fun e w' => e = .returned (.bool r) ∧ Below w.heap.size w w' := by
  obtain rfl := Option.some.inj h
  clear h hc0
  have HL := Aside0.mk (Kd.C_max hr0)
  have HR0 := Aside0.mk hr0
  unfold rightI
  by_cases a0 : l0.length = 0
  · rw [if_pos a0]
    rw [a0]
    clear hr0
    go_enter Try.func14, Try.ntmps14
    go_wp2
    go_ret
    exact ⟨rfl, below_alloc (Below.refl _ _) _⟩
  rw [if_neg a0]
  obtain ⟨m, hm⟩ : ∃ m, l0.length = m + 1 := ⟨l0.length - 1, by omega⟩
  have hct := fun (A0 : Option Addr) (hr0 : k39.C w A0 l0.length l0) (W : World) (c d : Nat) (hb : Below w.heap.size w W) (hc : W.cell? ⟨c, 0, none⟩ = some (.int .i64 (l0.length : Int))) (hd : W.cell? ⟨d, 0, none⟩ = some (.func (.func 25) #[] #[.pointer (some ⟨c, 0, none⟩)])) =>
    contains_inst 27 #[.pointer (some ⟨d, 0, none⟩)] (badI (l0.length : Int)) A0 c0 l0 W (Kd.C_below hr0 hb) (fun x A1 c1 W2 hb2 => bad_calls _ c d _ _ _ _ _ _ W2 (cell_later hb2 hc) (cell_later hb2 hd)) (fun v W => enters_ Try.func27 (by kernel_rfl) rfl _ W)
  obtain ⟨ad, A1, c1, e, h0, h1, h2, h3, q1, q2⟩ := at_T39 hr0 (m : Int) (by omega) (by omega)
  cases e
  replace hct := hct _ hr0
  have hr9 : l0.any (badI ((m + 1 : Nat) : Int)) = l0.any (badI (l0.length : Int)) := by rw [hm]
  have e9 : (l0.length : Int) - 1 = (m : Int) := by omega
  rw [e9]
  rw [hm] at hct ⊢
  rw [Int.toNat_natCast] at h0
  have k0 : ((m : Int) + 1 == 0) = false := beq_eq_false_iff_ne.mpr (by omega)
  obtain ⟨y, hy⟩ : ∃ y, (rd_T39 l0 (m : Int)).f0 = y := ⟨_, rfl⟩
  rw [hy] at h0 ⊢
  have HM : m < 9223372036854775807 := by have := HL.out; omega
  have HCT := Aside0.mk hct
  clear hr0 h1 h2 h3 q1 q2 hy hr9 e9 hct HL HR0 hm a0
  by_cases a1 : (((m + 1 : Nat)) : Int) > 1000
  · rw [if_pos a1]
    have k1 : decide ((m : Int) + 1 > 1000) = true := decide_eq_true (by omega)
    have k1' : decide (1000 < (m : Int) + 1) = true := decide_eq_true (by omega)
    clear a1
    go_enter Try.func14, Try.ntmps14
    go_wp2
    go_ret
    exact ⟨rfl, below_alloc (Below.refl _ _) _⟩
  rw [if_neg a1]
  have k1 : decide ((m : Int) + 1 > 1000) = false := decide_eq_false (by omega)
  have k1' : decide (1000 < (m : Int) + 1) = false := decide_eq_false (by omega)
  have i1 : IntKind.i64.wrap (((m + 1 : Nat) : Int) - 1) = (m : Int) := by rw [IntKind.wrap_i64]; omega
  clear a1
  have h02 : (w.alloc (.cells #[.int .i64 ((m : Int) + 1)] 3)).cell? (ad.add (m * 4)) = some (.int .i64 y) := cell_later (below_alloc (Below.refl _ _) _) h0
  by_cases a2 : y ≠ 0
  · rw [if_pos a2]
    have k2 : (y != 0) = true := bne_iff_ne.mpr a2
    clear a2
    go_enter Try.func14, Try.ntmps14
    go_wp2
    go_ret
    exact ⟨rfl, below_alloc (Below.refl _ _) _⟩
  rw [if_neg a2]
  have k2 : (y != 0) = false := bne_eq_false_iff_eq.mpr (Decidable.not_not.1 a2)
  clear a2
  go_enter Try.func14, Try.ntmps14
  go_wp2_with (go_at_call 26; refine (HCT.out _ w.heap.size _ ?sb ?sc ?sd).mono ?_; (case sb => exact below_alloc (below_alloc (Below.refl _ _) _) _); (case sc => exact cell_later (below_alloc (Below.refl _ _) _) (blk_cell (heap_alloc_new w _) 0)); (case sd => exact alloc2_cell _ _ _ _); rintro e w' ⟨rfl, hb⟩; have HB := Aside0.mk hb; clear hb)
  go_ret
  exact ⟨rfl, below_step (below_alloc (below_alloc (Below.refl _ _) _) _) HB.out⟩
end Go.Proofs.Ytbbplchdgedhcaa.P
namespace Go.Proofs.Ytbbplchdgedhcaa.P
open Go.RowKit Go.Proofs.YtbbplchdgedhcaaW.PrintWords Go.Proofs.YtbbplchdgedhcaaW.PrintLast
set_option linter.unusedVariables false
set_option linter.unusedSimpArgs false

/-- A row that lies in a block of its own is read. -/
theorem C_of_block {α : Type} {d : Kd α} {w : World} {b : Nat} {t : TypeId} {cs : List Value} {xs : List α} (hb : w.heap[b]? = some (.cells cs.toArray t (0, 0))) (hr : Reps (d.K w) d.sz xs cs) (hm : xs.length ≤ 9223372036854775807) : d.C w (some ⟨b, 0, none⟩) xs.length xs := by
  refine ⟨rfl, hm, fun _ => ⟨_, rfl, fun j p hj => ⟨(cs.drop (j * d.sz)).take d.sz, ?_, hr.2 j p hj, fun i u hu => ?_⟩⟩⟩
  · have hjl := (List.getElem?_eq_some_iff.1 hj).1
    have h1 : j * d.sz + d.sz ≤ cs.length := by rw [hr.1, ← Nat.succ_mul]; exact Nat.mul_le_mul_right _ hjl
    rw [List.length_take, List.length_drop]
    omega
  · rw [add_plain, blk_cell hb]
    rw [List.getElem?_take] at hu
    split at hu
    · rw [List.getElem?_drop] at hu
      simpa using hu
    · cases hu
def ductuslaw19_alive.f : Option Bool := some true
def setA : Node := ⟨2, [⟨97, 97⟩], 0, 0, []⟩
def startA : Node := ⟨6, [], 0, 0, []⟩
def progP : List Inst := [⟨2, [], 1, 3⟩, ⟨1, [⟨97, 97⟩], 0, 0⟩, ⟨3, [], 0, 0⟩, ⟨0, [], 0, 0⟩]
def progQ : List Inst := [⟨2, [], 1, 3⟩, ⟨1, [⟨97, 97⟩], 0, 0⟩, ⟨3, [], 7, 0⟩, ⟨2, [], 4, 6⟩, ⟨4, [], 0, 0⟩, ⟨3, [], 7, 0⟩, ⟨1, [⟨97, 97⟩], 0, 0⟩, ⟨0, [], 0, 0⟩]
theorem comp_p : nfa_Compile.f 4 5 [] 0 (-1) [setA] = some (progP, 0) := by kernel_rfl
theorem comp_q : nfa_Compile.f 4 4 [] 0 0 [setA, startA, setA] = some (progQ, 0) := by kernel_rfl
theorem comp_n : nfa_Compile.f 4 0 [] 0 0 [] = some ([], 1) := by kernel_rfl
theorem right_q : nfa_Right.f progQ = some true := by kernel_rfl
theorem count_q : nfa_Count.f 20 progQ 1 = some 2 := by kernel_rfl
theorem same_q : nfa_Same.f 20 progQ progQ = some true := by kernel_rfl
theorem setA_K {w : World} {b : Nat} (hb : w.heap[b]? = some (.cells #[.int .i64 97, .int .i64 97] 42 (0, 0))) : k25.K w setA [.int .i64 2, .slice (some ⟨b, 0, none⟩) 1 1, .int .i64 0, .int .i64 0, .slice none 0 0] :=
  k25_mk w setA (A1 := some ⟨b, 0, none⟩) (c1 := 1) (Nat.le_refl _) (C_of_block (cs := [.int .i64 97, .int .i64 97]) hb ((Reps.none _ _).snoc (k42_mk w ⟨97, 97⟩) rfl) (by decide)) (A4 := none) (c4 := 0) (Nat.le_refl _) (Kd.C_nil _ _)
theorem startA_K (w : World) : k25.K w startA [.int .i64 6, .slice none 0 0, .int .i64 0, .int .i64 0, .slice none 0 0] :=
  k25_mk w startA (A1 := none) (c1 := 0) (Nat.le_refl _) (Kd.C_nil _ _) (A4 := none) (c4 := 0) (Nat.le_refl _) (Kd.C_nil _ _)
set_option maxHeartbeats 8000000 in
set_option maxRecDepth 100000 in
theorem ductuslaw19_alive.calls (r : Bool) (w : World) (h : ductuslaw19_alive.f = some r) : Calls Try.prog 7 #[] w fun e w' => e = .returned (.bool r) ∧ Below w.heap.size w w' := by
  obtain rfl := Option.some.inj h
  clear h
  have hu := Try.underlying25
  have hui := Try.underlying39
  go_enter Try.func7, Try.ntmps7
  go_upto_region 2 with (fail)
  have h1 : ((w.alloc (.cells #[.int .i64 97, .int .i64 97] 42)).alloc (.cells #[.int .i64 2, .slice (some ⟨w.heap.size, 0, none⟩) 1 1, .int .i64 0, .int .i64 0, .slice none 0 0] 25)).heap[w.heap.size]? = some (.cells #[.int .i64 97, .int .i64 97] 42 (0, 0)) := blk_alloc (heap_alloc_new w _) _
  have h2 : ((w.alloc (.cells #[.int .i64 97, .int .i64 97] 42)).alloc (.cells #[.int .i64 2, .slice (some ⟨w.heap.size, 0, none⟩) 1 1, .int .i64 0, .int .i64 0, .slice none 0 0] 25)).heap[w.heap.size + 1]? = some (.cells #[.int .i64 2, .slice (some ⟨w.heap.size, 0, none⟩) 1 1, .int .i64 0, .int .i64 0, .slice none 0 0] 25 (0, 0)) := by
    have h9 := heap_alloc_new (w.alloc (.cells #[.int .i64 97, .int .i64 97] 42)) (.cells #[.int .i64 2, .slice (some ⟨w.heap.size, 0, none⟩) 1 1, .int .i64 0, .int .i64 0, .slice none 0 0] 25)
    rwa [show (w.alloc (.cells #[.int .i64 97, .int .i64 97] 42)).heap.size = w.heap.size + 1 from by simp] at h9
  have hB : Below w.heap.size w ((w.alloc (.cells #[.int .i64 97, .int .i64 97] 42)).alloc (.cells #[.int .i64 2, .slice (some ⟨w.heap.size, 0, none⟩) 1 1, .int .i64 0, .int .i64 0, .slice none 0 0] 25)) := below_alloc (below_alloc (Below.refl _ _) _) _
  generalize (w.alloc (.cells #[.int .i64 97, .int .i64 97] 42)).alloc (.cells #[.int .i64 2, .slice (some ⟨w.heap.size, 0, none⟩) 1 1, .int .i64 0, .int .i64 0, .slice none 0 0] 25) = W2 at h1 h2 hB ⊢
  obtain ⟨r0, hr0⟩ : ∃ r0, w.heap.size = r0 := ⟨_, rfl⟩
  obtain ⟨n0, hn0⟩ : ∃ n0, w.heap.size + 1 = n0 := ⟨_, rfl⟩
  rw [hn0] at h2 ⊢
  rw [hr0] at h1 h2 ⊢
  rw [← hr0]
  have HB := Aside0.mk hB
  have H1 := Aside0.mk h1
  have H2 := Aside0.mk h2
  clear hB h1 h2 hr0 hn0
  have x0 : W2.cell? ⟨n0, 0, none⟩ = some (.int .i64 2) := blk_cell H2.out 0
  have x1 : W2.cell? ⟨n0, 1, none⟩ = some (.slice (some ⟨r0, 0, none⟩) 1 1) := blk_cell H2.out 1
  have x2 : W2.cell? ⟨n0, 2, none⟩ = some (.int .i64 0) := blk_cell H2.out 2
  have x3 : W2.cell? ⟨n0, 3, none⟩ = some (.int .i64 0) := blk_cell H2.out 3
  have x4 : W2.cell? ⟨n0, 4, none⟩ = some (.slice none 0 0) := blk_cell H2.out 4
  go_upto_region 3 with (go_at_call 10; refine (nfa_Compile.calls 4 5 none 0 [] 0 (-1) (some ⟨W2.heap.size, 0, none⟩) 1 [setA] progP 0 _ ?s1 (Nat.le_refl _) ?s2 (Nat.le_refl _) comp_p).mono ?_; (case s1 => exact Kd.C_nil _ _); (case s2 => exact C_of_block (cs := [.int .i64 2, .slice (some ⟨r0, 0, none⟩) 1 1, .int .i64 0, .int .i64 0, .slice none 0 0]) (heap_alloc_new W2 _) ((Reps.none _ _).snoc (setA_K (blk_alloc H1.out _)) rfl) (by decide)); rintro e w3 ⟨vp, rfl, hp, hb⟩; have HP := Aside0.mk hp; have HB3 := Aside0.mk (below_step (below_alloc HB.out _) hb); have H13 := Aside0.mk (blk_below (blk_alloc H1.out _) hb); have H23 := Aside0.mk (blk_below (blk_alloc H2.out _) hb); clear hp hb)
  clear x0 x1 x2 x3 x4
  have x0 : w3.cell? ⟨n0, 0, none⟩ = some (.int .i64 2) := blk_cell H23.out 0
  have x1 : w3.cell? ⟨n0, 1, none⟩ = some (.slice (some ⟨r0, 0, none⟩) 1 1) := blk_cell H23.out 1
  have x2 : w3.cell? ⟨n0, 2, none⟩ = some (.int .i64 0) := blk_cell H23.out 2
  have x3 : w3.cell? ⟨n0, 3, none⟩ = some (.int .i64 0) := blk_cell H23.out 3
  have x4 : w3.cell? ⟨n0, 4, none⟩ = some (.slice none 0 0) := blk_cell H23.out 4
  go_upto_region 4 with (go_at_call 10; refine (nfa_Compile.calls 4 4 none 0 [] 0 0 (some ⟨w3.heap.size, 0, none⟩) 3 [setA, startA, setA] progQ 0 _ ?s1 (Nat.le_refl _) ?s2 (Nat.le_refl _) comp_q).mono ?_; (case s1 => exact Kd.C_nil _ _); (case s2 => exact C_of_block (cs := [.int .i64 2, .slice (some ⟨r0, 0, none⟩) 1 1, .int .i64 0, .int .i64 0, .slice none 0 0] ++ [.int .i64 6, .slice none 0 0, .int .i64 0, .int .i64 0, .slice none 0 0] ++ [.int .i64 2, .slice (some ⟨r0, 0, none⟩) 1 1, .int .i64 0, .int .i64 0, .slice none 0 0]) (heap_alloc_new w3 _) ((((Reps.none _ _).snoc (setA_K (blk_alloc H13.out _)) rfl).snoc (startA_K _) rfl).snoc (setA_K (blk_alloc H13.out _)) rfl) (by decide)); rintro e w4 ⟨vq, rfl, hq, hb⟩; have HQ := Aside0.mk hq; have HP4 := Aside0.mk (Kd.R_below (Kd.R_alloc HP.out _) hb); have HB4 := Aside0.mk (below_step (below_alloc HB3.out _) hb); clear hq hb)
  clear x0 x1 x2 x3 x4
  obtain ⟨gp, cp, ep, _, _, _⟩ := Kd.R_form HP4.out (by decide)
  obtain ⟨gq, cq, eq, _, _, _⟩ := Kd.R_form HQ.out (by decide)
  have ep2 : vp = .slice (some ⟨gp, 0, none⟩) 4 cp := ep
  have eq2 : vq = .slice (some ⟨gq, 0, none⟩) 8 cq := eq
  subst ep2 eq2
  clear ep eq HP
  go_upto_region 5 with (go_at_call 10; refine (nfa_Compile.calls 4 0 none 0 [] 0 0 none 0 [] [] 1 _ ?s1 (Nat.le_refl _) ?s2 (Nat.le_refl _) comp_n).mono ?_; (case s1 => exact Kd.C_nil _ _); (case s2 => exact Kd.C_nil _ _); rintro e w5 ⟨vn, rfl, _, hb⟩; have HQ5 := Aside0.mk (Kd.R_below HQ.out hb); have HP5 := Aside0.mk (Kd.R_below HP4.out hb); have HB5 := Aside0.mk (below_step HB4.out hb); clear hb)
  obtain ⟨ceP0, _, hMP0, hccP0, _⟩ := Kd.R_elem HP5.out z39 (0 : Int) (by decide) (by decide)
  obtain ⟨v1P0, rfl, _⟩ := k39_openM hMP0
  obtain ⟨ceP2, _, hMP2, hccP2, _⟩ := Kd.R_elem HP5.out z39 (2 : Int) (by decide) (by decide)
  obtain ⟨v1P2, rfl, _⟩ := k39_openM hMP2
  obtain ⟨ceQ0, _, hMQ0, hccQ0, _⟩ := Kd.R_elem HQ5.out z39 (0 : Int) (by decide) (by decide)
  obtain ⟨v1Q0, rfl, _⟩ := k39_openM hMQ0
  obtain ⟨ceQ2, _, hMQ2, hccQ2, _⟩ := Kd.R_elem HQ5.out z39 (2 : Int) (by decide) (by decide)
  obtain ⟨v1Q2, rfl, _⟩ := k39_openM hMQ2
  obtain ⟨ceQ3, _, hMQ3, hccQ3, _⟩ := Kd.R_elem HQ5.out z39 (3 : Int) (by decide) (by decide)
  obtain ⟨v1Q3, rfl, _⟩ := k39_openM hMQ3
  obtain ⟨ceQ5, _, hMQ5, hccQ5, _⟩ := Kd.R_elem HQ5.out z39 (5 : Int) (by decide) (by decide)
  obtain ⟨v1Q5, rfl, _⟩ := k39_openM hMQ5
  have y0 : w5.cell? ⟨gp, 0, none⟩ = some (.int .i64 2) := hccP0 0 _ rfl
  have y1 : w5.cell? ⟨gp, 2, none⟩ = some (.int .i64 1) := hccP0 2 _ rfl
  have y2 : w5.cell? ⟨gp, 3, none⟩ = some (.int .i64 3) := hccP0 3 _ rfl
  have y3 : w5.cell? ⟨gp, 8, none⟩ = some (.int .i64 3) := hccP2 0 _ rfl
  have y4 : w5.cell? ⟨gp, 10, none⟩ = some (.int .i64 0) := hccP2 2 _ rfl
  have y5 : w5.cell? ⟨gq, 3, none⟩ = some (.int .i64 3) := hccQ0 3 _ rfl
  have y6 : w5.cell? ⟨gq, 10, none⟩ = some (.int .i64 7) := hccQ2 2 _ rfl
  have y7 : w5.cell? ⟨gq, 15, none⟩ = some (.int .i64 6) := hccQ3 3 _ rfl
  have y8 : w5.cell? ⟨gq, 22, none⟩ = some (.int .i64 7) := hccQ5 2 _ rfl
  clear hMP0 hccP0 hMP2 hccP2 hMQ0 hccQ0 hMQ2 hccQ2 hMQ3 hccQ3 hMQ5 hccQ5 HQ HP4
  have HC := Aside0.mk (show k39.C w5 (some ⟨gq, 0, none⟩) progQ.length progQ from (Kd.R_reads' HQ5.out).2.2)
  have HCL := Aside0.mk (show progQ.length ≤ cq from (Kd.R_reads' HQ5.out).2.1)
  go_wp2_with (first
    | (go_at_call 14; refine (nfa_Right.calls (some ⟨gq, 0, none⟩) cq progQ true _ HC.out HCL.out right_q).mono ?_; rintro e w6 ⟨rfl, hb⟩; have HB6 := Aside0.mk hb; clear hb)
    | (go_at_call 16; refine (nfa_Count.calls 20 (some ⟨gq, 0, none⟩) cq progQ 1 2 _ (Kd.C_below HC.out HB6.out) HCL.out count_q).mono ?_; rintro e w7 ⟨rfl, hb⟩; have HB7 := Aside0.mk (below_step HB6.out hb); clear hb)
    | (go_at_call 18; refine (nfa_Same.calls 20 (some ⟨gq, 0, none⟩) cq progQ (some ⟨gq, 0, none⟩) cq progQ true _ (Kd.C_below HC.out HB7.out) HCL.out (Kd.C_below HC.out HB7.out) HCL.out same_q).mono ?_; rintro e w8 ⟨rfl, hb⟩; have HB8 := Aside0.mk hb; clear hb))
  go_ret
  exact ⟨rfl, below_step (below_step HB5.out HB7.out) HB8.out⟩
end Go.Proofs.Ytbbplchdgedhcaa.P
namespace Go.Proofs.Ytbbplchdgedhcaa.P
open Go.RowKit Go.Proofs.YtbbplchdgedhcaaW.PrintWords Go.Proofs.YtbbplchdgedhcaaW.PrintLast Go.Proofs.YtbbplchdgedhcaaW.PrintMore
set_option linter.unusedVariables false
set_option linter.unusedSimpArgs false

theorem max2_mx (k k' : IntKind) (x y : Int) : Builtin.max2 (.int k x) (.int k' y) = pure (.int k (mx x y)) := max2_int k k' x y
theorem min2_mn (k k' : IntKind) (x y : Int) : Builtin.min2 (.int k x) (.int k' y) = pure (.int k (mn x y)) := min2_int k k' x y
attribute [local go_sem] max2_mx min2_mn max_two min_two
def multT (f0 f2 f3 : Int) : Int := mn (if f0 = 5 then (if f3 < 0 then mx 1 (mn f2 1000000 + 1) else mx 1 f3) else 1) 1000000
def sizesC (f : S25 → Option Int) (t : Int) : List S25 → Int → Option Int
  | [], s => some s
  | x :: l, s => (f x).bind fun v => if 1 ≤ v ∧ v ≤ 1000000 ∧ 1 ≤ s ∧ s ≤ 1000000 then sizesC f t l (mn 1000000 (s + t * v)) else none
def sizeC : Nat → S25 → Option Int
  | 0, _ => none
  | k + 1, x => if -9223372036854775808 ≤ x.f2 then sizesC (sizeC k) (multT x.f0 x.f2 x.f3) x.f4 1 else none
theorem multT_le (f0 f2 f3 : Int) : 1 ≤ multT f0 f2 f3 ∧ multT f0 f2 f3 ≤ 1000000 := by
  unfold multT
  unfold mn mx
  repeat' split
  all_goals omega
theorem mn_rng (a b : Int) : mn a b ≤ a ∧ mn a b ≤ b := by unfold mn; split <;> omega
def ductusref16_Size.f (k : Nat) (a0_0 : Int) (l0_1 : List (S42)) (a0_2 : Int) (a0_3 : Int) (l0_4 : List (S25)) : Option Int := sizeC k ⟨a0_0, l0_1, a0_2, a0_3, l0_4⟩
abbrev SizeN (f : S25 → Option Int) : Prop := ∀ (x : S25) (v : Value) (r : Int) (w : World), NodeAt w x v → f x = some r → Calls Try.prog 9 #[v] w fun e w' => e = .returned (.int .i64 r) ∧ Below w.heap.size w w'
set_option maxHeartbeats 8000000 in
set_option maxRecDepth 100000 in
theorem size_step (f : S25 → Option Int) (ih : SizeN f) (f0 : Int) (A1 : Option Addr) (n1 c1 : Nat) (f2 f3 : Int) (A4 : Option Addr) (c4 : Nat) (l : List S25) (r : Int) (wo : World) (hc : k25.C wo A4 l.length l) (hf2 : -9223372036854775808 ≤ f2) (h : sizesC f (multT f0 f2 f3) l 1 = some r) :
    Calls Try.prog 9 #[.agg #[.int .i64 f0, .slice A1 n1 c1, .int .i64 f2, .int .i64 f3, .slice A4 l.length c4]] wo fun e w' => e = .returned (.int .i64 r) ∧ Below wo.heap.size wo w' := by
  have hu := Try.underlying25
  obtain ⟨T, hT⟩ : ∃ T, multT f0 f2 f3 = T := ⟨_, rfl⟩
  have hT1 := multT_le f0 f2 f3
  rw [hT] at h hT1
  have HC := Aside0.mk hc
  have HN := Aside0.mk (Kd.C_max hc)
  have HX := Aside0.mk (heap_alloc_new wo (.cells #[.int .i64 f0, .slice A1 n1 c1, .int .i64 f2, .int .i64 f3, .slice A4 l.length c4] 25))
  have HB := Aside0.mk (below_alloc (Below.refl wo.heap.size wo) (.cells #[.int .i64 f0, .slice A1 n1 c1, .int .i64 f2, .int .i64 f3, .slice A4 l.length c4] 25))
  have HH := Aside0.mk h
  have HT := Aside0.mk hT
  have HT1 := Aside0.mk hT1
  have HF2 := Aside0.mk hf2
  clear hc h hT hT1 hf2
  go_enter Try.func9, Try.ntmps9
  go_wp2
  go_loopw [3, 4] (fun s3 s4 wx => ∃ (i : Nat) (s : Int), s3 = .int .i64 s ∧ s4 = .int .i64 (i : Int) ∧ i ≤ l.length ∧ Aside0 (sizesC f T (l.drop i) s = some r) ∧ Aside0 (wx.heap[wo.heap.size]? = some (.cells #[.int .i64 f0, .slice A1 n1 c1, .int .i64 f2, .int .i64 f3, .slice A4 l.length c4] 25 (0, 0))) ∧ Aside0 (Below wo.heap.size wo wx)) (fun _ s4 _ => l.length - (intOf s4).toNat)
  case atStart => exact ⟨0, 1, rfl, rfl, by omega, by simpa using HH, HX, HB⟩
  case round =>
    clear HH HX HB
    obtain ⟨i, s, rfl, rfl, hi, HH, HX, HB⟩ := hrel
    have y0 : wr.cell? ⟨wo.heap.size, 0, none⟩ = some (.int .i64 f0) := blk_cell HX.out 0
    have y2 : wr.cell? ⟨wo.heap.size, 2, none⟩ = some (.int .i64 f2) := blk_cell HX.out 2
    have y3 : wr.cell? ⟨wo.heap.size, 3, none⟩ = some (.int .i64 f3) := blk_cell HX.out 3
    have y4 : wr.cell? ⟨wo.heap.size, 4, none⟩ = some (.slice A4 l.length c4) := blk_cell HX.out 4
    by_cases hlt : i < l.length
    · obtain ⟨ad, B1, d1, B4, d4, e, h0, h1, h2, h3, h4, q1, q2, q3, q4⟩ := at_T25 (Kd.C_below HC.out HB.out) (i : Int) (by omega) (by omega)
      cases e
      rw [Int.toNat_natCast] at h0 h1 h2 h3 h4
      have hx : rd_T25 l (i : Int) = l.getD i z25 := rfl
      have hh := HH.out
      rw [sn_drop z25 l i hlt] at hh
      rw [hx] at h0 h1 h2 h3 h4 q1 q2 q3 q4
      obtain ⟨x, hxx⟩ : ∃ x, l.getD i z25 = x := ⟨_, rfl⟩
      rw [hxx] at h0 h1 h2 h3 h4 q1 q2 q3 q4 hh
      have hNA : NodeAt wr x _ := ⟨B1, d1, B4, d4, rfl, q1, q2, q3, q4⟩
      simp only [sizesC] at hh
      obtain ⟨v, hv, hh2⟩ := Option.bind_eq_some_iff.mp hh
      by_cases hb : 1 ≤ v ∧ v ≤ 1000000 ∧ 1 ≤ s ∧ s ≤ 1000000
      rotate_left
      · rw [if_neg hb] at hh2
        cases hh2
      rw [if_pos hb] at hh2
      have hm1 : T * v ≤ 1000000 * 1000000 := Int.mul_le_mul HT1.out.2 hb.2.1 (by omega) (by omega)
      have hm0 : 0 ≤ T * v := Int.mul_nonneg (by have := HT1.out.1; omega) (by omega)
      obtain ⟨P, hP⟩ : ∃ P, T * v = P := ⟨_, rfl⟩
      rw [hP] at hm1 hm0 hh2
      have i1 : IntKind.i64.wrap P = P := by rw [IntKind.wrap_i64]; omega
      have i2 : IntKind.i64.wrap (s + P) = s + P := by rw [IntKind.wrap_i64]; omega
      have hct := ih x _ v wr hNA hv
      have g1 : decide ((i : Int) < (l.length : Int)) = true := decide_eq_true (by omega)
      have g2 : ((0 : Int) ≤ (i : Int)) = True := eq_true (by omega)
      have g3 : ((i : Int) < (l.length : Int)) = True := eq_true (by omega)
      have hnw : i < 9223372036854775807 := by have := HN.out; omega
      have HH2 := Aside0.mk hh2
      have HLT := Aside0.mk (And.intro hlt hnw)
      have hTT := HT.out
      unfold multT at hTT
      have hi3 : IntKind.i64.wrap (mn f2 1000000 + 1) = mn f2 1000000 + 1 := by
        rw [IntKind.wrap_i64]
        have := (mn_rng f2 1000000).2
        have : -9223372036854775808 ≤ mn f2 1000000 := by have := HF2.out; unfold mn; split <;> omega
        omega
      clear hx hxx q1 q2 q3 q4 hNA hh hh2 hv HH hb hm1 hm0 hnw
      obtain ⟨x0, x1, x2, x3, x4⟩ := x
      dsimp only at h0 h1 h2 h3 h4 hct
      have HCT := Aside0.mk hct
      clear hct
      by_cases c5 : f0 = 5
      · rw [if_pos c5] at hTT
        have k5 : (f0 == 5) = true := beq_iff_eq.mpr c5
        by_cases c3 : f3 < 0
        · rw [if_pos c3] at hTT
          have k3 : decide (f3 < 0) = true := decide_eq_true c3
          clear c5 c3
          go_wp2_with (go_at_call 9; (with_reducible refine HCT.out.mono ?_); rintro e w3 ⟨rfl, hb⟩; have HB3 := Aside0.mk hb; clear hb)
          clear i1 i2 hi3
          have hw := sn_wrap i HLT.out.2
          refine ⟨⟨i + 1, _, rfl, by rw [hw], HLT.out.1, HH2, ⟨blk_below HX.out HB3.out⟩, ⟨below_step HB.out HB3.out⟩⟩, ?_⟩
          rw [hw]
          clear hw
          show l.length - (((i + 1 : Nat) : Int)).toNat < l.length - ((i : Int)).toNat
          simp only [Int.toNat_natCast]
          exact Nat.sub_lt_sub_left HLT.out.1 (Nat.lt_succ_self i)
        · rw [if_neg c3] at hTT
          have k3 : decide (f3 < 0) = false := decide_eq_false c3
          clear c5 c3 hi3
          go_wp2_with (go_at_call 9; (with_reducible refine HCT.out.mono ?_); rintro e w3 ⟨rfl, hb⟩; have HB3 := Aside0.mk hb; clear hb)
          clear i1 i2
          have hw := sn_wrap i HLT.out.2
          refine ⟨⟨i + 1, _, rfl, by rw [hw], HLT.out.1, HH2, ⟨blk_below HX.out HB3.out⟩, ⟨below_step HB.out HB3.out⟩⟩, ?_⟩
          rw [hw]
          clear hw
          show l.length - (((i + 1 : Nat) : Int)).toNat < l.length - ((i : Int)).toNat
          simp only [Int.toNat_natCast]
          exact Nat.sub_lt_sub_left HLT.out.1 (Nat.lt_succ_self i)
      · rw [if_neg c5] at hTT
        have k5 : (f0 == 5) = false := beq_eq_false_iff_ne.mpr c5
        clear c5 hi3
        go_wp2_with (go_at_call 9; (with_reducible refine HCT.out.mono ?_); rintro e w3 ⟨rfl, hb⟩; have HB3 := Aside0.mk hb; clear hb)
        clear i1 i2
        have hw := sn_wrap i HLT.out.2
        refine ⟨⟨i + 1, _, rfl, by rw [hw], HLT.out.1, HH2, ⟨blk_below HX.out HB3.out⟩, ⟨below_step HB.out HB3.out⟩⟩, ?_⟩
        rw [hw]
        clear hw
        show l.length - (((i + 1 : Nat) : Int)).toNat < l.length - ((i : Int)).toNat
        simp only [Int.toNat_natCast]
        exact Nat.sub_lt_sub_left HLT.out.1 (Nat.lt_succ_self i)
    · obtain rfl : i = l.length := by omega
      have hh := HH.out
      rw [List.drop_length] at hh
      simp only [sizesC, Option.some.injEq] at hh
      subst hh
      have g1 : decide ((l.length : Int) < (l.length : Int)) = false := decide_eq_false (by omega)
      clear HH
      go_wp2
      go_ret
      exact ⟨rfl, HB.out⟩
theorem size_calls : ∀ k, SizeN (sizeC k)
  | 0 => fun x v r w _ h => by simp [sizeC] at h
  | k + 1 => by
    intro x v r w hN h
    obtain ⟨A1, c1, A4, c4, rfl, l1, g1, l4, g4⟩ := hN
    rw [sizeC] at h
    by_cases hf : -9223372036854775808 ≤ x.f2
    · rw [if_pos hf] at h
      exact size_step (sizeC k) (size_calls k) x.f0 A1 _ c1 x.f2 x.f3 A4 c4 x.f4 r w g4 hf h
    · rw [if_neg hf] at h
      cases h
theorem ductusref16_Size.calls (k : Nat) (a0_0 : Int) (A0_1 : Option Addr) (c0_1 : Nat) (l0_1 : List (S42)) (a0_2 : Int) (a0_3 : Int) (A0_4 : Option Addr) (c0_4 : Nat) (l0_4 : List (S25)) (r : Int) (w : World) (hr0_1 : Kd.C k42 w A0_1 l0_1.length l0_1) (hc0_1 : l0_1.length ≤ c0_1) (hr0_4 : Kd.C k25 w A0_4 l0_4.length l0_4) (hc0_4 : l0_4.length ≤ c0_4) (h : ductusref16_Size.f k a0_0 l0_1 a0_2 a0_3 l0_4 = some r) :
    Calls Try.prog 9 #[.agg #[.int .i64 a0_0, .slice A0_1 l0_1.length c0_1, .int .i64 a0_2, .int .i64 a0_3, .slice A0_4 l0_4.length c0_4]] w fun e w' => e = .returned (.int .i64 r) ∧ Below w.heap.size w w' :=
  size_calls k ⟨a0_0, l0_1, a0_2, a0_3, l0_4⟩ _ r w ⟨A0_1, c0_1, A0_4, c0_4, rfl, hc0_1, hr0_1, hc0_4, hr0_4⟩ h
end Go.Proofs.Ytbbplchdgedhcaa.P
namespace Go.Proofs.Ytbbplchdgedhcaa.P
open Go.RowKit Go.Proofs.YtbbplchdgedhcaaW.PrintWords Go.Proofs.YtbbplchdgedhcaaW.PrintLast Go.Proofs.YtbbplchdgedhcaaW.PrintMore
attribute [local go_sem] max2_int min2_int max_two min_two
set_option linter.unusedVariables false
set_option linter.unusedSimpArgs false

mutual
def ductuslaw19_NfaMay.j0 : Nat → Bool → Int → List (S42) → Int → Int → List (S25) → Option (Bool)
  | 0, _, _, _, _, _, _ => none
  | k + 1, x15, x257000, x257001, x257002, x257003, x257004 => if x15 = true then (some true) else ((nfa_Compile.f k x257000 x257001 x257002 x257003 x257004).bind fun bt260 => (if bt260.2 = 0 then (ductuslaw19_NfaMay.l0 k bt260.1 0 x257000 x257001 x257002 x257003 x257004) else (some ((bt260.1.length : Int) == 0))))
def ductuslaw19_NfaMay.l0 : Nat → List (S39) → Int → Int → List (S42) → Int → Int → List (S25) → Option (Bool)
  | 0, _, _, _, _, _, _, _ => none
  | k + 1, x3, x5, x257000, x257001, x257002, x257003, x257004 => if x5 < (x3.length : Int) then (if 0 ≤ x5 then (if ((rd_T39 x3 x5).f0) = 2 then (if ((rd_T39 x3 x5).f2) = (wrap64 (x5 + 1)) then (if ((rd_T39 x3 x5).f3) ≤ x5 then (none) else (if ((rd_T39 x3 x5).f0) = 3 then (none) else (if ((rd_T39 x3 x5).f0) = 0 then (none) else (ductuslaw19_NfaMay.l0 k x3 (wrap64 (x5 + 1)) x257000 x257001 x257002 x257003 x257004)))) else (none)) else (if ((rd_T39 x3 x5).f0) = 3 then (if ((rd_T39 x3 x5).f2) = x5 then (none) else (if ((rd_T39 x3 x5).f0) = 0 then (none) else (ductuslaw19_NfaMay.l0 k x3 (wrap64 (x5 + 1)) x257000 x257001 x257002 x257003 x257004))) else (if ((rd_T39 x3 x5).f0) = 0 then (if x5 < (wrap64 ((x3.length : Int) - 1)) then (none) else (ductuslaw19_NfaMay.l0 k x3 (wrap64 (x5 + 1)) x257000 x257001 x257002 x257003 x257004)) else (ductuslaw19_NfaMay.l0 k x3 (wrap64 (x5 + 1)) x257000 x257001 x257002 x257003 x257004)))) else (none)) else ((nfa_Right.f x3).bind fun t273 => (if t273 = true then ((nfa_Count.f k x3 0).bind fun t274 => (if t274 = 1 then ((ductusref16_Size.f k x257000 x257001 x257002 x257003 x257004).bind fun t275 => (some (decide ((x3.length : Int) ≤ (wrap64 ((wrap64 (3 * t275)) + 1)))))) else (none))) else (none)))
end
def ductuslaw19_NfaMay.f (k : Nat) (a0_0 : Int) (l0_1 : List (S42)) (a0_2 : Int) (a0_3 : Int) (l0_4 : List (S25)) : Option (Bool) := (ductuslaw19_alive.f).bind fun t257 => (if t257 = true then ((ductusref16_Weight.f k a0_0 l0_1 a0_2 a0_3 l0_4 0).bind fun t258 => (if t258 > 1000 then (ductuslaw19_NfaMay.j0 k true a0_0 l0_1 a0_2 a0_3 l0_4) else ((ductusref16_Size.f k a0_0 l0_1 a0_2 a0_3 l0_4).bind fun t259 => (ductuslaw19_NfaMay.j0 k (decide (t259 > 3000)) a0_0 l0_1 a0_2 a0_3 l0_4)))) else (none))
set_option maxHeartbeats 8000000 in
set_option maxRecDepth 100000 in
theorem ductuslaw19_NfaMay.calls (k : Nat) (a0_0 : Int) (A0_1 : Option Addr) (c0_1 : Nat) (l0_1 : List (S42)) (a0_2 : Int) (a0_3 : Int) (A0_4 : Option Addr) (c0_4 : Nat) (l0_4 : List (S25)) (r : Bool) (w : World) (hr0_1 : Kd.C k42 w A0_1 l0_1.length l0_1) (hc0_1 : l0_1.length ≤ c0_1) (hr0_4 : Kd.C k25 w A0_4 l0_4.length l0_4) (hc0_4 : l0_4.length ≤ c0_4) (h : ductuslaw19_NfaMay.f k a0_0 l0_1 a0_2 a0_3 l0_4 = some r) :
    Calls Try.prog 5 #[.agg #[.int .i64 a0_0, .slice A0_1 l0_1.length c0_1, .int .i64 a0_2, .int .i64 a0_3, .slice A0_4 l0_4.length c0_4]] w fun e w' => e = .returned (.bool r) ∧ Below w.heap.size w w' := by
  have hu25 := Try.underlying25
  have HR0_1 := Aside0.mk hr0_1
  have HC0_1 := Aside0.mk hc0_1
  clear hr0_1 hc0_1
  have HR0_4 := Aside0.mk hr0_4
  have HC0_4 := Aside0.mk hc0_4
  clear hr0_4 hc0_4
  have HB := Aside0.mk (Below.refl w.heap.size w)
  have H : ((ductuslaw19_alive.f).bind fun t257 => (if t257 = true then ((ductusref16_Weight.f k a0_0 l0_1 a0_2 a0_3 l0_4 0).bind fun t258 => (if t258 > 1000 then (ductuslaw19_NfaMay.j0 k true a0_0 l0_1 a0_2 a0_3 l0_4) else ((ductusref16_Size.f k a0_0 l0_1 a0_2 a0_3 l0_4).bind fun t259 => (ductuslaw19_NfaMay.j0 k (decide (t259 > 3000)) a0_0 l0_1 a0_2 a0_3 l0_4)))) else (none))) = some r := h
  clear h
  replace H := Option.bind_eq_some_iff.mp H
  obtain ⟨t257, A20, H⟩ := H
  replace H : (if t257 = true then ((ductusref16_Weight.f k a0_0 l0_1 a0_2 a0_3 l0_4 0).bind fun t258 => (if t258 > 1000 then (ductuslaw19_NfaMay.j0 k true a0_0 l0_1 a0_2 a0_3 l0_4) else ((ductusref16_Size.f k a0_0 l0_1 a0_2 a0_3 l0_4).bind fun t259 => (ductuslaw19_NfaMay.j0 k (decide (t259 > 3000)) a0_0 l0_1 a0_2 a0_3 l0_4)))) else (none)) = some r := H
  have A2 := Aside0.mk A20
  clear A20
  by_cases c3 : t257 = true
  rotate_left
  · replace c3 := Bool.eq_false_iff.mpr c3
    subst c3
    have H1 : (none) = some r := by rw [if_neg (show ¬ (false = true) by decide)] at H; exact H
    clear H
    have H := H1
    clear H1
    exact absurd H (by simp)
  subst c3
  have H1 : ((ductusref16_Weight.f k a0_0 l0_1 a0_2 a0_3 l0_4 0).bind fun t258 => (if t258 > 1000 then (ductuslaw19_NfaMay.j0 k true a0_0 l0_1 a0_2 a0_3 l0_4) else ((ductusref16_Size.f k a0_0 l0_1 a0_2 a0_3 l0_4).bind fun t259 => (ductuslaw19_NfaMay.j0 k (decide (t259 > 3000)) a0_0 l0_1 a0_2 a0_3 l0_4)))) = some r := by rw [if_pos rfl] at H; exact H
  clear H
  have H := H1
  clear H1
  have HC4 := Aside0.mk H
  clear H
  go_enter Try.func5, Try.ntmps5
  go_upto_region 3 with (first | ((with_reducible refine gate_dst (N := 1) rfl ?_); (try (refine gate_guard (by rfl) ?_; dsimp only)); refine box_event ?hg (N := 1) ?hd (cs := #[.int .i64 a0_0, .slice A0_1 l0_1.length c0_1, .int .i64 a0_2, .int .i64 a0_3, .slice A0_4 l0_4.length c0_4]) (t := 25) ?hr ?_; (case hd => rfl); (case hg => rfl); (case hr => first | (go_simp; done) | (go_simp; rfl)); intro gb256 hg w5 hbox hb; have n0_ := Aside0.mk (below_step (by repeat (first | (with_reducible first | exact HB.out | apply below_alloc | apply pw_below_drewN | apply below_drew1) | exact HB.out)) hb); have n1_ := Aside0.mk (hbox); have n2_ := Aside0.mk ((by rw [hg]; exact (below_size (by repeat (first | (with_reducible first | exact HB.out | apply below_alloc | apply pw_below_drewN | apply below_drew1) | exact HB.out))) : w.heap.size ≤ gb256)); have n3_ := Aside0.mk ((by rw [hg]; exact (below_size (by repeat (first | (with_reducible first | exact HB.out | apply below_alloc | apply pw_below_drewN | apply below_drew1) | exact HB.out))) : w.heap.size ≤ gb256)); clear HB; have HB := n0_; have BK256 := n1_; have GW256 := n2_; have GE256 := n3_; clear n0_ n1_ n2_ n3_; clear hb hbox hg) | ((with_reducible refine gate_callee (f := 7) rfl ?_); refine goesL_ (some 6) rfl rfl Try.func7 (by kernel_rfl) rfl #[] rfl (by (try simp only [List.map_toArray, List.map_cons, List.map_nil]); first | done | rfl | (simp only [List.length_drop, List.length_take]; rfl)) ?_; (with_reducible refine (ductuslaw19_alive.calls  true _ A2.out).mono ?_); rintro e w6 ⟨rfl, hb⟩; refine ⟨_, rfl, ?_⟩; have n0_ := Aside0.mk (blk_below (g := gb256) (o := .cells #[.int .i64 a0_0, .slice A0_1 l0_1.length c0_1, .int .i64 a0_2, .int .i64 a0_3, .slice A0_4 l0_4.length c0_4] 25 (0, 0)) (by (with_reducible repeat (first | refine blk_drewN ?_ _ | refine blk_drew ?_ | refine blk_alloc ?_ _)); exact BK256.out) hb); have n1_ := Aside0.mk (below_step (by repeat (first | (with_reducible first | exact HB.out | apply below_alloc | apply pw_below_drewN | apply below_drew1 | refine below_set ?_ GE256.out) | exact HB.out)) hb); clear BK256; clear HB; have BK256 := n0_; have HB := n1_; clear n0_ n1_; (try clear hb); (try clear hb2); (try clear hk); (try clear hi)))
  (try simp only [Act.put, List.setIfInBounds_toArray, List.set_cons_zero, List.set_cons_succ])
  go_cut [15] (fun v15 wc => ∃ (kq : Nat) (x15_3 : Bool), v15 = .bool x15_3 ∧ Aside0 (ductuslaw19_NfaMay.j0 kq x15_3 a0_0 l0_1 a0_2 a0_3 l0_4 = some r) ∧ Aside0 (kq ≤ k) ∧ Aside0 (wc.heap[gb256]? = some (.cells #[.int .i64 a0_0, (.slice A0_1 l0_1.length c0_1), .int .i64 a0_2, .int .i64 a0_3, (.slice A0_4 l0_4.length c0_4)] 25 (0, 0))) ∧ Aside0 (Below w.heap.size w wc))
  case first =>
    have H := HC4.out
    clear HC4
    replace H := Option.bind_eq_some_iff.mp H
    obtain ⟨t258, A70, H⟩ := H
    replace H : (if t258 > 1000 then (ductuslaw19_NfaMay.j0 k true a0_0 l0_1 a0_2 a0_3 l0_4) else ((ductusref16_Size.f k a0_0 l0_1 a0_2 a0_3 l0_4).bind fun t259 => (ductuslaw19_NfaMay.j0 k (decide (t259 > 3000)) a0_0 l0_1 a0_2 a0_3 l0_4))) = some r := H
    have A7 := Aside0.mk A70
    clear A70
    by_cases c8 : t258 > 1000
    · rw [if_pos c8] at H
      have c8b0 : decide (1000 < t258) = true := decide_eq_true c8
      clear c8
      (first | rw [c8b0] | (simp only [i64_w, i32_w]; rw [c8b0]) | skip)
      have H' := Aside0.mk H
      clear H
      have hcz9_0 : w6.cell? ⟨gb256, 0, none⟩ = some (.int .i64 a0_0) := (blk_cell BK256.out 0).trans rfl
      have hcz9_1 : w6.cell? ⟨gb256, 1, none⟩ = some (.slice A0_1 l0_1.length c0_1) := (blk_cell BK256.out 1).trans rfl
      have hcz9_2 : w6.cell? ⟨gb256, 2, none⟩ = some (.int .i64 a0_2) := (blk_cell BK256.out 2).trans rfl
      have hcz9_3 : w6.cell? ⟨gb256, 3, none⟩ = some (.int .i64 a0_3) := (blk_cell BK256.out 3).trans rfl
      have hcz9_4 : w6.cell? ⟨gb256, 4, none⟩ = some (.slice A0_4 l0_4.length c0_4) := (blk_cell BK256.out 4).trans rfl
      have hfz9_0 := blk_frozen BK256.out 0
      have hfz9_1 := blk_frozen BK256.out 1
      have hfz9_2 := blk_frozen BK256.out 2
      have hfz9_3 := blk_frozen BK256.out 3
      have hfz9_4 := blk_frozen BK256.out 4
      go_wp2_with (first | ((with_reducible refine gate_callee (f := 8) rfl ?_); refine goesL_ (some 9) rfl rfl Try.func8 (by kernel_rfl) rfl #[.agg #[.int .i64 a0_0, .slice A0_1 l0_1.length c0_1, .int .i64 a0_2, .int .i64 a0_3, .slice A0_4 l0_4.length c0_4], .int .i64 0] rfl (by (try simp only [List.map_toArray, List.map_cons, List.map_nil]); first | done | rfl | (simp only [List.length_drop, List.length_take]; rfl)) ?_; (with_reducible refine (ductusref16_Weight.calls k a0_0 _ _ l0_1 a0_2 a0_3 _ _ l0_4 0 t258 _ ?side1 ?side2 ?side3 ?side4 A7.out).mono ?_); (case side1 => repeat (first | exact (Kd.C_below HR0_1.out HB.out) | (with_reducible refine Kd.C_alloc ?_ _) | (with_reducible refine Kd.C_drewN ?_ _) | (with_reducible refine Kd.C_drew ?_))); (case side2 => exact HC0_1.out); (case side3 => repeat (first | exact (Kd.C_below HR0_4.out HB.out) | (with_reducible refine Kd.C_alloc ?_ _) | (with_reducible refine Kd.C_drewN ?_ _) | (with_reducible refine Kd.C_drew ?_))); (case side4 => exact HC0_4.out); rintro e w10 ⟨rfl, hb⟩; refine ⟨_, rfl, ?_⟩; have n0_ := Aside0.mk (blk_below (g := gb256) (o := .cells #[.int .i64 a0_0, .slice A0_1 l0_1.length c0_1, .int .i64 a0_2, .int .i64 a0_3, .slice A0_4 l0_4.length c0_4] 25 (0, 0)) (by (with_reducible repeat (first | refine blk_drewN ?_ _ | refine blk_drew ?_ | refine blk_alloc ?_ _)); exact BK256.out) hb); have n1_ := Aside0.mk (below_step (by repeat (first | (with_reducible first | exact HB.out | apply below_alloc | apply pw_below_drewN | apply below_drew1 | refine below_set ?_ GE256.out) | exact HB.out)) hb); clear BK256; clear HB; have BK256 := n0_; have HB := n1_; clear n0_ n1_; (try clear hb); (try clear hb2); (try clear hk); (try clear hi)))
      go_meet
      case rel => exact ⟨_, (true), (by first | rfl | (simp; done) | (simp [*]; done)), H', ⟨by first | omega | exact Nat.le_refl _⟩, ⟨by (with_reducible repeat (first | refine blk_drewN ?_ _ | refine blk_drew ?_ | refine blk_alloc ?_ _)); exact BK256.out⟩, ⟨by repeat (first | (with_reducible first | exact HB.out | apply below_alloc | apply pw_below_drewN | apply below_drew1 | refine below_set ?_ GE256.out) | exact HB.out)⟩⟩
    rw [if_neg c8] at H
    have c8b0 : decide (1000 < t258) = false := decide_eq_false c8
    clear c8
    (first | rw [c8b0] | (simp only [i64_w, i32_w]; rw [c8b0]) | skip)
    replace H := Option.bind_eq_some_iff.mp H
    obtain ⟨t259, A110, H⟩ := H
    replace H : (ductuslaw19_NfaMay.j0 k (decide (t259 > 3000)) a0_0 l0_1 a0_2 a0_3 l0_4) = some r := H
    have A11 := Aside0.mk A110
    clear A110
    have H' := Aside0.mk H
    clear H
    have hcz12_0 : w6.cell? ⟨gb256, 0, none⟩ = some (.int .i64 a0_0) := (blk_cell BK256.out 0).trans rfl
    have hcz12_1 : w6.cell? ⟨gb256, 1, none⟩ = some (.slice A0_1 l0_1.length c0_1) := (blk_cell BK256.out 1).trans rfl
    have hcz12_2 : w6.cell? ⟨gb256, 2, none⟩ = some (.int .i64 a0_2) := (blk_cell BK256.out 2).trans rfl
    have hcz12_3 : w6.cell? ⟨gb256, 3, none⟩ = some (.int .i64 a0_3) := (blk_cell BK256.out 3).trans rfl
    have hcz12_4 : w6.cell? ⟨gb256, 4, none⟩ = some (.slice A0_4 l0_4.length c0_4) := (blk_cell BK256.out 4).trans rfl
    have hfz12_0 := blk_frozen BK256.out 0
    have hfz12_1 := blk_frozen BK256.out 1
    have hfz12_2 := blk_frozen BK256.out 2
    have hfz12_3 := blk_frozen BK256.out 3
    have hfz12_4 := blk_frozen BK256.out 4
    go_wp2_with (first | ((with_reducible refine gate_callee (f := 8) rfl ?_); refine goesL_ (some 9) rfl rfl Try.func8 (by kernel_rfl) rfl #[.agg #[.int .i64 a0_0, .slice A0_1 l0_1.length c0_1, .int .i64 a0_2, .int .i64 a0_3, .slice A0_4 l0_4.length c0_4], .int .i64 0] rfl (by (try simp only [List.map_toArray, List.map_cons, List.map_nil]); first | done | rfl | (simp only [List.length_drop, List.length_take]; rfl)) ?_; (with_reducible refine (ductusref16_Weight.calls k a0_0 _ _ l0_1 a0_2 a0_3 _ _ l0_4 0 t258 _ ?side1 ?side2 ?side3 ?side4 A7.out).mono ?_); (case side1 => repeat (first | exact (Kd.C_below HR0_1.out HB.out) | (with_reducible refine Kd.C_alloc ?_ _) | (with_reducible refine Kd.C_drewN ?_ _) | (with_reducible refine Kd.C_drew ?_))); (case side2 => exact HC0_1.out); (case side3 => repeat (first | exact (Kd.C_below HR0_4.out HB.out) | (with_reducible refine Kd.C_alloc ?_ _) | (with_reducible refine Kd.C_drewN ?_ _) | (with_reducible refine Kd.C_drew ?_))); (case side4 => exact HC0_4.out); rintro e w13 ⟨rfl, hb⟩; refine ⟨_, rfl, ?_⟩; have n0_ := Aside0.mk (blk_below (g := gb256) (o := .cells #[.int .i64 a0_0, .slice A0_1 l0_1.length c0_1, .int .i64 a0_2, .int .i64 a0_3, .slice A0_4 l0_4.length c0_4] 25 (0, 0)) (by (with_reducible repeat (first | refine blk_drewN ?_ _ | refine blk_drew ?_ | refine blk_alloc ?_ _)); exact BK256.out) hb); have n1_ := Aside0.mk (below_step (by repeat (first | (with_reducible first | exact HB.out | apply below_alloc | apply pw_below_drewN | apply below_drew1 | refine below_set ?_ GE256.out) | exact HB.out)) hb); clear BK256; clear HB; have BK256 := n0_; have HB := n1_; clear n0_ n1_; (try clear hb); (try clear hb2); (try clear hk); (try clear hi); have hcz14_0 : w13.cell? ⟨gb256, 0, none⟩ = some (.int .i64 a0_0) := (blk_cell BK256.out 0).trans rfl; have hcz14_1 : w13.cell? ⟨gb256, 1, none⟩ = some (.slice A0_1 l0_1.length c0_1) := (blk_cell BK256.out 1).trans rfl; have hcz14_2 : w13.cell? ⟨gb256, 2, none⟩ = some (.int .i64 a0_2) := (blk_cell BK256.out 2).trans rfl; have hcz14_3 : w13.cell? ⟨gb256, 3, none⟩ = some (.int .i64 a0_3) := (blk_cell BK256.out 3).trans rfl; have hcz14_4 : w13.cell? ⟨gb256, 4, none⟩ = some (.slice A0_4 l0_4.length c0_4) := (blk_cell BK256.out 4).trans rfl; have hfz14_0 := blk_frozen BK256.out 0; have hfz14_1 := blk_frozen BK256.out 1; have hfz14_2 := blk_frozen BK256.out 2; have hfz14_3 := blk_frozen BK256.out 3; have hfz14_4 := blk_frozen BK256.out 4) | (go_at_call 9; (with_reducible refine (ductusref16_Size.calls k a0_0 _ _ l0_1 a0_2 a0_3 _ _ l0_4 t259 _ ?side1 ?side2 ?side3 ?side4 A11.out).mono ?_); (case side1 => repeat (first | exact (Kd.C_below HR0_1.out HB.out) | (with_reducible refine Kd.C_alloc ?_ _) | (with_reducible refine Kd.C_drewN ?_ _) | (with_reducible refine Kd.C_drew ?_))); (case side2 => exact HC0_1.out); (case side3 => repeat (first | exact (Kd.C_below HR0_4.out HB.out) | (with_reducible refine Kd.C_alloc ?_ _) | (with_reducible refine Kd.C_drewN ?_ _) | (with_reducible refine Kd.C_drew ?_))); (case side4 => exact HC0_4.out); rintro e w15 ⟨rfl, hb⟩; have n0_ := Aside0.mk (blk_below (g := gb256) (o := .cells #[.int .i64 a0_0, .slice A0_1 l0_1.length c0_1, .int .i64 a0_2, .int .i64 a0_3, .slice A0_4 l0_4.length c0_4] 25 (0, 0)) (by (with_reducible repeat (first | refine blk_drewN ?_ _ | refine blk_drew ?_ | refine blk_alloc ?_ _)); exact BK256.out) hb); have n1_ := Aside0.mk (below_step (by repeat (first | (with_reducible first | exact HB.out | apply below_alloc | apply pw_below_drewN | apply below_drew1 | refine below_set ?_ GE256.out) | exact HB.out)) hb); clear BK256; clear HB; have BK256 := n0_; have HB := n1_; clear n0_ n1_; (try clear hb); (try clear hb2); (try clear hk); (try clear hi)))
    go_meet
    case rel => exact ⟨_, (decide (t259 > 3000)), (by first | rfl | (simp; done) | (simp [*]; done)), H', ⟨by first | omega | exact Nat.le_refl _⟩, ⟨by (with_reducible repeat (first | refine blk_drewN ?_ _ | refine blk_drew ?_ | refine blk_alloc ?_ _)); exact BK256.out⟩, ⟨by repeat (first | (with_reducible first | exact HB.out | apply below_alloc | apply pw_below_drewN | apply below_drew1 | refine below_set ?_ GE256.out) | exact HB.out)⟩⟩
  case rest =>
    clear HC4
    try clear p2
    try clear c3
    try clear c5
    try clear c7
    try clear c8
    try clear c8b0
    try clear hcz12_0
    try clear hcz12_1
    try clear hcz12_2
    try clear hcz12_3
    try clear hcz12_4
    try clear hcz14_0
    try clear hcz14_1
    try clear hcz14_2
    try clear hcz14_3
    try clear hcz14_4
    try clear hcz9_0
    try clear hcz9_1
    try clear hcz9_2
    try clear hcz9_3
    try clear hcz9_4
    try clear hfz12_0
    try clear hfz12_1
    try clear hfz12_2
    try clear hfz12_3
    try clear hfz12_4
    try clear hfz14_0
    try clear hfz14_1
    try clear hfz14_2
    try clear hfz14_3
    try clear hfz14_4
    try clear hfz9_0
    try clear hfz9_1
    try clear hfz9_2
    try clear hfz9_3
    try clear hfz9_4
    obtain ⟨kq, x15_3, rfl, HA, HJ3, BK256, HB⟩ := hcut
    cases kq with
    | zero => exact absurd HA.out (by simp [ductuslaw19_NfaMay.j0])
    | succ kj3 =>
      have H := HA.out
      clear HA
      simp only [ductuslaw19_NfaMay.j0] at H
      by_cases c16 : x15_3 = true
      · subst c16
        have H1 : (some true) = some r := by rw [if_pos rfl] at H; exact H
        clear H
        have H := H1
        clear H1
        obtain rfl := Option.some.inj H
        go_wp2
        go_ret
        exact ⟨by first | rfl | (simp [errW_none, errW_some] <;> rfl) | (simp [*, errW_none, errW_some] <;> rfl), by repeat (first | (with_reducible first | exact HB.out | apply below_alloc | apply pw_below_drewN | apply below_drew1 | refine below_set ?_ GE256.out) | exact HB.out)⟩
      replace c16 := Bool.eq_false_iff.mpr c16
      subst c16
      have H1 : ((nfa_Compile.f kj3 a0_0 l0_1 a0_2 a0_3 l0_4).bind fun bt260 => (if bt260.2 = 0 then (ductuslaw19_NfaMay.l0 kj3 bt260.1 0 a0_0 l0_1 a0_2 a0_3 l0_4) else (some ((bt260.1.length : Int) == 0)))) = some r := by rw [if_neg (show ¬ (false = true) by decide)] at H; exact H
      clear H
      have H := H1
      clear H1
      replace H := Option.bind_eq_some_iff.mp H
      obtain ⟨⟨t260, t263⟩, A170, H⟩ := H
      replace H : (if t263 = 0 then (ductuslaw19_NfaMay.l0 kj3 t260 0 a0_0 l0_1 a0_2 a0_3 l0_4) else (some ((t260.length : Int) == 0))) = some r := H
      have A17 := Aside0.mk A170
      clear A170
      by_cases c18 : t263 = 0
      rotate_left
      · rw [if_neg c18] at H
        have c18b0 : (t263 == 0) = false := beq_eq_false_iff_ne.mpr c18
        have c18b1 : (t263 != 0) = true := bne_iff_ne.mpr c18
        obtain rfl := Option.some.inj H
        have hcz47_0 : wc.cell? ⟨gb256, 0, none⟩ = some (.int .i64 a0_0) := (blk_cell BK256.out 0).trans rfl
        have hcz47_1 : wc.cell? ⟨gb256, 1, none⟩ = some (.slice A0_1 l0_1.length c0_1) := (blk_cell BK256.out 1).trans rfl
        have hcz47_2 : wc.cell? ⟨gb256, 2, none⟩ = some (.int .i64 a0_2) := (blk_cell BK256.out 2).trans rfl
        have hcz47_3 : wc.cell? ⟨gb256, 3, none⟩ = some (.int .i64 a0_3) := (blk_cell BK256.out 3).trans rfl
        have hcz47_4 : wc.cell? ⟨gb256, 4, none⟩ = some (.slice A0_4 l0_4.length c0_4) := (blk_cell BK256.out 4).trans rfl
        have hfz47_0 := blk_frozen BK256.out 0
        have hfz47_1 := blk_frozen BK256.out 1
        have hfz47_2 := blk_frozen BK256.out 2
        have hfz47_3 := blk_frozen BK256.out 3
        have hfz47_4 := blk_frozen BK256.out 4
        go_wp2_with (first | ((with_reducible refine gate_callee (f := 10) rfl ?_); refine goesL_ (some 18) rfl rfl Try.func10 (by kernel_rfl) rfl #[.agg #[.int .i64 a0_0, .slice A0_1 l0_1.length c0_1, .int .i64 a0_2, .int .i64 a0_3, .slice A0_4 l0_4.length c0_4]] rfl (by (try simp only [List.map_toArray, List.map_cons, List.map_nil]); first | done | rfl | (simp only [List.length_drop, List.length_take]; rfl)) ?_; (with_reducible refine (nfa_Compile.calls kj3 a0_0 _ _ l0_1 a0_2 a0_3 _ _ l0_4 t260 t263 _ ?side1 ?side2 ?side3 ?side4 A17.out).mono ?_); (case side1 => repeat (first | exact (Kd.C_below HR0_1.out HB.out) | (with_reducible refine Kd.C_alloc ?_ _) | (with_reducible refine Kd.C_drewN ?_ _) | (with_reducible refine Kd.C_drew ?_))); (case side2 => exact HC0_1.out); (case side3 => repeat (first | exact (Kd.C_below HR0_4.out HB.out) | (with_reducible refine Kd.C_alloc ?_ _) | (with_reducible refine Kd.C_drewN ?_ _) | (with_reducible refine Kd.C_drew ?_))); (case side4 => exact HC0_4.out); rintro e w48 ⟨v261, rfl, ho0, hb⟩; refine ⟨_, rfl, ?_⟩; have n0_ := Aside0.mk (Kd.R_lower ho0 (below_size (by repeat (first | (with_reducible first | exact HB.out | apply below_alloc | apply pw_below_drewN | apply below_drew1 | refine below_set ?_ GE256.out) | exact HB.out)))); have n1_ := Aside0.mk (blk_below (g := gb256) (o := .cells #[.int .i64 a0_0, .slice A0_1 l0_1.length c0_1, .int .i64 a0_2, .int .i64 a0_3, .slice A0_4 l0_4.length c0_4] 25 (0, 0)) (by (with_reducible repeat (first | refine blk_drewN ?_ _ | refine blk_drew ?_ | refine blk_alloc ?_ _)); exact BK256.out) hb); have n2_ := Aside0.mk (below_step (by repeat (first | (with_reducible first | exact HB.out | apply below_alloc | apply pw_below_drewN | apply below_drew1 | refine below_set ?_ GE256.out) | exact HB.out)) hb); clear BK256; clear HB; have HO262 := n0_; have BK256 := n1_; have HB := n2_; clear n0_ n1_ n2_; (try clear hb); (try clear hb2); (try clear hk); (try clear hi); (try clear ho0); obtain ⟨Ao49, co49, eo49⟩ := Kd.R_slice HO262.out; subst eo49))
        go_ret
        exact ⟨by first | rfl | (simp [errW_none, errW_some] <;> rfl) | (simp [*, errW_none, errW_some] <;> rfl), by repeat (first | (with_reducible first | exact HB.out | apply below_alloc | apply pw_below_drewN | apply below_drew1 | refine below_set ?_ GE256.out) | exact HB.out)⟩
      rw [if_pos c18] at H
      have c18b0 : (t263 == 0) = true := beq_iff_eq.mpr c18
      have c18b1 : (t263 != 0) = false := bne_eq_false_iff_eq.mpr c18
      clear c18
      have H' := Aside0.mk H
      clear H
      have hcz19_0 : wc.cell? ⟨gb256, 0, none⟩ = some (.int .i64 a0_0) := (blk_cell BK256.out 0).trans rfl
      have hcz19_1 : wc.cell? ⟨gb256, 1, none⟩ = some (.slice A0_1 l0_1.length c0_1) := (blk_cell BK256.out 1).trans rfl
      have hcz19_2 : wc.cell? ⟨gb256, 2, none⟩ = some (.int .i64 a0_2) := (blk_cell BK256.out 2).trans rfl
      have hcz19_3 : wc.cell? ⟨gb256, 3, none⟩ = some (.int .i64 a0_3) := (blk_cell BK256.out 3).trans rfl
      have hcz19_4 : wc.cell? ⟨gb256, 4, none⟩ = some (.slice A0_4 l0_4.length c0_4) := (blk_cell BK256.out 4).trans rfl
      have hfz19_0 := blk_frozen BK256.out 0
      have hfz19_1 := blk_frozen BK256.out 1
      have hfz19_2 := blk_frozen BK256.out 2
      have hfz19_3 := blk_frozen BK256.out 3
      have hfz19_4 := blk_frozen BK256.out 4
      go_wp2_with (first | ((with_reducible refine gate_callee (f := 10) rfl ?_); refine goesL_ (some 18) rfl rfl Try.func10 (by kernel_rfl) rfl #[.agg #[.int .i64 a0_0, .slice A0_1 l0_1.length c0_1, .int .i64 a0_2, .int .i64 a0_3, .slice A0_4 l0_4.length c0_4]] rfl (by (try simp only [List.map_toArray, List.map_cons, List.map_nil]); first | done | rfl | (simp only [List.length_drop, List.length_take]; rfl)) ?_; (with_reducible refine (nfa_Compile.calls kj3 a0_0 _ _ l0_1 a0_2 a0_3 _ _ l0_4 t260 t263 _ ?side1 ?side2 ?side3 ?side4 A17.out).mono ?_); (case side1 => repeat (first | exact (Kd.C_below HR0_1.out HB.out) | (with_reducible refine Kd.C_alloc ?_ _) | (with_reducible refine Kd.C_drewN ?_ _) | (with_reducible refine Kd.C_drew ?_))); (case side2 => exact HC0_1.out); (case side3 => repeat (first | exact (Kd.C_below HR0_4.out HB.out) | (with_reducible refine Kd.C_alloc ?_ _) | (with_reducible refine Kd.C_drewN ?_ _) | (with_reducible refine Kd.C_drew ?_))); (case side4 => exact HC0_4.out); rintro e w20 ⟨v261, rfl, ho0, hb⟩; refine ⟨_, rfl, ?_⟩; have n0_ := Aside0.mk (Kd.R_lower ho0 (below_size (by repeat (first | (with_reducible first | exact HB.out | apply below_alloc | apply pw_below_drewN | apply below_drew1 | refine below_set ?_ GE256.out) | exact HB.out)))); have n1_ := Aside0.mk (blk_below (g := gb256) (o := .cells #[.int .i64 a0_0, .slice A0_1 l0_1.length c0_1, .int .i64 a0_2, .int .i64 a0_3, .slice A0_4 l0_4.length c0_4] 25 (0, 0)) (by (with_reducible repeat (first | refine blk_drewN ?_ _ | refine blk_drew ?_ | refine blk_alloc ?_ _)); exact BK256.out) hb); have n2_ := Aside0.mk (below_step (by repeat (first | (with_reducible first | exact HB.out | apply below_alloc | apply pw_below_drewN | apply below_drew1 | refine below_set ?_ GE256.out) | exact HB.out)) hb); clear BK256; clear HB; have HO262 := n0_; have BK256 := n1_; have HB := n2_; clear n0_ n1_ n2_; (try clear hb); (try clear hb2); (try clear hk); (try clear hi); (try clear ho0)))
      go_loopg [5] kj3 (fun kq v5 w' => ∃ (x5_2 : Int), v5 = .int .i64 x5_2 ∧ Aside0 (ductuslaw19_NfaMay.l0 kq t260 x5_2 a0_0 l0_1 a0_2 a0_3 l0_4 = some r) ∧ Aside0 (kq ≤ kj3) ∧ Aside0 (Kd.R k39 39 w' w.heap.size (fun _ => True) v261 t260) ∧ Aside0 (w'.heap[gb256]? = some (.cells #[.int .i64 a0_0, (.slice A0_1 l0_1.length c0_1), .int .i64 a0_2, .int .i64 a0_3, (.slice A0_4 l0_4.length c0_4)] 25 (0, 0))) ∧ Aside0 (Below w.heap.size w w'))
      case atStart => exact ⟨(0), (by first | rfl | (simp; done) | (simp [*]; done)), H', ⟨Nat.le_refl _⟩, ⟨by (with_reducible repeat (first | apply Kd.R_alloc | apply Kd.R_drewN | apply Kd.R_drew)); exact HO262.out⟩, ⟨by (with_reducible repeat (first | refine blk_drewN ?_ _ | refine blk_drew ?_ | refine blk_alloc ?_ _)); exact BK256.out⟩, ⟨by repeat (first | (with_reducible first | exact HB.out | apply below_alloc | apply pw_below_drewN | apply below_drew1 | refine below_set ?_ GE256.out) | exact HB.out)⟩⟩
      case round =>
        clear H'
        try clear c1
        try clear p2
        try clear c3
        try clear c5
        try clear c7
        try clear c8
        try clear c8b0
        try clear c10
        try clear c16
        try clear c18
        try clear c18b0
        try clear c18b1
        try clear hcz12_0
        try clear hcz12_1
        try clear hcz12_2
        try clear hcz12_3
        try clear hcz12_4
        try clear hcz14_0
        try clear hcz14_1
        try clear hcz14_2
        try clear hcz14_3
        try clear hcz14_4
        try clear hcz19_0
        try clear hcz19_1
        try clear hcz19_2
        try clear hcz19_3
        try clear hcz19_4
        try clear hcz9_0
        try clear hcz9_1
        try clear hcz9_2
        try clear hcz9_3
        try clear hcz9_4
        try clear hfz12_0
        try clear hfz12_1
        try clear hfz12_2
        try clear hfz12_3
        try clear hfz12_4
        try clear hfz14_0
        try clear hfz14_1
        try clear hfz14_2
        try clear hfz14_3
        try clear hfz14_4
        try clear hfz19_0
        try clear hfz19_1
        try clear hfz19_2
        try clear hfz19_3
        try clear hfz19_4
        try clear hfz9_0
        try clear hfz9_1
        try clear hfz9_2
        try clear hfz9_3
        try clear hfz9_4
        try clear p2
        obtain ⟨x5_2, rfl, HA, HK2, HO_3, BK256, HB⟩ := hrel
        cases gk with
        | zero => exact absurd HA.out (by simp [ductuslaw19_NfaMay.l0])
        | succ k2 =>
          have H := HA.out
          clear HA
          simp only [ductuslaw19_NfaMay.l0] at H
          by_cases c21 : x5_2 < (t260.length : Int)
          rotate_left
          · rw [if_neg c21] at H
            have c21b0 : decide (x5_2 < (t260.length : Int)) = false := decide_eq_false c21
            clear c21
            replace H := Option.bind_eq_some_iff.mp H
            obtain ⟨t273, A370, H⟩ := H
            replace H : (if t273 = true then ((nfa_Count.f k2 t260 0).bind fun t274 => (if t274 = 1 then ((ductusref16_Size.f k2 a0_0 l0_1 a0_2 a0_3 l0_4).bind fun t275 => (some (decide ((t260.length : Int) ≤ (wrap64 ((wrap64 (3 * t275)) + 1)))))) else (none))) else (none)) = some r := H
            have A37 := Aside0.mk A370
            clear A370
            by_cases c38 : t273 = true
            rotate_left
            · replace c38 := Bool.eq_false_iff.mpr c38
              subst c38
              have H1 : (none) = some r := by rw [if_neg (show ¬ (false = true) by decide)] at H; exact H
              clear H
              have H := H1
              clear H1
              exact absurd H (by simp)
            subst c38
            have H1 : ((nfa_Count.f k2 t260 0).bind fun t274 => (if t274 = 1 then ((ductusref16_Size.f k2 a0_0 l0_1 a0_2 a0_3 l0_4).bind fun t275 => (some (decide ((t260.length : Int) ≤ (wrap64 ((wrap64 (3 * t275)) + 1)))))) else (none))) = some r := by rw [if_pos rfl] at H; exact H
            clear H
            have H := H1
            clear H1
            replace H := Option.bind_eq_some_iff.mp H
            obtain ⟨t274, A390, H⟩ := H
            replace H : (if t274 = 1 then ((ductusref16_Size.f k2 a0_0 l0_1 a0_2 a0_3 l0_4).bind fun t275 => (some (decide ((t260.length : Int) ≤ (wrap64 ((wrap64 (3 * t275)) + 1)))))) else (none)) = some r := H
            have A39 := Aside0.mk A390
            clear A390
            by_cases c40 : t274 = 1
            rotate_left
            · rw [if_neg c40] at H
              exact absurd H (by simp)
            rw [if_pos c40] at H
            have c40b0 : (t274 == 1) = true := beq_iff_eq.mpr c40
            have c40b1 : (t274 != 1) = false := bne_eq_false_iff_eq.mpr c40
            clear c40
            replace H := Option.bind_eq_some_iff.mp H
            obtain ⟨t275, A410, H⟩ := H
            replace H : (some (decide ((t260.length : Int) ≤ (wrap64 ((wrap64 (3 * t275)) + 1))))) = some r := H
            have A41 := Aside0.mk A410
            clear A410
            obtain rfl := Option.some.inj H
            obtain ⟨Ao42, co42, eo42⟩ := Kd.R_slice HO_3.out
            subst eo42
            go_wp2_with (first | ((with_reducible refine gate_callee (f := 14) rfl ?_); refine goesL_ (some 90) rfl rfl Try.func14 (by kernel_rfl) rfl #[.slice Ao42 t260.length co42] rfl (by (try simp only [List.map_toArray, List.map_cons, List.map_nil]); first | done | rfl | (simp only [List.length_drop, List.length_take]; rfl)) ?_; (with_reducible refine (nfa_Right.calls _ _ t260 true _ ?side1 ?side2 A37.out).mono ?_); (case side1 => repeat (first | exact (Kd.R_reads' HO_3.out).2.2 | (with_reducible refine Kd.C_alloc ?_ _) | (with_reducible refine Kd.C_drewN ?_ _) | (with_reducible refine Kd.C_drew ?_))); (case side2 => exact (Kd.R_reads' HO_3.out).2.1); rintro e w43 ⟨rfl, hb⟩; refine ⟨_, rfl, ?_⟩; have n0_ := Aside0.mk (Kd.R_below (by (with_reducible repeat (first | apply Kd.R_alloc | apply Kd.R_drewN | apply Kd.R_drew)); exact HO_3.out) hb); have n1_ := Aside0.mk (blk_below (g := gb256) (o := .cells #[.int .i64 a0_0, .slice A0_1 l0_1.length c0_1, .int .i64 a0_2, .int .i64 a0_3, .slice A0_4 l0_4.length c0_4] 25 (0, 0)) (by (with_reducible repeat (first | refine blk_drewN ?_ _ | refine blk_drew ?_ | refine blk_alloc ?_ _)); exact BK256.out) hb); have n2_ := Aside0.mk (below_step (by repeat (first | (with_reducible first | exact HB.out | apply below_alloc | apply pw_below_drewN | apply below_drew1 | refine below_set ?_ GE256.out) | exact HB.out)) hb); clear HO_3; clear BK256; clear HB; have HO_3 := n0_; have BK256 := n1_; have HB := n2_; clear n0_ n1_ n2_; (try clear hb); (try clear hb2); (try clear hk); (try clear hi)) | (go_at_call 16; (with_reducible refine (nfa_Count.calls k2 _ _ t260 0 t274 _ ?side1 ?side2 A39.out).mono ?_); (case side1 => repeat (first | exact (Kd.R_reads' HO_3.out).2.2 | (with_reducible refine Kd.C_alloc ?_ _) | (with_reducible refine Kd.C_drewN ?_ _) | (with_reducible refine Kd.C_drew ?_))); (case side2 => exact (Kd.R_reads' HO_3.out).2.1); rintro e w44 ⟨rfl, hb⟩; have n0_ := Aside0.mk (Kd.R_below (by (with_reducible repeat (first | apply Kd.R_alloc | apply Kd.R_drewN | apply Kd.R_drew)); exact HO_3.out) hb); have n1_ := Aside0.mk (blk_below (g := gb256) (o := .cells #[.int .i64 a0_0, .slice A0_1 l0_1.length c0_1, .int .i64 a0_2, .int .i64 a0_3, .slice A0_4 l0_4.length c0_4] 25 (0, 0)) (by (with_reducible repeat (first | refine blk_drewN ?_ _ | refine blk_drew ?_ | refine blk_alloc ?_ _)); exact BK256.out) hb); have n2_ := Aside0.mk (below_step (by repeat (first | (with_reducible first | exact HB.out | apply below_alloc | apply pw_below_drewN | apply below_drew1 | refine below_set ?_ GE256.out) | exact HB.out)) hb); clear HO_3; clear BK256; clear HB; have HO_3 := n0_; have BK256 := n1_; have HB := n2_; clear n0_ n1_ n2_; (try clear hb); (try clear hb2); (try clear hk); (try clear hi); have hcz45_0 : w44.cell? ⟨gb256, 0, none⟩ = some (.int .i64 a0_0) := (blk_cell BK256.out 0).trans rfl; have hcz45_1 : w44.cell? ⟨gb256, 1, none⟩ = some (.slice A0_1 l0_1.length c0_1) := (blk_cell BK256.out 1).trans rfl; have hcz45_2 : w44.cell? ⟨gb256, 2, none⟩ = some (.int .i64 a0_2) := (blk_cell BK256.out 2).trans rfl; have hcz45_3 : w44.cell? ⟨gb256, 3, none⟩ = some (.int .i64 a0_3) := (blk_cell BK256.out 3).trans rfl; have hcz45_4 : w44.cell? ⟨gb256, 4, none⟩ = some (.slice A0_4 l0_4.length c0_4) := (blk_cell BK256.out 4).trans rfl; have hfz45_0 := blk_frozen BK256.out 0; have hfz45_1 := blk_frozen BK256.out 1; have hfz45_2 := blk_frozen BK256.out 2; have hfz45_3 := blk_frozen BK256.out 3; have hfz45_4 := blk_frozen BK256.out 4) | (go_at_call 9; (with_reducible refine (ductusref16_Size.calls k2 a0_0 _ _ l0_1 a0_2 a0_3 _ _ l0_4 t275 _ ?side1 ?side2 ?side3 ?side4 A41.out).mono ?_); (case side1 => repeat (first | exact (Kd.C_below HR0_1.out HB.out) | (with_reducible refine Kd.C_alloc ?_ _) | (with_reducible refine Kd.C_drewN ?_ _) | (with_reducible refine Kd.C_drew ?_))); (case side2 => exact HC0_1.out); (case side3 => repeat (first | exact (Kd.C_below HR0_4.out HB.out) | (with_reducible refine Kd.C_alloc ?_ _) | (with_reducible refine Kd.C_drewN ?_ _) | (with_reducible refine Kd.C_drew ?_))); (case side4 => exact HC0_4.out); rintro e w46 ⟨rfl, hb⟩; have n0_ := Aside0.mk (Kd.R_below (by (with_reducible repeat (first | apply Kd.R_alloc | apply Kd.R_drewN | apply Kd.R_drew)); exact HO_3.out) hb); have n1_ := Aside0.mk (blk_below (g := gb256) (o := .cells #[.int .i64 a0_0, .slice A0_1 l0_1.length c0_1, .int .i64 a0_2, .int .i64 a0_3, .slice A0_4 l0_4.length c0_4] 25 (0, 0)) (by (with_reducible repeat (first | refine blk_drewN ?_ _ | refine blk_drew ?_ | refine blk_alloc ?_ _)); exact BK256.out) hb); have n2_ := Aside0.mk (below_step (by repeat (first | (with_reducible first | exact HB.out | apply below_alloc | apply pw_below_drewN | apply below_drew1 | refine below_set ?_ GE256.out) | exact HB.out)) hb); clear HO_3; clear BK256; clear HB; have HO_3 := n0_; have BK256 := n1_; have HB := n2_; clear n0_ n1_ n2_; (try clear hb); (try clear hb2); (try clear hk); (try clear hi)))
            go_ret
            exact ⟨by first | rfl | (simp [errW_none, errW_some] <;> rfl) | (simp [*, errW_none, errW_some] <;> rfl), by repeat (first | (with_reducible first | exact HB.out | apply below_alloc | apply pw_below_drewN | apply below_drew1 | refine below_set ?_ GE256.out) | exact HB.out)⟩
          rw [if_pos c21] at H
          have c21b0 : decide (x5_2 < (t260.length : Int)) = true := decide_eq_true c21
          clear c21
          by_cases c22 : 0 ≤ x5_2
          rotate_left
          · rw [if_neg c22] at H
            exact absurd H (by simp)
          rw [if_pos c22] at H
          have c22b0 : decide (0 ≤ x5_2) = true := decide_eq_true c22
          clear c22
          by_cases c23 : ((rd_T39 t260 x5_2).f0) = 2
          · rw [if_pos c23] at H
            have c23b0 : (((rd_T39 t260 x5_2).f0) == 2) = true := beq_iff_eq.mpr c23
            have c23b1 : (((rd_T39 t260 x5_2).f0) != 2) = false := bne_eq_false_iff_eq.mpr c23
            clear c23
            by_cases c24 : ((rd_T39 t260 x5_2).f2) = (wrap64 (x5_2 + 1))
            rotate_left
            · rw [if_neg c24] at H
              exact absurd H (by simp)
            rw [if_pos c24] at H
            have c24b0 : (((rd_T39 t260 x5_2).f2) == (wrap64 (x5_2 + 1))) = true := beq_iff_eq.mpr c24
            have c24b1 : (((rd_T39 t260 x5_2).f2) != (wrap64 (x5_2 + 1))) = false := bne_eq_false_iff_eq.mpr c24
            clear c24
            by_cases c25 : ((rd_T39 t260 x5_2).f3) ≤ x5_2
            · rw [if_pos c25] at H
              exact absurd H (by simp)
            rw [if_neg c25] at H
            have c25b0 : decide (((rd_T39 t260 x5_2).f3) ≤ x5_2) = false := decide_eq_false c25
            clear c25
            by_cases c26 : ((rd_T39 t260 x5_2).f0) = 3
            · rw [if_pos c26] at H
              exact absurd H (by simp)
            rw [if_neg c26] at H
            have c26b0 : (((rd_T39 t260 x5_2).f0) == 3) = false := beq_eq_false_iff_ne.mpr c26
            have c26b1 : (((rd_T39 t260 x5_2).f0) != 3) = true := bne_iff_ne.mpr c26
            by_cases c27 : ((rd_T39 t260 x5_2).f0) = 0
            · rw [if_pos c27] at H
              exact absurd H (by simp)
            rw [if_neg c27] at H
            have c27b0 : (((rd_T39 t260 x5_2).f0) == 0) = false := beq_eq_false_iff_ne.mpr c27
            have c27b1 : (((rd_T39 t260 x5_2).f0) != 0) = true := bne_iff_ne.mpr c27
            have H' := Aside0.mk H
            clear H
            obtain ⟨Ao28, co28, eo28⟩ := Kd.R_slice HO_3.out
            subst eo28
            have p264 : 0 ≤ (x5_2 : Int) := of_decide_eq_true (by first | (with_reducible assumption) | assumption)
            have q264 : x5_2 < (t260.length : Int) := of_decide_eq_true (by first | (with_reducible assumption) | assumption)
            obtain ⟨ad264, A264_1, c264_1, e264, hx264_0, hx264_1, hx264_2, hx264_3, hl264_1, hi264_1⟩ := at_T39 (Kd.R_reads' HO_3.out).2.2 x5_2 p264 q264
            cases e264
            obtain ⟨ce264, hce264, hMe264, hcc264⟩ := Kd.R_get HO_3.out z39 x5_2 p264 (by first | exact q264 | exact of_decide_eq_true (by first | (with_reducible assumption) | assumption) | (have e_ := (Kd.R_reads' HO_3.out).1; omega))
            obtain ⟨ve264_1, rfl, ge264_1⟩ := k39_openM hMe264
            have hv264_1 := hcc264 1 _ rfl
            rw [add_field _ _ 1 (by omega)] at hv264_1
            replace hv264_1 := Option.some.inj (hv264_1.symm.trans hx264_1)
            rw [hv264_1] at ge264_1
            have HL264_1 := Aside0.mk (show Kd.R k42 42 _ _ _ _ ((rd_T39 t260 x5_2).f1) from ge264_1)
            clear hv264_1 ge264_1
            clear hcc264 hce264
            have HR264_1 := Aside0.mk hi264_1
            have HC264_1 := Aside0.mk hl264_1
            clear hi264_1 hl264_1
            replace p264 := eq_true p264
            replace q264 := eq_true q264
            have p265 : 0 ≤ (x5_2 : Int) := of_decide_eq_true (by first | (with_reducible assumption) | assumption)
            have q265 : x5_2 < (t260.length : Int) := of_decide_eq_true (by first | (with_reducible assumption) | assumption)
            obtain ⟨ad265, A265_1, c265_1, e265, hx265_0, hx265_1, hx265_2, hx265_3, hl265_1, hi265_1⟩ := at_T39 (Kd.R_reads' HO_3.out).2.2 x5_2 p265 q265
            obtain rfl : ad264 = ad265 := (by injection e265)
            obtain ⟨ce265, hce265, hMe265, hcc265⟩ := Kd.R_get HO_3.out z39 x5_2 p265 (by first | exact q265 | exact of_decide_eq_true (by first | (with_reducible assumption) | assumption) | (have e_ := (Kd.R_reads' HO_3.out).1; omega))
            obtain ⟨ve265_1, rfl, ge265_1⟩ := k39_openM hMe265
            have hv265_1 := hcc265 1 _ rfl
            rw [add_field _ _ 1 (by omega)] at hv265_1
            replace hv265_1 := Option.some.inj (hv265_1.symm.trans hx265_1)
            rw [hv265_1] at ge265_1
            have HL265_1 := Aside0.mk (show Kd.R k42 42 _ _ _ _ ((rd_T39 t260 x5_2).f1) from ge265_1)
            clear hv265_1 ge265_1
            clear hcc265 hce265
            have HR265_1 := Aside0.mk hi265_1
            have HC265_1 := Aside0.mk hl265_1
            clear hi265_1 hl265_1
            replace p265 := eq_true p265
            replace q265 := eq_true q265
            have ea_ := Option.some.inj (hx264_1.symm.trans hx265_1)
            injection ea_ with ea_ en_ ec_
            subst ea_
            subst ec_
            clear en_
            have p266 : 0 ≤ (x5_2 : Int) := of_decide_eq_true (by first | (with_reducible assumption) | assumption)
            have q266 : x5_2 < (t260.length : Int) := of_decide_eq_true (by first | (with_reducible assumption) | assumption)
            obtain ⟨ad266, A266_1, c266_1, e266, hx266_0, hx266_1, hx266_2, hx266_3, hl266_1, hi266_1⟩ := at_T39 (Kd.R_reads' HO_3.out).2.2 x5_2 p266 q266
            obtain rfl : ad264 = ad266 := (by injection e266)
            obtain ⟨ce266, hce266, hMe266, hcc266⟩ := Kd.R_get HO_3.out z39 x5_2 p266 (by first | exact q266 | exact of_decide_eq_true (by first | (with_reducible assumption) | assumption) | (have e_ := (Kd.R_reads' HO_3.out).1; omega))
            obtain ⟨ve266_1, rfl, ge266_1⟩ := k39_openM hMe266
            have hv266_1 := hcc266 1 _ rfl
            rw [add_field _ _ 1 (by omega)] at hv266_1
            replace hv266_1 := Option.some.inj (hv266_1.symm.trans hx266_1)
            rw [hv266_1] at ge266_1
            have HL266_1 := Aside0.mk (show Kd.R k42 42 _ _ _ _ ((rd_T39 t260 x5_2).f1) from ge266_1)
            clear hv266_1 ge266_1
            clear hcc266 hce266
            have HR266_1 := Aside0.mk hi266_1
            have HC266_1 := Aside0.mk hl266_1
            clear hi266_1 hl266_1
            replace p266 := eq_true p266
            replace q266 := eq_true q266
            have ea_ := Option.some.inj (hx264_1.symm.trans hx266_1)
            injection ea_ with ea_ en_ ec_
            subst ea_
            subst ec_
            clear en_
            have p267 : 0 ≤ (x5_2 : Int) := of_decide_eq_true (by first | (with_reducible assumption) | assumption)
            have q267 : x5_2 < (t260.length : Int) := of_decide_eq_true (by first | (with_reducible assumption) | assumption)
            obtain ⟨ad267, A267_1, c267_1, e267, hx267_0, hx267_1, hx267_2, hx267_3, hl267_1, hi267_1⟩ := at_T39 (Kd.R_reads' HO_3.out).2.2 x5_2 p267 q267
            obtain rfl : ad264 = ad267 := (by injection e267)
            obtain ⟨ce267, hce267, hMe267, hcc267⟩ := Kd.R_get HO_3.out z39 x5_2 p267 (by first | exact q267 | exact of_decide_eq_true (by first | (with_reducible assumption) | assumption) | (have e_ := (Kd.R_reads' HO_3.out).1; omega))
            obtain ⟨ve267_1, rfl, ge267_1⟩ := k39_openM hMe267
            have hv267_1 := hcc267 1 _ rfl
            rw [add_field _ _ 1 (by omega)] at hv267_1
            replace hv267_1 := Option.some.inj (hv267_1.symm.trans hx267_1)
            rw [hv267_1] at ge267_1
            have HL267_1 := Aside0.mk (show Kd.R k42 42 _ _ _ _ ((rd_T39 t260 x5_2).f1) from ge267_1)
            clear hv267_1 ge267_1
            clear hcc267 hce267
            have HR267_1 := Aside0.mk hi267_1
            have HC267_1 := Aside0.mk hl267_1
            clear hi267_1 hl267_1
            replace p267 := eq_true p267
            replace q267 := eq_true q267
            have ea_ := Option.some.inj (hx264_1.symm.trans hx267_1)
            injection ea_ with ea_ en_ ec_
            subst ea_
            subst ec_
            clear en_
            have p268 : 0 ≤ (x5_2 : Int) := of_decide_eq_true (by first | (with_reducible assumption) | assumption)
            have q268 : x5_2 < (t260.length : Int) := of_decide_eq_true (by first | (with_reducible assumption) | assumption)
            obtain ⟨ad268, A268_1, c268_1, e268, hx268_0, hx268_1, hx268_2, hx268_3, hl268_1, hi268_1⟩ := at_T39 (Kd.R_reads' HO_3.out).2.2 x5_2 p268 q268
            obtain rfl : ad264 = ad268 := (by injection e268)
            obtain ⟨ce268, hce268, hMe268, hcc268⟩ := Kd.R_get HO_3.out z39 x5_2 p268 (by first | exact q268 | exact of_decide_eq_true (by first | (with_reducible assumption) | assumption) | (have e_ := (Kd.R_reads' HO_3.out).1; omega))
            obtain ⟨ve268_1, rfl, ge268_1⟩ := k39_openM hMe268
            have hv268_1 := hcc268 1 _ rfl
            rw [add_field _ _ 1 (by omega)] at hv268_1
            replace hv268_1 := Option.some.inj (hv268_1.symm.trans hx268_1)
            rw [hv268_1] at ge268_1
            have HL268_1 := Aside0.mk (show Kd.R k42 42 _ _ _ _ ((rd_T39 t260 x5_2).f1) from ge268_1)
            clear hv268_1 ge268_1
            clear hcc268 hce268
            have HR268_1 := Aside0.mk hi268_1
            have HC268_1 := Aside0.mk hl268_1
            clear hi268_1 hl268_1
            replace p268 := eq_true p268
            replace q268 := eq_true q268
            have ea_ := Option.some.inj (hx264_1.symm.trans hx268_1)
            injection ea_ with ea_ en_ ec_
            subst ea_
            subst ec_
            clear en_
            go_wp2
            go_roundg k2
            case measure => have := HJ3.out; have := HK2.out; omega
            case rel => exact ⟨(wrap64 (x5_2 + 1)), (by first | rfl | (simp; done) | (simp [*]; done)), H', ⟨by have := HJ3.out; have := HK2.out; omega⟩, ⟨by (with_reducible repeat (first | apply Kd.R_alloc | apply Kd.R_drewN | apply Kd.R_drew)); exact HO_3.out⟩, ⟨by (with_reducible repeat (first | refine blk_drewN ?_ _ | refine blk_drew ?_ | refine blk_alloc ?_ _)); exact BK256.out⟩, ⟨by repeat (first | (with_reducible first | exact HB.out | apply below_alloc | apply pw_below_drewN | apply below_drew1 | refine below_set ?_ GE256.out) | exact HB.out)⟩⟩
          rw [if_neg c23] at H
          have c23b0 : (((rd_T39 t260 x5_2).f0) == 2) = false := beq_eq_false_iff_ne.mpr c23
          have c23b1 : (((rd_T39 t260 x5_2).f0) != 2) = true := bne_iff_ne.mpr c23
          by_cases c29 : ((rd_T39 t260 x5_2).f0) = 3
          · rw [if_pos c29] at H
            have c29b0 : (((rd_T39 t260 x5_2).f0) == 3) = true := beq_iff_eq.mpr c29
            have c29b1 : (((rd_T39 t260 x5_2).f0) != 3) = false := bne_eq_false_iff_eq.mpr c29
            clear c29
            by_cases c30 : ((rd_T39 t260 x5_2).f2) = x5_2
            · rw [if_pos c30] at H
              exact absurd H (by simp)
            rw [if_neg c30] at H
            have c30b0 : (((rd_T39 t260 x5_2).f2) == x5_2) = false := beq_eq_false_iff_ne.mpr c30
            have c30b1 : (((rd_T39 t260 x5_2).f2) != x5_2) = true := bne_iff_ne.mpr c30
            by_cases c31 : ((rd_T39 t260 x5_2).f0) = 0
            · rw [if_pos c31] at H
              exact absurd H (by simp)
            rw [if_neg c31] at H
            have c31b0 : (((rd_T39 t260 x5_2).f0) == 0) = false := beq_eq_false_iff_ne.mpr c31
            have c31b1 : (((rd_T39 t260 x5_2).f0) != 0) = true := bne_iff_ne.mpr c31
            have H' := Aside0.mk H
            clear H
            obtain ⟨Ao32, co32, eo32⟩ := Kd.R_slice HO_3.out
            subst eo32
            have p264 : 0 ≤ (x5_2 : Int) := of_decide_eq_true (by first | (with_reducible assumption) | assumption)
            have q264 : x5_2 < (t260.length : Int) := of_decide_eq_true (by first | (with_reducible assumption) | assumption)
            obtain ⟨ad264, A264_1, c264_1, e264, hx264_0, hx264_1, hx264_2, hx264_3, hl264_1, hi264_1⟩ := at_T39 (Kd.R_reads' HO_3.out).2.2 x5_2 p264 q264
            cases e264
            obtain ⟨ce264, hce264, hMe264, hcc264⟩ := Kd.R_get HO_3.out z39 x5_2 p264 (by first | exact q264 | exact of_decide_eq_true (by first | (with_reducible assumption) | assumption) | (have e_ := (Kd.R_reads' HO_3.out).1; omega))
            obtain ⟨ve264_1, rfl, ge264_1⟩ := k39_openM hMe264
            have hv264_1 := hcc264 1 _ rfl
            rw [add_field _ _ 1 (by omega)] at hv264_1
            replace hv264_1 := Option.some.inj (hv264_1.symm.trans hx264_1)
            rw [hv264_1] at ge264_1
            have HL264_1 := Aside0.mk (show Kd.R k42 42 _ _ _ _ ((rd_T39 t260 x5_2).f1) from ge264_1)
            clear hv264_1 ge264_1
            clear hcc264 hce264
            have HR264_1 := Aside0.mk hi264_1
            have HC264_1 := Aside0.mk hl264_1
            clear hi264_1 hl264_1
            replace p264 := eq_true p264
            replace q264 := eq_true q264
            have p269 : 0 ≤ (x5_2 : Int) := of_decide_eq_true (by first | (with_reducible assumption) | assumption)
            have q269 : x5_2 < (t260.length : Int) := of_decide_eq_true (by first | (with_reducible assumption) | assumption)
            obtain ⟨ad269, A269_1, c269_1, e269, hx269_0, hx269_1, hx269_2, hx269_3, hl269_1, hi269_1⟩ := at_T39 (Kd.R_reads' HO_3.out).2.2 x5_2 p269 q269
            obtain rfl : ad264 = ad269 := (by injection e269)
            obtain ⟨ce269, hce269, hMe269, hcc269⟩ := Kd.R_get HO_3.out z39 x5_2 p269 (by first | exact q269 | exact of_decide_eq_true (by first | (with_reducible assumption) | assumption) | (have e_ := (Kd.R_reads' HO_3.out).1; omega))
            obtain ⟨ve269_1, rfl, ge269_1⟩ := k39_openM hMe269
            have hv269_1 := hcc269 1 _ rfl
            rw [add_field _ _ 1 (by omega)] at hv269_1
            replace hv269_1 := Option.some.inj (hv269_1.symm.trans hx269_1)
            rw [hv269_1] at ge269_1
            have HL269_1 := Aside0.mk (show Kd.R k42 42 _ _ _ _ ((rd_T39 t260 x5_2).f1) from ge269_1)
            clear hv269_1 ge269_1
            clear hcc269 hce269
            have HR269_1 := Aside0.mk hi269_1
            have HC269_1 := Aside0.mk hl269_1
            clear hi269_1 hl269_1
            replace p269 := eq_true p269
            replace q269 := eq_true q269
            have ea_ := Option.some.inj (hx264_1.symm.trans hx269_1)
            injection ea_ with ea_ en_ ec_
            subst ea_
            subst ec_
            clear en_
            have p270 : 0 ≤ (x5_2 : Int) := of_decide_eq_true (by first | (with_reducible assumption) | assumption)
            have q270 : x5_2 < (t260.length : Int) := of_decide_eq_true (by first | (with_reducible assumption) | assumption)
            obtain ⟨ad270, A270_1, c270_1, e270, hx270_0, hx270_1, hx270_2, hx270_3, hl270_1, hi270_1⟩ := at_T39 (Kd.R_reads' HO_3.out).2.2 x5_2 p270 q270
            obtain rfl : ad264 = ad270 := (by injection e270)
            obtain ⟨ce270, hce270, hMe270, hcc270⟩ := Kd.R_get HO_3.out z39 x5_2 p270 (by first | exact q270 | exact of_decide_eq_true (by first | (with_reducible assumption) | assumption) | (have e_ := (Kd.R_reads' HO_3.out).1; omega))
            obtain ⟨ve270_1, rfl, ge270_1⟩ := k39_openM hMe270
            have hv270_1 := hcc270 1 _ rfl
            rw [add_field _ _ 1 (by omega)] at hv270_1
            replace hv270_1 := Option.some.inj (hv270_1.symm.trans hx270_1)
            rw [hv270_1] at ge270_1
            have HL270_1 := Aside0.mk (show Kd.R k42 42 _ _ _ _ ((rd_T39 t260 x5_2).f1) from ge270_1)
            clear hv270_1 ge270_1
            clear hcc270 hce270
            have HR270_1 := Aside0.mk hi270_1
            have HC270_1 := Aside0.mk hl270_1
            clear hi270_1 hl270_1
            replace p270 := eq_true p270
            replace q270 := eq_true q270
            have ea_ := Option.some.inj (hx264_1.symm.trans hx270_1)
            injection ea_ with ea_ en_ ec_
            subst ea_
            subst ec_
            clear en_
            have p271 : 0 ≤ (x5_2 : Int) := of_decide_eq_true (by first | (with_reducible assumption) | assumption)
            have q271 : x5_2 < (t260.length : Int) := of_decide_eq_true (by first | (with_reducible assumption) | assumption)
            obtain ⟨ad271, A271_1, c271_1, e271, hx271_0, hx271_1, hx271_2, hx271_3, hl271_1, hi271_1⟩ := at_T39 (Kd.R_reads' HO_3.out).2.2 x5_2 p271 q271
            obtain rfl : ad264 = ad271 := (by injection e271)
            obtain ⟨ce271, hce271, hMe271, hcc271⟩ := Kd.R_get HO_3.out z39 x5_2 p271 (by first | exact q271 | exact of_decide_eq_true (by first | (with_reducible assumption) | assumption) | (have e_ := (Kd.R_reads' HO_3.out).1; omega))
            obtain ⟨ve271_1, rfl, ge271_1⟩ := k39_openM hMe271
            have hv271_1 := hcc271 1 _ rfl
            rw [add_field _ _ 1 (by omega)] at hv271_1
            replace hv271_1 := Option.some.inj (hv271_1.symm.trans hx271_1)
            rw [hv271_1] at ge271_1
            have HL271_1 := Aside0.mk (show Kd.R k42 42 _ _ _ _ ((rd_T39 t260 x5_2).f1) from ge271_1)
            clear hv271_1 ge271_1
            clear hcc271 hce271
            have HR271_1 := Aside0.mk hi271_1
            have HC271_1 := Aside0.mk hl271_1
            clear hi271_1 hl271_1
            replace p271 := eq_true p271
            replace q271 := eq_true q271
            have ea_ := Option.some.inj (hx264_1.symm.trans hx271_1)
            injection ea_ with ea_ en_ ec_
            subst ea_
            subst ec_
            clear en_
            go_wp2
            go_roundg k2
            case measure => have := HJ3.out; have := HK2.out; omega
            case rel => exact ⟨(wrap64 (x5_2 + 1)), (by first | rfl | (simp; done) | (simp [*]; done)), H', ⟨by have := HJ3.out; have := HK2.out; omega⟩, ⟨by (with_reducible repeat (first | apply Kd.R_alloc | apply Kd.R_drewN | apply Kd.R_drew)); exact HO_3.out⟩, ⟨by (with_reducible repeat (first | refine blk_drewN ?_ _ | refine blk_drew ?_ | refine blk_alloc ?_ _)); exact BK256.out⟩, ⟨by repeat (first | (with_reducible first | exact HB.out | apply below_alloc | apply pw_below_drewN | apply below_drew1 | refine below_set ?_ GE256.out) | exact HB.out)⟩⟩
          rw [if_neg c29] at H
          have c29b0 : (((rd_T39 t260 x5_2).f0) == 3) = false := beq_eq_false_iff_ne.mpr c29
          have c29b1 : (((rd_T39 t260 x5_2).f0) != 3) = true := bne_iff_ne.mpr c29
          by_cases c33 : ((rd_T39 t260 x5_2).f0) = 0
          rotate_left
          · rw [if_neg c33] at H
            have c33b0 : (((rd_T39 t260 x5_2).f0) == 0) = false := beq_eq_false_iff_ne.mpr c33
            have c33b1 : (((rd_T39 t260 x5_2).f0) != 0) = true := bne_iff_ne.mpr c33
            have H' := Aside0.mk H
            clear H
            obtain ⟨Ao36, co36, eo36⟩ := Kd.R_slice HO_3.out
            subst eo36
            have p264 : 0 ≤ (x5_2 : Int) := of_decide_eq_true (by first | (with_reducible assumption) | assumption)
            have q264 : x5_2 < (t260.length : Int) := of_decide_eq_true (by first | (with_reducible assumption) | assumption)
            obtain ⟨ad264, A264_1, c264_1, e264, hx264_0, hx264_1, hx264_2, hx264_3, hl264_1, hi264_1⟩ := at_T39 (Kd.R_reads' HO_3.out).2.2 x5_2 p264 q264
            cases e264
            obtain ⟨ce264, hce264, hMe264, hcc264⟩ := Kd.R_get HO_3.out z39 x5_2 p264 (by first | exact q264 | exact of_decide_eq_true (by first | (with_reducible assumption) | assumption) | (have e_ := (Kd.R_reads' HO_3.out).1; omega))
            obtain ⟨ve264_1, rfl, ge264_1⟩ := k39_openM hMe264
            have hv264_1 := hcc264 1 _ rfl
            rw [add_field _ _ 1 (by omega)] at hv264_1
            replace hv264_1 := Option.some.inj (hv264_1.symm.trans hx264_1)
            rw [hv264_1] at ge264_1
            have HL264_1 := Aside0.mk (show Kd.R k42 42 _ _ _ _ ((rd_T39 t260 x5_2).f1) from ge264_1)
            clear hv264_1 ge264_1
            clear hcc264 hce264
            have HR264_1 := Aside0.mk hi264_1
            have HC264_1 := Aside0.mk hl264_1
            clear hi264_1 hl264_1
            replace p264 := eq_true p264
            replace q264 := eq_true q264
            have p269 : 0 ≤ (x5_2 : Int) := of_decide_eq_true (by first | (with_reducible assumption) | assumption)
            have q269 : x5_2 < (t260.length : Int) := of_decide_eq_true (by first | (with_reducible assumption) | assumption)
            obtain ⟨ad269, A269_1, c269_1, e269, hx269_0, hx269_1, hx269_2, hx269_3, hl269_1, hi269_1⟩ := at_T39 (Kd.R_reads' HO_3.out).2.2 x5_2 p269 q269
            obtain rfl : ad264 = ad269 := (by injection e269)
            obtain ⟨ce269, hce269, hMe269, hcc269⟩ := Kd.R_get HO_3.out z39 x5_2 p269 (by first | exact q269 | exact of_decide_eq_true (by first | (with_reducible assumption) | assumption) | (have e_ := (Kd.R_reads' HO_3.out).1; omega))
            obtain ⟨ve269_1, rfl, ge269_1⟩ := k39_openM hMe269
            have hv269_1 := hcc269 1 _ rfl
            rw [add_field _ _ 1 (by omega)] at hv269_1
            replace hv269_1 := Option.some.inj (hv269_1.symm.trans hx269_1)
            rw [hv269_1] at ge269_1
            have HL269_1 := Aside0.mk (show Kd.R k42 42 _ _ _ _ ((rd_T39 t260 x5_2).f1) from ge269_1)
            clear hv269_1 ge269_1
            clear hcc269 hce269
            have HR269_1 := Aside0.mk hi269_1
            have HC269_1 := Aside0.mk hl269_1
            clear hi269_1 hl269_1
            replace p269 := eq_true p269
            replace q269 := eq_true q269
            have ea_ := Option.some.inj (hx264_1.symm.trans hx269_1)
            injection ea_ with ea_ en_ ec_
            subst ea_
            subst ec_
            clear en_
            have p272 : 0 ≤ (x5_2 : Int) := of_decide_eq_true (by first | (with_reducible assumption) | assumption)
            have q272 : x5_2 < (t260.length : Int) := of_decide_eq_true (by first | (with_reducible assumption) | assumption)
            obtain ⟨ad272, A272_1, c272_1, e272, hx272_0, hx272_1, hx272_2, hx272_3, hl272_1, hi272_1⟩ := at_T39 (Kd.R_reads' HO_3.out).2.2 x5_2 p272 q272
            obtain rfl : ad264 = ad272 := (by injection e272)
            obtain ⟨ce272, hce272, hMe272, hcc272⟩ := Kd.R_get HO_3.out z39 x5_2 p272 (by first | exact q272 | exact of_decide_eq_true (by first | (with_reducible assumption) | assumption) | (have e_ := (Kd.R_reads' HO_3.out).1; omega))
            obtain ⟨ve272_1, rfl, ge272_1⟩ := k39_openM hMe272
            have hv272_1 := hcc272 1 _ rfl
            rw [add_field _ _ 1 (by omega)] at hv272_1
            replace hv272_1 := Option.some.inj (hv272_1.symm.trans hx272_1)
            rw [hv272_1] at ge272_1
            have HL272_1 := Aside0.mk (show Kd.R k42 42 _ _ _ _ ((rd_T39 t260 x5_2).f1) from ge272_1)
            clear hv272_1 ge272_1
            clear hcc272 hce272
            have HR272_1 := Aside0.mk hi272_1
            have HC272_1 := Aside0.mk hl272_1
            clear hi272_1 hl272_1
            replace p272 := eq_true p272
            replace q272 := eq_true q272
            have ea_ := Option.some.inj (hx264_1.symm.trans hx272_1)
            injection ea_ with ea_ en_ ec_
            subst ea_
            subst ec_
            clear en_
            go_wp2
            go_roundg k2
            case measure => have := HJ3.out; have := HK2.out; omega
            case rel => exact ⟨(wrap64 (x5_2 + 1)), (by first | rfl | (simp; done) | (simp [*]; done)), H', ⟨by have := HJ3.out; have := HK2.out; omega⟩, ⟨by (with_reducible repeat (first | apply Kd.R_alloc | apply Kd.R_drewN | apply Kd.R_drew)); exact HO_3.out⟩, ⟨by (with_reducible repeat (first | refine blk_drewN ?_ _ | refine blk_drew ?_ | refine blk_alloc ?_ _)); exact BK256.out⟩, ⟨by repeat (first | (with_reducible first | exact HB.out | apply below_alloc | apply pw_below_drewN | apply below_drew1 | refine below_set ?_ GE256.out) | exact HB.out)⟩⟩
          rw [if_pos c33] at H
          have c33b0 : (((rd_T39 t260 x5_2).f0) == 0) = true := beq_iff_eq.mpr c33
          have c33b1 : (((rd_T39 t260 x5_2).f0) != 0) = false := bne_eq_false_iff_eq.mpr c33
          clear c33
          by_cases c34 : x5_2 < (wrap64 ((t260.length : Int) - 1))
          · rw [if_pos c34] at H
            exact absurd H (by simp)
          rw [if_neg c34] at H
          have c34b0 : decide (x5_2 < (wrap64 ((t260.length : Int) - 1))) = false := decide_eq_false c34
          clear c34
          have H' := Aside0.mk H
          clear H
          obtain ⟨Ao35, co35, eo35⟩ := Kd.R_slice HO_3.out
          subst eo35
          have p264 : 0 ≤ (x5_2 : Int) := of_decide_eq_true (by first | (with_reducible assumption) | assumption)
          have q264 : x5_2 < (t260.length : Int) := of_decide_eq_true (by first | (with_reducible assumption) | assumption)
          obtain ⟨ad264, A264_1, c264_1, e264, hx264_0, hx264_1, hx264_2, hx264_3, hl264_1, hi264_1⟩ := at_T39 (Kd.R_reads' HO_3.out).2.2 x5_2 p264 q264
          cases e264
          obtain ⟨ce264, hce264, hMe264, hcc264⟩ := Kd.R_get HO_3.out z39 x5_2 p264 (by first | exact q264 | exact of_decide_eq_true (by first | (with_reducible assumption) | assumption) | (have e_ := (Kd.R_reads' HO_3.out).1; omega))
          obtain ⟨ve264_1, rfl, ge264_1⟩ := k39_openM hMe264
          have hv264_1 := hcc264 1 _ rfl
          rw [add_field _ _ 1 (by omega)] at hv264_1
          replace hv264_1 := Option.some.inj (hv264_1.symm.trans hx264_1)
          rw [hv264_1] at ge264_1
          have HL264_1 := Aside0.mk (show Kd.R k42 42 _ _ _ _ ((rd_T39 t260 x5_2).f1) from ge264_1)
          clear hv264_1 ge264_1
          clear hcc264 hce264
          have HR264_1 := Aside0.mk hi264_1
          have HC264_1 := Aside0.mk hl264_1
          clear hi264_1 hl264_1
          replace p264 := eq_true p264
          replace q264 := eq_true q264
          have p269 : 0 ≤ (x5_2 : Int) := of_decide_eq_true (by first | (with_reducible assumption) | assumption)
          have q269 : x5_2 < (t260.length : Int) := of_decide_eq_true (by first | (with_reducible assumption) | assumption)
          obtain ⟨ad269, A269_1, c269_1, e269, hx269_0, hx269_1, hx269_2, hx269_3, hl269_1, hi269_1⟩ := at_T39 (Kd.R_reads' HO_3.out).2.2 x5_2 p269 q269
          obtain rfl : ad264 = ad269 := (by injection e269)
          obtain ⟨ce269, hce269, hMe269, hcc269⟩ := Kd.R_get HO_3.out z39 x5_2 p269 (by first | exact q269 | exact of_decide_eq_true (by first | (with_reducible assumption) | assumption) | (have e_ := (Kd.R_reads' HO_3.out).1; omega))
          obtain ⟨ve269_1, rfl, ge269_1⟩ := k39_openM hMe269
          have hv269_1 := hcc269 1 _ rfl
          rw [add_field _ _ 1 (by omega)] at hv269_1
          replace hv269_1 := Option.some.inj (hv269_1.symm.trans hx269_1)
          rw [hv269_1] at ge269_1
          have HL269_1 := Aside0.mk (show Kd.R k42 42 _ _ _ _ ((rd_T39 t260 x5_2).f1) from ge269_1)
          clear hv269_1 ge269_1
          clear hcc269 hce269
          have HR269_1 := Aside0.mk hi269_1
          have HC269_1 := Aside0.mk hl269_1
          clear hi269_1 hl269_1
          replace p269 := eq_true p269
          replace q269 := eq_true q269
          have ea_ := Option.some.inj (hx264_1.symm.trans hx269_1)
          injection ea_ with ea_ en_ ec_
          subst ea_
          subst ec_
          clear en_
          have p272 : 0 ≤ (x5_2 : Int) := of_decide_eq_true (by first | (with_reducible assumption) | assumption)
          have q272 : x5_2 < (t260.length : Int) := of_decide_eq_true (by first | (with_reducible assumption) | assumption)
          obtain ⟨ad272, A272_1, c272_1, e272, hx272_0, hx272_1, hx272_2, hx272_3, hl272_1, hi272_1⟩ := at_T39 (Kd.R_reads' HO_3.out).2.2 x5_2 p272 q272
          obtain rfl : ad264 = ad272 := (by injection e272)
          obtain ⟨ce272, hce272, hMe272, hcc272⟩ := Kd.R_get HO_3.out z39 x5_2 p272 (by first | exact q272 | exact of_decide_eq_true (by first | (with_reducible assumption) | assumption) | (have e_ := (Kd.R_reads' HO_3.out).1; omega))
          obtain ⟨ve272_1, rfl, ge272_1⟩ := k39_openM hMe272
          have hv272_1 := hcc272 1 _ rfl
          rw [add_field _ _ 1 (by omega)] at hv272_1
          replace hv272_1 := Option.some.inj (hv272_1.symm.trans hx272_1)
          rw [hv272_1] at ge272_1
          have HL272_1 := Aside0.mk (show Kd.R k42 42 _ _ _ _ ((rd_T39 t260 x5_2).f1) from ge272_1)
          clear hv272_1 ge272_1
          clear hcc272 hce272
          have HR272_1 := Aside0.mk hi272_1
          have HC272_1 := Aside0.mk hl272_1
          clear hi272_1 hl272_1
          replace p272 := eq_true p272
          replace q272 := eq_true q272
          have ea_ := Option.some.inj (hx264_1.symm.trans hx272_1)
          injection ea_ with ea_ en_ ec_
          subst ea_
          subst ec_
          clear en_
          go_wp2
          go_roundg k2
          case measure => have := HJ3.out; have := HK2.out; omega
          case rel => exact ⟨(wrap64 (x5_2 + 1)), (by first | rfl | (simp; done) | (simp [*]; done)), H', ⟨by have := HJ3.out; have := HK2.out; omega⟩, ⟨by (with_reducible repeat (first | apply Kd.R_alloc | apply Kd.R_drewN | apply Kd.R_drew)); exact HO_3.out⟩, ⟨by (with_reducible repeat (first | refine blk_drewN ?_ _ | refine blk_drew ?_ | refine blk_alloc ?_ _)); exact BK256.out⟩, ⟨by repeat (first | (with_reducible first | exact HB.out | apply below_alloc | apply pw_below_drewN | apply below_drew1 | refine below_set ?_ GE256.out) | exact HB.out)⟩⟩

-- NOT PRINTED: function 6 (ductuslaw19_NfaJoins)

end Go.Proofs.Ytbbplchdgedhcaa.P
namespace Go.Proofs.Ytbbplchdgedhcaa.P
open Go.RowKit Go.Proofs.YtbbplchdgedhcaaW.PrintWords Go.Proofs.YtbbplchdgedhcaaW.PrintLast
set_option linter.unusedVariables false

theorem wrap_id {x : Int} (h0 : -9223372036854775808 ≤ x) (h1 : x ≤ 9223372036854775807) : wrap64 x = x := by
  unfold wrap64
  omega
theorem wrap_succ (i : Nat) (h : i < 9223372036854775807) : wrap64 ((i : Int) + 1) = ((i + 1 : Nat) : Int) := by
  rw [wrap_id (by omega) (by omega)]
  omega
theorem more {α : Type} {g : Nat → Option α} (h : ∀ k, LeO (g k) (g (k + 1))) (k k' : Nat) (hk : k ≤ k') (r : α) (hr : g k = some r) : g k' = some r := at_rounds h hk hr
end Go.Proofs.Ytbbplchdgedhcaa.P
namespace Go.Proofs.Ytbbplchdgedhcaa.P
open Go.RowKit Go.Proofs.YtbbplchdgedhcaaW.PrintWords Go.Proofs.YtbbplchdgedhcaaW.PrintLast
set_option linter.unusedVariables false

theorem ev_step {α β : Type} {f : Nat → Option α} {g : Nat → Option β} {a : α} {r : β} (H : Ev f a) (h : ∀ k, f k = some a → g (k + 1) = some r) : Ev g r := by
  obtain ⟨K, H⟩ := H
  refine ⟨K + 1, fun k hk => ?_⟩
  obtain ⟨k, rfl⟩ : ∃ m, k = m + 1 := ⟨k - 1, by omega⟩
  exact h k (H k (by omega))
theorem ev_step2 {α β γ : Type} {f : Nat → Option α} {f2 : Nat → Option γ} {g : Nat → Option β} {a : α} {b : γ} {r : β} (H : Ev f a) (H2 : Ev f2 b) (h : ∀ k, f k = some a → f2 k = some b → g (k + 1) = some r) : Ev g r := by
  obtain ⟨K, H⟩ := H
  obtain ⟨K2, H2⟩ := H2
  refine ⟨K + K2 + 1, fun k hk => ?_⟩
  obtain ⟨k, rfl⟩ : ∃ m, k = m + 1 := ⟨k - 1, by omega⟩
  exact h k (H k (by omega)) (H2 k (by omega))
theorem ev_one {β : Type} {g : Nat → Option β} {r : β} (h : ∀ k, g (k + 1) = some r) : Ev g r := ⟨1, fun k hk => by
  obtain ⟨k, rfl⟩ : ∃ m, k = m + 1 := ⟨k - 1, by omega⟩
  exact h k⟩
theorem ev_now {β : Type} {g : Nat → Option β} {r : β} (h : ∀ k, g k = some r) : Ev g r := ⟨0, fun k _ => h k⟩
theorem ev_same {α β : Type} {f : Nat → Option α} {g : Nat → Option β} {a : α} {r : β} (H : Ev f a) (h : ∀ k, f k = some a → g k = some r) : Ev g r := by
  obtain ⟨K, H⟩ := H
  exact ⟨K, fun k hk => h k (H k hk)⟩
theorem ev_same2 {α β γ : Type} {f : Nat → Option α} {f2 : Nat → Option γ} {g : Nat → Option β} {a : α} {b : γ} {r : β} (H : Ev f a) (H2 : Ev f2 b) (h : ∀ k, f k = some a → f2 k = some b → g k = some r) : Ev g r := by
  obtain ⟨K, H⟩ := H
  obtain ⟨K2, H2⟩ := H2
  exact ⟨K + K2, fun k hk => h k (H k (by omega)) (H2 k (by omega))⟩
theorem ev_same3 {α β γ δ : Type} {f : Nat → Option α} {f2 : Nat → Option γ} {f3 : Nat → Option δ} {g : Nat → Option β} {a : α} {b : γ} {c : δ} {r : β} (H : Ev f a) (H2 : Ev f2 b) (H3 : Ev f3 c) (h : ∀ k, f k = some a → f2 k = some b → f3 k = some c → g k = some r) : Ev g r := by
  obtain ⟨K, H⟩ := H
  obtain ⟨K2, H2⟩ := H2
  obtain ⟨K3, H3⟩ := H3
  exact ⟨K + K2 + K3, fun k hk => h k (H k (by omega)) (H2 k (by omega)) (H3 k (by omega))⟩
end Go.Proofs.Ytbbplchdgedhcaa.P
namespace Go.Proofs.Ytbbplchdgedhcaa.P
open Go.RowKit Go.Proofs.YtbbplchdgedhcaaW.PrintWords Go.Proofs.YtbbplchdgedhcaaW.PrintLast
set_option linter.unusedVariables false
set_option linter.unusedSimpArgs false

abbrev TNode : Type := S25
abbrev TRange : Type := S42
def i64b (x : Int) : Prop := -9223372036854775808 ≤ x ∧ x ≤ 9223372036854775807
/-- A tree that can lie in memory. -/
inductive WfN : TNode → Prop
  | mk (x : TNode) (h0 : i64b x.f0) (h1 : ∀ r ∈ x.f1, i64b r.f0 ∧ i64b r.f1) (l1 : x.f1.length < 8796093022208) (h2 : i64b x.f2) (h3 : i64b x.f3) (l4 : x.f4.length < 2199023255552) (hk : ∀ y ∈ x.f4, WfN y) : WfN x
theorem node_ind {P : TNode → Prop} (h : ∀ x : TNode, (∀ y ∈ x.f4, P y) → P x) (x : TNode) : P x := by
  have key : ∀ n (x : TNode), SizeOf.sizeOf x ≤ n → P x := by
    intro n
    induction n with
    | zero =>
      intro x hx
      exact absurd hx (by cases x; simp)
    | succ n ih =>
      intro x hx
      refine h x fun y hy => ih y ?_
      have h1 := List.sizeOf_lt_of_mem hy
      have h2 : SizeOf.sizeOf x.f4 < SizeOf.sizeOf x := by cases x; simp; omega
      omega
  exact key _ x (Nat.le_refl _)
theorem tn_rd (l : List TNode) (i : Nat) (h : i < l.length) : rd_T25 l (i : Int) = l[i] := by
  unfold rd_T25
  rw [Int.toNat_natCast, List.getD_eq_getElem?_getD, List.getElem?_eq_getElem h, Option.getD_some]
theorem tn_mem (l : List TNode) (i : Nat) (h : i < l.length) : rd_T25 l (i : Int) ∈ l := by
  rw [tn_rd l i h]
  exact List.getElem_mem h
abbrev weightE (k : Nat) (x : TNode) (d : Int) : Option Int := ductusref16_Weight.f k x.f0 x.f1 x.f2 x.f3 x.f4 d
theorem weight_loop (f0 : Int) (f1 : List TRange) (f2 f3 : Int) (l : List TNode) (d B : Int) (hd : 0 ≤ d ∧ d ≤ 100) (hB : 0 ≤ B ∧ B < 8000000000000000000) (hl : l.length < 2199023255552) (hk : ∀ y ∈ l, ∃ W, Ev (fun k => weightE k y (d + 1)) W ∧ 1 ≤ W ∧ W ≤ B) (m : Nat) :
    ∀ (i : Nat) (s : Int), i + m = l.length → 1 ≤ s → s ≤ 9000000000000000000 → ∃ W, Ev (fun k => ductusref16_Weight.l0 k d s (i : Int) f0 f1 f2 f3 l) W ∧ s ≤ W ∧ (W ≤ s ∨ W ≤ 2000 + B) := by
  induction m with
  | zero =>
    intro i s hi h1 h2
    refine ⟨s, ev_one fun k => ?_, Int.le_refl _, .inl (Int.le_refl _)⟩
    simp only [ductusref16_Weight.l0]
    rw [if_neg (by omega)]
  | succ m ih =>
    intro i s hi h1 h2
    by_cases hs : s ≤ 2000
    · obtain ⟨V, hV, hV1, hV2⟩ := hk _ (tn_mem l i (by omega))
      obtain ⟨W, hW, hW1, hW2⟩ := ih (i + 1) (s + V) (by omega) (by omega) (by omega)
      refine ⟨W, ?_, by omega, by omega⟩
      have w1 : wrap64 (d + 1) = d + 1 := wrap_id (by omega) (by omega)
      have c1 : (i : Int) < (l.length : Int) := by omega
      have c2 : (0 : Int) ≤ (i : Int) := by omega
      have w2 : wrap64 (s + V) = s + V := wrap_id (by omega) (by omega)
      have w3 : wrap64 ((i : Int) + 1) = ((i + 1 : Nat) : Int) := wrap_succ i (by omega)
      refine ev_step2 hV hW fun k h1 h2 => ?_
      simp only [ductusref16_Weight.l0]
      rw [if_pos c1, if_pos hs, if_pos c2, w1]
      have h1' : ductusref16_Weight.f k (rd_T25 l (i : Int)).f0 (rd_T25 l (i : Int)).f1 (rd_T25 l (i : Int)).f2 (rd_T25 l (i : Int)).f3 (rd_T25 l (i : Int)).f4 (d + 1) = some V := h1
      rw [h1', Option.bind_some, w2, w3]
      exact h2
    · have c1 : (i : Int) < (l.length : Int) := by omega
      refine ⟨s, ev_one fun k => ?_, Int.le_refl _, .inl (Int.le_refl _)⟩
      simp only [ductusref16_Weight.l0]
      rw [if_pos c1, if_neg hs]
theorem weight_ev (x : TNode) : WfN x → ∀ d : Nat, d ≤ 101 → ∃ W, Ev (fun k => weightE k x (d : Int)) W ∧ 1 ≤ W ∧ W ≤ 8796093025208 + 2000 * (101 - (d : Int)) := by
  induction x using node_ind with
  | h x ih =>
    intro hw d hd
    obtain ⟨_, h0, h1, l1, h2, h3, l4, hk⟩ := hw
    by_cases hd1 : d = 101
    · subst hd1
      refine ⟨3000, ev_one fun k => ?_, by omega, by omega⟩
      simp only [weightE, ductusref16_Weight.f]
      rw [if_pos (by omega)]
    · have w1 : wrap64 (1 + (x.f1.length : Int)) = 1 + (x.f1.length : Int) := wrap_id (by omega) (by omega)
      obtain ⟨W, hW, hW1, hW2⟩ := weight_loop x.f0 x.f1 x.f2 x.f3 x.f4 (d : Int) (8796093025208 + 2000 * (101 - ((d + 1 : Nat) : Int))) (by omega) (by omega) l4 (fun y hy => by
        obtain ⟨W, hW, hW1, hW2⟩ := ih y hy (hk y hy) (d + 1) (by omega)
        exact ⟨W, hW, hW1, hW2⟩) x.f4.length 0 (1 + (x.f1.length : Int)) (by omega) (by omega) (by omega)
      refine ⟨W, ?_, by omega, by omega⟩
      refine ev_step hW fun k h => ?_
      simp only [weightE, ductusref16_Weight.f]
      rw [if_neg (by omega), w1]
      exact h
mutual
def sizeT : TNode → Int
  | ⟨f0, _, f2, f3, f4⟩ => sizesT (multT f0 f2 f3) f4 1
def sizesT (t : Int) : List TNode → Int → Int
  | [], s => s
  | x :: l, s => sizesT t l (mn 1000000 (s + t * sizeT x))
end
theorem mn_le (a b : Int) : mn a b ≤ a ∧ mn a b ≤ b := by unfold mn; split <;> omega
theorem sizes_rng (t : Int) (ht : 1 ≤ t ∧ t ≤ 1000000) : ∀ (l : List TNode), (∀ y ∈ l, 1 ≤ sizeT y ∧ sizeT y ≤ 1000000) → ∀ s, 1 ≤ s → s ≤ 1000000 → s ≤ sizesT t l s ∧ sizesT t l s ≤ 1000000
  | [], _, s, h1, h2 => by simp only [sizesT]; omega
  | y :: l, hy, s, h1, h2 => by
    have h3 := hy y (by simp)
    have h4 : 0 ≤ t * sizeT y := Int.mul_nonneg (by omega) (by omega)
    have h5 := mn_le 1000000 (s + t * sizeT y)
    have h6 : s ≤ mn 1000000 (s + t * sizeT y) := by unfold mn; split <;> omega
    have h7 := sizes_rng t ht l (fun z hz => hy z (by simp [hz])) (mn 1000000 (s + t * sizeT y)) (by omega) (by omega)
    simp only [sizesT]
    omega
theorem size_rng (x : TNode) : 1 ≤ sizeT x ∧ sizeT x ≤ 1000000 := by
  induction x using node_ind with
  | h x ih =>
    obtain ⟨f0, f1, f2, f3, f4⟩ := x
    simp only [sizeT]
    exact sizes_rng _ (multT_le _ _ _) f4 ih 1 (by omega) (by omega)
abbrev sizeE (k : Nat) (x : TNode) : Option Int := ductusref16_Size.f k x.f0 x.f1 x.f2 x.f3 x.f4
theorem sizes_ev (t : Int) (ht : 1 ≤ t ∧ t ≤ 1000000) : ∀ (l : List TNode), (∀ y ∈ l, Ev (fun k => sizeC k y) (sizeT y)) → ∀ s, 1 ≤ s → s ≤ 1000000 → Ev (fun k => sizesC (sizeC k) t l s) (sizesT t l s)
  | [], _, s, h1, h2 => ev_now fun k => by simp only [sizesC, sizesT]
  | y :: l, hy, s, h1, h2 => by
    have h3 := size_rng y
    have h4 : 0 ≤ t * sizeT y := Int.mul_nonneg (by omega) (by omega)
    have h5 : 1 ≤ mn 1000000 (s + t * sizeT y) ∧ mn 1000000 (s + t * sizeT y) ≤ 1000000 := by unfold mn; split <;> omega
    refine ev_same2 (hy y (by simp)) (sizes_ev t ht l (fun z hz => hy z (by simp [hz])) _ h5.1 h5.2) fun k e1 e2 => ?_
    simp only [sizesC, sizesT]
    rw [e1, Option.bind_some, if_pos ⟨h3.1, h3.2, h1, h2⟩]
    exact e2
theorem size_ev (x : TNode) : WfN x → Ev (fun k => sizeE k x) (sizeT x) := by
  have e : (fun k => sizeE k x) = fun k => sizeC k x := by
    funext k
    obtain ⟨f0, f1, f2, f3, f4⟩ := x
    rfl
  rw [e]
  clear e
  induction x using node_ind with
  | h x ih =>
    intro hw
    obtain ⟨_, h0, h1, l1, h2, h3, l4, hk⟩ := hw
    obtain ⟨f0, f1, f2, f3, f4⟩ := x
    refine ev_step (sizes_ev (multT f0 f2 f3) (multT_le _ _ _) f4 (fun y hy => ih y hy (hk y hy)) 1 (by omega) (by omega)) fun k e => ?_
    simp only [sizeC, sizeT]
    rw [if_pos h2.1]
    exact e
end Go.Proofs.Ytbbplchdgedhcaa.P
namespace Go.Proofs.Ytbbplchdgedhcaa.P
open Go.RowKit Go.Proofs.YtbbplchdgedhcaaW.PrintWords Go.Proofs.YtbbplchdgedhcaaW.PrintLast
set_option linter.unusedVariables false
set_option linter.unusedSimpArgs false

abbrev TInst : Type := S39
def repB (f2 f3 : Int) (n : Nat) : Bool := !(decide (n ≠ 1 ∨ f2 < 0 ∨ f2 > 20 ∨ f3 < -1 ∨ f3 > 20 ∨ f3 ≥ 0 ∧ f3 < f2))
mutual
def letB : TNode → Bool
  | ⟨f0, _, f2, f3, f4⟩ => if f0 < 1 ∨ f0 > 7 then false else if f0 = 5 then repB f2 f3 f4.length && letsB f4 else if f0 = 3 ∨ f0 = 4 then letsB f4 else true
def letsB : List TNode → Bool
  | [] => true
  | x :: l => letB x && letsB l
end
mutual
def lenM : TNode → Nat
  | ⟨f0, _, f2, f3, f4⟩ => if f0 = 2 then 1 else if f0 = 6 then 1 else if f0 = 7 then 1 else if f0 = 3 then joinN f4 else if f0 = 4 then orN f4
      else if f0 = 5 then f2.toNat * headN f4 + (if f3 < 0 then headN f4 + 2 else (f3 - f2).toNat * (headN f4 + 1)) else 0
def joinN : List TNode → Nat
  | [] => 0
  | x :: l => lenM x + joinN l
def orN : List TNode → Nat
  | [] => 0
  | x :: l => if l.length = 0 then lenM x else lenM x + 2 + orN l
def headN : List TNode → Nat
  | [] => 0
  | x :: _ => lenM x
end
def timesM (g : Nat → List TInst) (len : Nat) : Nat → Nat → List TInst
  | 0, _ => []
  | n + 1, a => g a ++ timesM g len n (a + len)
def optM (g : Nat → List TInst) (len fin : Nat) : Nat → Nat → List TInst
  | 0, _ => []
  | n + 1, a => ⟨2, [], (a : Int) + 1, (fin : Int)⟩ :: (g (a + 1) ++ optM g len fin n (a + 1 + len))
def starM (g : Nat → List TInst) (len : Nat) (a : Nat) : List TInst := ⟨2, [], (a : Int) + 1, ((a + 2 + len : Nat) : Int)⟩ :: (g (a + 1) ++ [⟨3, [], (a : Int), 0⟩])
mutual
def layM : TNode → Nat → List TInst
  | ⟨f0, f1, f2, f3, f4⟩, a => if f0 = 2 then [⟨1, f1, 0, 0⟩] else if f0 = 6 then [⟨4, [], 0, 0⟩] else if f0 = 7 then [⟨5, [], 0, 0⟩] else if f0 = 3 then joinM f4 a else if f0 = 4 then orM f4 a (a + orN f4)
      else if f0 = 5 then timesM (fun b => headM f4 b) (headN f4) f2.toNat a ++ (if f3 < 0 then starM (fun b => headM f4 b) (headN f4) (a + f2.toNat * headN f4)
        else optM (fun b => headM f4 b) (headN f4) (a + f2.toNat * headN f4 + (f3 - f2).toNat * (headN f4 + 1)) (f3 - f2).toNat (a + f2.toNat * headN f4)) else []
def joinM : List TNode → Nat → List TInst
  | [], _ => []
  | x :: l, a => layM x a ++ joinM l (a + lenM x)
def orM : List TNode → Nat → Nat → List TInst
  | [], _, _ => []
  | x :: l, a, fin => if l.length = 0 then layM x a else ⟨2, [], (a : Int) + 1, ((a + 2 + lenM x : Nat) : Int)⟩ :: (layM x (a + 1) ++ ⟨3, [], (fin : Int), 0⟩ :: orM l (a + 2 + lenM x) fin)
def headM : List TNode → Nat → List TInst
  | [], _ => []
  | x :: _, a => layM x a
end
theorem timesM_len (g : Nat → List TInst) (len : Nat) (hg : ∀ a, (g a).length = len) : ∀ n a, (timesM g len n a).length = n * len
  | 0, _ => by simp [timesM]
  | n + 1, a => by
    rw [timesM, List.length_append, hg, timesM_len g len hg n, Nat.succ_mul]
    omega
theorem optM_len (g : Nat → List TInst) (len fin : Nat) (hg : ∀ a, (g a).length = len) : ∀ n a, (optM g len fin n a).length = n * (len + 1)
  | 0, _ => by simp [optM]
  | n + 1, a => by
    rw [optM, List.length_cons, List.length_append, hg, optM_len g len fin hg n, Nat.succ_mul]
    omega
theorem joinM_len : ∀ (l : List TNode), (∀ y ∈ l, ∀ a, (layM y a).length = lenM y) → ∀ a, (joinM l a).length = joinN l
  | [], _, a => by simp [joinM, joinN]
  | x :: l, h, a => by
    rw [joinM, List.length_append, h x (by simp), joinM_len l (fun y hy => h y (by simp [hy])), joinN]
theorem orM_len : ∀ (l : List TNode), (∀ y ∈ l, ∀ a, (layM y a).length = lenM y) → ∀ a fin, (orM l a fin).length = orN l
  | [], _, a, fin => by simp [orM, orN]
  | x :: l, h, a, fin => by
    rw [orM, orN]
    split
    · exact h x (by simp) a
    · rw [List.length_cons, List.length_append, List.length_cons, h x (by simp), orM_len l (fun y hy => h y (by simp [hy]))]
      omega
theorem headM_len (l : List TNode) (h : ∀ y ∈ l, ∀ a, (layM y a).length = lenM y) (a : Nat) : (headM l a).length = headN l := by
  cases l with
  | nil => simp [headM, headN]
  | cons x l => rw [headM, headN, h x (by simp)]
theorem layM_len (x : TNode) : ∀ a, (layM x a).length = lenM x := by
  induction x using node_ind with
  | h x ih =>
    intro a
    obtain ⟨f0, f1, f2, f3, f4⟩ := x
    rw [layM, lenM]
    have hh : ∀ b, ((fun b => headM f4 b) b).length = headN f4 := fun b => headM_len f4 ih b
    repeat' split
    all_goals first
      | rfl
      | exact joinM_len f4 ih a
      | exact orM_len f4 ih a _
      | rw [List.length_append, timesM_len _ _ hh, starM, List.length_cons, List.length_append, hh, List.length_singleton]
      | rw [List.length_append, timesM_len _ _ hh, optM_len _ _ _ hh]
def sumS : List TNode → Int
  | [] => 0
  | y :: l => sizeT y + sumS l
theorem sizes_exact (t : Int) (ht : 1 ≤ t ∧ t ≤ 1000000) : ∀ (l : List TNode) s, 1 ≤ s → s ≤ 1000000 → sizesT t l s < 1000000 → sizesT t l s = s + t * sumS l ∧ ∀ y ∈ l, sizeT y < 1000000
  | [], s, h1, h2, h => by simp [sizesT, sumS]
  | y :: l, s, h1, h2, h => by
    have h3 := size_rng y
    have h4 : sizeT y ≤ t * sizeT y := by
      have := Int.mul_le_mul_of_nonneg_right ht.1 (show 0 ≤ sizeT y by omega)
      rw [Int.one_mul] at this
      exact this
    have h6 : 1 ≤ mn 1000000 (s + t * sizeT y) ∧ mn 1000000 (s + t * sizeT y) ≤ 1000000 := by unfold mn; split <;> omega
    rw [sizesT] at h
    have h7 := sizes_rng t ht l (fun z _ => size_rng z) _ h6.1 h6.2
    have h8 : mn 1000000 (s + t * sizeT y) = s + t * sizeT y := by
      have : mn 1000000 (s + t * sizeT y) < 1000000 := by omega
      revert this
      unfold mn
      split <;> omega
    have h9 := sizes_exact t ht l _ h6.1 h6.2 h
    have h10 : s + t * sizeT y < 1000000 := by omega
    rw [sizesT, h9.1, h8, sumS, Int.mul_add]
    refine ⟨by omega, fun z hz => ?_⟩
    rcases List.mem_cons.1 hz with rfl | hz
    · omega
    · exact h9.2 z hz
theorem sumS_nn : ∀ l : List TNode, 0 ≤ sumS l
  | [] => by simp [sumS]
  | y :: l => by
    have h1 := size_rng y
    have h2 := sumS_nn l
    rw [sumS]
    omega
theorem joinN_le : ∀ (l : List TNode), (∀ y ∈ l, (lenM y : Int) ≤ 3 * sizeT y - 2) → (joinN l : Int) ≤ 3 * sumS l
  | [], _ => by simp [joinN, sumS]
  | y :: l, h => by
    have h1 := h y (by simp)
    have h2 := joinN_le l (fun z hz => h z (by simp [hz]))
    rw [joinN, sumS]
    omega
theorem orN_le : ∀ (l : List TNode), (∀ y ∈ l, (lenM y : Int) ≤ 3 * sizeT y - 2) → (orN l : Int) ≤ 3 * sumS l
  | [], _ => by simp [orN, sumS]
  | y :: l, h => by
    have h1 := h y (by simp)
    have h2 := orN_le l (fun z hz => h z (by simp [hz]))
    have h3 := sumS_nn l
    rw [orN, sumS]
    split <;> omega
theorem letsB_all : ∀ (l : List TNode), letsB l = true → ∀ y ∈ l, letB y = true
  | [], _, y, hy => by simp at hy
  | x :: l, h, y, hy => by
    rw [letsB, Bool.and_eq_true] at h
    rcases List.mem_cons.1 hy with rfl | hy
    · exact h.1
    · exact letsB_all l h.2 y hy
theorem repB_iff {f2 f3 : Int} {n : Nat} (h : repB f2 f3 n = true) : n = 1 ∧ 0 ≤ f2 ∧ f2 ≤ 20 ∧ -1 ≤ f3 ∧ f3 ≤ 20 ∧ (f3 < 0 ∨ f2 ≤ f3) := by
  simp only [repB, Bool.not_eq_true', decide_eq_false_iff_not] at h
  omega
theorem len_le (x : TNode) : letB x = true → sizeT x < 1000000 → (lenM x : Int) ≤ 3 * sizeT x - 2 := by
  induction x using node_ind with
  | h x ih =>
    intro hl hs
    obtain ⟨f0, f1, f2, f3, f4⟩ := x
    simp only at ih
    rw [letB] at hl
    rw [sizeT] at hs ⊢
    have ht := multT_le f0 f2 f3
    have he := sizes_exact (multT f0 f2 f3) ht f4 1 (by omega) (by omega) hs
    rw [he.1]
    have hn := sumS_nn f4
    have hts : sumS f4 ≤ multT f0 f2 f3 * sumS f4 := by
      have := Int.mul_le_mul_of_nonneg_right ht.1 hn
      rw [Int.one_mul] at this
      exact this
    by_cases c0 : f0 < 1 ∨ f0 > 7
    · rw [if_pos c0] at hl
      cases hl
    rw [if_neg c0] at hl
    rw [lenM]
    by_cases c2 : f0 = 2
    · rw [if_pos c2]
      omega
    rw [if_neg c2]
    by_cases c6 : f0 = 6
    · rw [if_pos c6]
      omega
    rw [if_neg c6]
    by_cases c7 : f0 = 7
    · rw [if_pos c7]
      omega
    rw [if_neg c7]
    by_cases c3 : f0 = 3
    · rw [if_pos c3]
      rw [if_neg (by omega), if_pos (.inl c3)] at hl
      have := joinN_le f4 fun y hy => ih y hy (letsB_all f4 hl y hy) (he.2 y hy)
      omega
    rw [if_neg c3]
    by_cases c4 : f0 = 4
    · rw [if_pos c4]
      rw [if_neg (by omega), if_pos (.inr c4)] at hl
      have := orN_le f4 fun y hy => ih y hy (letsB_all f4 hl y hy) (he.2 y hy)
      omega
    rw [if_neg c4]
    by_cases c5 : f0 = 5
    · rw [if_pos c5]
      rw [if_pos c5, Bool.and_eq_true] at hl
      obtain ⟨r1, r2, r3, r4, r5, r6⟩ := repB_iff hl.1
      obtain ⟨y, rfl⟩ := List.length_eq_one_iff.1 r1
      have hy := ih y (by simp) (letsB_all [y] hl.2 y (by simp)) (he.2 y (by simp))
      have hy2 := size_rng y
      rw [headN]
      have es : sumS [y] = sizeT y := by simp [sumS]
      rw [es]
      obtain ⟨n2, rfl⟩ : ∃ n : Nat, f2 = (n : Int) := ⟨f2.toNat, by omega⟩
      rw [Int.toNat_natCast]
      by_cases c8 : f3 < 0
      · rw [if_pos c8]
        have et : multT f0 (n2 : Int) f3 = ((n2 + 1 : Nat) : Int) := by
          unfold multT mn mx
          rw [if_pos c5, if_pos c8]
          repeat' split
          all_goals omega
        rw [et]
        have m1 : ((n2 + 1 : Nat) : Int) * (lenM y : Int) ≤ ((n2 + 1 : Nat) : Int) * (3 * sizeT y - 2) := Int.mul_le_mul_of_nonneg_left hy (by omega)
        have m2 : ((n2 + 1 : Nat) : Int) * (3 * sizeT y - 2) = 3 * (((n2 + 1 : Nat) : Int) * sizeT y) - 2 * ((n2 + 1 : Nat) : Int) := by
          rw [Int.mul_sub, Int.mul_left_comm, Int.mul_comm _ 2]
        have m3 : ((n2 + 1 : Nat) : Int) * (lenM y : Int) = ((n2 * lenM y + lenM y : Nat) : Int) := by
          rw [← Int.natCast_mul, Nat.succ_mul]
        omega
      · rw [if_neg c8]
        obtain ⟨n3, rfl⟩ : ∃ n : Nat, f3 = (n : Int) := ⟨f3.toNat, by omega⟩
        obtain ⟨d, rfl⟩ : ∃ d, n3 = n2 + d := ⟨n3 - n2, by omega⟩
        have e3 : (((n2 + d : Nat) : Int) - (n2 : Int)).toNat = d := by omega
        rw [e3]
        by_cases c9 : n2 + d = 0
        · have z : n2 * lenM y + d * (lenM y + 1) = 0 := by
            rw [show n2 = 0 by omega, show d = 0 by omega, Nat.zero_mul, Nat.zero_mul]
          rw [z]
          rw [es] at hts
          omega
        have et : multT f0 (n2 : Int) ((n2 + d : Nat) : Int) = ((n2 + d : Nat) : Int) := by
          unfold multT mn mx
          rw [if_pos c5, if_neg c8]
          repeat' split
          all_goals omega
        rw [et]
        have m1 : ((n2 + d : Nat) : Int) * (lenM y : Int) ≤ ((n2 + d : Nat) : Int) * (3 * sizeT y - 2) := Int.mul_le_mul_of_nonneg_left hy (by omega)
        have m2 : ((n2 + d : Nat) : Int) * (3 * sizeT y - 2) = 3 * (((n2 + d : Nat) : Int) * sizeT y) - 2 * ((n2 + d : Nat) : Int) := by
          rw [Int.mul_sub, Int.mul_left_comm, Int.mul_comm _ 2]
        have m3 : ((n2 + d : Nat) : Int) * (lenM y : Int) = ((n2 * lenM y + d * lenM y : Nat) : Int) := by
          rw [← Int.natCast_mul, Nat.add_mul]
        have m4 : d * (lenM y + 1) = d * lenM y + d := by rw [Nat.mul_add, Nat.mul_one]
        rw [m4]
        omega
    rw [if_neg c5]
    omega
end Go.Proofs.Ytbbplchdgedhcaa.P
