/- Texts of this claim put together by a program of its own (SRightN, SAlive19, Px11, Px12, PLib, PEv, PSameI), what the law does not use left out: each part's statements bear their own conditions. -/
import Derived.Lib.SliceRun
import Derived.WalkKit
import Derived.WalkSpells
import Derived.ProofKit
import Derived.Laws.EntriesVeiled
import Derived.Test.YtbbplchdgedhcaaC10
import Derived.Test.YtbbplchdgedhcaaC12
import Derived.Test.YtbbplchdgedhcaaC11
namespace Go.Proofs.Ytbbplchdgedhcaa.P
open Go.RowKit Go.Proofs.YtbbplchdgedhcaaW.PrintWords Go.Proofs.YtbbplchdgedhcaaW.PrintLast
set_option linter.unusedVariables false
set_option linter.unusedSimpArgs false

/-- Is a place within a program? -/
def inI (n x : Int) : Bool := decide (0 ≤ x ∧ x < n)
/-- May an instruction not be? -/
def badV (n f0 f2 f3 : Int) : Bool :=
  if f0 = 0 ∨ f0 = 1 ∨ f0 = 4 ∨ f0 = 5 then false
  else if f0 = 2 then !(inI n f2) || !(inI n f3)
  else if f0 = 3 then !(inI n f2) else true
def badI (n : Int) (x : S39) : Bool := badV n x.f0 x.f2 x.f3
def rightI (l : List S39) : Bool := if l.length = 0 then false else if (l.length : Int) > 1000 then false else if (rd_T39 l ((l.length : Int) - 1)).f0 ≠ 0 then false else !(l.any (badI (l.length : Int)))
def nfa_Right.f (l0 : List S39) : Option Bool := some (rightI l0)
set_option maxHeartbeats 1000000 in
theorem in_calls (n x : Int) (c : Nat) (w : World) (hc : w.cell? ⟨c, 0, none⟩ = some (.int .i64 n)) :
    Calls Try.prog 25 #[.int .i64 x, .pointer (some ⟨c, 0, none⟩)] w fun e w' => e = .returned (.bool (inI n x)) ∧ w' = w := by
  by_cases h0 : x ≥ 0
  · have k0 : decide (x ≥ 0) = true := decide_eq_true h0
    have k0' : decide (0 ≤ x) = true := decide_eq_true h0
    have hi : inI n x = decide (x < n) := by unfold inI; simp [h0]
    rw [hi]
    clear hi h0
    go_enter Try.func25, Try.ntmps25
    go_wp2
    go_ret
    exact ⟨rfl, rfl⟩
  · have k0 : decide (x ≥ 0) = false := decide_eq_false h0
    have k0' : decide (0 ≤ x) = false := decide_eq_false h0
    have hi : inI n x = false := by unfold inI; exact decide_eq_false (by omega)
    rw [hi]
    clear hi h0
    go_enter Try.func25, Try.ntmps25
    go_wp2
    go_ret
    exact ⟨rfl, rfl⟩
set_option maxHeartbeats 4000000 in
theorem bad_calls (n : Int) (c d : Nat) (f0 : Int) (A1 : Option Addr) (n1 c1 : Nat) (f2 f3 : Int) (w : World) (hc : w.cell? ⟨c, 0, none⟩ = some (.int .i64 n)) (hd : w.cell? ⟨d, 0, none⟩ = some (.func (.func 25) #[] #[.pointer (some ⟨c, 0, none⟩)])) :
    Calls Try.prog 27 #[.agg #[.int .i64 f0, .slice A1 n1 c1, .int .i64 f2, .int .i64 f3], .pointer (some ⟨d, 0, none⟩)] w fun e w' => e = .returned (.bool (badV n f0 f2 f3)) ∧ Below w.heap.size w w' := by
  have hu := Try.underlying39
  have hw2 := fun W y (h : W.cell? ⟨c, 0, none⟩ = some (.int .i64 n)) => in_calls n y c W h
  have HC := Aside0.mk hc
  have HW := Aside0.mk hw2
  have hd2 : ∀ o, (w.alloc o).cell? ⟨d, 0, none⟩ = some (.func (.func 25) #[] #[.pointer (some ⟨c, 0, none⟩)]) := fun o => cell_later (below_alloc (Below.refl _ _) o) hd
  clear hw2 hc hd
  unfold badV
  by_cases a0 : f0 = 0 ∨ f0 = 1 ∨ f0 = 4 ∨ f0 = 5
  · rw [if_pos a0]
    rcases a0 with rfl | rfl | rfl | rfl
    all_goals
      go_enter Try.func27, Try.ntmps27
      go_wp2
      go_ret
      exact ⟨rfl, below_alloc (Below.refl _ _) _⟩
  rw [if_neg a0]
  by_cases a2 : f0 = 2
  · rw [if_pos a2]
    subst a2
    clear a0
    have hd3 := hd2 (.cells #[.int .i64 2, .slice A1 n1 c1, .int .i64 f2, .int .i64 f3] 39)
    clear hd2
    cases hb : inI n f2 with
    | true =>
      go_enter Try.func27, Try.ntmps27
      go_wp2_with (refine (HW.out _ _ (cell_later (below_alloc (Below.refl _ _) _) HC.out)).mono ?_; rintro e w' ⟨rfl, rfl⟩; try rw [hb])
      go_ret
      exact ⟨by simp, below_alloc (Below.refl _ _) _⟩
    | false =>
      go_enter Try.func27, Try.ntmps27
      go_wp2_with (refine (HW.out _ _ (cell_later (below_alloc (Below.refl _ _) _) HC.out)).mono ?_; rintro e w' ⟨rfl, rfl⟩; try rw [hb])
      go_ret
      exact ⟨by simp, below_alloc (Below.refl _ _) _⟩
  rw [if_neg a2]
  by_cases a3 : f0 = 3
  · rw [if_pos a3]
    subst a3
    clear a0 a2
    have hd3 := hd2 (.cells #[.int .i64 3, .slice A1 n1 c1, .int .i64 f2, .int .i64 f3] 39)
    clear hd2
    go_enter Try.func27, Try.ntmps27
    go_wp2_with (refine (HW.out _ _ (cell_later (below_alloc (Below.refl _ _) _) HC.out)).mono ?_; rintro e w' ⟨rfl, rfl⟩)
    go_ret
    exact ⟨rfl, below_alloc (Below.refl _ _) _⟩
  · rw [if_neg a3]
    have k0 : (f0 == 0) = false := beq_eq_false_iff_ne.mpr (by omega)
    have k1 : (f0 == 1) = false := beq_eq_false_iff_ne.mpr (by omega)
    have k2 : (f0 == 2) = false := beq_eq_false_iff_ne.mpr (by omega)
    have k3 : (f0 == 3) = false := beq_eq_false_iff_ne.mpr (by omega)
    have k4 : (f0 == 4) = false := beq_eq_false_iff_ne.mpr (by omega)
    have k5 : (f0 == 5) = false := beq_eq_false_iff_ne.mpr (by omega)
    clear a0 a2 a3
    go_enter Try.func27, Try.ntmps27
    go_wp2
    go_ret
    exact ⟨rfl, below_alloc (Below.refl _ _) _⟩
theorem si_drop {α : Type} (z : α) (xs : List α) (i : Nat) (h : i < xs.length) : xs.drop i = xs.getD i z :: xs.drop (i + 1) := by
  rw [List.getD_eq_getElem?_getD, List.getElem?_eq_getElem h, Option.getD_some]
  exact List.drop_eq_getElem_cons h
theorem si_wrap (i : Nat) (h : i < 9223372036854775807) : wrap64 ((i : Int) + 1) = ((i + 1 : Nat) : Int) := by
  unfold wrap64
  omega
set_option maxHeartbeats 4000000 in
set_option maxRecDepth 100000 in
theorem index_inst (g : Nat) (caps : Array Value) (t : S39 → Bool) (A0 : Option Addr) (c0 : Nat) (l0 : List S39) (w : World) (hr0 : k39.C w A0 l0.length l0)
    (ht : ∀ (x : S39) (A1 : Option Addr) (c1 : Nat) (W : World), Below w.heap.size w W → Calls Try.prog g (#[.agg #[.int .i64 x.f0, .slice A1 x.f1.length c1, .int .i64 x.f2, .int .i64 x.f3]] ++ caps) W fun e w' => e = .returned (.bool (t x)) ∧ Below W.heap.size W w')
    (hgo : ∀ (v : Value) (W : World), (callFunc g (#[v] ++ caps)).run Try.prog W = .ok (.enter g (#[v] ++ caps)) W) :
    Calls Try.prog 36 #[.slice A0 l0.length c0, .func (.func g) #[] caps] w fun e w' => (∃ i : Int, e = .returned (.int .i64 i) ∧ decide (i ≥ 0) = l0.any t) ∧ Below w.heap.size w w' := by
  have HL := Aside0.mk (Kd.C_max hr0)
  have HR0 := Aside0.mk hr0
  have HT := Aside0.mk ht
  obtain ⟨r, hr⟩ : ∃ r, l0.any t = r := ⟨_, rfl⟩
  rw [hr]
  have HH := Aside0.mk hr
  clear hr0 ht hr
  go_enter Try.func36, Try.ntmps36
  go_wp2
  go_loopw [8] (fun v wr => ∃ i : Nat, v = .int .i64 (i : Int) ∧ i ≤ l0.length ∧ Below w.heap.size w wr ∧ (l0.drop i).any t = r) (fun v wr => l0.length - (intOf v).toNat)
  case atStart => exact ⟨0, rfl, by omega, Below.refl _ _, by simpa using HH.out⟩
  case round =>
    obtain ⟨i, rfl, hi, hB, hidx⟩ := hrel
    have HB := Aside0.mk hB
    by_cases h : i < l0.length
    · obtain ⟨ad, A1, c1, e, h0, h1, h2, h3, q1, q2⟩ := at_T39 (Kd.C_below HR0.out hB) (i : Int) (by omega) (by omega)
      cases e
      rw [Int.toNat_natCast] at h0 h1 h2 h3
      rw [si_drop z39 l0 i h] at hidx
      have hx : rd_T39 l0 (i : Int) = l0.getD i z39 := rfl
      rw [hx] at h0 h1 h2 h3 q1 q2
      obtain ⟨x, hxx⟩ : ∃ x, l0.getD i z39 = x := ⟨_, rfl⟩
      rw [hxx] at h0 h1 h2 h3 q1 q2 hidx
      simp only [List.any_cons] at hidx
      have hcall := HT.out x A1 c1 wr hB
      have p1 : decide ((i : Int) < (l0.length : Int)) = true := decide_eq_true (by omega)
      have p2 : ((0 : Int) ≤ (i : Int)) = True := eq_true (by omega)
      have p3 : ((i : Int) < (l0.length : Int)) = True := eq_true (by omega)
      have hgo1 := hgo (.agg #[.int .i64 x.f0, .slice A1 x.f1.length c1, .int .i64 x.f2, .int .i64 x.f3])
      obtain ⟨b, hb⟩ : ∃ b, t x = b := ⟨_, rfl⟩
      rw [hb] at hcall hidx
      have H := Aside0.mk hidx
      clear hidx hB hx hxx hb q1 q2
      cases b with
      | true =>
        go_wp2_with (refine hcall.mono ?_; rintro e w' ⟨rfl, hb1⟩; have HB1 := Aside0.mk hb1; clear hb1)
        go_ret
        refine ⟨⟨_, rfl, ?_⟩, below_step HB.out HB1.out⟩
        have := H.out
        rw [Bool.true_or] at this
        rw [← this]
        exact decide_eq_true (by omega)
      | false =>
        go_wp2_with (refine hcall.mono ?_; rintro e w' ⟨rfl, hb1⟩; have HB1 := Aside0.mk hb1; clear hb1)
        have hw := si_wrap i (by have := HL.out; omega)
        refine ⟨⟨i + 1, by rw [hw], by omega, below_step HB.out HB1.out, ?_⟩, ?_⟩
        · have := H.out
          rw [Bool.false_or] at this
          exact this
        · rw [hw]
          show l0.length - (((i + 1 : Nat) : Int)).toNat < l0.length - ((i : Int)).toNat
          clear hw
          omega
    · have hn : i = l0.length := by omega
      subst hn
      have p1 : decide ((l0.length : Int) < (l0.length : Int)) = false := decide_eq_false (by omega)
      have H := Aside0.mk hidx
      clear hidx hB
      go_wp2
      go_ret
      refine ⟨⟨_, rfl, ?_⟩, HB.out⟩
      have := H.out
      rw [List.drop_length] at this
      rw [← this]
      exact decide_eq_false (by omega)
set_option maxHeartbeats 4000000 in
theorem contains_inst (g : Nat) (caps : Array Value) (t : S39 → Bool) (A0 : Option Addr) (c0 : Nat) (l0 : List S39) (w : World) (hr0 : k39.C w A0 l0.length l0)
    (ht : ∀ (x : S39) (A1 : Option Addr) (c1 : Nat) (W : World), Below w.heap.size w W → Calls Try.prog g (#[.agg #[.int .i64 x.f0, .slice A1 x.f1.length c1, .int .i64 x.f2, .int .i64 x.f3]] ++ caps) W fun e w' => e = .returned (.bool (t x)) ∧ Below W.heap.size W w')
    (hgo : ∀ (v : Value) (W : World), (callFunc g (#[v] ++ caps)).run Try.prog W = .ok (.enter g (#[v] ++ caps)) W) :
    Calls Try.prog 26 #[.slice A0 l0.length c0, .func (.func g) #[] caps] w fun e w' => e = .returned (.bool (l0.any t)) ∧ Below w.heap.size w w' := by
  have hct := index_inst g caps t A0 c0 l0 w hr0 ht hgo
  clear hr0 ht hgo
  go_enter Try.func26, Try.ntmps26
  go_wp2_with (go_at_call 36; (with_reducible refine hct.mono ?_); rintro e w' ⟨⟨i, rfl, hi⟩, hb⟩; have HB := Aside0.mk hb; have HI := Aside0.mk hi; clear hb hi)
  go_ret
  exact ⟨by rw [← HI.out]; rfl, HB.out⟩
theorem alloc2_cell (w : World) (o : Obj) (cs : Array Value) (t : TypeId) : ((w.alloc o).alloc (.cells cs t)).cell? ⟨w.heap.size + 1, 0, none⟩ = cs[0]? := by
  have h := blk_cell (heap_alloc_new (w.alloc o) (.cells cs t)) 0
  rwa [show (w.alloc o).heap.size = w.heap.size + 1 from by simp] at h
set_option maxHeartbeats 4000000 in
theorem nfa_Right.calls (A0 : Option Addr) (c0 : Nat) (l0 : List S39) (r : Bool) (w : World) (hr0 : Kd.C k39 w A0 l0.length l0) (hc0 : l0.length ≤ c0) (h : nfa_Right.f l0 = some r) :
    Calls Try.prog 14 #[.slice A0 l0.length c0] w fun e w' => e = .returned (.bool r) ∧ Below w.heap.size w w' := by
  obtain rfl := Option.some.inj h
  clear h hc0
  have HL := Aside0.mk (Kd.C_max hr0)
  have HR0 := Aside0.mk hr0
  unfold rightI
  by_cases a0 : l0.length = 0
  · rw [if_pos a0]
    rw [a0]
    clear hr0
    go_enter Try.func14, Try.ntmps14
    go_wp2
    go_ret
    exact ⟨rfl, below_alloc (Below.refl _ _) _⟩
  rw [if_neg a0]
  obtain ⟨m, hm⟩ : ∃ m, l0.length = m + 1 := ⟨l0.length - 1, by omega⟩
  have hct := fun (A0 : Option Addr) (hr0 : k39.C w A0 l0.length l0) (W : World) (c d : Nat) (hb : Below w.heap.size w W) (hc : W.cell? ⟨c, 0, none⟩ = some (.int .i64 (l0.length : Int))) (hd : W.cell? ⟨d, 0, none⟩ = some (.func (.func 25) #[] #[.pointer (some ⟨c, 0, none⟩)])) =>
    contains_inst 27 #[.pointer (some ⟨d, 0, none⟩)] (badI (l0.length : Int)) A0 c0 l0 W (Kd.C_below hr0 hb) (fun x A1 c1 W2 hb2 => bad_calls _ c d _ _ _ _ _ _ W2 (cell_later hb2 hc) (cell_later hb2 hd)) (fun v W => enters_ Try.func27 (by kernel_rfl) rfl _ W)
  obtain ⟨ad, A1, c1, e, h0, h1, h2, h3, q1, q2⟩ := at_T39 hr0 (m : Int) (by omega) (by omega)
  cases e
  replace hct := hct _ hr0
  have hr9 : l0.any (badI ((m + 1 : Nat) : Int)) = l0.any (badI (l0.length : Int)) := by rw [hm]
  have e9 : (l0.length : Int) - 1 = (m : Int) := by omega
  rw [e9]
  rw [hm] at hct ⊢
  rw [Int.toNat_natCast] at h0
  have k0 : ((m : Int) + 1 == 0) = false := beq_eq_false_iff_ne.mpr (by omega)
  obtain ⟨y, hy⟩ : ∃ y, (rd_T39 l0 (m : Int)).f0 = y := ⟨_, rfl⟩
  rw [hy] at h0 ⊢
  have HM : m < 9223372036854775807 := by have := HL.out; omega
  have HCT := Aside0.mk hct
  clear hr0 h1 h2 h3 q1 q2 hy hr9 e9 hct HL HR0 hm a0
  by_cases a1 : (((m + 1 : Nat)) : Int) > 1000
  · rw [if_pos a1]
    have k1 : decide ((m : Int) + 1 > 1000) = true := decide_eq_true (by omega)
    have k1' : decide (1000 < (m : Int) + 1) = true := decide_eq_true (by omega)
    clear a1
    go_enter Try.func14, Try.ntmps14
    go_wp2
    go_ret
    exact ⟨rfl, below_alloc (Below.refl _ _) _⟩
  rw [if_neg a1]
  have k1 : decide ((m : Int) + 1 > 1000) = false := decide_eq_false (by omega)
  have k1' : decide (1000 < (m : Int) + 1) = false := decide_eq_false (by omega)
  have i1 : IntKind.i64.wrap (((m + 1 : Nat) : Int) - 1) = (m : Int) := by rw [IntKind.wrap_i64]; omega
  clear a1
  have h02 : (w.alloc (.cells #[.int .i64 ((m : Int) + 1)] 3)).cell? (ad.add (m * 4)) = some (.int .i64 y) := cell_later (below_alloc (Below.refl _ _) _) h0
  by_cases a2 : y ≠ 0
  · rw [if_pos a2]
    have k2 : (y != 0) = true := bne_iff_ne.mpr a2
    clear a2
    go_enter Try.func14, Try.ntmps14
    go_wp2
    go_ret
    exact ⟨rfl, below_alloc (Below.refl _ _) _⟩
  rw [if_neg a2]
  have k2 : (y != 0) = false := bne_eq_false_iff_eq.mpr (Decidable.not_not.1 a2)
  clear a2
  go_enter Try.func14, Try.ntmps14
  go_wp2_with (go_at_call 26; refine (HCT.out _ w.heap.size _ ?sb ?sc ?sd).mono ?_; (case sb => exact below_alloc (below_alloc (Below.refl _ _) _) _); (case sc => exact cell_later (below_alloc (Below.refl _ _) _) (blk_cell (heap_alloc_new w _) 0)); (case sd => exact alloc2_cell _ _ _ _); rintro e w' ⟨rfl, hb⟩; have HB := Aside0.mk hb; clear hb)
  go_ret
  exact ⟨rfl, below_step (below_alloc (below_alloc (Below.refl _ _) _) _) HB.out⟩
end Go.Proofs.Ytbbplchdgedhcaa.P
namespace Go.Proofs.Ytbbplchdgedhcaa.P
open Go.RowKit Go.Proofs.YtbbplchdgedhcaaW.PrintWords Go.Proofs.YtbbplchdgedhcaaW.PrintLast
set_option linter.unusedVariables false
set_option linter.unusedSimpArgs false

/-- A row that lies in a block of its own is read. -/
theorem C_of_block {α : Type} {d : Kd α} {w : World} {b : Nat} {t : TypeId} {cs : List Value} {xs : List α} (hb : w.heap[b]? = some (.cells cs.toArray t (0, 0))) (hr : Reps (d.K w) d.sz xs cs) (hm : xs.length ≤ 9223372036854775807) : d.C w (some ⟨b, 0, none⟩) xs.length xs := by
  refine ⟨rfl, hm, fun _ => ⟨_, rfl, fun j p hj => ⟨(cs.drop (j * d.sz)).take d.sz, ?_, hr.2 j p hj, fun i u hu => ?_⟩⟩⟩
  · have hjl := (List.getElem?_eq_some_iff.1 hj).1
    have h1 : j * d.sz + d.sz ≤ cs.length := by rw [hr.1, ← Nat.succ_mul]; exact Nat.mul_le_mul_right _ hjl
    rw [List.length_take, List.length_drop]
    omega
  · rw [add_plain, blk_cell hb]
    rw [List.getElem?_take] at hu
    split at hu
    · rw [List.getElem?_drop] at hu
      simpa using hu
    · cases hu
def ductuslaw19_alive.f : Option Bool := some true
def setA : Node := ⟨2, [⟨97, 97⟩], 0, 0, []⟩
def startA : Node := ⟨6, [], 0, 0, []⟩
def progP : List Inst := [⟨2, [], 1, 3⟩, ⟨1, [⟨97, 97⟩], 0, 0⟩, ⟨3, [], 0, 0⟩, ⟨0, [], 0, 0⟩]
def progQ : List Inst := [⟨2, [], 1, 3⟩, ⟨1, [⟨97, 97⟩], 0, 0⟩, ⟨3, [], 7, 0⟩, ⟨2, [], 4, 6⟩, ⟨4, [], 0, 0⟩, ⟨3, [], 7, 0⟩, ⟨1, [⟨97, 97⟩], 0, 0⟩, ⟨0, [], 0, 0⟩]
theorem comp_p : nfa_Compile.f 4 5 [] 0 (-1) [setA] = some (progP, 0) := by kernel_rfl
theorem comp_q : nfa_Compile.f 4 4 [] 0 0 [setA, startA, setA] = some (progQ, 0) := by kernel_rfl
theorem comp_n : nfa_Compile.f 4 0 [] 0 0 [] = some ([], 1) := by kernel_rfl
theorem right_q : nfa_Right.f progQ = some true := by kernel_rfl
theorem count_q : nfa_Count.f 20 progQ 1 = some 2 := by kernel_rfl
theorem same_q : nfa_Same.f 20 progQ progQ = some true := by kernel_rfl
theorem setA_K {w : World} {b : Nat} (hb : w.heap[b]? = some (.cells #[.int .i64 97, .int .i64 97] 42 (0, 0))) : k25.K w setA [.int .i64 2, .slice (some ⟨b, 0, none⟩) 1 1, .int .i64 0, .int .i64 0, .slice none 0 0] :=
  k25_mk w setA (A1 := some ⟨b, 0, none⟩) (c1 := 1) (Nat.le_refl _) (C_of_block (cs := [.int .i64 97, .int .i64 97]) hb ((Reps.none _ _).snoc (k42_mk w ⟨97, 97⟩) rfl) (by decide)) (A4 := none) (c4 := 0) (Nat.le_refl _) (Kd.C_nil _ _)
theorem startA_K (w : World) : k25.K w startA [.int .i64 6, .slice none 0 0, .int .i64 0, .int .i64 0, .slice none 0 0] :=
  k25_mk w startA (A1 := none) (c1 := 0) (Nat.le_refl _) (Kd.C_nil _ _) (A4 := none) (c4 := 0) (Nat.le_refl _) (Kd.C_nil _ _)
set_option maxHeartbeats 8000000 in
set_option maxRecDepth 100000 in
theorem ductuslaw19_alive.calls (r : Bool) (w : World) (h : ductuslaw19_alive.f = some r) : Calls Try.prog 7 #[] w fun e w' => e = .returned (.bool r) ∧ Below w.heap.size w w' := by
  obtain rfl := Option.some.inj h
  clear h
  have hu := Try.underlying25
  have hui := Try.underlying39
  go_enter Try.func7, Try.ntmps7
  go_upto_region 2 with (fail)
  have h1 : ((w.alloc (.cells #[.int .i64 97, .int .i64 97] 42)).alloc (.cells #[.int .i64 2, .slice (some ⟨w.heap.size, 0, none⟩) 1 1, .int .i64 0, .int .i64 0, .slice none 0 0] 25)).heap[w.heap.size]? = some (.cells #[.int .i64 97, .int .i64 97] 42 (0, 0)) := blk_alloc (heap_alloc_new w _) _
  have h2 : ((w.alloc (.cells #[.int .i64 97, .int .i64 97] 42)).alloc (.cells #[.int .i64 2, .slice (some ⟨w.heap.size, 0, none⟩) 1 1, .int .i64 0, .int .i64 0, .slice none 0 0] 25)).heap[w.heap.size + 1]? = some (.cells #[.int .i64 2, .slice (some ⟨w.heap.size, 0, none⟩) 1 1, .int .i64 0, .int .i64 0, .slice none 0 0] 25 (0, 0)) := by
    have h9 := heap_alloc_new (w.alloc (.cells #[.int .i64 97, .int .i64 97] 42)) (.cells #[.int .i64 2, .slice (some ⟨w.heap.size, 0, none⟩) 1 1, .int .i64 0, .int .i64 0, .slice none 0 0] 25)
    rwa [show (w.alloc (.cells #[.int .i64 97, .int .i64 97] 42)).heap.size = w.heap.size + 1 from by simp] at h9
  have hB : Below w.heap.size w ((w.alloc (.cells #[.int .i64 97, .int .i64 97] 42)).alloc (.cells #[.int .i64 2, .slice (some ⟨w.heap.size, 0, none⟩) 1 1, .int .i64 0, .int .i64 0, .slice none 0 0] 25)) := below_alloc (below_alloc (Below.refl _ _) _) _
  generalize (w.alloc (.cells #[.int .i64 97, .int .i64 97] 42)).alloc (.cells #[.int .i64 2, .slice (some ⟨w.heap.size, 0, none⟩) 1 1, .int .i64 0, .int .i64 0, .slice none 0 0] 25) = W2 at h1 h2 hB ⊢
  obtain ⟨r0, hr0⟩ : ∃ r0, w.heap.size = r0 := ⟨_, rfl⟩
  obtain ⟨n0, hn0⟩ : ∃ n0, w.heap.size + 1 = n0 := ⟨_, rfl⟩
  rw [hn0] at h2 ⊢
  rw [hr0] at h1 h2 ⊢
  rw [← hr0]
  have HB := Aside0.mk hB
  have H1 := Aside0.mk h1
  have H2 := Aside0.mk h2
  clear hB h1 h2 hr0 hn0
  have x0 : W2.cell? ⟨n0, 0, none⟩ = some (.int .i64 2) := blk_cell H2.out 0
  have x1 : W2.cell? ⟨n0, 1, none⟩ = some (.slice (some ⟨r0, 0, none⟩) 1 1) := blk_cell H2.out 1
  have x2 : W2.cell? ⟨n0, 2, none⟩ = some (.int .i64 0) := blk_cell H2.out 2
  have x3 : W2.cell? ⟨n0, 3, none⟩ = some (.int .i64 0) := blk_cell H2.out 3
  have x4 : W2.cell? ⟨n0, 4, none⟩ = some (.slice none 0 0) := blk_cell H2.out 4
  go_upto_region 3 with (go_at_call 10; refine (nfa_Compile.calls 4 5 none 0 [] 0 (-1) (some ⟨W2.heap.size, 0, none⟩) 1 [setA] progP 0 _ ?s1 (Nat.le_refl _) ?s2 (Nat.le_refl _) comp_p).mono ?_; (case s1 => exact Kd.C_nil _ _); (case s2 => exact C_of_block (cs := [.int .i64 2, .slice (some ⟨r0, 0, none⟩) 1 1, .int .i64 0, .int .i64 0, .slice none 0 0]) (heap_alloc_new W2 _) ((Reps.none _ _).snoc (setA_K (blk_alloc H1.out _)) rfl) (by decide)); rintro e w3 ⟨vp, rfl, hp, hb⟩; have HP := Aside0.mk hp; have HB3 := Aside0.mk (below_step (below_alloc HB.out _) hb); have H13 := Aside0.mk (blk_below (blk_alloc H1.out _) hb); have H23 := Aside0.mk (blk_below (blk_alloc H2.out _) hb); clear hp hb)
  clear x0 x1 x2 x3 x4
  have x0 : w3.cell? ⟨n0, 0, none⟩ = some (.int .i64 2) := blk_cell H23.out 0
  have x1 : w3.cell? ⟨n0, 1, none⟩ = some (.slice (some ⟨r0, 0, none⟩) 1 1) := blk_cell H23.out 1
  have x2 : w3.cell? ⟨n0, 2, none⟩ = some (.int .i64 0) := blk_cell H23.out 2
  have x3 : w3.cell? ⟨n0, 3, none⟩ = some (.int .i64 0) := blk_cell H23.out 3
  have x4 : w3.cell? ⟨n0, 4, none⟩ = some (.slice none 0 0) := blk_cell H23.out 4
  go_upto_region 4 with (go_at_call 10; refine (nfa_Compile.calls 4 4 none 0 [] 0 0 (some ⟨w3.heap.size, 0, none⟩) 3 [setA, startA, setA] progQ 0 _ ?s1 (Nat.le_refl _) ?s2 (Nat.le_refl _) comp_q).mono ?_; (case s1 => exact Kd.C_nil _ _); (case s2 => exact C_of_block (cs := [.int .i64 2, .slice (some ⟨r0, 0, none⟩) 1 1, .int .i64 0, .int .i64 0, .slice none 0 0] ++ [.int .i64 6, .slice none 0 0, .int .i64 0, .int .i64 0, .slice none 0 0] ++ [.int .i64 2, .slice (some ⟨r0, 0, none⟩) 1 1, .int .i64 0, .int .i64 0, .slice none 0 0]) (heap_alloc_new w3 _) ((((Reps.none _ _).snoc (setA_K (blk_alloc H13.out _)) rfl).snoc (startA_K _) rfl).snoc (setA_K (blk_alloc H13.out _)) rfl) (by decide)); rintro e w4 ⟨vq, rfl, hq, hb⟩; have HQ := Aside0.mk hq; have HP4 := Aside0.mk (Kd.R_below (Kd.R_alloc HP.out _) hb); have HB4 := Aside0.mk (below_step (below_alloc HB3.out _) hb); clear hq hb)
  clear x0 x1 x2 x3 x4
  obtain ⟨gp, cp, ep, _, _, _⟩ := Kd.R_form HP4.out (by decide)
  obtain ⟨gq, cq, eq, _, _, _⟩ := Kd.R_form HQ.out (by decide)
  have ep2 : vp = .slice (some ⟨gp, 0, none⟩) 4 cp := ep
  have eq2 : vq = .slice (some ⟨gq, 0, none⟩) 8 cq := eq
  subst ep2 eq2
  clear ep eq HP
  go_upto_region 5 with (go_at_call 10; refine (nfa_Compile.calls 4 0 none 0 [] 0 0 none 0 [] [] 1 _ ?s1 (Nat.le_refl _) ?s2 (Nat.le_refl _) comp_n).mono ?_; (case s1 => exact Kd.C_nil _ _); (case s2 => exact Kd.C_nil _ _); rintro e w5 ⟨vn, rfl, _, hb⟩; have HQ5 := Aside0.mk (Kd.R_below HQ.out hb); have HP5 := Aside0.mk (Kd.R_below HP4.out hb); have HB5 := Aside0.mk (below_step HB4.out hb); clear hb)
  obtain ⟨ceP0, _, hMP0, hccP0, _⟩ := Kd.R_elem HP5.out z39 (0 : Int) (by decide) (by decide)
  obtain ⟨v1P0, rfl, _⟩ := k39_openM hMP0
  obtain ⟨ceP2, _, hMP2, hccP2, _⟩ := Kd.R_elem HP5.out z39 (2 : Int) (by decide) (by decide)
  obtain ⟨v1P2, rfl, _⟩ := k39_openM hMP2
  obtain ⟨ceQ0, _, hMQ0, hccQ0, _⟩ := Kd.R_elem HQ5.out z39 (0 : Int) (by decide) (by decide)
  obtain ⟨v1Q0, rfl, _⟩ := k39_openM hMQ0
  obtain ⟨ceQ2, _, hMQ2, hccQ2, _⟩ := Kd.R_elem HQ5.out z39 (2 : Int) (by decide) (by decide)
  obtain ⟨v1Q2, rfl, _⟩ := k39_openM hMQ2
  obtain ⟨ceQ3, _, hMQ3, hccQ3, _⟩ := Kd.R_elem HQ5.out z39 (3 : Int) (by decide) (by decide)
  obtain ⟨v1Q3, rfl, _⟩ := k39_openM hMQ3
  obtain ⟨ceQ5, _, hMQ5, hccQ5, _⟩ := Kd.R_elem HQ5.out z39 (5 : Int) (by decide) (by decide)
  obtain ⟨v1Q5, rfl, _⟩ := k39_openM hMQ5
  have y0 : w5.cell? ⟨gp, 0, none⟩ = some (.int .i64 2) := hccP0 0 _ rfl
  have y1 : w5.cell? ⟨gp, 2, none⟩ = some (.int .i64 1) := hccP0 2 _ rfl
  have y2 : w5.cell? ⟨gp, 3, none⟩ = some (.int .i64 3) := hccP0 3 _ rfl
  have y3 : w5.cell? ⟨gp, 8, none⟩ = some (.int .i64 3) := hccP2 0 _ rfl
  have y4 : w5.cell? ⟨gp, 10, none⟩ = some (.int .i64 0) := hccP2 2 _ rfl
  have y5 : w5.cell? ⟨gq, 3, none⟩ = some (.int .i64 3) := hccQ0 3 _ rfl
  have y6 : w5.cell? ⟨gq, 10, none⟩ = some (.int .i64 7) := hccQ2 2 _ rfl
  have y7 : w5.cell? ⟨gq, 15, none⟩ = some (.int .i64 6) := hccQ3 3 _ rfl
  have y8 : w5.cell? ⟨gq, 22, none⟩ = some (.int .i64 7) := hccQ5 2 _ rfl
  clear hMP0 hccP0 hMP2 hccP2 hMQ0 hccQ0 hMQ2 hccQ2 hMQ3 hccQ3 hMQ5 hccQ5 HQ HP4
  have HC := Aside0.mk (show k39.C w5 (some ⟨gq, 0, none⟩) progQ.length progQ from (Kd.R_reads' HQ5.out).2.2)
  have HCL := Aside0.mk (show progQ.length ≤ cq from (Kd.R_reads' HQ5.out).2.1)
  go_wp2_with (first
    | (go_at_call 14; refine (nfa_Right.calls (some ⟨gq, 0, none⟩) cq progQ true _ HC.out HCL.out right_q).mono ?_; rintro e w6 ⟨rfl, hb⟩; have HB6 := Aside0.mk hb; clear hb)
    | (go_at_call 16; refine (nfa_Count.calls 20 (some ⟨gq, 0, none⟩) cq progQ 1 2 _ (Kd.C_below HC.out HB6.out) HCL.out count_q).mono ?_; rintro e w7 ⟨rfl, hb⟩; have HB7 := Aside0.mk (below_step HB6.out hb); clear hb)
    | (go_at_call 18; refine (nfa_Same.calls 20 (some ⟨gq, 0, none⟩) cq progQ (some ⟨gq, 0, none⟩) cq progQ true _ (Kd.C_below HC.out HB7.out) HCL.out (Kd.C_below HC.out HB7.out) HCL.out same_q).mono ?_; rintro e w8 ⟨rfl, hb⟩; have HB8 := Aside0.mk hb; clear hb))
  go_ret
  exact ⟨rfl, below_step (below_step HB5.out HB7.out) HB8.out⟩
end Go.Proofs.Ytbbplchdgedhcaa.P
namespace Go.Proofs.Ytbbplchdgedhcaa.P
open Go.RowKit Go.Proofs.YtbbplchdgedhcaaW.PrintWords Go.Proofs.YtbbplchdgedhcaaW.PrintLast
set_option linter.unusedVariables false
set_option linter.unusedSimpArgs false

def ductusref19_Great.l0 : Nat → List (S39) → Int → Int → Option (Bool)
  | 0, _, _, _ => none
  | k + 1, x0, x3, x4 => if x4 < (x0.length : Int) then (if x3 ≤ 1000 then (if 0 ≤ x4 then (ductusref19_Great.l0 k x0 (wrap64 (x3 + (((rd_T39 x0 x4).f1).length : Int))) (wrap64 (x4 + 1))) else (none)) else (some (decide (x3 > 1000)))) else (some (decide (x3 > 1000)))
def ductusref19_Great.f (k : Nat) (l0 : List (S39)) : Option (Bool) := ductusref19_Great.l0 k l0 (l0.length : Int) 0
set_option maxHeartbeats 8000000 in
set_option maxRecDepth 100000 in
theorem ductusref19_Great.calls (k : Nat) (A0 : Option Addr) (c0 : Nat) (l0 : List (S39)) (r : Bool) (w : World) (hr0 : Kd.C k39 w A0 l0.length l0) (hc0 : l0.length ≤ c0) (h : ductusref19_Great.f k l0 = some r) :
    Calls Try.prog 13 #[.slice A0 l0.length c0] w fun e w' => e = .returned (.bool r) ∧ Drawn0 w w' := by
  have HR0 := Aside0.mk hr0
  have HC0 := Aside0.mk hc0
  clear hr0 hc0
  have H : (ductusref19_Great.l0 k l0 (l0.length : Int) 0) = some r := h
  clear h
  have H' := Aside0.mk H
  clear H
  go_enter Try.func13, Try.ntmps13
  go_wp2
  go_loopg [3, 4] k (fun kq v3 v4 w' => ∃ (x3_1 : Int) (x4_1 : Int), v3 = .int .i64 x3_1 ∧ v4 = .int .i64 x4_1 ∧ Aside0 (ductusref19_Great.l0 kq l0 x3_1 x4_1 = some r) ∧ Aside0 (kq ≤ k) ∧ Drawn0 w w')
  case atStart => exact ⟨((l0.length : Int)), (0), (by first | rfl | (simp; done) | (simp [*]; done)), (by first | rfl | (simp; done) | (simp [*]; done)), H', ⟨Nat.le_refl _⟩, by repeat (first | exact Drawn0.refl _ | apply Drawn0.step)⟩
  case round =>
    clear H'
    try clear c1
    obtain ⟨x3_1, x4_1, rfl, rfl, HA, HK1, ⟨m1, rfl⟩⟩ := hrel
    cases gk with
    | zero => exact absurd HA.out (by simp [ductusref19_Great.l0])
    | succ k1 =>
      have H := HA.out
      clear HA
      simp only [ductusref19_Great.l0] at H
      by_cases c2 : x4_1 < (l0.length : Int)
      rotate_left
      · rw [if_neg c2] at H
        have c2b0 : decide (x4_1 < (l0.length : Int)) = false := decide_eq_false c2
        clear c2
        obtain rfl := Option.some.inj H
        go_wp2
        go_ret
        exact ⟨by first | rfl | (simp; done) | (simp [*]; done), by repeat (first | exact Drawn0.refl _ | apply Drawn0.step)⟩
      rw [if_pos c2] at H
      have c2b0 : decide (x4_1 < (l0.length : Int)) = true := decide_eq_true c2
      clear c2
      by_cases c3 : x3_1 ≤ 1000
      rotate_left
      · rw [if_neg c3] at H
        have c3b0 : decide (x3_1 ≤ 1000) = false := decide_eq_false c3
        clear c3
        obtain rfl := Option.some.inj H
        go_wp2
        go_ret
        exact ⟨by first | rfl | (simp; done) | (simp [*]; done), by repeat (first | exact Drawn0.refl _ | apply Drawn0.step)⟩
      rw [if_pos c3] at H
      have c3b0 : decide (x3_1 ≤ 1000) = true := decide_eq_true c3
      clear c3
      by_cases c4 : 0 ≤ x4_1
      rotate_left
      · rw [if_neg c4] at H
        exact absurd H (by simp)
      rw [if_pos c4] at H
      have c4b0 : decide (0 ≤ x4_1) = true := decide_eq_true c4
      clear c4
      have H' := Aside0.mk H
      clear H
      have p241 : 0 ≤ (x4_1 : Int) := of_decide_eq_true (by first | (with_reducible assumption) | assumption)
      have q241 : x4_1 < (l0.length : Int) := of_decide_eq_true (by first | (with_reducible assumption) | assumption)
      obtain ⟨ad241, A241_1, c241_1, e241, hx241_0, hx241_1, hx241_2, hx241_3, hl241_1, hi241_1⟩ := at_T39 HR0.out x4_1 p241 q241
      cases e241
      have HR241_1 := Aside0.mk hi241_1
      have HC241_1 := Aside0.mk hl241_1
      clear hi241_1 hl241_1
      replace p241 := eq_true p241
      replace q241 := eq_true q241
      go_wp2
      go_roundg k1
      case measure => have := HK1.out; omega
      case rel => exact ⟨(wrap64 (x3_1 + (((rd_T39 l0 x4_1).f1).length : Int))), (wrap64 (x4_1 + 1)), (by first | rfl | (simp; done) | (simp [*]; done)), (by first | rfl | (simp; done) | (simp [*]; done)), H', ⟨by have := HK1.out; omega⟩, by repeat (first | exact Drawn0.refl _ | apply Drawn0.step)⟩

mutual
def ductusref19_Right.j0 : Nat → List (S39) → Bool → Option (Bool)
  | 0, _, _ => none
  | k + 1, x0, x22 => if x22 = true then (some false) else (ductusref19_Right.l0 k x0 0)
def ductusref19_Right.l0 : Nat → List (S39) → Int → Option (Bool)
  | 0, _, _ => none
  | k + 1, x0, x3 => if x3 < (x0.length : Int) then (if 0 ≤ x3 then (if ((rd_T39 x0 x3).f0) < 0 then (some false) else (if ((rd_T39 x0 x3).f0) > 5 then (some false) else (if ((rd_T39 x0 x3).f0) = 2 then (if ((rd_T39 x0 x3).f2) < 0 then (some false) else (if ((rd_T39 x0 x3).f2) ≥ (x0.length : Int) then (some false) else (if ((rd_T39 x0 x3).f3) < 0 then (some false) else (if ((rd_T39 x0 x3).f3) ≥ (x0.length : Int) then (some false) else (ductusref19_Right.l0 k x0 (wrap64 (x3 + 1))))))) else (if ((rd_T39 x0 x3).f0) = 3 then (if ((rd_T39 x0 x3).f2) < 0 then (some false) else (if ((rd_T39 x0 x3).f2) ≥ (x0.length : Int) then (some false) else (ductusref19_Right.l0 k x0 (wrap64 (x3 + 1))))) else (ductusref19_Right.l0 k x0 (wrap64 (x3 + 1))))))) else (none)) else (some true)
end
def ductusref19_Right.f (k : Nat) (l0 : List (S39)) : Option (Bool) := if (l0.length : Int) < 1 then (ductusref19_Right.j0 k l0 true) else (if (l0.length : Int) > 1000 then (ductusref19_Right.j0 k l0 true) else (if 0 ≤ (wrap64 ((l0.length : Int) - 1)) then (if (wrap64 ((l0.length : Int) - 1)) < (l0.length : Int) then (ductusref19_Right.j0 k l0 (((rd_T39 l0 (wrap64 ((l0.length : Int) - 1))).f0) != 0)) else (none)) else (none)))
set_option maxHeartbeats 8000000 in
set_option maxRecDepth 100000 in
theorem ductusref19_Right.calls (k : Nat) (A0 : Option Addr) (c0 : Nat) (l0 : List (S39)) (r : Bool) (w : World) (hr0 : Kd.C k39 w A0 l0.length l0) (hc0 : l0.length ≤ c0) (h : ductusref19_Right.f k l0 = some r) :
    Calls Try.prog 15 #[.slice A0 l0.length c0] w fun e w' => e = .returned (.bool r) ∧ Below w.heap.size w w' := by
  have hu39 := Try.underlying39
  have HR0 := Aside0.mk hr0
  have HC0 := Aside0.mk hc0
  clear hr0 hc0
  have HB := Aside0.mk (Below.refl w.heap.size w)
  have H : (if (l0.length : Int) < 1 then (ductusref19_Right.j0 k l0 true) else (if (l0.length : Int) > 1000 then (ductusref19_Right.j0 k l0 true) else (if 0 ≤ (wrap64 ((l0.length : Int) - 1)) then (if (wrap64 ((l0.length : Int) - 1)) < (l0.length : Int) then (ductusref19_Right.j0 k l0 (((rd_T39 l0 (wrap64 ((l0.length : Int) - 1))).f0) != 0)) else (none)) else (none)))) = some r := h
  clear h
  have HC2 := Aside0.mk H
  clear H
  go_enter Try.func15, Try.ntmps15
  go_upto_region 1 with (fail)
  go_cut [22] (fun v22 wc => ∃ (kq : Nat) (x22_1 : Bool), v22 = .bool x22_1 ∧ Aside0 (ductusref19_Right.j0 kq l0 x22_1 = some r) ∧ Aside0 (kq ≤ k) ∧ Aside0 (Below w.heap.size w wc))
  case first =>
    have H := HC2.out
    clear HC2
    by_cases c3 : (l0.length : Int) < 1
    · rw [if_pos c3] at H
      have c3b0 : decide ((l0.length : Int) < 1) = true := decide_eq_true c3
      have c3b1 : decide (l0.length < 1) = true := decide_eq_true (by omega)
      clear c3
      (first | rw [c3b0] | (simp only [i64_w, i32_w]; rw [c3b0]) | skip)
      have H' := Aside0.mk H
      clear H
      go_wp2
      go_meet
      case rel => exact ⟨_, (true), (by first | rfl | (simp; done) | (simp [*]; done)), H', ⟨by first | omega | exact Nat.le_refl _⟩, ⟨by repeat (first | (with_reducible first | exact HB.out | apply below_alloc | apply pw_below_drewN | apply below_drew1) | exact HB.out)⟩⟩
    rw [if_neg c3] at H
    have c3b0 : decide ((l0.length : Int) < 1) = false := decide_eq_false c3
    have c3b1 : decide (l0.length < 1) = false := decide_eq_false (by omega)
    clear c3
    (first | rw [c3b0] | (simp only [i64_w, i32_w]; rw [c3b0]) | skip)
    by_cases c4 : (l0.length : Int) > 1000
    · rw [if_pos c4] at H
      have c4b0 : decide (1000 < (l0.length : Int)) = true := decide_eq_true c4
      have c4b1 : decide (1000 < l0.length) = true := decide_eq_true (by omega)
      clear c4
      have H' := Aside0.mk H
      clear H
      go_wp2
      go_meet
      case rel => exact ⟨_, (true), (by first | rfl | (simp; done) | (simp [*]; done)), H', ⟨by first | omega | exact Nat.le_refl _⟩, ⟨by repeat (first | (with_reducible first | exact HB.out | apply below_alloc | apply pw_below_drewN | apply below_drew1) | exact HB.out)⟩⟩
    rw [if_neg c4] at H
    have c4b0 : decide (1000 < (l0.length : Int)) = false := decide_eq_false c4
    have c4b1 : decide (1000 < l0.length) = false := decide_eq_false (by omega)
    clear c4
    obtain ⟨ji5, hji5⟩ : ∃ j_ : Int, (wrap64 ((l0.length : Int) - 1)) = j_ := ⟨_, rfl⟩
    replace H : (if 0 ≤ (ji5) then (if (ji5) < (l0.length : Int) then (ductusref19_Right.j0 k l0 (((rd_T39 l0 (ji5)).f0) != 0)) else (none)) else (none)) = some r := by first | (rw [hji5] at H; exact H) | (simp only [hji5] at H ⊢; exact H)
    have hji5w : (IntKind.i64.wrap ((l0.length : Int) - 1)) = ji5 := (i64_w _).trans hji5
    by_cases c6 : 0 ≤ (ji5)
    rotate_left
    · rw [if_neg c6] at H
      exact absurd H (by simp)
    rw [if_pos c6] at H
    have c6b0 : decide (0 ≤ (ji5)) = true := decide_eq_true c6
    clear c6
    by_cases c7 : (ji5) < (l0.length : Int)
    rotate_left
    · rw [if_neg c7] at H
      exact absurd H (by simp)
    rw [if_pos c7] at H
    have c7b0 : decide ((ji5) < (l0.length : Int)) = true := decide_eq_true c7
    clear c7
    have H' := Aside0.mk H
    clear H
    have p242 : 0 ≤ ((ji5) : Int) := of_decide_eq_true (by first | (with_reducible assumption) | assumption)
    have q242 : (ji5) < (l0.length : Int) := of_decide_eq_true (by first | (with_reducible assumption) | assumption)
    obtain ⟨ad242, A242_1, c242_1, e242, hx242_0, hx242_1, hx242_2, hx242_3, hl242_1, hi242_1⟩ := at_T39 HR0.out (ji5) p242 q242
    cases e242
    replace hx242_0 := (HB.out.cell (World.block_lt_of_cell? w _ hx242_0)).trans hx242_0
    replace hx242_1 := (HB.out.cell (World.block_lt_of_cell? w _ hx242_1)).trans hx242_1
    replace hx242_2 := (HB.out.cell (World.block_lt_of_cell? w _ hx242_2)).trans hx242_2
    replace hx242_3 := (HB.out.cell (World.block_lt_of_cell? w _ hx242_3)).trans hx242_3
    have HR242_1 := Aside0.mk hi242_1
    have HC242_1 := Aside0.mk hl242_1
    clear hi242_1 hl242_1
    replace p242 := eq_true p242
    replace q242 := eq_true q242
    go_wp2
    go_meet
    case rel => exact ⟨_, ((((rd_T39 l0 (ji5)).f0) != 0)), (by first | rfl | (simp; done) | (simp only [← hji5] <;> (first | rfl | simp)) | (simp [*]; done)), H', ⟨by first | omega | exact Nat.le_refl _⟩, ⟨by repeat (first | (with_reducible first | exact HB.out | apply below_alloc | apply pw_below_drewN | apply below_drew1) | exact HB.out)⟩⟩
  case rest =>
    clear HC2
    try clear c1
    try clear c2
    try clear p2
    try clear q2
    try clear hx2
    try clear c3
    try clear c3b0
    try clear c3b1
    try clear c4
    try clear c4b0
    try clear c4b1
    try clear c6
    try clear c6b0
    try clear p6
    try clear c7
    try clear c7b0
    try clear hx242_0
    try clear hx242_1
    try clear hx242_2
    try clear hx242_3
    try clear p242
    try clear q242
    obtain ⟨kq, x22_1, rfl, HA, HJ1, HB⟩ := hcut
    cases kq with
    | zero => exact absurd HA.out (by simp [ductusref19_Right.j0])
    | succ kj1 =>
      have H := HA.out
      clear HA
      simp only [ductusref19_Right.j0] at H
      by_cases c8 : x22_1 = true
      · subst c8
        have H1 : (some false) = some r := by rw [if_pos rfl] at H; exact H
        clear H
        have H := H1
        clear H1
        obtain rfl := Option.some.inj H
        go_wp2
        go_ret
        exact ⟨by first | rfl | (simp [errW_none, errW_some] <;> rfl) | (simp [*, errW_none, errW_some] <;> rfl), by repeat (first | (with_reducible first | exact HB.out | apply below_alloc | apply pw_below_drewN | apply below_drew1) | exact HB.out)⟩
      replace c8 := Bool.eq_false_iff.mpr c8
      subst c8
      have H1 : (ductusref19_Right.l0 kj1 l0 0) = some r := by rw [if_neg (show ¬ (false = true) by decide)] at H; exact H
      clear H
      have H := H1
      clear H1
      have H' := Aside0.mk H
      clear H
      go_wp2
      go_loopg [3] kj1 (fun kq v3 w' => ∃ (x3_2 : Int), v3 = .int .i64 x3_2 ∧ Aside0 (ductusref19_Right.l0 kq l0 x3_2 = some r) ∧ Aside0 (kq ≤ kj1) ∧ Aside0 (Below w.heap.size w w'))
      case atStart => exact ⟨(0), (by first | rfl | (simp; done) | (simp [*]; done)), H', ⟨Nat.le_refl _⟩, ⟨by repeat (first | (with_reducible first | exact HB.out | apply below_alloc | apply pw_below_drewN | apply below_drew1) | exact HB.out)⟩⟩
      case round =>
        clear H'
        try clear c1
        try clear c2
        try clear p2
        try clear q2
        try clear hx2
        try clear c3
        try clear c3b0
        try clear c3b1
        try clear c4
        try clear c4b0
        try clear c4b1
        try clear c6
        try clear c6b0
        try clear p6
        try clear c7
        try clear c7b0
        try clear c8
        try clear hx242_0
        try clear hx242_1
        try clear hx242_2
        try clear hx242_3
        try clear p2
        try clear p242
        try clear p6
        try clear q2
        try clear q242
        obtain ⟨x3_2, rfl, HA, HK2, HB⟩ := hrel
        cases gk with
        | zero => exact absurd HA.out (by simp [ductusref19_Right.l0])
        | succ k2 =>
          have H := HA.out
          clear HA
          simp only [ductusref19_Right.l0] at H
          by_cases c9 : x3_2 < (l0.length : Int)
          rotate_left
          · rw [if_neg c9] at H
            have c9b0 : decide (x3_2 < (l0.length : Int)) = false := decide_eq_false c9
            clear c9
            obtain rfl := Option.some.inj H
            go_wp2
            go_ret
            exact ⟨by first | rfl | (simp [errW_none, errW_some] <;> rfl) | (simp [*, errW_none, errW_some] <;> rfl), by repeat (first | (with_reducible first | exact HB.out | apply below_alloc | apply pw_below_drewN | apply below_drew1) | exact HB.out)⟩
          rw [if_pos c9] at H
          have c9b0 : decide (x3_2 < (l0.length : Int)) = true := decide_eq_true c9
          clear c9
          by_cases c10 : 0 ≤ x3_2
          rotate_left
          · rw [if_neg c10] at H
            exact absurd H (by simp)
          rw [if_pos c10] at H
          have c10b0 : decide (0 ≤ x3_2) = true := decide_eq_true c10
          clear c10
          by_cases c11 : ((rd_T39 l0 x3_2).f0) < 0
          · rw [if_pos c11] at H
            have c11b0 : decide (((rd_T39 l0 x3_2).f0) < 0) = true := decide_eq_true c11
            clear c11
            obtain rfl := Option.some.inj H
            have p243 : 0 ≤ (x3_2 : Int) := of_decide_eq_true (by first | (with_reducible assumption) | assumption)
            have q243 : x3_2 < (l0.length : Int) := of_decide_eq_true (by first | (with_reducible assumption) | assumption)
            obtain ⟨ad243, A243_1, c243_1, e243, hx243_0, hx243_1, hx243_2, hx243_3, hl243_1, hi243_1⟩ := at_T39 HR0.out x3_2 p243 q243
            cases e243
            replace hx243_0 := (HB.out.cell (World.block_lt_of_cell? w _ hx243_0)).trans hx243_0
            replace hx243_1 := (HB.out.cell (World.block_lt_of_cell? w _ hx243_1)).trans hx243_1
            replace hx243_2 := (HB.out.cell (World.block_lt_of_cell? w _ hx243_2)).trans hx243_2
            replace hx243_3 := (HB.out.cell (World.block_lt_of_cell? w _ hx243_3)).trans hx243_3
            have HR243_1 := Aside0.mk hi243_1
            have HC243_1 := Aside0.mk hl243_1
            clear hi243_1 hl243_1
            replace p243 := eq_true p243
            replace q243 := eq_true q243
            go_wp2_with (first | ((with_reducible refine gate_dst (N := 4) rfl ?_); (try (refine gate_guard (by rfl) ?_; dsimp only)); refine box_event ?hg (N := 4) ?hd (cs := #[.int .i64 0, .slice none 0 0, .int .i64 0, .int .i64 0]) (t := 39) ?hr ?_; (case hd => rfl); (case hg => rfl); (case hr => first | (go_simp; done) | (go_simp; rfl)); intro gb244 hg w12 hbox hb; have n0_ := Aside0.mk (below_step (by repeat (first | (with_reducible first | exact HB.out | apply below_alloc | apply pw_below_drewN | apply below_drew1) | exact HB.out)) hb); have n1_ := Aside0.mk (hbox); have n2_ := Aside0.mk ((by rw [hg]; exact (below_size (by repeat (first | (with_reducible first | exact HB.out | apply below_alloc | apply pw_below_drewN | apply below_drew1) | exact HB.out))) : w.heap.size ≤ gb244)); have n3_ := Aside0.mk ((by rw [hg]; exact (below_size (by repeat (first | (with_reducible first | exact HB.out | apply below_alloc | apply pw_below_drewN | apply below_drew1) | exact HB.out))) : w.heap.size ≤ gb244)); clear HB; have HB := n0_; have BK244 := n1_; have GW244 := n2_; have GE244 := n3_; clear n0_ n1_ n2_ n3_; clear hb hbox hg; have hcz13_0 : w12.cell? ⟨gb244, 0, none⟩ = some (.int .i64 0) := (blk_cell BK244.out 0).trans rfl; have hcz13_1 : w12.cell? ⟨gb244, 1, none⟩ = some (.slice none 0 0) := (blk_cell BK244.out 1).trans rfl; have hcz13_2 : w12.cell? ⟨gb244, 2, none⟩ = some (.int .i64 0) := (blk_cell BK244.out 2).trans rfl; have hcz13_3 : w12.cell? ⟨gb244, 3, none⟩ = some (.int .i64 0) := (blk_cell BK244.out 3).trans rfl; have hfz13_0 := blk_frozen BK244.out 0; have hfz13_1 := blk_frozen BK244.out 1; have hfz13_2 := blk_frozen BK244.out 2; have hfz13_3 := blk_frozen BK244.out 3))
            go_ret
            exact ⟨by first | rfl | (simp [errW_none, errW_some] <;> rfl) | (simp [*, errW_none, errW_some] <;> rfl), by repeat (first | (with_reducible first | exact HB.out | apply below_alloc | apply pw_below_drewN | apply below_drew1 | refine below_set ?_ GE244.out) | exact HB.out)⟩
          rw [if_neg c11] at H
          have c11b0 : decide (((rd_T39 l0 x3_2).f0) < 0) = false := decide_eq_false c11
          clear c11
          by_cases c14 : ((rd_T39 l0 x3_2).f0) > 5
          · rw [if_pos c14] at H
            have c14b0 : decide (5 < ((rd_T39 l0 x3_2).f0)) = true := decide_eq_true c14
            clear c14
            obtain rfl := Option.some.inj H
            have p243 : 0 ≤ (x3_2 : Int) := of_decide_eq_true (by first | (with_reducible assumption) | assumption)
            have q243 : x3_2 < (l0.length : Int) := of_decide_eq_true (by first | (with_reducible assumption) | assumption)
            obtain ⟨ad243, A243_1, c243_1, e243, hx243_0, hx243_1, hx243_2, hx243_3, hl243_1, hi243_1⟩ := at_T39 HR0.out x3_2 p243 q243
            cases e243
            replace hx243_0 := (HB.out.cell (World.block_lt_of_cell? w _ hx243_0)).trans hx243_0
            replace hx243_1 := (HB.out.cell (World.block_lt_of_cell? w _ hx243_1)).trans hx243_1
            replace hx243_2 := (HB.out.cell (World.block_lt_of_cell? w _ hx243_2)).trans hx243_2
            replace hx243_3 := (HB.out.cell (World.block_lt_of_cell? w _ hx243_3)).trans hx243_3
            have HR243_1 := Aside0.mk hi243_1
            have HC243_1 := Aside0.mk hl243_1
            clear hi243_1 hl243_1
            replace p243 := eq_true p243
            replace q243 := eq_true q243
            go_wp2_with (first | ((with_reducible refine gate_dst (N := 4) rfl ?_); (try (refine gate_guard (by rfl) ?_; dsimp only)); refine box_event ?hg (N := 4) ?hd (cs := #[.int .i64 0, .slice none 0 0, .int .i64 0, .int .i64 0]) (t := 39) ?hr ?_; (case hd => rfl); (case hg => rfl); (case hr => first | (go_simp; done) | (go_simp; rfl)); intro gb244 hg w15 hbox hb; have n0_ := Aside0.mk (below_step (by repeat (first | (with_reducible first | exact HB.out | apply below_alloc | apply pw_below_drewN | apply below_drew1) | exact HB.out)) hb); have n1_ := Aside0.mk (hbox); have n2_ := Aside0.mk ((by rw [hg]; exact (below_size (by repeat (first | (with_reducible first | exact HB.out | apply below_alloc | apply pw_below_drewN | apply below_drew1) | exact HB.out))) : w.heap.size ≤ gb244)); have n3_ := Aside0.mk ((by rw [hg]; exact (below_size (by repeat (first | (with_reducible first | exact HB.out | apply below_alloc | apply pw_below_drewN | apply below_drew1) | exact HB.out))) : w.heap.size ≤ gb244)); clear HB; have HB := n0_; have BK244 := n1_; have GW244 := n2_; have GE244 := n3_; clear n0_ n1_ n2_ n3_; clear hb hbox hg; have hcz16_0 : w15.cell? ⟨gb244, 0, none⟩ = some (.int .i64 0) := (blk_cell BK244.out 0).trans rfl; have hcz16_1 : w15.cell? ⟨gb244, 1, none⟩ = some (.slice none 0 0) := (blk_cell BK244.out 1).trans rfl; have hcz16_2 : w15.cell? ⟨gb244, 2, none⟩ = some (.int .i64 0) := (blk_cell BK244.out 2).trans rfl; have hcz16_3 : w15.cell? ⟨gb244, 3, none⟩ = some (.int .i64 0) := (blk_cell BK244.out 3).trans rfl; have hfz16_0 := blk_frozen BK244.out 0; have hfz16_1 := blk_frozen BK244.out 1; have hfz16_2 := blk_frozen BK244.out 2; have hfz16_3 := blk_frozen BK244.out 3))
            go_ret
            exact ⟨by first | rfl | (simp [errW_none, errW_some] <;> rfl) | (simp [*, errW_none, errW_some] <;> rfl), by repeat (first | (with_reducible first | exact HB.out | apply below_alloc | apply pw_below_drewN | apply below_drew1 | refine below_set ?_ GE244.out) | exact HB.out)⟩
          rw [if_neg c14] at H
          have c14b0 : decide (5 < ((rd_T39 l0 x3_2).f0)) = false := decide_eq_false c14
          clear c14
          by_cases c17 : ((rd_T39 l0 x3_2).f0) = 2
          rotate_left
          · rw [if_neg c17] at H
            have c17b0 : (((rd_T39 l0 x3_2).f0) == 2) = false := beq_eq_false_iff_ne.mpr c17
            have c17b1 : (((rd_T39 l0 x3_2).f0) != 2) = true := bne_iff_ne.mpr c17
            by_cases c32 : ((rd_T39 l0 x3_2).f0) = 3
            rotate_left
            · rw [if_neg c32] at H
              have c32b0 : (((rd_T39 l0 x3_2).f0) == 3) = false := beq_eq_false_iff_ne.mpr c32
              have c32b1 : (((rd_T39 l0 x3_2).f0) != 3) = true := bne_iff_ne.mpr c32
              have H' := Aside0.mk H
              clear H
              have p243 : 0 ≤ (x3_2 : Int) := of_decide_eq_true (by first | (with_reducible assumption) | assumption)
              have q243 : x3_2 < (l0.length : Int) := of_decide_eq_true (by first | (with_reducible assumption) | assumption)
              obtain ⟨ad243, A243_1, c243_1, e243, hx243_0, hx243_1, hx243_2, hx243_3, hl243_1, hi243_1⟩ := at_T39 HR0.out x3_2 p243 q243
              cases e243
              replace hx243_0 := (HB.out.cell (World.block_lt_of_cell? w _ hx243_0)).trans hx243_0
              replace hx243_1 := (HB.out.cell (World.block_lt_of_cell? w _ hx243_1)).trans hx243_1
              replace hx243_2 := (HB.out.cell (World.block_lt_of_cell? w _ hx243_2)).trans hx243_2
              replace hx243_3 := (HB.out.cell (World.block_lt_of_cell? w _ hx243_3)).trans hx243_3
              have HR243_1 := Aside0.mk hi243_1
              have HC243_1 := Aside0.mk hl243_1
              clear hi243_1 hl243_1
              replace p243 := eq_true p243
              replace q243 := eq_true q243
              go_wp2_with (first | ((with_reducible refine gate_dst (N := 4) rfl ?_); (try (refine gate_guard (by rfl) ?_; dsimp only)); refine box_event ?hg (N := 4) ?hd (cs := #[.int .i64 0, .slice none 0 0, .int .i64 0, .int .i64 0]) (t := 39) ?hr ?_; (case hd => rfl); (case hg => rfl); (case hr => first | (go_simp; done) | (go_simp; rfl)); intro gb244 hg w41 hbox hb; have n0_ := Aside0.mk (below_step (by repeat (first | (with_reducible first | exact HB.out | apply below_alloc | apply pw_below_drewN | apply below_drew1) | exact HB.out)) hb); have n1_ := Aside0.mk (hbox); have n2_ := Aside0.mk ((by rw [hg]; exact (below_size (by repeat (first | (with_reducible first | exact HB.out | apply below_alloc | apply pw_below_drewN | apply below_drew1) | exact HB.out))) : w.heap.size ≤ gb244)); have n3_ := Aside0.mk ((by rw [hg]; exact (below_size (by repeat (first | (with_reducible first | exact HB.out | apply below_alloc | apply pw_below_drewN | apply below_drew1) | exact HB.out))) : w.heap.size ≤ gb244)); clear HB; have HB := n0_; have BK244 := n1_; have GW244 := n2_; have GE244 := n3_; clear n0_ n1_ n2_ n3_; clear hb hbox hg; have hcz42_0 : w41.cell? ⟨gb244, 0, none⟩ = some (.int .i64 0) := (blk_cell BK244.out 0).trans rfl; have hcz42_1 : w41.cell? ⟨gb244, 1, none⟩ = some (.slice none 0 0) := (blk_cell BK244.out 1).trans rfl; have hcz42_2 : w41.cell? ⟨gb244, 2, none⟩ = some (.int .i64 0) := (blk_cell BK244.out 2).trans rfl; have hcz42_3 : w41.cell? ⟨gb244, 3, none⟩ = some (.int .i64 0) := (blk_cell BK244.out 3).trans rfl; have hfz42_0 := blk_frozen BK244.out 0; have hfz42_1 := blk_frozen BK244.out 1; have hfz42_2 := blk_frozen BK244.out 2; have hfz42_3 := blk_frozen BK244.out 3))
              go_roundg k2
              case measure => have := HJ1.out; have := HK2.out; omega
              case rel => exact ⟨(wrap64 (x3_2 + 1)), (by first | rfl | (simp; done) | (simp [*]; done)), H', ⟨by have := HJ1.out; have := HK2.out; omega⟩, ⟨by repeat (first | (with_reducible first | exact HB.out | apply below_alloc | apply pw_below_drewN | apply below_drew1 | refine below_set ?_ GE244.out) | exact HB.out)⟩⟩
            rw [if_pos c32] at H
            have c32b0 : (((rd_T39 l0 x3_2).f0) == 3) = true := beq_iff_eq.mpr c32
            have c32b1 : (((rd_T39 l0 x3_2).f0) != 3) = false := bne_eq_false_iff_eq.mpr c32
            clear c32
            by_cases c33 : ((rd_T39 l0 x3_2).f2) < 0
            · rw [if_pos c33] at H
              have c33b0 : decide (((rd_T39 l0 x3_2).f2) < 0) = true := decide_eq_true c33
              clear c33
              obtain rfl := Option.some.inj H
              have p243 : 0 ≤ (x3_2 : Int) := of_decide_eq_true (by first | (with_reducible assumption) | assumption)
              have q243 : x3_2 < (l0.length : Int) := of_decide_eq_true (by first | (with_reducible assumption) | assumption)
              obtain ⟨ad243, A243_1, c243_1, e243, hx243_0, hx243_1, hx243_2, hx243_3, hl243_1, hi243_1⟩ := at_T39 HR0.out x3_2 p243 q243
              cases e243
              replace hx243_0 := (HB.out.cell (World.block_lt_of_cell? w _ hx243_0)).trans hx243_0
              replace hx243_1 := (HB.out.cell (World.block_lt_of_cell? w _ hx243_1)).trans hx243_1
              replace hx243_2 := (HB.out.cell (World.block_lt_of_cell? w _ hx243_2)).trans hx243_2
              replace hx243_3 := (HB.out.cell (World.block_lt_of_cell? w _ hx243_3)).trans hx243_3
              have HR243_1 := Aside0.mk hi243_1
              have HC243_1 := Aside0.mk hl243_1
              clear hi243_1 hl243_1
              replace p243 := eq_true p243
              replace q243 := eq_true q243
              go_wp2_with (first | ((with_reducible refine gate_dst (N := 4) rfl ?_); (try (refine gate_guard (by rfl) ?_; dsimp only)); refine box_event ?hg (N := 4) ?hd (cs := #[.int .i64 0, .slice none 0 0, .int .i64 0, .int .i64 0]) (t := 39) ?hr ?_; (case hd => rfl); (case hg => rfl); (case hr => first | (go_simp; done) | (go_simp; rfl)); intro gb244 hg w34 hbox hb; have n0_ := Aside0.mk (below_step (by repeat (first | (with_reducible first | exact HB.out | apply below_alloc | apply pw_below_drewN | apply below_drew1) | exact HB.out)) hb); have n1_ := Aside0.mk (hbox); have n2_ := Aside0.mk ((by rw [hg]; exact (below_size (by repeat (first | (with_reducible first | exact HB.out | apply below_alloc | apply pw_below_drewN | apply below_drew1) | exact HB.out))) : w.heap.size ≤ gb244)); have n3_ := Aside0.mk ((by rw [hg]; exact (below_size (by repeat (first | (with_reducible first | exact HB.out | apply below_alloc | apply pw_below_drewN | apply below_drew1) | exact HB.out))) : w.heap.size ≤ gb244)); clear HB; have HB := n0_; have BK244 := n1_; have GW244 := n2_; have GE244 := n3_; clear n0_ n1_ n2_ n3_; clear hb hbox hg; have hcz35_0 : w34.cell? ⟨gb244, 0, none⟩ = some (.int .i64 0) := (blk_cell BK244.out 0).trans rfl; have hcz35_1 : w34.cell? ⟨gb244, 1, none⟩ = some (.slice none 0 0) := (blk_cell BK244.out 1).trans rfl; have hcz35_2 : w34.cell? ⟨gb244, 2, none⟩ = some (.int .i64 0) := (blk_cell BK244.out 2).trans rfl; have hcz35_3 : w34.cell? ⟨gb244, 3, none⟩ = some (.int .i64 0) := (blk_cell BK244.out 3).trans rfl; have hfz35_0 := blk_frozen BK244.out 0; have hfz35_1 := blk_frozen BK244.out 1; have hfz35_2 := blk_frozen BK244.out 2; have hfz35_3 := blk_frozen BK244.out 3))
              go_ret
              exact ⟨by first | rfl | (simp [errW_none, errW_some] <;> rfl) | (simp [*, errW_none, errW_some] <;> rfl), by repeat (first | (with_reducible first | exact HB.out | apply below_alloc | apply pw_below_drewN | apply below_drew1 | refine below_set ?_ GE244.out) | exact HB.out)⟩
            rw [if_neg c33] at H
            have c33b0 : decide (((rd_T39 l0 x3_2).f2) < 0) = false := decide_eq_false c33
            clear c33
            by_cases c36 : ((rd_T39 l0 x3_2).f2) ≥ (l0.length : Int)
            · rw [if_pos c36] at H
              have c36b0 : decide ((l0.length : Int) ≤ ((rd_T39 l0 x3_2).f2)) = true := decide_eq_true c36
              clear c36
              obtain rfl := Option.some.inj H
              have p243 : 0 ≤ (x3_2 : Int) := of_decide_eq_true (by first | (with_reducible assumption) | assumption)
              have q243 : x3_2 < (l0.length : Int) := of_decide_eq_true (by first | (with_reducible assumption) | assumption)
              obtain ⟨ad243, A243_1, c243_1, e243, hx243_0, hx243_1, hx243_2, hx243_3, hl243_1, hi243_1⟩ := at_T39 HR0.out x3_2 p243 q243
              cases e243
              replace hx243_0 := (HB.out.cell (World.block_lt_of_cell? w _ hx243_0)).trans hx243_0
              replace hx243_1 := (HB.out.cell (World.block_lt_of_cell? w _ hx243_1)).trans hx243_1
              replace hx243_2 := (HB.out.cell (World.block_lt_of_cell? w _ hx243_2)).trans hx243_2
              replace hx243_3 := (HB.out.cell (World.block_lt_of_cell? w _ hx243_3)).trans hx243_3
              have HR243_1 := Aside0.mk hi243_1
              have HC243_1 := Aside0.mk hl243_1
              clear hi243_1 hl243_1
              replace p243 := eq_true p243
              replace q243 := eq_true q243
              go_wp2_with (first | ((with_reducible refine gate_dst (N := 4) rfl ?_); (try (refine gate_guard (by rfl) ?_; dsimp only)); refine box_event ?hg (N := 4) ?hd (cs := #[.int .i64 0, .slice none 0 0, .int .i64 0, .int .i64 0]) (t := 39) ?hr ?_; (case hd => rfl); (case hg => rfl); (case hr => first | (go_simp; done) | (go_simp; rfl)); intro gb244 hg w37 hbox hb; have n0_ := Aside0.mk (below_step (by repeat (first | (with_reducible first | exact HB.out | apply below_alloc | apply pw_below_drewN | apply below_drew1) | exact HB.out)) hb); have n1_ := Aside0.mk (hbox); have n2_ := Aside0.mk ((by rw [hg]; exact (below_size (by repeat (first | (with_reducible first | exact HB.out | apply below_alloc | apply pw_below_drewN | apply below_drew1) | exact HB.out))) : w.heap.size ≤ gb244)); have n3_ := Aside0.mk ((by rw [hg]; exact (below_size (by repeat (first | (with_reducible first | exact HB.out | apply below_alloc | apply pw_below_drewN | apply below_drew1) | exact HB.out))) : w.heap.size ≤ gb244)); clear HB; have HB := n0_; have BK244 := n1_; have GW244 := n2_; have GE244 := n3_; clear n0_ n1_ n2_ n3_; clear hb hbox hg; have hcz38_0 : w37.cell? ⟨gb244, 0, none⟩ = some (.int .i64 0) := (blk_cell BK244.out 0).trans rfl; have hcz38_1 : w37.cell? ⟨gb244, 1, none⟩ = some (.slice none 0 0) := (blk_cell BK244.out 1).trans rfl; have hcz38_2 : w37.cell? ⟨gb244, 2, none⟩ = some (.int .i64 0) := (blk_cell BK244.out 2).trans rfl; have hcz38_3 : w37.cell? ⟨gb244, 3, none⟩ = some (.int .i64 0) := (blk_cell BK244.out 3).trans rfl; have hfz38_0 := blk_frozen BK244.out 0; have hfz38_1 := blk_frozen BK244.out 1; have hfz38_2 := blk_frozen BK244.out 2; have hfz38_3 := blk_frozen BK244.out 3))
              go_ret
              exact ⟨by first | rfl | (simp [errW_none, errW_some] <;> rfl) | (simp [*, errW_none, errW_some] <;> rfl), by repeat (first | (with_reducible first | exact HB.out | apply below_alloc | apply pw_below_drewN | apply below_drew1 | refine below_set ?_ GE244.out) | exact HB.out)⟩
            rw [if_neg c36] at H
            have c36b0 : decide ((l0.length : Int) ≤ ((rd_T39 l0 x3_2).f2)) = false := decide_eq_false c36
            clear c36
            have H' := Aside0.mk H
            clear H
            have p243 : 0 ≤ (x3_2 : Int) := of_decide_eq_true (by first | (with_reducible assumption) | assumption)
            have q243 : x3_2 < (l0.length : Int) := of_decide_eq_true (by first | (with_reducible assumption) | assumption)
            obtain ⟨ad243, A243_1, c243_1, e243, hx243_0, hx243_1, hx243_2, hx243_3, hl243_1, hi243_1⟩ := at_T39 HR0.out x3_2 p243 q243
            cases e243
            replace hx243_0 := (HB.out.cell (World.block_lt_of_cell? w _ hx243_0)).trans hx243_0
            replace hx243_1 := (HB.out.cell (World.block_lt_of_cell? w _ hx243_1)).trans hx243_1
            replace hx243_2 := (HB.out.cell (World.block_lt_of_cell? w _ hx243_2)).trans hx243_2
            replace hx243_3 := (HB.out.cell (World.block_lt_of_cell? w _ hx243_3)).trans hx243_3
            have HR243_1 := Aside0.mk hi243_1
            have HC243_1 := Aside0.mk hl243_1
            clear hi243_1 hl243_1
            replace p243 := eq_true p243
            replace q243 := eq_true q243
            go_wp2_with (first | ((with_reducible refine gate_dst (N := 4) rfl ?_); (try (refine gate_guard (by rfl) ?_; dsimp only)); refine box_event ?hg (N := 4) ?hd (cs := #[.int .i64 0, .slice none 0 0, .int .i64 0, .int .i64 0]) (t := 39) ?hr ?_; (case hd => rfl); (case hg => rfl); (case hr => first | (go_simp; done) | (go_simp; rfl)); intro gb244 hg w39 hbox hb; have n0_ := Aside0.mk (below_step (by repeat (first | (with_reducible first | exact HB.out | apply below_alloc | apply pw_below_drewN | apply below_drew1) | exact HB.out)) hb); have n1_ := Aside0.mk (hbox); have n2_ := Aside0.mk ((by rw [hg]; exact (below_size (by repeat (first | (with_reducible first | exact HB.out | apply below_alloc | apply pw_below_drewN | apply below_drew1) | exact HB.out))) : w.heap.size ≤ gb244)); have n3_ := Aside0.mk ((by rw [hg]; exact (below_size (by repeat (first | (with_reducible first | exact HB.out | apply below_alloc | apply pw_below_drewN | apply below_drew1) | exact HB.out))) : w.heap.size ≤ gb244)); clear HB; have HB := n0_; have BK244 := n1_; have GW244 := n2_; have GE244 := n3_; clear n0_ n1_ n2_ n3_; clear hb hbox hg; have hcz40_0 : w39.cell? ⟨gb244, 0, none⟩ = some (.int .i64 0) := (blk_cell BK244.out 0).trans rfl; have hcz40_1 : w39.cell? ⟨gb244, 1, none⟩ = some (.slice none 0 0) := (blk_cell BK244.out 1).trans rfl; have hcz40_2 : w39.cell? ⟨gb244, 2, none⟩ = some (.int .i64 0) := (blk_cell BK244.out 2).trans rfl; have hcz40_3 : w39.cell? ⟨gb244, 3, none⟩ = some (.int .i64 0) := (blk_cell BK244.out 3).trans rfl; have hfz40_0 := blk_frozen BK244.out 0; have hfz40_1 := blk_frozen BK244.out 1; have hfz40_2 := blk_frozen BK244.out 2; have hfz40_3 := blk_frozen BK244.out 3))
            go_roundg k2
            case measure => have := HJ1.out; have := HK2.out; omega
            case rel => exact ⟨(wrap64 (x3_2 + 1)), (by first | rfl | (simp; done) | (simp [*]; done)), H', ⟨by have := HJ1.out; have := HK2.out; omega⟩, ⟨by repeat (first | (with_reducible first | exact HB.out | apply below_alloc | apply pw_below_drewN | apply below_drew1 | refine below_set ?_ GE244.out) | exact HB.out)⟩⟩
          rw [if_pos c17] at H
          have c17b0 : (((rd_T39 l0 x3_2).f0) == 2) = true := beq_iff_eq.mpr c17
          have c17b1 : (((rd_T39 l0 x3_2).f0) != 2) = false := bne_eq_false_iff_eq.mpr c17
          clear c17
          by_cases c18 : ((rd_T39 l0 x3_2).f2) < 0
          · rw [if_pos c18] at H
            have c18b0 : decide (((rd_T39 l0 x3_2).f2) < 0) = true := decide_eq_true c18
            clear c18
            obtain rfl := Option.some.inj H
            have p243 : 0 ≤ (x3_2 : Int) := of_decide_eq_true (by first | (with_reducible assumption) | assumption)
            have q243 : x3_2 < (l0.length : Int) := of_decide_eq_true (by first | (with_reducible assumption) | assumption)
            obtain ⟨ad243, A243_1, c243_1, e243, hx243_0, hx243_1, hx243_2, hx243_3, hl243_1, hi243_1⟩ := at_T39 HR0.out x3_2 p243 q243
            cases e243
            replace hx243_0 := (HB.out.cell (World.block_lt_of_cell? w _ hx243_0)).trans hx243_0
            replace hx243_1 := (HB.out.cell (World.block_lt_of_cell? w _ hx243_1)).trans hx243_1
            replace hx243_2 := (HB.out.cell (World.block_lt_of_cell? w _ hx243_2)).trans hx243_2
            replace hx243_3 := (HB.out.cell (World.block_lt_of_cell? w _ hx243_3)).trans hx243_3
            have HR243_1 := Aside0.mk hi243_1
            have HC243_1 := Aside0.mk hl243_1
            clear hi243_1 hl243_1
            replace p243 := eq_true p243
            replace q243 := eq_true q243
            go_wp2_with (first | ((with_reducible refine gate_dst (N := 4) rfl ?_); (try (refine gate_guard (by rfl) ?_; dsimp only)); refine box_event ?hg (N := 4) ?hd (cs := #[.int .i64 0, .slice none 0 0, .int .i64 0, .int .i64 0]) (t := 39) ?hr ?_; (case hd => rfl); (case hg => rfl); (case hr => first | (go_simp; done) | (go_simp; rfl)); intro gb244 hg w19 hbox hb; have n0_ := Aside0.mk (below_step (by repeat (first | (with_reducible first | exact HB.out | apply below_alloc | apply pw_below_drewN | apply below_drew1) | exact HB.out)) hb); have n1_ := Aside0.mk (hbox); have n2_ := Aside0.mk ((by rw [hg]; exact (below_size (by repeat (first | (with_reducible first | exact HB.out | apply below_alloc | apply pw_below_drewN | apply below_drew1) | exact HB.out))) : w.heap.size ≤ gb244)); have n3_ := Aside0.mk ((by rw [hg]; exact (below_size (by repeat (first | (with_reducible first | exact HB.out | apply below_alloc | apply pw_below_drewN | apply below_drew1) | exact HB.out))) : w.heap.size ≤ gb244)); clear HB; have HB := n0_; have BK244 := n1_; have GW244 := n2_; have GE244 := n3_; clear n0_ n1_ n2_ n3_; clear hb hbox hg; have hcz20_0 : w19.cell? ⟨gb244, 0, none⟩ = some (.int .i64 0) := (blk_cell BK244.out 0).trans rfl; have hcz20_1 : w19.cell? ⟨gb244, 1, none⟩ = some (.slice none 0 0) := (blk_cell BK244.out 1).trans rfl; have hcz20_2 : w19.cell? ⟨gb244, 2, none⟩ = some (.int .i64 0) := (blk_cell BK244.out 2).trans rfl; have hcz20_3 : w19.cell? ⟨gb244, 3, none⟩ = some (.int .i64 0) := (blk_cell BK244.out 3).trans rfl; have hfz20_0 := blk_frozen BK244.out 0; have hfz20_1 := blk_frozen BK244.out 1; have hfz20_2 := blk_frozen BK244.out 2; have hfz20_3 := blk_frozen BK244.out 3))
            go_ret
            exact ⟨by first | rfl | (simp [errW_none, errW_some] <;> rfl) | (simp [*, errW_none, errW_some] <;> rfl), by repeat (first | (with_reducible first | exact HB.out | apply below_alloc | apply pw_below_drewN | apply below_drew1 | refine below_set ?_ GE244.out) | exact HB.out)⟩
          rw [if_neg c18] at H
          have c18b0 : decide (((rd_T39 l0 x3_2).f2) < 0) = false := decide_eq_false c18
          clear c18
          by_cases c21 : ((rd_T39 l0 x3_2).f2) ≥ (l0.length : Int)
          · rw [if_pos c21] at H
            have c21b0 : decide ((l0.length : Int) ≤ ((rd_T39 l0 x3_2).f2)) = true := decide_eq_true c21
            clear c21
            obtain rfl := Option.some.inj H
            have p243 : 0 ≤ (x3_2 : Int) := of_decide_eq_true (by first | (with_reducible assumption) | assumption)
            have q243 : x3_2 < (l0.length : Int) := of_decide_eq_true (by first | (with_reducible assumption) | assumption)
            obtain ⟨ad243, A243_1, c243_1, e243, hx243_0, hx243_1, hx243_2, hx243_3, hl243_1, hi243_1⟩ := at_T39 HR0.out x3_2 p243 q243
            cases e243
            replace hx243_0 := (HB.out.cell (World.block_lt_of_cell? w _ hx243_0)).trans hx243_0
            replace hx243_1 := (HB.out.cell (World.block_lt_of_cell? w _ hx243_1)).trans hx243_1
            replace hx243_2 := (HB.out.cell (World.block_lt_of_cell? w _ hx243_2)).trans hx243_2
            replace hx243_3 := (HB.out.cell (World.block_lt_of_cell? w _ hx243_3)).trans hx243_3
            have HR243_1 := Aside0.mk hi243_1
            have HC243_1 := Aside0.mk hl243_1
            clear hi243_1 hl243_1
            replace p243 := eq_true p243
            replace q243 := eq_true q243
            go_wp2_with (first | ((with_reducible refine gate_dst (N := 4) rfl ?_); (try (refine gate_guard (by rfl) ?_; dsimp only)); refine box_event ?hg (N := 4) ?hd (cs := #[.int .i64 0, .slice none 0 0, .int .i64 0, .int .i64 0]) (t := 39) ?hr ?_; (case hd => rfl); (case hg => rfl); (case hr => first | (go_simp; done) | (go_simp; rfl)); intro gb244 hg w22 hbox hb; have n0_ := Aside0.mk (below_step (by repeat (first | (with_reducible first | exact HB.out | apply below_alloc | apply pw_below_drewN | apply below_drew1) | exact HB.out)) hb); have n1_ := Aside0.mk (hbox); have n2_ := Aside0.mk ((by rw [hg]; exact (below_size (by repeat (first | (with_reducible first | exact HB.out | apply below_alloc | apply pw_below_drewN | apply below_drew1) | exact HB.out))) : w.heap.size ≤ gb244)); have n3_ := Aside0.mk ((by rw [hg]; exact (below_size (by repeat (first | (with_reducible first | exact HB.out | apply below_alloc | apply pw_below_drewN | apply below_drew1) | exact HB.out))) : w.heap.size ≤ gb244)); clear HB; have HB := n0_; have BK244 := n1_; have GW244 := n2_; have GE244 := n3_; clear n0_ n1_ n2_ n3_; clear hb hbox hg; have hcz23_0 : w22.cell? ⟨gb244, 0, none⟩ = some (.int .i64 0) := (blk_cell BK244.out 0).trans rfl; have hcz23_1 : w22.cell? ⟨gb244, 1, none⟩ = some (.slice none 0 0) := (blk_cell BK244.out 1).trans rfl; have hcz23_2 : w22.cell? ⟨gb244, 2, none⟩ = some (.int .i64 0) := (blk_cell BK244.out 2).trans rfl; have hcz23_3 : w22.cell? ⟨gb244, 3, none⟩ = some (.int .i64 0) := (blk_cell BK244.out 3).trans rfl; have hfz23_0 := blk_frozen BK244.out 0; have hfz23_1 := blk_frozen BK244.out 1; have hfz23_2 := blk_frozen BK244.out 2; have hfz23_3 := blk_frozen BK244.out 3))
            go_ret
            exact ⟨by first | rfl | (simp [errW_none, errW_some] <;> rfl) | (simp [*, errW_none, errW_some] <;> rfl), by repeat (first | (with_reducible first | exact HB.out | apply below_alloc | apply pw_below_drewN | apply below_drew1 | refine below_set ?_ GE244.out) | exact HB.out)⟩
          rw [if_neg c21] at H
          have c21b0 : decide ((l0.length : Int) ≤ ((rd_T39 l0 x3_2).f2)) = false := decide_eq_false c21
          clear c21
          by_cases c24 : ((rd_T39 l0 x3_2).f3) < 0
          · rw [if_pos c24] at H
            have c24b0 : decide (((rd_T39 l0 x3_2).f3) < 0) = true := decide_eq_true c24
            clear c24
            obtain rfl := Option.some.inj H
            have p243 : 0 ≤ (x3_2 : Int) := of_decide_eq_true (by first | (with_reducible assumption) | assumption)
            have q243 : x3_2 < (l0.length : Int) := of_decide_eq_true (by first | (with_reducible assumption) | assumption)
            obtain ⟨ad243, A243_1, c243_1, e243, hx243_0, hx243_1, hx243_2, hx243_3, hl243_1, hi243_1⟩ := at_T39 HR0.out x3_2 p243 q243
            cases e243
            replace hx243_0 := (HB.out.cell (World.block_lt_of_cell? w _ hx243_0)).trans hx243_0
            replace hx243_1 := (HB.out.cell (World.block_lt_of_cell? w _ hx243_1)).trans hx243_1
            replace hx243_2 := (HB.out.cell (World.block_lt_of_cell? w _ hx243_2)).trans hx243_2
            replace hx243_3 := (HB.out.cell (World.block_lt_of_cell? w _ hx243_3)).trans hx243_3
            have HR243_1 := Aside0.mk hi243_1
            have HC243_1 := Aside0.mk hl243_1
            clear hi243_1 hl243_1
            replace p243 := eq_true p243
            replace q243 := eq_true q243
            go_wp2_with (first | ((with_reducible refine gate_dst (N := 4) rfl ?_); (try (refine gate_guard (by rfl) ?_; dsimp only)); refine box_event ?hg (N := 4) ?hd (cs := #[.int .i64 0, .slice none 0 0, .int .i64 0, .int .i64 0]) (t := 39) ?hr ?_; (case hd => rfl); (case hg => rfl); (case hr => first | (go_simp; done) | (go_simp; rfl)); intro gb244 hg w25 hbox hb; have n0_ := Aside0.mk (below_step (by repeat (first | (with_reducible first | exact HB.out | apply below_alloc | apply pw_below_drewN | apply below_drew1) | exact HB.out)) hb); have n1_ := Aside0.mk (hbox); have n2_ := Aside0.mk ((by rw [hg]; exact (below_size (by repeat (first | (with_reducible first | exact HB.out | apply below_alloc | apply pw_below_drewN | apply below_drew1) | exact HB.out))) : w.heap.size ≤ gb244)); have n3_ := Aside0.mk ((by rw [hg]; exact (below_size (by repeat (first | (with_reducible first | exact HB.out | apply below_alloc | apply pw_below_drewN | apply below_drew1) | exact HB.out))) : w.heap.size ≤ gb244)); clear HB; have HB := n0_; have BK244 := n1_; have GW244 := n2_; have GE244 := n3_; clear n0_ n1_ n2_ n3_; clear hb hbox hg; have hcz26_0 : w25.cell? ⟨gb244, 0, none⟩ = some (.int .i64 0) := (blk_cell BK244.out 0).trans rfl; have hcz26_1 : w25.cell? ⟨gb244, 1, none⟩ = some (.slice none 0 0) := (blk_cell BK244.out 1).trans rfl; have hcz26_2 : w25.cell? ⟨gb244, 2, none⟩ = some (.int .i64 0) := (blk_cell BK244.out 2).trans rfl; have hcz26_3 : w25.cell? ⟨gb244, 3, none⟩ = some (.int .i64 0) := (blk_cell BK244.out 3).trans rfl; have hfz26_0 := blk_frozen BK244.out 0; have hfz26_1 := blk_frozen BK244.out 1; have hfz26_2 := blk_frozen BK244.out 2; have hfz26_3 := blk_frozen BK244.out 3))
            go_ret
            exact ⟨by first | rfl | (simp [errW_none, errW_some] <;> rfl) | (simp [*, errW_none, errW_some] <;> rfl), by repeat (first | (with_reducible first | exact HB.out | apply below_alloc | apply pw_below_drewN | apply below_drew1 | refine below_set ?_ GE244.out) | exact HB.out)⟩
          rw [if_neg c24] at H
          have c24b0 : decide (((rd_T39 l0 x3_2).f3) < 0) = false := decide_eq_false c24
          clear c24
          by_cases c27 : ((rd_T39 l0 x3_2).f3) ≥ (l0.length : Int)
          · rw [if_pos c27] at H
            have c27b0 : decide ((l0.length : Int) ≤ ((rd_T39 l0 x3_2).f3)) = true := decide_eq_true c27
            clear c27
            obtain rfl := Option.some.inj H
            have p243 : 0 ≤ (x3_2 : Int) := of_decide_eq_true (by first | (with_reducible assumption) | assumption)
            have q243 : x3_2 < (l0.length : Int) := of_decide_eq_true (by first | (with_reducible assumption) | assumption)
            obtain ⟨ad243, A243_1, c243_1, e243, hx243_0, hx243_1, hx243_2, hx243_3, hl243_1, hi243_1⟩ := at_T39 HR0.out x3_2 p243 q243
            cases e243
            replace hx243_0 := (HB.out.cell (World.block_lt_of_cell? w _ hx243_0)).trans hx243_0
            replace hx243_1 := (HB.out.cell (World.block_lt_of_cell? w _ hx243_1)).trans hx243_1
            replace hx243_2 := (HB.out.cell (World.block_lt_of_cell? w _ hx243_2)).trans hx243_2
            replace hx243_3 := (HB.out.cell (World.block_lt_of_cell? w _ hx243_3)).trans hx243_3
            have HR243_1 := Aside0.mk hi243_1
            have HC243_1 := Aside0.mk hl243_1
            clear hi243_1 hl243_1
            replace p243 := eq_true p243
            replace q243 := eq_true q243
            go_wp2_with (first | ((with_reducible refine gate_dst (N := 4) rfl ?_); (try (refine gate_guard (by rfl) ?_; dsimp only)); refine box_event ?hg (N := 4) ?hd (cs := #[.int .i64 0, .slice none 0 0, .int .i64 0, .int .i64 0]) (t := 39) ?hr ?_; (case hd => rfl); (case hg => rfl); (case hr => first | (go_simp; done) | (go_simp; rfl)); intro gb244 hg w28 hbox hb; have n0_ := Aside0.mk (below_step (by repeat (first | (with_reducible first | exact HB.out | apply below_alloc | apply pw_below_drewN | apply below_drew1) | exact HB.out)) hb); have n1_ := Aside0.mk (hbox); have n2_ := Aside0.mk ((by rw [hg]; exact (below_size (by repeat (first | (with_reducible first | exact HB.out | apply below_alloc | apply pw_below_drewN | apply below_drew1) | exact HB.out))) : w.heap.size ≤ gb244)); have n3_ := Aside0.mk ((by rw [hg]; exact (below_size (by repeat (first | (with_reducible first | exact HB.out | apply below_alloc | apply pw_below_drewN | apply below_drew1) | exact HB.out))) : w.heap.size ≤ gb244)); clear HB; have HB := n0_; have BK244 := n1_; have GW244 := n2_; have GE244 := n3_; clear n0_ n1_ n2_ n3_; clear hb hbox hg; have hcz29_0 : w28.cell? ⟨gb244, 0, none⟩ = some (.int .i64 0) := (blk_cell BK244.out 0).trans rfl; have hcz29_1 : w28.cell? ⟨gb244, 1, none⟩ = some (.slice none 0 0) := (blk_cell BK244.out 1).trans rfl; have hcz29_2 : w28.cell? ⟨gb244, 2, none⟩ = some (.int .i64 0) := (blk_cell BK244.out 2).trans rfl; have hcz29_3 : w28.cell? ⟨gb244, 3, none⟩ = some (.int .i64 0) := (blk_cell BK244.out 3).trans rfl; have hfz29_0 := blk_frozen BK244.out 0; have hfz29_1 := blk_frozen BK244.out 1; have hfz29_2 := blk_frozen BK244.out 2; have hfz29_3 := blk_frozen BK244.out 3))
            go_ret
            exact ⟨by first | rfl | (simp [errW_none, errW_some] <;> rfl) | (simp [*, errW_none, errW_some] <;> rfl), by repeat (first | (with_reducible first | exact HB.out | apply below_alloc | apply pw_below_drewN | apply below_drew1 | refine below_set ?_ GE244.out) | exact HB.out)⟩
          rw [if_neg c27] at H
          have c27b0 : decide ((l0.length : Int) ≤ ((rd_T39 l0 x3_2).f3)) = false := decide_eq_false c27
          clear c27
          have H' := Aside0.mk H
          clear H
          have p243 : 0 ≤ (x3_2 : Int) := of_decide_eq_true (by first | (with_reducible assumption) | assumption)
          have q243 : x3_2 < (l0.length : Int) := of_decide_eq_true (by first | (with_reducible assumption) | assumption)
          obtain ⟨ad243, A243_1, c243_1, e243, hx243_0, hx243_1, hx243_2, hx243_3, hl243_1, hi243_1⟩ := at_T39 HR0.out x3_2 p243 q243
          cases e243
          replace hx243_0 := (HB.out.cell (World.block_lt_of_cell? w _ hx243_0)).trans hx243_0
          replace hx243_1 := (HB.out.cell (World.block_lt_of_cell? w _ hx243_1)).trans hx243_1
          replace hx243_2 := (HB.out.cell (World.block_lt_of_cell? w _ hx243_2)).trans hx243_2
          replace hx243_3 := (HB.out.cell (World.block_lt_of_cell? w _ hx243_3)).trans hx243_3
          have HR243_1 := Aside0.mk hi243_1
          have HC243_1 := Aside0.mk hl243_1
          clear hi243_1 hl243_1
          replace p243 := eq_true p243
          replace q243 := eq_true q243
          go_wp2_with (first | ((with_reducible refine gate_dst (N := 4) rfl ?_); (try (refine gate_guard (by rfl) ?_; dsimp only)); refine box_event ?hg (N := 4) ?hd (cs := #[.int .i64 0, .slice none 0 0, .int .i64 0, .int .i64 0]) (t := 39) ?hr ?_; (case hd => rfl); (case hg => rfl); (case hr => first | (go_simp; done) | (go_simp; rfl)); intro gb244 hg w30 hbox hb; have n0_ := Aside0.mk (below_step (by repeat (first | (with_reducible first | exact HB.out | apply below_alloc | apply pw_below_drewN | apply below_drew1) | exact HB.out)) hb); have n1_ := Aside0.mk (hbox); have n2_ := Aside0.mk ((by rw [hg]; exact (below_size (by repeat (first | (with_reducible first | exact HB.out | apply below_alloc | apply pw_below_drewN | apply below_drew1) | exact HB.out))) : w.heap.size ≤ gb244)); have n3_ := Aside0.mk ((by rw [hg]; exact (below_size (by repeat (first | (with_reducible first | exact HB.out | apply below_alloc | apply pw_below_drewN | apply below_drew1) | exact HB.out))) : w.heap.size ≤ gb244)); clear HB; have HB := n0_; have BK244 := n1_; have GW244 := n2_; have GE244 := n3_; clear n0_ n1_ n2_ n3_; clear hb hbox hg; have hcz31_0 : w30.cell? ⟨gb244, 0, none⟩ = some (.int .i64 0) := (blk_cell BK244.out 0).trans rfl; have hcz31_1 : w30.cell? ⟨gb244, 1, none⟩ = some (.slice none 0 0) := (blk_cell BK244.out 1).trans rfl; have hcz31_2 : w30.cell? ⟨gb244, 2, none⟩ = some (.int .i64 0) := (blk_cell BK244.out 2).trans rfl; have hcz31_3 : w30.cell? ⟨gb244, 3, none⟩ = some (.int .i64 0) := (blk_cell BK244.out 3).trans rfl; have hfz31_0 := blk_frozen BK244.out 0; have hfz31_1 := blk_frozen BK244.out 1; have hfz31_2 := blk_frozen BK244.out 2; have hfz31_3 := blk_frozen BK244.out 3))
          go_roundg k2
          case measure => have := HJ1.out; have := HK2.out; omega
          case rel => exact ⟨(wrap64 (x3_2 + 1)), (by first | rfl | (simp; done) | (simp [*]; done)), H', ⟨by have := HJ1.out; have := HK2.out; omega⟩, ⟨by repeat (first | (with_reducible first | exact HB.out | apply below_alloc | apply pw_below_drewN | apply below_drew1 | refine below_set ?_ GE244.out) | exact HB.out)⟩⟩

end Go.Proofs.Ytbbplchdgedhcaa.P
namespace Go.Proofs.Ytbbplchdgedhcaa.P
open Go.RowKit Go.Proofs.YtbbplchdgedhcaaW.PrintWords Go.Proofs.YtbbplchdgedhcaaW.PrintLast
set_option linter.unusedVariables false
set_option linter.unusedSimpArgs false

def ductusref19_Count.l0 : Nat → List (S39) → Int → Int → Int → Option (Int)
  | 0, _, _, _, _ => none
  | k + 1, x0, x1, x5, x6 => if x6 < (x0.length : Int) then (if 0 ≤ x6 then (if ((rd_T39 x0 x6).f0) = x1 then (ductusref19_Count.l0 k x0 x1 (wrap64 (x5 + 1)) (wrap64 (x6 + 1))) else (ductusref19_Count.l0 k x0 x1 x5 (wrap64 (x6 + 1)))) else (none)) else (some x5)
def ductusref19_Count.f (k : Nat) (l0 : List (S39)) (a1 : Int) : Option (Int) := ductusref19_Count.l0 k l0 a1 0 0
set_option maxHeartbeats 8000000 in
set_option maxRecDepth 100000 in
theorem ductusref19_Count.calls (k : Nat) (A0 : Option Addr) (c0 : Nat) (l0 : List (S39)) (a1 : Int) (r : Int) (w : World) (hr0 : Kd.C k39 w A0 l0.length l0) (hc0 : l0.length ≤ c0) (h : ductusref19_Count.f k l0 a1 = some r) :
    Calls Try.prog 17 #[.slice A0 l0.length c0, .int .i64 a1] w fun e w' => e = .returned (.int .i64 r) ∧ Drawn0 w w' := by
  have HR0 := Aside0.mk hr0
  have HC0 := Aside0.mk hc0
  clear hr0 hc0
  have H : (ductusref19_Count.l0 k l0 a1 0 0) = some r := h
  clear h
  have H' := Aside0.mk H
  clear H
  go_enter Try.func17, Try.ntmps17
  go_wp2
  go_loopg [5, 6] k (fun kq v5 v6 w' => ∃ (x5_1 : Int) (x6_1 : Int), v5 = .int .i64 x5_1 ∧ v6 = .int .i64 x6_1 ∧ Aside0 (ductusref19_Count.l0 kq l0 a1 x5_1 x6_1 = some r) ∧ Aside0 (kq ≤ k) ∧ Drawn0 w w')
  case atStart => exact ⟨(0), (0), (by first | rfl | (simp; done) | (simp [*]; done)), (by first | rfl | (simp; done) | (simp [*]; done)), H', ⟨Nat.le_refl _⟩, by repeat (first | exact Drawn0.refl _ | apply Drawn0.step)⟩
  case round =>
    clear H'
    try clear c1
    try clear p2
    obtain ⟨x5_1, x6_1, rfl, rfl, HA, HK1, ⟨m1, rfl⟩⟩ := hrel
    cases gk with
    | zero => exact absurd HA.out (by simp [ductusref19_Count.l0])
    | succ k1 =>
      have H := HA.out
      clear HA
      simp only [ductusref19_Count.l0] at H
      by_cases c3 : x6_1 < (l0.length : Int)
      rotate_left
      · rw [if_neg c3] at H
        have c3b0 : decide (x6_1 < (l0.length : Int)) = false := decide_eq_false c3
        clear c3
        obtain rfl := Option.some.inj H
        go_wp2
        go_ret
        exact ⟨by first | rfl | (simp; done) | (simp [*]; done), by repeat (first | exact Drawn0.refl _ | apply Drawn0.step)⟩
      rw [if_pos c3] at H
      have c3b0 : decide (x6_1 < (l0.length : Int)) = true := decide_eq_true c3
      clear c3
      by_cases c4 : 0 ≤ x6_1
      rotate_left
      · rw [if_neg c4] at H
        exact absurd H (by simp)
      rw [if_pos c4] at H
      have c4b0 : decide (0 ≤ x6_1) = true := decide_eq_true c4
      clear c4
      by_cases c5 : ((rd_T39 l0 x6_1).f0) = a1
      rotate_left
      · rw [if_neg c5] at H
        have c5b0 : (((rd_T39 l0 x6_1).f0) == a1) = false := beq_eq_false_iff_ne.mpr c5
        have c5b1 : (((rd_T39 l0 x6_1).f0) != a1) = true := bne_iff_ne.mpr c5
        have H' := Aside0.mk H
        clear H
        have p245 : 0 ≤ (x6_1 : Int) := of_decide_eq_true (by first | (with_reducible assumption) | assumption)
        have q245 : x6_1 < (l0.length : Int) := of_decide_eq_true (by first | (with_reducible assumption) | assumption)
        obtain ⟨ad245, A245_1, c245_1, e245, hx245_0, hx245_1, hx245_2, hx245_3, hl245_1, hi245_1⟩ := at_T39 HR0.out x6_1 p245 q245
        cases e245
        have HR245_1 := Aside0.mk hi245_1
        have HC245_1 := Aside0.mk hl245_1
        clear hi245_1 hl245_1
        replace p245 := eq_true p245
        replace q245 := eq_true q245
        go_wp2
        go_roundg k1
        case measure => have := HK1.out; omega
        case rel => exact ⟨(x5_1), (wrap64 (x6_1 + 1)), (by first | rfl | (simp; done) | (simp [*]; done)), (by first | rfl | (simp; done) | (simp [*]; done)), H', ⟨by have := HK1.out; omega⟩, by repeat (first | exact Drawn0.refl _ | apply Drawn0.step)⟩
      rw [if_pos c5] at H
      have c5b0 : (((rd_T39 l0 x6_1).f0) == a1) = true := beq_iff_eq.mpr c5
      have c5b1 : (((rd_T39 l0 x6_1).f0) != a1) = false := bne_eq_false_iff_eq.mpr c5
      clear c5
      have H' := Aside0.mk H
      clear H
      have p245 : 0 ≤ (x6_1 : Int) := of_decide_eq_true (by first | (with_reducible assumption) | assumption)
      have q245 : x6_1 < (l0.length : Int) := of_decide_eq_true (by first | (with_reducible assumption) | assumption)
      obtain ⟨ad245, A245_1, c245_1, e245, hx245_0, hx245_1, hx245_2, hx245_3, hl245_1, hi245_1⟩ := at_T39 HR0.out x6_1 p245 q245
      cases e245
      have HR245_1 := Aside0.mk hi245_1
      have HC245_1 := Aside0.mk hl245_1
      clear hi245_1 hl245_1
      replace p245 := eq_true p245
      replace q245 := eq_true q245
      go_wp2
      go_roundg k1
      case measure => have := HK1.out; omega
      case rel => exact ⟨(wrap64 (x5_1 + 1)), (wrap64 (x6_1 + 1)), (by first | rfl | (simp; done) | (simp [*]; done)), (by first | rfl | (simp; done) | (simp [*]; done)), H', ⟨by have := HK1.out; omega⟩, by repeat (first | exact Drawn0.refl _ | apply Drawn0.step)⟩

def ductuslaw19_NfaAnswers.j0 : Nat → List (S39) → List (S39) → Int → Bool → Option (Bool)
  | 0, _, _, _, _ => none
  | k + 1, x0, x1, x2, x14 => if x14 = true then (some true) else ((nfa_Right.f x0).bind fun t249 => ((ductusref19_Right.f k x0).bind fun t250 => (if (t249 == t250) = true then ((nfa_Count.f k x0 x2).bind fun t251 => ((ductusref19_Count.f k x0 x2).bind fun t252 => (if t251 = t252 then ((nfa_Same.f k x0 x1).bind fun t253 => ((ductusref19_Same.f k x0 x1).bind fun t254 => (if (t253 == t254) = true then ((nfa_Same.f k x0 x0).bind fun t255 => (some t255)) else (none)))) else (none)))) else (none))))
def ductuslaw19_NfaAnswers.f (k : Nat) (l0 : List (S39)) (l1 : List (S39)) (a2 : Int) : Option (Bool) := (ductuslaw19_alive.f).bind fun t246 => (if t246 = true then ((ductusref19_Great.f k l0).bind fun t247 => (if t247 = true then (ductuslaw19_NfaAnswers.j0 k l0 l1 a2 true) else ((ductusref19_Great.f k l1).bind fun t248 => (ductuslaw19_NfaAnswers.j0 k l0 l1 a2 t248)))) else (none))
set_option maxHeartbeats 8000000 in
set_option maxRecDepth 100000 in
theorem ductuslaw19_NfaAnswers.calls (k : Nat) (A0 : Option Addr) (c0 : Nat) (l0 : List (S39)) (A1 : Option Addr) (c1 : Nat) (l1 : List (S39)) (a2 : Int) (r : Bool) (w : World) (hr0 : Kd.C k39 w A0 l0.length l0) (hc0 : l0.length ≤ c0) (hr1 : Kd.C k39 w A1 l1.length l1) (hc1 : l1.length ≤ c1) (h : ductuslaw19_NfaAnswers.f k l0 l1 a2 = some r) :
    Calls Try.prog 4 #[.slice A0 l0.length c0, .slice A1 l1.length c1, .int .i64 a2] w fun e w' => e = .returned (.bool r) ∧ Below w.heap.size w w' := by
  have HR0 := Aside0.mk hr0
  have HC0 := Aside0.mk hc0
  clear hr0 hc0
  have HR1 := Aside0.mk hr1
  have HC1 := Aside0.mk hc1
  clear hr1 hc1
  have HB := Aside0.mk (Below.refl w.heap.size w)
  have H : ((ductuslaw19_alive.f).bind fun t246 => (if t246 = true then ((ductusref19_Great.f k l0).bind fun t247 => (if t247 = true then (ductuslaw19_NfaAnswers.j0 k l0 l1 a2 true) else ((ductusref19_Great.f k l1).bind fun t248 => (ductuslaw19_NfaAnswers.j0 k l0 l1 a2 t248)))) else (none))) = some r := h
  clear h
  replace H := Option.bind_eq_some_iff.mp H
  obtain ⟨t246, A40, H⟩ := H
  replace H : (if t246 = true then ((ductusref19_Great.f k l0).bind fun t247 => (if t247 = true then (ductuslaw19_NfaAnswers.j0 k l0 l1 a2 true) else ((ductusref19_Great.f k l1).bind fun t248 => (ductuslaw19_NfaAnswers.j0 k l0 l1 a2 t248)))) else (none)) = some r := H
  have A4 := Aside0.mk A40
  clear A40
  by_cases c5 : t246 = true
  rotate_left
  · replace c5 := Bool.eq_false_iff.mpr c5
    subst c5
    have H1 : (none) = some r := by rw [if_neg (show ¬ (false = true) by decide)] at H; exact H
    clear H
    have H := H1
    clear H1
    exact absurd H (by simp)
  subst c5
  have H1 : ((ductusref19_Great.f k l0).bind fun t247 => (if t247 = true then (ductuslaw19_NfaAnswers.j0 k l0 l1 a2 true) else ((ductusref19_Great.f k l1).bind fun t248 => (ductuslaw19_NfaAnswers.j0 k l0 l1 a2 t248)))) = some r := by rw [if_pos rfl] at H; exact H
  clear H
  have H := H1
  clear H1
  have HC6 := Aside0.mk H
  clear H
  go_enter Try.func4, Try.ntmps4
  go_upto_region 3 with (first | ((with_reducible refine gate_callee (f := 7) rfl ?_); refine goesL_ (some 7) rfl rfl Try.func7 (by kernel_rfl) rfl #[] rfl (by (try simp only [List.map_toArray, List.map_cons, List.map_nil]); first | done | rfl | (simp only [List.length_drop, List.length_take]; rfl)) ?_; (with_reducible refine (ductuslaw19_alive.calls  true _ A4.out).mono ?_); rintro e w7 ⟨rfl, hb⟩; refine ⟨_, rfl, ?_⟩; have n0_ := Aside0.mk (below_step (by repeat (first | (with_reducible first | exact HB.out | apply below_alloc | apply pw_below_drewN | apply below_drew1) | exact HB.out)) hb); clear HB; have HB := n0_; clear n0_; (try clear hb); (try clear hb2); (try clear hk); (try clear hi)))
  (try simp only [Act.put, List.setIfInBounds_toArray, List.set_cons_zero, List.set_cons_succ])
  go_cut [14] (fun v14 wc => ∃ (kq : Nat) (x14_5 : Bool), v14 = .bool x14_5 ∧ Aside0 (ductuslaw19_NfaAnswers.j0 kq l0 l1 a2 x14_5 = some r) ∧ Aside0 (kq ≤ k) ∧ Aside0 (Below w.heap.size w wc))
  case first =>
    have H := HC6.out
    clear HC6
    replace H := Option.bind_eq_some_iff.mp H
    obtain ⟨t247, A80, H⟩ := H
    replace H : (if t247 = true then (ductuslaw19_NfaAnswers.j0 k l0 l1 a2 true) else ((ductusref19_Great.f k l1).bind fun t248 => (ductuslaw19_NfaAnswers.j0 k l0 l1 a2 t248))) = some r := H
    have A8 := Aside0.mk A80
    clear A80
    by_cases c9 : t247 = true
    · subst c9
      have H1 : (ductuslaw19_NfaAnswers.j0 k l0 l1 a2 true) = some r := by rw [if_pos rfl] at H; exact H
      clear H
      have H := H1
      clear H1
      have H' := Aside0.mk H
      clear H
      go_wp2_with (first | ((with_reducible refine gate_callee (f := 13) rfl ?_); refine goesL_ (some 10) rfl rfl Try.func13 (by kernel_rfl) rfl #[.slice A0 l0.length c0] rfl (by (try simp only [List.map_toArray, List.map_cons, List.map_nil]); first | done | rfl | (simp only [List.length_drop, List.length_take]; rfl)) ?_; (with_reducible refine (ductusref19_Great.calls k _ _ l0 true _ ?side1 ?side2 A8.out).mono ?_); (case side1 => repeat (first | exact (Kd.C_below HR0.out HB.out) | (with_reducible refine Kd.C_alloc ?_ _) | (with_reducible refine Kd.C_drewN ?_ _) | (with_reducible refine Kd.C_drew ?_))); (case side2 => exact HC0.out); rintro e w' ⟨rfl, ⟨nd, rfl⟩⟩; refine ⟨_, rfl, ?_⟩))
      go_meet
      case rel => exact ⟨_, (true), (by first | rfl | (simp; done) | (simp [*]; done)), H', ⟨by first | omega | exact Nat.le_refl _⟩, ⟨by repeat (first | (with_reducible first | exact HB.out | apply below_alloc | apply pw_below_drewN | apply below_drew1) | exact HB.out)⟩⟩
    replace c9 := Bool.eq_false_iff.mpr c9
    subst c9
    have H1 : ((ductusref19_Great.f k l1).bind fun t248 => (ductuslaw19_NfaAnswers.j0 k l0 l1 a2 t248)) = some r := by rw [if_neg (show ¬ (false = true) by decide)] at H; exact H
    clear H
    have H := H1
    clear H1
    replace H := Option.bind_eq_some_iff.mp H
    obtain ⟨t248, A100, H⟩ := H
    replace H : (ductuslaw19_NfaAnswers.j0 k l0 l1 a2 t248) = some r := H
    have A10 := Aside0.mk A100
    clear A100
    have H' := Aside0.mk H
    clear H
    go_wp2_with (first | ((with_reducible refine gate_callee (f := 13) rfl ?_); refine goesL_ (some 10) rfl rfl Try.func13 (by kernel_rfl) rfl #[.slice A0 l0.length c0] rfl (by (try simp only [List.map_toArray, List.map_cons, List.map_nil]); first | done | rfl | (simp only [List.length_drop, List.length_take]; rfl)) ?_; (with_reducible refine (ductusref19_Great.calls k _ _ l0 false _ ?side1 ?side2 A8.out).mono ?_); (case side1 => repeat (first | exact (Kd.C_below HR0.out HB.out) | (with_reducible refine Kd.C_alloc ?_ _) | (with_reducible refine Kd.C_drewN ?_ _) | (with_reducible refine Kd.C_drew ?_))); (case side2 => exact HC0.out); rintro e w' ⟨rfl, ⟨nd, rfl⟩⟩; refine ⟨_, rfl, ?_⟩) | (go_at_call 13; (with_reducible refine (ductusref19_Great.calls k _ _ l1 t248 _ ?side1 ?side2 A10.out).mono ?_); (case side1 => repeat (first | exact (Kd.C_below HR1.out (by repeat (first | (with_reducible first | exact HB.out | apply below_alloc | apply pw_below_drewN | apply below_drew1) | exact HB.out))) | (with_reducible refine Kd.C_alloc ?_ _) | (with_reducible refine Kd.C_drewN ?_ _) | (with_reducible refine Kd.C_drew ?_))); (case side2 => exact HC1.out); rintro e w' ⟨rfl, ⟨nd, rfl⟩⟩))
    go_meet
    case rel => exact ⟨_, (t248), (by first | rfl | (simp; done) | (simp [*]; done)), H', ⟨by first | omega | exact Nat.le_refl _⟩, ⟨by repeat (first | (with_reducible first | exact HB.out | apply below_alloc | apply pw_below_drewN | apply below_drew1) | exact HB.out)⟩⟩
  case rest =>
    clear HC6
    try clear c1
    try clear p2
    try clear c4
    try clear c5
    try clear c7
    try clear c9
    obtain ⟨kq, x14_5, rfl, HA, HJ5, HB⟩ := hcut
    cases kq with
    | zero => exact absurd HA.out (by simp [ductuslaw19_NfaAnswers.j0])
    | succ kj5 =>
      have H := HA.out
      clear HA
      simp only [ductuslaw19_NfaAnswers.j0] at H
      by_cases c11 : x14_5 = true
      · subst c11
        have H1 : (some true) = some r := by rw [if_pos rfl] at H; exact H
        clear H
        have H := H1
        clear H1
        obtain rfl := Option.some.inj H
        go_wp2
        go_ret
        exact ⟨by first | rfl | (simp [errW_none, errW_some] <;> rfl) | (simp [*, errW_none, errW_some] <;> rfl), by repeat (first | (with_reducible first | exact HB.out | apply below_alloc | apply pw_below_drewN | apply below_drew1) | exact HB.out)⟩
      replace c11 := Bool.eq_false_iff.mpr c11
      subst c11
      have H1 : ((nfa_Right.f l0).bind fun t249 => ((ductusref19_Right.f kj5 l0).bind fun t250 => (if (t249 == t250) = true then ((nfa_Count.f kj5 l0 a2).bind fun t251 => ((ductusref19_Count.f kj5 l0 a2).bind fun t252 => (if t251 = t252 then ((nfa_Same.f kj5 l0 l1).bind fun t253 => ((ductusref19_Same.f kj5 l0 l1).bind fun t254 => (if (t253 == t254) = true then ((nfa_Same.f kj5 l0 l0).bind fun t255 => (some t255)) else (none)))) else (none)))) else (none)))) = some r := by rw [if_neg (show ¬ (false = true) by decide)] at H; exact H
      clear H
      have H := H1
      clear H1
      replace H := Option.bind_eq_some_iff.mp H
      obtain ⟨t249, A120, H⟩ := H
      replace H : ((ductusref19_Right.f kj5 l0).bind fun t250 => (if (t249 == t250) = true then ((nfa_Count.f kj5 l0 a2).bind fun t251 => ((ductusref19_Count.f kj5 l0 a2).bind fun t252 => (if t251 = t252 then ((nfa_Same.f kj5 l0 l1).bind fun t253 => ((ductusref19_Same.f kj5 l0 l1).bind fun t254 => (if (t253 == t254) = true then ((nfa_Same.f kj5 l0 l0).bind fun t255 => (some t255)) else (none)))) else (none)))) else (none))) = some r := H
      have A12 := Aside0.mk A120
      clear A120
      replace H := Option.bind_eq_some_iff.mp H
      obtain ⟨t250, A130, H⟩ := H
      replace H : (if (t249 == t250) = true then ((nfa_Count.f kj5 l0 a2).bind fun t251 => ((ductusref19_Count.f kj5 l0 a2).bind fun t252 => (if t251 = t252 then ((nfa_Same.f kj5 l0 l1).bind fun t253 => ((ductusref19_Same.f kj5 l0 l1).bind fun t254 => (if (t253 == t254) = true then ((nfa_Same.f kj5 l0 l0).bind fun t255 => (some t255)) else (none)))) else (none)))) else (none)) = some r := H
      have A13 := Aside0.mk A130
      clear A130
      by_cases c14 : (t249 == t250) = true
      rotate_left
      · rw [if_neg c14] at H
        exact absurd H (by simp)
      rw [if_pos c14] at H
      have c14b0 : (t249 == t250) = true := c14
      (try (have c14b1 : decide (t249 = t250) = true := by simpa using c14))
      (try (have c14b2 : (t249 == t250) = true := by simpa using c14))
      clear c14
      replace H := Option.bind_eq_some_iff.mp H
      obtain ⟨t251, A150, H⟩ := H
      replace H : ((ductusref19_Count.f kj5 l0 a2).bind fun t252 => (if t251 = t252 then ((nfa_Same.f kj5 l0 l1).bind fun t253 => ((ductusref19_Same.f kj5 l0 l1).bind fun t254 => (if (t253 == t254) = true then ((nfa_Same.f kj5 l0 l0).bind fun t255 => (some t255)) else (none)))) else (none))) = some r := H
      have A15 := Aside0.mk A150
      clear A150
      replace H := Option.bind_eq_some_iff.mp H
      obtain ⟨t252, A160, H⟩ := H
      replace H : (if t251 = t252 then ((nfa_Same.f kj5 l0 l1).bind fun t253 => ((ductusref19_Same.f kj5 l0 l1).bind fun t254 => (if (t253 == t254) = true then ((nfa_Same.f kj5 l0 l0).bind fun t255 => (some t255)) else (none)))) else (none)) = some r := H
      have A16 := Aside0.mk A160
      clear A160
      by_cases c17 : t251 = t252
      rotate_left
      · rw [if_neg c17] at H
        exact absurd H (by simp)
      rw [if_pos c17] at H
      have c17b0 : (t251 == t252) = true := beq_iff_eq.mpr c17
      have c17b1 : (t251 != t252) = false := bne_eq_false_iff_eq.mpr c17
      clear c17
      replace H := Option.bind_eq_some_iff.mp H
      obtain ⟨t253, A180, H⟩ := H
      replace H : ((ductusref19_Same.f kj5 l0 l1).bind fun t254 => (if (t253 == t254) = true then ((nfa_Same.f kj5 l0 l0).bind fun t255 => (some t255)) else (none))) = some r := H
      have A18 := Aside0.mk A180
      clear A180
      replace H := Option.bind_eq_some_iff.mp H
      obtain ⟨t254, A190, H⟩ := H
      replace H : (if (t253 == t254) = true then ((nfa_Same.f kj5 l0 l0).bind fun t255 => (some t255)) else (none)) = some r := H
      have A19 := Aside0.mk A190
      clear A190
      by_cases c20 : (t253 == t254) = true
      rotate_left
      · rw [if_neg c20] at H
        exact absurd H (by simp)
      rw [if_pos c20] at H
      have c20b0 : (t253 == t254) = true := c20
      (try (have c20b1 : decide (t253 = t254) = true := by simpa using c20))
      (try (have c20b2 : (t253 == t254) = true := by simpa using c20))
      clear c20
      replace H := Option.bind_eq_some_iff.mp H
      obtain ⟨t255, A210, H⟩ := H
      replace H : (some t255) = some r := H
      have A21 := Aside0.mk A210
      clear A210
      obtain rfl := Option.some.inj H
      go_wp2_with (first | ((with_reducible refine gate_callee (f := 14) rfl ?_); refine goesL_ (some 16) rfl rfl Try.func14 (by kernel_rfl) rfl #[.slice A0 l0.length c0] rfl (by (try simp only [List.map_toArray, List.map_cons, List.map_nil]); first | done | rfl | (simp only [List.length_drop, List.length_take]; rfl)) ?_; (with_reducible refine (nfa_Right.calls _ _ l0 t249 _ ?side1 ?side2 A12.out).mono ?_); (case side1 => repeat (first | exact (Kd.C_below HR0.out HB.out) | (with_reducible refine Kd.C_alloc ?_ _) | (with_reducible refine Kd.C_drewN ?_ _) | (with_reducible refine Kd.C_drew ?_))); (case side2 => exact HC0.out); rintro e w22 ⟨rfl, hb⟩; refine ⟨_, rfl, ?_⟩; have n0_ := Aside0.mk (below_step (by repeat (first | (with_reducible first | exact HB.out | apply below_alloc | apply pw_below_drewN | apply below_drew1) | exact HB.out)) hb); clear HB; have HB := n0_; clear n0_; (try clear hb); (try clear hb2); (try clear hk); (try clear hi)) | ((with_reducible refine gate_callee (f := 15) rfl ?_); refine goesL_ (some 18) rfl rfl Try.func15 (by kernel_rfl) rfl #[.slice A0 l0.length c0] rfl (by (try simp only [List.map_toArray, List.map_cons, List.map_nil]); first | done | rfl | (simp only [List.length_drop, List.length_take]; rfl)) ?_; (with_reducible refine (ductusref19_Right.calls kj5 _ _ l0 t250 _ ?side1 ?side2 A13.out).mono ?_); (case side1 => repeat (first | exact (Kd.C_below HR0.out HB.out) | (with_reducible refine Kd.C_alloc ?_ _) | (with_reducible refine Kd.C_drewN ?_ _) | (with_reducible refine Kd.C_drew ?_))); (case side2 => exact HC0.out); rintro e w23 ⟨rfl, hb⟩; refine ⟨_, rfl, ?_⟩; have n0_ := Aside0.mk (below_step (by repeat (first | (with_reducible first | exact HB.out | apply below_alloc | apply pw_below_drewN | apply below_drew1) | exact HB.out)) hb); clear HB; have HB := n0_; clear n0_; (try clear hb); (try clear hb2); (try clear hk); (try clear hi)) | (go_at_call 16; (with_reducible refine (nfa_Count.calls kj5 _ _ l0 a2 t251 _ ?side1 ?side2 A15.out).mono ?_); (case side1 => repeat (first | exact (Kd.C_below HR0.out HB.out) | (with_reducible refine Kd.C_alloc ?_ _) | (with_reducible refine Kd.C_drewN ?_ _) | (with_reducible refine Kd.C_drew ?_))); (case side2 => exact HC0.out); rintro e w24 ⟨rfl, hb⟩; have n0_ := Aside0.mk (below_step (by repeat (first | (with_reducible first | exact HB.out | apply below_alloc | apply pw_below_drewN | apply below_drew1) | exact HB.out)) hb); clear HB; have HB := n0_; clear n0_; (try clear hb); (try clear hb2); (try clear hk); (try clear hi)) | (go_at_call 17; (with_reducible refine (ductusref19_Count.calls kj5 _ _ l0 a2 t252 _ ?side1 ?side2 A16.out).mono ?_); (case side1 => repeat (first | exact (Kd.C_below HR0.out HB.out) | (with_reducible refine Kd.C_alloc ?_ _) | (with_reducible refine Kd.C_drewN ?_ _) | (with_reducible refine Kd.C_drew ?_))); (case side2 => exact HC0.out); rintro e w' ⟨rfl, ⟨nd, rfl⟩⟩) | (go_at_call 18; (with_reducible refine (nfa_Same.calls kj5 _ _ l0 _ _ l1 t253 _ ?side1 ?side2 ?side3 ?side4 A18.out).mono ?_); (case side1 => repeat (first | exact (Kd.C_below HR0.out (by repeat (first | (with_reducible first | exact HB.out | apply below_alloc | apply pw_below_drewN | apply below_drew1) | exact HB.out))) | (with_reducible refine Kd.C_alloc ?_ _) | (with_reducible refine Kd.C_drewN ?_ _) | (with_reducible refine Kd.C_drew ?_))); (case side2 => exact HC0.out); (case side3 => repeat (first | exact (Kd.C_below HR1.out (by repeat (first | (with_reducible first | exact HB.out | apply below_alloc | apply pw_below_drewN | apply below_drew1) | exact HB.out))) | (with_reducible refine Kd.C_alloc ?_ _) | (with_reducible refine Kd.C_drewN ?_ _) | (with_reducible refine Kd.C_drew ?_))); (case side4 => exact HC1.out); rintro e w25 ⟨rfl, hb⟩; have n0_ := Aside0.mk (below_step (by repeat (first | (with_reducible first | exact HB.out | apply below_alloc | apply pw_below_drewN | apply below_drew1) | exact HB.out)) hb); clear HB; have HB := n0_; clear n0_; (try clear hb); (try clear hb2); (try clear hk); (try clear hi)) | (go_at_call 12; (with_reducible refine (ductusref19_Same.calls kj5 _ _ l0 _ _ l1 t254 _ ?side1 ?side2 ?side3 ?side4 A19.out).mono ?_); (case side1 => repeat (first | exact (Kd.C_below HR0.out HB.out) | (with_reducible refine Kd.C_alloc ?_ _) | (with_reducible refine Kd.C_drewN ?_ _) | (with_reducible refine Kd.C_drew ?_))); (case side2 => exact HC0.out); (case side3 => repeat (first | exact (Kd.C_below HR1.out HB.out) | (with_reducible refine Kd.C_alloc ?_ _) | (with_reducible refine Kd.C_drewN ?_ _) | (with_reducible refine Kd.C_drew ?_))); (case side4 => exact HC1.out); rintro e w26 ⟨rfl, hb⟩; have n0_ := Aside0.mk (below_step (by repeat (first | (with_reducible first | exact HB.out | apply below_alloc | apply pw_below_drewN | apply below_drew1) | exact HB.out)) hb); clear HB; have HB := n0_; clear n0_; (try clear hb); (try clear hb2); (try clear hk); (try clear hi)) | (go_at_call 18; (with_reducible refine (nfa_Same.calls kj5 _ _ l0 _ _ l0 t255 _ ?side1 ?side2 ?side3 ?side4 A21.out).mono ?_); (case side1 => repeat (first | exact (Kd.C_below HR0.out HB.out) | (with_reducible refine Kd.C_alloc ?_ _) | (with_reducible refine Kd.C_drewN ?_ _) | (with_reducible refine Kd.C_drew ?_))); (case side2 => exact HC0.out); (case side3 => repeat (first | exact (Kd.C_below HR0.out HB.out) | (with_reducible refine Kd.C_alloc ?_ _) | (with_reducible refine Kd.C_drewN ?_ _) | (with_reducible refine Kd.C_drew ?_))); (case side4 => exact HC0.out); rintro e w27 ⟨rfl, hb⟩; have n0_ := Aside0.mk (below_step (by repeat (first | (with_reducible first | exact HB.out | apply below_alloc | apply pw_below_drewN | apply below_drew1) | exact HB.out)) hb); clear HB; have HB := n0_; clear n0_; (try clear hb); (try clear hb2); (try clear hk); (try clear hi)))
      go_ret
      exact ⟨by first | rfl | (simp [errW_none, errW_some] <;> rfl) | (simp [*, errW_none, errW_some] <;> rfl), by repeat (first | (with_reducible first | exact HB.out | apply below_alloc | apply pw_below_drewN | apply below_drew1) | exact HB.out)⟩

end Go.Proofs.Ytbbplchdgedhcaa.P
namespace Go.Proofs.Ytbbplchdgedhcaa.P
open Go.RowKit Go.Proofs.YtbbplchdgedhcaaW.PrintWords Go.Proofs.YtbbplchdgedhcaaW.PrintLast
set_option linter.unusedVariables false

theorem wrap_id {x : Int} (h0 : -9223372036854775808 ≤ x) (h1 : x ≤ 9223372036854775807) : wrap64 x = x := by
  unfold wrap64
  omega
theorem wrap_succ (i : Nat) (h : i < 9223372036854775807) : wrap64 ((i : Int) + 1) = ((i + 1 : Nat) : Int) := by
  rw [wrap_id (by omega) (by omega)]
  omega
theorem more {α : Type} {g : Nat → Option α} (h : ∀ k, LeO (g k) (g (k + 1))) (k k' : Nat) (hk : k ≤ k') (r : α) (hr : g k = some r) : g k' = some r := at_rounds h hk hr
end Go.Proofs.Ytbbplchdgedhcaa.P
namespace Go.Proofs.Ytbbplchdgedhcaa.P
open Go.RowKit Go.Proofs.YtbbplchdgedhcaaW.PrintWords Go.Proofs.YtbbplchdgedhcaaW.PrintLast
set_option linter.unusedVariables false

theorem ev_step {α β : Type} {f : Nat → Option α} {g : Nat → Option β} {a : α} {r : β} (H : Ev f a) (h : ∀ k, f k = some a → g (k + 1) = some r) : Ev g r := by
  obtain ⟨K, H⟩ := H
  refine ⟨K + 1, fun k hk => ?_⟩
  obtain ⟨k, rfl⟩ : ∃ m, k = m + 1 := ⟨k - 1, by omega⟩
  exact h k (H k (by omega))
theorem ev_step2 {α β γ : Type} {f : Nat → Option α} {f2 : Nat → Option γ} {g : Nat → Option β} {a : α} {b : γ} {r : β} (H : Ev f a) (H2 : Ev f2 b) (h : ∀ k, f k = some a → f2 k = some b → g (k + 1) = some r) : Ev g r := by
  obtain ⟨K, H⟩ := H
  obtain ⟨K2, H2⟩ := H2
  refine ⟨K + K2 + 1, fun k hk => ?_⟩
  obtain ⟨k, rfl⟩ : ∃ m, k = m + 1 := ⟨k - 1, by omega⟩
  exact h k (H k (by omega)) (H2 k (by omega))
theorem ev_one {β : Type} {g : Nat → Option β} {r : β} (h : ∀ k, g (k + 1) = some r) : Ev g r := ⟨1, fun k hk => by
  obtain ⟨k, rfl⟩ : ∃ m, k = m + 1 := ⟨k - 1, by omega⟩
  exact h k⟩
theorem ev_now {β : Type} {g : Nat → Option β} {r : β} (h : ∀ k, g k = some r) : Ev g r := ⟨0, fun k _ => h k⟩
theorem ev_same {α β : Type} {f : Nat → Option α} {g : Nat → Option β} {a : α} {r : β} (H : Ev f a) (h : ∀ k, f k = some a → g k = some r) : Ev g r := by
  obtain ⟨K, H⟩ := H
  exact ⟨K, fun k hk => h k (H k hk)⟩
theorem ev_same2 {α β γ : Type} {f : Nat → Option α} {f2 : Nat → Option γ} {g : Nat → Option β} {a : α} {b : γ} {r : β} (H : Ev f a) (H2 : Ev f2 b) (h : ∀ k, f k = some a → f2 k = some b → g k = some r) : Ev g r := by
  obtain ⟨K, H⟩ := H
  obtain ⟨K2, H2⟩ := H2
  exact ⟨K + K2, fun k hk => h k (H k (by omega)) (H2 k (by omega))⟩
theorem ev_same3 {α β γ δ : Type} {f : Nat → Option α} {f2 : Nat → Option γ} {f3 : Nat → Option δ} {g : Nat → Option β} {a : α} {b : γ} {c : δ} {r : β} (H : Ev f a) (H2 : Ev f2 b) (H3 : Ev f3 c) (h : ∀ k, f k = some a → f2 k = some b → f3 k = some c → g k = some r) : Ev g r := by
  obtain ⟨K, H⟩ := H
  obtain ⟨K2, H2⟩ := H2
  obtain ⟨K3, H3⟩ := H3
  exact ⟨K + K2 + K3, fun k hk => h k (H k (by omega)) (H2 k (by omega)) (H3 k (by omega))⟩
/-- Two answers at once. -/
theorem ev_and {α γ : Type} {f : Nat → Option α} {f2 : Nat → Option γ} {a : α} {b : γ} (H : Ev f a) (H2 : Ev f2 b) : Ev (fun k => (f k).bind fun x => (f2 k).map fun y => (x, y)) (a, b) :=
  ev_same2 H H2 fun k h h2 => by rw [h, h2]; rfl
theorem ev_fst {α γ : Type} {o : Option α} {o2 : Option γ} {a : α} {b : γ} (h : (o.bind fun x => o2.map fun y => (x, y)) = some (a, b)) : o = some a ∧ o2 = some b := by
  cases o with
  | none => cases h
  | some x =>
    cases o2 with
    | none => cases h
    | some y =>
      simp only [Option.bind_some, Option.map_some, Option.some.injEq, Prod.mk.injEq] at h
      rw [h.1, h.2]
      exact ⟨rfl, rfl⟩
end Go.Proofs.Ytbbplchdgedhcaa.P
namespace Go.Proofs.Ytbbplchdgedhcaa.P
open Go.RowKit Go.Proofs.YtbbplchdgedhcaaW.PrintWords Go.Proofs.YtbbplchdgedhcaaW.PrintLast
set_option linter.unusedVariables false
set_option linter.unusedSimpArgs false

abbrev QR : Type := S42
abbrev QI : Type := S39
theorem ranges_ev (a b : List QR) (hl : a.length = b.length) (hb : a.length < 1152921504606846976) (m : Nat) : ∀ i : Nat, i + m = a.length →
    ∃ r, Ev (fun k => slices_Equal_api_Range.l0 k a b (a.length : Int) (i : Int)) r ∧ Ev (fun k => ductusref16_SameSets.l0 k a b (i : Int)) r ∧ (a = b → r = true) := by
  induction m with
  | zero =>
    intro i hi
    refine ⟨true, ev_one fun k => ?_, ev_one fun k => ?_, fun _ => rfl⟩
    · rw [slices_Equal_api_Range.l0, if_neg (by omega)]
    · rw [ductusref16_SameSets.l0, if_neg (by omega)]
  | succ m ih =>
    intro i hi
    obtain ⟨r, h1, h2, h3⟩ := ih (i + 1) (by omega)
    by_cases c : (!(((rd_T42 a (i : Int)).f0) == ((rd_T42 b (i : Int)).f0)) || (!(((rd_T42 a (i : Int)).f1) == ((rd_T42 b (i : Int)).f1)))) = true
    · refine ⟨false, ev_one fun k => ?_, ev_one fun k => ?_, fun e => ?_⟩
      · rw [slices_Equal_api_Range.l0, if_pos (by omega), if_pos (by omega), if_pos (by omega), if_pos (by omega), if_pos c]
      · rw [ductusref16_SameSets.l0, if_pos (by omega), if_pos (by omega), if_pos (by omega), if_pos c]
      · subst e
        simp at c
    · refine ⟨r, ev_step h1 fun k h => ?_, ev_step h2 fun k h => ?_, h3⟩
      · rw [slices_Equal_api_Range.l0, if_pos (by omega), if_pos (by omega), if_pos (by omega), if_pos (by omega), if_neg c, wrap_succ i (by omega)]
        exact h
      · rw [ductusref16_SameSets.l0, if_pos (by omega), if_pos (by omega), if_pos (by omega), if_neg c, wrap_succ i (by omega)]
        exact h
theorem sets_ev (a b : List QR) (hb : a.length < 1152921504606846976) : ∃ r, Ev (fun k => slices_Equal_api_Range.f k a b) r ∧ Ev (fun k => ductusref16_SameSets.f k a b) r ∧ (a = b → r = true) := by
  by_cases c : a.length = b.length
  · obtain ⟨r, h1, h2, h3⟩ := ranges_ev a b c hb a.length 0 (by omega)
    refine ⟨r, ev_same h1 fun k h => ?_, ev_same h2 fun k h => ?_, h3⟩
    · rw [slices_Equal_api_Range.f, if_pos (by omega)]
      exact h
    · rw [ductusref16_SameSets.f, if_pos (by omega)]
      exact h
  · refine ⟨false, ev_now fun k => ?_, ev_now fun k => ?_, fun e => (c (congrArg List.length e)).elim⟩
    · rw [slices_Equal_api_Range.f, if_neg (by omega)]
    · rw [ductusref16_SameSets.f, if_neg (by omega)]
theorem insts_ev (a b : List QI) (hl : a.length = b.length) (hb : a.length < 1152921504606846976) (hr : ∀ e ∈ a, e.f1.length < 1152921504606846976) (m : Nat) : ∀ i : Nat, i + m = a.length →
    ∃ r, Ev (fun k => slices_EqualFunc_api_Inst_api_Inst_nfa_Same_1.l0 k b a (a.length : Int) (i : Int)) r ∧ Ev (fun k => ductusref19_Same.l0 k a b (i : Int)) r ∧ (a = b → r = true) := by
  induction m with
  | zero =>
    intro i hi
    refine ⟨true, ev_one fun k => ?_, ev_one fun k => ?_, fun _ => rfl⟩
    · rw [slices_EqualFunc_api_Inst_api_Inst_nfa_Same_1.l0, if_neg (by omega)]
    · rw [ductusref19_Same.l0, if_neg (by omega)]
  | succ m ih =>
    intro i hi
    obtain ⟨r, h1, h2, h3⟩ := ih (i + 1) (by omega)
    have ha : rd_T39 a (i : Int) ∈ a := by
      unfold rd_T39
      rw [Int.toNat_natCast, List.getD_eq_getElem?_getD, List.getElem?_eq_getElem (show i < a.length by omega), Option.getD_some]
      exact List.getElem_mem _
    obtain ⟨s, g1, g2, g3⟩ := sets_ev (rd_T39 a (i : Int)).f1 (rd_T39 b (i : Int)).f1 (hr _ ha)
    by_cases c0 : (rd_T39 a (i : Int)).f0 = (rd_T39 b (i : Int)).f0
    rotate_left
    · refine ⟨false, ev_step g1 fun k h => ?_, ev_one fun k => ?_, fun e => (c0 (by rw [e])).elim⟩
      · rw [slices_EqualFunc_api_Inst_api_Inst_nfa_Same_1.l0, if_pos (by omega), if_pos (by omega), if_pos (by omega), if_pos (by omega), nfa_Same_1.f, if_neg c0, Option.bind_some, if_neg (by decide)]
      · rw [ductusref19_Same.l0, if_pos (by omega), if_pos (by omega), if_pos (by omega), if_neg c0]
    by_cases c2 : (rd_T39 a (i : Int)).f2 = (rd_T39 b (i : Int)).f2
    rotate_left
    · refine ⟨false, ev_step g1 fun k h => ?_, ev_one fun k => ?_, fun e => (c2 (by rw [e])).elim⟩
      · rw [slices_EqualFunc_api_Inst_api_Inst_nfa_Same_1.l0, if_pos (by omega), if_pos (by omega), if_pos (by omega), if_pos (by omega), nfa_Same_1.f, if_pos c0, if_neg c2, Option.bind_some, if_neg (by decide)]
      · rw [ductusref19_Same.l0, if_pos (by omega), if_pos (by omega), if_pos (by omega), if_pos c0, if_neg c2]
    by_cases c3 : (rd_T39 a (i : Int)).f3 = (rd_T39 b (i : Int)).f3
    rotate_left
    · refine ⟨false, ev_step g1 fun k h => ?_, ev_one fun k => ?_, fun e => (c3 (by rw [e])).elim⟩
      · rw [slices_EqualFunc_api_Inst_api_Inst_nfa_Same_1.l0, if_pos (by omega), if_pos (by omega), if_pos (by omega), if_pos (by omega), nfa_Same_1.f, if_pos c0, if_pos c2, if_neg c3, Option.bind_some, if_neg (by decide)]
      · rw [ductusref19_Same.l0, if_pos (by omega), if_pos (by omega), if_pos (by omega), if_pos c0, if_pos c2, if_neg c3]
    refine ⟨s && r, ev_step2 g1 h1 fun k h h' => ?_, ev_step2 g2 h2 fun k h h' => ?_, fun e => ?_⟩
    · rw [slices_EqualFunc_api_Inst_api_Inst_nfa_Same_1.l0, if_pos (by omega), if_pos (by omega), if_pos (by omega), if_pos (by omega), nfa_Same_1.f, if_pos c0, if_pos c2, if_pos c3, h, Option.bind_some, Option.bind_some]
      cases s with
      | false => rfl
      | true => rw [if_pos rfl, wrap_succ i (by omega), Bool.true_and]; exact h'
    · rw [ductusref19_Same.l0, if_pos (by omega), if_pos (by omega), if_pos (by omega), if_pos c0, if_pos c2, if_pos c3, h, Option.bind_some]
      cases s with
      | false => rfl
      | true => rw [if_pos rfl, wrap_succ i (by omega), Bool.true_and]; exact h'
    · rw [g3 (by rw [e]), h3 e]
      rfl
theorem same_ev (a b : List QI) (hb : a.length < 1152921504606846976) (hr : ∀ e ∈ a, e.f1.length < 1152921504606846976) : ∃ r, Ev (fun k => nfa_Same.f k a b) r ∧ Ev (fun k => ductusref19_Same.f k a b) r ∧ (a = b → r = true) := by
  by_cases c : a.length = b.length
  · obtain ⟨r, h1, h2, h3⟩ := insts_ev a b c hb hr a.length 0 (by omega)
    refine ⟨r, ev_same h1 fun k h => ?_, ev_same h2 fun k h => ?_, h3⟩
    · rw [nfa_Same.f, slices_EqualFunc_api_Inst_api_Inst_nfa_Same_1.f, if_pos (by omega)]
      have h' : slices_EqualFunc_api_Inst_api_Inst_nfa_Same_1.l0 k b a (a.length : Int) 0 = some r := h
      rw [h', Option.bind_some]
    · rw [ductusref19_Same.f, if_pos (by omega)]
      exact h
  · refine ⟨false, ev_now fun k => ?_, ev_now fun k => ?_, fun e => (c (congrArg List.length e)).elim⟩
    · rw [nfa_Same.f, slices_EqualFunc_api_Inst_api_Inst_nfa_Same_1.f, if_neg (by omega), Option.bind_some]
    · rw [ductusref19_Same.f, if_neg (by omega)]
theorem same_self (a : List QI) (hb : a.length < 1152921504606846976) (hr : ∀ e ∈ a, e.f1.length < 1152921504606846976) : Ev (fun k => nfa_Same.f k a a) true ∧ Ev (fun k => ductusref19_Same.f k a a) true := by
  obtain ⟨r, h1, h2, h3⟩ := same_ev a a hb hr
  rw [h3 rfl] at h1 h2
  exact ⟨h1, h2⟩
/-- How many of an Op, from a place on. -/
def cntI (op : Int) : List QI → Int
  | [] => 0
  | e :: l => (if e.f0 = op then 1 else 0) + cntI op l
theorem ti_drop (l : List QI) (i : Nat) (h : i < l.length) : l.drop i = rd_T39 l (i : Int) :: l.drop (i + 1) := by
  unfold rd_T39
  rw [Int.toNat_natCast, List.getD_eq_getElem?_getD, List.getElem?_eq_getElem h, Option.getD_some]
  exact List.drop_eq_getElem_cons h
theorem count_ev (l : List QI) (op : Int) (hb : l.length < 1152921504606846976) (m : Nat) : ∀ (i n : Nat), i + m = l.length → n ≤ i →
    Ev (fun k => nfa_Count.l0 k op (n : Int) l (l.length : Int) (i : Int)) ((n : Int) + cntI op (l.drop i)) ∧ Ev (fun k => ductusref19_Count.l0 k l op (n : Int) (i : Int)) ((n : Int) + cntI op (l.drop i)) := by
  induction m with
  | zero =>
    intro i n hi hn
    rw [List.drop_eq_nil_of_le (by omega), cntI, Int.add_zero]
    refine ⟨ev_one fun k => ?_, ev_one fun k => ?_⟩
    · rw [nfa_Count.l0, if_neg (by omega)]
    · rw [ductusref19_Count.l0, if_neg (by omega)]
  | succ m ih =>
    intro i n hi hn
    rw [ti_drop l i (by omega), cntI]
    by_cases c : (rd_T39 l (i : Int)).f0 = op
    · obtain ⟨h1, h2⟩ := ih (i + 1) (n + 1) (by omega) (by omega)
      have e : (((n + 1 : Nat) : Int) + cntI op (l.drop (i + 1))) = ((n : Int) + (1 + cntI op (l.drop (i + 1)))) := by omega
      rw [e] at h1 h2
      rw [if_pos c]
      refine ⟨ev_step h1 fun k h => ?_, ev_step h2 fun k h => ?_⟩
      · rw [nfa_Count.l0, if_pos (by omega), if_pos (by omega), if_pos (by omega), if_pos c, wrap_succ i (by omega), wrap_succ n (by omega)]
        exact h
      · rw [ductusref19_Count.l0, if_pos (by omega), if_pos (by omega), if_pos c, wrap_succ i (by omega), wrap_succ n (by omega)]
        exact h
    · obtain ⟨h1, h2⟩ := ih (i + 1) n (by omega) (by omega)
      rw [if_neg c, Int.zero_add]
      refine ⟨ev_step h1 fun k h => ?_, ev_step h2 fun k h => ?_⟩
      · rw [nfa_Count.l0, if_pos (by omega), if_pos (by omega), if_pos (by omega), if_neg c, wrap_succ i (by omega)]
        exact h
      · rw [ductusref19_Count.l0, if_pos (by omega), if_pos (by omega), if_neg c, wrap_succ i (by omega)]
        exact h
theorem counts (l : List QI) (op : Int) (hb : l.length < 1152921504606846976) : Ev (fun k => nfa_Count.f k l op) (cntI op l) ∧ Ev (fun k => ductusref19_Count.f k l op) (cntI op l) := by
  have := count_ev l op hb l.length 0 0 (by omega) (by omega)
  rw [List.drop_zero] at this
  have e : (((0 : Nat) : Int) + cntI op l) = cntI op l := Int.zero_add _
  rw [e] at this
  exact this
theorem rights_loop (l : List QI) (hb : l.length ≤ 1000) (m : Nat) : ∀ i : Nat, i + m = l.length → Ev (fun k => ductusref19_Right.l0 k l (i : Int)) (!((l.drop i).any (badI (l.length : Int)))) := by
  induction m with
  | zero =>
    intro i hi
    rw [List.drop_eq_nil_of_le (by omega)]
    refine ev_one fun k => ?_
    rw [ductusref19_Right.l0, if_neg (by omega)]
    rfl
  | succ m ih =>
    intro i hi
    rw [ti_drop l i (by omega), List.any_cons]
    generalize hx : rd_T39 l (i : Int) = x
    refine ev_step (ih (i + 1) (by omega)) fun k h => ?_
    rw [ductusref19_Right.l0, if_pos (by omega), if_pos (by omega), hx, wrap_succ i (by omega), h]
    generalize (l.drop (i + 1)).any (badI (l.length : Int)) = z
    unfold badI badV inI
    by_cases d : x.f0 < 0
    · rw [if_pos d, if_neg (by omega), if_neg (by omega), if_neg (by omega)]
      rfl
    rw [if_neg d]
    by_cases d5 : x.f0 > 5
    · rw [if_pos d5, if_neg (by omega), if_neg (by omega), if_neg (by omega)]
      rfl
    rw [if_neg d5]
    by_cases d2 : x.f0 = 2
    · rw [if_pos d2, if_neg (show ¬ (x.f0 = 0 ∨ x.f0 = 1 ∨ x.f0 = 4 ∨ x.f0 = 5) by omega), if_pos d2]
      repeat' split
      all_goals simp
      all_goals omega
    rw [if_neg d2]
    by_cases d3 : x.f0 = 3
    · rw [if_pos d3, if_neg (show ¬ (x.f0 = 0 ∨ x.f0 = 1 ∨ x.f0 = 4 ∨ x.f0 = 5) by omega), if_neg d2, if_pos d3]
      repeat' split
      all_goals simp
      all_goals omega
    rw [if_neg d3, if_pos (show (x.f0 = 0 ∨ x.f0 = 1 ∨ x.f0 = 4 ∨ x.f0 = 5) by omega)]
    rfl
theorem rights (l : List QI) : Ev (fun k => ductusref19_Right.f k l) (rightI l) := by
  have jt : Ev (fun k => ductusref19_Right.j0 k l true) false := ev_one fun k => by rw [ductusref19_Right.j0, if_pos rfl]
  by_cases c0 : l.length = 0
  · refine ev_same jt fun k h => ?_
    rw [ductusref19_Right.f, if_pos (by omega), h, rightI, if_pos c0]
  by_cases c1 : (l.length : Int) > 1000
  · refine ev_same jt fun k h => ?_
    rw [ductusref19_Right.f, if_neg (by omega), if_pos c1, h, rightI, if_neg c0, if_pos c1]
  have jf : Ev (fun k => ductusref19_Right.j0 k l false) (!(l.any (badI (l.length : Int)))) := by
    refine ev_step (rights_loop l (by omega) l.length 0 (by omega)) fun k h => ?_
    rw [ductusref19_Right.j0, if_neg (by decide)]
    exact h
  refine ev_same2 jt jf fun k h h' => ?_
  rw [ductusref19_Right.f, if_neg (by omega), if_neg c1, wrap_id (by omega) (by omega), if_pos (by omega), if_pos (by omega), rightI, if_neg c0, if_neg c1]
  by_cases c2 : (rd_T39 l ((l.length : Int) - 1)).f0 = 0
  · have e : ((rd_T39 l ((l.length : Int) - 1)).f0 != 0) = false := by rw [c2]; rfl
    rw [e, h', if_neg (by simp [c2])]
  · have e : ((rd_T39 l ((l.length : Int) - 1)).f0 != 0) = true := bne_iff_ne.2 c2
    rw [e, h, if_pos c2]
theorem great_ev (l : List QI) (hl : l.length < 140737488351232) (hr : ∀ e ∈ l, e.f1.length < 140737488351232) : ∃ g, Ev (fun k => ductusref19_Great.f k l) g := by
  have key : ∀ (m i : Nat) (n : Int), i + m = l.length → 0 ≤ n → n ≤ 281474976710656 → ∃ g, Ev (fun k => ductusref19_Great.l0 k l n (i : Int)) g := by
    intro m
    induction m with
    | zero =>
      intro i n hi h0 h1
      refine ⟨decide (n > 1000), ev_one fun k => ?_⟩
      rw [ductusref19_Great.l0, if_neg (by omega)]
    | succ m ih =>
      intro i n hi h0 h1
      by_cases c : n ≤ 1000
      · have ha : rd_T39 l (i : Int) ∈ l := by
          have h := ti_drop l i (by omega)
          exact List.mem_of_mem_drop (h ▸ List.mem_cons_self)
        have hx := hr _ ha
        obtain ⟨g, hg⟩ := ih (i + 1) (n + ((rd_T39 l (i : Int)).f1.length : Int)) (by omega) (by omega) (by omega)
        refine ⟨g, ev_step hg fun k h => ?_⟩
        rw [ductusref19_Great.l0, if_pos (by omega), if_pos c, if_pos (by omega), wrap_id (by omega) (by omega), wrap_succ i (by omega)]
        exact h
      · refine ⟨decide (n > 1000), ev_one fun k => ?_⟩
        rw [ductusref19_Great.l0, if_pos (by omega), if_neg c]
  exact key l.length 0 (l.length : Int) (by omega) (by omega) (by omega)
end Go.Proofs.Ytbbplchdgedhcaa.P
