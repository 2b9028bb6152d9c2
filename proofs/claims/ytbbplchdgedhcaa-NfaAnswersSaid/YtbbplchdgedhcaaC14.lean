/- Texts of this claim put together by a program of its own (POpenN, PComp, POpenI, PureNfaAnswers), what the law does not use left out: each part's statements bear their own conditions. -/
import Derived.OpenShut
import Derived.Deep.Slices
import Derived.ChangeSlices
import Derived.SizedLaws
import Derived.Test.YtbbplchdgedhcaaC10
import Derived.Test.YtbbplchdgedhcaaC13
import Derived.Test.YtbbplchdgedhcaaC12
namespace Go.Proofs.Ytbbplchdgedhcaa.P
open Go.Deep Go.ChangeShapes Go.WideShapes Go.Proofs.YtbbplchdgedhcaaW.PrintWords
set_option linter.unusedVariables false
set_option linter.unusedSimpArgs false

/-- What an argument's data weigh is within the reach. -/
def Lite {H : Type} (P : Program) (t : TypeId) (d : DataW H) : Prop := ∀ q ∈ d.weights P t, q ≤ reachBytes
/-- What reads by a type, within m steps, is of a kind. -/
def Opens {α H : Type} (enc : TypeId × Value → H) (P : Program) (w : World) (base : Nat) (held : Bool) (t : TypeId) (d : Kd α) (wf : α → Prop) (m : Nat) : Prop :=
  ∀ (cs : List Value) (y : DataW H × List MemPlace), DataW.trod enc P w base (fun _ => true) held m t cs = some y → Lite P t y.1 → ∃ v, d.K w v cs ∧ wf v
section
variable {α H : Type} {enc : TypeId × Value → H} {P : Program} {w : World} {base : Nat} {held : Bool}
theorem weightsAll_mem {e : TypeId} {n : Nat} {d : DataW H} : ∀ {l : List (DataW H)}, d ∈ l → n ∈ d.weights P e → n ∈ DataW.weightsAll P e l
  | [], h, _ => by simp at h
  | x :: l, h, hn => by
    simp only [DataW.weightsAll, List.mem_append]
    rcases List.mem_cons.1 h with rfl | h
    · exact .inl hn
    · exact .inr (weightsAll_mem h hn)
theorem opens_slice [Inhabited α] {t e : TypeId} {d : Kd α} {wf : α → Prop} {B : Nat} (ht : P.underlying t = some (.slice e)) (hc : P.cellsOf e = d.sz) (hB : P.bytesOf e = B) (m : Nat) (ih : ∀ n, m = n + 1 → Opens enc P w base held e d wf n) :
    Opens enc P w base held t (Kd.slice e d) (fun l => l.length * B ≤ 140737488351232 ∧ ∀ x ∈ l, wf x) m := by
  intro cs y h hw
  rcases DataW.trod_slice ht h with ⟨rfl, _⟩ | ⟨a, len, cap, elems, rest, n, hn, rfl, rfl, hb, hl, hm, hlen, hel, _, _⟩
  · exact ⟨[], ⟨none, 0, rfl, Nat.le_refl _, ⟨rfl, by simp, fun h => absurd h (Nat.lt_irrefl 0)⟩⟩, by simp, by simp⟩
  · have hO := ih n hn
    have ex : ∀ i, i < len → ∃ v : α, (∃ c : List Value, c.length = d.sz ∧ d.K w v c ∧ ∀ j u, c[j]? = some u → w.cell? (a.add (i * d.sz + j)) = some u) ∧ wf v := by
      intro i hi
      have h1 := hel i hi
      rw [hc] at h1
      have h2 : elems[i]? = some (elems[i]'(by omega)) := List.getElem?_eq_getElem (by omega)
      rw [h2] at h1
      obtain ⟨c, hc1, hc2⟩ := Option.bind_eq_some_iff.mp h1
      obtain ⟨_, hcl, hcell⟩ := World.cells?_some hc1
      obtain ⟨v, hv, hwf⟩ := hO c _ hc2 (fun q hq => hw q (by
        simp only [DataW.weights, ht, List.mem_cons, List.mem_append]
        exact .inr (.inl (weightsAll_mem (List.mem_map_of_mem (List.getElem_mem (by omega))) hq))))
      refine ⟨v, ⟨c, hcl, hv, fun j u hu => ?_⟩, hwf⟩
      have hj : j < d.sz := by rw [← hcl]; exact (List.getElem?_eq_some_iff.1 hu).1
      rw [← Go.Deep.add_add, hcell j hj]
      exact hu
    obtain ⟨q, hq⟩ := choose_lt ex
    have hlen2 : ((List.range len).map q).length = len := by simp
    refine ⟨(List.range len).map q, ⟨some a, cap, by rw [hlen2], by rw [hlen2]; exact hl, ?_⟩, ?_, ?_⟩
    · rw [hlen2]
      refine ⟨hlen2, by have := Nat.le_trans hl hm; simp only [maxLen] at this; omega, fun _ => ⟨a, rfl, fun j p hp => ?_⟩⟩
      have hj : j < len := by
        have := (List.getElem?_eq_some_iff.1 hp).1
        rwa [hlen2] at this
      have hpq : p = q j := by
        rw [List.getElem?_map, List.getElem?_range hj] at hp
        exact (Option.some.inj hp).symm
      subst hpq
      obtain ⟨⟨c, h1, h2, h3⟩, _⟩ := hq j hj
      exact ⟨c, h1, h2, h3⟩
    · rw [hlen2]
      have := hw ((elems.length + rest.length) * B) (by simp only [DataW.weights, ht, List.length_map, hB]; exact List.mem_cons_self)
      have h2 : len * B ≤ (elems.length + rest.length) * B := Nat.mul_le_mul_right _ (by omega)
      exact Nat.le_trans h2 this
    · intro x hx
      obtain ⟨j, hj, rfl⟩ := List.mem_map.1 hx
      exact (hq j (List.mem_range.1 hj)).2
end
section
variable {H : Type} {enc : TypeId × Value → H} {w : World} {base : Nat} {held : Bool}
def w64 (x : Int) : Prop := -9223372036854775808 ≤ x ∧ x ≤ 9223372036854775807
theorem w64_of {x : Int} (h : (Lit.int .i64 x).wf = true) : w64 x := by
  have hmin : IntKind.i64.min = -9223372036854775808 := rfl
  have hmax : IntKind.i64.max = 9223372036854775807 := rfl
  simp only [Lit.wf, Bool.and_eq_true, decide_eq_true_eq] at h
  unfold w64
  omega
theorem cells_int : Try.prog.cellsOf 3 = 1 := by kernel_rfl
theorem cells_ranges : Try.prog.cellsOf 22 = 1 := by kernel_rfl
theorem cells_range : Try.prog.cellsOf 42 = 2 := by kernel_rfl
theorem bytes_range : Try.prog.bytesOf 42 = 16 := by kernel_rfl
instance : Inhabited S42 := ⟨z42⟩
instance : Inhabited S25 := ⟨z25⟩
theorem opens_range (m : Nat) : Opens enc Try.prog w base held 42 k42 (fun r => w64 r.f0 ∧ w64 r.f1) m := by
  intro cs y h _
  obtain ⟨xs, n, rfl, _, hl, hxl, hf⟩ := DataW.trod_struct Try.underlying42 h
  rw [cells_range] at hl
  match xs, hxl, cs, hl with
  | [y0, y1], _, [c0, c1], _ =>
    have g0 := hf 0 _ rfl
    have g1 := hf 1 _ rfl
    simp [cells_int] at g0 g1
    obtain ⟨x0, e0, _, w0⟩ := DataW.trod_int Try.underlying3 g0
    obtain ⟨x1, e1, _, w1⟩ := DataW.trod_int Try.underlying3 g1
    obtain rfl := (List.cons.inj e0).1
    obtain rfl := (List.cons.inj e1).1
    exact ⟨⟨x0, x1⟩, k42_mk w ⟨x0, x1⟩, w64_of w0, w64_of w1⟩
theorem opens_ranges (m : Nat) : Opens enc Try.prog w base held 22 (Kd.slice 42 k42) (fun l => l.length * 16 ≤ 140737488351232 ∧ ∀ r ∈ l, w64 r.f0 ∧ w64 r.f1) m :=
  opens_slice Try.underlying22 (by rw [cells_range]; rfl) bytes_range m (fun n _ => opens_range n)
theorem lite_of {ts : List TypeId} {ds : List (DataW H)} {j : Nat} {t : TypeId} {d : DataW H} (hsz : (DataW.weightsEach Try.prog ts ds).all (· ≤ reachBytes) = true) (ht : ts[j]? = some t) (hd : ds[j]? = some d) : Lite Try.prog t d := fun q hq => by
  simpa using List.all_eq_true.1 hsz q (DataW.weights_mem_each ht hd q hq)
end
end Go.Proofs.Ytbbplchdgedhcaa.P
namespace Go.Proofs.Ytbbplchdgedhcaa.P
open Go.RowKit Go.Proofs.YtbbplchdgedhcaaW.PrintWords Go.Proofs.YtbbplchdgedhcaaW.PrintLast
set_option linter.unusedVariables false
set_option linter.unusedSimpArgs false

theorem alive_ok : ductuslaw19_alive.f = some true := by kernel_rfl
end Go.Proofs.Ytbbplchdgedhcaa.P
namespace Go.Proofs.Ytbbplchdgedhcaa.P
open Go.Deep Go.ChangeShapes Go.WideShapes Go.Proofs.YtbbplchdgedhcaaW.PrintWords
set_option linter.unusedVariables false
section
variable {H : Type} {enc : TypeId × Value → H} {w : World} {base : Nat} {held : Bool}
instance : Inhabited S39 := ⟨z39⟩
def wfI (x : S39) : Prop := x.f1.length * 16 ≤ 140737488351232
theorem cells_inst : Try.prog.cellsOf 39 = 4 := by kernel_rfl
theorem bytes_inst : Try.prog.bytesOf 39 = 48 := by kernel_rfl
theorem opens_inst (m : Nat) : Opens enc Try.prog w base held 39 k39 wfI m := by
  intro cs y h hw
  obtain ⟨xs, n, rfl, rfl, hl, hxl, hf⟩ := DataW.trod_struct Try.underlying39 h
  rw [cells_inst] at hl
  match xs, hxl, cs, hl with
  | [y0, y1, y2, y3], _, [c0, c1, c2, c3], _ =>
    have g0 := hf 0 _ rfl
    have g1 := hf 1 _ rfl
    have g2 := hf 2 _ rfl
    have g3 := hf 3 _ rfl
    simp [cells_int, cells_ranges] at g0 g1 g2 g3
    obtain ⟨x0, e0, _, w0⟩ := DataW.trod_int Try.underlying3 g0
    obtain ⟨x2, e2, _, w2⟩ := DataW.trod_int Try.underlying3 g2
    obtain ⟨x3, e3, _, w3⟩ := DataW.trod_int Try.underlying3 g3
    obtain rfl := (List.cons.inj e0).1
    obtain rfl := (List.cons.inj e2).1
    obtain rfl := (List.cons.inj e3).1
    have hwe : ∀ (j : Nat) (t : TypeId) (d : DataW H), [3, 22, 3, 3][j]? = some t → [y0.1, y1.1, y2.1, y3.1][j]? = some d → Lite Try.prog t d := by
      intro j t d ht hd q hq
      refine hw q ?_
      simp only [DataW.weights, Try.underlying39]
      exact DataW.weights_mem_each (j := j) ht hd q hq
    obtain ⟨l1, hk1, hl1⟩ := opens_ranges n [c1] y1 g1 (hwe 1 _ _ rfl rfl)
    obtain ⟨A1, d1, he1, hd1, hC1⟩ := hk1
    obtain rfl := (List.cons.inj he1).1
    exact ⟨⟨x0, l1, x2, x3⟩, k39_mk w ⟨x0, l1, x2, x3⟩ hd1 hC1, hl1.1⟩
theorem opens_insts (m : Nat) : Opens enc Try.prog w base held 29 (Kd.slice 39 k39) (fun l => l.length * 48 ≤ 140737488351232 ∧ ∀ e ∈ l, wfI e) m :=
  opens_slice Try.underlying29 (by rw [cells_inst]; rfl) bytes_inst m (fun n _ => opens_inst n)
/-- An argument that is a list of instructions. -/
theorem open_insts {r : Reach} {b0 : Nat} {v : Value} {d : DataW H} {p : List MemPlace} (hv : Value.okWide Try.prog w r b0 29 v) (h : DataW.Trod enc Try.prog w base (fun _ => true) held 29 v d p) (hw : Lite Try.prog 29 d) :
    ∃ (A : Option Addr) (c : Nat) (l : List S39), v = .slice A l.length c ∧ l.length ≤ c ∧ Kd.C k39 w A l.length l ∧ (l.length * 48 ≤ 140737488351232 ∧ ∀ e ∈ l, wfI e) := by
  obtain ⟨a, len, cap, rfl⟩ := okWide_slice Try.underlying29 hv
  obtain ⟨fuel, hf⟩ := h
  obtain ⟨l, hk, hwf⟩ := opens_insts fuel _ _ hf hw
  obtain ⟨A1, d1, he1, hd1, hC1⟩ := hk
  obtain rfl | he := (show (.slice a len cap : Value) = .slice A1 l.length d1 from (List.cons.inj he1).1)
  exact ⟨_, _, l, rfl, hd1, hC1, hwf⟩
end
end Go.Proofs.Ytbbplchdgedhcaa.P
namespace Go.Proofs.Ytbbplchdgedhcaa.Pure
open Go.RowKit Go.Proofs.Ytbbplchdgedhcaa.P Go.Proofs.YtbbplchdgedhcaaW.PrintWords Go.Proofs.YtbbplchdgedhcaaW.PrintLast
set_option linter.unusedVariables false
set_option linter.unusedSimpArgs false

theorem NfaAnswers (a : List QI) (ha : a.length * 48 ≤ 140737488351232 ∧ ∀ e ∈ a, wfI e) (b : List QI) (hb : b.length * 48 ≤ 140737488351232 ∧ ∀ e ∈ b, wfI e) (op : Int) (h : (Lit.int .i64 op).wf = true) : ∃ k, ductuslaw19_NfaAnswers.f k a b op = some true := by
  have ra : ∀ e ∈ a, e.f1.length < 8796093022209 := fun e he => by
    have := ha.2 e he
    unfold wfI at this
    omega
  have rb : ∀ e ∈ b, e.f1.length < 8796093022209 := fun e he => by
    have := hb.2 e he
    unfold wfI at this
    omega
  obtain ⟨ga, hga⟩ := great_ev a (by omega) (fun e he => by have := ra e he; omega)
  obtain ⟨gb, hgb⟩ := great_ev b (by omega) (fun e he => by have := rb e he; omega)
  obtain ⟨s, hs1, hs2, _⟩ := same_ev a b (by omega) (fun e he => by have := ra e he; omega)
  have hss := (same_self a (by omega) (fun e he => by have := ra e he; omega)).1
  have hc := counts a op (by omega)
  have hr := rights a
  have jt : Ev (fun k => ductuslaw19_NfaAnswers.j0 k a b op true) true := ev_one fun k => by rw [ductuslaw19_NfaAnswers.j0, if_pos rfl]
  have jf : Ev (fun k => ductuslaw19_NfaAnswers.j0 k a b op false) true := by
    refine ev_step2 (ev_and hr (ev_and hc.1 hc.2)) (ev_and hss (ev_and hs1 hs2)) fun k h1 h2 => ?_
    obtain ⟨h1, h3⟩ := ev_fst h1
    obtain ⟨h3, h4⟩ := ev_fst h3
    obtain ⟨h2, h5⟩ := ev_fst h2
    obtain ⟨h5, h6⟩ := ev_fst h5
    rw [ductuslaw19_NfaAnswers.j0, if_neg (by decide), nfa_Right.f, Option.bind_some, h1, Option.bind_some, if_pos (by simp), h3, Option.bind_some, h4, Option.bind_some, if_pos rfl, h5, Option.bind_some, h6, Option.bind_some, if_pos (by simp), h2, Option.bind_some]
  have jj : ∀ g, Ev (fun k => ductuslaw19_NfaAnswers.j0 k a b op g) true := fun g => by
    cases g
    · exact jf
    · exact jt
  obtain ⟨k, hk⟩ : Ev (fun k => ductuslaw19_NfaAnswers.f k a b op) true := by
    refine ev_same3 (ev_and hga hgb) jt (jj gb) fun k h1 h2 h3 => ?_
    obtain ⟨h1, h4⟩ := ev_fst h1
    rw [ductuslaw19_NfaAnswers.f, alive_ok, Option.bind_some, if_pos rfl, h1, Option.bind_some]
    by_cases c : ga = true
    · rw [if_pos c]
      exact h2
    · rw [if_neg c, h4, Option.bind_some]
      exact h3
  exact ⟨k, hk k (Nat.le_refl _)⟩
end Go.Proofs.Ytbbplchdgedhcaa.Pure
