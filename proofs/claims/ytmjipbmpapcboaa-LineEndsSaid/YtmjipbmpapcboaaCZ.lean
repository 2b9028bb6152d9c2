/- Proved: what the printed walks close the same way again and again, by lemmas whose side conditions are closed by default; no condition beyond those of each. -/
import Derived.Test.YtmjipbmpapcboaaProg
import Derived.Below
import Derived.Deep.Draws
import Derived.Deep.AppendLies
import Derived.Maps.AppendAt
import Derived.OwnWalk
import Derived.Laws.BytesArg
import Derived.Laws.MakeOwn
import Derived.Laws.OwnMore
import Derived.Deep.OwnRows
import Derived.Tactics
import Derived.Lib.ConvBytes
import Derived.Laws.Slices
import Derived.WalkKit
import Derived.KernelRfl
import Derived.RowKit3
import Derived.Deep.LoopGhost
import Derived.Deep.QuietTactic
import Derived.BigQuiet
import Derived.WideLaws
import Derived.Deep.DeepCutAuto
import Derived.Deep.CutBlock
import Derived.Deep.RegionHeld3
import Derived.Laws.Rows
import Derived.Lib.AppendStr
import Derived.ArgAppend
import Derived.Laws.IdiomCopy
import Derived.OrdersHeld
import Derived.Laws.BitsLemmas
import Derived.RowKit
import Derived.Test.YtmjipbmpapcboaaC0
import Derived.Test.YtmjipbmpapcboaaC1
import Derived.Test.YtmjipbmpapcboaaC2
import Derived.Test.YtmjipbmpapcboaaC3
import Derived.Test.YtmjipbmpapcboaaC4
import Derived.Test.YtmjipbmpapcboaaC5
import Derived.Test.YtmjipbmpapcboaaC6
import Derived.Test.YtmjipbmpapcboaaC7
import Derived.Test.YtmjipbmpapcboaaC8
import Derived.Test.YtmjipbmpapcboaaC9
import Derived.Test.YtmjipbmpapcboaaC10
import Derived.Test.YtmjipbmpapcboaaC11
import Derived.Test.YtmjipbmpapcboaaC12
import Derived.Lib.SliceRun
namespace Go.Proofs.Ytmjipbmpapcboaa.P
open Go.RowKit Go.Proofs.YtmjipbmpapcboaaW.PrintWords Go.Proofs.YtmjipbmpapcboaaW.PrintLast Go.Proofs.YtmjipbmpapcboaaW.PrintMore
set_option linter.unusedVariables false
theorem pT {P : Program} {ops : Array Oper} {Q : Exit → Act → World → Prop} {md : Region.Mode} {S : World → Prop} {ds : List Nat} {T : Bool × List (List Nat × List Nat)} {oi : Oper} {v : Value} {fuel : Nat} {l : Array Bool} {a a' : Act} {w : World} (i N : Nat) (hT : Aside0 (rtab md ops = T)) (h : wpAnyLast P md ops Q S ds fuel (l.setIfInBounds i true) a' w)
    (hi : ops[i]? = some oi := by rfl) (hN : oi.dst = some N := by rfl) (hk : anyT T l.toList (l.setIfInBounds i true).toList i = true := by kernel_rfl) (hQ : ∀ c a w, Q (.panic c) (a.put oi.dst v) w → Q (.panic c) a w := by exact fun _ _ _ h => h)
    (hw : Region.wanted oi (yielded ops a.tmps) = true := by rfl) (hr : ∀ w', (execOp a.eval oi).run P w' = .ok (.value v) w' := by intro w'; go_simp; with_reducible rfl) (ha : a.put (some N) v = a' := by simp only [Act.put, List.setIfInBounds_toArray, List.set_cons_zero, List.set_cons_succ, i64_w, i32_w]; rfl) : wpAnyLast P md ops Q S ds (fuel + 1) l a w :=
  pure_ (l.setIfInBounds i true) hi hN (any_of hT.out hk) hQ (Or.inl ⟨hw, hr⟩) ha h
theorem pK {P : Program} {ops : Array Oper} {Q : Exit → Act → World → Prop} {md : Region.Mode} {S : World → Prop} {ds : List Nat} {oi : Oper} {v : Value} {fuel : Nat} {l : Array Bool} {a a' : Act} {w : World} (i N : Nat) (h : wpAnyLast P md ops Q S ds fuel (l.setIfInBounds i true) a' w)
    (hi : ops[i]? = some oi := by rfl) (hN : oi.dst = some N := by rfl) (hk : anyB md ops l (l.setIfInBounds i true) i = true := by kernel_rfl) (hQ : ∀ c a w, Q (.panic c) (a.put oi.dst v) w → Q (.panic c) a w := by exact fun _ _ _ h => h)
    (hw : Region.wanted oi (yielded ops a.tmps) = true := by rfl) (hr : ∀ w', (execOp a.eval oi).run P w' = .ok (.value v) w' := by intro w'; go_simp; with_reducible rfl) (ha : a.put (some N) v = a' := by simp only [Act.put, List.setIfInBounds_toArray, List.set_cons_zero, List.set_cons_succ, i64_w, i32_w]; rfl) : wpAnyLast P md ops Q S ds (fuel + 1) l a w :=
  pure_ (l.setIfInBounds i true) hi hN hk hQ (Or.inl ⟨hw, hr⟩) ha h
theorem pU {P : Program} {ops : Array Oper} {Q : Exit → Act → World → Prop} {md : Region.Mode} {S : World → Prop} {ds : List Nat} {T : Bool × List (List Nat × List Nat)} {oi : Oper} {fuel : Nat} {l : Array Bool} {a a' : Act} {w : World} (i N : Nat) (hT : Aside0 (rtab md ops = T)) (h : wpAnyLast P md ops Q S ds fuel (l.setIfInBounds i true) a' w)
    (hi : ops[i]? = some oi := by rfl) (hN : oi.dst = some N := by rfl) (hk : anyT T l.toList (l.setIfInBounds i true).toList i = true := by kernel_rfl) (hQ : ∀ c a w, Q (.panic c) (a.put oi.dst undef) w → Q (.panic c) a w := by exact fun _ _ _ h => h)
    (hw : Region.wanted oi (yielded ops a.tmps) = false := by rfl) (ha : a.put (some N) undef = a' := by simp only [Act.put, List.setIfInBounds_toArray, List.set_cons_zero, List.set_cons_succ, i64_w, i32_w]; rfl) : wpAnyLast P md ops Q S ds (fuel + 1) l a w :=
  pure_ (l.setIfInBounds i true) hi hN (any_of hT.out hk) hQ (Or.inr ⟨hw, rfl⟩) ha h
theorem tT {P : Program} {ops : Array Oper} {Q : Exit → Act → World → Prop} {md : Region.Mode} {S : World → Prop} {ds : List Nat} {T : Bool × List (List Nat × List Nat)} {B : List Nat} {oi : Oper} {v : Value} {fuel : Nat} {l : Array Bool} {a a' : Act} {w : World} (i N : Nat) (hT : Aside0 (rtab md ops = T)) (hB : Aside0 (waitsOk T.2 B = true)) (hS : S w)
    (hi : ops[i]? = some oi := by rfl) (hN : oi.dst = some N := by rfl) (hk : takeW T B ds l.toList (l.setIfInBounds i true).toList i = true := by kernel_rfl) (hQ : ∀ c a w, Q (.panic c) (a.put oi.dst v) w → Q (.panic c) a w := by exact fun _ _ _ h => h)
    (hw : Region.wanted oi (yielded ops a.tmps) = true := by rfl) (hr : ∀ w', S w' → (execOp a.eval oi).run P w' = .ok (.value v) w') (h : wpAnyLast P md ops Q S ds fuel (l.setIfInBounds i true) a' w) (ha : a.put (some N) v = a' := by simp only [Act.put, List.setIfInBounds_toArray, List.set_cons_zero, List.set_cons_succ, i64_w, i32_w]; rfl) : wpAnyLast P md ops Q S ds (fuel + 1) l a w :=
  take_ (l.setIfInBounds i true) hi hN (take_ofW hT.out hB.out hk) hQ (Or.inl ⟨hw, hr⟩) hS ha h
theorem tK {P : Program} {ops : Array Oper} {Q : Exit → Act → World → Prop} {md : Region.Mode} {S : World → Prop} {ds : List Nat} {oi : Oper} {v : Value} {fuel : Nat} {l : Array Bool} {a a' : Act} {w : World} (i N : Nat) (hS : S w)
    (hi : ops[i]? = some oi := by rfl) (hN : oi.dst = some N := by rfl) (hk : takeB md ops ds l (l.setIfInBounds i true) i = true := by kernel_rfl) (hQ : ∀ c a w, Q (.panic c) (a.put oi.dst v) w → Q (.panic c) a w := by exact fun _ _ _ h => h)
    (hw : Region.wanted oi (yielded ops a.tmps) = true := by rfl) (hr : ∀ w', S w' → (execOp a.eval oi).run P w' = .ok (.value v) w') (h : wpAnyLast P md ops Q S ds fuel (l.setIfInBounds i true) a' w) (ha : a.put (some N) v = a' := by simp only [Act.put, List.setIfInBounds_toArray, List.set_cons_zero, List.set_cons_succ, i64_w, i32_w]; rfl) : wpAnyLast P md ops Q S ds (fuel + 1) l a w :=
  take_ (l.setIfInBounds i true) hi hN hk hQ (Or.inl ⟨hw, hr⟩) hS ha h
theorem uB {p q : Prop} (h : p) (f : p → q := by intro h_; repeat (first | (with_reducible first | exact h_ | apply below_alloc | apply pw_below_drewN | apply below_drew1) | exact h_)) : q := f h
theorem uG {p q r : Prop} (h : p) (g : r) (f : p → r → q := by intro h_ g_; repeat (first | (with_reducible first | exact h_ | apply below_alloc | apply pw_below_drewN | apply below_drew1 | refine below_set ?_ g_) | exact h_)) : q := f h g
theorem uR {p q : Prop} (h : p) (f : p → q := by intro h_; (with_reducible repeat (first | apply Kd.R_alloc | apply Kd.R_drewN | apply Kd.R_drew)); exact h_) : q := f h
theorem uS {p q : Prop} (h : p) (f : p → q := by intro h_; (with_reducible repeat (first | apply Kd.S_alloc | apply Kd.S_drewN | apply Kd.S_drew)); exact h_) : q := f h
theorem uK {p q : Prop} (h : p) (f : p → q := by intro h_; (with_reducible repeat (first | refine blk_drewN ?_ _ | refine blk_drew ?_ | refine blk_alloc ?_ _)); exact h_) : q := f h
theorem uQ {p q : Prop} (h : p) (f : p → q := by intro h_; repeat (first | (with_reducible first | exact h_ | apply Kept.alloc | apply Kept.drewN | apply Kept.drew) | exact h_)) : q := f h
theorem uC {p q : Prop} (h : p) (f : p → q := by intro h_; repeat (first | exact h_ | (with_reducible refine Kd.C_alloc ?_ _) | (with_reducible refine Kd.C_drewN ?_ _) | (with_reducible refine Kd.C_drew ?_))) : q := f h
theorem uD {p : Prop} [Decidable p] (h : decide p = true := by first | (with_reducible assumption) | assumption) : p := of_decide_eq_true h
theorem uF {p : Prop} (h : p := by first | rfl | (simp; done) | (simp [*]; done)) : p := h
theorem uE {p : Prop} (h : p := by first | rfl | (simp [errW_none, errW_some] <;> rfl) | (simp [*, errW_none, errW_some] <;> rfl)) : p := h
theorem uM {p : Prop} (h : p := by (try simp only [List.map_toArray, List.map_cons, List.map_nil]); first | done | rfl | (simp only [List.length_drop, List.length_take]; rfl)) : p := h
theorem uW {p : Prop} (h : p := by repeat (first | exact Drawn0.refl _ | apply Drawn0.step)) : p := h
theorem uH {α : Type} {a b : α} {p q : Prop} (e : a = b) (h : p) (f : a = b → p → q := by intro e_ H; first | (rw [e_]; with_reducible exact H) | (have H2_ := (Option.bind_some _ _).symm.trans H; rw [e_]; with_reducible exact H2_) | (have H2_ := (Option.bind_some _ _).symm.trans H; with_reducible exact H2_) | with_reducible exact H | (rw [e_]; exact H) | exact H) : q := f e h
theorem uT {α : Type} {d : Kd α} {e base : Nat} {ok ok' : Nat → Prop} {W W' : World} {v : Value} {xs : List α} (h : d.R e W base ok v xs) (hok : ∀ k, ok k → ok' k) (f : d.R e W base ok' v xs → d.R e W' base ok' v xs := by intro h_; (with_reducible repeat (first | apply Kd.R_alloc | apply Kd.R_drewN | apply Kd.R_drew)); exact h_) : d.R e W' base ok' v xs := f (Kd.R_mono h hok)
theorem uY {α : Type} {d : Kd α} {e base : Nat} {ok ok' : Nat → Prop} {W W' : World} {v : Value} {xs : List α} (h : d.S e W base ok v xs) (hok : ∀ k, ok k → ok' k) (f : d.S e W base ok' v xs → d.S e W' base ok' v xs := by intro h_; (with_reducible repeat (first | apply Kd.S_alloc | apply Kd.S_drewN | apply Kd.S_drew)); exact h_) : d.S e W' base ok' v xs := f (Kd.S_mono h hok)
theorem uX {p q : Prop} (h : p) (f : p → q := by intro h_; (with_reducible repeat (first | apply Kd.R_alloc | apply Kd.R_drewN | apply Kd.R_drew)); first | exact h_ | exact Kd.R_mono h_ (fun _ hk => ⟨hk.2, hk.1⟩)) : q := f h
theorem uN {p : Prop} (h : p := by first | (go_simp; done) | (go_simp; rfl)) : p := h
theorem gL {P : Program} {ops : Array Oper} {Q : Exit → Act → World → Prop} {rest : List Oper} {oi : Oper} {a : Act} {w : World} (N : Tmp) {f : FuncId} {fn : Func} {ar : Array Operand} {ts : Array TypeId} (hf : P.funcs[f]? = some fn) (args : Array Value) (h : Calls P f args w fun e w' => ∃ v, e = .returned v ∧ wpList P ops Q rest (a.put (some N) v) w')
    (hd : oi.dst = some N := by rfl) (hg : oi.guard = none := by rfl) (hname : (fn.name == "runtime.NumGoroutine") = false := by kernel_rfl) (hb : fn.body.isSome = true := by rfl)
    (hop : oi.op = .call { callee := .value (.func f), args := ar, argTypes := ts } := by rfl) (hargs : ar.map a.eval = args := by (try simp only [List.map_toArray, List.map_cons, List.map_nil]); first | done | rfl | (simp only [List.length_drop, List.length_take]; rfl)) : wpList P ops Q (oi :: rest) a w := goesL_ (some N) hd hg hf hname hb args hop hargs h
theorem uL {x : Int} {w : World} {b : Nat} {ok : Nat → Prop} : (Kd.int .i64).M w b ok x [.int .i64 x] := rfl
theorem uZ {x : ByteArray} {w : World} {b : Nat} {ok : Nat → Prop} : Kd.string.M w b ok x [.string x] := rfl
theorem uP {α : Type} {c : Prop} [Decidable c] {o : Option α} {r : α} (h : (if c then o else none) = some r) : c ∧ o = some r := by
  by_cases hc : c
  · rw [if_pos hc] at h
    exact ⟨hc, h⟩
  · rw [if_neg hc] at h
    cases h
theorem uI {α : Type} {c : Prop} [Decidable c] {o : Option α} {r : α} (h : (if c then o else none) = some r) : decide c = true ∧ o = some r := by
  by_cases hc : c
  · rw [if_pos hc] at h
    exact ⟨decide_eq_true hc, h⟩
  · rw [if_neg hc] at h
    cases h
theorem z2_ {p0 p1 : Prop} (h0 : p0) (h1 : p1) : Aside0 p0 ∧ Aside0 p1 := ⟨⟨h0⟩, ⟨h1⟩⟩
theorem z3_ {p0 p1 p2 : Prop} (h0 : p0) (h1 : p1) (h2 : p2) : Aside0 p0 ∧ Aside0 p1 ∧ Aside0 p2 := ⟨⟨h0⟩, ⟨h1⟩, ⟨h2⟩⟩
theorem z4_ {p0 p1 p2 p3 : Prop} (h0 : p0) (h1 : p1) (h2 : p2) (h3 : p3) : Aside0 p0 ∧ Aside0 p1 ∧ Aside0 p2 ∧ Aside0 p3 := ⟨⟨h0⟩, ⟨h1⟩, ⟨h2⟩, ⟨h3⟩⟩
theorem z5_ {p0 p1 p2 p3 p4 : Prop} (h0 : p0) (h1 : p1) (h2 : p2) (h3 : p3) (h4 : p4) : Aside0 p0 ∧ Aside0 p1 ∧ Aside0 p2 ∧ Aside0 p3 ∧ Aside0 p4 := ⟨⟨h0⟩, ⟨h1⟩, ⟨h2⟩, ⟨h3⟩, ⟨h4⟩⟩
theorem z6_ {p0 p1 p2 p3 p4 p5 : Prop} (h0 : p0) (h1 : p1) (h2 : p2) (h3 : p3) (h4 : p4) (h5 : p5) : Aside0 p0 ∧ Aside0 p1 ∧ Aside0 p2 ∧ Aside0 p3 ∧ Aside0 p4 ∧ Aside0 p5 := ⟨⟨h0⟩, ⟨h1⟩, ⟨h2⟩, ⟨h3⟩, ⟨h4⟩, ⟨h5⟩⟩
theorem z7_ {p0 p1 p2 p3 p4 p5 p6 : Prop} (h0 : p0) (h1 : p1) (h2 : p2) (h3 : p3) (h4 : p4) (h5 : p5) (h6 : p6) : Aside0 p0 ∧ Aside0 p1 ∧ Aside0 p2 ∧ Aside0 p3 ∧ Aside0 p4 ∧ Aside0 p5 ∧ Aside0 p6 := ⟨⟨h0⟩, ⟨h1⟩, ⟨h2⟩, ⟨h3⟩, ⟨h4⟩, ⟨h5⟩, ⟨h6⟩⟩
theorem z8_ {p0 p1 p2 p3 p4 p5 p6 p7 : Prop} (h0 : p0) (h1 : p1) (h2 : p2) (h3 : p3) (h4 : p4) (h5 : p5) (h6 : p6) (h7 : p7) : Aside0 p0 ∧ Aside0 p1 ∧ Aside0 p2 ∧ Aside0 p3 ∧ Aside0 p4 ∧ Aside0 p5 ∧ Aside0 p6 ∧ Aside0 p7 := ⟨⟨h0⟩, ⟨h1⟩, ⟨h2⟩, ⟨h3⟩, ⟨h4⟩, ⟨h5⟩, ⟨h6⟩, ⟨h7⟩⟩
theorem z9_ {p0 p1 p2 p3 p4 p5 p6 p7 p8 : Prop} (h0 : p0) (h1 : p1) (h2 : p2) (h3 : p3) (h4 : p4) (h5 : p5) (h6 : p6) (h7 : p7) (h8 : p8) : Aside0 p0 ∧ Aside0 p1 ∧ Aside0 p2 ∧ Aside0 p3 ∧ Aside0 p4 ∧ Aside0 p5 ∧ Aside0 p6 ∧ Aside0 p7 ∧ Aside0 p8 := ⟨⟨h0⟩, ⟨h1⟩, ⟨h2⟩, ⟨h3⟩, ⟨h4⟩, ⟨h5⟩, ⟨h6⟩, ⟨h7⟩, ⟨h8⟩⟩
theorem z10_ {p0 p1 p2 p3 p4 p5 p6 p7 p8 p9 : Prop} (h0 : p0) (h1 : p1) (h2 : p2) (h3 : p3) (h4 : p4) (h5 : p5) (h6 : p6) (h7 : p7) (h8 : p8) (h9 : p9) : Aside0 p0 ∧ Aside0 p1 ∧ Aside0 p2 ∧ Aside0 p3 ∧ Aside0 p4 ∧ Aside0 p5 ∧ Aside0 p6 ∧ Aside0 p7 ∧ Aside0 p8 ∧ Aside0 p9 := ⟨⟨h0⟩, ⟨h1⟩, ⟨h2⟩, ⟨h3⟩, ⟨h4⟩, ⟨h5⟩, ⟨h6⟩, ⟨h7⟩, ⟨h8⟩, ⟨h9⟩⟩
theorem z11_ {p0 p1 p2 p3 p4 p5 p6 p7 p8 p9 p10 : Prop} (h0 : p0) (h1 : p1) (h2 : p2) (h3 : p3) (h4 : p4) (h5 : p5) (h6 : p6) (h7 : p7) (h8 : p8) (h9 : p9) (h10 : p10) : Aside0 p0 ∧ Aside0 p1 ∧ Aside0 p2 ∧ Aside0 p3 ∧ Aside0 p4 ∧ Aside0 p5 ∧ Aside0 p6 ∧ Aside0 p7 ∧ Aside0 p8 ∧ Aside0 p9 ∧ Aside0 p10 := ⟨⟨h0⟩, ⟨h1⟩, ⟨h2⟩, ⟨h3⟩, ⟨h4⟩, ⟨h5⟩, ⟨h6⟩, ⟨h7⟩, ⟨h8⟩, ⟨h9⟩, ⟨h10⟩⟩
theorem z12_ {p0 p1 p2 p3 p4 p5 p6 p7 p8 p9 p10 p11 : Prop} (h0 : p0) (h1 : p1) (h2 : p2) (h3 : p3) (h4 : p4) (h5 : p5) (h6 : p6) (h7 : p7) (h8 : p8) (h9 : p9) (h10 : p10) (h11 : p11) : Aside0 p0 ∧ Aside0 p1 ∧ Aside0 p2 ∧ Aside0 p3 ∧ Aside0 p4 ∧ Aside0 p5 ∧ Aside0 p6 ∧ Aside0 p7 ∧ Aside0 p8 ∧ Aside0 p9 ∧ Aside0 p10 ∧ Aside0 p11 := ⟨⟨h0⟩, ⟨h1⟩, ⟨h2⟩, ⟨h3⟩, ⟨h4⟩, ⟨h5⟩, ⟨h6⟩, ⟨h7⟩, ⟨h8⟩, ⟨h9⟩, ⟨h10⟩, ⟨h11⟩⟩
theorem z13_ {p0 p1 p2 p3 p4 p5 p6 p7 p8 p9 p10 p11 p12 : Prop} (h0 : p0) (h1 : p1) (h2 : p2) (h3 : p3) (h4 : p4) (h5 : p5) (h6 : p6) (h7 : p7) (h8 : p8) (h9 : p9) (h10 : p10) (h11 : p11) (h12 : p12) : Aside0 p0 ∧ Aside0 p1 ∧ Aside0 p2 ∧ Aside0 p3 ∧ Aside0 p4 ∧ Aside0 p5 ∧ Aside0 p6 ∧ Aside0 p7 ∧ Aside0 p8 ∧ Aside0 p9 ∧ Aside0 p10 ∧ Aside0 p11 ∧ Aside0 p12 := ⟨⟨h0⟩, ⟨h1⟩, ⟨h2⟩, ⟨h3⟩, ⟨h4⟩, ⟨h5⟩, ⟨h6⟩, ⟨h7⟩, ⟨h8⟩, ⟨h9⟩, ⟨h10⟩, ⟨h11⟩, ⟨h12⟩⟩
theorem z14_ {p0 p1 p2 p3 p4 p5 p6 p7 p8 p9 p10 p11 p12 p13 : Prop} (h0 : p0) (h1 : p1) (h2 : p2) (h3 : p3) (h4 : p4) (h5 : p5) (h6 : p6) (h7 : p7) (h8 : p8) (h9 : p9) (h10 : p10) (h11 : p11) (h12 : p12) (h13 : p13) : Aside0 p0 ∧ Aside0 p1 ∧ Aside0 p2 ∧ Aside0 p3 ∧ Aside0 p4 ∧ Aside0 p5 ∧ Aside0 p6 ∧ Aside0 p7 ∧ Aside0 p8 ∧ Aside0 p9 ∧ Aside0 p10 ∧ Aside0 p11 ∧ Aside0 p12 ∧ Aside0 p13 := ⟨⟨h0⟩, ⟨h1⟩, ⟨h2⟩, ⟨h3⟩, ⟨h4⟩, ⟨h5⟩, ⟨h6⟩, ⟨h7⟩, ⟨h8⟩, ⟨h9⟩, ⟨h10⟩, ⟨h11⟩, ⟨h12⟩, ⟨h13⟩⟩
end Go.Proofs.Ytmjipbmpapcboaa.P
