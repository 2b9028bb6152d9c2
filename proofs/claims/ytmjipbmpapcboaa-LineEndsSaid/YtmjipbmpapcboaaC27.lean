/- Proved: the theorems below, each under its own conditions. -/
import Derived.Test.YtmjipbmpapcboaaC26
import Derived.Test.YtmjipbmpapcboaaC15
import Derived.Test.YtmjipbmpapcboaaC13
import Derived.Test.YtmjipbmpapcboaaC14
set_option maxHeartbeats 8000000
set_option maxRecDepth 100000
namespace Go.Proofs.Ytmjipbmpapcboaa.P
open Go.RowKit Go.Proofs.YtmjipbmpapcboaaW.PrintWords Go.Proofs.YtmjipbmpapcboaaW.PrintLast Go.Proofs.YtmjipbmpapcboaaW.PrintMore
set_option linter.unusedVariables false
set_option linter.unusedSimpArgs false
structure WB (w0 W : World) (g : Nat) (A : Option Addr) (n c : Nat) (s : WSt) (vs vl vc us ul uc : Value) (st : List Ent) (L C : List Int) : Prop where
  below : Below w0.heap.size w0 W
  lo : w0.heap.size ≤ g
  blk : W.heap[g]? = some (.cells #[.int .i64 s.base, vs, .int .i64 s.isol, .int .i64 s.emb, .int .i64 s.val, .int .i64 s.most, vl, vc, .slice A n c] 78 (0, 0))
  st : Kd.R k96 96 W w0.heap.size (fun _ => True) us st
  lv : Kd.R (Kd.int .i64) 3 W w0.heap.size (fun k => some k ≠ uc.ownBlock) ul L
  cl : Kd.R (Kd.int .i64) 3 W w0.heap.size (fun k => some k ≠ ul.ownBlock) uc C
theorem WS.wb {w0 W : World} {g : Nat} {A : Option Addr} {n c : Nat} {s : WSt} {vs vl vc : Value} (h : WS w0 W g A n c s vs vl vc) : WB w0 W g A n c s vs vl vc vs vl vc s.stack s.lv s.cl := ⟨h.below, h.lo, h.blk, h.st, h.lv, h.cl⟩
theorem WB.ws {w0 W : World} {g : Nat} {A : Option Addr} {n c : Nat} {s : WSt} {vs vl vc : Value} {st : List Ent} {L C : List Int} (h : WB w0 W g A n c s vs vl vc vs vl vc st L C) : WS w0 W g A n c {s with stack := st, lv := L, cl := C} vs vl vc := ⟨h.below, h.lo, h.blk, h.st, h.lv, h.cl⟩
section
variable {w0 W W2 w1 : World} {g : Nat} {A : Option Addr} {n c : Nat} {s : WSt} {vs vl vc us ul uc : Value} {st : List Ent} {L C : List Int}
theorem WB.more (h : WB w0 W g A n c s vs vl vc us ul uc st L C) (hb : Below W.heap.size W W2) : WB w0 W2 g A n c s vs vl vc us ul uc st L C :=
  ⟨below_step h.below hb, h.lo, blk_below h.blk hb, Kd.R_below h.st hb, Kd.R_below h.lv hb, Kd.R_below h.cl hb⟩
theorem WB.put (h : WB w0 W g A n c s vs vl vc us ul uc st L C) (j : Nat) (u : Value) {s' : WSt} {vs' vl' vc' : Value}
    (hc : (#[.int .i64 s.base, vs, .int .i64 s.isol, .int .i64 s.emb, .int .i64 s.val, .int .i64 s.most, vl, vc, .slice A n c] : Array Value).setIfInBounds j u = #[.int .i64 s'.base, vs', .int .i64 s'.isol, .int .i64 s'.emb, .int .i64 s'.val, .int .i64 s'.most, vl', vc', .slice A n c]) :
    WB w0 (W.setCell ⟨g, j, none⟩ u) g A n c s' vs' vl' vc' us ul uc st L C :=
  ⟨below_set h.below h.lo, h.lo, blk_put h.blk j u hc, Kd.R_set h.st h.blk (by decide) j u, Kd.R_set h.lv h.blk (by decide) j u, Kd.R_set h.cl h.blk (by decide) j u⟩
end
theorem own_tyI {W : World} {base : Nat} {ok : Nat → Prop} {v : Value} {xs : List Int} (h : Kd.R (Kd.int .i64) 3 W base ok v xs) : ∀ k, v.ownBlock = some k → ∃ cells, W.heap[k]? = some (.cells cells 3 (0, 0)) := by
  intro k hk;obtain ⟨_, _, _, q, hq, cells, hc⟩ := (Kd.R_bound h).1 k hk;rw [show 3 :: (Kd.int .i64).E = [3] from rfl, List.mem_singleton] at hq;subst hq;exact ⟨cells, hc⟩
theorem R_grownE {W w1 : World} {base : Nat} {ok : Nat → Prop} {v : Value} {xs : List Ent} {row : Option Nat} (h : Kd.R k96 96 W base ok v xs) (hg : W.grownBy w1 row) (hty : ∀ k, row = some k → ∃ cells, W.heap[k]? = some (.cells cells 3 (0, 0))) : Kd.R k96 96 w1 base ok v xs := by
  refine Kd.R_mono (Kd.R_grown (Kd.R_bound h) hg ?_) (fun k hk => hk.1);rintro k ⟨_, _, _, q, hq, cells, hc⟩ e;obtain ⟨cells', hc'⟩ := hty k e.symm;rw [show 96 :: (k96).E = [96] from rfl, List.mem_singleton] at hq;subst hq;rw [hc] at hc'
  injection hc' with hc'
  injection hc' with _ hc'
  exact absurd hc' (by decide)
theorem blk_ty {W : World} {g k t t' : Nat} {cs cs' : Array Value} (h : W.heap[g]? = some (.cells cs t (0, 0))) (h' : W.heap[k]? = some (.cells cs' t' (0, 0))) (ht : t ≠ t') : g ≠ k := by
  rintro rfl;rw [h] at h'
  injection h' with h'
  injection h' with _ h'
  exact ht h'
structure Bx (W : World) (ul uc : Value) (k : Nat) (x : Int) : Prop where
  blk : W.heap[k]? = some (.cells #[.int .i64 x] 3 (0, 0))
  nl : some k ≠ ul.ownBlock
  nc : some k ≠ uc.ownBlock
theorem Bx.more {W W2 : World} {ul uc : Value} {k : Nat} {x : Int} (h : Bx W ul uc k x) (hb : Below W.heap.size W W2) : Bx W2 ul uc k x := ⟨blk_below h.blk hb, h.nl, h.nc⟩
theorem Bx.made {w0 W w1 : World} {g : Nat} {A : Option Addr} {n c : Nat} {s : WSt} {vs vl vc us ul uc : Value} {st : List Ent} {L C : List Int} (h : WB w0 W g A n c s vs vl vc us ul uc st L C) {k : Nat} {x : Int} (hk : k = W.heap.size) (hb : w1.heap[k]? = some (.cells #[.int .i64 x] 3 (0, 0))) : Bx w1 ul uc k x :=
  ⟨hb, fun e => by have := Kd.R_lt h.lv k e.symm; omega, fun e => by have := Kd.R_lt h.cl k e.symm; omega⟩
theorem Bx.read {W : World} {ul uc : Value} {k : Nat} {x : Int} (h : Bx W ul uc k x) : Kd.C (Kd.int .i64) W (some ⟨k, 0, none⟩) 1 [x] := by
  refine ⟨rfl, by simp, fun _ => ⟨_, rfl, ?_⟩⟩;intro i p hi
  have h0 : i = 0 := by
    have := (List.getElem?_eq_some_iff.1 hi).1;simpa using this
  subst h0
  injection hi with hi
  subst hi;refine ⟨[.int .i64 x], rfl, rfl, ?_⟩;intro j u hj
  have h1 : j = 0 := by
    have := (List.getElem?_eq_some_iff.1 hj).1;simpa using this
  subst h1
  injection hj with hj
  subst hj;exact blk_cell h.blk 0
theorem Bx.grown_l {W w1 : World} {ul uc ul' : Value} {k : Nat} {x : Int} (h : Bx W ul uc k x) (hg : W.grownBy w1 ul.ownBlock) (hat : ul'.ownBlock = ul.ownBlock ∨ ∃ b, ul'.ownBlock = some b ∧ W.heap.size ≤ b) : Bx w1 ul' uc k x := by
  refine ⟨blk_grown h.blk hg h.nl, ?_, h.nc⟩
  rcases hat with e | ⟨b, e, hb⟩
  · rw [e]; exact h.nl
  · rw [e]
    intro e2
    injection e2 with e2
    have := blk_lt h.blk
    omega
section
variable {ops : Array Oper} {rest : List Oper} {o : Oper} {a : Act} {Q : Exit → Act → World → Prop} {Kc : Act → World → Prop} {w0 W : World} {g : Nat} {A : Option Addr} {n c : Nat} {s : WSt} {vs vl vc us ul uc : Value} {st : List Ent} {L C : List Int}
theorem box1_step {x : Int} (hw : Region.wanted o (yielded ops a.tmps) = true) {N : Tmp} (_hd : o.dst = some N)
    (hrun : (execOp a.eval o).run Try.prog W = .ok (.value (.slice (some ⟨W.heap.size, 0, none⟩) 1 1)) (W.alloc (.cells #[.int .i64 x] 3)))
    (h : ∀ k w1, k = W.heap.size → w1.heap[k]? = some (.cells #[.int .i64 x] 3 (0, 0)) → Below W.heap.size W w1 → Kc (a.put o.dst (.slice (some ⟨k, 0, none⟩) 1 1)) w1) :
    if Region.wanted o (yielded ops a.tmps) = true then Oper.wp Try.prog o a W Kc Q else Kc (a.put o.dst undef) W :=
  event_step hw hrun (h _ _ rfl (blk_new W _) (below_alloc (Below.refl _ _) _))
theorem WB.grow_l (h : WB w0 W g A n c s vs vl vc us ul uc st L C) {w1 : World} {ul' : Value} {L' : List Int} (hR : Kd.R (Kd.int .i64) 3 w1 w0.heap.size (fun k => some k ≠ uc.ownBlock) ul' L') (hB : Below w0.heap.size w0 w1) (hg : W.grownBy w1 ul.ownBlock) (hat : ul'.ownBlock = ul.ownBlock ∨ ∃ b, ul'.ownBlock = some b ∧ W.heap.size ≤ b) :
    WB w0 w1 g A n c s vs vl vc us ul' uc st L' C := by
  refine ⟨hB, h.lo, blk_grown h.blk hg ?_, R_grownE h.st hg (fun k hk => own_tyI h.lv k hk), hR, ?_⟩
  · intro e
    obtain ⟨cs, hcs⟩ := own_tyI h.lv g e.symm;exact blk_ty h.blk hcs (by decide) rfl
  · refine Kd.R_mono (Kd.R_grown (Kd.R_bound h.cl) hg (fun k hk => hk.1)) ?_
    rintro k ⟨h1, h2, h3, _⟩
    rcases hat with e | ⟨b, e, hb⟩
    · rw [e]; exact h1
    · rw [e]
      intro e2
      injection e2 with e2
      omega
theorem WB.grow_c (h : WB w0 W g A n c s vs vl vc us ul uc st L C) {w1 : World} {uc' : Value} {C' : List Int} (hR : Kd.R (Kd.int .i64) 3 w1 w0.heap.size (fun k => some k ≠ ul.ownBlock) uc' C') (hB : Below w0.heap.size w0 w1) (hg : W.grownBy w1 uc.ownBlock) (hat : uc'.ownBlock = uc.ownBlock ∨ ∃ b, uc'.ownBlock = some b ∧ W.heap.size ≤ b) :
    WB w0 w1 g A n c s vs vl vc us ul uc' st L C' := by
  refine ⟨hB, h.lo, blk_grown h.blk hg ?_, R_grownE h.st hg (fun k hk => own_tyI h.cl k hk), ?_, hR⟩
  · intro e
    obtain ⟨cs, hcs⟩ := own_tyI h.cl g e.symm;exact blk_ty h.blk hcs (by decide) rfl
  · refine Kd.R_mono (Kd.R_grown (Kd.R_bound h.lv) hg (fun k hk => hk.1)) ?_
    rintro k ⟨h1, h2, h3, _⟩
    rcases hat with e | ⟨b, e, hb⟩
    · rw [e]; exact h1
    · rw [e]
      intro e2
      injection e2 with e2
      omega
theorem WB.base_le (h : WB w0 W g A n c s vs vl vc us ul uc st L C) : w0.heap.size ≤ W.heap.size := below_size h.below
theorem WB.app_l (h : WB w0 W g A n c s vs vl vc us ul uc st L C) {k : Nat} {x : Int} (hx0 : Bx W ul uc k x) (hL : L.length < 1000000) (hw : Region.wanted o (yielded ops a.tmps) = true) (sl xo : Operand)
    (ho : o.op = .call { callee := .builtin .append, args := #[sl, xo], argTypes := #[22, 22] }) (hs : a.eval sl = ul) (hx : a.eval xo = .slice (some ⟨k, 0, none⟩) 1 1)
    (hK : ∀ ul' w1, WB w0 w1 g A n c s vs vl vc us ul' uc st (L ++ [x]) C → W.grownBy w1 ul.ownBlock → (ul'.ownBlock = ul.ownBlock ∨ ∃ b, ul'.ownBlock = some b ∧ W.heap.size ≤ b) → Kc (a.put o.dst ul') w1) :
    if Region.wanted o (yielded ops a.tmps) = true then Oper.wp Try.prog o a W Kc Q else Kc (a.put o.dst undef) W := by
  refine Kd.R_append_rows_step (Kd.int .i64) (w0 := w0) w0.heap.size hw sl xo 22 3 (.int .i64 0) 8 ho Try.underlying22 info3 rfl (by decide) (by omega) ul L [x] _ _ _ (fun k => some k ≠ uc.ownBlock) (fun _ => False) hs hx h.lv hx0.read (fun _ _ hh => hh) (fun _ hh => hh.elim) ?_ h.below h.base_le (by omega) ?_
  · intro k hk e
    have := Kd.R_lt h.cl k e.symm
    omega
  · intro ul' w1 hR hB hg hat
    exact hK ul' w1 (h.grow_l hR hB hg hat) hg hat
theorem WB.app_c (h : WB w0 W g A n c s vs vl vc us ul uc st L C) {k : Nat} {x : Int} (hx0 : Bx W ul uc k x) (hL : C.length < 1000000) (hw : Region.wanted o (yielded ops a.tmps) = true) (sl xo : Operand)
    (ho : o.op = .call { callee := .builtin .append, args := #[sl, xo], argTypes := #[22, 22] }) (hs : a.eval sl = uc) (hx : a.eval xo = .slice (some ⟨k, 0, none⟩) 1 1)
    (hK : ∀ uc' w1, WB w0 w1 g A n c s vs vl vc us ul uc' st L (C ++ [x]) → Kc (a.put o.dst uc') w1) :
    if Region.wanted o (yielded ops a.tmps) = true then Oper.wp Try.prog o a W Kc Q else Kc (a.put o.dst undef) W := by
  refine Kd.R_append_rows_step (Kd.int .i64) (w0 := w0) w0.heap.size hw sl xo 22 3 (.int .i64 0) 8 ho Try.underlying22 info3 rfl (by decide) (by omega) uc C [x] _ _ _ (fun k => some k ≠ ul.ownBlock) (fun _ => False) hs hx h.cl hx0.read (fun _ _ hh => hh) (fun _ hh => hh.elim) ?_ h.below h.base_le (by omega) ?_
  · intro k hk e
    have := Kd.R_lt h.lv k e.symm
    omega
  · intro uc' w1 hR hB hg hat
    exact hK uc' w1 (h.grow_c hR hB hg hat)
theorem WB.app_c1 (h : WB w0 W g A n c s vs vl vc us ul uc st L C) {k : Nat} {x : Int} (hx0 : Bx W ul uc k x) (hL : C.length < 1000000) (hgd : o.guard = none) (sl xo : Operand)
    (ho : o.op = .call { callee := .builtin .append, args := #[sl, xo], argTypes := #[22, 22] }) (hs : a.eval sl = uc) (hx : a.eval xo = .slice (some ⟨k, 0, none⟩) 1 1)
    (hK : ∀ uc' w1, WB w0 w1 g A n c s vs vl vc us ul uc' st L (C ++ [x]) → wpList Try.prog ops Q rest (a.put o.dst uc') w1) : wpList Try.prog ops Q (o :: rest) a W := by
  refine Kd.R_append_rows (Kd.int .i64) (w0 := w0) w0.heap.size hgd sl xo 22 3 (.int .i64 0) 8 ho Try.underlying22 info3 rfl (by decide) (by omega) uc C [x] _ _ _ (fun k => some k ≠ ul.ownBlock) (fun _ => False) hs hx h.cl hx0.read (fun _ _ hh => hh) (fun _ hh => hh.elim) ?_ h.below h.base_le (by omega) ?_
  · intro k hk e
    have := Kd.R_lt h.lv k e.symm
    omega
  · intro uc' w1 hR hB hg hat
    exact hK uc' w1 (h.grow_c hR hB hg hat)
theorem WB.app_c2 (h : WB w0 W g A n c s vs vl vc us ul uc st L C) {x : Int} (hL : C.length < 1000000) (hgd : o.guard = none) (sl xo : Operand)
    (ho : o.op = .call { callee := .builtin .append, args := #[sl, xo], argTypes := #[22, 22] }) (hs : a.eval sl = uc) (hx : a.eval xo = .slice (some ⟨W.heap.size, 0, none⟩) 1 1)
    (hK : ∀ uc' w1, WB w0 w1 g A n c s vs vl vc us ul uc' st L (C ++ [x]) → wpList Try.prog ops Q rest (a.put o.dst uc') w1) : wpList Try.prog ops Q (o :: rest) a (W.alloc (.cells #[.int .i64 x] 3)) :=
  (h.more (below_alloc (Below.refl _ _) _)).app_c1 (Bx.made h rfl (blk_new W _)) hL hgd sl xo ho hs hx hK
end
def tp (s : WSt) : Ent := s.stack.getD (s.stack.length - 1) z96
theorem top_w {w0 w : World} {g : Nat} {A : Option Addr} {n c : Nat} {s : WSt} {vs vl vc : Value} (h : WS w0 w g A n c s vs vl vc) (hm : 0 < s.stack.length ∧ s.stack.length < 100000) :
    Calls Try.prog 72 #[.pointer (some ⟨g, 0, none⟩)] w fun e w' => e = .returned (.agg #[.int .i64 (tp s).f0, .int .i64 (tp s).f1, .bool (tp s).f2]) ∧ Below w.heap.size w w' :=
  top_calls w0 w g A n c s vs vl vc h (s.stack.length - 1) (by omega) (by omega)
theorem ent_f0 (x y : Int) (b : Bool) (w : World) : (Instr.field 96 (.agg #[.int .i64 x, .int .i64 y, .bool b]) 0).run Try.prog w = .ok (.int .i64 x) w := by kernel_rfl
theorem ent_f1 (x y : Int) (b : Bool) (w : World) : (Instr.field 96 (.agg #[.int .i64 x, .int .i64 y, .bool b]) 1).run Try.prog w = .ok (.int .i64 y) w := by kernel_rfl
theorem ent_f2 (x y : Int) (b : Bool) (w : World) : (Instr.field 96 (.agg #[.int .i64 x, .int .i64 y, .bool b]) 2).run Try.prog w = .ok (.bool b) w := by kernel_rfl
theorem top_b {w0 w : World} {g : Nat} {A : Option Addr} {n c : Nat} {s : WSt} {vs vl vc : Value} {L C : List Int} (h : WB w0 w g A n c s vs vl vc vs vl vc s.stack L C) (hm : 0 < s.stack.length ∧ s.stack.length < 100000) :
    Calls Try.prog 72 #[.pointer (some ⟨g, 0, none⟩)] w fun e w' => e = .returned (.agg #[.int .i64 (tp s).f0, .int .i64 (tp s).f1, .bool (tp s).f2]) ∧ Below w.heap.size w w' := top_w (s := {s with lv := L, cl := C}) h.ws hm
def fitsB (s : WSt) (x : Int) : Bool := decide (x ≤ 125) && decide (s.isol = 0) && decide (s.emb = 0)
theorem fits_calls {w0 w : World} {g : Nat} {A : Option Addr} {n c : Nat} {s : WSt} {vs vl vc us ul uc : Value} {st : List Ent} {L C : List Int} (h : WB w0 w g A n c s vs vl vc us ul uc st L C) (x : Int) (b : Bool) (hfb : fitsB s x = b) :
    Calls Try.prog 86 #[.pointer (some ⟨g, 0, none⟩), .int .i64 x] w fun e w' => e = .returned (.bool b) ∧ Below w.heap.size w w' := by
  subst hfb;unfold fitsB;have hu := Try.underlying96;have hu2 := Try.underlying78;have hu3 := Try.underlying76;have a2 := blk_cell h.blk 2;have a3 := blk_cell h.blk 3;have b2 : (s.isol == 0) = decide (s.isol = 0) := rfl;have b3 : (s.emb == 0) = decide (s.emb = 0) := rfl;clear h
  go_enter Try.func86, Try.ntmps86
  by_cases h1 : x ≤ 125
  · have e1 := decide_eq_true h1
    by_cases h2 : s.isol = 0
    · have e2 : (s.isol == 0) = true := by simpa using h2
      go_wp2;go_ret;exact ⟨by simp [h1, h2], Below.refl _ _⟩
    · have e2 : (s.isol == 0) = false := by simpa using h2
      go_wp2;go_ret;exact ⟨by simp [h1, h2], Below.refl _ _⟩
  · have e1 := decide_eq_false h1
    go_wp2;go_ret;exact ⟨by simp [h1], Below.refl _ _⟩
structure PS (W0 W : World) (v : Value) (st : List Ent) : Prop where
  below : Below W0.heap.size W0 W
  row : Kd.R k96 96 W W0.heap.size (fun _ => True) v st
structure BxE (W : World) (v : Value) (k : Nat) (x : Ent) : Prop where
  blk : W.heap[k]? = some (.cells #[.int .i64 x.f0, .int .i64 x.f1, .bool x.f2] 96 (0, 0))
  ne : some k ≠ v.ownBlock
theorem PS.more {W0 W W2 : World} {v : Value} {st : List Ent} (h : PS W0 W v st) (hb : Below W.heap.size W W2) : PS W0 W2 v st := ⟨below_step h.below hb, Kd.R_below h.row hb⟩
theorem BxE.new {W w1 : World} {v v1 : Value} {k : Nat} {x : Ent} (h : BxE W v k x) (hg : W.grownBy w1 none) (hat : ∃ b, v1.ownBlock = some b ∧ W.heap.size ≤ b) : BxE w1 v1 k x := by
  refine ⟨blk_grown h.blk hg (by simp), ?_⟩;obtain ⟨b, e, hb⟩ := hat;rw [e];intro e2
  injection e2 with e2
  have := blk_lt h.blk
  omega
theorem BxE.grown {W w1 : World} {v v1 : Value} {k : Nat} {x : Ent} (h : BxE W v k x) (hg : W.grownBy w1 v.ownBlock) (hat : v1.ownBlock = v.ownBlock ∨ ∃ b, v1.ownBlock = some b ∧ W.heap.size ≤ b) : BxE w1 v1 k x := by
  refine ⟨blk_grown h.blk hg h.ne, ?_⟩
  rcases hat with e | ⟨b, e, hb⟩
  · rw [e]; exact h.ne
  · rw [e]
    intro e2
    injection e2 with e2
    have := blk_lt h.blk
    omega
theorem BxE.read {W : World} {v : Value} {k : Nat} {x : Ent} (h : BxE W v k x) : Kd.C k96 W (some ⟨k, 0, none⟩) 1 [x] := by
  refine ⟨rfl, by simp, fun _ => ⟨_, rfl, ?_⟩⟩;intro i p hi
  have h0 : i = 0 := by
    have := (List.getElem?_eq_some_iff.1 hi).1;simpa using this
  subst h0
  injection hi with hi
  subst hi;refine ⟨[.int .i64 x.f0, .int .i64 x.f1, .bool x.f2], rfl, k96_mk W x, ?_⟩;intro j u hj;rw [Nat.zero_mul, Nat.zero_add]
  match j, hj with
  | 0, hj => injection hj with hj; subst hj; exact blk_cell h.blk 0
  | 1, hj => injection hj with hj; subst hj; exact blk_cell h.blk 1
  | 2, hj => injection hj with hj; subst hj; exact blk_cell h.blk 2
  | j + 3, hj => simp at hj
section
variable {ops : Array Oper} {rest : List Oper} {o : Oper} {a : Act} {Q : Exit → Act → World → Prop} {Kc : Act → World → Prop} {W0 W : World} {v : Value} {st : List Ent}
theorem boxE_step {x : Ent} (hw : Region.wanted o (yielded ops a.tmps) = true) {N : Tmp} (_hd : o.dst = some N)
    (hrun : (execOp a.eval o).run Try.prog W = .ok (.value (.slice (some ⟨W.heap.size, 0, none⟩) 1 1)) (W.alloc (.cells #[.int .i64 x.f0, .int .i64 x.f1, .bool x.f2] 96)))
    (h : ∀ k w1, k = W.heap.size → w1.heap[k]? = some (.cells #[.int .i64 x.f0, .int .i64 x.f1, .bool x.f2] 96 (0, 0)) → Below W.heap.size W w1 → Kc (a.put o.dst (.slice (some ⟨k, 0, none⟩) 1 1)) w1) :
    if Region.wanted o (yielded ops a.tmps) = true then Oper.wp Try.prog o a W Kc Q else Kc (a.put o.dst undef) W :=
  event_step hw hrun (h _ _ rfl (blk_new W _) (below_alloc (Below.refl _ _) _))
theorem lit0_step (hB : Below W0.heap.size W0 W) (hw : Region.wanted o (yielded ops a.tmps) = true) {N : Tmp} (hd : o.dst = some N)
    (hrun : (execOp a.eval o).run Try.prog W = .ok (.value (.slice (some ⟨W.heap.size, 0, none⟩) 0 0)) (W.alloc (.cells #[] 96)))
    (h : ∀ v1 w1, PS W0 w1 v1 [] → W.grownBy w1 none → (∃ b, v1.ownBlock = some b ∧ W.heap.size ≤ b) → Kc (a.put o.dst v1) w1) :
    if Region.wanted o (yielded ops a.tmps) = true then Oper.wp Try.prog o a W Kc Q else Kc (a.put o.dst undef) W := by
  refine Kd.R_lit_step k96 (w0 := W0) W0.heap.size 96 hw hd (xs := []) (inner := []) (ok := fun _ => True) (okp := fun _ => True) hrun (Reps.none _ _) (fun _ hk => hk) trivial hB (below_size hB) (by simp) ?_;intro v1 w1 ho hb hg hn;exact h v1 w1 ⟨hb, ho⟩ hg hn
theorem PS.app (h : PS W0 W v st) {A : Option Addr} {m c : Nat} {ys : List Ent} (hR : Kd.C k96 W A m ys) (hL : st.length + m < 1000000) (hw : Region.wanted o (yielded ops a.tmps) = true) (sl xo : Operand)
    (ho : o.op = .call { callee := .builtin .append, args := #[sl, xo], argTypes := #[76, 76] }) (hs : a.eval sl = v) (hx : a.eval xo = .slice A m c)
    (hK : ∀ v1 w1, PS W0 w1 v1 (st ++ ys) → W.grownBy w1 v.ownBlock → (v1.ownBlock = v.ownBlock ∨ ∃ b, v1.ownBlock = some b ∧ W.heap.size ≤ b) → Kc (a.put o.dst v1) w1) :
    if Region.wanted o (yielded ops a.tmps) = true then Oper.wp Try.prog o a W Kc Q else Kc (a.put o.dst undef) W := by
  refine Kd.R_append_rows_step k96 (w0 := W0) W0.heap.size hw sl xo 76 96 (.agg #[.int .i64 0, .int .i64 0, .bool false]) 24 ho Try.underlying76 (by kernel_rfl) rfl (by decide) (by omega) v st ys _ _ _ (fun _ => True) (fun _ => False) hs hx h.row hR ?_ (fun _ hh => hh.elim) (fun _ _ => trivial) h.below (below_size h.below) (by omega) ?_
  · intro x cs hh
    have := k96_open hh;subst this;exact k96_mkM _ _ _ x
  · intro v1 w1 hR hB hg hat
    exact hK v1 w1 ⟨hB, hR⟩ hg hat
end
theorem WB.stack {w0 W0 W : World} {g : Nat} {A : Option Addr} {n c : Nat} {s : WSt} {vs vl vc us ul uc : Value} {st st' : List Ent} {L C : List Int} {v : Value} (h : WB w0 W0 g A n c s vs vl vc us ul uc st L C) (hp : PS W0 W v st') : WB w0 W g A n c s vs vl vc v ul uc st' L C :=
  ⟨below_step h.below hp.below, h.lo, blk_below h.blk hp.below, Kd.R_lower hp.row (below_size h.below), Kd.R_below h.lv hp.below, Kd.R_below h.cl hp.below⟩
end Go.Proofs.Ytmjipbmpapcboaa.P
namespace Go.Proofs.Ytmjipbmpapcboaa.P
open Go.RowKit Go.Proofs.YtmjipbmpapcboaaW.PrintWords Go.Proofs.YtmjipbmpapcboaaW.PrintLast Go.Proofs.YtmjipbmpapcboaaW.PrintMore
attribute [local go_sem] max2_int min2_int max_two min_two
set_option linter.unusedVariables false
set_option linter.unusedSimpArgs false
theorem push_calls (w0 w : World) (g : Nat) (A : Option Addr) (n c : Nat) (s : WSt) (vs vl vc : Value) (h : WS w0 w g A n c s vs vl vc) (x : Ent) (hm : s.stack.length < 100000) :
    Calls Try.prog 84 #[.pointer (some ⟨g, 0, none⟩), .agg #[.int .i64 x.f0, .int .i64 x.f1, .bool x.f2]] w fun e w' => ∃ vs', e = .returned (.tuple #[]) ∧ WS w0 w' g A n c {s with stack := s.stack ++ [x], most := max s.most ((s.stack.length : Int) + 1)} vs' vl vc := by
  have hu := Try.underlying96;have hu2 := Try.underlying78;have hu3 := Try.underlying76;obtain ⟨As, cs, rfl⟩ := Kd.R_slice h.st;have HSt := Aside0.mk (Kd.R_reads' h.st).2.2;have HM := Aside0.mk hm;have HW := Aside0.mk h.wb;clear h hm
  go_enter Try.func84, Try.ntmps84
  go_upto_region 1 with ((with_reducible refine gate_dst (N := 3) rfl ?_); (try (refine gate_guard (by rfl) ?_; dsimp only)); refine box_event ?hg (N := 3) ?hd (cs := #[.int .i64 x.f0, .int .i64 x.f1, .bool x.f2]) (t := 96) ?hr ?_; (case hd => rfl); (case hg => rfl); (case hr => exact uN); intro gr hg w1 hbox hb; have HW1 := Aside0.mk (HW.out.more hb); have HSt1 := Aside0.mk (Kd.C_below HSt.out hb); have HR := Aside0.mk hbox; clear hb hbox hg HW HSt)
  have HDB := Aside0.mk (below_drew1 (Below.refl w1.heap.size w1));have HW0 := Aside0.mk (HW1.out.more HDB.out);have HR0 := Aside0.mk (blk_below HR.out HDB.out);have HSt0 := Aside0.mk (Kd.C_below HSt1.out HDB.out);refine start_ (n := 13) (S := fun w' => w'.heap[g]? = some (.cells #[.int .i64 s.base, .slice As s.stack.length cs, .int .i64 s.isol, .int .i64 s.emb, .int .i64 s.val, .int .i64 s.most, vl, vc, .slice A n c] 78 (0, 0)) ∧ w'.heap[gr]? = some (.cells #[.int .i64 x.f0, .int .i64 x.f1, .bool x.f2] 96 (0, 0))) (ds := [12]) #[false, false, false, false, false, false, false, false, false, false, false, false, false] (by kernel_rfl) rfl rfl ⟨HW0.out.blk, HR0.out⟩ (fun hHeld => ?_);generalize w1.drew = k0 at hHeld HW0 HR0 HSt0 ⊢;clear HW1 HR HSt1 HDB;have HPB := Aside0.mk (Below.refl k0.heap.size k0);refine pK 0 4 ?_;refine pK 2 6 ?_;refine pK 3 7 ?_;refine pK 4 8 ?_;refine tK 5 9 hHeld (hr := by rintro w' ⟨hS, hR⟩; have a1 := blk_cell hS 1; go_simp; with_reducible rfl) (h := ?_);refine tK 7 11 hHeld (hr := by rintro w' ⟨hS, hR⟩; have a0 := blk_cell hR 0; have a1 := blk_cell hR 1; have a2 := blk_cell hR 2; go_simp; with_reducible rfl) (h := ?_);refine join_ (σ := Value × Value × Nat) 4 #[true, true, true, true, true, true, true, true, true, false, false, false, false] (fun s_ => [(5, s_.1), (10, s_.2.1), (12, .slice (some ⟨s_.2.2, 0, none⟩) 1 1)]) (fun s_ w' => PS k0 w' s_.2.1 s.stack ∧ BxE w' s_.2.1 s_.2.2 x) ?_ ?_;rotate_left
  · skip
    intro hCont;refine two_ (i := 1) (j := 8) (Ni := some 5) (Nj := some 12) #[true, true, true, true, true, true, false, true, false, false, false, false, false] #[true, false, true, true, true, true, false, true, true, false, false, false, false] rfl rfl rfl rfl (by kernel_rfl) (by decide) (by decide) (fun K hK => ?_) (fun K hK => ?_)
    · skip
      refine lit0_step HPB.out (by rfl) (N := 5) rfl (by first | (go_simp; done) | (go_simp; rfl)) ?_;intro v5 w2 hp hg hat;clear HPB;have HPB := Aside0.mk hp.below;have HP := Aside0.mk hp;clear hp hg hat;refine hK.out _ _ ⟨blk_below HW0.out.blk HPB.out, blk_below HR0.out HPB.out⟩ (fun hHeld => ?_);clear hK K;refine norm_ (a' := ?_) ?_ ?_;rotate_left
      · show Act.put _ (some 5) _ = _
        simp only [Act.put, List.setIfInBounds_toArray, List.set_cons_zero, List.set_cons_succ, i64_w, i32_w];rfl
      refine two_ (i := 6) (j := 8) (Ni := some 10) (Nj := some 12) #[true, true, true, true, true, true, true, true, false, false, false, false, false] #[true, true, true, true, true, true, false, true, true, false, false, false, false] rfl rfl rfl rfl (by kernel_rfl) (by decide) (by decide) (fun K hK => ?_) (fun K hK => ?_)
      · skip
        refine HP.out.app (Kd.C_below HSt0.out HPB.out) (by have := HM.out; simp only [List.length_nil]; omega) (by rfl) (.tmp 5) (.tmp 9) rfl rfl rfl ?_;intro v10 w4 hp hg hat;rw [List.nil_append] at hp;clear HPB HP;have HPB := Aside0.mk hp.below;have HP := Aside0.mk hp;clear hp hg hat;refine hK.out _ _ ⟨blk_below HW0.out.blk HPB.out, blk_below HR0.out HPB.out⟩ (fun hHeld => ?_);clear hK K;refine norm_ (a' := ?_) ?_ ?_;rotate_left
        · show Act.put _ (some 10) _ = _
          simp only [Act.put, List.setIfInBounds_toArray, List.set_cons_zero, List.set_cons_succ, i64_w, i32_w];rfl
        refine one_ (i := 8) (N := some 12) #[true, true, true, true, true, true, true, true, true, false, false, false, false] rfl rfl (by kernel_rfl) (by decide) (fun K hK => ?_);refine boxE_step (x := x) (by rfl) (N := 12) rfl (by first | (go_simp; done) | (go_simp; rfl)) ?_;intro kx w3 hk hb1 hb;have HX := Aside0.mk (show BxE w3 v10 kx x from ⟨hb1, fun e => by have := Kd.R_lt HP.out.row kx e.symm; omega⟩);have HPB2 := Aside0.mk (below_step HPB.out hb);clear HPB;have HPB := HPB2;clear HPB2;have HP2 := Aside0.mk (HP.out.more hb);clear HP;have HP := HP2;clear HP2;clear hb hb1 hk;refine hK.out _ _ ⟨blk_below HW0.out.blk HPB.out, blk_below HR0.out HPB.out⟩ (fun hHeld => ?_);clear hK K;refine norm_ (a' := ?_) ?_ ?_;rotate_left
        · show Act.put _ (some 12) _ = _
          simp only [Act.put, List.setIfInBounds_toArray, List.set_cons_zero, List.set_cons_succ, i64_w, i32_w];rfl
        exact norm_ (by simp only [putAll, Act.put, List.setIfInBounds_toArray, List.set_cons_zero, List.set_cons_succ]) (hCont (v5, v10, kx) _ ⟨HP.out, HX.out⟩)
      · skip
        refine boxE_step (x := x) (by rfl) (N := 12) rfl (by first | (go_simp; done) | (go_simp; rfl)) ?_;intro kx w3 hk hb1 hb;have HX := Aside0.mk (show BxE w3 v5 kx x from ⟨hb1, fun e => by have := Kd.R_lt HP.out.row kx e.symm; omega⟩);have HPB2 := Aside0.mk (below_step HPB.out hb);clear HPB;have HPB := HPB2;clear HPB2;have HP2 := Aside0.mk (HP.out.more hb);clear HP;have HP := HP2;clear HP2;clear hb hb1 hk;refine hK.out _ _ ⟨blk_below HW0.out.blk HPB.out, blk_below HR0.out HPB.out⟩ (fun hHeld => ?_);clear hK K;refine norm_ (a' := ?_) ?_ ?_;rotate_left
        · show Act.put _ (some 12) _ = _
          simp only [Act.put, List.setIfInBounds_toArray, List.set_cons_zero, List.set_cons_succ, i64_w, i32_w];rfl
        refine one_ (i := 6) (N := some 10) #[true, true, true, true, true, true, true, true, true, false, false, false, false] rfl rfl (by kernel_rfl) (by decide) (fun K hK => ?_);refine HP.out.app (Kd.C_below HSt0.out HPB.out) (by have := HM.out; simp only [List.length_nil]; omega) (by rfl) (.tmp 5) (.tmp 9) rfl rfl rfl ?_;intro v10 w4 hp hg hat;rw [List.nil_append] at hp;have HX2 := Aside0.mk (HX.out.grown hg hat);clear HX;have HX := HX2;clear HX2;clear HPB HP;have HPB := Aside0.mk hp.below;have HP := Aside0.mk hp;clear hp hg hat;refine hK.out _ _ ⟨blk_below HW0.out.blk HPB.out, blk_below HR0.out HPB.out⟩ (fun hHeld => ?_);clear hK K;refine norm_ (a' := ?_) ?_ ?_;rotate_left
        · show Act.put _ (some 10) _ = _
          simp only [Act.put, List.setIfInBounds_toArray, List.set_cons_zero, List.set_cons_succ, i64_w, i32_w];rfl
        exact norm_ (by simp only [putAll, Act.put, List.setIfInBounds_toArray, List.set_cons_zero, List.set_cons_succ]) (hCont (v5, v10, kx) _ ⟨HP.out, HX.out⟩)
    · skip
      refine boxE_step (x := x) (by rfl) (N := 12) rfl (by first | (go_simp; done) | (go_simp; rfl)) ?_;intro kx w3 hk hb1 hb;have HX := Aside0.mk (show BxE w3 (.slice none 0 0) kx x from ⟨hb1, by simp [Value.ownBlock]⟩);have HPB2 := Aside0.mk (below_step HPB.out hb);clear HPB;have HPB := HPB2;clear HPB2;clear hb hb1 hk;refine hK.out _ _ ⟨blk_below HW0.out.blk HPB.out, blk_below HR0.out HPB.out⟩ (fun hHeld => ?_);clear hK K;refine norm_ (a' := ?_) ?_ ?_;rotate_left
      · show Act.put _ (some 12) _ = _
        simp only [Act.put, List.setIfInBounds_toArray, List.set_cons_zero, List.set_cons_succ, i64_w, i32_w];rfl
      refine one_ (i := 1) (N := some 5) #[true, true, true, true, true, true, false, true, true, false, false, false, false] rfl rfl (by kernel_rfl) (by decide) (fun K hK => ?_);refine lit0_step HPB.out (by rfl) (N := 5) rfl (by first | (go_simp; done) | (go_simp; rfl)) ?_;intro v5 w2 hp hg hat;have HX2 := Aside0.mk (HX.out.new hg hat);clear HX;have HX := HX2;clear HX2;clear HPB;have HPB := Aside0.mk hp.below;have HP := Aside0.mk hp;clear hp hg hat;refine hK.out _ _ ⟨blk_below HW0.out.blk HPB.out, blk_below HR0.out HPB.out⟩ (fun hHeld => ?_);clear hK K;refine norm_ (a' := ?_) ?_ ?_;rotate_left
      · show Act.put _ (some 5) _ = _
        simp only [Act.put, List.setIfInBounds_toArray, List.set_cons_zero, List.set_cons_succ, i64_w, i32_w];rfl
      refine one_ (i := 6) (N := some 10) #[true, true, true, true, true, true, true, true, true, false, false, false, false] rfl rfl (by kernel_rfl) (by decide) (fun K hK => ?_);refine HP.out.app (Kd.C_below HSt0.out HPB.out) (by have := HM.out; simp only [List.length_nil]; omega) (by rfl) (.tmp 5) (.tmp 9) rfl rfl rfl ?_;intro v10 w4 hp hg hat;rw [List.nil_append] at hp;have HX2 := Aside0.mk (HX.out.grown hg hat);clear HX;have HX := HX2;clear HX2;clear HPB HP;have HPB := Aside0.mk hp.below;have HP := Aside0.mk hp;clear hp hg hat;refine hK.out _ _ ⟨blk_below HW0.out.blk HPB.out, blk_below HR0.out HPB.out⟩ (fun hHeld => ?_);clear hK K;refine norm_ (a' := ?_) ?_ ?_;rotate_left
      · show Act.put _ (some 10) _ = _
        simp only [Act.put, List.setIfInBounds_toArray, List.set_cons_zero, List.set_cons_succ, i64_w, i32_w];rfl
      exact norm_ (by simp only [putAll, Act.put, List.setIfInBounds_toArray, List.set_cons_zero, List.set_cons_succ]) (hCont (v5, v10, kx) _ ⟨HP.out, HX.out⟩)
  rintro ⟨v5, v10, kx⟩ w5 ⟨hP, hX⟩;have HP := Aside0.mk hP;have HX := Aside0.mk hX;clear HPB hHeld;have HPB := Aside0.mk hP.below;have hHeld : True := trivial;clear hP hX;refine norm_ (a' := ?_) ?_ ?_;rotate_left
  · simp only [putAll, Act.put, List.setIfInBounds_toArray, List.set_cons_zero, List.set_cons_succ]
    rfl
  refine one_ (i := 9) (N := some 13) #[true, true, true, true, true, true, true, true, true, true, false, false, false] rfl rfl (by kernel_rfl) (by decide) (fun K hK => ?_);refine HP.out.app HX.out.read (by have := HM.out; omega) (by rfl) (.tmp 10) (.tmp 12) rfl rfl rfl ?_;intro v13 w6 hp hg hat;obtain ⟨Az, cz, rfl⟩ := Kd.R_slice hp.row;simp only [List.length_append, List.length_singleton] at hp ⊢;clear HPB HP HX;have HPB := Aside0.mk hp.below;have HP := Aside0.mk hp;clear hp hg hat;refine hK.out _ _ ⟨blk_below HW0.out.blk HPB.out, blk_below HR0.out HPB.out⟩ (fun hHeld => ?_);clear hK K;refine norm_ (a' := ?_) ?_ ?_;rotate_left
  · show Act.put _ (some 13) _ = _
    simp only [Act.put, List.setIfInBounds_toArray, List.set_cons_zero, List.set_cons_succ, i64_w, i32_w];rfl
  refine pK 10 14 ?_;refine pK 11 15 ?_;have HWB := Aside0.mk (HW0.out.stack HP.out);have f1 := blk_frozen HWB.out.blk 1;have f2 := blk_cell HWB.out.blk 1;refine last_ (i := 12) (N := none) #[true, true, true, true, true, true, true, true, true, true, true, true, true] rfl rfl (by kernel_rfl) (by decide) (fun K hK => ?_);refine skip_ (w1 := ?_) (by rfl) rfl ?_ ?_;rotate_left
  · go_simp
    rfl
  refine hK.out _ _ ?_;clear hK K;have HW1 := Aside0.mk (HWB.out.put 1 (.slice Az (s.stack.length + 1) cz) rfl (s' := s) (vs' := .slice Az (s.stack.length + 1) cz) (vl' := vl) (vc' := vc));clear HWB HP HPB HW0 HR0 HSt0 hHeld;generalize World.setCell _ _ _ = w7 at HW1 ⊢;refine done_ (by kernel_rfl) ?_
  go_upto_region 2 with (fail)
  have HWB := Aside0.mk (HW1.out.more (below_drew1 (Below.refl _ _)));refine start_ (n := 14) (S := fun w' => w'.heap[g]? = some (.cells #[.int .i64 s.base, .slice Az (s.stack.length + 1) cz, .int .i64 s.isol, .int .i64 s.emb, .int .i64 s.val, .int .i64 s.most, vl, vc, .slice A n c] 78 (0, 0))) (ds := [13]) #[false, false, false, false, false, false, false, false, false, false, false, false, false, false] (by kernel_rfl) rfl rfl HWB.out.blk (fun hHeld => ?_);generalize w7.drew = k1 at hHeld HWB ⊢;clear HW1;refine pK 0 16 ?_;refine pK 1 17 ?_;refine pK 2 18 ?_;refine pK 3 19 ?_;refine tK 4 20 hHeld (hr := by rintro w' hS; have a1 := blk_cell hS 5; go_simp; with_reducible rfl) (h := ?_);refine pK 5 21 ?_;refine pK 6 22 ?_;refine pK 7 23 ?_;refine tK 8 24 hHeld (hr := by rintro w' hS; have a1 := blk_cell hS 1; go_simp; with_reducible rfl) (h := ?_);refine pK 9 25 ?_;refine pK 10 26 ?_;refine pK 11 27 ?_;refine pK 12 28 ?_;have f1 := blk_frozen HWB.out.blk 5;have f2 := blk_cell HWB.out.blk 5;refine last_ (i := 13) (N := none) #[true, true, true, true, true, true, true, true, true, true, true, true, true, true] rfl rfl (by kernel_rfl) (by decide) (fun K hK => ?_);refine skip_ (w1 := ?_) (by rfl) rfl ?_ ?_;rotate_left
  · go_simp
    rfl
  refine hK.out _ _ ?_;clear hK K;have HW2 := Aside0.mk (HWB.out.put 5 (.int .i64 (max s.most ((s.stack.length : Int) + 1))) rfl (s' := {s with most := max s.most ((s.stack.length : Int) + 1)}) (vs' := .slice Az (s.stack.length + 1) cz) (vl' := vl) (vc' := vc));refine done_ (by kernel_rfl) ?_;go_wp2
  · have hm : max s.most ((s.stack.length : Int) + 1) = (s.stack.length : Int) + 1 := by omega
    have h2 := HW2.out;rw [hm] at h2 ⊢
    go_end0
    exact ⟨rfl, _, h2.ws⟩
  · have hm : max s.most ((s.stack.length : Int) + 1) = s.most := by omega
    have h2 := HW2.out;rw [hm] at h2 ⊢
    go_end0
    exact ⟨rfl, _, h2.ws⟩
end Go.Proofs.Ytmjipbmpapcboaa.P
namespace Go.Proofs.Ytmjipbmpapcboaa.P
open Go.RowKit Go.Proofs.YtmjipbmpapcboaaW.PrintWords Go.Proofs.YtmjipbmpapcboaaW.PrintLast Go.Proofs.YtmjipbmpapcboaaW.PrintMore
set_option linter.unusedVariables false
set_option linter.unusedSimpArgs false
theorem start_calls (w0 w : World) (g : Nat) (A : Option Addr) (n c : Nat) (s : WSt) (vs vl vc : Value) (h : WS w0 w g A n c s vs vl vc) :
    Calls Try.prog 67 #[.pointer (some ⟨g, 0, none⟩)] w fun e w' => ∃ vs', e = .returned (.tuple #[]) ∧ WS w0 w' g A n c {s with stack := [⟨s.base, -1, false⟩], isol := 0, emb := 0, val := 0, most := max s.most 1} vs' vl vc := by
  have hu := Try.underlying96;have hu2 := Try.underlying78;have hu3 := Try.underlying76;have a0 := blk_cell h.blk 1;have f0 := blk_frozen h.blk 1;have HW := Aside0.mk h;clear h
  go_enter Try.func67, Try.ntmps67
  go_upto_region 1 with (fail)
  have HW1 := Aside0.mk (HW.out.put 1 (.slice none 0 0) (s' := {s with stack := []}) (vs' := .slice none 0 0) (vl' := vl) (vc' := vc) rfl (Kd.R_nil _ _ _ _ _) HW.out.lv HW.out.cl);clear a0 f0 HW;generalize w.setCell _ _ = w1 at HW1 ⊢;have a0 := blk_cell HW1.out.blk 0
  go_upto_region 2 with (first | (go_at_call 84; refine (push_calls w0 _ g A n c _ _ vl vc HW1.out ⟨s.base, -1, false⟩ (by simp)).mono ?_; rintro e_ w2 ⟨vs2, rfl, hb⟩; have HW2 := Aside0.mk hb; clear hb HW1 a0))
  have f2 := blk_frozen HW2.out.blk 2;have f3 := blk_frozen HW2.out.blk 3;have f4 := blk_frozen HW2.out.blk 4;have a2 := blk_cell HW2.out.blk 2;have a3 := blk_cell HW2.out.blk 3;have a4 := blk_cell HW2.out.blk 4;go_wp2
  go_end0
  have h1 := HW2.out.put 2 (.int .i64 0) (s' := {s with stack := [⟨s.base, -1, false⟩], isol := 0, most := max s.most 1}) (vs' := vs2) (vl' := vl) (vc' := vc) rfl HW2.out.st HW2.out.lv HW2.out.cl;have h2 := h1.put 3 (.int .i64 0) (s' := {s with stack := [⟨s.base, -1, false⟩], isol := 0, emb := 0, most := max s.most 1}) (vs' := vs2) (vl' := vl) (vc' := vc) rfl h1.st h1.lv h1.cl;have h3 := h2.put 4 (.int .i64 0) (s' := {s with stack := [⟨s.base, -1, false⟩], isol := 0, emb := 0, val := 0, most := max s.most 1}) (vs' := vs2) (vl' := vl) (vc' := vc) rfl h2.st h2.lv h2.cl;exact ⟨rfl, _, h3⟩
end Go.Proofs.Ytmjipbmpapcboaa.P
namespace Go.Proofs.Ytmjipbmpapcboaa.P
open Go.RowKit Go.Proofs.YtmjipbmpapcboaaW.PrintWords Go.Proofs.YtmjipbmpapcboaaW.PrintLast Go.Proofs.YtmjipbmpapcboaaW.PrintMore
set_option linter.unusedVariables false
set_option linter.unusedSimpArgs false
def nextL (a b : Int) : Int := if a < 0 ∨ a > 125 then -1 else if Int.tmod (a + 1) 2 = (if b = 1 then 1 else 0) then a + 1 else a + 2
theorem next_eq (a b : Int) : ductusref06_Next.f 10 a b = some (nextL a b) := by
  unfold ductusref06_Next.f nextL
  by_cases h1 : a < 0
  · rw [if_pos h1, if_pos (Or.inl h1)]
    simp only [ductusref06_Next.j0];rw [if_pos trivial]
  · rw [if_neg h1]
    by_cases h2 : a > 125
    · rw [if_pos (Or.inr h2), decide_eq_true h2]
      simp only [ductusref06_Next.j0];rw [if_pos trivial]
    · rw [if_neg (by omega), decide_eq_false h2]
      have w1 : wrap64 (a + 1) = a + 1 := by unfold wrap64; omega
      have w2 : wrap64 (a + 1 + 1) = a + 2 := by unfold wrap64; omega
      have m : Int.tmod (a + 1) 2 = (a + 1) % 2 := Int.tmod_eq_emod_of_nonneg (by omega);have m2 : Int.tmod (a + 2) 2 = (a + 2) % 2 := Int.tmod_eq_emod_of_nonneg (by omega);simp only [ductusref06_Next.j0, ductusref06_Next.j1, ductusref06_Next.l0, w1, w2, m, m2]
      by_cases h3 : b = 1
      · rw [if_pos h3, if_pos h3, if_neg (by simp)]
        by_cases h4 : (a + 1) % 2 = 1
        · rw [if_pos h4, if_pos h4]
        · rw [if_neg h4, if_neg h4, if_pos (by omega)]
      · rw [if_neg h3, if_neg h3, if_neg (by simp)]
        by_cases h4 : (a + 1) % 2 = 0
        · rw [if_pos h4, if_pos h4]
        · rw [if_neg h4, if_neg h4, if_pos (by omega)]
def pushS (s : WSt) (x : Ent) : WSt := {s with stack := s.stack ++ [x], most := max s.most ((s.stack.length : Int) + 1)}
def bothS (s : WSt) (x : Int) : WSt := {s with lv := s.lv ++ [(tp s).f0], cl := s.cl ++ [x]}
def ofX (x : Int) : Int := if x = 16 ∨ x = 17 then 1 else 0
def overX (x : Int) : Int := if x = 17 then 1 else if x = 15 then 0 else -1
def embedS (s : WSt) (x : Int) : WSt :=
  if fitsB s (nextL (tp s).f0 (ofX x)) = true then pushS (bothS s x) ⟨nextL (tp s).f0 (ofX x), overX x, false⟩
  else if s.isol = 0 then {bothS s x with emb := s.emb + 1} else bothS s x
theorem wrap_emb {x : Int} (h : 0 ≤ x ∧ x < 100000) : wrap64 (x + 1) = x + 1 := by unfold wrap64; omega
theorem wrap_dec {x : Int} (h : 0 ≤ x ∧ x < 100000) : wrap64 (x - 1) = x - 1 := by unfold wrap64; omega
def popS (s : WSt) : WSt := {s with stack := s.stack.take (s.stack.length - 1)}
def putS (s : WSt) (x : Int) : WSt := {s with lv := s.lv ++ [(tp s).f0], cl := s.cl ++ [if 0 ≤ (tp s).f1 then (tp s).f1 else x]}
def backS (s : WSt) : WSt :=
  if 0 < s.isol then bothS s 18 else if 0 < s.emb then {bothS s 18 with emb := s.emb - 1}
  else if (tp s).f2 = false ∧ 2 ≤ s.stack.length then popS (bothS s 18) else bothS s 18
def isolateS (s : WSt) (x d : Int) : WSt :=
  if fitsB s (nextL (tp s).f0 d) = true then pushS {putS s x with val := s.val + 1} ⟨nextL (tp s).f0 d, -1, true⟩ else {putS s x with isol := s.isol + 1}
def endS (s : WSt) (x : Int) (q : Nat) : WSt :=
  if 0 < s.isol then putS {s with isol := s.isol - 1} x
  else if 0 < s.val then putS {s with emb := 0, stack := s.stack.take q, val := s.val - 1} x else putS s x
theorem pop_w {w0 w : World} {g : Nat} {A : Option Addr} {n c : Nat} {s : WSt} {vs vl vc : Value} (h : WS w0 w g A n c s vs vl vc) (hm : 0 < s.stack.length ∧ s.stack.length < 100000) :
    Calls Try.prog 88 #[.pointer (some ⟨g, 0, none⟩)] w fun e w' => ∃ vs', e = .returned (.tuple #[]) ∧ WS w0 w' g A n c (popS s) vs' vl vc :=
  pop_calls w0 w g A n c s vs vl vc h (s.stack.length - 1) (by omega) (by omega)
theorem pop_take (s : WSt) (m q : Nat) (hm : m ≤ s.stack.length) (hq : q = m - 1) : popS {s with emb := 0, stack := s.stack.take m} = {s with emb := 0, stack := s.stack.take q} := by
  subst hq;unfold popS;dsimp only;rw [List.length_take, List.take_take, show min (min m s.stack.length - 1) m = m - 1 from by omega]
end Go.Proofs.Ytmjipbmpapcboaa.P
namespace Go.Proofs.Ytmjipbmpapcboaa.P
open Go.RowKit Go.Proofs.YtmjipbmpapcboaaW.PrintWords Go.Proofs.YtmjipbmpapcboaaW.PrintLast Go.Proofs.YtmjipbmpapcboaaW.PrintMore
attribute [local go_sem] max2_int min2_int max_two min_two
set_option linter.unusedVariables false
set_option linter.unusedSimpArgs false
def ductusref05_Isolate.j0 : Nat → List Int → Int → Bool → Option (Int)
  | 0, _, _, _ => none
  | k + 1, x0, x1, x13 => if x13 = true then (some (-1)) else (if 0 ≤ x1 then (if x1 < (x0.length : Int) then (if (rd x0 x1) = 19 then (some 0) else (if (rd x0 x1) = 20 then (some 1) else (if (rd x0 x1) = 21 then ((ductusref05_End.f k x0 x1).bind fun t319 => (if t319 < 0 then ((ductusref05_First.f k x0 (wrap64 (x1 + 1)) (x0.length : Int)).bind fun t320 => (some (mx 0 t320))) else ((ductusref05_First.f k x0 (wrap64 (x1 + 1)) t319).bind fun t321 => (some (mx 0 t321))))) else (some (-1))))) else (none)) else (none))
def ductusref05_Isolate.f (k : Nat) (l0 : List Int) (a1 : Int) : Option (Int) := if a1 < 0 then (ductusref05_Isolate.j0 k l0 a1 true) else (ductusref05_Isolate.j0 k l0 a1 (decide (a1 ≥ (l0.length : Int))))
theorem ductusref05_Isolate.calls (k : Nat) (A0 : Option Addr) (c0 : Nat) (l0 : List Int) (a1 : Int) (r : Int) (w : World) (hr0 : Kd.C (Kd.int .i64) w A0 l0.length l0) (hc0 : l0.length ≤ c0) (h : ductusref05_Isolate.f k l0 a1 = some r) :
    Calls Try.prog 87 #[.slice A0 l0.length c0, .int .i64 a1] w fun e w' => e = .returned (.int .i64 r) ∧ Below w.heap.size w w' := by
  have HR0 := Aside0.mk hr0;have HC0 := Aside0.mk hc0;clear hr0 hc0;have HB := Aside0.mk (Below.refl w.heap.size w);unfold ductusref05_Isolate.f at h;have H := h;clear h;have HC3 := Aside0.mk H;clear H
  go_enter Try.func87, Try.ntmps87
  go_upto_region 1 with (fail)
  go_cut [13] (fun v13 wc => ∃ (kq : Nat) (x13_2 : Bool), v13 = .bool x13_2 ∧ Aside0 (ductusref05_Isolate.j0 kq l0 a1 x13_2 = some r) ∧ Aside0 (kq ≤ k) ∧ Aside0 (Below w.heap.size w wc))
  case first =>
    have H := HC3.out;clear HC3
    by_cases c4 : a1 < 0
    · rw [if_pos c4] at H
      have c4b0 := decide_eq_true c4;clear c4
      (first | rw [c4b0] | (simp only [i64_w, i32_w]; rw [c4b0]) | skip)
      have H' := Aside0.mk H;clear H;go_wp2;go_meet
      case rel => exact ⟨_, (true), uF, H', ⟨by first | omega | exact Nat.le_refl _⟩, ⟨uB HB.out⟩⟩
    rw [if_neg c4] at H;have c4b0 := decide_eq_false c4;clear c4
    (first | rw [c4b0] | (simp only [i64_w, i32_w]; rw [c4b0]) | skip)
    have H' := Aside0.mk H;clear H;go_wp2;go_meet
    case rel => exact ⟨_, (decide (a1 ≥ (l0.length : Int))), uF, H', ⟨by first | omega | exact Nat.le_refl _⟩, ⟨uB HB.out⟩⟩
  case rest =>
    clear HC3;(try clear p2);(try clear c4b0);obtain ⟨kq, x13_2, rfl, HA, HJ2, HB⟩ := hcut
    cases kq with
    | zero => exact absurd HA.out (by simp [ductusref05_Isolate.j0])
    | succ kj2 =>
      have H := HA.out;clear HA;simp only [ductusref05_Isolate.j0] at H
      by_cases c5 : x13_2 = true
      · subst c5
        have H1 : (some (-1)) = some r := by rw [if_pos rfl] at H; exact H
        clear H;have H := H1;clear H1;obtain rfl := Option.some.inj H;go_wp2;go_ret;exact ⟨uE, uB HB.out⟩
      replace c5 := Bool.eq_false_iff.mpr c5;subst c5
      have H1 : (if 0 ≤ a1 then (if a1 < (l0.length : Int) then (if (rd l0 a1) = 19 then (some 0) else (if (rd l0 a1) = 20 then (some 1) else (if (rd l0 a1) = 21 then ((ductusref05_End.f kj2 l0 a1).bind fun t319 => (if t319 < 0 then ((ductusref05_First.f kj2 l0 (wrap64 (a1 + 1)) (l0.length : Int)).bind fun t320 => (some (mx 0 t320))) else ((ductusref05_First.f kj2 l0 (wrap64 (a1 + 1)) t319).bind fun t321 => (some (mx 0 t321))))) else (some (-1))))) else (none)) else (none)) = some r := by rw [if_neg (show ¬ (false = true) by decide)] at H; exact H
      clear H;have H := H1;clear H1;replace H := uI H;obtain ⟨c6b0, H⟩ := H;replace H := uI H;obtain ⟨c7b0, H⟩ := H
      by_cases c8 : (rd l0 a1) = 19
      · rw [if_pos c8] at H
        have c8b0 := beq_iff_eq.mpr c8;have c8b1 := bne_eq_false_iff_eq.mpr c8;clear c8;obtain rfl := Option.some.inj H;have p318 : 0 ≤ (a1 : Int) := uD;have q318 : a1 < (l0.length : Int) := uD;obtain ⟨ad318, e318, hx318_0⟩ := Kd.at_int HR0.out a1 p318 q318;cases e318;replace hx318_0 := (HB.out.cell (World.block_lt_of_cell? w _ hx318_0)).trans hx318_0;replace p318 := eq_true p318;replace q318 := eq_true q318;go_wp2;go_ret;exact ⟨uE, uB HB.out⟩
      rw [if_neg c8] at H;have c8b0 := beq_eq_false_iff_ne.mpr c8;have c8b1 := bne_iff_ne.mpr c8
      by_cases c9 : (rd l0 a1) = 20
      · rw [if_pos c9] at H
        have c9b0 := beq_iff_eq.mpr c9;have c9b1 := bne_eq_false_iff_eq.mpr c9;clear c9;obtain rfl := Option.some.inj H;have p318 : 0 ≤ (a1 : Int) := uD;have q318 : a1 < (l0.length : Int) := uD;obtain ⟨ad318, e318, hx318_0⟩ := Kd.at_int HR0.out a1 p318 q318;cases e318;replace hx318_0 := (HB.out.cell (World.block_lt_of_cell? w _ hx318_0)).trans hx318_0;replace p318 := eq_true p318;replace q318 := eq_true q318;go_wp2;go_ret;exact ⟨uE, uB HB.out⟩
      rw [if_neg c9] at H;have c9b0 := beq_eq_false_iff_ne.mpr c9;have c9b1 := bne_iff_ne.mpr c9
      by_cases c10 : (rd l0 a1) = 21
      rotate_left
      · rw [if_neg c10] at H
        have c10b0 := beq_eq_false_iff_ne.mpr c10;have c10b1 := bne_iff_ne.mpr c10;obtain rfl := Option.some.inj H;have p318 : 0 ≤ (a1 : Int) := uD;have q318 : a1 < (l0.length : Int) := uD;obtain ⟨ad318, e318, hx318_0⟩ := Kd.at_int HR0.out a1 p318 q318;cases e318;replace hx318_0 := (HB.out.cell (World.block_lt_of_cell? w _ hx318_0)).trans hx318_0;replace p318 := eq_true p318;replace q318 := eq_true q318;go_wp2;go_ret;exact ⟨uE, uB HB.out⟩
      rw [if_pos c10] at H;have c10b0 := beq_iff_eq.mpr c10;have c10b1 := bne_eq_false_iff_eq.mpr c10;clear c10;replace H := Option.bind_eq_some_iff.mp H;obtain ⟨t319, A110, H⟩ := H;have A11 := Aside0.mk A110;clear A110
      by_cases c12 : t319 < 0
      rotate_left
      · rw [if_neg c12] at H
        have c12b0 := decide_eq_false c12;clear c12;replace H := Option.bind_eq_some_iff.mp H;obtain ⟨t321, A160, H⟩ := H;have A16 := Aside0.mk A160;clear A160;obtain ⟨ji17, hji17⟩ : ∃ j_ : Int, (mx 0 t321) = j_ := ⟨_, rfl⟩
        replace H : (some ji17) = some r := by first | (rw [hji17] at H; exact H) | (simp only [hji17] at H ⊢; exact H)
        (try rw [hji17] at A11);(try rw [hji17] at A16);(try (have hji17l : 0 ≤ ji17 := by (rw [← hji17]; unfold mx; (repeat' split) <;> omega)));(try (have hji17m : 0 ≤ ji17 := by omega));have hji17_ : (if 0 < t321 then t321 else 0) = ji17 := hji17;obtain rfl := Option.some.inj H;have p318 : 0 ≤ (a1 : Int) := uD;have q318 : a1 < (l0.length : Int) := uD;obtain ⟨ad318, e318, hx318_0⟩ := Kd.at_int HR0.out a1 p318 q318;cases e318;replace hx318_0 := (HB.out.cell (World.block_lt_of_cell? w _ hx318_0)).trans hx318_0;replace p318 := eq_true p318;replace q318 := eq_true q318
        go_wp2_with (first | ((with_reducible refine gate_callee (f := 65) rfl ?_); refine gL 26 Try.func65 #[.slice (some ad318) l0.length c0, .int .i64 a1] ?_; (with_reducible refine (ductusref05_End.calls kj2 _ _ l0 a1 t319 _ ?side1 ?side2 A11.out).mono ?_); (case side1 => exact uC (Kd.C_below HR0.out HB.out)); (case side2 => exact HC0.out); rintro e w' ⟨rfl, ⟨nd, rfl⟩⟩; refine ⟨_, rfl, ?_⟩) | ((with_reducible refine gate_callee (f := 49) rfl ?_); refine gL 35 Try.func49 #[.slice (some ad318) l0.length c0, .int .i64 (wrap64 (a1 + 1)), .int .i64 t319] ?_; (with_reducible refine (ductusref05_First.calls kj2 _ _ l0 (wrap64 (a1 + 1)) t319 t321 _ ?side1 ?side2 A16.out).mono ?_); (case side1 => exact uC (Kd.C_below HR0.out (uB HB.out))); (case side2 => exact HC0.out); rintro e w18 ⟨rfl, hb⟩; refine ⟨_, rfl, ?_⟩; have n0_ := Aside0.mk (below_step (uB HB.out) hb); clear HB; have HB := n0_; clear n0_; (try clear hb); (try clear hb2); (try clear hk); (try clear hi)))
        go_ret;exact ⟨by first | rfl | (simp [errW_none, errW_some] <;> rfl) | (simp only [← hji17]; first | rfl | (simp [errW_none, errW_some] <;> rfl)) | (simp [*, errW_none, errW_some] <;> rfl), uB HB.out⟩
      rw [if_pos c12] at H;have c12b0 := decide_eq_true c12;clear c12;replace H := Option.bind_eq_some_iff.mp H;obtain ⟨t320, A130, H⟩ := H;have A13 := Aside0.mk A130;clear A130;obtain ⟨ji14, hji14⟩ : ∃ j_ : Int, (mx 0 t320) = j_ := ⟨_, rfl⟩
      replace H : (some ji14) = some r := by first | (rw [hji14] at H; exact H) | (simp only [hji14] at H ⊢; exact H)
      (try rw [hji14] at A11);(try rw [hji14] at A13);(try (have hji14l : 0 ≤ ji14 := by (rw [← hji14]; unfold mx; (repeat' split) <;> omega)));(try (have hji14m : 0 ≤ ji14 := by omega));have hji14_ : (if 0 < t320 then t320 else 0) = ji14 := hji14;obtain rfl := Option.some.inj H;have p318 : 0 ≤ (a1 : Int) := uD;have q318 : a1 < (l0.length : Int) := uD;obtain ⟨ad318, e318, hx318_0⟩ := Kd.at_int HR0.out a1 p318 q318;cases e318;replace hx318_0 := (HB.out.cell (World.block_lt_of_cell? w _ hx318_0)).trans hx318_0;replace p318 := eq_true p318;replace q318 := eq_true q318
      go_wp2_with (first | ((with_reducible refine gate_callee (f := 65) rfl ?_); refine gL 26 Try.func65 #[.slice (some ad318) l0.length c0, .int .i64 a1] ?_; (with_reducible refine (ductusref05_End.calls kj2 _ _ l0 a1 t319 _ ?side1 ?side2 A11.out).mono ?_); (case side1 => exact uC (Kd.C_below HR0.out HB.out)); (case side2 => exact HC0.out); rintro e w' ⟨rfl, ⟨nd, rfl⟩⟩; refine ⟨_, rfl, ?_⟩) | ((with_reducible refine gate_callee (f := 49) rfl ?_); refine gL 35 Try.func49 #[.slice (some ad318) l0.length c0, .int .i64 (wrap64 (a1 + 1)), .int .i64 (l0.length : Int)] ?_; (with_reducible refine (ductusref05_First.calls kj2 _ _ l0 (wrap64 (a1 + 1)) (l0.length : Int) t320 _ ?side1 ?side2 A13.out).mono ?_); (case side1 => exact uC (Kd.C_below HR0.out (uB HB.out))); (case side2 => exact HC0.out); rintro e w15 ⟨rfl, hb⟩; refine ⟨_, rfl, ?_⟩; have n0_ := Aside0.mk (below_step (uB HB.out) hb); clear HB; have HB := n0_; clear n0_; (try clear hb); (try clear hb2); (try clear hk); (try clear hi)))
      go_ret;exact ⟨by first | rfl | (simp [errW_none, errW_some] <;> rfl) | (simp only [← hji14]; first | rfl | (simp [errW_none, errW_some] <;> rfl)) | (simp [*, errW_none, errW_some] <;> rfl), uB HB.out⟩
-- NOT PRINTED: function 69 (ductusref06_walk_isolate)
-- NOT PRINTED: function 88 (ductusref06_walk_pop)
-- NOT PRINTED: function 70 (ductusref06_walk_end)
-- NOT PRINTED: function 71 (ductusref06_walk_back)
-- NOT PRINTED: function 50 (ductusref06_went)
end Go.Proofs.Ytmjipbmpapcboaa.P
namespace Go.Proofs.Ytmjipbmpapcboaa.P
open Go.RowKit Go.Proofs.YtmjipbmpapcboaaW.PrintWords Go.Proofs.YtmjipbmpapcboaaW.PrintLast Go.Proofs.YtmjipbmpapcboaaW.PrintMore
set_option linter.unusedVariables false
set_option linter.unusedSimpArgs false
def lastIso : Nat → List Ent → Nat
  | 0, _ => 0
  | m + 1, st => if (st.getD m z96).f2 = true then m else lastIso m st
theorem lastIso_spec (st : List Ent) : ∀ m, (∃ j, j < m ∧ (st.getD j z96).f2 = true) → lastIso m st < m ∧ (st.getD (lastIso m st) z96).f2 = true ∧ ∀ j, lastIso m st < j → j < m → (st.getD j z96).f2 = false
  | 0, ⟨j, h, _⟩ => by omega
  | m + 1, ⟨j, h, hj⟩ => by
    unfold lastIso
    by_cases h1 : (st.getD m z96).f2 = true
    · rw [if_pos h1]
      exact ⟨by omega, h1, fun j h2 h3 => by omega⟩
    · rw [if_neg h1]
      have hjm : j ≠ m := fun e => h1 (e ▸ hj)
      obtain ⟨a, b, c⟩ := lastIso_spec st m ⟨j, by omega, hj⟩;refine ⟨by omega, b, fun i h2 h3 => ?_⟩
      by_cases h4 : i = m
      · subst h4
        simpa using h1
      · exact c i h2 (by omega)
def isoN (st : List Ent) : Nat := (st.filter (·.f2)).length
structure Fit (s : WSt) (N : Nat) : Prop where
  pos : 0 < s.stack.length
  st : s.stack.length ≤ N + 1
  lv : s.lv.length = N
  cl : s.cl.length = N
  isol : 0 ≤ s.isol ∧ s.isol ≤ N
  emb : 0 ≤ s.emb ∧ s.emb ≤ N
  cnt : s.val = (isoN s.stack : Int)
  bot : (s.stack.getD 0 z96).f2 = false
theorem isoN_le (st : List Ent) : isoN st ≤ st.length := List.length_filter_le _ _
theorem isoN_append (a b : List Ent) : isoN (a ++ b) = isoN a + isoN b := by unfold isoN; rw [List.filter_append, List.length_append]
theorem isoN_one (x : Ent) : isoN [x] = if x.f2 = true then 1 else 0 := by
  unfold isoN
  by_cases h : x.f2 = true
  · rw [List.filter_cons_of_pos h, if_pos h]; rfl
  · rw [List.filter_cons_of_neg h, if_neg h]; rfl
theorem Fit.val {s : WSt} {N : Nat} (h : Fit s N) : 0 ≤ s.val ∧ s.val ≤ N := by
  have h1 : isoN s.stack < s.stack.length := by
    have hp := h.pos;have hb := h.bot
    revert hp hb
    cases s.stack with
    | nil => intro hp; simp at hp
    | cons x r =>
      intro _ hb;rw [show x :: r = [x] ++ r from rfl, isoN_append, isoN_one, if_neg (by simpa using hb), List.length_append];have := isoN_le r;simp only [List.length_singleton]
      omega
  have := h.cnt;have := h.st
  omega
theorem isoN_zero {st : List Ent} (h : ∀ j, j < st.length → (st.getD j z96).f2 = false) : isoN st = 0 := by
  unfold isoN;rw [List.length_eq_zero_iff, List.filter_eq_nil_iff];intro x hx;obtain ⟨j, hj, e⟩ := List.getElem_of_mem hx;have := h j hj;rw [List.getD_eq_getElem?_getD, List.getElem?_eq_getElem hj, Option.getD_some, e] at this;simpa using this
theorem Fit.last {s : WSt} {N : Nat} (h : Fit s N) (hv : 0 < s.val) : 0 < lastIso s.stack.length s.stack ∧ lastIso s.stack.length s.stack < s.stack.length ∧ (s.stack.getD (lastIso s.stack.length s.stack) z96).f2 = true ∧ (∀ j, lastIso s.stack.length s.stack < j → j < s.stack.length → (s.stack.getD j z96).f2 = false) := by
  have hex : ∃ j, j < s.stack.length ∧ (s.stack.getD j z96).f2 = true := by
    apply Classical.byContradiction
    intro hn
    have h0 : isoN s.stack = 0 := isoN_zero (fun j hj => by
      cases hb : (s.stack.getD j z96).f2 with
      | false => rfl
      | true => exact absurd ⟨j, hj, hb⟩ hn)
    have := h.cnt
    omega
  obtain ⟨a, b, c⟩ := lastIso_spec s.stack _ hex;refine ⟨?_, a, b, c⟩
  apply Nat.pos_of_ne_zero
  intro e;rw [e, h.bot] at b;cases b
theorem isoN_last {st : List Ent} {q : Nat} (hq : q < st.length) (h1 : (st.getD q z96).f2 = true) (h2 : ∀ j, q < j → j < st.length → (st.getD j z96).f2 = false) : isoN st = isoN (st.take q) + 1 := by
  have e : st = st.take q ++ ([st[q]] ++ st.drop (q + 1)) := by
    rw [List.singleton_append, ← List.drop_eq_getElem_cons hq, List.take_append_drop]
  have h3 : isoN (st.drop (q + 1)) = 0 := isoN_zero (fun j hj => by
    rw [List.length_drop] at hj;have := h2 (q + 1 + j) (by omega) (by omega);rw [List.getD_eq_getElem?_getD] at this ⊢;rw [List.getElem?_drop]
    exact this)
  have h4 : st[q].f2 = true := by
    rw [List.getD_eq_getElem?_getD, List.getElem?_eq_getElem hq] at h1;exact h1
  calc isoN st = isoN (st.take q ++ ([st[q]] ++ st.drop (q + 1))) := congrArg isoN e
    _ = isoN (st.take q) + 1 := by rw [isoN_append, isoN_append, isoN_one, if_pos h4, h3]
theorem getD0_append (a b : List Ent) (h : 0 < a.length) : (a ++ b).getD 0 z96 = a.getD 0 z96 := by
  rw [List.getD_eq_getElem?_getD, List.getD_eq_getElem?_getD, List.getElem?_append_left h]
theorem getD0_take (a : List Ent) (q : Nat) (h : 0 < q) : (a.take q).getD 0 z96 = a.getD 0 z96 := by
  rw [List.getD_eq_getElem?_getD, List.getD_eq_getElem?_getD, List.getElem?_take, if_pos h]
theorem Fit.put {s : WSt} {N : Nat} (h : Fit s N) (x : Int) : Fit (putS s x) (N + 1) := by
  obtain ⟨a1, a2, a3, a4, a5, a6, a7, a8⟩ := h;refine ⟨a1, ?_, ?_, ?_, ?_, ?_, a7, a8⟩
  · show s.stack.length ≤ _; omega
  · show (s.lv ++ _).length = _; rw [List.length_append, a3]; rfl
  · show (s.cl ++ _).length = _; rw [List.length_append, a4]; rfl
  · show 0 ≤ s.isol ∧ s.isol ≤ _; omega
  · show 0 ≤ s.emb ∧ s.emb ≤ _; omega
theorem Fit.both {s : WSt} {N : Nat} (h : Fit s N) (x : Int) : Fit (bothS s x) (N + 1) := by
  obtain ⟨a1, a2, a3, a4, a5, a6, a7, a8⟩ := h;refine ⟨a1, ?_, ?_, ?_, ?_, ?_, a7, a8⟩
  · show s.stack.length ≤ _; omega
  · show (s.lv ++ _).length = _; rw [List.length_append, a3]; rfl
  · show (s.cl ++ _).length = _; rw [List.length_append, a4]; rfl
  · show 0 ≤ s.isol ∧ s.isol ≤ _; omega
  · show 0 ≤ s.emb ∧ s.emb ≤ _; omega
theorem Fit.embed {s : WSt} {N : Nat} (h : Fit s N) (x : Int) : Fit (embedS s x) (N + 1) := by
  have hb := h.both x;obtain ⟨a1, a2, a3, a4, a5, a6, a7, a8⟩ := h;unfold embedS
  split
  · refine ⟨?_, ?_, hb.lv, hb.cl, hb.isol, hb.emb, ?_, ?_⟩
    · show 0 < (s.stack ++ _).length; rw [List.length_append]; omega
    · show (s.stack ++ _).length ≤ _; rw [List.length_append]; simp only [List.length_singleton]; omega
    · show s.val = (isoN (s.stack ++ _) : Int)
      rw [isoN_append, isoN_one, if_neg (by simp)];simpa using a7
    · show ((s.stack ++ _).getD 0 _).f2 = false
      rw [getD0_append _ _ a1]; exact a8
  · split
    · refine ⟨hb.pos, hb.st, hb.lv, hb.cl, hb.isol, ?_, hb.cnt, hb.bot⟩
      show 0 ≤ s.emb + 1 ∧ s.emb + 1 ≤ _
      omega
    · exact hb
theorem Fit.isolate {s : WSt} {N : Nat} (h : Fit s N) (x d : Int) : Fit (isolateS s x d) (N + 1) := by
  have hb := h.put x;obtain ⟨a1, a2, a3, a4, a5, a6, a7, a8⟩ := h;unfold isolateS
  split
  · refine ⟨?_, ?_, hb.lv, hb.cl, hb.isol, hb.emb, ?_, ?_⟩
    · show 0 < (s.stack ++ _).length; rw [List.length_append]; omega
    · show (s.stack ++ _).length ≤ _; rw [List.length_append]; simp only [List.length_singleton]; omega
    · show s.val + 1 = (isoN (s.stack ++ _) : Int)
      rw [isoN_append, isoN_one, if_pos rfl]
      omega
    · show ((s.stack ++ _).getD 0 _).f2 = false
      rw [getD0_append _ _ a1]; exact a8
  · refine ⟨hb.pos, hb.st, hb.lv, hb.cl, ?_, hb.emb, hb.cnt, hb.bot⟩
    show 0 ≤ s.isol + 1 ∧ s.isol + 1 ≤ _
    omega
theorem Fit.end_ {s : WSt} {N : Nat} (h : Fit s N) (x : Int) : Fit (endS s x (lastIso s.stack.length s.stack)) (N + 1) := by
  unfold endS
  split
  · refine Fit.put ?_ x
    refine ⟨h.pos, h.st, h.lv, h.cl, ?_, h.emb, h.cnt, h.bot⟩;have := h.isol;show 0 ≤ s.isol - 1 ∧ s.isol - 1 ≤ _
    omega
  · split
    · rename_i hv
      obtain ⟨b1, b2, b3, b4⟩ := h.last hv;refine Fit.put ?_ x;refine ⟨?_, ?_, h.lv, h.cl, h.isol, ?_, ?_, ?_⟩
      · show 0 < (s.stack.take _).length; rw [List.length_take]; omega
      · show (s.stack.take _).length ≤ _; rw [List.length_take]; have := h.st; omega
      · show (0 : Int) ≤ 0 ∧ (0 : Int) ≤ _; omega
      · show s.val - 1 = (isoN (s.stack.take _) : Int)
        have := isoN_last b2 b3 b4;have := h.cnt
        omega
      · show ((s.stack.take _).getD 0 _).f2 = false
        rw [getD0_take _ _ b1]; exact h.bot
    · exact h.put x
theorem Fit.back {s : WSt} {N : Nat} (h : Fit s N) : Fit (backS s) (N + 1) := by
  have hb := h.both 18;unfold backS
  split
  · exact hb
  · split
    · rename_i h1 h2
      refine ⟨hb.pos, hb.st, hb.lv, hb.cl, hb.isol, ?_, hb.cnt, hb.bot⟩;have := h.emb;show 0 ≤ s.emb - 1 ∧ s.emb - 1 ≤ _
      omega
    · split
      · rename_i h1 h2 h3
        obtain ⟨h3, h4⟩ := h3;refine ⟨?_, ?_, hb.lv, hb.cl, hb.isol, hb.emb, ?_, ?_⟩
        · show 0 < (s.stack.take (s.stack.length - 1)).length; rw [List.length_take]; omega
        · show (s.stack.take (s.stack.length - 1)).length ≤ _; rw [List.length_take]; have := h.st; omega
        · show s.val = (isoN (s.stack.take (s.stack.length - 1)) : Int)
          have hd : isoN (s.stack.drop (s.stack.length - 1)) = 0 := isoN_zero (fun j hj => by
            rw [List.length_drop] at hj
            have hj0 : j = 0 := by omega
            subst hj0;rw [List.getD_eq_getElem?_getD, List.getElem?_drop, Nat.add_zero, ← List.getD_eq_getElem?_getD]
            exact h3)
          have e := isoN_append (s.stack.take (s.stack.length - 1)) (s.stack.drop (s.stack.length - 1));rw [List.take_append_drop, hd] at e;have := h.cnt
          omega
        · show ((s.stack.take (s.stack.length - 1)).getD 0 _).f2 = false
          rw [getD0_take _ _ (by omega)]; exact h.bot
      · exact hb
def startS (s : WSt) : WSt := {s with stack := [⟨s.base, -1, false⟩], isol := 0, emb := 0, val := 0, most := max s.most 1}
def sepS (s : WSt) (x : Int) : WSt := {startS s with lv := s.lv ++ [s.base], cl := s.cl ++ [x]}
theorem Fit.sep {s : WSt} {N : Nat} (h : Fit s N) (x : Int) : Fit (sepS s x) (N + 1) := by
  refine ⟨by show 0 < 1; omega, by show 1 ≤ _; omega, ?_, ?_, ?_, ?_, rfl, rfl⟩
  · show (s.lv ++ _).length = _; rw [List.length_append, h.lv]; rfl
  · show (s.cl ++ _).length = _; rw [List.length_append, h.cl]; rfl
  · show (0 : Int) ≤ 0 ∧ (0 : Int) ≤ _; omega
  · show (0 : Int) ≤ 0 ∧ (0 : Int) ≤ _; omega
def stepW (s : WSt) (x : Int) : WSt :=
  if x = 16 ∨ x = 14 ∨ x = 17 ∨ x = 15 then embedS s x
  else if x = 22 then endS s x (lastIso s.stack.length s.stack)
  else if x = 18 then backS s
  else if x = 9 then bothS s 9
  else if x = 10 then sepS s 10
  else if 0 ≤ x ∧ x ≤ 22 then putS s x else putS s 0
theorem Fit.step {s : WSt} {N : Nat} (h : Fit s N) (x : Int) : Fit (stepW s x) (N + 1) := by
  unfold stepW
  repeat' split
  · exact h.embed x
  · exact h.end_ x
  · exact h.back
  · exact h.both 9
  · exact h.sep 10
  · exact h.put x
  · exact h.put 0
def goW (k : Nat) (l : List Int) : List Int → Nat → WSt → Option WSt
  | [], _, s => some s
  | x :: r, i, s => if x = 19 ∨ x = 20 ∨ x = 21 then (ductusref05_Isolate.f k l (i : Int)).bind fun d => goW k l r (i + 1) (isolateS s x d) else goW k l r (i + 1) (stepW s x)
def s0W (a : Int) : WSt := startS ⟨if a ≠ 0 then 1 else 0, [], 0, 0, 0, 0, [], []⟩
theorem fit0 (a : Int) : Fit (s0W a) 0 := ⟨by show 0 < 1; omega, by show 1 ≤ _; omega, rfl, rfl, ⟨Int.le_refl _, Int.le_refl _⟩, ⟨Int.le_refl _, Int.le_refl _⟩, rfl, rfl⟩
end Go.Proofs.Ytmjipbmpapcboaa.P
namespace Go.Proofs.Ytmjipbmpapcboaa.P
open Go.RowKit Go.Proofs.YtmjipbmpapcboaaW.PrintWords Go.Proofs.YtmjipbmpapcboaaW.PrintLast Go.Proofs.YtmjipbmpapcboaaW.PrintMore
set_option linter.unusedVariables false
theorem word_in (x : Int) (h : 0 ≤ x ∧ x ≤ 22) : ∃ r, ductusref02_Word.f x = some r ∧ r.toList ≠ ([] : List UInt8) := by
  have : x = 0 ∨ x = 1 ∨ x = 2 ∨ x = 3 ∨ x = 4 ∨ x = 5 ∨ x = 6 ∨ x = 7 ∨ x = 8 ∨ x = 9 ∨ x = 10 ∨ x = 11 ∨ x = 12 ∨ x = 13 ∨ x = 14 ∨ x = 15 ∨ x = 16 ∨ x = 17 ∨ x = 18 ∨ x = 19 ∨ x = 20 ∨ x = 21 ∨ x = 22 := by omega
  rcases this with rfl | rfl | rfl | rfl | rfl | rfl | rfl | rfl | rfl | rfl | rfl | rfl | rfl | rfl | rfl | rfl | rfl | rfl | rfl | rfl | rfl | rfl | rfl <;> exact ⟨_, rfl, by decide +kernel⟩
theorem word_out (x : Int) (h : ¬ (0 ≤ x ∧ x ≤ 22)) : ∃ r, ductusref02_Word.f x = some r ∧ r.toList = ([] : List UInt8) := by
  unfold ductusref02_Word.f;rw [Option.bind_some]
  by_cases h1 : x < 0
  · rw [if_pos h1]
    exact ⟨_, rfl, by decide +kernel⟩
  · rw [if_neg h1, if_pos (by simp only [List.length_cons, List.length_nil]; omega)]
    exact ⟨_, rfl, by decide +kernel⟩
theorem opens_no (x : Int) (h : ¬ (x = 19 ∨ x = 20 ∨ x = 21)) : ductusref02_Opens.f x = some false := by
  unfold ductusref02_Opens.f;rw [if_neg (by omega), if_neg (by omega), beq_eq_false_iff_ne.mpr (by omega)]
theorem goW_no {k : Nat} {l r : List Int} {x : Int} {i : Nat} {s sN : WSt} (h : ¬ (x = 19 ∨ x = 20 ∨ x = 21)) (e : goW k l (x :: r) i s = some sN) : goW k l r (i + 1) (stepW s x) = some sN := by
  unfold goW at e;rw [if_neg h] at e;exact e
theorem goW_iso {k : Nat} {l r : List Int} {x : Int} {i : Nat} {s sN : WSt} (h : x = 19 ∨ x = 20 ∨ x = 21) (e : goW k l (x :: r) i s = some sN) : ∃ d, ductusref05_Isolate.f k l (i : Int) = some d ∧ goW k l r (i + 1) (isolateS s x d) = some sN := by
  unfold goW at e;rw [if_pos h] at e;exact Option.bind_eq_some_iff.1 e
theorem drop_rd (l : List Int) (i : Nat) (h : i < l.length) : l.drop i = rd l (i : Int) :: l.drop (i + 1) := by
  rw [List.drop_eq_getElem_cons h]
  congr 1
  unfold rd;rw [Int.toNat_natCast, List.getD_eq_getElem?_getD, List.getElem?_eq_getElem h];rfl
end Go.Proofs.Ytmjipbmpapcboaa.P
