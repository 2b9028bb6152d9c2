/- Proved: a call of the Go function ductusref02.Of, with any number, answers what ductusref02_Of.f says (the first row of its table that the number lies in); no condition. -/
import Derived.Test.YtnbhncmggfjgdaaDoorPx0
import Derived.Test.YtnbhncmggfjgdaaDoorPSw
namespace Go.Proofs.YtnbhncmggfjgdaaDoor.P
open Go.RowKit Go.Proofs.YtnbhncmggfjgdaaDoorW.PrintWords Go.Proofs.YtnbhncmggfjgdaaDoorW.PrintLast
set_option linter.unusedVariables false

def ductusref02_Of.tbl : List (Int × Int × Int) := [(0, 8, 9), (9, 9, 11), (10, 10, 10), (11, 11, 11), (12, 12, 12), (13, 13, 10), (14, 27, 9), (28, 30, 10), (31, 31, 11), (32, 32, 12), (33, 34, 13), (35, 37, 5), (38, 42, 13), (43, 43, 4), (44, 44, 7), (45, 45, 4), (46, 47, 7), (48, 57, 3), (58, 58, 7), (59, 64, 13), (91, 96, 13), (123, 126, 13), (127, 132, 9), (133, 133, 10), (134, 159, 9), (160, 160, 7), (161, 161, 13), (162, 165, 5), (166, 169, 13), (171, 172, 13), (173, 173, 9), (174, 175, 13), (176, 177, 5), (178, 179, 3), (180, 180, 13), (182, 184, 13), (185, 185, 3), (187, 191, 13), (215, 215, 13), (247, 247, 13), (768, 879, 8), (1425, 1469, 8), (1470, 1470, 1), (1471, 1471, 8), (1472, 1472, 1), (1473, 1474, 8), (1488, 1524, 1), (1536, 1541, 6), (1542, 1543, 13), (1544, 1544, 2), (1545, 1546, 5), (1547, 1547, 2), (1548, 1548, 7), (1549, 1549, 2), (1552, 1562, 8), (1563, 1610, 2), (1611, 1631, 8), (1632, 1641, 6), (1642, 1642, 5), (1643, 1644, 6), (1645, 1647, 2), (1648, 1648, 8), (1649, 1749, 2), (8203, 8205, 9), (8207, 8207, 1), (8208, 8231, 13), (8232, 8232, 12), (8233, 8233, 10), (8234, 8234, 14), (8235, 8235, 16), (8236, 8236, 18), (8237, 8237, 15), (8238, 8238, 17), (8239, 8239, 7), (8240, 8244, 5), (8245, 8259, 13), (8294, 8294, 19), (8295, 8295, 20), (8296, 8296, 21), (8297, 8297, 22), (8304, 8304, 3), (8308, 8313, 3), (8352, 8384, 5), (8592, 8721, 13), (8722, 8722, 4), (8723, 8723, 5), (8724, 9013, 13), (12296, 12305, 13), (65279, 65279, 9), (128512, 128591, 13)]
def ductusref02_Of.f (a0 : Int) : Option Int := some (swFrom a0 ductusref02_Of.tbl)

section
variable {P : Program} {Q : Exit → Act → World → Prop} {w : World} {c r : Int}
theorem put_getD (a : Act) (d : Nat) (v : Value) (i : Nat) (h : d < a.tmps.size) : (a.put (some d) v).tmps.getD i undef = if d = i then v else a.tmps.getD i undef := by
  unfold Act.put
  simp only [Array.getD_eq_getD_getElem?]
  by_cases hd : d = i
  · subst hd
    simp [h]
  · simp [hd]
theorem put_size (a : Act) (d : Nat) (v : Value) : (a.put (some d) v).tmps.size = a.tmps.size := by
  unfold Act.put
  simp
theorem put_defers (a : Act) (d : Nat) (v : Value) : (a.put (some d) v).defers = a.defers := rfl
theorem yields {ops : Array Oper} {tmps : Array Value} {j d : Nat} {b : Bool} (hd : (ops[j]?).bind (·.dst) = some d) (hs : d < tmps.size) (h : tmps.getD d undef = .bool b) : yielded ops tmps j = some b := by
  unfold yielded
  have he : tmps[d]? = some (.bool b) := by
    rw [Array.getElem?_eq_getElem hs]
    rw [Array.getD_eq_getD_getElem?, Array.getElem?_eq_getElem hs, Option.getD_some] at h
    rw [h]
  simp [hd, he]
/-- From here on the code hands back what the table says of c. -/
def SwOk (P : Program) (Q : Exit → Act → World → Prop) (w : World) (c r : Int) (S : Nat) (l : List (Int × Int × Int)) (code : Code) : Prop :=
  swFrom c l = r → ∀ a : Act, a.tmps.getD 0 undef = .int .i64 c → a.tmps.size = S → a.defers = [] → code.wp P Q a w
/-- What is handed back. -/
def SwQ (Q : Exit → Act → World → Prop) (w : World) (r : Int) (S : Nat) : Prop := ∀ a : Act, a.tmps.getD 2 undef = .int .i64 r → a.tmps.size = S → a.defers = [] → Q .ret a w
theorem sw_ret {S : Nat} (hQ : SwQ Q w r S) {id : Nat} {ty : TypeId} {pos : String} {af : Array Edge} (a : Act) (hs : a.tmps.size = S) (h2 : 2 < S) (hd : a.defers = []) :
    ((Code.region id #[{ dst := some 2, op := .assign (.const (.int .i64 r)), type := ty, pos := pos, after := af, guard := none }] false).seq Code.ret).wp P Q a w := by
  refine wp_seq (wp_region_list ?_)
  refine Kd.event_run (w1 := w) (v := .int .i64 r) rfl rfl (wpList_nil ?_)
  show Code.ret.wp P Q _ w
  refine wp_ret (hQ _ ?_ ?_ ?_)
  · rw [put_getD _ _ _ _ (by omega)]
    simp
  · rw [put_size]
    exact hs
  · exact hd
theorem SwOk.eqc {S : Nat} {t id id2 : Nat} {ty ty' ty2 ty3 ty4 : TypeId} {p1 p2 p3 p4 : String} {f1 f2 f3 f4 : Array Edge} {lo x : Int} {rest : Code} {l : List (Int × Int × Int)} (hQ : SwQ Q w r S) (ht : 2 < t) (htS : t + 2 < S) (hrest : SwOk P Q w c r S l rest) :
    SwOk P Q w c r S ((lo, lo, x) :: l) ((Code.region id #[{ dst := some (t + 1), op := .move (.tmp 0), type := ty, pos := p1, after := f1, guard := none }, { dst := some (t + 2), op := .binOp .eql ty' (.tmp (t + 1)) (.const (.int .i64 lo)) ty', type := ty2, pos := p2, after := f2, guard := none }, { dst := some t, op := .assign (.tmp (t + 2)), type := ty3, pos := p3, after := f3, guard := none }] false).seq
      (Code.cond (.tmp t) ((Code.region id2 #[{ dst := some 2, op := .assign (.const (.int .i64 x)), type := ty4, pos := p4, after := f4, guard := none }] false).seq Code.ret) rest)) := by
  intro hr a h0 hs hd
  obtain ⟨b, hb⟩ : ∃ b : Bool, b = (c == lo) := ⟨_, rfl⟩
  refine wp_seq (wp_region_list ?_)
  refine Kd.event_run (w1 := w) (v := .int .i64 c) rfl (by simp [execOp, Act.eval, h0]) ?_
  obtain ⟨a1, e1⟩ : ∃ a1, a1 = a.put (some (t + 1)) (.int .i64 c) := ⟨_, rfl⟩
  have s1 : a1.tmps.size = S := by rw [e1, put_size]; exact hs
  have g1 : a1.tmps.getD (t + 1) undef = .int .i64 c := by rw [e1, put_getD _ _ _ _ (by omega)]; simp
  have z1 : a1.tmps.getD 0 undef = .int .i64 c := by rw [e1, put_getD _ _ _ _ (by omega), if_neg (by omega)]; exact h0
  have d1 : a1.defers = [] := by rw [e1]; exact hd
  show wpList _ _ _ _ (a.put (some (t + 1)) (.int .i64 c)) _
  rw [← e1]
  refine Kd.event_run (w1 := w) (v := .bool b) rfl (by simp [execOp, Act.eval, g1, eqGuard, go_sem, hb]) ?_
  obtain ⟨a2, e2⟩ : ∃ a2, a2 = a1.put (some (t + 2)) (.bool b) := ⟨_, rfl⟩
  have s2 : a2.tmps.size = S := by rw [e2, put_size]; exact s1
  have g2 : a2.tmps.getD (t + 2) undef = .bool b := by rw [e2, put_getD _ _ _ _ (by omega)]; simp
  have z2 : a2.tmps.getD 0 undef = .int .i64 c := by rw [e2, put_getD _ _ _ _ (by omega), if_neg (by omega)]; exact z1
  have d2 : a2.defers = [] := by rw [e2]; exact d1
  show wpList _ _ _ _ (a1.put (some (t + 2)) (.bool b)) _
  rw [← e2]
  refine Kd.event_run (w1 := w) (v := .bool b) rfl (by simp [execOp, Act.eval, g2]) (wpList_nil ?_)
  obtain ⟨a3, e3⟩ : ∃ a3, a3 = a2.put (some t) (.bool b) := ⟨_, rfl⟩
  have s3 : a3.tmps.size = S := by rw [e3, put_size]; exact s2
  have g3 : a3.tmps.getD t undef = .bool b := by rw [e3, put_getD _ _ _ _ (by omega)]; simp
  have z3 : a3.tmps.getD 0 undef = .int .i64 c := by rw [e3, put_getD _ _ _ _ (by omega), if_neg (by omega)]; exact z2
  have d3 : a3.defers = [] := by rw [e3]; exact d2
  show (Code.cond _ _ _).wp P Q (a2.put (some t) (.bool b)) w
  rw [← e3]
  refine wp_cond_split (t := b) g3 (fun hb1 => ?_) (fun hb0 => ?_)
  · have hc : c = lo := by rw [hb1] at hb; simpa using hb.symm
    have hx : x = r := by rw [← hr]; simp [swFrom, hc]
    rw [hx]
    exact sw_ret hQ a3 s3 (by omega) d3
  · have hc : ¬ c = lo := by rw [hb0] at hb; simpa using hb.symm
    refine hrest ?_ a3 z3 s3 d3
    rw [← hr]
    simp only [swFrom]
    rw [if_neg (by omega)]
theorem SwOk.rng {S : Nat} {t id id2 : Nat} {ty ty' ty2 ty3 ty4 : TypeId} {p1 p2 p3 p4 p5 p6 p7 p8 : String} {f1 f2 f3 f4 f5 f6 f7 f8 : Array Edge} {lo hi x : Int} {rest : Code} {l : List (Int × Int × Int)} (hQ : SwQ Q w r S) (ht : 2 < t) (htS : t + 6 < S) (hrest : SwOk P Q w c r S l rest) :
    SwOk P Q w c r S ((lo, hi, x) :: l) ((Code.region id #[{ dst := some (t + 1), op := .move (.tmp 0), type := ty, pos := p1, after := f1, guard := none }, { dst := some (t + 2), op := .binOp .geq ty' (.tmp (t + 1)) (.const (.int .i64 lo)) ty', type := ty2, pos := p2, after := f2, guard := none }, { dst := some (t + 3), op := .move (.tmp (t + 2)), type := ty2, pos := p3, after := f3, guard := none },
        { dst := some (t + 4), op := .move (.tmp 0), type := ty, pos := p4, after := f4, guard := some (2, true) }, { dst := some (t + 5), op := .binOp .leq ty' (.tmp (t + 4)) (.const (.int .i64 hi)) ty', type := ty2, pos := p5, after := f5, guard := some (2, true) }, { dst := some (t + 6), op := .pick (.tmp (t + 3)) (.tmp (t + 5)) (.const (.bool false)), type := ty2, pos := p6, after := f6, guard := none }, { dst := some t, op := .assign (.tmp (t + 6)), type := ty3, pos := p7, after := f7, guard := none }] false).seq
      (Code.cond (.tmp t) ((Code.region id2 #[{ dst := some 2, op := .assign (.const (.int .i64 x)), type := ty4, pos := p8, after := f8, guard := none }] false).seq Code.ret) rest)) := by
  intro hr a h0 hs hd
  obtain ⟨b, hb⟩ : ∃ b : Bool, b = decide (c ≥ lo) := ⟨_, rfl⟩
  obtain ⟨q, hq⟩ : ∃ q : Bool, q = decide (c ≤ hi) := ⟨_, rfl⟩
  refine wp_seq (wp_region_list ?_)
  refine Kd.event_run (w1 := w) (v := .int .i64 c) rfl (by simp [execOp, Act.eval, h0]) ?_
  obtain ⟨a1, e1⟩ : ∃ a1, a1 = a.put (some (t + 1)) (.int .i64 c) := ⟨_, rfl⟩
  have s1 : a1.tmps.size = S := by rw [e1, put_size]; exact hs
  have g1 : a1.tmps.getD (t + 1) undef = .int .i64 c := by rw [e1, put_getD _ _ _ _ (by omega)]; simp
  have z1 : a1.tmps.getD 0 undef = .int .i64 c := by rw [e1, put_getD _ _ _ _ (by omega), if_neg (by omega)]; exact h0
  have d1 : a1.defers = [] := by rw [e1]; exact hd
  show wpList _ _ _ _ (a.put (some (t + 1)) (.int .i64 c)) _
  rw [← e1]
  clear e1 h0 hs hd
  refine Kd.event_run (w1 := w) (v := .bool b) rfl (by simp [execOp, Act.eval, g1, eqGuard, go_sem, hb]) ?_
  obtain ⟨a2, e2⟩ : ∃ a2, a2 = a1.put (some (t + 2)) (.bool b) := ⟨_, rfl⟩
  have s2 : a2.tmps.size = S := by rw [e2, put_size]; exact s1
  have g2 : a2.tmps.getD (t + 2) undef = .bool b := by rw [e2, put_getD _ _ _ _ (by omega)]; simp
  have z2 : a2.tmps.getD 0 undef = .int .i64 c := by rw [e2, put_getD _ _ _ _ (by omega), if_neg (by omega)]; exact z1
  have d2 : a2.defers = [] := by rw [e2]; exact d1
  show wpList _ _ _ _ (a1.put (some (t + 2)) (.bool b)) _
  rw [← e2]
  clear e2 g1 z1 s1 d1
  refine Kd.event_run (w1 := w) (v := .bool b) rfl (by simp [execOp, Act.eval, g2]) ?_
  obtain ⟨a3, e3⟩ : ∃ a3, a3 = a2.put (some (t + 3)) (.bool b) := ⟨_, rfl⟩
  have s3 : a3.tmps.size = S := by rw [e3, put_size]; exact s2
  have g3 : a3.tmps.getD (t + 3) undef = .bool b := by rw [e3, put_getD _ _ _ _ (by omega)]; simp
  have z3 : a3.tmps.getD 0 undef = .int .i64 c := by rw [e3, put_getD _ _ _ _ (by omega), if_neg (by omega)]; exact z2
  have d3 : a3.defers = [] := by rw [e3]; exact d2
  show wpList _ _ _ _ (a2.put (some (t + 3)) (.bool b)) _
  rw [← e3]
  clear e3 g2 z2 s2 d2
  obtain ⟨a5, s5, g5, z5, d5, q5, H5⟩ : ∃ a5 : Act, a5.tmps.size = S ∧ a5.tmps.getD (t + 3) undef = .bool b ∧ a5.tmps.getD 0 undef = .int .i64 c ∧ a5.defers = [] ∧ (b = true → a5.tmps.getD (t + 5) undef = .bool q) ∧
      ∀ (ops : Array Oper) (Q' : Exit → Act → World → Prop) (l' : List Oper), (ops[2]?).bind (·.dst) = some (t + 3) → wpList P ops Q' l' a5 w →
        wpList P ops Q' ({ dst := some (t + 4), op := .move (.tmp 0), type := ty, pos := p4, after := f4, guard := some (2, true) } :: { dst := some (t + 5), op := .binOp .leq ty' (.tmp (t + 4)) (.const (.int .i64 hi)) ty', type := ty2, pos := p5, after := f5, guard := some (2, true) } :: l') a3 w := by
    cases b with
    | true =>
      obtain ⟨a4, e4⟩ : ∃ a4, a4 = a3.put (some (t + 4)) (.int .i64 c) := ⟨_, rfl⟩
      have s4 : a4.tmps.size = S := by rw [e4, put_size]; exact s3
      have k4 : a4.tmps.getD (t + 4) undef = .int .i64 c := by rw [e4, put_getD _ _ _ _ (by omega)]; simp
      have g4 : a4.tmps.getD (t + 3) undef = .bool true := by rw [e4, put_getD _ _ _ _ (by omega), if_neg (by omega)]; exact g3
      have z4 : a4.tmps.getD 0 undef = .int .i64 c := by rw [e4, put_getD _ _ _ _ (by omega), if_neg (by omega)]; exact z3
      have d4 : a4.defers = [] := by rw [e4]; exact d3
      refine ⟨a4.put (some (t + 5)) (.bool q), by rw [put_size]; exact s4, by rw [put_getD _ _ _ _ (by omega), if_neg (by omega)]; exact g4, by rw [put_getD _ _ _ _ (by omega), if_neg (by omega)]; exact z4, d4, fun _ => by rw [put_getD _ _ _ _ (by omega)]; simp, fun ops Q' l' hd2 h => ?_⟩
      refine wpList_step fun K hK => ?_
      rw [if_pos (by simp [Region.wanted, yields hd2 (by omega) g3])]
      unfold Oper.wp
      have hx : (execOp a3.eval { dst := some (t + 4), op := .move (.tmp 0), type := ty, pos := p4, after := f4, guard := some (2, true) }).run P w = .ok (.value (.int .i64 c)) w := by simp [execOp, Act.eval, z3]
      rw [hx]
      refine hK _ _ ?_
      show wpList _ _ _ _ (a3.put (some (t + 4)) (.int .i64 c)) _
      rw [← e4]
      refine wpList_step fun K hK => ?_
      rw [if_pos (by simp [Region.wanted, yields hd2 (by omega) g4])]
      unfold Oper.wp
      have hx : (execOp a4.eval { dst := some (t + 5), op := .binOp .leq ty' (.tmp (t + 4)) (.const (.int .i64 hi)) ty', type := ty2, pos := p5, after := f5, guard := some (2, true) }).run P w = .ok (.value (.bool q)) w := by simp [execOp, Act.eval, k4, eqGuard, go_sem, hq]
      rw [hx]
      exact hK _ _ h
    | false =>
      obtain ⟨a4, e4⟩ : ∃ a4, a4 = a3.put (some (t + 4)) undef := ⟨_, rfl⟩
      have s4 : a4.tmps.size = S := by rw [e4, put_size]; exact s3
      have g4 : a4.tmps.getD (t + 3) undef = .bool false := by rw [e4, put_getD _ _ _ _ (by omega), if_neg (by omega)]; exact g3
      have z4 : a4.tmps.getD 0 undef = .int .i64 c := by rw [e4, put_getD _ _ _ _ (by omega), if_neg (by omega)]; exact z3
      have d4 : a4.defers = [] := by rw [e4]; exact d3
      refine ⟨a4.put (some (t + 5)) undef, by rw [put_size]; exact s4, by rw [put_getD _ _ _ _ (by omega), if_neg (by omega)]; exact g4, by rw [put_getD _ _ _ _ (by omega), if_neg (by omega)]; exact z4, d4, fun h => (by cases h), fun ops Q' l' hd2 h => ?_⟩
      refine wpList_step fun K hK => ?_
      rw [if_neg (by simp [Region.wanted, yields hd2 (by omega) g3])]
      refine hK _ _ ?_
      show wpList _ _ _ _ (a3.put (some (t + 4)) undef) _
      rw [← e4]
      refine wpList_step fun K hK => ?_
      rw [if_neg (by simp [Region.wanted, yields hd2 (by omega) g4])]
      exact hK _ _ h
  refine H5 _ _ _ rfl ?_
  refine Kd.event_run (w1 := w) (v := .bool (b && q)) rfl ?_ ?_
  · cases b with
    | true => simp [execOp, Act.eval, g5, q5 rfl, asBool]
    | false => simp [execOp, Act.eval, g5, asBool]
  obtain ⟨a6, e6⟩ : ∃ a6, a6 = a5.put (some (t + 6)) (.bool (b && q)) := ⟨_, rfl⟩
  have s6 : a6.tmps.size = S := by rw [e6, put_size]; exact s5
  have g6 : a6.tmps.getD (t + 6) undef = .bool (b && q) := by rw [e6, put_getD _ _ _ _ (by omega)]; simp
  have z6 : a6.tmps.getD 0 undef = .int .i64 c := by rw [e6, put_getD _ _ _ _ (by omega), if_neg (by omega)]; exact z5
  have d6 : a6.defers = [] := by rw [e6]; exact d5
  show wpList _ _ _ _ (a5.put (some (t + 6)) (.bool (b && q))) _
  rw [← e6]
  refine Kd.event_run (w1 := w) (v := .bool (b && q)) rfl (by simp [execOp, Act.eval, g6]) (wpList_nil ?_)
  obtain ⟨a7, e7⟩ : ∃ a7, a7 = a6.put (some t) (.bool (b && q)) := ⟨_, rfl⟩
  have s7 : a7.tmps.size = S := by rw [e7, put_size]; exact s6
  have g7 : a7.tmps.getD t undef = .bool (b && q) := by rw [e7, put_getD _ _ _ _ (by omega)]; simp
  have z7 : a7.tmps.getD 0 undef = .int .i64 c := by rw [e7, put_getD _ _ _ _ (by omega), if_neg (by omega)]; exact z6
  have d7 : a7.defers = [] := by rw [e7]; exact d6
  show (Code.cond _ _ _).wp P Q (a6.put (some t) (.bool (b && q))) w
  rw [← e7]
  refine wp_cond_split (t := (b && q)) g7 (fun hb1 => ?_) (fun hb0 => ?_)
  · have hc : lo ≤ c ∧ c ≤ hi := by
      rw [Bool.and_eq_true, hb, hq, decide_eq_true_eq, decide_eq_true_eq] at hb1
      exact hb1
    have hx : x = r := by rw [← hr]; simp [swFrom, hc]
    rw [hx]
    exact sw_ret hQ a7 s7 (by omega) d7
  · have hc : ¬ (lo ≤ c ∧ c ≤ hi) := by
      rw [hb, hq, ← Bool.decide_and, decide_eq_false_iff_not] at hb0
      exact hb0
    refine hrest ?_ a7 z7 s7 d7
    rw [← hr]
    simp only [swFrom]
    rw [if_neg hc]
theorem SwOk.last {S : Nat} (hk : ∀ a : Act, r = 0 → a.tmps.getD 0 undef = .int .i64 c → a.tmps.size = S → a.defers = [] → Q .normal a w) : SwOk P Q w c r S [] Code.skip :=
  fun hr a h0 hs hd => wp_skip (hk a hr.symm h0 hs hd)
end

set_option maxRecDepth 100000 in
theorem ductusref02_Of.calls (a0 : Int) (r : Int) (w : World) (h : ductusref02_Of.f a0 = some r) :
    Calls Tryd.prog 14 #[.int .i64 a0] w fun e w' => e = .returned (.int .i64 r) ∧ Drawn0 w w' := by
  have hr := Option.some.inj h
  clear h
  go_enter Tryd.func14, Tryd.ntmps14
  refine wp_seq (wp_region_list ?_)
  refine Kd.event_run (w1 := w) (v := .int .i64 0) rfl rfl (wpList_nil ?_)
  refine wp_seq (wp_block ?_)
  refine (?_ : ∀ Q, SwQ Q w r 453 → (∀ a : Act, r = 0 → a.tmps.getD 0 undef = .int .i64 a0 → a.tmps.size = 453 → a.defers = [] → Q .normal a w) → SwOk Tryd.prog Q w a0 r 453 ductusref02_Of.tbl _) _ ?_ ?_ hr _ rfl rfl rfl
  · intro Q hQ hn
    unfold ductusref02_Of.tbl
    refine SwOk.rng hQ (by omega) (by omega) ?_
    refine SwOk.eqc hQ (by omega) (by omega) ?_
    refine SwOk.eqc hQ (by omega) (by omega) ?_
    refine SwOk.eqc hQ (by omega) (by omega) ?_
    refine SwOk.eqc hQ (by omega) (by omega) ?_
    refine SwOk.eqc hQ (by omega) (by omega) ?_
    refine SwOk.rng hQ (by omega) (by omega) ?_
    refine SwOk.rng hQ (by omega) (by omega) ?_
    refine SwOk.eqc hQ (by omega) (by omega) ?_
    refine SwOk.eqc hQ (by omega) (by omega) ?_
    refine SwOk.rng hQ (by omega) (by omega) ?_
    refine SwOk.rng hQ (by omega) (by omega) ?_
    refine SwOk.rng hQ (by omega) (by omega) ?_
    refine SwOk.eqc hQ (by omega) (by omega) ?_
    refine SwOk.eqc hQ (by omega) (by omega) ?_
    refine SwOk.eqc hQ (by omega) (by omega) ?_
    refine SwOk.rng hQ (by omega) (by omega) ?_
    refine SwOk.rng hQ (by omega) (by omega) ?_
    refine SwOk.eqc hQ (by omega) (by omega) ?_
    refine SwOk.rng hQ (by omega) (by omega) ?_
    refine SwOk.rng hQ (by omega) (by omega) ?_
    refine SwOk.rng hQ (by omega) (by omega) ?_
    refine SwOk.rng hQ (by omega) (by omega) ?_
    refine SwOk.eqc hQ (by omega) (by omega) ?_
    refine SwOk.rng hQ (by omega) (by omega) ?_
    refine SwOk.eqc hQ (by omega) (by omega) ?_
    refine SwOk.eqc hQ (by omega) (by omega) ?_
    refine SwOk.rng hQ (by omega) (by omega) ?_
    refine SwOk.rng hQ (by omega) (by omega) ?_
    refine SwOk.rng hQ (by omega) (by omega) ?_
    refine SwOk.eqc hQ (by omega) (by omega) ?_
    refine SwOk.rng hQ (by omega) (by omega) ?_
    refine SwOk.rng hQ (by omega) (by omega) ?_
    refine SwOk.rng hQ (by omega) (by omega) ?_
    refine SwOk.eqc hQ (by omega) (by omega) ?_
    refine SwOk.rng hQ (by omega) (by omega) ?_
    refine SwOk.eqc hQ (by omega) (by omega) ?_
    refine SwOk.rng hQ (by omega) (by omega) ?_
    refine SwOk.eqc hQ (by omega) (by omega) ?_
    refine SwOk.eqc hQ (by omega) (by omega) ?_
    refine SwOk.rng hQ (by omega) (by omega) ?_
    refine SwOk.rng hQ (by omega) (by omega) ?_
    refine SwOk.eqc hQ (by omega) (by omega) ?_
    refine SwOk.eqc hQ (by omega) (by omega) ?_
    refine SwOk.eqc hQ (by omega) (by omega) ?_
    refine SwOk.rng hQ (by omega) (by omega) ?_
    refine SwOk.rng hQ (by omega) (by omega) ?_
    refine SwOk.rng hQ (by omega) (by omega) ?_
    refine SwOk.rng hQ (by omega) (by omega) ?_
    refine SwOk.eqc hQ (by omega) (by omega) ?_
    refine SwOk.rng hQ (by omega) (by omega) ?_
    refine SwOk.eqc hQ (by omega) (by omega) ?_
    refine SwOk.eqc hQ (by omega) (by omega) ?_
    refine SwOk.eqc hQ (by omega) (by omega) ?_
    refine SwOk.rng hQ (by omega) (by omega) ?_
    refine SwOk.rng hQ (by omega) (by omega) ?_
    refine SwOk.rng hQ (by omega) (by omega) ?_
    refine SwOk.rng hQ (by omega) (by omega) ?_
    refine SwOk.eqc hQ (by omega) (by omega) ?_
    refine SwOk.rng hQ (by omega) (by omega) ?_
    refine SwOk.rng hQ (by omega) (by omega) ?_
    refine SwOk.eqc hQ (by omega) (by omega) ?_
    refine SwOk.rng hQ (by omega) (by omega) ?_
    refine SwOk.rng hQ (by omega) (by omega) ?_
    refine SwOk.eqc hQ (by omega) (by omega) ?_
    refine SwOk.rng hQ (by omega) (by omega) ?_
    refine SwOk.eqc hQ (by omega) (by omega) ?_
    refine SwOk.eqc hQ (by omega) (by omega) ?_
    refine SwOk.eqc hQ (by omega) (by omega) ?_
    refine SwOk.eqc hQ (by omega) (by omega) ?_
    refine SwOk.eqc hQ (by omega) (by omega) ?_
    refine SwOk.eqc hQ (by omega) (by omega) ?_
    refine SwOk.eqc hQ (by omega) (by omega) ?_
    refine SwOk.eqc hQ (by omega) (by omega) ?_
    refine SwOk.rng hQ (by omega) (by omega) ?_
    refine SwOk.rng hQ (by omega) (by omega) ?_
    refine SwOk.eqc hQ (by omega) (by omega) ?_
    refine SwOk.eqc hQ (by omega) (by omega) ?_
    refine SwOk.eqc hQ (by omega) (by omega) ?_
    refine SwOk.eqc hQ (by omega) (by omega) ?_
    refine SwOk.eqc hQ (by omega) (by omega) ?_
    refine SwOk.rng hQ (by omega) (by omega) ?_
    refine SwOk.rng hQ (by omega) (by omega) ?_
    refine SwOk.rng hQ (by omega) (by omega) ?_
    refine SwOk.eqc hQ (by omega) (by omega) ?_
    refine SwOk.eqc hQ (by omega) (by omega) ?_
    refine SwOk.rng hQ (by omega) (by omega) ?_
    refine SwOk.rng hQ (by omega) (by omega) ?_
    refine SwOk.eqc hQ (by omega) (by omega) ?_
    refine SwOk.rng hQ (by omega) (by omega) ?_
    exact SwOk.last hn
  · intro a h2 hs hd
    show bodyPost Tryd.prog Tryd.f14 (fun e w' => e = .returned (.int .i64 r) ∧ Drawn0 w w') Exit.ret a w
    exact bodyPost_ret (v := .int .i64 r) ((results_tmp rfl _ _ _).trans (by rw [h2])) hd ⟨rfl, Drawn0.refl w⟩
  · intro a h0 h1 hs hd
    subst h0
    refine sw_ret (S := 453) (fun a h2 hs hd => ?_) a hs (by omega) hd
    show bodyPost _ _ _ Exit.ret a w
    exact bodyPost_ret (v := .int .i64 0) ((results_tmp rfl _ _ _).trans (by rw [h2])) hd ⟨rfl, Drawn0.refl w⟩
end Go.Proofs.YtnbhncmggfjgdaaDoor.P
