/- Texts of this claim put together by a program of its own (SOf, Px13, Px14, Px20), what the law does not use left out: each part's statements bear their own conditions. -/
import Derived.Test.YthgmkbghdobmlaaC0
import Derived.Test.YthgmkbghdobmlaaC6
namespace Go.Proofs.Ythgmkbghdobmlaa.P
open Go.RowKit Go.Proofs.YthgmkbghdobmlaaW.PrintWords Go.Proofs.YthgmkbghdobmlaaW.PrintLast
set_option linter.unusedVariables false

def ductusref02_Of.tbl : List (Int × Int × Int) := [(0, 8, 9), (9, 9, 11), (10, 10, 10), (11, 11, 11), (12, 12, 12), (13, 13, 10), (14, 27, 9), (28, 30, 10), (31, 31, 11), (32, 32, 12), (33, 34, 13), (35, 37, 5), (38, 42, 13), (43, 43, 4), (44, 44, 7), (45, 45, 4), (46, 47, 7), (48, 57, 3), (58, 58, 7), (59, 64, 13), (91, 96, 13), (123, 126, 13), (127, 132, 9), (133, 133, 10), (134, 159, 9), (160, 160, 7), (161, 161, 13), (162, 165, 5), (166, 169, 13), (171, 172, 13), (173, 173, 9), (174, 175, 13), (176, 177, 5), (178, 179, 3), (180, 180, 13), (182, 184, 13), (185, 185, 3), (187, 191, 13), (215, 215, 13), (247, 247, 13), (768, 879, 8), (1425, 1469, 8), (1470, 1470, 1), (1471, 1471, 8), (1472, 1472, 1), (1473, 1474, 8), (1488, 1524, 1), (1536, 1541, 6), (1542, 1543, 13), (1544, 1544, 2), (1545, 1546, 5), (1547, 1547, 2), (1548, 1548, 7), (1549, 1549, 2), (1552, 1562, 8), (1563, 1610, 2), (1611, 1631, 8), (1632, 1641, 6), (1642, 1642, 5), (1643, 1644, 6), (1645, 1647, 2), (1648, 1648, 8), (1649, 1749, 2), (8203, 8205, 9), (8207, 8207, 1), (8208, 8231, 13), (8232, 8232, 12), (8233, 8233, 10), (8234, 8234, 14), (8235, 8235, 16), (8236, 8236, 18), (8237, 8237, 15), (8238, 8238, 17), (8239, 8239, 7), (8240, 8244, 5), (8245, 8259, 13), (8294, 8294, 19), (8295, 8295, 20), (8296, 8296, 21), (8297, 8297, 22), (8304, 8304, 3), (8308, 8313, 3), (8352, 8384, 5), (8592, 8721, 13), (8722, 8722, 4), (8723, 8723, 5), (8724, 9013, 13), (12296, 12305, 13), (65279, 65279, 9), (128512, 128591, 13)]
def ductusref02_Of.f (a0 : Int) : Option Int := some (swFrom a0 ductusref02_Of.tbl)

section
variable {P : Program} {Q : Exit → Act → World → Prop} {w : World} {c r : Int}
theorem put_getD (a : Act) (d : Nat) (v : Value) (i : Nat) (h : d < a.tmps.size) : (a.put (some d) v).tmps.getD i undef = if d = i then v else a.tmps.getD i undef := by
  unfold Act.put
  simp only [Array.getD_eq_getD_getElem?]
  by_cases hd : d = i
  · subst hd
    simp [h]
  · simp [hd]
theorem put_size (a : Act) (d : Nat) (v : Value) : (a.put (some d) v).tmps.size = a.tmps.size := by
  unfold Act.put
  simp
theorem yields {ops : Array Oper} {tmps : Array Value} {j d : Nat} {b : Bool} (hd : (ops[j]?).bind (·.dst) = some d) (hs : d < tmps.size) (h : tmps.getD d undef = .bool b) : yielded ops tmps j = some b := by
  unfold yielded
  have he : tmps[d]? = some (.bool b) := by
    rw [Array.getElem?_eq_getElem hs]
    rw [Array.getD_eq_getD_getElem?, Array.getElem?_eq_getElem hs, Option.getD_some] at h
    rw [h]
  simp [hd, he]
/-- From here on the code hands back what the table says of c. -/
def SwOk (P : Program) (Q : Exit → Act → World → Prop) (w : World) (c r : Int) (S : Nat) (l : List (Int × Int × Int)) (code : Code) : Prop :=
  swFrom c l = r → ∀ a : Act, a.tmps.getD 0 undef = .int .i64 c → a.tmps.size = S → a.defers = [] → code.wp P Q a w
/-- What is handed back. -/
def SwQ (Q : Exit → Act → World → Prop) (w : World) (r : Int) (S : Nat) : Prop := ∀ a : Act, a.tmps.getD 2 undef = .int .i64 r → a.tmps.size = S → a.defers = [] → Q .ret a w
theorem sw_ret {S : Nat} (hQ : SwQ Q w r S) {id : Nat} {ty : TypeId} {pos : String} {af : Array Edge} (a : Act) (hs : a.tmps.size = S) (h2 : 2 < S) (hd : a.defers = []) :
    ((Code.region id #[{ dst := some 2, op := .assign (.const (.int .i64 r)), type := ty, pos := pos, after := af, guard := none }] false).seq Code.ret).wp P Q a w := by
  refine wp_seq (wp_region_list ?_)
  refine Kd.event_run (w1 := w) (v := .int .i64 r) rfl rfl (wpList_nil ?_)
  show Code.ret.wp P Q _ w
  refine wp_ret (hQ _ ?_ ?_ ?_)
  · rw [put_getD _ _ _ _ (by omega)]
    simp
  · rw [put_size]
    exact hs
  · exact hd
theorem SwOk.eqc {S : Nat} {t id id2 : Nat} {ty ty' ty2 ty3 ty4 : TypeId} {p1 p2 p3 p4 : String} {f1 f2 f3 f4 : Array Edge} {lo x : Int} {rest : Code} {l : List (Int × Int × Int)} (hQ : SwQ Q w r S) (ht : 2 < t) (htS : t + 2 < S) (hrest : SwOk P Q w c r S l rest) :
    SwOk P Q w c r S ((lo, lo, x) :: l) ((Code.region id #[{ dst := some (t + 1), op := .move (.tmp 0), type := ty, pos := p1, after := f1, guard := none }, { dst := some (t + 2), op := .binOp .eql ty' (.tmp (t + 1)) (.const (.int .i64 lo)) ty', type := ty2, pos := p2, after := f2, guard := none }, { dst := some t, op := .assign (.tmp (t + 2)), type := ty3, pos := p3, after := f3, guard := none }] false).seq
      (Code.cond (.tmp t) ((Code.region id2 #[{ dst := some 2, op := .assign (.const (.int .i64 x)), type := ty4, pos := p4, after := f4, guard := none }] false).seq Code.ret) rest)) := by
  intro hr a h0 hs hd
  obtain ⟨b, hb⟩ : ∃ b : Bool, b = (c == lo) := ⟨_, rfl⟩
  refine wp_seq (wp_region_list ?_)
  refine Kd.event_run (w1 := w) (v := .int .i64 c) rfl (by simp [execOp, Act.eval, h0]) ?_
  obtain ⟨a1, e1⟩ : ∃ a1, a1 = a.put (some (t + 1)) (.int .i64 c) := ⟨_, rfl⟩
  have s1 : a1.tmps.size = S := by rw [e1, put_size]; exact hs
  have g1 : a1.tmps.getD (t + 1) undef = .int .i64 c := by rw [e1, put_getD _ _ _ _ (by omega)]; simp
  have z1 : a1.tmps.getD 0 undef = .int .i64 c := by rw [e1, put_getD _ _ _ _ (by omega), if_neg (by omega)]; exact h0
  have d1 : a1.defers = [] := by rw [e1]; exact hd
  show wpList _ _ _ _ (a.put (some (t + 1)) (.int .i64 c)) _
  rw [← e1]
  refine Kd.event_run (w1 := w) (v := .bool b) rfl (by simp [execOp, Act.eval, g1, eqGuard, go_sem, hb]) ?_
  obtain ⟨a2, e2⟩ : ∃ a2, a2 = a1.put (some (t + 2)) (.bool b) := ⟨_, rfl⟩
  have s2 : a2.tmps.size = S := by rw [e2, put_size]; exact s1
  have g2 : a2.tmps.getD (t + 2) undef = .bool b := by rw [e2, put_getD _ _ _ _ (by omega)]; simp
  have z2 : a2.tmps.getD 0 undef = .int .i64 c := by rw [e2, put_getD _ _ _ _ (by omega), if_neg (by omega)]; exact z1
  have d2 : a2.defers = [] := by rw [e2]; exact d1
  show wpList _ _ _ _ (a1.put (some (t + 2)) (.bool b)) _
  rw [← e2]
  refine Kd.event_run (w1 := w) (v := .bool b) rfl (by simp [execOp, Act.eval, g2]) (wpList_nil ?_)
  obtain ⟨a3, e3⟩ : ∃ a3, a3 = a2.put (some t) (.bool b) := ⟨_, rfl⟩
  have s3 : a3.tmps.size = S := by rw [e3, put_size]; exact s2
  have g3 : a3.tmps.getD t undef = .bool b := by rw [e3, put_getD _ _ _ _ (by omega)]; simp
  have z3 : a3.tmps.getD 0 undef = .int .i64 c := by rw [e3, put_getD _ _ _ _ (by omega), if_neg (by omega)]; exact z2
  have d3 : a3.defers = [] := by rw [e3]; exact d2
  show (Code.cond _ _ _).wp P Q (a2.put (some t) (.bool b)) w
  rw [← e3]
  refine wp_cond_split (t := b) g3 (fun hb1 => ?_) (fun hb0 => ?_)
  · have hc : c = lo := by rw [hb1] at hb; simpa using hb.symm
    have hx : x = r := by rw [← hr]; simp [swFrom, hc]
    rw [hx]
    exact sw_ret hQ a3 s3 (by omega) d3
  · have hc : ¬ c = lo := by rw [hb0] at hb; simpa using hb.symm
    refine hrest ?_ a3 z3 s3 d3
    rw [← hr]
    simp only [swFrom]
    rw [if_neg (by omega)]
theorem SwOk.rng {S : Nat} {t id id2 : Nat} {ty ty' ty2 ty3 ty4 : TypeId} {p1 p2 p3 p4 p5 p6 p7 p8 : String} {f1 f2 f3 f4 f5 f6 f7 f8 : Array Edge} {lo hi x : Int} {rest : Code} {l : List (Int × Int × Int)} (hQ : SwQ Q w r S) (ht : 2 < t) (htS : t + 6 < S) (hrest : SwOk P Q w c r S l rest) :
    SwOk P Q w c r S ((lo, hi, x) :: l) ((Code.region id #[{ dst := some (t + 1), op := .move (.tmp 0), type := ty, pos := p1, after := f1, guard := none }, { dst := some (t + 2), op := .binOp .geq ty' (.tmp (t + 1)) (.const (.int .i64 lo)) ty', type := ty2, pos := p2, after := f2, guard := none }, { dst := some (t + 3), op := .move (.tmp (t + 2)), type := ty2, pos := p3, after := f3, guard := none },
        { dst := some (t + 4), op := .move (.tmp 0), type := ty, pos := p4, after := f4, guard := some (2, true) }, { dst := some (t + 5), op := .binOp .leq ty' (.tmp (t + 4)) (.const (.int .i64 hi)) ty', type := ty2, pos := p5, after := f5, guard := some (2, true) }, { dst := some (t + 6), op := .pick (.tmp (t + 3)) (.tmp (t + 5)) (.const (.bool false)), type := ty2, pos := p6, after := f6, guard := none }, { dst := some t, op := .assign (.tmp (t + 6)), type := ty3, pos := p7, after := f7, guard := none }] false).seq
      (Code.cond (.tmp t) ((Code.region id2 #[{ dst := some 2, op := .assign (.const (.int .i64 x)), type := ty4, pos := p8, after := f8, guard := none }] false).seq Code.ret) rest)) := by
  intro hr a h0 hs hd
  obtain ⟨b, hb⟩ : ∃ b : Bool, b = decide (c ≥ lo) := ⟨_, rfl⟩
  obtain ⟨q, hq⟩ : ∃ q : Bool, q = decide (c ≤ hi) := ⟨_, rfl⟩
  refine wp_seq (wp_region_list ?_)
  refine Kd.event_run (w1 := w) (v := .int .i64 c) rfl (by simp [execOp, Act.eval, h0]) ?_
  obtain ⟨a1, e1⟩ : ∃ a1, a1 = a.put (some (t + 1)) (.int .i64 c) := ⟨_, rfl⟩
  have s1 : a1.tmps.size = S := by rw [e1, put_size]; exact hs
  have g1 : a1.tmps.getD (t + 1) undef = .int .i64 c := by rw [e1, put_getD _ _ _ _ (by omega)]; simp
  have z1 : a1.tmps.getD 0 undef = .int .i64 c := by rw [e1, put_getD _ _ _ _ (by omega), if_neg (by omega)]; exact h0
  have d1 : a1.defers = [] := by rw [e1]; exact hd
  show wpList _ _ _ _ (a.put (some (t + 1)) (.int .i64 c)) _
  rw [← e1]
  clear e1 h0 hs hd
  refine Kd.event_run (w1 := w) (v := .bool b) rfl (by simp [execOp, Act.eval, g1, eqGuard, go_sem, hb]) ?_
  obtain ⟨a2, e2⟩ : ∃ a2, a2 = a1.put (some (t + 2)) (.bool b) := ⟨_, rfl⟩
  have s2 : a2.tmps.size = S := by rw [e2, put_size]; exact s1
  have g2 : a2.tmps.getD (t + 2) undef = .bool b := by rw [e2, put_getD _ _ _ _ (by omega)]; simp
  have z2 : a2.tmps.getD 0 undef = .int .i64 c := by rw [e2, put_getD _ _ _ _ (by omega), if_neg (by omega)]; exact z1
  have d2 : a2.defers = [] := by rw [e2]; exact d1
  show wpList _ _ _ _ (a1.put (some (t + 2)) (.bool b)) _
  rw [← e2]
  clear e2 g1 z1 s1 d1
  refine Kd.event_run (w1 := w) (v := .bool b) rfl (by simp [execOp, Act.eval, g2]) ?_
  obtain ⟨a3, e3⟩ : ∃ a3, a3 = a2.put (some (t + 3)) (.bool b) := ⟨_, rfl⟩
  have s3 : a3.tmps.size = S := by rw [e3, put_size]; exact s2
  have g3 : a3.tmps.getD (t + 3) undef = .bool b := by rw [e3, put_getD _ _ _ _ (by omega)]; simp
  have z3 : a3.tmps.getD 0 undef = .int .i64 c := by rw [e3, put_getD _ _ _ _ (by omega), if_neg (by omega)]; exact z2
  have d3 : a3.defers = [] := by rw [e3]; exact d2
  show wpList _ _ _ _ (a2.put (some (t + 3)) (.bool b)) _
  rw [← e3]
  clear e3 g2 z2 s2 d2
  obtain ⟨a5, s5, g5, z5, d5, q5, H5⟩ : ∃ a5 : Act, a5.tmps.size = S ∧ a5.tmps.getD (t + 3) undef = .bool b ∧ a5.tmps.getD 0 undef = .int .i64 c ∧ a5.defers = [] ∧ (b = true → a5.tmps.getD (t + 5) undef = .bool q) ∧
      ∀ (ops : Array Oper) (Q' : Exit → Act → World → Prop) (l' : List Oper), (ops[2]?).bind (·.dst) = some (t + 3) → wpList P ops Q' l' a5 w →
        wpList P ops Q' ({ dst := some (t + 4), op := .move (.tmp 0), type := ty, pos := p4, after := f4, guard := some (2, true) } :: { dst := some (t + 5), op := .binOp .leq ty' (.tmp (t + 4)) (.const (.int .i64 hi)) ty', type := ty2, pos := p5, after := f5, guard := some (2, true) } :: l') a3 w := by
    cases b with
    | true =>
      obtain ⟨a4, e4⟩ : ∃ a4, a4 = a3.put (some (t + 4)) (.int .i64 c) := ⟨_, rfl⟩
      have s4 : a4.tmps.size = S := by rw [e4, put_size]; exact s3
      have k4 : a4.tmps.getD (t + 4) undef = .int .i64 c := by rw [e4, put_getD _ _ _ _ (by omega)]; simp
      have g4 : a4.tmps.getD (t + 3) undef = .bool true := by rw [e4, put_getD _ _ _ _ (by omega), if_neg (by omega)]; exact g3
      have z4 : a4.tmps.getD 0 undef = .int .i64 c := by rw [e4, put_getD _ _ _ _ (by omega), if_neg (by omega)]; exact z3
      have d4 : a4.defers = [] := by rw [e4]; exact d3
      refine ⟨a4.put (some (t + 5)) (.bool q), by rw [put_size]; exact s4, by rw [put_getD _ _ _ _ (by omega), if_neg (by omega)]; exact g4, by rw [put_getD _ _ _ _ (by omega), if_neg (by omega)]; exact z4, d4, fun _ => by rw [put_getD _ _ _ _ (by omega)]; simp, fun ops Q' l' hd2 h => ?_⟩
      refine wpList_step fun K hK => ?_
      rw [if_pos (by simp [Region.wanted, yields hd2 (by omega) g3])]
      unfold Oper.wp
      have hx : (execOp a3.eval { dst := some (t + 4), op := .move (.tmp 0), type := ty, pos := p4, after := f4, guard := some (2, true) }).run P w = .ok (.value (.int .i64 c)) w := by simp [execOp, Act.eval, z3]
      rw [hx]
      refine hK _ _ ?_
      show wpList _ _ _ _ (a3.put (some (t + 4)) (.int .i64 c)) _
      rw [← e4]
      refine wpList_step fun K hK => ?_
      rw [if_pos (by simp [Region.wanted, yields hd2 (by omega) g4])]
      unfold Oper.wp
      have hx : (execOp a4.eval { dst := some (t + 5), op := .binOp .leq ty' (.tmp (t + 4)) (.const (.int .i64 hi)) ty', type := ty2, pos := p5, after := f5, guard := some (2, true) }).run P w = .ok (.value (.bool q)) w := by simp [execOp, Act.eval, k4, eqGuard, go_sem, hq]
      rw [hx]
      exact hK _ _ h
    | false =>
      obtain ⟨a4, e4⟩ : ∃ a4, a4 = a3.put (some (t + 4)) undef := ⟨_, rfl⟩
      have s4 : a4.tmps.size = S := by rw [e4, put_size]; exact s3
      have g4 : a4.tmps.getD (t + 3) undef = .bool false := by rw [e4, put_getD _ _ _ _ (by omega), if_neg (by omega)]; exact g3
      have z4 : a4.tmps.getD 0 undef = .int .i64 c := by rw [e4, put_getD _ _ _ _ (by omega), if_neg (by omega)]; exact z3
      have d4 : a4.defers = [] := by rw [e4]; exact d3
      refine ⟨a4.put (some (t + 5)) undef, by rw [put_size]; exact s4, by rw [put_getD _ _ _ _ (by omega), if_neg (by omega)]; exact g4, by rw [put_getD _ _ _ _ (by omega), if_neg (by omega)]; exact z4, d4, fun h => (by cases h), fun ops Q' l' hd2 h => ?_⟩
      refine wpList_step fun K hK => ?_
      rw [if_neg (by simp [Region.wanted, yields hd2 (by omega) g3])]
      refine hK _ _ ?_
      show wpList _ _ _ _ (a3.put (some (t + 4)) undef) _
      rw [← e4]
      refine wpList_step fun K hK => ?_
      rw [if_neg (by simp [Region.wanted, yields hd2 (by omega) g4])]
      exact hK _ _ h
  refine H5 _ _ _ rfl ?_
  refine Kd.event_run (w1 := w) (v := .bool (b && q)) rfl ?_ ?_
  · cases b with
    | true => simp [execOp, Act.eval, g5, q5 rfl, asBool]
    | false => simp [execOp, Act.eval, g5, asBool]
  obtain ⟨a6, e6⟩ : ∃ a6, a6 = a5.put (some (t + 6)) (.bool (b && q)) := ⟨_, rfl⟩
  have s6 : a6.tmps.size = S := by rw [e6, put_size]; exact s5
  have g6 : a6.tmps.getD (t + 6) undef = .bool (b && q) := by rw [e6, put_getD _ _ _ _ (by omega)]; simp
  have z6 : a6.tmps.getD 0 undef = .int .i64 c := by rw [e6, put_getD _ _ _ _ (by omega), if_neg (by omega)]; exact z5
  have d6 : a6.defers = [] := by rw [e6]; exact d5
  show wpList _ _ _ _ (a5.put (some (t + 6)) (.bool (b && q))) _
  rw [← e6]
  refine Kd.event_run (w1 := w) (v := .bool (b && q)) rfl (by simp [execOp, Act.eval, g6]) (wpList_nil ?_)
  obtain ⟨a7, e7⟩ : ∃ a7, a7 = a6.put (some t) (.bool (b && q)) := ⟨_, rfl⟩
  have s7 : a7.tmps.size = S := by rw [e7, put_size]; exact s6
  have g7 : a7.tmps.getD t undef = .bool (b && q) := by rw [e7, put_getD _ _ _ _ (by omega)]; simp
  have z7 : a7.tmps.getD 0 undef = .int .i64 c := by rw [e7, put_getD _ _ _ _ (by omega), if_neg (by omega)]; exact z6
  have d7 : a7.defers = [] := by rw [e7]; exact d6
  show (Code.cond _ _ _).wp P Q (a6.put (some t) (.bool (b && q))) w
  rw [← e7]
  refine wp_cond_split (t := (b && q)) g7 (fun hb1 => ?_) (fun hb0 => ?_)
  · have hc : lo ≤ c ∧ c ≤ hi := by
      rw [Bool.and_eq_true, hb, hq, decide_eq_true_eq, decide_eq_true_eq] at hb1
      exact hb1
    have hx : x = r := by rw [← hr]; simp [swFrom, hc]
    rw [hx]
    exact sw_ret hQ a7 s7 (by omega) d7
  · have hc : ¬ (lo ≤ c ∧ c ≤ hi) := by
      rw [hb, hq, ← Bool.decide_and, decide_eq_false_iff_not] at hb0
      exact hb0
    refine hrest ?_ a7 z7 s7 d7
    rw [← hr]
    simp only [swFrom]
    rw [if_neg hc]
theorem SwOk.last {S : Nat} (hk : ∀ a : Act, r = 0 → a.tmps.getD 0 undef = .int .i64 c → a.tmps.size = S → a.defers = [] → Q .normal a w) : SwOk P Q w c r S [] Code.skip :=
  fun hr a h0 hs hd => wp_skip (hk a hr.symm h0 hs hd)
end

set_option maxRecDepth 100000 in
theorem ductusref02_Of.calls (a0 : Int) (r : Int) (w : World) (h : ductusref02_Of.f a0 = some r) :
    Calls Try.prog 56 #[.int .i64 a0] w fun e w' => e = .returned (.int .i64 r) ∧ Drawn0 w w' := by
  have hr := Option.some.inj h
  clear h
  go_enter Try.func56, Try.ntmps56
  refine wp_seq (wp_region_list ?_)
  refine Kd.event_run (w1 := w) (v := .int .i64 0) rfl rfl (wpList_nil ?_)
  refine wp_seq (wp_block ?_)
  refine (?_ : ∀ Q, SwQ Q w r 453 → (∀ a : Act, r = 0 → a.tmps.getD 0 undef = .int .i64 a0 → a.tmps.size = 453 → a.defers = [] → Q .normal a w) → SwOk Try.prog Q w a0 r 453 ductusref02_Of.tbl _) _ ?_ ?_ hr _ rfl rfl rfl
  · intro Q hQ hn
    unfold ductusref02_Of.tbl
    refine SwOk.rng hQ (by omega) (by omega) ?_
    refine SwOk.eqc hQ (by omega) (by omega) ?_
    refine SwOk.eqc hQ (by omega) (by omega) ?_
    refine SwOk.eqc hQ (by omega) (by omega) ?_
    refine SwOk.eqc hQ (by omega) (by omega) ?_
    refine SwOk.eqc hQ (by omega) (by omega) ?_
    refine SwOk.rng hQ (by omega) (by omega) ?_
    refine SwOk.rng hQ (by omega) (by omega) ?_
    refine SwOk.eqc hQ (by omega) (by omega) ?_
    refine SwOk.eqc hQ (by omega) (by omega) ?_
    refine SwOk.rng hQ (by omega) (by omega) ?_
    refine SwOk.rng hQ (by omega) (by omega) ?_
    refine SwOk.rng hQ (by omega) (by omega) ?_
    refine SwOk.eqc hQ (by omega) (by omega) ?_
    refine SwOk.eqc hQ (by omega) (by omega) ?_
    refine SwOk.eqc hQ (by omega) (by omega) ?_
    refine SwOk.rng hQ (by omega) (by omega) ?_
    refine SwOk.rng hQ (by omega) (by omega) ?_
    refine SwOk.eqc hQ (by omega) (by omega) ?_
    refine SwOk.rng hQ (by omega) (by omega) ?_
    refine SwOk.rng hQ (by omega) (by omega) ?_
    refine SwOk.rng hQ (by omega) (by omega) ?_
    refine SwOk.rng hQ (by omega) (by omega) ?_
    refine SwOk.eqc hQ (by omega) (by omega) ?_
    refine SwOk.rng hQ (by omega) (by omega) ?_
    refine SwOk.eqc hQ (by omega) (by omega) ?_
    refine SwOk.eqc hQ (by omega) (by omega) ?_
    refine SwOk.rng hQ (by omega) (by omega) ?_
    refine SwOk.rng hQ (by omega) (by omega) ?_
    refine SwOk.rng hQ (by omega) (by omega) ?_
    refine SwOk.eqc hQ (by omega) (by omega) ?_
    refine SwOk.rng hQ (by omega) (by omega) ?_
    refine SwOk.rng hQ (by omega) (by omega) ?_
    refine SwOk.rng hQ (by omega) (by omega) ?_
    refine SwOk.eqc hQ (by omega) (by omega) ?_
    refine SwOk.rng hQ (by omega) (by omega) ?_
    refine SwOk.eqc hQ (by omega) (by omega) ?_
    refine SwOk.rng hQ (by omega) (by omega) ?_
    refine SwOk.eqc hQ (by omega) (by omega) ?_
    refine SwOk.eqc hQ (by omega) (by omega) ?_
    refine SwOk.rng hQ (by omega) (by omega) ?_
    refine SwOk.rng hQ (by omega) (by omega) ?_
    refine SwOk.eqc hQ (by omega) (by omega) ?_
    refine SwOk.eqc hQ (by omega) (by omega) ?_
    refine SwOk.eqc hQ (by omega) (by omega) ?_
    refine SwOk.rng hQ (by omega) (by omega) ?_
    refine SwOk.rng hQ (by omega) (by omega) ?_
    refine SwOk.rng hQ (by omega) (by omega) ?_
    refine SwOk.rng hQ (by omega) (by omega) ?_
    refine SwOk.eqc hQ (by omega) (by omega) ?_
    refine SwOk.rng hQ (by omega) (by omega) ?_
    refine SwOk.eqc hQ (by omega) (by omega) ?_
    refine SwOk.eqc hQ (by omega) (by omega) ?_
    refine SwOk.eqc hQ (by omega) (by omega) ?_
    refine SwOk.rng hQ (by omega) (by omega) ?_
    refine SwOk.rng hQ (by omega) (by omega) ?_
    refine SwOk.rng hQ (by omega) (by omega) ?_
    refine SwOk.rng hQ (by omega) (by omega) ?_
    refine SwOk.eqc hQ (by omega) (by omega) ?_
    refine SwOk.rng hQ (by omega) (by omega) ?_
    refine SwOk.rng hQ (by omega) (by omega) ?_
    refine SwOk.eqc hQ (by omega) (by omega) ?_
    refine SwOk.rng hQ (by omega) (by omega) ?_
    refine SwOk.rng hQ (by omega) (by omega) ?_
    refine SwOk.eqc hQ (by omega) (by omega) ?_
    refine SwOk.rng hQ (by omega) (by omega) ?_
    refine SwOk.eqc hQ (by omega) (by omega) ?_
    refine SwOk.eqc hQ (by omega) (by omega) ?_
    refine SwOk.eqc hQ (by omega) (by omega) ?_
    refine SwOk.eqc hQ (by omega) (by omega) ?_
    refine SwOk.eqc hQ (by omega) (by omega) ?_
    refine SwOk.eqc hQ (by omega) (by omega) ?_
    refine SwOk.eqc hQ (by omega) (by omega) ?_
    refine SwOk.eqc hQ (by omega) (by omega) ?_
    refine SwOk.rng hQ (by omega) (by omega) ?_
    refine SwOk.rng hQ (by omega) (by omega) ?_
    refine SwOk.eqc hQ (by omega) (by omega) ?_
    refine SwOk.eqc hQ (by omega) (by omega) ?_
    refine SwOk.eqc hQ (by omega) (by omega) ?_
    refine SwOk.eqc hQ (by omega) (by omega) ?_
    refine SwOk.eqc hQ (by omega) (by omega) ?_
    refine SwOk.rng hQ (by omega) (by omega) ?_
    refine SwOk.rng hQ (by omega) (by omega) ?_
    refine SwOk.rng hQ (by omega) (by omega) ?_
    refine SwOk.eqc hQ (by omega) (by omega) ?_
    refine SwOk.eqc hQ (by omega) (by omega) ?_
    refine SwOk.rng hQ (by omega) (by omega) ?_
    refine SwOk.rng hQ (by omega) (by omega) ?_
    refine SwOk.eqc hQ (by omega) (by omega) ?_
    refine SwOk.rng hQ (by omega) (by omega) ?_
    exact SwOk.last hn
  · intro a h2 hs hd
    show bodyPost Try.prog Try.f56 (fun e w' => e = .returned (.int .i64 r) ∧ Drawn0 w w') Exit.ret a w
    exact bodyPost_ret (v := .int .i64 r) ((results_tmp rfl _ _ _).trans (by rw [h2])) hd ⟨rfl, Drawn0.refl w⟩
  · intro a h0 h1 hs hd
    subst h0
    refine sw_ret (S := 453) (fun a h2 hs hd => ?_) a hs (by omega) hd
    show bodyPost _ _ _ Exit.ret a w
    exact bodyPost_ret (v := .int .i64 0) ((results_tmp rfl _ _ _).trans (by rw [h2])) hd ⟨rfl, Drawn0.refl w⟩
end Go.Proofs.Ythgmkbghdobmlaa.P
namespace Go.Proofs.Ythgmkbghdobmlaa.P
open Go.RowKit Go.Proofs.YthgmkbghdobmlaaW.PrintWords Go.Proofs.YthgmkbghdobmlaaW.PrintLast Go.Proofs.YthgmkbghdobmlaaW.PrintMore
attribute [local go_sem] max2_int min2_int max_two min_two max_three min_three max_four min_four   -- for this text's walks alone
set_option linter.unusedVariables false
set_option linter.unusedSimpArgs false

def ductusref01_Right.f (a0 : Int) : Option (Bool) := if a0 ≥ 0 then (if a0 ≤ 1114111 then (if a0 < 55296 then (some true) else (some (decide (a0 > 57343)))) else (some false)) else (some false)
set_option maxHeartbeats 8000000 in
set_option maxRecDepth 100000 in
theorem ductusref01_Right.calls (a0 : Int) (r : Bool) (w : World) (h : ductusref01_Right.f a0 = some r) :
    Calls Try.prog 21 #[.int .i64 a0] w fun e w' => e = .returned (.bool r) ∧ Drawn0 w w' := by
  have H : (if a0 ≥ 0 then (if a0 ≤ 1114111 then (if a0 < 55296 then (some true) else (some (decide (a0 > 57343)))) else (some false)) else (some false)) = some r := h
  clear h
  by_cases c2 : a0 ≥ 0
  rotate_left
  · rw [if_neg c2] at H
    have c2b0 : decide (0 ≤ a0) = false := decide_eq_false c2
    clear c2
    obtain rfl := Option.some.inj H
    go_enter Try.func21, Try.ntmps21
    go_wp2
    go_ret
    exact ⟨by first | rfl | (simp; done) | (simp [*]; done), by repeat (first | exact Drawn0.refl _ | apply Drawn0.step)⟩
  rw [if_pos c2] at H
  have c2b0 : decide (0 ≤ a0) = true := decide_eq_true c2
  clear c2
  by_cases c3 : a0 ≤ 1114111
  rotate_left
  · rw [if_neg c3] at H
    have c3b0 : decide (a0 ≤ 1114111) = false := decide_eq_false c3
    clear c3
    obtain rfl := Option.some.inj H
    go_enter Try.func21, Try.ntmps21
    go_wp2
    go_ret
    exact ⟨by first | rfl | (simp; done) | (simp [*]; done), by repeat (first | exact Drawn0.refl _ | apply Drawn0.step)⟩
  rw [if_pos c3] at H
  have c3b0 : decide (a0 ≤ 1114111) = true := decide_eq_true c3
  clear c3
  by_cases c4 : a0 < 55296
  · rw [if_pos c4] at H
    have c4b0 : decide (a0 < 55296) = true := decide_eq_true c4
    clear c4
    obtain rfl := Option.some.inj H
    go_enter Try.func21, Try.ntmps21
    go_wp2
    go_ret
    exact ⟨by first | rfl | (simp; done) | (simp [*]; done), by repeat (first | exact Drawn0.refl _ | apply Drawn0.step)⟩
  rw [if_neg c4] at H
  have c4b0 : decide (a0 < 55296) = false := decide_eq_false c4
  clear c4
  obtain rfl := Option.some.inj H
  go_enter Try.func21, Try.ntmps21
  go_wp2
  go_ret
  exact ⟨by first | rfl | (simp; done) | (simp [*]; done), by repeat (first | exact Drawn0.refl _ | apply Drawn0.step)⟩

end Go.Proofs.Ythgmkbghdobmlaa.P
namespace Go.Proofs.Ythgmkbghdobmlaa.P
open Go.RowKit Go.Proofs.YthgmkbghdobmlaaW.PrintWords Go.Proofs.YthgmkbghdobmlaaW.PrintLast Go.Proofs.YthgmkbghdobmlaaW.PrintMore
attribute [local go_sem] max2_int min2_int max_two min_two max_three min_three max_four min_four   -- for this text's walks alone
set_option linter.unusedVariables false
set_option linter.unusedSimpArgs false

mutual
def ductusref26_role.j0 : Nat → Int → Bool → Option (Int)
  | 0, _, _ => none
  | k + 1, x4, x5 => if x5 = true then (some 1) else (if x4 = 19 then (ductusref26_role.j1 k x4 (x4 == 19)) else (if x4 = 20 then (ductusref26_role.j1 k x4 (x4 == 20)) else (ductusref26_role.j1 k x4 (x4 == 21))))
def ductusref26_role.j1 : Nat → Int → Bool → Option (Int)
  | 0, _, _ => none
  | k + 1, x4, x10 => if x10 = true then (some 2) else (if x4 = 18 then (some (-1)) else (if x4 = 22 then (some (-2)) else (if x4 = 10 then (some 3) else (some 0))))
end
def ductusref26_role.f (k : Nat) (a0 : Int) : Option (Int) := (ductusref02_Of.f a0).bind fun t426 => (if t426 = 14 then (ductusref26_role.j0 k t426 (t426 == 14)) else (if t426 = 16 then (ductusref26_role.j0 k t426 (t426 == 16)) else (if t426 = 15 then (ductusref26_role.j0 k t426 (t426 == 15)) else (ductusref26_role.j0 k t426 (t426 == 17)))))
set_option maxHeartbeats 8000000 in
set_option maxRecDepth 100000 in
theorem ductusref26_role.calls (k : Nat) (a0 : Int) (r : Int) (w : World) (h : ductusref26_role.f k a0 = some r) :
    Calls Try.prog 34 #[.int .i64 a0] w fun e w' => e = .returned (.int .i64 r) ∧ Drawn0 w w' := by
  have H : ((ductusref02_Of.f a0).bind fun t426 => (if t426 = 14 then (ductusref26_role.j0 k t426 (t426 == 14)) else (if t426 = 16 then (ductusref26_role.j0 k t426 (t426 == 16)) else (if t426 = 15 then (ductusref26_role.j0 k t426 (t426 == 15)) else (ductusref26_role.j0 k t426 (t426 == 17)))))) = some r := h
  clear h
  replace H := Option.bind_eq_some_iff.mp H
  obtain ⟨t426, A20, H⟩ := H
  replace H : (if t426 = 14 then (ductusref26_role.j0 k t426 (t426 == 14)) else (if t426 = 16 then (ductusref26_role.j0 k t426 (t426 == 16)) else (if t426 = 15 then (ductusref26_role.j0 k t426 (t426 == 15)) else (ductusref26_role.j0 k t426 (t426 == 17))))) = some r := H
  have A2 := Aside0.mk A20
  clear A20
  have HC3 := Aside0.mk H
  clear H
  go_enter Try.func34, Try.ntmps34
  go_upto_if 5 with (first | ((with_reducible refine gate_callee (f := 56) rfl ?_); refine goesL_ (some 4) rfl rfl Try.func56 (by kernel_rfl) rfl #[.int .i64 a0] rfl (by (try simp only [List.map_toArray, List.map_cons, List.map_nil]); first | done | rfl | (simp only [List.length_drop, List.length_take]; rfl)) ?_; (with_reducible refine (ductusref02_Of.calls a0 t426 _ A2.out).mono ?_); rintro e w' ⟨rfl, ⟨nd, rfl⟩⟩; refine ⟨_, rfl, ?_⟩))
  (try simp only [Act.put, List.setIfInBounds_toArray, List.set_cons_zero, List.set_cons_succ])
  go_cut [5] (fun v5 wc => ∃ (kq : Nat) (x5_2 : Bool), v5 = .bool x5_2 ∧ Aside0 (ductusref26_role.j0 kq t426 x5_2 = some r) ∧ Aside0 (kq ≤ k) ∧ Drawn0 w wc)
  case first =>
    have H := HC3.out
    clear HC3
    by_cases c4 : t426 = 14
    · rw [if_pos c4] at H
      have c4b0 : (t426 == 14) = true := beq_iff_eq.mpr c4
      have c4b1 : (t426 != 14) = false := bne_eq_false_iff_eq.mpr c4
      clear c4
      (first | rw [c4b0] | (simp only [i64_w, i32_w]; rw [c4b0]) | skip)
      have H' := Aside0.mk H
      clear H
      go_wp2
      go_meet
      case rel => exact ⟨_, ((t426 == 14)), (by first | rfl | (simp; done) | (simp [*]; done)), H', ⟨by first | omega | exact Nat.le_refl _⟩, by repeat (first | exact Drawn0.refl _ | apply Drawn0.step)⟩
    rw [if_neg c4] at H
    have c4b0 : (t426 == 14) = false := beq_eq_false_iff_ne.mpr c4
    have c4b1 : (t426 != 14) = true := bne_iff_ne.mpr c4
    (first | rw [c4b0] | (simp only [i64_w, i32_w]; rw [c4b0]) | skip)
    by_cases c5 : t426 = 16
    · rw [if_pos c5] at H
      have c5b0 : (t426 == 16) = true := beq_iff_eq.mpr c5
      have c5b1 : (t426 != 16) = false := bne_eq_false_iff_eq.mpr c5
      clear c5
      have H' := Aside0.mk H
      clear H
      go_wp2
      go_meet
      case rel => exact ⟨_, ((t426 == 16)), (by first | rfl | (simp; done) | (simp [*]; done)), H', ⟨by first | omega | exact Nat.le_refl _⟩, by repeat (first | exact Drawn0.refl _ | apply Drawn0.step)⟩
    rw [if_neg c5] at H
    have c5b0 : (t426 == 16) = false := beq_eq_false_iff_ne.mpr c5
    have c5b1 : (t426 != 16) = true := bne_iff_ne.mpr c5
    by_cases c6 : t426 = 15
    rotate_left
    · rw [if_neg c6] at H
      have c6b0 : (t426 == 15) = false := beq_eq_false_iff_ne.mpr c6
      have c6b1 : (t426 != 15) = true := bne_iff_ne.mpr c6
      have H' := Aside0.mk H
      clear H
      go_wp2
      go_meet
      case rel => exact ⟨_, ((t426 == 17)), (by first | rfl | (simp; done) | (simp [*]; done)), H', ⟨by first | omega | exact Nat.le_refl _⟩, by repeat (first | exact Drawn0.refl _ | apply Drawn0.step)⟩
    rw [if_pos c6] at H
    have c6b0 : (t426 == 15) = true := beq_iff_eq.mpr c6
    have c6b1 : (t426 != 15) = false := bne_eq_false_iff_eq.mpr c6
    clear c6
    have H' := Aside0.mk H
    clear H
    go_wp2
    go_meet
    case rel => exact ⟨_, ((t426 == 15)), (by first | rfl | (simp; done) | (simp [*]; done)), H', ⟨by first | omega | exact Nat.le_refl _⟩, by repeat (first | exact Drawn0.refl _ | apply Drawn0.step)⟩
  case rest =>
    clear HC3
    try clear p2
    try clear c3
    try clear c4
    try clear c4b0
    try clear c4b1
    try clear c5
    try clear c5b0
    try clear c5b1
    try clear c6
    try clear c6b0
    try clear c6b1
    obtain ⟨kq, x5_2, rfl, HA, HJ2, ⟨mc2, rfl⟩⟩ := hcut
    cases kq with
    | zero => exact absurd HA.out (by simp [ductusref26_role.j0])
    | succ kj2 =>
      have H := HA.out
      clear HA
      simp only [ductusref26_role.j0] at H
      by_cases c7 : x5_2 = true
      · subst c7
        have H1 : (some 1) = some r := by rw [if_pos rfl] at H; exact H
        clear H
        have H := H1
        clear H1
        obtain rfl := Option.some.inj H
        go_wp2
        go_ret
        exact ⟨by first | rfl | (simp; done) | (simp [*]; done), by repeat (first | exact Drawn0.refl _ | apply Drawn0.step)⟩
      replace c7 := Bool.eq_false_iff.mpr c7
      subst c7
      have H1 : (if t426 = 19 then (ductusref26_role.j1 kj2 t426 (t426 == 19)) else (if t426 = 20 then (ductusref26_role.j1 kj2 t426 (t426 == 20)) else (ductusref26_role.j1 kj2 t426 (t426 == 21)))) = some r := by rw [if_neg (show ¬ (false = true) by decide)] at H; exact H
      clear H
      have H := H1
      clear H1
      have HC8 := Aside0.mk H
      clear H
      go_upto_if 10 with (fail)
      go_cut [10] (fun v10 wc => ∃ (kq : Nat) (x10_7 : Bool), v10 = .bool x10_7 ∧ Aside0 (ductusref26_role.j1 kq t426 x10_7 = some r) ∧ Aside0 (kq ≤ kj2) ∧ Drawn0 w wc)
      case first =>
        have H := HC8.out
        clear HC8
        by_cases c9 : t426 = 19
        · rw [if_pos c9] at H
          have c9b0 : (t426 == 19) = true := beq_iff_eq.mpr c9
          have c9b1 : (t426 != 19) = false := bne_eq_false_iff_eq.mpr c9
          clear c9
          (first | rw [c9b0] | (simp only [i64_w, i32_w]; rw [c9b0]) | skip)
          have H' := Aside0.mk H
          clear H
          go_wp2
          go_meet
          case rel => exact ⟨_, ((t426 == 19)), (by first | rfl | (simp; done) | (simp [*]; done)), H', ⟨by have := HJ2.out; first | omega | exact Nat.le_refl _⟩, by repeat (first | exact Drawn0.refl _ | apply Drawn0.step)⟩
        rw [if_neg c9] at H
        have c9b0 : (t426 == 19) = false := beq_eq_false_iff_ne.mpr c9
        have c9b1 : (t426 != 19) = true := bne_iff_ne.mpr c9
        (first | rw [c9b0] | (simp only [i64_w, i32_w]; rw [c9b0]) | skip)
        by_cases c10 : t426 = 20
        rotate_left
        · rw [if_neg c10] at H
          have c10b0 : (t426 == 20) = false := beq_eq_false_iff_ne.mpr c10
          have c10b1 : (t426 != 20) = true := bne_iff_ne.mpr c10
          have H' := Aside0.mk H
          clear H
          go_wp2
          go_meet
          case rel => exact ⟨_, ((t426 == 21)), (by first | rfl | (simp; done) | (simp [*]; done)), H', ⟨by have := HJ2.out; first | omega | exact Nat.le_refl _⟩, by repeat (first | exact Drawn0.refl _ | apply Drawn0.step)⟩
        rw [if_pos c10] at H
        have c10b0 : (t426 == 20) = true := beq_iff_eq.mpr c10
        have c10b1 : (t426 != 20) = false := bne_eq_false_iff_eq.mpr c10
        clear c10
        have H' := Aside0.mk H
        clear H
        go_wp2
        go_meet
        case rel => exact ⟨_, ((t426 == 20)), (by first | rfl | (simp; done) | (simp [*]; done)), H', ⟨by have := HJ2.out; first | omega | exact Nat.le_refl _⟩, by repeat (first | exact Drawn0.refl _ | apply Drawn0.step)⟩
      case rest =>
        clear HC8
        try clear c1
        try clear c2
        try clear p2
        try clear c3
        try clear c4
        try clear c4b0
        try clear c4b1
        try clear c5
        try clear c5b0
        try clear c5b1
        try clear c6
        try clear c6b0
        try clear c6b1
        try clear c7
        try clear c9
        try clear c9b0
        try clear c9b1
        try clear c10
        try clear c10b0
        try clear c10b1
        try clear p2
        obtain ⟨kq, x10_7, rfl, HA, HJ7, ⟨mc7, rfl⟩⟩ := hcut
        cases kq with
        | zero => exact absurd HA.out (by simp [ductusref26_role.j1])
        | succ kj7 =>
          have H := HA.out
          clear HA
          simp only [ductusref26_role.j1] at H
          by_cases c11 : x10_7 = true
          · subst c11
            have H1 : (some 2) = some r := by rw [if_pos rfl] at H; exact H
            clear H
            have H := H1
            clear H1
            obtain rfl := Option.some.inj H
            go_wp2
            go_ret
            exact ⟨by first | rfl | (simp; done) | (simp [*]; done), by repeat (first | exact Drawn0.refl _ | apply Drawn0.step)⟩
          replace c11 := Bool.eq_false_iff.mpr c11
          subst c11
          have H1 : (if t426 = 18 then (some (-1)) else (if t426 = 22 then (some (-2)) else (if t426 = 10 then (some 3) else (some 0)))) = some r := by rw [if_neg (show ¬ (false = true) by decide)] at H; exact H
          clear H
          have H := H1
          clear H1
          by_cases c12 : t426 = 18
          · rw [if_pos c12] at H
            have c12b0 : (t426 == 18) = true := beq_iff_eq.mpr c12
            have c12b1 : (t426 != 18) = false := bne_eq_false_iff_eq.mpr c12
            clear c12
            obtain rfl := Option.some.inj H
            go_wp2
            go_ret
            exact ⟨by first | rfl | (simp; done) | (simp [*]; done), by repeat (first | exact Drawn0.refl _ | apply Drawn0.step)⟩
          rw [if_neg c12] at H
          have c12b0 : (t426 == 18) = false := beq_eq_false_iff_ne.mpr c12
          have c12b1 : (t426 != 18) = true := bne_iff_ne.mpr c12
          by_cases c13 : t426 = 22
          · rw [if_pos c13] at H
            have c13b0 : (t426 == 22) = true := beq_iff_eq.mpr c13
            have c13b1 : (t426 != 22) = false := bne_eq_false_iff_eq.mpr c13
            clear c13
            obtain rfl := Option.some.inj H
            go_wp2
            go_ret
            exact ⟨by first | rfl | (simp; done) | (simp [*]; done), by repeat (first | exact Drawn0.refl _ | apply Drawn0.step)⟩
          rw [if_neg c13] at H
          have c13b0 : (t426 == 22) = false := beq_eq_false_iff_ne.mpr c13
          have c13b1 : (t426 != 22) = true := bne_iff_ne.mpr c13
          by_cases c14 : t426 = 10
          rotate_left
          · rw [if_neg c14] at H
            have c14b0 : (t426 == 10) = false := beq_eq_false_iff_ne.mpr c14
            have c14b1 : (t426 != 10) = true := bne_iff_ne.mpr c14
            obtain rfl := Option.some.inj H
            go_wp2
            go_ret
            exact ⟨by first | rfl | (simp; done) | (simp [*]; done), by repeat (first | exact Drawn0.refl _ | apply Drawn0.step)⟩
          rw [if_pos c14] at H
          have c14b0 : (t426 == 10) = true := beq_iff_eq.mpr c14
          have c14b1 : (t426 != 10) = false := bne_eq_false_iff_eq.mpr c14
          clear c14
          obtain rfl := Option.some.inj H
          go_wp2
          go_ret
          exact ⟨by first | rfl | (simp; done) | (simp [*]; done), by repeat (first | exact Drawn0.refl _ | apply Drawn0.step)⟩

def ductusref26_Controls.l0 : Nat → List Int → List Int → Int → Option (List Int)
  | 0, _, _, _ => none
  | k + 1, x0, x3, x4 => if x4 < (x0.length : Int) then (if 0 ≤ x4 then ((ductusref26_role.f k (rd x0 x4)).bind fun t428 => (if t428 = 0 then (ductusref26_Controls.l0 k x0 x3 (wrap64 (x4 + 1))) else ((ductusref26_role.f k (rd x0 x4)).bind fun t430 => (if t430 = 3 then (ductusref26_Controls.l0 k x0 x3 (wrap64 (x4 + 1))) else (if x3.length < 17592186044416 then (ductusref26_Controls.l0 k x0 (x3 ++ [rd x0 x4]) (wrap64 (x4 + 1))) else (none)))))) else (none)) else (some x3)
def ductusref26_Controls.f (k : Nat) (l0 : List Int) : Option (List Int) := ductusref26_Controls.l0 k l0 ([] : List Int) 0
set_option maxHeartbeats 8000000 in
set_option maxRecDepth 100000 in
theorem ductusref26_Controls.calls (k : Nat) (A0 : Option Addr) (c0 : Nat) (l0 : List Int) (r : List Int) (w : World) (hr0 : Kd.C (Kd.int .i64) w A0 l0.length l0) (hc0 : l0.length ≤ c0) (h : ductusref26_Controls.f k l0 = some r) :
    Calls Try.prog 20 #[.slice A0 l0.length c0] w fun e w' => ∃ v0_ : Value, e = .returned (v0_) ∧ Kd.R (Kd.int .i64) 3 w' w.heap.size (fun _ => True) v0_ r ∧ Below w.heap.size w w' := by
  have HR0 := Aside0.mk hr0
  have HC0 := Aside0.mk hc0
  clear hr0 hc0
  have HB := Aside0.mk (Below.refl w.heap.size w)
  have H : (ductusref26_Controls.l0 k l0 ([] : List Int) 0) = some r := h
  clear h
  have H' := Aside0.mk H
  clear H
  go_enter Try.func20, Try.ntmps20
  go_wp2
  go_loopg [3, 4] k (fun kq v3 v4 w' => ∃ (x3_1 : List Int) (x4_1 : Int), v4 = .int .i64 x4_1 ∧ Aside0 (ductusref26_Controls.l0 kq l0 x3_1 x4_1 = some r) ∧ Aside0 (kq ≤ k) ∧ Aside0 (Kd.R (Kd.int .i64) 3 w' w.heap.size (fun _ => True) v3 x3_1) ∧ Aside0 (Below w.heap.size w w'))
  case atStart => exact ⟨(([] : List Int)), (0), (by first | rfl | (simp; done) | (simp [*]; done)), H', ⟨Nat.le_refl _⟩, ⟨by first | exact Kd.R_nil _ _ _ _ _ | exact Kd.N_nil _ _ _ _ _ | exact Kd.V_nil _ _ _ _ _ | exact Kd.Q_nil _ _ _ _ _ | exact Kd.S_nil _ _ _ _ _⟩, ⟨by repeat (first | (with_reducible first | exact HB.out | apply below_alloc | apply pw_below_drewN | apply below_drew1) | exact HB.out)⟩⟩
  case round =>
    clear H'
    obtain ⟨x3_1, x4_1, rfl, HA, HK1, HO_3, HB⟩ := hrel
    cases gk with
    | zero => exact absurd HA.out (by simp [ductusref26_Controls.l0])
    | succ k1 =>
      have H := HA.out
      clear HA
      simp only [ductusref26_Controls.l0] at H
      by_cases c2 : x4_1 < (l0.length : Int)
      rotate_left
      · rw [if_neg c2] at H
        have c2b0 : decide (x4_1 < (l0.length : Int)) = false := decide_eq_false c2
        clear c2
        obtain rfl := Option.some.inj H
        go_wp2
        go_ret
        exact ⟨_, by first | rfl | (simp [errW_none, errW_some] <;> rfl) | (simp [*, errW_none, errW_some] <;> rfl), by (with_reducible repeat (first | apply Kd.R_alloc | apply Kd.R_drewN | apply Kd.R_drew)); exact HO_3.out, by repeat (first | (with_reducible first | exact HB.out | apply below_alloc | apply pw_below_drewN | apply below_drew1) | exact HB.out)⟩
      rw [if_pos c2] at H
      have c2b0 : decide (x4_1 < (l0.length : Int)) = true := decide_eq_true c2
      clear c2
      by_cases c3 : 0 ≤ x4_1
      rotate_left
      · rw [if_neg c3] at H
        exact absurd H (by simp)
      rw [if_pos c3] at H
      have c3b0 : decide (0 ≤ x4_1) = true := decide_eq_true c3
      clear c3
      replace H := Option.bind_eq_some_iff.mp H
      obtain ⟨t428, A40, H⟩ := H
      replace H : (if t428 = 0 then (ductusref26_Controls.l0 k1 l0 x3_1 (wrap64 (x4_1 + 1))) else ((ductusref26_role.f k1 (rd l0 x4_1)).bind fun t430 => (if t430 = 3 then (ductusref26_Controls.l0 k1 l0 x3_1 (wrap64 (x4_1 + 1))) else (if x3_1.length < 17592186044416 then (ductusref26_Controls.l0 k1 l0 (x3_1 ++ [rd l0 x4_1]) (wrap64 (x4_1 + 1))) else (none))))) = some r := H
      have A4 := Aside0.mk A40
      clear A40
      by_cases c5 : t428 = 0
      · rw [if_pos c5] at H
        have c5b0 : (t428 == 0) = true := beq_iff_eq.mpr c5
        have c5b1 : (t428 != 0) = false := bne_eq_false_iff_eq.mpr c5
        clear c5
        have H' := Aside0.mk H
        clear H
        have p427 : 0 ≤ (x4_1 : Int) := of_decide_eq_true (by first | (with_reducible assumption) | assumption)
        have q427 : x4_1 < (l0.length : Int) := of_decide_eq_true (by first | (with_reducible assumption) | assumption)
        obtain ⟨ad427, e427, hx427_0⟩ := Kd.at_int HR0.out x4_1 p427 q427
        cases e427
        replace hx427_0 := (HB.out.cell (World.block_lt_of_cell? w _ hx427_0)).trans hx427_0
        replace p427 := eq_true p427
        replace q427 := eq_true q427
        go_wp2_with (first | ((with_reducible refine gate_callee (f := 34) rfl ?_); refine goesL_ (some 15) rfl rfl Try.func34 (by kernel_rfl) rfl #[.int .i64 (rd l0 x4_1)] rfl (by (try simp only [List.map_toArray, List.map_cons, List.map_nil]); first | done | rfl | (simp only [List.length_drop, List.length_take]; rfl)) ?_; (with_reducible refine (ductusref26_role.calls k1 (rd l0 x4_1) t428 _ A4.out).mono ?_); rintro e w' ⟨rfl, ⟨nd, rfl⟩⟩; refine ⟨_, rfl, ?_⟩))
        go_roundg k1
        case measure => have := HK1.out; omega
        case rel => exact ⟨(x3_1), (wrap64 (x4_1 + 1)), (by first | rfl | (simp; done) | (simp [*]; done)), H', ⟨by have := HK1.out; omega⟩, ⟨by (with_reducible repeat (first | apply Kd.R_alloc | apply Kd.R_drewN | apply Kd.R_drew)); exact HO_3.out⟩, ⟨by repeat (first | (with_reducible first | exact HB.out | apply below_alloc | apply pw_below_drewN | apply below_drew1) | exact HB.out)⟩⟩
      rw [if_neg c5] at H
      have c5b0 : (t428 == 0) = false := beq_eq_false_iff_ne.mpr c5
      have c5b1 : (t428 != 0) = true := bne_iff_ne.mpr c5
      replace H := Option.bind_eq_some_iff.mp H
      obtain ⟨t430, A60, H⟩ := H
      replace H : (if t430 = 3 then (ductusref26_Controls.l0 k1 l0 x3_1 (wrap64 (x4_1 + 1))) else (if x3_1.length < 17592186044416 then (ductusref26_Controls.l0 k1 l0 (x3_1 ++ [rd l0 x4_1]) (wrap64 (x4_1 + 1))) else (none))) = some r := H
      have A6 := Aside0.mk A60
      clear A60
      by_cases c7 : t430 = 3
      · rw [if_pos c7] at H
        have c7b0 : (t430 == 3) = true := beq_iff_eq.mpr c7
        have c7b1 : (t430 != 3) = false := bne_eq_false_iff_eq.mpr c7
        clear c7
        have H' := Aside0.mk H
        clear H
        have p427 : 0 ≤ (x4_1 : Int) := of_decide_eq_true (by first | (with_reducible assumption) | assumption)
        have q427 : x4_1 < (l0.length : Int) := of_decide_eq_true (by first | (with_reducible assumption) | assumption)
        obtain ⟨ad427, e427, hx427_0⟩ := Kd.at_int HR0.out x4_1 p427 q427
        cases e427
        replace hx427_0 := (HB.out.cell (World.block_lt_of_cell? w _ hx427_0)).trans hx427_0
        replace p427 := eq_true p427
        replace q427 := eq_true q427
        go_wp2_with (first | ((with_reducible refine gate_callee (f := 34) rfl ?_); refine goesL_ (some 15) rfl rfl Try.func34 (by kernel_rfl) rfl #[.int .i64 (rd l0 x4_1)] rfl (by (try simp only [List.map_toArray, List.map_cons, List.map_nil]); first | done | rfl | (simp only [List.length_drop, List.length_take]; rfl)) ?_; (fail_if_success (have _ := tk_128_0)); (with_reducible refine (ductusref26_role.calls k1 (rd l0 x4_1) t428 _ A4.out).mono ?_); rintro e w' ⟨rfl, ⟨nd, rfl⟩⟩; have tk_128_0 : True := trivial; refine ⟨_, rfl, ?_⟩; have p429 : 0 ≤ (x4_1 : Int) := of_decide_eq_true (by first | (with_reducible assumption) | assumption); have q429 : x4_1 < (l0.length : Int) := of_decide_eq_true (by first | (with_reducible assumption) | assumption); obtain ⟨ad429, e429, hx429_0⟩ := Kd.at_int HR0.out x4_1 p429 q429; obtain rfl : ad427 = ad429 := (by injection e429); replace hx429_0 := (HB.out.cell (World.block_lt_of_cell? w _ hx429_0)).trans hx429_0; replace p429 := eq_true p429; replace q429 := eq_true q429) | (go_at_call 34; (with_reducible refine (ductusref26_role.calls k1 (rd l0 x4_1) t430 _ A6.out).mono ?_); rintro e w' ⟨rfl, ⟨nd, rfl⟩⟩))
        go_roundg k1
        case measure => have := HK1.out; omega
        case rel => exact ⟨(x3_1), (wrap64 (x4_1 + 1)), (by first | rfl | (simp; done) | (simp [*]; done)), H', ⟨by have := HK1.out; omega⟩, ⟨by (with_reducible repeat (first | apply Kd.R_alloc | apply Kd.R_drewN | apply Kd.R_drew)); exact HO_3.out⟩, ⟨by repeat (first | (with_reducible first | exact HB.out | apply below_alloc | apply pw_below_drewN | apply below_drew1) | exact HB.out)⟩⟩
      rw [if_neg c7] at H
      have c7b0 : (t430 == 3) = false := beq_eq_false_iff_ne.mpr c7
      have c7b1 : (t430 != 3) = true := bne_iff_ne.mpr c7
      by_cases c8 : x3_1.length < 17592186044416
      rotate_left
      · rw [if_neg c8] at H
        exact absurd H (by simp)
      rw [if_pos c8] at H
      have LMc8 := Aside0.mk c8
      clear c8
      obtain ⟨y432, hy432⟩ : ∃ y_ : List Int, y_ = (x3_1 ++ [rd l0 x4_1]) := ⟨_, rfl⟩
      replace H : (ductusref26_Controls.l0 k1 l0 y432 (wrap64 (x4_1 + 1))) = some r := by first | (rw [hy432]; with_reducible exact H) | (have H2_ := (Option.bind_some _ _).symm.trans H; rw [hy432]; with_reducible exact H2_) | (have H2_ := (Option.bind_some _ _).symm.trans H; with_reducible exact H2_) | with_reducible exact H | (rw [hy432]; exact H) | exact H
      have Ny432 := Aside0.mk hy432
      clear hy432
      have H' := Aside0.mk H
      clear H
      have p427 : 0 ≤ (x4_1 : Int) := of_decide_eq_true (by first | (with_reducible assumption) | assumption)
      have q427 : x4_1 < (l0.length : Int) := of_decide_eq_true (by first | (with_reducible assumption) | assumption)
      obtain ⟨ad427, e427, hx427_0⟩ := Kd.at_int HR0.out x4_1 p427 q427
      cases e427
      replace hx427_0 := (HB.out.cell (World.block_lt_of_cell? w _ hx427_0)).trans hx427_0
      replace p427 := eq_true p427
      replace q427 := eq_true q427
      go_wp2_with (first | ((with_reducible refine gate_callee (f := 34) rfl ?_); refine goesL_ (some 15) rfl rfl Try.func34 (by kernel_rfl) rfl #[.int .i64 (rd l0 x4_1)] rfl (by (try simp only [List.map_toArray, List.map_cons, List.map_nil]); first | done | rfl | (simp only [List.length_drop, List.length_take]; rfl)) ?_; (fail_if_success (have _ := tk_155_0)); (with_reducible refine (ductusref26_role.calls k1 (rd l0 x4_1) t428 _ A4.out).mono ?_); rintro e w' ⟨rfl, ⟨nd, rfl⟩⟩; have tk_155_0 : True := trivial; refine ⟨_, rfl, ?_⟩; have p429 : 0 ≤ (x4_1 : Int) := of_decide_eq_true (by first | (with_reducible assumption) | assumption); have q429 : x4_1 < (l0.length : Int) := of_decide_eq_true (by first | (with_reducible assumption) | assumption); obtain ⟨ad429, e429, hx429_0⟩ := Kd.at_int HR0.out x4_1 p429 q429; obtain rfl : ad427 = ad429 := (by injection e429); replace hx429_0 := (HB.out.cell (World.block_lt_of_cell? w _ hx429_0)).trans hx429_0; replace p429 := eq_true p429; replace q429 := eq_true q429) | (go_at_call 34; (with_reducible refine (ductusref26_role.calls k1 (rd l0 x4_1) t430 _ A6.out).mono ?_); rintro e w' ⟨rfl, ⟨nd, rfl⟩⟩; have p431 : 0 ≤ (x4_1 : Int) := of_decide_eq_true (by first | (with_reducible assumption) | assumption); have q431 : x4_1 < (l0.length : Int) := of_decide_eq_true (by first | (with_reducible assumption) | assumption); obtain ⟨ad431, e431, hx431_0⟩ := Kd.at_int HR0.out x4_1 p431 q431; obtain rfl : ad427 = ad431 := (by injection e431); replace hx431_0 := (HB.out.cell (World.block_lt_of_cell? w _ hx431_0)).trans hx431_0; replace p431 := eq_true p431; replace q431 := eq_true q431) | ((with_reducible refine gate_builtin (b := .append) (xs := #[.tmp 25, .tmp 30]) rfl ?_); at_builtin; refine Kd.R_append (Kd.int .i64) (w0 := w) w.heap.size rfl (.tmp 25) (.tmp 30) 22 3 (.int .i64 0) 8 rfl Try.underlying22 info3 rfl (by decide) (by omega) u3 x3_1 (rd l0 x4_1) [.int .i64 (rd l0 x4_1)] (fun _ => True) (fun _ => False) rfl rfl ?aP (fun _ hk => hk.elim) ?aF ?aO ?aB ?aS ?aL ?_; (case aP => exact rfl); (case aB => exact (by repeat (first | (with_reducible first | exact HB.out | apply below_alloc | apply pw_below_drewN | apply below_drew1) | exact HB.out))); (case aF => exact (fun _ _ => trivial)); (case aO => exact (by (with_reducible repeat (first | apply Kd.R_alloc | apply Kd.R_drewN | apply Kd.R_drew)); exact HO_3.out)); (case aS => exact (below_size (by repeat (first | (with_reducible first | exact HB.out | apply below_alloc | apply pw_below_drewN | apply below_drew1) | exact HB.out)))); (case aL => have := LMc8.out; omega); intro v433 w9 ho hb hg hat; rw [← Ny432.out] at ho; have n0_ := Aside0.mk (hb); have n1_ := Aside0.mk (ho); clear HB; clear HO_3; have HB := n0_; have HO434 := n1_; clear n0_ n1_; clear ho hb hg hat))
      go_roundg k1
      case measure => have := HK1.out; omega
      case rel => exact ⟨(y432), (wrap64 (x4_1 + 1)), (by first | rfl | (simp; done) | (simp [*]; done)), H', ⟨by have := HK1.out; omega⟩, ⟨by (with_reducible repeat (first | apply Kd.R_alloc | apply Kd.R_drewN | apply Kd.R_drew)); exact HO434.out⟩, ⟨by repeat (first | (with_reducible first | exact HB.out | apply below_alloc | apply pw_below_drewN | apply below_drew1) | exact HB.out)⟩⟩

end Go.Proofs.Ythgmkbghdobmlaa.P
namespace Go.Proofs.Ythgmkbghdobmlaa.P
open Go.RowKit Go.Proofs.YthgmkbghdobmlaaW.PrintWords Go.Proofs.YthgmkbghdobmlaaW.PrintLast Go.Proofs.YthgmkbghdobmlaaW.PrintMore
attribute [local go_sem] max2_int min2_int max_two min_two max_three min_three max_four min_four   -- for this text's walks alone
set_option linter.unusedVariables false
set_option linter.unusedSimpArgs false

def ductuslaw27_bare.f (k : Nat) (l0 : List Int) : Option (List Int) := (ductusref26_Controls.f k l0).bind fun t614 => (some t614)
set_option maxHeartbeats 8000000 in
set_option maxRecDepth 100000 in
theorem ductuslaw27_bare.calls (k : Nat) (A0 : Option Addr) (c0 : Nat) (l0 : List Int) (r : List Int) (w : World) (hr0 : Kd.C (Kd.int .i64) w A0 l0.length l0) (hc0 : l0.length ≤ c0) (h : ductuslaw27_bare.f k l0 = some r) :
    Calls Try.prog 22 #[.slice A0 l0.length c0] w fun e w' => ∃ v0_ : Value, e = .returned (v0_) ∧ Kd.R (Kd.int .i64) 3 w' w.heap.size (fun _ => True) v0_ r ∧ Below w.heap.size w w' := by
  have HR0 := Aside0.mk hr0
  have HC0 := Aside0.mk hc0
  clear hr0 hc0
  have HB := Aside0.mk (Below.refl w.heap.size w)
  have H : ((ductusref26_Controls.f k l0).bind fun t614 => (some t614)) = some r := h
  clear h
  replace H := Option.bind_eq_some_iff.mp H
  obtain ⟨t614, A20, H⟩ := H
  replace H : (some t614) = some r := H
  have A2 := Aside0.mk A20
  clear A20
  obtain rfl := Option.some.inj H
  go_enter Try.func22, Try.ntmps22
  go_wp2_with (first | ((with_reducible refine gate_callee (f := 20) rfl ?_); refine goesL_ (some 4) rfl rfl Try.func20 (by kernel_rfl) rfl #[.slice A0 l0.length c0] rfl (by (try simp only [List.map_toArray, List.map_cons, List.map_nil]); first | done | rfl | (simp only [List.length_drop, List.length_take]; rfl)) ?_; (with_reducible refine (ductusref26_Controls.calls k _ _ l0 t614 _ ?side1 ?side2 A2.out).mono ?_); (case side1 => repeat (first | exact HR0.out | (with_reducible refine Kd.C_alloc ?_ _) | (with_reducible refine Kd.C_drewN ?_ _) | (with_reducible refine Kd.C_drew ?_))); (case side2 => exact HC0.out); rintro e w3 ⟨v615, rfl, ho0, hb⟩; refine ⟨_, rfl, ?_⟩; have n0_ := Aside0.mk (Kd.R_lower ho0 (below_size (by repeat (first | (with_reducible first | exact HB.out | apply below_alloc | apply pw_below_drewN | apply below_drew1) | exact HB.out)))); have n1_ := Aside0.mk (below_step (by repeat (first | (with_reducible first | exact HB.out | apply below_alloc | apply pw_below_drewN | apply below_drew1) | exact HB.out)) hb); clear HB; have HO616 := n0_; have HB := n1_; clear n0_ n1_; (try clear hb); (try clear hb2); (try clear hk); (try clear hi); (try clear ho0)))
  go_ret
  exact ⟨_, by first | rfl | (simp [errW_none, errW_some] <;> rfl) | (simp [*, errW_none, errW_some] <;> rfl), by (with_reducible repeat (first | apply Kd.R_alloc | apply Kd.R_drewN | apply Kd.R_drew)); exact HO616.out, by repeat (first | (with_reducible first | exact HB.out | apply below_alloc | apply pw_below_drewN | apply below_drew1) | exact HB.out)⟩

mutual
def ductusref26_walk.l0 : Nat → List Int → List Int → Int → Int → Option (Int × List Int × Int)
  | 0, _, _, _, _ => none
  | k + 1, x0, x5, x6, x7 => if x7 < (x0.length : Int) then (if 0 ≤ x7 then ((ductusref26_role.f k (rd x0 x7)).bind fun t618 => (if t618 = 1 then (ductusref26_walk.j1 k x0 x5 x6 x7 t618 true) else (ductusref26_walk.j1 k x0 x5 x6 x7 t618 (t618 == 2)))) else (none)) else (if (x5.length : Int) > 0 then (some ((x0.length : Int), x5, x6)) else (some ((-1), ([] : List Int), x6)))
def ductusref26_walk.j1 : Nat → List Int → List Int → Int → Int → Int → Bool → Option (Int × List Int × Int)
  | 0, _, _, _, _, _, _ => none
  | k + 1, x0, x5, x6, x7, x8, x20 => if x20 = true then ((some (([] : List Int) : List Int)).bind fun y619 => (if y619.length + x5.length < 17592186044416 then ((some (y619 ++ x5 : List Int)).bind fun y622 => (if y622.length < 17592186044416 then ((some (y622 ++ [x8] : List Int)).bind fun y625 => (ductusref26_walk.l0 k x0 y625 (mx x6 (y625.length : Int)) (wrap64 (x7 + 1)))) else (none))) else (none))) else (if x8 < 0 then (if (x5.length : Int) = 0 then (ductusref26_walk.j2 k x0 x5 x6 x7 x8 true) else (if 0 ≤ (wrap64 ((x5.length : Int) - 1)) then (if (wrap64 ((x5.length : Int) - 1)) < (x5.length : Int) then (ductusref26_walk.j2 k x0 x5 x6 x7 x8 ((rd x5 (wrap64 ((x5.length : Int) - 1))) != (wrap64 (-x8)))) else (none)) else (none))) else (ductusref26_walk.j2 k x0 x5 x6 x7 x8 false))
def ductusref26_walk.j2 : Nat → List Int → List Int → Int → Int → Int → Bool → Option (Int × List Int × Int)
  | 0, _, _, _, _, _, _ => none
  | k + 1, x0, x5, x6, x7, x8, x37 => if x37 = true then (ductusref26_walk.j3 k x0 x5 x6 x7 x8 x37) else (if x8 = 3 then (ductusref26_walk.j3 k x0 x5 x6 x7 x8 (decide ((x5.length : Int) > 0))) else (ductusref26_walk.j3 k x0 x5 x6 x7 x8 false))
def ductusref26_walk.j3 : Nat → List Int → List Int → Int → Int → Int → Bool → Option (Int × List Int × Int)
  | 0, _, _, _, _, _, _ => none
  | k + 1, x0, x5, x6, x7, x8, x37 => if x37 = true then (some (x7, x5, x6)) else (if x8 < 0 then (if 0 ≤ (wrap64 ((x5.length : Int) - 1)) then (if (wrap64 ((x5.length : Int) - 1)) ≤ (x5.length : Int) then (ductusref26_walk.l0 k x0 (x5.take ((wrap64 ((x5.length : Int) - 1)) : Int).toNat) x6 (wrap64 (x7 + 1))) else (none)) else (none)) else (ductusref26_walk.l0 k x0 x5 x6 (wrap64 (x7 + 1))))
end
def ductusref26_walk.f (k : Nat) (l0 : List Int) : Option (Int × List Int × Int) := ductusref26_walk.l0 k l0 ([] : List Int) 0 0
set_option maxHeartbeats 8000000 in
set_option maxRecDepth 100000 in
theorem ductusref26_walk.calls (k : Nat) (A0 : Option Addr) (c0 : Nat) (l0 : List Int) (r1 : Int) (r2 : List Int) (r3 : Int) (w : World) (hr0 : Kd.C (Kd.int .i64) w A0 l0.length l0) (hc0 : l0.length ≤ c0) (h : ductusref26_walk.f k l0 = some (r1, r2, r3)) :
    Calls Try.prog 57 #[.slice A0 l0.length c0] w fun e w' => ∃ v1_ : Value, e = .returned (.tuple #[.int .i64 r1, v1_, .int .i64 r3]) ∧ Kd.R (Kd.int .i64) 3 w' w.heap.size (fun _ => True) v1_ r2 ∧ Below w.heap.size w w' := by
  have HR0 := Aside0.mk hr0
  have HC0 := Aside0.mk hc0
  clear hr0 hc0
  have HB := Aside0.mk (Below.refl w.heap.size w)
  have H : (ductusref26_walk.l0 k l0 ([] : List Int) 0 0) = some (r1, r2, r3) := h
  clear h
  have H' := Aside0.mk H
  clear H
  go_enter Try.func57, Try.ntmps57
  go_wp2
  go_loopg [5, 6, 7] k (fun kq v5 v6 v7 w' => ∃ (x5_1 : List Int) (x6_1 : Int) (x7_1 : Int), v6 = .int .i64 x6_1 ∧ v7 = .int .i64 x7_1 ∧ Aside0 (ductusref26_walk.l0 kq l0 x5_1 x6_1 x7_1 = some (r1, r2, r3)) ∧ Aside0 (kq ≤ k) ∧ Aside0 (Kd.R (Kd.int .i64) 3 w' w.heap.size (fun _ => True) v5 x5_1) ∧ Aside0 (Below w.heap.size w w'))
  case atStart => exact ⟨(([] : List Int)), (0), (0), (by first | rfl | (simp; done) | (simp [*]; done)), (by first | rfl | (simp; done) | (simp [*]; done)), H', ⟨Nat.le_refl _⟩, ⟨by first | exact Kd.R_nil _ _ _ _ _ | exact Kd.N_nil _ _ _ _ _ | exact Kd.V_nil _ _ _ _ _ | exact Kd.Q_nil _ _ _ _ _ | exact Kd.S_nil _ _ _ _ _⟩, ⟨by repeat (first | (with_reducible first | exact HB.out | apply below_alloc | apply pw_below_drewN | apply below_drew1) | exact HB.out)⟩⟩
  case round =>
    clear H'
    obtain ⟨x5_1, x6_1, x7_1, rfl, rfl, HA, HK1, HO_5, HB⟩ := hrel
    cases gk with
    | zero => exact absurd HA.out (by simp [ductusref26_walk.l0])
    | succ k1 =>
      have H := HA.out
      clear HA
      simp only [ductusref26_walk.l0] at H
      by_cases c2 : x7_1 < (l0.length : Int)
      rotate_left
      · rw [if_neg c2] at H
        have c2b0 : decide (x7_1 < (l0.length : Int)) = false := decide_eq_false c2
        clear c2
        by_cases c36 : (x5_1.length : Int) > 0
        · rw [if_pos c36] at H
          have c36b0 : decide (0 < (x5_1.length : Int)) = true := decide_eq_true c36
          have c36b1 : decide (0 < x5_1.length) = true := decide_eq_true (by omega)
          clear c36
          simp only [Option.some.injEq, Prod.mk.injEq] at H
          obtain ⟨rfl, rfl, rfl⟩ := H
          obtain ⟨Ao37, co37, eo37⟩ := Kd.R_slice HO_5.out
          subst eo37
          go_wp2
          go_ret3
          exact ⟨_, by first | rfl | (simp [errW_none, errW_some] <;> rfl) | (simp [*, errW_none, errW_some] <;> rfl), by (with_reducible repeat (first | apply Kd.R_alloc | apply Kd.R_drewN | apply Kd.R_drew)); exact HO_5.out, by repeat (first | (with_reducible first | exact HB.out | apply below_alloc | apply pw_below_drewN | apply below_drew1) | exact HB.out)⟩
        rw [if_neg c36] at H
        have c36b0 : decide (0 < (x5_1.length : Int)) = false := decide_eq_false c36
        have c36b1 : decide (0 < x5_1.length) = false := decide_eq_false (by omega)
        clear c36
        simp only [Option.some.injEq, Prod.mk.injEq] at H
        obtain ⟨rfl, rfl, rfl⟩ := H
        obtain ⟨Ao38, co38, eo38⟩ := Kd.R_slice HO_5.out
        subst eo38
        go_wp2
        go_ret3
        exact ⟨_, by first | rfl | (simp [errW_none, errW_some] <;> rfl) | (simp [*, errW_none, errW_some] <;> rfl), by first | exact Kd.R_nil _ _ _ _ _ | exact Kd.N_nil _ _ _ _ _ | exact Kd.V_nil _ _ _ _ _ | exact Kd.Q_nil _ _ _ _ _ | exact Kd.S_nil _ _ _ _ _, by repeat (first | (with_reducible first | exact HB.out | apply below_alloc | apply pw_below_drewN | apply below_drew1) | exact HB.out)⟩
      rw [if_pos c2] at H
      have c2b0 : decide (x7_1 < (l0.length : Int)) = true := decide_eq_true c2
      clear c2
      by_cases c3 : 0 ≤ x7_1
      rotate_left
      · rw [if_neg c3] at H
        exact absurd H (by simp)
      rw [if_pos c3] at H
      have c3b0 : decide (0 ≤ x7_1) = true := decide_eq_true c3
      clear c3
      replace H := Option.bind_eq_some_iff.mp H
      obtain ⟨t618, A40, H⟩ := H
      replace H : (if t618 = 1 then (ductusref26_walk.j1 k1 l0 x5_1 x6_1 x7_1 t618 true) else (ductusref26_walk.j1 k1 l0 x5_1 x6_1 x7_1 t618 (t618 == 2))) = some (r1, r2, r3) := H
      have A4 := Aside0.mk A40
      clear A40
      have HC5 := Aside0.mk H
      clear H
      have p617 : 0 ≤ (x7_1 : Int) := of_decide_eq_true (by first | (with_reducible assumption) | assumption)
      have q617 : x7_1 < (l0.length : Int) := of_decide_eq_true (by first | (with_reducible assumption) | assumption)
      obtain ⟨ad617, e617, hx617_0⟩ := Kd.at_int HR0.out x7_1 p617 q617
      cases e617
      replace hx617_0 := (HB.out.cell (World.block_lt_of_cell? w _ hx617_0)).trans hx617_0
      replace p617 := eq_true p617
      replace q617 := eq_true q617
      go_upto_region 7 with (first | ((with_reducible refine gate_callee (f := 34) rfl ?_); refine goesL_ (some 19) rfl rfl Try.func34 (by kernel_rfl) rfl #[.int .i64 (rd l0 x7_1)] rfl (by (try simp only [List.map_toArray, List.map_cons, List.map_nil]); first | done | rfl | (simp only [List.length_drop, List.length_take]; rfl)) ?_; (with_reducible refine (ductusref26_role.calls k1 (rd l0 x7_1) t618 _ A4.out).mono ?_); rintro e w' ⟨rfl, ⟨nd, rfl⟩⟩; refine ⟨_, rfl, ?_⟩))
      (try simp only [Act.put, List.setIfInBounds_toArray, List.set_cons_zero, List.set_cons_succ])
      go_cut [20] (fun v20 wc => ∃ (kq : Nat) (x20_4 : Bool), v20 = .bool x20_4 ∧ Aside0 (ductusref26_walk.j1 kq l0 x5_1 x6_1 x7_1 t618 x20_4 = some (r1, r2, r3)) ∧ Aside0 (kq ≤ k1) ∧ Aside0 (Kd.R (Kd.int .i64) 3 wc w.heap.size (fun _ => True) u5 x5_1) ∧ Aside0 (Below w.heap.size w wc))
      case first =>
        have H := HC5.out
        clear HC5
        by_cases c6 : t618 = 1
        rotate_left
        · rw [if_neg c6] at H
          have c6b0 : (t618 == 1) = false := beq_eq_false_iff_ne.mpr c6
          have c6b1 : (t618 != 1) = true := bne_iff_ne.mpr c6
          (first | rw [c6b0] | (simp only [i64_w, i32_w]; rw [c6b0]) | skip)
          have H' := Aside0.mk H
          clear H
          go_wp2
          go_meet
          case rel => exact ⟨_, ((t618 == 2)), (by first | rfl | (simp; done) | (simp [*]; done)), H', ⟨by have := HK1.out; first | omega | exact Nat.le_refl _⟩, ⟨by (with_reducible repeat (first | apply Kd.R_alloc | apply Kd.R_drewN | apply Kd.R_drew)); exact HO_5.out⟩, ⟨by repeat (first | (with_reducible first | exact HB.out | apply below_alloc | apply pw_below_drewN | apply below_drew1) | exact HB.out)⟩⟩
        rw [if_pos c6] at H
        have c6b0 : (t618 == 1) = true := beq_iff_eq.mpr c6
        have c6b1 : (t618 != 1) = false := bne_eq_false_iff_eq.mpr c6
        clear c6
        (first | rw [c6b0] | (simp only [i64_w, i32_w]; rw [c6b0]) | skip)
        have H' := Aside0.mk H
        clear H
        go_wp2
        go_meet
        case rel => exact ⟨_, (true), (by first | rfl | (simp; done) | (simp [*]; done)), H', ⟨by have := HK1.out; first | omega | exact Nat.le_refl _⟩, ⟨by (with_reducible repeat (first | apply Kd.R_alloc | apply Kd.R_drewN | apply Kd.R_drew)); exact HO_5.out⟩, ⟨by repeat (first | (with_reducible first | exact HB.out | apply below_alloc | apply pw_below_drewN | apply below_drew1) | exact HB.out)⟩⟩
      case rest =>
        clear HC5
        try clear c2
        try clear c2b0
        try clear p2
        try clear c3
        try clear c3b0
        try clear c5
        try clear c6
        try clear c6b0
        try clear c6b1
        try clear p6
        try clear q6
        try clear hx6
        try clear hx617_0
        try clear p617
        try clear q617
        obtain ⟨kq, x20_4, rfl, HA, HJ4, HO_5, HB⟩ := hcut
        cases kq with
        | zero => exact absurd HA.out (by simp [ductusref26_walk.j1])
        | succ kj4 =>
          have H := HA.out
          clear HA
          simp only [ductusref26_walk.j1] at H
          by_cases c7 : x20_4 = true
          · subst c7
            have H1 : ((some (([] : List Int) : List Int)).bind fun y619 => (if y619.length + x5_1.length < 17592186044416 then ((some (y619 ++ x5_1 : List Int)).bind fun y622 => (if y622.length < 17592186044416 then ((some (y622 ++ [t618] : List Int)).bind fun y625 => (ductusref26_walk.l0 kj4 l0 y625 (mx x6_1 (y625.length : Int)) (wrap64 (x7_1 + 1)))) else (none))) else (none))) = some (r1, r2, r3) := by rw [if_pos rfl] at H; exact H
            clear H
            have H := H1
            clear H1
            obtain ⟨y619, hy619⟩ : ∃ y_ : List Int, y_ = (([] : List Int)) := ⟨_, rfl⟩
            replace H : (if y619.length + x5_1.length < 17592186044416 then ((some (y619 ++ x5_1 : List Int)).bind fun y622 => (if y622.length < 17592186044416 then ((some (y622 ++ [t618] : List Int)).bind fun y625 => (ductusref26_walk.l0 kj4 l0 y625 (mx x6_1 (y625.length : Int)) (wrap64 (x7_1 + 1)))) else (none))) else (none)) = some (r1, r2, r3) := by first | (rw [hy619]; with_reducible exact H) | (have H2_ := (Option.bind_some _ _).symm.trans H; rw [hy619]; with_reducible exact H2_) | (have H2_ := (Option.bind_some _ _).symm.trans H; with_reducible exact H2_) | with_reducible exact H | (rw [hy619]; exact H) | exact H
            have Ny619 := Aside0.mk hy619
            clear hy619
            by_cases c8 : y619.length + x5_1.length < 17592186044416
            rotate_left
            · rw [if_neg c8] at H
              exact absurd H (by simp)
            rw [if_pos c8] at H
            have LMc8 := Aside0.mk c8
            clear c8
            obtain ⟨y622, hy622⟩ : ∃ y_ : List Int, y_ = (y619 ++ x5_1) := ⟨_, rfl⟩
            replace H : (if y622.length < 17592186044416 then ((some (y622 ++ [t618] : List Int)).bind fun y625 => (ductusref26_walk.l0 kj4 l0 y625 (mx x6_1 (y625.length : Int)) (wrap64 (x7_1 + 1)))) else (none)) = some (r1, r2, r3) := by first | (rw [hy622]; with_reducible exact H) | (have H2_ := (Option.bind_some _ _).symm.trans H; rw [hy622]; with_reducible exact H2_) | (have H2_ := (Option.bind_some _ _).symm.trans H; with_reducible exact H2_) | with_reducible exact H | (rw [hy622]; exact H) | exact H
            have Ny622 := Aside0.mk hy622
            clear hy622
            by_cases c9 : y622.length < 17592186044416
            rotate_left
            · rw [if_neg c9] at H
              exact absurd H (by simp)
            rw [if_pos c9] at H
            have LMc9 := Aside0.mk c9
            clear c9
            obtain ⟨y625, hy625⟩ : ∃ y_ : List Int, y_ = (y622 ++ [t618]) := ⟨_, rfl⟩
            replace H : (ductusref26_walk.l0 kj4 l0 y625 (mx x6_1 (y625.length : Int)) (wrap64 (x7_1 + 1))) = some (r1, r2, r3) := by first | (rw [hy625]; with_reducible exact H) | (have H2_ := (Option.bind_some _ _).symm.trans H; rw [hy625]; with_reducible exact H2_) | (have H2_ := (Option.bind_some _ _).symm.trans H; with_reducible exact H2_) | with_reducible exact H | (rw [hy625]; exact H) | exact H
            have Ny625 := Aside0.mk hy625
            clear hy625
            obtain ⟨ji10, hji10⟩ : ∃ j_ : Int, (mx x6_1 (y625.length : Int)) = j_ := ⟨_, rfl⟩
            replace H : (ductusref26_walk.l0 kj4 l0 y625 ji10 (wrap64 (x7_1 + 1))) = some (r1, r2, r3) := by first | (rw [hji10] at H; exact H) | (simp only [hji10] at H ⊢; exact H)
            have hji10_ : (if x6_1 < (y625.length : Int) then (y625.length : Int) else x6_1) = ji10 := hji10
            have H' := Aside0.mk H
            clear H
            go_wp2_with (first | ((with_reducible refine gate_dst (N := 27) rfl ?_); (try (refine gate_guard (by rfl) ?_; dsimp only)); refine Kd.R_lit (Kd.int .i64) _ 3 ?hg (N := 27) ?hd (xs := ([] : List Int)) (inner := []) (ok := fun _ => True) (okp := fun _ => True) ?hr ?hp (fun _ hk => hk) trivial (Below.refl _ _) (Nat.le_refl _) (by simp) ?_; (case hd => rfl); (case hg => rfl); (case hr => first | (go_simp; done) | (go_simp; rfl)); (case hp => exact (Reps.none _ _)); intro v620 w11 ho12 hb hg_ hnew_; clear hg_ hnew_; (first | rw [← Ny619.out] at ho12 | (simp only [Int.reduceToNat] at ho12; rw [← Ny619.out] at ho12)); have n0_ := Aside0.mk (Kd.R_elder' (by (with_reducible repeat (first | apply Kd.R_alloc | apply Kd.R_drewN | apply Kd.R_drew)); exact HO_5.out) (Kd.R_base ho12) hb); have n1_ := Aside0.mk (Kd.R_lower (Kd.R_new' ho12 (Kd.R_lt (by (with_reducible repeat (first | apply Kd.R_alloc | apply Kd.R_drewN | apply Kd.R_drew)); exact HO_5.out))) (below_size (by repeat (first | (with_reducible first | exact HB.out | apply below_alloc | apply pw_below_drewN | apply below_drew1) | exact HB.out)))); have n2_ := Aside0.mk (below_step (by repeat (first | (with_reducible first | exact HB.out | apply below_alloc | apply pw_below_drewN | apply below_drew1) | exact HB.out)) hb); clear HO_5; clear HB; have HO_5 := n0_; have HO621 := n1_; have HB := n2_; clear n0_ n1_ n2_; clear hb ho12; obtain ⟨Ao14, co14, eo14⟩ := Kd.R_slice HO_5.out; subst eo14) | ((with_reducible refine gate_builtin (b := .append) (xs := #[.tmp 27, .tmp 28]) rfl ?_); (try (refine gate_guard (by rfl) ?_; dsimp only)); at_builtin; refine Kd.R_append_rows (Kd.int .i64) (w0 := w) w.heap.size rfl (.tmp 27) (.tmp 28) 22 3 (.int .i64 0) 8 rfl Try.underlying22 info3 rfl (by decide) (by omega) v620 y619 x5_1 _ _ _ (fun k_ => some k_ ≠ (.slice Ao14 x5_1.length co14 : Value).ownBlock) (fun _ => False) rfl rfl ?aO ?aR (fun _ _ h => h) (fun _ h => h.elim) ?aF ?aB ?aS ?aL ?_; (case aR => repeat (first | exact (Kd.R_reads' HO_5.out).2.2 | (with_reducible refine Kd.C_alloc ?_ _) | (with_reducible refine Kd.C_drewN ?_ _) | (with_reducible refine Kd.C_drew ?_))); (case aB => exact (by repeat (first | (with_reducible first | exact HB.out | apply below_alloc | apply pw_below_drewN | apply below_drew1) | exact HB.out))); (case aF => exact (fun k_ hk => Kd.fresh' (Kd.R_lt (by (with_reducible repeat (first | apply Kd.R_alloc | apply Kd.R_drewN | apply Kd.R_drew)); exact HO_5.out)) k_ hk)); (case aO => exact (by (with_reducible repeat (first | apply Kd.R_alloc | apply Kd.R_drewN | apply Kd.R_drew)); exact Kd.R_mono HO621.out (fun _ hk => hk.2))); (case aS => exact (below_size (by repeat (first | (with_reducible first | exact HB.out | apply below_alloc | apply pw_below_drewN | apply below_drew1) | exact HB.out)))); (case aL => have := LMc8.out; omega); intro v623 w13 ho hb hg hat; rw [← Ny622.out] at ho; have n0_ := Aside0.mk (Kd.R_after (ok := (fun _ => True)) (by (with_reducible repeat (first | apply Kd.R_alloc | apply Kd.R_drewN | apply Kd.R_drew)); exact HO_5.out) hg hat); have n1_ := Aside0.mk (hb); have n2_ := Aside0.mk (ho); clear HO_5; clear HB; clear HO621; have HO_5 := n0_; have HB := n1_; have HO624 := n2_; clear n0_ n1_ n2_; clear ho hb hg hat) | ((with_reducible refine gate_builtin (b := .append) (xs := #[.tmp 29, .tmp 31]) rfl ?_); (try (refine gate_guard (by rfl) ?_; dsimp only)); at_builtin; refine Kd.R_append (Kd.int .i64) (w0 := w) w.heap.size rfl (.tmp 29) (.tmp 31) 22 3 (.int .i64 0) 8 rfl Try.underlying22 info3 rfl (by decide) (by omega) v623 y622 t618 [.int .i64 t618] (fun k_ => some k_ ≠ (.slice Ao14 x5_1.length co14 : Value).ownBlock) (fun _ => False) rfl rfl ?aP (fun _ hk => hk.elim) ?aF ?aO ?aB ?aS ?aL ?_; (case aP => exact rfl); (case aB => exact (by repeat (first | (with_reducible first | exact HB.out | apply below_alloc | apply pw_below_drewN | apply below_drew1) | exact HB.out))); (case aF => exact (fun k_ hk => Kd.fresh' (Kd.R_lt (by (with_reducible repeat (first | apply Kd.R_alloc | apply Kd.R_drewN | apply Kd.R_drew)); exact HO_5.out)) k_ hk)); (case aO => exact (by (with_reducible repeat (first | apply Kd.R_alloc | apply Kd.R_drewN | apply Kd.R_drew)); exact HO624.out)); (case aS => exact (below_size (by repeat (first | (with_reducible first | exact HB.out | apply below_alloc | apply pw_below_drewN | apply below_drew1) | exact HB.out)))); (case aL => have := LMc9.out; omega); intro v626 w15 ho hb hg hat; rw [← Ny625.out] at ho; have n0_ := Aside0.mk (Kd.R_after (ok := (fun _ => True)) (by (with_reducible repeat (first | apply Kd.R_alloc | apply Kd.R_drewN | apply Kd.R_drew)); exact HO_5.out) hg hat); have n1_ := Aside0.mk (hb); have n2_ := Aside0.mk (ho); clear HO_5; clear HB; clear HO624; have HO_5 := n0_; have HB := n1_; have HO627 := n2_; clear n0_ n1_ n2_; clear ho hb hg hat; obtain ⟨Ao16, co16, eo16⟩ := Kd.R_slice HO627.out; subst eo16))
            go_roundg kj4
            case measure => have := HK1.out; have := HJ4.out; omega
            case rel => exact ⟨(y625), (ji10), (wrap64 (x7_1 + 1)), (by first | rfl | (simp; done) | (simp only [← hji10] <;> (first | rfl | simp)) | (simp [*]; done)), (by first | rfl | (simp; done) | (simp [*]; done)), H', ⟨by have := HK1.out; have := HJ4.out; omega⟩, ⟨by (with_reducible repeat (first | apply Kd.R_alloc | apply Kd.R_drewN | apply Kd.R_drew)); exact Kd.R_mono HO627.out (fun _ hk => trivial)⟩, ⟨by repeat (first | (with_reducible first | exact HB.out | apply below_alloc | apply pw_below_drewN | apply below_drew1) | exact HB.out)⟩⟩
          replace c7 := Bool.eq_false_iff.mpr c7
          subst c7
          have H1 : (if t618 < 0 then (if (x5_1.length : Int) = 0 then (ductusref26_walk.j2 kj4 l0 x5_1 x6_1 x7_1 t618 true) else (if 0 ≤ (wrap64 ((x5_1.length : Int) - 1)) then (if (wrap64 ((x5_1.length : Int) - 1)) < (x5_1.length : Int) then (ductusref26_walk.j2 kj4 l0 x5_1 x6_1 x7_1 t618 ((rd x5_1 (wrap64 ((x5_1.length : Int) - 1))) != (wrap64 (-t618)))) else (none)) else (none))) else (ductusref26_walk.j2 kj4 l0 x5_1 x6_1 x7_1 t618 false)) = some (r1, r2, r3) := by rw [if_neg (show ¬ (false = true) by decide)] at H; exact H
          clear H
          have H := H1
          clear H1
          have HC17 := Aside0.mk H
          clear H
          go_upto_region 10 with (fail)
          go_cut [37] (fun v37 wc => ∃ (kq : Nat) (x37_16 : Bool), v37 = .bool x37_16 ∧ Aside0 (ductusref26_walk.j2 kq l0 x5_1 x6_1 x7_1 t618 x37_16 = some (r1, r2, r3)) ∧ Aside0 (kq ≤ kj4) ∧ Aside0 (Kd.R (Kd.int .i64) 3 wc w.heap.size (fun _ => True) u5 x5_1) ∧ Aside0 (Below w.heap.size w wc))
          case first =>
            have H := HC17.out
            clear HC17
            by_cases c18 : t618 < 0
            rotate_left
            · rw [if_neg c18] at H
              have c18b0 : decide (t618 < 0) = false := decide_eq_false c18
              clear c18
              (first | rw [c18b0] | (simp only [i64_w, i32_w]; rw [c18b0]) | skip)
              have H' := Aside0.mk H
              clear H
              go_wp2
              go_meet
              case rel => exact ⟨_, (false), (by first | rfl | (simp; done) | (simp [*]; done)), H', ⟨by have := HK1.out; have := HJ4.out; first | omega | exact Nat.le_refl _⟩, ⟨by (with_reducible repeat (first | apply Kd.R_alloc | apply Kd.R_drewN | apply Kd.R_drew)); exact HO_5.out⟩, ⟨by repeat (first | (with_reducible first | exact HB.out | apply below_alloc | apply pw_below_drewN | apply below_drew1) | exact HB.out)⟩⟩
            rw [if_pos c18] at H
            have c18b0 : decide (t618 < 0) = true := decide_eq_true c18
            clear c18
            (first | rw [c18b0] | (simp only [i64_w, i32_w]; rw [c18b0]) | skip)
            by_cases c19 : (x5_1.length : Int) = 0
            · rw [if_pos c19] at H
              have c19b0 : ((x5_1.length : Int) == 0) = true := beq_iff_eq.mpr c19
              have c19b1 : ((x5_1.length : Int) != 0) = false := bne_eq_false_iff_eq.mpr c19
              clear c19
              have H' := Aside0.mk H
              clear H
              obtain ⟨Ao20, co20, eo20⟩ := Kd.R_slice HO_5.out
              subst eo20
              go_wp2
              go_meet
              case rel => exact ⟨_, (true), (by first | rfl | (simp; done) | (simp [*]; done)), H', ⟨by have := HK1.out; have := HJ4.out; first | omega | exact Nat.le_refl _⟩, ⟨by (with_reducible repeat (first | apply Kd.R_alloc | apply Kd.R_drewN | apply Kd.R_drew)); exact HO_5.out⟩, ⟨by repeat (first | (with_reducible first | exact HB.out | apply below_alloc | apply pw_below_drewN | apply below_drew1) | exact HB.out)⟩⟩
            rw [if_neg c19] at H
            have c19b0 : ((x5_1.length : Int) == 0) = false := beq_eq_false_iff_ne.mpr c19
            have c19b1 : ((x5_1.length : Int) != 0) = true := bne_iff_ne.mpr c19
            have c19b2 : ¬ (x5_1 = []) := fun h_ => c19 (by rw [h_]; rfl)
            obtain ⟨ji21, hji21⟩ : ∃ j_ : Int, (wrap64 ((x5_1.length : Int) - 1)) = j_ := ⟨_, rfl⟩
            replace H : (if 0 ≤ (ji21) then (if (ji21) < (x5_1.length : Int) then (ductusref26_walk.j2 kj4 l0 x5_1 x6_1 x7_1 t618 ((rd x5_1 (ji21)) != (wrap64 (-t618)))) else (none)) else (none)) = some (r1, r2, r3) := by first | (rw [hji21] at H; exact H) | (simp only [hji21] at H ⊢; exact H)
            have hji21w : (IntKind.i64.wrap ((x5_1.length : Int) - 1)) = ji21 := (i64_w _).trans hji21
            by_cases c22 : 0 ≤ (ji21)
            rotate_left
            · rw [if_neg c22] at H
              exact absurd H (by simp)
            rw [if_pos c22] at H
            have c22b0 : decide (0 ≤ (ji21)) = true := decide_eq_true c22
            clear c22
            by_cases c23 : (ji21) < (x5_1.length : Int)
            rotate_left
            · rw [if_neg c23] at H
              exact absurd H (by simp)
            rw [if_pos c23] at H
            have c23b0 : decide ((ji21) < (x5_1.length : Int)) = true := decide_eq_true c23
            clear c23
            have H' := Aside0.mk H
            clear H
            obtain ⟨Ao24, co24, eo24⟩ := Kd.R_slice HO_5.out
            subst eo24
            have p628 : 0 ≤ ((ji21) : Int) := of_decide_eq_true (by first | (with_reducible assumption) | assumption)
            have q628 : (ji21) < (x5_1.length : Int) := of_decide_eq_true (by first | (with_reducible assumption) | assumption)
            obtain ⟨ad628, e628, hx628_0⟩ := Kd.at_int (Kd.R_reads' HO_5.out).2.2 (ji21) p628 q628
            cases e628
            replace p628 := eq_true p628
            replace q628 := eq_true q628
            go_wp2
            go_meet
            case rel => exact ⟨_, (((rd x5_1 (ji21)) != (wrap64 (-t618)))), (by first | rfl | (simp; done) | (simp only [← hji21] <;> (first | rfl | simp)) | (simp [*]; done)), H', ⟨by have := HK1.out; have := HJ4.out; first | omega | exact Nat.le_refl _⟩, ⟨by (with_reducible repeat (first | apply Kd.R_alloc | apply Kd.R_drewN | apply Kd.R_drew)); exact HO_5.out⟩, ⟨by repeat (first | (with_reducible first | exact HB.out | apply below_alloc | apply pw_below_drewN | apply below_drew1) | exact HB.out)⟩⟩
          case rest =>
            clear HC17
            try clear c1
            try clear c2
            try clear c2b0
            try clear p2
            try clear c3
            try clear c3b0
            try clear c5
            try clear c6
            try clear c6b0
            try clear c6b1
            try clear p6
            try clear q6
            try clear hx6
            try clear c7
            try clear c8
            try clear c9
            try clear c18
            try clear c18b0
            try clear c19
            try clear c19b0
            try clear c19b1
            try clear c19b2
            try clear c22
            try clear c22b0
            try clear c23
            try clear c23b0
            try clear hx617_0
            try clear hx628_0
            try clear p2
            try clear p6
            try clear p617
            try clear p628
            try clear q6
            try clear q617
            try clear q628
            obtain ⟨kq, x37_16, rfl, HA, HJ16, HO_5, HB⟩ := hcut
            cases kq with
            | zero => exact absurd HA.out (by simp [ductusref26_walk.j2])
            | succ kj16 =>
              have H := HA.out
              clear HA
              simp only [ductusref26_walk.j2] at H
              have HC25 := Aside0.mk H
              clear H
              go_upto_if 37 with (fail)
              go_cut [37] (fun v37 wc => ∃ (kq : Nat) (x37_24 : Bool), v37 = .bool x37_24 ∧ Aside0 (ductusref26_walk.j3 kq l0 x5_1 x6_1 x7_1 t618 x37_24 = some (r1, r2, r3)) ∧ Aside0 (kq ≤ kj16) ∧ Aside0 (Kd.R (Kd.int .i64) 3 wc w.heap.size (fun _ => True) u5 x5_1) ∧ Aside0 (Below w.heap.size w wc))
              case first =>
                have H := HC25.out
                clear HC25
                by_cases c26 : x37_16 = true
                · subst c26
                  have H1 : (ductusref26_walk.j3 kj16 l0 x5_1 x6_1 x7_1 t618 true) = some (r1, r2, r3) := by rw [if_pos rfl] at H; exact H
                  clear H
                  have H := H1
                  clear H1
                  have H' := Aside0.mk H
                  clear H
                  go_wp2
                  go_meet
                  case rel => exact ⟨_, (true), (by first | rfl | (simp; done) | (simp [*]; done)), H', ⟨by have := HK1.out; have := HJ4.out; have := HJ16.out; first | omega | exact Nat.le_refl _⟩, ⟨by (with_reducible repeat (first | apply Kd.R_alloc | apply Kd.R_drewN | apply Kd.R_drew)); exact HO_5.out⟩, ⟨by repeat (first | (with_reducible first | exact HB.out | apply below_alloc | apply pw_below_drewN | apply below_drew1) | exact HB.out)⟩⟩
                replace c26 := Bool.eq_false_iff.mpr c26
                subst c26
                have H1 : (if t618 = 3 then (ductusref26_walk.j3 kj16 l0 x5_1 x6_1 x7_1 t618 (decide ((x5_1.length : Int) > 0))) else (ductusref26_walk.j3 kj16 l0 x5_1 x6_1 x7_1 t618 false)) = some (r1, r2, r3) := by rw [if_neg (show ¬ (false = true) by decide)] at H; exact H
                clear H
                have H := H1
                clear H1
                by_cases c27 : t618 = 3
                rotate_left
                · rw [if_neg c27] at H
                  have c27b0 : (t618 == 3) = false := beq_eq_false_iff_ne.mpr c27
                  have c27b1 : (t618 != 3) = true := bne_iff_ne.mpr c27
                  (first | rw [c27b0] | (simp only [i64_w, i32_w]; rw [c27b0]) | skip)
                  have H' := Aside0.mk H
                  clear H
                  go_wp2
                  go_meet
                  case rel => exact ⟨_, (false), (by first | rfl | (simp; done) | (simp [*]; done)), H', ⟨by have := HK1.out; have := HJ4.out; have := HJ16.out; first | omega | exact Nat.le_refl _⟩, ⟨by (with_reducible repeat (first | apply Kd.R_alloc | apply Kd.R_drewN | apply Kd.R_drew)); exact HO_5.out⟩, ⟨by repeat (first | (with_reducible first | exact HB.out | apply below_alloc | apply pw_below_drewN | apply below_drew1) | exact HB.out)⟩⟩
                rw [if_pos c27] at H
                have c27b0 : (t618 == 3) = true := beq_iff_eq.mpr c27
                have c27b1 : (t618 != 3) = false := bne_eq_false_iff_eq.mpr c27
                clear c27
                (first | rw [c27b0] | (simp only [i64_w, i32_w]; rw [c27b0]) | skip)
                have H' := Aside0.mk H
                clear H
                obtain ⟨Ao28, co28, eo28⟩ := Kd.R_slice HO_5.out
                subst eo28
                go_wp2
                go_meet
                case rel => exact ⟨_, (decide ((x5_1.length : Int) > 0)), (by first | rfl | (simp; done) | (simp [*]; done)), H', ⟨by have := HK1.out; have := HJ4.out; have := HJ16.out; first | omega | exact Nat.le_refl _⟩, ⟨by (with_reducible repeat (first | apply Kd.R_alloc | apply Kd.R_drewN | apply Kd.R_drew)); exact HO_5.out⟩, ⟨by repeat (first | (with_reducible first | exact HB.out | apply below_alloc | apply pw_below_drewN | apply below_drew1) | exact HB.out)⟩⟩
              case rest =>
                clear HC25
                try clear c1
                try clear c2
                try clear c2b0
                try clear p2
                try clear c3
                try clear c3b0
                try clear c5
                try clear c6
                try clear c6b0
                try clear c6b1
                try clear p6
                try clear q6
                try clear hx6
                try clear c7
                try clear c8
                try clear c9
                try clear c18
                try clear c18b0
                try clear c19
                try clear c19b0
                try clear c19b1
                try clear c19b2
                try clear c22
                try clear c22b0
                try clear c23
                try clear c23b0
                try clear c26
                try clear c27
                try clear c27b0
                try clear c27b1
                try clear hx617_0
                try clear hx628_0
                try clear p2
                try clear p6
                try clear p617
                try clear p628
                try clear q6
                try clear q617
                try clear q628
                obtain ⟨kq, x37_24, rfl, HA, HJ24, HO_5, HB⟩ := hcut
                cases kq with
                | zero => exact absurd HA.out (by simp [ductusref26_walk.j3])
                | succ kj24 =>
                  have H := HA.out
                  clear HA
                  simp only [ductusref26_walk.j3] at H
                  by_cases c29 : x37_24 = true
                  · subst c29
                    have H1 : (some (x7_1, x5_1, x6_1)) = some (r1, r2, r3) := by rw [if_pos rfl] at H; exact H
                    clear H
                    have H := H1
                    clear H1
                    simp only [Option.some.injEq, Prod.mk.injEq] at H
                    obtain ⟨rfl, rfl, rfl⟩ := H
                    go_wp2
                    go_ret3
                    exact ⟨_, by first | rfl | (simp [errW_none, errW_some] <;> rfl) | (simp [*, errW_none, errW_some] <;> rfl), by (with_reducible repeat (first | apply Kd.R_alloc | apply Kd.R_drewN | apply Kd.R_drew)); exact HO_5.out, by repeat (first | (with_reducible first | exact HB.out | apply below_alloc | apply pw_below_drewN | apply below_drew1) | exact HB.out)⟩
                  replace c29 := Bool.eq_false_iff.mpr c29
                  subst c29
                  have H1 : (if t618 < 0 then (if 0 ≤ (wrap64 ((x5_1.length : Int) - 1)) then (if (wrap64 ((x5_1.length : Int) - 1)) ≤ (x5_1.length : Int) then (ductusref26_walk.l0 kj24 l0 (x5_1.take ((wrap64 ((x5_1.length : Int) - 1)) : Int).toNat) x6_1 (wrap64 (x7_1 + 1))) else (none)) else (none)) else (ductusref26_walk.l0 kj24 l0 x5_1 x6_1 (wrap64 (x7_1 + 1)))) = some (r1, r2, r3) := by rw [if_neg (show ¬ (false = true) by decide)] at H; exact H
                  clear H
                  have H := H1
                  clear H1
                  by_cases c30 : t618 < 0
                  rotate_left
                  · rw [if_neg c30] at H
                    have c30b0 : decide (t618 < 0) = false := decide_eq_false c30
                    clear c30
                    have H' := Aside0.mk H
                    clear H
                    go_wp2
                    go_roundg kj24
                    case measure => have := HK1.out; have := HJ4.out; have := HJ16.out; have := HJ24.out; omega
                    case rel => exact ⟨(x5_1), (x6_1), (wrap64 (x7_1 + 1)), (by first | rfl | (simp; done) | (simp [*]; done)), (by first | rfl | (simp; done) | (simp [*]; done)), H', ⟨by have := HK1.out; have := HJ4.out; have := HJ16.out; have := HJ24.out; omega⟩, ⟨by (with_reducible repeat (first | apply Kd.R_alloc | apply Kd.R_drewN | apply Kd.R_drew)); exact HO_5.out⟩, ⟨by repeat (first | (with_reducible first | exact HB.out | apply below_alloc | apply pw_below_drewN | apply below_drew1) | exact HB.out)⟩⟩
                  rw [if_pos c30] at H
                  have c30b0 : decide (t618 < 0) = true := decide_eq_true c30
                  clear c30
                  obtain ⟨ji31, hji31⟩ : ∃ j_ : Int, (wrap64 ((x5_1.length : Int) - 1)) = j_ := ⟨_, rfl⟩
                  replace H : (if 0 ≤ (ji31) then (if (ji31) ≤ (x5_1.length : Int) then (ductusref26_walk.l0 kj24 l0 (x5_1.take ((ji31) : Int).toNat) x6_1 (wrap64 (x7_1 + 1))) else (none)) else (none)) = some (r1, r2, r3) := by first | (rw [hji31] at H; exact H) | (simp only [hji31] at H ⊢; exact H)
                  have hji31w : (IntKind.i64.wrap ((x5_1.length : Int) - 1)) = ji31 := (i64_w _).trans hji31
                  by_cases c32 : 0 ≤ (ji31)
                  rotate_left
                  · rw [if_neg c32] at H
                    exact absurd H (by simp)
                  rw [if_pos c32] at H
                  have c32b0 := eq_true c32
                  have c32b1 : decide (0 ≤ (ji31)) = true := decide_eq_true c32
                  clear c32
                  by_cases c33 : (ji31) ≤ (x5_1.length : Int)
                  rotate_left
                  · rw [if_neg c33] at H
                    exact absurd H (by simp)
                  rw [if_pos c33] at H
                  have c33b0 := eq_true c33
                  have c33b1 : decide ((ji31) ≤ (x5_1.length : Int)) = true := decide_eq_true c33
                  clear c33
                  obtain ⟨y629, hy629⟩ : ∃ y_ : List Int, y_ = (x5_1.take ((ji31) : Int).toNat) := ⟨_, rfl⟩
                  replace H : (ductusref26_walk.l0 kj24 l0 y629 x6_1 (wrap64 (x7_1 + 1))) = some (r1, r2, r3) := by first | (rw [hy629]; with_reducible exact H) | (have H2_ := (Option.bind_some _ _).symm.trans H; rw [hy629]; with_reducible exact H2_) | (have H2_ := (Option.bind_some _ _).symm.trans H; with_reducible exact H2_) | with_reducible exact H | (rw [hy629]; exact H) | exact H
                  have Ny629 := Aside0.mk hy629
                  clear hy629
                  have H' := Aside0.mk H
                  clear H
                  obtain ⟨Ao34, co34, eo34⟩ := Kd.R_slice HO_5.out
                  subst eo34
                  have q35 : ((ji31) : Int) ≤ ((x5_1.length : Int) : Int) := of_decide_eq_true (by first | (with_reducible assumption) | assumption)
                  obtain ⟨i035, hi035, _, hsz35, _⟩ := info_parts info3
                  have hcut35 := cut_to (P := Try.prog) 22 3 .i64 Try.underlying22 hi035 Ao34 x5_1.length co34 (ji31) (of_decide_eq_true (by first | (with_reducible assumption) | assumption)) q35 (Kd.R_reads' HO_5.out).2.1
                  have hr35 := Kd.R_take (m := ((ji31) : Int).toNat) HO_5.out (by omega)
                  have hy35 : y629.length = ((ji31) : Int).toNat := (by rw [Ny629.out, List.length_take]; omega)
                  rw [← Ny629.out] at hr35
                  rw [← hy35] at hr35 hcut35
                  clear hy35 hi035 hsz35 HO_5
                  have HO631 := Aside0.mk hr35
                  clear hr35
                  replace q35 := eq_true q35
                  go_wp2
                  go_roundg kj24
                  case measure => have := HK1.out; have := HJ4.out; have := HJ16.out; have := HJ24.out; omega
                  case rel => exact ⟨(y629), (x6_1), (wrap64 (x7_1 + 1)), (by first | rfl | (simp; done) | (simp [*]; done)), (by first | rfl | (simp; done) | (simp [*]; done)), H', ⟨by have := HK1.out; have := HJ4.out; have := HJ16.out; have := HJ24.out; omega⟩, ⟨by (with_reducible repeat (first | apply Kd.R_alloc | apply Kd.R_drewN | apply Kd.R_drew)); exact HO631.out⟩, ⟨by repeat (first | (with_reducible first | exact HB.out | apply below_alloc | apply pw_below_drewN | apply below_drew1) | exact HB.out)⟩⟩

def ductusref26_Wrong.f (k : Nat) (l0 : List Int) : Option (Int) := (ductusref26_walk.f k l0).bind fun bt632 => (some bt632.1)
set_option maxHeartbeats 8000000 in
set_option maxRecDepth 100000 in
theorem ductusref26_Wrong.calls (k : Nat) (A0 : Option Addr) (c0 : Nat) (l0 : List Int) (r : Int) (w : World) (hr0 : Kd.C (Kd.int .i64) w A0 l0.length l0) (hc0 : l0.length ≤ c0) (h : ductusref26_Wrong.f k l0 = some r) :
    Calls Try.prog 35 #[.slice A0 l0.length c0] w fun e w' => e = .returned (.int .i64 r) ∧ Below w.heap.size w w' := by
  have HR0 := Aside0.mk hr0
  have HC0 := Aside0.mk hc0
  clear hr0 hc0
  have HB := Aside0.mk (Below.refl w.heap.size w)
  have H : ((ductusref26_walk.f k l0).bind fun bt632 => (some bt632.1)) = some r := h
  clear h
  replace H := Option.bind_eq_some_iff.mp H
  obtain ⟨⟨t632, t633, t634⟩, A20, H⟩ := H
  replace H : (some t632) = some r := H
  have A2 := Aside0.mk A20
  clear A20
  obtain rfl := Option.some.inj H
  go_enter Try.func35, Try.ntmps35
  go_wp2_with (first | ((with_reducible refine gate_callee (f := 57) rfl ?_); refine goesL_ (some 8) rfl rfl Try.func57 (by kernel_rfl) rfl #[.slice A0 l0.length c0] rfl (by (try simp only [List.map_toArray, List.map_cons, List.map_nil]); first | done | rfl | (simp only [List.length_drop, List.length_take]; rfl)) ?_; (with_reducible refine (ductusref26_walk.calls k _ _ l0 t632 t633 t634 _ ?side1 ?side2 A2.out).mono ?_); (case side1 => repeat (first | exact HR0.out | (with_reducible refine Kd.C_alloc ?_ _) | (with_reducible refine Kd.C_drewN ?_ _) | (with_reducible refine Kd.C_drew ?_))); (case side2 => exact HC0.out); rintro e w3 ⟨v635, rfl, ho0, hb⟩; refine ⟨_, rfl, ?_⟩; have n0_ := Aside0.mk (Kd.R_lower ho0 (below_size (by repeat (first | (with_reducible first | exact HB.out | apply below_alloc | apply pw_below_drewN | apply below_drew1) | exact HB.out)))); have n1_ := Aside0.mk (below_step (by repeat (first | (with_reducible first | exact HB.out | apply below_alloc | apply pw_below_drewN | apply below_drew1) | exact HB.out)) hb); clear HB; have HO636 := n0_; have HB := n1_; clear n0_ n1_; (try clear hb); (try clear hb2); (try clear hk); (try clear hi); (try clear ho0)))
  go_ret
  exact ⟨by first | rfl | (simp [errW_none, errW_some] <;> rfl) | (simp [*, errW_none, errW_some] <;> rfl), by repeat (first | (with_reducible first | exact HB.out | apply below_alloc | apply pw_below_drewN | apply below_drew1) | exact HB.out)⟩

def ductusref26_Right.f (k : Nat) (l0 : List Int) : Option (Bool) := (ductusref26_Wrong.f k l0).bind fun t637 => (some (decide (t637 < 0)))
set_option maxHeartbeats 8000000 in
set_option maxRecDepth 100000 in
theorem ductusref26_Right.calls (k : Nat) (A0 : Option Addr) (c0 : Nat) (l0 : List Int) (r : Bool) (w : World) (hr0 : Kd.C (Kd.int .i64) w A0 l0.length l0) (hc0 : l0.length ≤ c0) (h : ductusref26_Right.f k l0 = some r) :
    Calls Try.prog 23 #[.slice A0 l0.length c0] w fun e w' => e = .returned (.bool r) ∧ Below w.heap.size w w' := by
  have HR0 := Aside0.mk hr0
  have HC0 := Aside0.mk hc0
  clear hr0 hc0
  have HB := Aside0.mk (Below.refl w.heap.size w)
  have H : ((ductusref26_Wrong.f k l0).bind fun t637 => (some (decide (t637 < 0)))) = some r := h
  clear h
  replace H := Option.bind_eq_some_iff.mp H
  obtain ⟨t637, A20, H⟩ := H
  replace H : (some (decide (t637 < 0))) = some r := H
  have A2 := Aside0.mk A20
  clear A20
  obtain rfl := Option.some.inj H
  go_enter Try.func23, Try.ntmps23
  go_wp2_with (first | ((with_reducible refine gate_callee (f := 35) rfl ?_); refine goesL_ (some 4) rfl rfl Try.func35 (by kernel_rfl) rfl #[.slice A0 l0.length c0] rfl (by (try simp only [List.map_toArray, List.map_cons, List.map_nil]); first | done | rfl | (simp only [List.length_drop, List.length_take]; rfl)) ?_; (with_reducible refine (ductusref26_Wrong.calls k _ _ l0 t637 _ ?side1 ?side2 A2.out).mono ?_); (case side1 => repeat (first | exact HR0.out | (with_reducible refine Kd.C_alloc ?_ _) | (with_reducible refine Kd.C_drewN ?_ _) | (with_reducible refine Kd.C_drew ?_))); (case side2 => exact HC0.out); rintro e w3 ⟨rfl, hb⟩; refine ⟨_, rfl, ?_⟩; have n0_ := Aside0.mk (below_step (by repeat (first | (with_reducible first | exact HB.out | apply below_alloc | apply pw_below_drewN | apply below_drew1) | exact HB.out)) hb); clear HB; have HB := n0_; clear n0_; (try clear hb); (try clear hb2); (try clear hk); (try clear hi)))
  go_ret
  exact ⟨by first | rfl | (simp [errW_none, errW_some] <;> rfl) | (simp [*, errW_none, errW_some] <;> rfl), by repeat (first | (with_reducible first | exact HB.out | apply below_alloc | apply pw_below_drewN | apply below_drew1) | exact HB.out)⟩

end Go.Proofs.Ythgmkbghdobmlaa.P
