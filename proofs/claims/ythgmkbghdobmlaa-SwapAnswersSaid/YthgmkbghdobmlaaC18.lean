/- Texts of this claim put together by a program of its own (SOf, Px12), what the law does not use left out: each part's statements bear their own conditions. -/
import Derived.Test.YthgmkbghdobmlaaC11
namespace Go.Proofs.Ythgmkbghdobmlaa.P
open Go.RowKit Go.Proofs.YthgmkbghdobmlaaW.PrintWords Go.Proofs.YthgmkbghdobmlaaW.PrintLast
set_option linter.unusedVariables false

def ductusref02_Of.tbl : List (Int × Int × Int) := [(0, 8, 9), (9, 9, 11), (10, 10, 10), (11, 11, 11), (12, 12, 12), (13, 13, 10), (14, 27, 9), (28, 30, 10), (31, 31, 11), (32, 32, 12), (33, 34, 13), (35, 37, 5), (38, 42, 13), (43, 43, 4), (44, 44, 7), (45, 45, 4), (46, 47, 7), (48, 57, 3), (58, 58, 7), (59, 64, 13), (91, 96, 13), (123, 126, 13), (127, 132, 9), (133, 133, 10), (134, 159, 9), (160, 160, 7), (161, 161, 13), (162, 165, 5), (166, 169, 13), (171, 172, 13), (173, 173, 9), (174, 175, 13), (176, 177, 5), (178, 179, 3), (180, 180, 13), (182, 184, 13), (185, 185, 3), (187, 191, 13), (215, 215, 13), (247, 247, 13), (768, 879, 8), (1425, 1469, 8), (1470, 1470, 1), (1471, 1471, 8), (1472, 1472, 1), (1473, 1474, 8), (1488, 1524, 1), (1536, 1541, 6), (1542, 1543, 13), (1544, 1544, 2), (1545, 1546, 5), (1547, 1547, 2), (1548, 1548, 7), (1549, 1549, 2), (1552, 1562, 8), (1563, 1610, 2), (1611, 1631, 8), (1632, 1641, 6), (1642, 1642, 5), (1643, 1644, 6), (1645, 1647, 2), (1648, 1648, 8), (1649, 1749, 2), (8203, 8205, 9), (8207, 8207, 1), (8208, 8231, 13), (8232, 8232, 12), (8233, 8233, 10), (8234, 8234, 14), (8235, 8235, 16), (8236, 8236, 18), (8237, 8237, 15), (8238, 8238, 17), (8239, 8239, 7), (8240, 8244, 5), (8245, 8259, 13), (8294, 8294, 19), (8295, 8295, 20), (8296, 8296, 21), (8297, 8297, 22), (8304, 8304, 3), (8308, 8313, 3), (8352, 8384, 5), (8592, 8721, 13), (8722, 8722, 4), (8723, 8723, 5), (8724, 9013, 13), (12296, 12305, 13), (65279, 65279, 9), (128512, 128591, 13)]
def ductusref02_Of.f (a0 : Int) : Option Int := some (swFrom a0 ductusref02_Of.tbl)

section
variable {P : Program} {Q : Exit → Act → World → Prop} {w : World} {c r : Int}
theorem put_getD (a : Act) (d : Nat) (v : Value) (i : Nat) (h : d < a.tmps.size) : (a.put (some d) v).tmps.getD i undef = if d = i then v else a.tmps.getD i undef := by
  unfold Act.put
  simp only [Array.getD_eq_getD_getElem?]
  by_cases hd : d = i
  · subst hd
    simp [h]
  · simp [hd]
theorem put_size (a : Act) (d : Nat) (v : Value) : (a.put (some d) v).tmps.size = a.tmps.size := by
  unfold Act.put
  simp
theorem yields {ops : Array Oper} {tmps : Array Value} {j d : Nat} {b : Bool} (hd : (ops[j]?).bind (·.dst) = some d) (hs : d < tmps.size) (h : tmps.getD d undef = .bool b) : yielded ops tmps j = some b := by
  unfold yielded
  have he : tmps[d]? = some (.bool b) := by
    rw [Array.getElem?_eq_getElem hs]
    rw [Array.getD_eq_getD_getElem?, Array.getElem?_eq_getElem hs, Option.getD_some] at h
    rw [h]
  simp [hd, he]
/-- From here on the code hands back what the table says of c. -/
def SwOk (P : Program) (Q : Exit → Act → World → Prop) (w : World) (c r : Int) (S : Nat) (l : List (Int × Int × Int)) (code : Code) : Prop :=
  swFrom c l = r → ∀ a : Act, a.tmps.getD 0 undef = .int .i64 c → a.tmps.size = S → a.defers = [] → code.wp P Q a w
/-- What is handed back. -/
def SwQ (Q : Exit → Act → World → Prop) (w : World) (r : Int) (S : Nat) : Prop := ∀ a : Act, a.tmps.getD 2 undef = .int .i64 r → a.tmps.size = S → a.defers = [] → Q .ret a w
theorem sw_ret {S : Nat} (hQ : SwQ Q w r S) {id : Nat} {ty : TypeId} {pos : String} {af : Array Edge} (a : Act) (hs : a.tmps.size = S) (h2 : 2 < S) (hd : a.defers = []) :
    ((Code.region id #[{ dst := some 2, op := .assign (.const (.int .i64 r)), type := ty, pos := pos, after := af, guard := none }] false).seq Code.ret).wp P Q a w := by
  refine wp_seq (wp_region_list ?_)
  refine Kd.event_run (w1 := w) (v := .int .i64 r) rfl rfl (wpList_nil ?_)
  show Code.ret.wp P Q _ w
  refine wp_ret (hQ _ ?_ ?_ ?_)
  · rw [put_getD _ _ _ _ (by omega)]
    simp
  · rw [put_size]
    exact hs
  · exact hd
theorem SwOk.eqc {S : Nat} {t id id2 : Nat} {ty ty' ty2 ty3 ty4 : TypeId} {p1 p2 p3 p4 : String} {f1 f2 f3 f4 : Array Edge} {lo x : Int} {rest : Code} {l : List (Int × Int × Int)} (hQ : SwQ Q w r S) (ht : 2 < t) (htS : t + 2 < S) (hrest : SwOk P Q w c r S l rest) :
    SwOk P Q w c r S ((lo, lo, x) :: l) ((Code.region id #[{ dst := some (t + 1), op := .move (.tmp 0), type := ty, pos := p1, after := f1, guard := none }, { dst := some (t + 2), op := .binOp .eql ty' (.tmp (t + 1)) (.const (.int .i64 lo)) ty', type := ty2, pos := p2, after := f2, guard := none }, { dst := some t, op := .assign (.tmp (t + 2)), type := ty3, pos := p3, after := f3, guard := none }] false).seq
      (Code.cond (.tmp t) ((Code.region id2 #[{ dst := some 2, op := .assign (.const (.int .i64 x)), type := ty4, pos := p4, after := f4, guard := none }] false).seq Code.ret) rest)) := by
  intro hr a h0 hs hd
  obtain ⟨b, hb⟩ : ∃ b : Bool, b = (c == lo) := ⟨_, rfl⟩
  refine wp_seq (wp_region_list ?_)
  refine Kd.event_run (w1 := w) (v := .int .i64 c) rfl (by simp [execOp, Act.eval, h0]) ?_
  obtain ⟨a1, e1⟩ : ∃ a1, a1 = a.put (some (t + 1)) (.int .i64 c) := ⟨_, rfl⟩
  have s1 : a1.tmps.size = S := by rw [e1, put_size]; exact hs
  have g1 : a1.tmps.getD (t + 1) undef = .int .i64 c := by rw [e1, put_getD _ _ _ _ (by omega)]; simp
  have z1 : a1.tmps.getD 0 undef = .int .i64 c := by rw [e1, put_getD _ _ _ _ (by omega), if_neg (by omega)]; exact h0
  have d1 : a1.defers = [] := by rw [e1]; exact hd
  show wpList _ _ _ _ (a.put (some (t + 1)) (.int .i64 c)) _
  rw [← e1]
  refine Kd.event_run (w1 := w) (v := .bool b) rfl (by simp [execOp, Act.eval, g1, eqGuard, go_sem, hb]) ?_
  obtain ⟨a2, e2⟩ : ∃ a2, a2 = a1.put (some (t + 2)) (.bool b) := ⟨_, rfl⟩
  have s2 : a2.tmps.size = S := by rw [e2, put_size]; exact s1
  have g2 : a2.tmps.getD (t + 2) undef = .bool b := by rw [e2, put_getD _ _ _ _ (by omega)]; simp
  have z2 : a2.tmps.getD 0 undef = .int .i64 c := by rw [e2, put_getD _ _ _ _ (by omega), if_neg (by omega)]; exact z1
  have d2 : a2.defers = [] := by rw [e2]; exact d1
  show wpList _ _ _ _ (a1.put (some (t + 2)) (.bool b)) _
  rw [← e2]
  refine Kd.event_run (w1 := w) (v := .bool b) rfl (by simp [execOp, Act.eval, g2]) (wpList_nil ?_)
  obtain ⟨a3, e3⟩ : ∃ a3, a3 = a2.put (some t) (.bool b) := ⟨_, rfl⟩
  have s3 : a3.tmps.size = S := by rw [e3, put_size]; exact s2
  have g3 : a3.tmps.getD t undef = .bool b := by rw [e3, put_getD _ _ _ _ (by omega)]; simp
  have z3 : a3.tmps.getD 0 undef = .int .i64 c := by rw [e3, put_getD _ _ _ _ (by omega), if_neg (by omega)]; exact z2
  have d3 : a3.defers = [] := by rw [e3]; exact d2
  show (Code.cond _ _ _).wp P Q (a2.put (some t) (.bool b)) w
  rw [← e3]
  refine wp_cond_split (t := b) g3 (fun hb1 => ?_) (fun hb0 => ?_)
  · have hc : c = lo := by rw [hb1] at hb; simpa using hb.symm
    have hx : x = r := by rw [← hr]; simp [swFrom, hc]
    rw [hx]
    exact sw_ret hQ a3 s3 (by omega) d3
  · have hc : ¬ c = lo := by rw [hb0] at hb; simpa using hb.symm
    refine hrest ?_ a3 z3 s3 d3
    rw [← hr]
    simp only [swFrom]
    rw [if_neg (by omega)]
theorem SwOk.rng {S : Nat} {t id id2 : Nat} {ty ty' ty2 ty3 ty4 : TypeId} {p1 p2 p3 p4 p5 p6 p7 p8 : String} {f1 f2 f3 f4 f5 f6 f7 f8 : Array Edge} {lo hi x : Int} {rest : Code} {l : List (Int × Int × Int)} (hQ : SwQ Q w r S) (ht : 2 < t) (htS : t + 6 < S) (hrest : SwOk P Q w c r S l rest) :
    SwOk P Q w c r S ((lo, hi, x) :: l) ((Code.region id #[{ dst := some (t + 1), op := .move (.tmp 0), type := ty, pos := p1, after := f1, guard := none }, { dst := some (t + 2), op := .binOp .geq ty' (.tmp (t + 1)) (.const (.int .i64 lo)) ty', type := ty2, pos := p2, after := f2, guard := none }, { dst := some (t + 3), op := .move (.tmp (t + 2)), type := ty2, pos := p3, after := f3, guard := none },
        { dst := some (t + 4), op := .move (.tmp 0), type := ty, pos := p4, after := f4, guard := some (2, true) }, { dst := some (t + 5), op := .binOp .leq ty' (.tmp (t + 4)) (.const (.int .i64 hi)) ty', type := ty2, pos := p5, after := f5, guard := some (2, true) }, { dst := some (t + 6), op := .pick (.tmp (t + 3)) (.tmp (t + 5)) (.const (.bool false)), type := ty2, pos := p6, after := f6, guard := none }, { dst := some t, op := .assign (.tmp (t + 6)), type := ty3, pos := p7, after := f7, guard := none }] false).seq
      (Code.cond (.tmp t) ((Code.region id2 #[{ dst := some 2, op := .assign (.const (.int .i64 x)), type := ty4, pos := p8, after := f8, guard := none }] false).seq Code.ret) rest)) := by
  intro hr a h0 hs hd
  obtain ⟨b, hb⟩ : ∃ b : Bool, b = decide (c ≥ lo) := ⟨_, rfl⟩
  obtain ⟨q, hq⟩ : ∃ q : Bool, q = decide (c ≤ hi) := ⟨_, rfl⟩
  refine wp_seq (wp_region_list ?_)
  refine Kd.event_run (w1 := w) (v := .int .i64 c) rfl (by simp [execOp, Act.eval, h0]) ?_
  obtain ⟨a1, e1⟩ : ∃ a1, a1 = a.put (some (t + 1)) (.int .i64 c) := ⟨_, rfl⟩
  have s1 : a1.tmps.size = S := by rw [e1, put_size]; exact hs
  have g1 : a1.tmps.getD (t + 1) undef = .int .i64 c := by rw [e1, put_getD _ _ _ _ (by omega)]; simp
  have z1 : a1.tmps.getD 0 undef = .int .i64 c := by rw [e1, put_getD _ _ _ _ (by omega), if_neg (by omega)]; exact h0
  have d1 : a1.defers = [] := by rw [e1]; exact hd
  show wpList _ _ _ _ (a.put (some (t + 1)) (.int .i64 c)) _
  rw [← e1]
  clear e1 h0 hs hd
  refine Kd.event_run (w1 := w) (v := .bool b) rfl (by simp [execOp, Act.eval, g1, eqGuard, go_sem, hb]) ?_
  obtain ⟨a2, e2⟩ : ∃ a2, a2 = a1.put (some (t + 2)) (.bool b) := ⟨_, rfl⟩
  have s2 : a2.tmps.size = S := by rw [e2, put_size]; exact s1
  have g2 : a2.tmps.getD (t + 2) undef = .bool b := by rw [e2, put_getD _ _ _ _ (by omega)]; simp
  have z2 : a2.tmps.getD 0 undef = .int .i64 c := by rw [e2, put_getD _ _ _ _ (by omega), if_neg (by omega)]; exact z1
  have d2 : a2.defers = [] := by rw [e2]; exact d1
  show wpList _ _ _ _ (a1.put (some (t + 2)) (.bool b)) _
  rw [← e2]
  clear e2 g1 z1 s1 d1
  refine Kd.event_run (w1 := w) (v := .bool b) rfl (by simp [execOp, Act.eval, g2]) ?_
  obtain ⟨a3, e3⟩ : ∃ a3, a3 = a2.put (some (t + 3)) (.bool b) := ⟨_, rfl⟩
  have s3 : a3.tmps.size = S := by rw [e3, put_size]; exact s2
  have g3 : a3.tmps.getD (t + 3) undef = .bool b := by rw [e3, put_getD _ _ _ _ (by omega)]; simp
  have z3 : a3.tmps.getD 0 undef = .int .i64 c := by rw [e3, put_getD _ _ _ _ (by omega), if_neg (by omega)]; exact z2
  have d3 : a3.defers = [] := by rw [e3]; exact d2
  show wpList _ _ _ _ (a2.put (some (t + 3)) (.bool b)) _
  rw [← e3]
  clear e3 g2 z2 s2 d2
  obtain ⟨a5, s5, g5, z5, d5, q5, H5⟩ : ∃ a5 : Act, a5.tmps.size = S ∧ a5.tmps.getD (t + 3) undef = .bool b ∧ a5.tmps.getD 0 undef = .int .i64 c ∧ a5.defers = [] ∧ (b = true → a5.tmps.getD (t + 5) undef = .bool q) ∧
      ∀ (ops : Array Oper) (Q' : Exit → Act → World → Prop) (l' : List Oper), (ops[2]?).bind (·.dst) = some (t + 3) → wpList P ops Q' l' a5 w →
        wpList P ops Q' ({ dst := some (t + 4), op := .move (.tmp 0), type := ty, pos := p4, after := f4, guard := some (2, true) } :: { dst := some (t + 5), op := .binOp .leq ty' (.tmp (t + 4)) (.const (.int .i64 hi)) ty', type := ty2, pos := p5, after := f5, guard := some (2, true) } :: l') a3 w := by
    cases b with
    | true =>
      obtain ⟨a4, e4⟩ : ∃ a4, a4 = a3.put (some (t + 4)) (.int .i64 c) := ⟨_, rfl⟩
      have s4 : a4.tmps.size = S := by rw [e4, put_size]; exact s3
      have k4 : a4.tmps.getD (t + 4) undef = .int .i64 c := by rw [e4, put_getD _ _ _ _ (by omega)]; simp
      have g4 : a4.tmps.getD (t + 3) undef = .bool true := by rw [e4, put_getD _ _ _ _ (by omega), if_neg (by omega)]; exact g3
      have z4 : a4.tmps.getD 0 undef = .int .i64 c := by rw [e4, put_getD _ _ _ _ (by omega), if_neg (by omega)]; exact z3
      have d4 : a4.defers = [] := by rw [e4]; exact d3
      refine ⟨a4.put (some (t + 5)) (.bool q), by rw [put_size]; exact s4, by rw [put_getD _ _ _ _ (by omega), if_neg (by omega)]; exact g4, by rw [put_getD _ _ _ _ (by omega), if_neg (by omega)]; exact z4, d4, fun _ => by rw [put_getD _ _ _ _ (by omega)]; simp, fun ops Q' l' hd2 h => ?_⟩
      refine wpList_step fun K hK => ?_
      rw [if_pos (by simp [Region.wanted, yields hd2 (by omega) g3])]
      unfold Oper.wp
      have hx : (execOp a3.eval { dst := some (t + 4), op := .move (.tmp 0), type := ty, pos := p4, after := f4, guard := some (2, true) }).run P w = .ok (.value (.int .i64 c)) w := by simp [execOp, Act.eval, z3]
      rw [hx]
      refine hK _ _ ?_
      show wpList _ _ _ _ (a3.put (some (t + 4)) (.int .i64 c)) _
      rw [← e4]
      refine wpList_step fun K hK => ?_
      rw [if_pos (by simp [Region.wanted, yields hd2 (by omega) g4])]
      unfold Oper.wp
      have hx : (execOp a4.eval { dst := some (t + 5), op := .binOp .leq ty' (.tmp (t + 4)) (.const (.int .i64 hi)) ty', type := ty2, pos := p5, after := f5, guard := some (2, true) }).run P w = .ok (.value (.bool q)) w := by simp [execOp, Act.eval, k4, eqGuard, go_sem, hq]
      rw [hx]
      exact hK _ _ h
    | false =>
      obtain ⟨a4, e4⟩ : ∃ a4, a4 = a3.put (some (t + 4)) undef := ⟨_, rfl⟩
      have s4 : a4.tmps.size = S := by rw [e4, put_size]; exact s3
      have g4 : a4.tmps.getD (t + 3) undef = .bool false := by rw [e4, put_getD _ _ _ _ (by omega), if_neg (by omega)]; exact g3
      have z4 : a4.tmps.getD 0 undef = .int .i64 c := by rw [e4, put_getD _ _ _ _ (by omega), if_neg (by omega)]; exact z3
      have d4 : a4.defers = [] := by rw [e4]; exact d3
      refine ⟨a4.put (some (t + 5)) undef, by rw [put_size]; exact s4, by rw [put_getD _ _ _ _ (by omega), if_neg (by omega)]; exact g4, by rw [put_getD _ _ _ _ (by omega), if_neg (by omega)]; exact z4, d4, fun h => (by cases h), fun ops Q' l' hd2 h => ?_⟩
      refine wpList_step fun K hK => ?_
      rw [if_neg (by simp [Region.wanted, yields hd2 (by omega) g3])]
      refine hK _ _ ?_
      show wpList _ _ _ _ (a3.put (some (t + 4)) undef) _
      rw [← e4]
      refine wpList_step fun K hK => ?_
      rw [if_neg (by simp [Region.wanted, yields hd2 (by omega) g4])]
      exact hK _ _ h
  refine H5 _ _ _ rfl ?_
  refine Kd.event_run (w1 := w) (v := .bool (b && q)) rfl ?_ ?_
  · cases b with
    | true => simp [execOp, Act.eval, g5, q5 rfl, asBool]
    | false => simp [execOp, Act.eval, g5, asBool]
  obtain ⟨a6, e6⟩ : ∃ a6, a6 = a5.put (some (t + 6)) (.bool (b && q)) := ⟨_, rfl⟩
  have s6 : a6.tmps.size = S := by rw [e6, put_size]; exact s5
  have g6 : a6.tmps.getD (t + 6) undef = .bool (b && q) := by rw [e6, put_getD _ _ _ _ (by omega)]; simp
  have z6 : a6.tmps.getD 0 undef = .int .i64 c := by rw [e6, put_getD _ _ _ _ (by omega), if_neg (by omega)]; exact z5
  have d6 : a6.defers = [] := by rw [e6]; exact d5
  show wpList _ _ _ _ (a5.put (some (t + 6)) (.bool (b && q))) _
  rw [← e6]
  refine Kd.event_run (w1 := w) (v := .bool (b && q)) rfl (by simp [execOp, Act.eval, g6]) (wpList_nil ?_)
  obtain ⟨a7, e7⟩ : ∃ a7, a7 = a6.put (some t) (.bool (b && q)) := ⟨_, rfl⟩
  have s7 : a7.tmps.size = S := by rw [e7, put_size]; exact s6
  have g7 : a7.tmps.getD t undef = .bool (b && q) := by rw [e7, put_getD _ _ _ _ (by omega)]; simp
  have z7 : a7.tmps.getD 0 undef = .int .i64 c := by rw [e7, put_getD _ _ _ _ (by omega), if_neg (by omega)]; exact z6
  have d7 : a7.defers = [] := by rw [e7]; exact d6
  show (Code.cond _ _ _).wp P Q (a6.put (some t) (.bool (b && q))) w
  rw [← e7]
  refine wp_cond_split (t := (b && q)) g7 (fun hb1 => ?_) (fun hb0 => ?_)
  · have hc : lo ≤ c ∧ c ≤ hi := by
      rw [Bool.and_eq_true, hb, hq, decide_eq_true_eq, decide_eq_true_eq] at hb1
      exact hb1
    have hx : x = r := by rw [← hr]; simp [swFrom, hc]
    rw [hx]
    exact sw_ret hQ a7 s7 (by omega) d7
  · have hc : ¬ (lo ≤ c ∧ c ≤ hi) := by
      rw [hb, hq, ← Bool.decide_and, decide_eq_false_iff_not] at hb0
      exact hb0
    refine hrest ?_ a7 z7 s7 d7
    rw [← hr]
    simp only [swFrom]
    rw [if_neg hc]
theorem SwOk.last {S : Nat} (hk : ∀ a : Act, r = 0 → a.tmps.getD 0 undef = .int .i64 c → a.tmps.size = S → a.defers = [] → Q .normal a w) : SwOk P Q w c r S [] Code.skip :=
  fun hr a h0 hs hd => wp_skip (hk a hr.symm h0 hs hd)
end

set_option maxRecDepth 100000 in
theorem ductusref02_Of.calls (a0 : Int) (r : Int) (w : World) (h : ductusref02_Of.f a0 = some r) :
    Calls Try.prog 56 #[.int .i64 a0] w fun e w' => e = .returned (.int .i64 r) ∧ Drawn0 w w' := by
  have hr := Option.some.inj h
  clear h
  go_enter Try.func56, Try.ntmps56
  refine wp_seq (wp_region_list ?_)
  refine Kd.event_run (w1 := w) (v := .int .i64 0) rfl rfl (wpList_nil ?_)
  refine wp_seq (wp_block ?_)
  refine (?_ : ∀ Q, SwQ Q w r 453 → (∀ a : Act, r = 0 → a.tmps.getD 0 undef = .int .i64 a0 → a.tmps.size = 453 → a.defers = [] → Q .normal a w) → SwOk Try.prog Q w a0 r 453 ductusref02_Of.tbl _) _ ?_ ?_ hr _ rfl rfl rfl
  · intro Q hQ hn
    unfold ductusref02_Of.tbl
    refine SwOk.rng hQ (by omega) (by omega) ?_
    refine SwOk.eqc hQ (by omega) (by omega) ?_
    refine SwOk.eqc hQ (by omega) (by omega) ?_
    refine SwOk.eqc hQ (by omega) (by omega) ?_
    refine SwOk.eqc hQ (by omega) (by omega) ?_
    refine SwOk.eqc hQ (by omega) (by omega) ?_
    refine SwOk.rng hQ (by omega) (by omega) ?_
    refine SwOk.rng hQ (by omega) (by omega) ?_
    refine SwOk.eqc hQ (by omega) (by omega) ?_
    refine SwOk.eqc hQ (by omega) (by omega) ?_
    refine SwOk.rng hQ (by omega) (by omega) ?_
    refine SwOk.rng hQ (by omega) (by omega) ?_
    refine SwOk.rng hQ (by omega) (by omega) ?_
    refine SwOk.eqc hQ (by omega) (by omega) ?_
    refine SwOk.eqc hQ (by omega) (by omega) ?_
    refine SwOk.eqc hQ (by omega) (by omega) ?_
    refine SwOk.rng hQ (by omega) (by omega) ?_
    refine SwOk.rng hQ (by omega) (by omega) ?_
    refine SwOk.eqc hQ (by omega) (by omega) ?_
    refine SwOk.rng hQ (by omega) (by omega) ?_
    refine SwOk.rng hQ (by omega) (by omega) ?_
    refine SwOk.rng hQ (by omega) (by omega) ?_
    refine SwOk.rng hQ (by omega) (by omega) ?_
    refine SwOk.eqc hQ (by omega) (by omega) ?_
    refine SwOk.rng hQ (by omega) (by omega) ?_
    refine SwOk.eqc hQ (by omega) (by omega) ?_
    refine SwOk.eqc hQ (by omega) (by omega) ?_
    refine SwOk.rng hQ (by omega) (by omega) ?_
    refine SwOk.rng hQ (by omega) (by omega) ?_
    refine SwOk.rng hQ (by omega) (by omega) ?_
    refine SwOk.eqc hQ (by omega) (by omega) ?_
    refine SwOk.rng hQ (by omega) (by omega) ?_
    refine SwOk.rng hQ (by omega) (by omega) ?_
    refine SwOk.rng hQ (by omega) (by omega) ?_
    refine SwOk.eqc hQ (by omega) (by omega) ?_
    refine SwOk.rng hQ (by omega) (by omega) ?_
    refine SwOk.eqc hQ (by omega) (by omega) ?_
    refine SwOk.rng hQ (by omega) (by omega) ?_
    refine SwOk.eqc hQ (by omega) (by omega) ?_
    refine SwOk.eqc hQ (by omega) (by omega) ?_
    refine SwOk.rng hQ (by omega) (by omega) ?_
    refine SwOk.rng hQ (by omega) (by omega) ?_
    refine SwOk.eqc hQ (by omega) (by omega) ?_
    refine SwOk.eqc hQ (by omega) (by omega) ?_
    refine SwOk.eqc hQ (by omega) (by omega) ?_
    refine SwOk.rng hQ (by omega) (by omega) ?_
    refine SwOk.rng hQ (by omega) (by omega) ?_
    refine SwOk.rng hQ (by omega) (by omega) ?_
    refine SwOk.rng hQ (by omega) (by omega) ?_
    refine SwOk.eqc hQ (by omega) (by omega) ?_
    refine SwOk.rng hQ (by omega) (by omega) ?_
    refine SwOk.eqc hQ (by omega) (by omega) ?_
    refine SwOk.eqc hQ (by omega) (by omega) ?_
    refine SwOk.eqc hQ (by omega) (by omega) ?_
    refine SwOk.rng hQ (by omega) (by omega) ?_
    refine SwOk.rng hQ (by omega) (by omega) ?_
    refine SwOk.rng hQ (by omega) (by omega) ?_
    refine SwOk.rng hQ (by omega) (by omega) ?_
    refine SwOk.eqc hQ (by omega) (by omega) ?_
    refine SwOk.rng hQ (by omega) (by omega) ?_
    refine SwOk.rng hQ (by omega) (by omega) ?_
    refine SwOk.eqc hQ (by omega) (by omega) ?_
    refine SwOk.rng hQ (by omega) (by omega) ?_
    refine SwOk.rng hQ (by omega) (by omega) ?_
    refine SwOk.eqc hQ (by omega) (by omega) ?_
    refine SwOk.rng hQ (by omega) (by omega) ?_
    refine SwOk.eqc hQ (by omega) (by omega) ?_
    refine SwOk.eqc hQ (by omega) (by omega) ?_
    refine SwOk.eqc hQ (by omega) (by omega) ?_
    refine SwOk.eqc hQ (by omega) (by omega) ?_
    refine SwOk.eqc hQ (by omega) (by omega) ?_
    refine SwOk.eqc hQ (by omega) (by omega) ?_
    refine SwOk.eqc hQ (by omega) (by omega) ?_
    refine SwOk.eqc hQ (by omega) (by omega) ?_
    refine SwOk.rng hQ (by omega) (by omega) ?_
    refine SwOk.rng hQ (by omega) (by omega) ?_
    refine SwOk.eqc hQ (by omega) (by omega) ?_
    refine SwOk.eqc hQ (by omega) (by omega) ?_
    refine SwOk.eqc hQ (by omega) (by omega) ?_
    refine SwOk.eqc hQ (by omega) (by omega) ?_
    refine SwOk.eqc hQ (by omega) (by omega) ?_
    refine SwOk.rng hQ (by omega) (by omega) ?_
    refine SwOk.rng hQ (by omega) (by omega) ?_
    refine SwOk.rng hQ (by omega) (by omega) ?_
    refine SwOk.eqc hQ (by omega) (by omega) ?_
    refine SwOk.eqc hQ (by omega) (by omega) ?_
    refine SwOk.rng hQ (by omega) (by omega) ?_
    refine SwOk.rng hQ (by omega) (by omega) ?_
    refine SwOk.eqc hQ (by omega) (by omega) ?_
    refine SwOk.rng hQ (by omega) (by omega) ?_
    exact SwOk.last hn
  · intro a h2 hs hd
    show bodyPost Try.prog Try.f56 (fun e w' => e = .returned (.int .i64 r) ∧ Drawn0 w w') Exit.ret a w
    exact bodyPost_ret (v := .int .i64 r) ((results_tmp rfl _ _ _).trans (by rw [h2])) hd ⟨rfl, Drawn0.refl w⟩
  · intro a h0 h1 hs hd
    subst h0
    refine sw_ret (S := 453) (fun a h2 hs hd => ?_) a hs (by omega) hd
    show bodyPost _ _ _ Exit.ret a w
    exact bodyPost_ret (v := .int .i64 0) ((results_tmp rfl _ _ _).trans (by rw [h2])) hd ⟨rfl, Drawn0.refl w⟩
end Go.Proofs.Ythgmkbghdobmlaa.P
namespace Go.Proofs.Ythgmkbghdobmlaa.P
open Go.RowKit Go.Proofs.YthgmkbghdobmlaaW.PrintWords Go.Proofs.YthgmkbghdobmlaaW.PrintLast Go.Proofs.YthgmkbghdobmlaaW.PrintMore
attribute [local go_sem] min2_int min_two
set_option linter.unusedVariables false
set_option linter.unusedSimpArgs false

-- BY HAND: function 56 (ductusref02_Of)

def ductusref02_Out.f (a0 : Int) : Option (Bool) := if a0 = 9 then (some true) else (if a0 = 14 then (some true) else (if a0 = 15 then (some true) else (if a0 = 16 then (some true) else (if a0 = 17 then (some true) else (some (a0 == 18))))))
set_option maxHeartbeats 8000000 in
set_option maxRecDepth 100000 in
theorem ductusref02_Out.calls (a0 : Int) (r : Bool) (w : World) (h : ductusref02_Out.f a0 = some r) :
    Calls Try.prog 71 #[.int .i64 a0] w fun e w' => e = .returned (.bool r) ∧ Drawn0 w w' := by
  have H : (if a0 = 9 then (some true) else (if a0 = 14 then (some true) else (if a0 = 15 then (some true) else (if a0 = 16 then (some true) else (if a0 = 17 then (some true) else (some (a0 == 18))))))) = some r := h
  clear h
  by_cases c2 : a0 = 9
  · rw [if_pos c2] at H
    have c2b0 : (a0 == 9) = true := beq_iff_eq.mpr c2
    have c2b1 : (a0 != 9) = false := bne_eq_false_iff_eq.mpr c2
    clear c2
    obtain rfl := Option.some.inj H
    go_enter Try.func71, Try.ntmps71
    go_wp2
    go_ret
    exact ⟨by first | rfl | (simp; done) | (simp [*]; done), by repeat (first | exact Drawn0.refl _ | apply Drawn0.step)⟩
  rw [if_neg c2] at H
  have c2b0 : (a0 == 9) = false := beq_eq_false_iff_ne.mpr c2
  have c2b1 : (a0 != 9) = true := bne_iff_ne.mpr c2
  by_cases c3 : a0 = 14
  · rw [if_pos c3] at H
    have c3b0 : (a0 == 14) = true := beq_iff_eq.mpr c3
    have c3b1 : (a0 != 14) = false := bne_eq_false_iff_eq.mpr c3
    clear c3
    obtain rfl := Option.some.inj H
    go_enter Try.func71, Try.ntmps71
    go_wp2
    go_ret
    exact ⟨by first | rfl | (simp; done) | (simp [*]; done), by repeat (first | exact Drawn0.refl _ | apply Drawn0.step)⟩
  rw [if_neg c3] at H
  have c3b0 : (a0 == 14) = false := beq_eq_false_iff_ne.mpr c3
  have c3b1 : (a0 != 14) = true := bne_iff_ne.mpr c3
  by_cases c4 : a0 = 15
  · rw [if_pos c4] at H
    have c4b0 : (a0 == 15) = true := beq_iff_eq.mpr c4
    have c4b1 : (a0 != 15) = false := bne_eq_false_iff_eq.mpr c4
    clear c4
    obtain rfl := Option.some.inj H
    go_enter Try.func71, Try.ntmps71
    go_wp2
    go_ret
    exact ⟨by first | rfl | (simp; done) | (simp [*]; done), by repeat (first | exact Drawn0.refl _ | apply Drawn0.step)⟩
  rw [if_neg c4] at H
  have c4b0 : (a0 == 15) = false := beq_eq_false_iff_ne.mpr c4
  have c4b1 : (a0 != 15) = true := bne_iff_ne.mpr c4
  by_cases c5 : a0 = 16
  · rw [if_pos c5] at H
    have c5b0 : (a0 == 16) = true := beq_iff_eq.mpr c5
    have c5b1 : (a0 != 16) = false := bne_eq_false_iff_eq.mpr c5
    clear c5
    obtain rfl := Option.some.inj H
    go_enter Try.func71, Try.ntmps71
    go_wp2
    go_ret
    exact ⟨by first | rfl | (simp; done) | (simp [*]; done), by repeat (first | exact Drawn0.refl _ | apply Drawn0.step)⟩
  rw [if_neg c5] at H
  have c5b0 : (a0 == 16) = false := beq_eq_false_iff_ne.mpr c5
  have c5b1 : (a0 != 16) = true := bne_iff_ne.mpr c5
  by_cases c6 : a0 = 17
  rotate_left
  · rw [if_neg c6] at H
    have c6b0 : (a0 == 17) = false := beq_eq_false_iff_ne.mpr c6
    have c6b1 : (a0 != 17) = true := bne_iff_ne.mpr c6
    obtain rfl := Option.some.inj H
    go_enter Try.func71, Try.ntmps71
    go_wp2
    go_ret
    exact ⟨by first | rfl | (simp; done) | (simp [*]; done), by repeat (first | exact Drawn0.refl _ | apply Drawn0.step)⟩
  rw [if_pos c6] at H
  have c6b0 : (a0 == 17) = true := beq_iff_eq.mpr c6
  have c6b1 : (a0 != 17) = false := bne_eq_false_iff_eq.mpr c6
  clear c6
  obtain rfl := Option.some.inj H
  go_enter Try.func71, Try.ntmps71
  go_wp2
  go_ret
  exact ⟨by first | rfl | (simp; done) | (simp [*]; done), by repeat (first | exact Drawn0.refl _ | apply Drawn0.step)⟩

def ductusref02_Opens.f (a0 : Int) : Option (Bool) := if a0 = 19 then (some true) else (if a0 = 20 then (some true) else (some (a0 == 21)))
set_option maxHeartbeats 8000000 in
set_option maxRecDepth 100000 in
theorem ductusref02_Opens.calls (a0 : Int) (r : Bool) (w : World) (h : ductusref02_Opens.f a0 = some r) :
    Calls Try.prog 72 #[.int .i64 a0] w fun e w' => e = .returned (.bool r) ∧ Drawn0 w w' := by
  have H : (if a0 = 19 then (some true) else (if a0 = 20 then (some true) else (some (a0 == 21)))) = some r := h
  clear h
  by_cases c2 : a0 = 19
  · rw [if_pos c2] at H
    have c2b0 : (a0 == 19) = true := beq_iff_eq.mpr c2
    have c2b1 : (a0 != 19) = false := bne_eq_false_iff_eq.mpr c2
    clear c2
    obtain rfl := Option.some.inj H
    go_enter Try.func72, Try.ntmps72
    go_wp2
    go_ret
    exact ⟨by first | rfl | (simp; done) | (simp [*]; done), by repeat (first | exact Drawn0.refl _ | apply Drawn0.step)⟩
  rw [if_neg c2] at H
  have c2b0 : (a0 == 19) = false := beq_eq_false_iff_ne.mpr c2
  have c2b1 : (a0 != 19) = true := bne_iff_ne.mpr c2
  by_cases c3 : a0 = 20
  rotate_left
  · rw [if_neg c3] at H
    have c3b0 : (a0 == 20) = false := beq_eq_false_iff_ne.mpr c3
    have c3b1 : (a0 != 20) = true := bne_iff_ne.mpr c3
    obtain rfl := Option.some.inj H
    go_enter Try.func72, Try.ntmps72
    go_wp2
    go_ret
    exact ⟨by first | rfl | (simp; done) | (simp [*]; done), by repeat (first | exact Drawn0.refl _ | apply Drawn0.step)⟩
  rw [if_pos c3] at H
  have c3b0 : (a0 == 20) = true := beq_iff_eq.mpr c3
  have c3b1 : (a0 != 20) = false := bne_eq_false_iff_eq.mpr c3
  clear c3
  obtain rfl := Option.some.inj H
  go_enter Try.func72, Try.ntmps72
  go_wp2
  go_ret
  exact ⟨by first | rfl | (simp; done) | (simp [*]; done), by repeat (first | exact Drawn0.refl _ | apply Drawn0.step)⟩

def ductusref23_Control.f (a0 : Int) : Option (Bool) := (ductusref02_Of.f a0).bind fun t357 => ((ductusref02_Out.f t357).bind fun t358 => (if t358 = true then (some true) else ((ductusref02_Opens.f t357).bind fun t359 => (if t359 = true then (some true) else (some (t357 == 22))))))
set_option maxHeartbeats 8000000 in
set_option maxRecDepth 100000 in
theorem ductusref23_Control.calls (a0 : Int) (r : Bool) (w : World) (h : ductusref23_Control.f a0 = some r) :
    Calls Try.prog 53 #[.int .i64 a0] w fun e w' => e = .returned (.bool r) ∧ Drawn0 w w' := by
  have H : ((ductusref02_Of.f a0).bind fun t357 => ((ductusref02_Out.f t357).bind fun t358 => (if t358 = true then (some true) else ((ductusref02_Opens.f t357).bind fun t359 => (if t359 = true then (some true) else (some (t357 == 22))))))) = some r := h
  clear h
  replace H := Option.bind_eq_some_iff.mp H
  obtain ⟨t357, A20, H⟩ := H
  replace H : ((ductusref02_Out.f t357).bind fun t358 => (if t358 = true then (some true) else ((ductusref02_Opens.f t357).bind fun t359 => (if t359 = true then (some true) else (some (t357 == 22)))))) = some r := H
  have A2 := Aside0.mk A20
  clear A20
  replace H := Option.bind_eq_some_iff.mp H
  obtain ⟨t358, A30, H⟩ := H
  replace H : (if t358 = true then (some true) else ((ductusref02_Opens.f t357).bind fun t359 => (if t359 = true then (some true) else (some (t357 == 22))))) = some r := H
  have A3 := Aside0.mk A30
  clear A30
  by_cases c4 : t358 = true
  · subst c4
    have H1 : (some true) = some r := by rw [if_pos rfl] at H; exact H
    clear H
    have H := H1
    clear H1
    obtain rfl := Option.some.inj H
    go_enter Try.func53, Try.ntmps53
    go_wp2_with (first | ((with_reducible refine gate_callee (f := 56) rfl ?_); refine goesL_ (some 5) rfl rfl Try.func56 (by kernel_rfl) rfl #[.int .i64 a0] rfl (by (try simp only [List.map_toArray, List.map_cons, List.map_nil]); first | done | rfl | (simp only [List.length_drop, List.length_take]; rfl)) ?_; (with_reducible refine (ductusref02_Of.calls a0 t357 _ A2.out).mono ?_); rintro e w' ⟨rfl, ⟨nd, rfl⟩⟩; refine ⟨_, rfl, ?_⟩) | ((with_reducible refine gate_callee (f := 71) rfl ?_); refine goesL_ (some 7) rfl rfl Try.func71 (by kernel_rfl) rfl #[.int .i64 t357] rfl (by (try simp only [List.map_toArray, List.map_cons, List.map_nil]); first | done | rfl | (simp only [List.length_drop, List.length_take]; rfl)) ?_; (with_reducible refine (ductusref02_Out.calls t357 true _ A3.out).mono ?_); rintro e w' ⟨rfl, ⟨nd, rfl⟩⟩; refine ⟨_, rfl, ?_⟩))
    go_ret
    exact ⟨by first | rfl | (simp; done) | (simp [*]; done), by repeat (first | exact Drawn0.refl _ | apply Drawn0.step)⟩
  replace c4 := Bool.eq_false_iff.mpr c4
  subst c4
  have H1 : ((ductusref02_Opens.f t357).bind fun t359 => (if t359 = true then (some true) else (some (t357 == 22)))) = some r := by rw [if_neg (show ¬ (false = true) by decide)] at H; exact H
  clear H
  have H := H1
  clear H1
  replace H := Option.bind_eq_some_iff.mp H
  obtain ⟨t359, A50, H⟩ := H
  replace H : (if t359 = true then (some true) else (some (t357 == 22))) = some r := H
  have A5 := Aside0.mk A50
  clear A50
  by_cases c6 : t359 = true
  · subst c6
    have H1 : (some true) = some r := by rw [if_pos rfl] at H; exact H
    clear H
    have H := H1
    clear H1
    obtain rfl := Option.some.inj H
    go_enter Try.func53, Try.ntmps53
    go_wp2_with (first | ((with_reducible refine gate_callee (f := 56) rfl ?_); refine goesL_ (some 5) rfl rfl Try.func56 (by kernel_rfl) rfl #[.int .i64 a0] rfl (by (try simp only [List.map_toArray, List.map_cons, List.map_nil]); first | done | rfl | (simp only [List.length_drop, List.length_take]; rfl)) ?_; (with_reducible refine (ductusref02_Of.calls a0 t357 _ A2.out).mono ?_); rintro e w' ⟨rfl, ⟨nd, rfl⟩⟩; refine ⟨_, rfl, ?_⟩) | ((with_reducible refine gate_callee (f := 71) rfl ?_); refine goesL_ (some 7) rfl rfl Try.func71 (by kernel_rfl) rfl #[.int .i64 t357] rfl (by (try simp only [List.map_toArray, List.map_cons, List.map_nil]); first | done | rfl | (simp only [List.length_drop, List.length_take]; rfl)) ?_; (with_reducible refine (ductusref02_Out.calls t357 false _ A3.out).mono ?_); rintro e w' ⟨rfl, ⟨nd, rfl⟩⟩; refine ⟨_, rfl, ?_⟩) | (go_at_call 72; (with_reducible refine (ductusref02_Opens.calls t357 true _ A5.out).mono ?_); rintro e w' ⟨rfl, ⟨nd, rfl⟩⟩))
    go_ret
    exact ⟨by first | rfl | (simp; done) | (simp [*]; done), by repeat (first | exact Drawn0.refl _ | apply Drawn0.step)⟩
  replace c6 := Bool.eq_false_iff.mpr c6
  subst c6
  have H1 : (some (t357 == 22)) = some r := by rw [if_neg (show ¬ (false = true) by decide)] at H; exact H
  clear H
  have H := H1
  clear H1
  obtain rfl := Option.some.inj H
  go_enter Try.func53, Try.ntmps53
  go_wp2_with (first | ((with_reducible refine gate_callee (f := 56) rfl ?_); refine goesL_ (some 5) rfl rfl Try.func56 (by kernel_rfl) rfl #[.int .i64 a0] rfl (by (try simp only [List.map_toArray, List.map_cons, List.map_nil]); first | done | rfl | (simp only [List.length_drop, List.length_take]; rfl)) ?_; (with_reducible refine (ductusref02_Of.calls a0 t357 _ A2.out).mono ?_); rintro e w' ⟨rfl, ⟨nd, rfl⟩⟩; refine ⟨_, rfl, ?_⟩) | ((with_reducible refine gate_callee (f := 71) rfl ?_); refine goesL_ (some 7) rfl rfl Try.func71 (by kernel_rfl) rfl #[.int .i64 t357] rfl (by (try simp only [List.map_toArray, List.map_cons, List.map_nil]); first | done | rfl | (simp only [List.length_drop, List.length_take]; rfl)) ?_; (with_reducible refine (ductusref02_Out.calls t357 false _ A3.out).mono ?_); rintro e w' ⟨rfl, ⟨nd, rfl⟩⟩; refine ⟨_, rfl, ?_⟩) | (go_at_call 72; (with_reducible refine (ductusref02_Opens.calls t357 false _ A5.out).mono ?_); rintro e w' ⟨rfl, ⟨nd, rfl⟩⟩))
  go_ret
  exact ⟨by first | rfl | (simp; done) | (simp [*]; done), by repeat (first | exact Drawn0.refl _ | apply Drawn0.step)⟩

mutual
def ductusref04_Of.j0 : Nat → Int → Bool → Option (Int)
  | 0, _, _ => none
  | k + 1, x0, x3 => if x3 = true then (ductusref04_Of.j4 k x0 x3) else (if x0 ≥ 192 then (ductusref04_Of.j1 k x0 (decide (x0 ≤ 214))) else (ductusref04_Of.j1 k x0 false))
def ductusref04_Of.j4 : Nat → Int → Bool → Option (Int)
  | 0, _, _ => none
  | k + 1, x0, x3 => if x3 = true then (some (wrap64 (x0 + 32))) else (if x0 ≥ 1024 then (ductusref04_Of.j5 k x0 (decide (x0 ≤ 1039))) else (ductusref04_Of.j5 k x0 false))
def ductusref04_Of.j5 : Nat → Int → Bool → Option (Int)
  | 0, _, _ => none
  | k + 1, x0, x42 => if x42 = true then (some (wrap64 (x0 + 80))) else (if x0 = 181 then (some 956) else (if x0 = 962 then (some 963) else (if x0 = 7838 then (some 223) else (some x0))))
def ductusref04_Of.j1 : Nat → Int → Bool → Option (Int)
  | 0, _, _ => none
  | k + 1, x0, x3 => if x3 = true then (ductusref04_Of.j4 k x0 x3) else (if x0 ≥ 216 then (ductusref04_Of.j2 k x0 (decide (x0 ≤ 222))) else (ductusref04_Of.j2 k x0 false))
def ductusref04_Of.j2 : Nat → Int → Bool → Option (Int)
  | 0, _, _ => none
  | k + 1, x0, x3 => if x3 = true then (ductusref04_Of.j4 k x0 x3) else (if x0 ≥ 913 then (ductusref04_Of.j3 k x0 (decide (x0 ≤ 929))) else (ductusref04_Of.j3 k x0 false))
def ductusref04_Of.j3 : Nat → Int → Bool → Option (Int)
  | 0, _, _ => none
  | k + 1, x0, x3 => if x3 = true then (ductusref04_Of.j4 k x0 x3) else (if x0 ≥ 931 then (if x0 ≤ 937 then (ductusref04_Of.j4 k x0 (decide (x0 ≤ 937))) else (if x0 ≥ 1040 then (ductusref04_Of.j4 k x0 (decide (x0 ≤ 1071))) else (ductusref04_Of.j4 k x0 false))) else (if x0 ≥ 1040 then (ductusref04_Of.j4 k x0 (decide (x0 ≤ 1071))) else (ductusref04_Of.j4 k x0 false)))
end
def ductusref04_Of.f (k : Nat) (a0 : Int) : Option (Int) := if a0 ≥ 65 then (ductusref04_Of.j0 k a0 (decide (a0 ≤ 90))) else (ductusref04_Of.j0 k a0 false)
theorem ductusref04_Of.mono_l : ∀ k, (∀ y0 y1, LeO (ductusref04_Of.j0 k y0 y1) (ductusref04_Of.j0 (k + 1) y0 y1)) ∧ (∀ y0 y1, LeO (ductusref04_Of.j4 k y0 y1) (ductusref04_Of.j4 (k + 1) y0 y1)) ∧ (∀ y0 y1, LeO (ductusref04_Of.j5 k y0 y1) (ductusref04_Of.j5 (k + 1) y0 y1)) ∧ (∀ y0 y1, LeO (ductusref04_Of.j1 k y0 y1) (ductusref04_Of.j1 (k + 1) y0 y1)) ∧ (∀ y0 y1, LeO (ductusref04_Of.j2 k y0 y1) (ductusref04_Of.j2 (k + 1) y0 y1)) ∧ (∀ y0 y1, LeO (ductusref04_Of.j3 k y0 y1) (ductusref04_Of.j3 (k + 1) y0 y1))
  | 0 => ⟨fun _ _ r h => by simp [ductusref04_Of.j0] at h, fun _ _ r h => by simp [ductusref04_Of.j4] at h, fun _ _ r h => by simp [ductusref04_Of.j5] at h, fun _ _ r h => by simp [ductusref04_Of.j1] at h, fun _ _ r h => by simp [ductusref04_Of.j2] at h, fun _ _ r h => by simp [ductusref04_Of.j3] at h⟩
  | k + 1 => by
    obtain ⟨ih0, ih1, ih2, ih3, ih4, ih5⟩ := ductusref04_Of.mono_l k
    refine ⟨?_, ?_, ?_, ?_, ?_, ?_⟩
    · intro y0 y1
      unfold ductusref04_Of.j0
      repeat' first
      | (with_reducible exact ih0 _ _)
      | (with_reducible exact ih1 _ _)
      | (with_reducible exact ih2 _ _)
      | (with_reducible exact ih3 _ _)
      | (with_reducible exact ih4 _ _)
      | (with_reducible exact ih5 _ _)
      | (with_reducible exact LeO.refl _)
      | (with_reducible exact LeO.none _)
      | (with_reducible refine LeO.ite ?_ ?_)
      | (with_reducible refine LeO.bind ?_ (fun _ => ?_))
      | exact ih0 _ _
      | exact ih1 _ _
      | exact ih2 _ _
      | exact ih3 _ _
      | exact ih4 _ _
      | exact ih5 _ _
      | exact LeO.none _
      | refine LeO.ite ?_ ?_
      | refine LeO.bind ?_ (fun _ => ?_)
    · intro y0 y1
      unfold ductusref04_Of.j4
      repeat' first
      | (with_reducible exact ih0 _ _)
      | (with_reducible exact ih1 _ _)
      | (with_reducible exact ih2 _ _)
      | (with_reducible exact ih3 _ _)
      | (with_reducible exact ih4 _ _)
      | (with_reducible exact ih5 _ _)
      | (with_reducible exact LeO.refl _)
      | (with_reducible exact LeO.none _)
      | (with_reducible refine LeO.ite ?_ ?_)
      | (with_reducible refine LeO.bind ?_ (fun _ => ?_))
      | exact ih0 _ _
      | exact ih1 _ _
      | exact ih2 _ _
      | exact ih3 _ _
      | exact ih4 _ _
      | exact ih5 _ _
      | exact LeO.none _
      | refine LeO.ite ?_ ?_
      | refine LeO.bind ?_ (fun _ => ?_)
    · intro y0 y1
      unfold ductusref04_Of.j5
      repeat' first
      | (with_reducible exact ih0 _ _)
      | (with_reducible exact ih1 _ _)
      | (with_reducible exact ih2 _ _)
      | (with_reducible exact ih3 _ _)
      | (with_reducible exact ih4 _ _)
      | (with_reducible exact ih5 _ _)
      | (with_reducible exact LeO.refl _)
      | (with_reducible exact LeO.none _)
      | (with_reducible refine LeO.ite ?_ ?_)
      | (with_reducible refine LeO.bind ?_ (fun _ => ?_))
      | exact ih0 _ _
      | exact ih1 _ _
      | exact ih2 _ _
      | exact ih3 _ _
      | exact ih4 _ _
      | exact ih5 _ _
      | exact LeO.none _
      | refine LeO.ite ?_ ?_
      | refine LeO.bind ?_ (fun _ => ?_)
    · intro y0 y1
      unfold ductusref04_Of.j1
      repeat' first
      | (with_reducible exact ih0 _ _)
      | (with_reducible exact ih1 _ _)
      | (with_reducible exact ih2 _ _)
      | (with_reducible exact ih3 _ _)
      | (with_reducible exact ih4 _ _)
      | (with_reducible exact ih5 _ _)
      | (with_reducible exact LeO.refl _)
      | (with_reducible exact LeO.none _)
      | (with_reducible refine LeO.ite ?_ ?_)
      | (with_reducible refine LeO.bind ?_ (fun _ => ?_))
      | exact ih0 _ _
      | exact ih1 _ _
      | exact ih2 _ _
      | exact ih3 _ _
      | exact ih4 _ _
      | exact ih5 _ _
      | exact LeO.none _
      | refine LeO.ite ?_ ?_
      | refine LeO.bind ?_ (fun _ => ?_)
    · intro y0 y1
      unfold ductusref04_Of.j2
      repeat' first
      | (with_reducible exact ih0 _ _)
      | (with_reducible exact ih1 _ _)
      | (with_reducible exact ih2 _ _)
      | (with_reducible exact ih3 _ _)
      | (with_reducible exact ih4 _ _)
      | (with_reducible exact ih5 _ _)
      | (with_reducible exact LeO.refl _)
      | (with_reducible exact LeO.none _)
      | (with_reducible refine LeO.ite ?_ ?_)
      | (with_reducible refine LeO.bind ?_ (fun _ => ?_))
      | exact ih0 _ _
      | exact ih1 _ _
      | exact ih2 _ _
      | exact ih3 _ _
      | exact ih4 _ _
      | exact ih5 _ _
      | exact LeO.none _
      | refine LeO.ite ?_ ?_
      | refine LeO.bind ?_ (fun _ => ?_)
    · intro y0 y1
      unfold ductusref04_Of.j3
      repeat' first
      | (with_reducible exact ih0 _ _)
      | (with_reducible exact ih1 _ _)
      | (with_reducible exact ih2 _ _)
      | (with_reducible exact ih3 _ _)
      | (with_reducible exact ih4 _ _)
      | (with_reducible exact ih5 _ _)
      | (with_reducible exact LeO.refl _)
      | (with_reducible exact LeO.none _)
      | (with_reducible refine LeO.ite ?_ ?_)
      | (with_reducible refine LeO.bind ?_ (fun _ => ?_))
      | exact ih0 _ _
      | exact ih1 _ _
      | exact ih2 _ _
      | exact ih3 _ _
      | exact ih4 _ _
      | exact ih5 _ _
      | exact LeO.none _
      | refine LeO.ite ?_ ?_
      | refine LeO.bind ?_ (fun _ => ?_)
theorem ductusref04_Of.mono : ∀ a0 k, LeO (ductusref04_Of.f k a0) (ductusref04_Of.f (k + 1) a0) := by
  intro a0 k
  obtain ⟨ih0, ih1, ih2, ih3, ih4, ih5⟩ := ductusref04_Of.mono_l k
  unfold ductusref04_Of.f
  repeat' first
      | (with_reducible exact ih0 _ _)
      | (with_reducible exact ih1 _ _)
      | (with_reducible exact ih2 _ _)
      | (with_reducible exact ih3 _ _)
      | (with_reducible exact ih4 _ _)
      | (with_reducible exact ih5 _ _)
      | (with_reducible exact LeO.refl _)
      | (with_reducible exact LeO.none _)
      | (with_reducible refine LeO.ite ?_ ?_)
      | (with_reducible refine LeO.bind ?_ (fun _ => ?_))
      | exact ih0 _ _
      | exact ih1 _ _
      | exact ih2 _ _
      | exact ih3 _ _
      | exact ih4 _ _
      | exact ih5 _ _
      | exact LeO.none _
      | refine LeO.ite ?_ ?_
      | refine LeO.bind ?_ (fun _ => ?_)
set_option maxHeartbeats 8000000 in
set_option maxRecDepth 100000 in
theorem ductusref04_Of.calls (k : Nat) (a0 : Int) (r : Int) (w : World) (h : ductusref04_Of.f k a0 = some r) :
    Calls Try.prog 54 #[.int .i64 a0] w fun e w' => e = .returned (.int .i64 r) ∧ Drawn0 w w' := by
  have H : (if a0 ≥ 65 then (ductusref04_Of.j0 k a0 (decide (a0 ≤ 90))) else (ductusref04_Of.j0 k a0 false)) = some r := h
  clear h
  have HC2 := Aside0.mk H
  clear H
  go_enter Try.func54, Try.ntmps54
  go_upto_region 1 with (fail)
  go_cut [3] (fun v3 wc => ∃ (kq : Nat) (x3_1 : Bool), v3 = .bool x3_1 ∧ Aside0 (ductusref04_Of.j0 kq a0 x3_1 = some r) ∧ Aside0 (kq ≤ k) ∧ Drawn0 w wc)
  case first =>
    have H := HC2.out
    clear HC2
    by_cases c3 : a0 ≥ 65
    rotate_left
    · rw [if_neg c3] at H
      have c3b0 : decide (65 ≤ a0) = false := decide_eq_false c3
      clear c3
      (first | rw [c3b0] | (simp only [i64_w, i32_w]; rw [c3b0]) | skip)
      have H' := Aside0.mk H
      clear H
      go_wp2
      go_meet
      case rel => exact ⟨_, (false), (by first | rfl | (simp; done) | (simp [*]; done)), H', ⟨by first | omega | exact Nat.le_refl _⟩, by repeat (first | exact Drawn0.refl _ | apply Drawn0.step)⟩
    rw [if_pos c3] at H
    have c3b0 : decide (65 ≤ a0) = true := decide_eq_true c3
    clear c3
    (first | rw [c3b0] | (simp only [i64_w, i32_w]; rw [c3b0]) | skip)
    have H' := Aside0.mk H
    clear H
    go_wp2
    go_meet
    case rel => exact ⟨_, (decide (a0 ≤ 90)), (by first | rfl | (simp; done) | (simp [*]; done)), H', ⟨by first | omega | exact Nat.le_refl _⟩, by repeat (first | exact Drawn0.refl _ | apply Drawn0.step)⟩
  case rest =>
    clear HC2
    try clear p2
    try clear c3
    try clear c3b0
    obtain ⟨kq, x3_1, rfl, HA, HJ1, ⟨mc1, rfl⟩⟩ := hcut
    cases kq with
    | zero => exact absurd HA.out (by simp [ductusref04_Of.j0])
    | succ kj1 =>
      have H := HA.out
      clear HA
      simp only [ductusref04_Of.j0] at H
      have HC4 := Aside0.mk H
      clear H
      go_upto_if 3 with (fail)
      go_cut [3] (fun v3 wc => ∃ (kq : Nat) (x3_3 : Bool), v3 = .bool x3_3 ∧ Aside0 (ductusref04_Of.j4 kq a0 x3_3 = some r) ∧ Aside0 (kq ≤ kj1) ∧ Drawn0 w wc)
      case first =>
        have H := HC4.out
        clear HC4
        by_cases c5 : x3_1 = true
        · subst c5
          have H1 : (ductusref04_Of.j4 kj1 a0 true) = some r := by rw [if_pos rfl] at H; exact H
          clear H
          have H := H1
          clear H1
          have H' := Aside0.mk H
          clear H
          go_wp2
          go_meet
          case rel => exact ⟨_, (true), (by first | rfl | (simp; done) | (simp [*]; done)), H', ⟨by have := HJ1.out; first | omega | exact Nat.le_refl _⟩, by repeat (first | exact Drawn0.refl _ | apply Drawn0.step)⟩
        replace c5 := Bool.eq_false_iff.mpr c5
        subst c5
        have H1 : (if a0 ≥ 192 then (ductusref04_Of.j1 kj1 a0 (decide (a0 ≤ 214))) else (ductusref04_Of.j1 kj1 a0 false)) = some r := by rw [if_neg (show ¬ (false = true) by decide)] at H; exact H
        clear H
        have H := H1
        clear H1
        have HC6 := Aside0.mk H
        clear H
        go_upto_region 2 with (fail)
        go_cut [3] (fun v3 wc => ∃ (kq : Nat) (x3_5 : Bool), v3 = .bool x3_5 ∧ Aside0 (ductusref04_Of.j1 kq a0 x3_5 = some r) ∧ Aside0 (kq ≤ kj1) ∧ Drawn0 w wc)
        case first =>
          have H := HC6.out
          clear HC6
          by_cases c7 : a0 ≥ 192
          rotate_left
          · rw [if_neg c7] at H
            have c7b0 : decide (192 ≤ a0) = false := decide_eq_false c7
            clear c7
            (first | rw [c7b0] | (simp only [i64_w, i32_w]; rw [c7b0]) | skip)
            have H' := Aside0.mk H
            clear H
            go_wp2
            go_meet
            case rel => exact ⟨_, (false), (by first | rfl | (simp; done) | (simp [*]; done)), H', ⟨by have := HJ1.out; first | omega | exact Nat.le_refl _⟩, by repeat (first | exact Drawn0.refl _ | apply Drawn0.step)⟩
          rw [if_pos c7] at H
          have c7b0 : decide (192 ≤ a0) = true := decide_eq_true c7
          clear c7
          (first | rw [c7b0] | (simp only [i64_w, i32_w]; rw [c7b0]) | skip)
          have H' := Aside0.mk H
          clear H
          go_wp2
          go_meet
          case rel => exact ⟨_, (decide (a0 ≤ 214)), (by first | rfl | (simp; done) | (simp [*]; done)), H', ⟨by have := HJ1.out; first | omega | exact Nat.le_refl _⟩, by repeat (first | exact Drawn0.refl _ | apply Drawn0.step)⟩
        case rest =>
          clear HC6
          try clear c1
          try clear p2
          try clear c3
          try clear c3b0
          try clear c5
          try clear c7
          try clear c7b0
          try clear p2
          obtain ⟨kq, x3_5, rfl, HA, HJ5, ⟨mc5, rfl⟩⟩ := hcut
          cases kq with
          | zero => exact absurd HA.out (by simp [ductusref04_Of.j1])
          | succ kj5 =>
            have H := HA.out
            clear HA
            simp only [ductusref04_Of.j1] at H
            by_cases c8 : x3_5 = true
            · subst c8
              have H1 : (ductusref04_Of.j4 kj5 a0 true) = some r := by rw [if_pos rfl] at H; exact H
              clear H
              have H := H1
              clear H1
              have H' := Aside0.mk H
              clear H
              go_wp2
              go_meet
              case rel => exact ⟨_, (true), (by first | rfl | (simp; done) | (simp [*]; done)), H', ⟨by have := HJ1.out; have := HJ5.out; first | omega | exact Nat.le_refl _⟩, by repeat (first | exact Drawn0.refl _ | apply Drawn0.step)⟩
            replace c8 := Bool.eq_false_iff.mpr c8
            subst c8
            have H1 : (if a0 ≥ 216 then (ductusref04_Of.j2 kj5 a0 (decide (a0 ≤ 222))) else (ductusref04_Of.j2 kj5 a0 false)) = some r := by rw [if_neg (show ¬ (false = true) by decide)] at H; exact H
            clear H
            have H := H1
            clear H1
            have HC9 := Aside0.mk H
            clear H
            go_upto_region 3 with (fail)
            go_cut [3] (fun v3 wc => ∃ (kq : Nat) (x3_8 : Bool), v3 = .bool x3_8 ∧ Aside0 (ductusref04_Of.j2 kq a0 x3_8 = some r) ∧ Aside0 (kq ≤ kj5) ∧ Drawn0 w wc)
            case first =>
              have H := HC9.out
              clear HC9
              by_cases c10 : a0 ≥ 216
              rotate_left
              · rw [if_neg c10] at H
                have c10b0 : decide (216 ≤ a0) = false := decide_eq_false c10
                clear c10
                (first | rw [c10b0] | (simp only [i64_w, i32_w]; rw [c10b0]) | skip)
                have H' := Aside0.mk H
                clear H
                go_wp2
                go_meet
                case rel => exact ⟨_, (false), (by first | rfl | (simp; done) | (simp [*]; done)), H', ⟨by have := HJ1.out; have := HJ5.out; first | omega | exact Nat.le_refl _⟩, by repeat (first | exact Drawn0.refl _ | apply Drawn0.step)⟩
              rw [if_pos c10] at H
              have c10b0 : decide (216 ≤ a0) = true := decide_eq_true c10
              clear c10
              (first | rw [c10b0] | (simp only [i64_w, i32_w]; rw [c10b0]) | skip)
              have H' := Aside0.mk H
              clear H
              go_wp2
              go_meet
              case rel => exact ⟨_, (decide (a0 ≤ 222)), (by first | rfl | (simp; done) | (simp [*]; done)), H', ⟨by have := HJ1.out; have := HJ5.out; first | omega | exact Nat.le_refl _⟩, by repeat (first | exact Drawn0.refl _ | apply Drawn0.step)⟩
            case rest =>
              clear HC9
              try clear c1
              try clear p2
              try clear c3
              try clear c3b0
              try clear c5
              try clear c7
              try clear c7b0
              try clear c8
              try clear c10
              try clear c10b0
              try clear p2
              obtain ⟨kq, x3_8, rfl, HA, HJ8, ⟨mc8, rfl⟩⟩ := hcut
              cases kq with
              | zero => exact absurd HA.out (by simp [ductusref04_Of.j2])
              | succ kj8 =>
                have H := HA.out
                clear HA
                simp only [ductusref04_Of.j2] at H
                by_cases c11 : x3_8 = true
                · subst c11
                  have H1 : (ductusref04_Of.j4 kj8 a0 true) = some r := by rw [if_pos rfl] at H; exact H
                  clear H
                  have H := H1
                  clear H1
                  have H' := Aside0.mk H
                  clear H
                  go_wp2
                  go_meet
                  case rel => exact ⟨_, (true), (by first | rfl | (simp; done) | (simp [*]; done)), H', ⟨by have := HJ1.out; have := HJ5.out; have := HJ8.out; first | omega | exact Nat.le_refl _⟩, by repeat (first | exact Drawn0.refl _ | apply Drawn0.step)⟩
                replace c11 := Bool.eq_false_iff.mpr c11
                subst c11
                have H1 : (if a0 ≥ 913 then (ductusref04_Of.j3 kj8 a0 (decide (a0 ≤ 929))) else (ductusref04_Of.j3 kj8 a0 false)) = some r := by rw [if_neg (show ¬ (false = true) by decide)] at H; exact H
                clear H
                have H := H1
                clear H1
                have HC12 := Aside0.mk H
                clear H
                go_upto_region 4 with (fail)
                go_cut [3] (fun v3 wc => ∃ (kq : Nat) (x3_11 : Bool), v3 = .bool x3_11 ∧ Aside0 (ductusref04_Of.j3 kq a0 x3_11 = some r) ∧ Aside0 (kq ≤ kj8) ∧ Drawn0 w wc)
                case first =>
                  have H := HC12.out
                  clear HC12
                  by_cases c13 : a0 ≥ 913
                  rotate_left
                  · rw [if_neg c13] at H
                    have c13b0 : decide (913 ≤ a0) = false := decide_eq_false c13
                    clear c13
                    (first | rw [c13b0] | (simp only [i64_w, i32_w]; rw [c13b0]) | skip)
                    have H' := Aside0.mk H
                    clear H
                    go_wp2
                    go_meet
                    case rel => exact ⟨_, (false), (by first | rfl | (simp; done) | (simp [*]; done)), H', ⟨by have := HJ1.out; have := HJ5.out; have := HJ8.out; first | omega | exact Nat.le_refl _⟩, by repeat (first | exact Drawn0.refl _ | apply Drawn0.step)⟩
                  rw [if_pos c13] at H
                  have c13b0 : decide (913 ≤ a0) = true := decide_eq_true c13
                  clear c13
                  (first | rw [c13b0] | (simp only [i64_w, i32_w]; rw [c13b0]) | skip)
                  have H' := Aside0.mk H
                  clear H
                  go_wp2
                  go_meet
                  case rel => exact ⟨_, (decide (a0 ≤ 929)), (by first | rfl | (simp; done) | (simp [*]; done)), H', ⟨by have := HJ1.out; have := HJ5.out; have := HJ8.out; first | omega | exact Nat.le_refl _⟩, by repeat (first | exact Drawn0.refl _ | apply Drawn0.step)⟩
                case rest =>
                  clear HC12
                  try clear c1
                  try clear p2
                  try clear c3
                  try clear c3b0
                  try clear c5
                  try clear c7
                  try clear c7b0
                  try clear c8
                  try clear c10
                  try clear c10b0
                  try clear c11
                  try clear c13
                  try clear c13b0
                  try clear p2
                  obtain ⟨kq, x3_11, rfl, HA, HJ11, ⟨mc11, rfl⟩⟩ := hcut
                  cases kq with
                  | zero => exact absurd HA.out (by simp [ductusref04_Of.j3])
                  | succ kj11 =>
                    have H := HA.out
                    clear HA
                    simp only [ductusref04_Of.j3] at H
                    by_cases c14 : x3_11 = true
                    · subst c14
                      have H1 : (ductusref04_Of.j4 kj11 a0 true) = some r := by rw [if_pos rfl] at H; exact H
                      clear H
                      have H := H1
                      clear H1
                      have H' := Aside0.mk H
                      clear H
                      go_wp2
                      go_meet
                      case rel => exact ⟨_, (true), (by first | rfl | (simp; done) | (simp [*]; done)), H', ⟨by have := HJ1.out; have := HJ5.out; have := HJ8.out; have := HJ11.out; first | omega | exact Nat.le_refl _⟩, by repeat (first | exact Drawn0.refl _ | apply Drawn0.step)⟩
                    replace c14 := Bool.eq_false_iff.mpr c14
                    subst c14
                    have H1 : (if a0 ≥ 931 then (if a0 ≤ 937 then (ductusref04_Of.j4 kj11 a0 (decide (a0 ≤ 937))) else (if a0 ≥ 1040 then (ductusref04_Of.j4 kj11 a0 (decide (a0 ≤ 1071))) else (ductusref04_Of.j4 kj11 a0 false))) else (if a0 ≥ 1040 then (ductusref04_Of.j4 kj11 a0 (decide (a0 ≤ 1071))) else (ductusref04_Of.j4 kj11 a0 false))) = some r := by rw [if_neg (show ¬ (false = true) by decide)] at H; exact H
                    clear H
                    have H := H1
                    clear H1
                    by_cases c15 : a0 ≥ 931
                    rotate_left
                    · rw [if_neg c15] at H
                      have c15b0 : decide (931 ≤ a0) = false := decide_eq_false c15
                      clear c15
                      by_cases c18 : a0 ≥ 1040
                      rotate_left
                      · rw [if_neg c18] at H
                        have c18b0 : decide (1040 ≤ a0) = false := decide_eq_false c18
                        clear c18
                        have H' := Aside0.mk H
                        clear H
                        go_wp2
                        go_meet
                        case rel => exact ⟨_, (false), (by first | rfl | (simp; done) | (simp [*]; done)), H', ⟨by have := HJ1.out; have := HJ5.out; have := HJ8.out; have := HJ11.out; first | omega | exact Nat.le_refl _⟩, by repeat (first | exact Drawn0.refl _ | apply Drawn0.step)⟩
                      rw [if_pos c18] at H
                      have c18b0 : decide (1040 ≤ a0) = true := decide_eq_true c18
                      clear c18
                      have H' := Aside0.mk H
                      clear H
                      go_wp2
                      go_meet
                      case rel => exact ⟨_, (decide (a0 ≤ 1071)), (by first | rfl | (simp; done) | (simp [*]; done)), H', ⟨by have := HJ1.out; have := HJ5.out; have := HJ8.out; have := HJ11.out; first | omega | exact Nat.le_refl _⟩, by repeat (first | exact Drawn0.refl _ | apply Drawn0.step)⟩
                    rw [if_pos c15] at H
                    have c15b0 : decide (931 ≤ a0) = true := decide_eq_true c15
                    clear c15
                    by_cases c16 : a0 ≤ 937
                    · rw [if_pos c16] at H
                      have c16b0 : decide (a0 ≤ 937) = true := decide_eq_true c16
                      clear c16
                      have H' := Aside0.mk H
                      clear H
                      go_wp2
                      go_meet
                      case rel => exact ⟨_, (decide (a0 ≤ 937)), (by first | rfl | (simp; done) | (simp [*]; done)), H', ⟨by have := HJ1.out; have := HJ5.out; have := HJ8.out; have := HJ11.out; first | omega | exact Nat.le_refl _⟩, by repeat (first | exact Drawn0.refl _ | apply Drawn0.step)⟩
                    rw [if_neg c16] at H
                    have c16b0 : decide (a0 ≤ 937) = false := decide_eq_false c16
                    clear c16
                    by_cases c17 : a0 ≥ 1040
                    rotate_left
                    · rw [if_neg c17] at H
                      have c17b0 : decide (1040 ≤ a0) = false := decide_eq_false c17
                      clear c17
                      have H' := Aside0.mk H
                      clear H
                      go_wp2
                      go_meet
                      case rel => exact ⟨_, (false), (by first | rfl | (simp; done) | (simp [*]; done)), H', ⟨by have := HJ1.out; have := HJ5.out; have := HJ8.out; have := HJ11.out; first | omega | exact Nat.le_refl _⟩, by repeat (first | exact Drawn0.refl _ | apply Drawn0.step)⟩
                    rw [if_pos c17] at H
                    have c17b0 : decide (1040 ≤ a0) = true := decide_eq_true c17
                    clear c17
                    have H' := Aside0.mk H
                    clear H
                    go_wp2
                    go_meet
                    case rel => exact ⟨_, (decide (a0 ≤ 1071)), (by first | rfl | (simp; done) | (simp [*]; done)), H', ⟨by have := HJ1.out; have := HJ5.out; have := HJ8.out; have := HJ11.out; first | omega | exact Nat.le_refl _⟩, by repeat (first | exact Drawn0.refl _ | apply Drawn0.step)⟩
      case rest =>
        clear HC4
        try clear c1
        try clear p2
        try clear c3
        try clear c3b0
        try clear c5
        try clear c7
        try clear c7b0
        try clear c8
        try clear c10
        try clear c10b0
        try clear c11
        try clear c13
        try clear c13b0
        try clear c14
        try clear c15
        try clear c15b0
        try clear c16
        try clear c16b0
        try clear c17
        try clear c17b0
        try clear c18
        try clear c18b0
        try clear p2
        obtain ⟨kq, x3_3, rfl, HA, HJ3, ⟨mc3, rfl⟩⟩ := hcut
        cases kq with
        | zero => exact absurd HA.out (by simp [ductusref04_Of.j4])
        | succ kj3 =>
          have H := HA.out
          clear HA
          simp only [ductusref04_Of.j4] at H
          by_cases c19 : x3_3 = true
          · subst c19
            have H1 : (some (wrap64 (a0 + 32))) = some r := by rw [if_pos rfl] at H; exact H
            clear H
            have H := H1
            clear H1
            obtain rfl := Option.some.inj H
            go_wp2
            go_ret
            exact ⟨by first | rfl | (simp; done) | (simp [*]; done), by repeat (first | exact Drawn0.refl _ | apply Drawn0.step)⟩
          replace c19 := Bool.eq_false_iff.mpr c19
          subst c19
          have H1 : (if a0 ≥ 1024 then (ductusref04_Of.j5 kj3 a0 (decide (a0 ≤ 1039))) else (ductusref04_Of.j5 kj3 a0 false)) = some r := by rw [if_neg (show ¬ (false = true) by decide)] at H; exact H
          clear H
          have H := H1
          clear H1
          have HC20 := Aside0.mk H
          clear H
          go_upto_region 8 with (fail)
          go_cut [42] (fun v42 wc => ∃ (kq : Nat) (x42_19 : Bool), v42 = .bool x42_19 ∧ Aside0 (ductusref04_Of.j5 kq a0 x42_19 = some r) ∧ Aside0 (kq ≤ kj3) ∧ Drawn0 w wc)
          case first =>
            have H := HC20.out
            clear HC20
            by_cases c21 : a0 ≥ 1024
            rotate_left
            · rw [if_neg c21] at H
              have c21b0 : decide (1024 ≤ a0) = false := decide_eq_false c21
              clear c21
              (first | rw [c21b0] | (simp only [i64_w, i32_w]; rw [c21b0]) | skip)
              have H' := Aside0.mk H
              clear H
              go_wp2
              go_meet
              case rel => exact ⟨_, (false), (by first | rfl | (simp; done) | (simp [*]; done)), H', ⟨by have := HJ1.out; have := HJ3.out; first | omega | exact Nat.le_refl _⟩, by repeat (first | exact Drawn0.refl _ | apply Drawn0.step)⟩
            rw [if_pos c21] at H
            have c21b0 : decide (1024 ≤ a0) = true := decide_eq_true c21
            clear c21
            (first | rw [c21b0] | (simp only [i64_w, i32_w]; rw [c21b0]) | skip)
            have H' := Aside0.mk H
            clear H
            go_wp2
            go_meet
            case rel => exact ⟨_, (decide (a0 ≤ 1039)), (by first | rfl | (simp; done) | (simp [*]; done)), H', ⟨by have := HJ1.out; have := HJ3.out; first | omega | exact Nat.le_refl _⟩, by repeat (first | exact Drawn0.refl _ | apply Drawn0.step)⟩
          case rest =>
            clear HC20
            try clear c1
            try clear c2
            try clear p2
            try clear c3
            try clear c3b0
            try clear c5
            try clear p6
            try clear c7
            try clear c7b0
            try clear c8
            try clear c10
            try clear c10b0
            try clear c11
            try clear c13
            try clear c13b0
            try clear c14
            try clear c15
            try clear c15b0
            try clear c16
            try clear c16b0
            try clear c17
            try clear c17b0
            try clear c18
            try clear c18b0
            try clear c19
            try clear c21
            try clear c21b0
            try clear p2
            obtain ⟨kq, x42_19, rfl, HA, HJ19, ⟨mc19, rfl⟩⟩ := hcut
            cases kq with
            | zero => exact absurd HA.out (by simp [ductusref04_Of.j5])
            | succ kj19 =>
              have H := HA.out
              clear HA
              simp only [ductusref04_Of.j5] at H
              by_cases c22 : x42_19 = true
              · subst c22
                have H1 : (some (wrap64 (a0 + 80))) = some r := by rw [if_pos rfl] at H; exact H
                clear H
                have H := H1
                clear H1
                obtain rfl := Option.some.inj H
                go_wp2
                go_ret
                exact ⟨by first | rfl | (simp; done) | (simp [*]; done), by repeat (first | exact Drawn0.refl _ | apply Drawn0.step)⟩
              replace c22 := Bool.eq_false_iff.mpr c22
              subst c22
              have H1 : (if a0 = 181 then (some 956) else (if a0 = 962 then (some 963) else (if a0 = 7838 then (some 223) else (some a0)))) = some r := by rw [if_neg (show ¬ (false = true) by decide)] at H; exact H
              clear H
              have H := H1
              clear H1
              by_cases c23 : a0 = 181
              · rw [if_pos c23] at H
                have c23b0 : (a0 == 181) = true := beq_iff_eq.mpr c23
                have c23b1 : (a0 != 181) = false := bne_eq_false_iff_eq.mpr c23
                clear c23
                obtain rfl := Option.some.inj H
                go_wp2
                go_ret
                exact ⟨by first | rfl | (simp; done) | (simp [*]; done), by repeat (first | exact Drawn0.refl _ | apply Drawn0.step)⟩
              rw [if_neg c23] at H
              have c23b0 : (a0 == 181) = false := beq_eq_false_iff_ne.mpr c23
              have c23b1 : (a0 != 181) = true := bne_iff_ne.mpr c23
              by_cases c24 : a0 = 962
              · rw [if_pos c24] at H
                have c24b0 : (a0 == 962) = true := beq_iff_eq.mpr c24
                have c24b1 : (a0 != 962) = false := bne_eq_false_iff_eq.mpr c24
                clear c24
                obtain rfl := Option.some.inj H
                go_wp2
                go_ret
                exact ⟨by first | rfl | (simp; done) | (simp [*]; done), by repeat (first | exact Drawn0.refl _ | apply Drawn0.step)⟩
              rw [if_neg c24] at H
              have c24b0 : (a0 == 962) = false := beq_eq_false_iff_ne.mpr c24
              have c24b1 : (a0 != 962) = true := bne_iff_ne.mpr c24
              by_cases c25 : a0 = 7838
              rotate_left
              · rw [if_neg c25] at H
                have c25b0 : (a0 == 7838) = false := beq_eq_false_iff_ne.mpr c25
                have c25b1 : (a0 != 7838) = true := bne_iff_ne.mpr c25
                obtain rfl := Option.some.inj H
                go_wp2
                go_ret
                exact ⟨by first | rfl | (simp; done) | (simp [*]; done), by repeat (first | exact Drawn0.refl _ | apply Drawn0.step)⟩
              rw [if_pos c25] at H
              have c25b0 : (a0 == 7838) = true := beq_iff_eq.mpr c25
              have c25b1 : (a0 != 7838) = false := bne_eq_false_iff_eq.mpr c25
              clear c25
              obtain rfl := Option.some.inj H
              go_wp2
              go_ret
              exact ⟨by first | rfl | (simp; done) | (simp [*]; done), by repeat (first | exact Drawn0.refl _ | apply Drawn0.step)⟩

def ductusref03_brackets.f  : Option (List Int) := some (([40, 41, 91, 93, 123, 125, 9001, 9002, 12296, 12297, 12298, 12299, 12300, 12301, 12302, 12303, 12304, 12305] : List Int))
set_option maxHeartbeats 8000000 in
set_option maxRecDepth 100000 in
theorem ductusref03_brackets.calls  (r : List Int) (w : World) (h : ductusref03_brackets.f  = some r) :
    Calls Try.prog 73 #[] w fun e w' => ∃ v0_ : Value, e = .returned (v0_) ∧ Kd.R (Kd.int .i64) 3 w' w.heap.size (fun _ => True) v0_ r ∧ Below w.heap.size w w' := by
  have HB := Aside0.mk (Below.refl w.heap.size w)
  have H : (some (([40, 41, 91, 93, 123, 125, 9001, 9002, 12296, 12297, 12298, 12299, 12300, 12301, 12302, 12303, 12304, 12305] : List Int))) = some r := h
  clear h
  obtain ⟨y360, hy360⟩ : ∃ y_ : List Int, y_ = (([40, 41, 91, 93, 123, 125, 9001, 9002, 12296, 12297, 12298, 12299, 12300, 12301, 12302, 12303, 12304, 12305] : List Int)) := ⟨_, rfl⟩
  replace H : (some y360) = some r := by first | (rw [hy360]; with_reducible exact H) | (have H2_ := (Option.bind_some _ _).symm.trans H; rw [hy360]; with_reducible exact H2_) | (have H2_ := (Option.bind_some _ _).symm.trans H; with_reducible exact H2_) | with_reducible exact H | (rw [hy360]; exact H) | exact H
  have Ny360 := Aside0.mk hy360
  clear hy360
  obtain rfl := Option.some.inj H
  go_enter Try.func73, Try.ntmps73
  go_wp2_with (first | ((with_reducible refine gate_dst (N := 1) rfl ?_); refine Kd.R_lit (Kd.int .i64) _ 3 ?hg (N := 1) ?hd (xs := ([40, 41, 91, 93, 123, 125, 9001, 9002, 12296, 12297, 12298, 12299, 12300, 12301, 12302, 12303, 12304, 12305] : List Int)) (inner := [.int .i64 40, .int .i64 41, .int .i64 91, .int .i64 93, .int .i64 123, .int .i64 125, .int .i64 9001, .int .i64 9002, .int .i64 12296, .int .i64 12297, .int .i64 12298, .int .i64 12299, .int .i64 12300, .int .i64 12301, .int .i64 12302, .int .i64 12303, .int .i64 12304, .int .i64 12305]) (ok := fun _ => True) (okp := fun _ => True) ?hr ?hp (fun _ hk => hk) trivial (Below.refl _ _) (Nat.le_refl _) (by simp) ?_; (case hd => rfl); (case hg => rfl); (case hr => first | (go_simp; done) | (go_simp; rfl)); (case hp => exact (Reps.one (show Kd.M (Kd.int .i64) _ _ _ 40 [.int .i64 40] from rfl) (Reps.one (show Kd.M (Kd.int .i64) _ _ _ 41 [.int .i64 41] from rfl) (Reps.one (show Kd.M (Kd.int .i64) _ _ _ 91 [.int .i64 91] from rfl) (Reps.one (show Kd.M (Kd.int .i64) _ _ _ 93 [.int .i64 93] from rfl) (Reps.one (show Kd.M (Kd.int .i64) _ _ _ 123 [.int .i64 123] from rfl) (Reps.one (show Kd.M (Kd.int .i64) _ _ _ 125 [.int .i64 125] from rfl) (Reps.one (show Kd.M (Kd.int .i64) _ _ _ 9001 [.int .i64 9001] from rfl) (Reps.one (show Kd.M (Kd.int .i64) _ _ _ 9002 [.int .i64 9002] from rfl) (Reps.one (show Kd.M (Kd.int .i64) _ _ _ 12296 [.int .i64 12296] from rfl) (Reps.one (show Kd.M (Kd.int .i64) _ _ _ 12297 [.int .i64 12297] from rfl) (Reps.one (show Kd.M (Kd.int .i64) _ _ _ 12298 [.int .i64 12298] from rfl) (Reps.one (show Kd.M (Kd.int .i64) _ _ _ 12299 [.int .i64 12299] from rfl) (Reps.one (show Kd.M (Kd.int .i64) _ _ _ 12300 [.int .i64 12300] from rfl) (Reps.one (show Kd.M (Kd.int .i64) _ _ _ 12301 [.int .i64 12301] from rfl) (Reps.one (show Kd.M (Kd.int .i64) _ _ _ 12302 [.int .i64 12302] from rfl) (Reps.one (show Kd.M (Kd.int .i64) _ _ _ 12303 [.int .i64 12303] from rfl) (Reps.one (show Kd.M (Kd.int .i64) _ _ _ 12304 [.int .i64 12304] from rfl) (Reps.one (show Kd.M (Kd.int .i64) _ _ _ 12305 [.int .i64 12305] from rfl) (Reps.none _ _)))))))))))))))))))); intro v361 w1 ho2 hb hg_ hnew_; clear hg_ hnew_; (first | rw [← Ny360.out] at ho2 | (simp only [Int.reduceToNat] at ho2; rw [← Ny360.out] at ho2)); have n0_ := Aside0.mk (Kd.R_lower ho2 (below_size (by repeat (first | (with_reducible first | exact HB.out | apply below_alloc | apply pw_below_drewN | apply below_drew1) | exact HB.out)))); have n1_ := Aside0.mk (below_step (by repeat (first | (with_reducible first | exact HB.out | apply below_alloc | apply pw_below_drewN | apply below_drew1) | exact HB.out)) hb); clear HB; have HO362 := n0_; have HB := n1_; clear n0_ n1_; clear hb ho2))
  go_ret
  exact ⟨_, by first | rfl | (simp [errW_none, errW_some] <;> rfl) | (simp [*, errW_none, errW_some] <;> rfl), by (with_reducible repeat (first | apply Kd.R_alloc | apply Kd.R_drewN | apply Kd.R_drew)); exact HO362.out, by repeat (first | (with_reducible first | exact HB.out | apply below_alloc | apply pw_below_drewN | apply below_drew1) | exact HB.out)⟩

end Go.Proofs.Ythgmkbghdobmlaa.P
