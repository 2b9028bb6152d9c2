/- Proved: the theorems below, each under its own conditions. -/
import Derived.Test.YtmjipbmpapcboaaC13
import Derived.Test.YtmjipbmpapcboaaC14
namespace Go.Proofs.Ytmjipbmpapcboaa.P
open Go.RowKit Go.Proofs.YtmjipbmpapcboaaW.PrintWords Go.Proofs.YtmjipbmpapcboaaW.PrintLast
set_option linter.unusedVariables false
set_option maxHeartbeats 8000000
set_option maxRecDepth 100000
def ductusref02_Of.tbl : List (Int × Int × Int) := [(0, 8, 9), (9, 9, 11), (10, 10, 10), (11, 11, 11), (12, 12, 12), (13, 13, 10), (14, 27, 9), (28, 30, 10), (31, 31, 11), (32, 32, 12), (33, 34, 13), (35, 37, 5), (38, 42, 13), (43, 43, 4), (44, 44, 7), (45, 45, 4), (46, 47, 7), (48, 57, 3), (58, 58, 7), (59, 64, 13), (91, 96, 13), (123, 126, 13), (127, 132, 9), (133, 133, 10), (134, 159, 9), (160, 160, 7), (161, 161, 13), (162, 165, 5), (166, 169, 13), (171, 172, 13), (173, 173, 9), (174, 175, 13), (176, 177, 5), (178, 179, 3), (180, 180, 13), (182, 184, 13), (185, 185, 3), (187, 191, 13), (215, 215, 13), (247, 247, 13), (768, 879, 8), (1425, 1469, 8), (1470, 1470, 1), (1471, 1471, 8), (1472, 1472, 1), (1473, 1474, 8), (1488, 1524, 1), (1536, 1541, 6), (1542, 1543, 13), (1544, 1544, 2), (1545, 1546, 5), (1547, 1547, 2), (1548, 1548, 7), (1549, 1549, 2), (1552, 1562, 8), (1563, 1610, 2), (1611, 1631, 8), (1632, 1641, 6), (1642, 1642, 5), (1643, 1644, 6), (1645, 1647, 2), (1648, 1648, 8), (1649, 1749, 2), (8203, 8205, 9), (8207, 8207, 1), (8208, 8231, 13), (8232, 8232, 12), (8233, 8233, 10), (8234, 8234, 14), (8235, 8235, 16), (8236, 8236, 18), (8237, 8237, 15), (8238, 8238, 17), (8239, 8239, 7), (8240, 8244, 5), (8245, 8259, 13), (8294, 8294, 19), (8295, 8295, 20), (8296, 8296, 21), (8297, 8297, 22), (8304, 8304, 3), (8308, 8313, 3), (8352, 8384, 5), (8592, 8721, 13), (8722, 8722, 4), (8723, 8723, 5), (8724, 9013, 13), (12296, 12305, 13), (65279, 65279, 9), (128512, 128591, 13)]
def ductusref02_Of.f (a0 : Int) : Option Int := some (swFrom a0 ductusref02_Of.tbl)
section
variable {P : Program} {Q : Exit → Act → World → Prop} {w : World} {c r : Int}
theorem put_getD (a : Act) (d : Nat) (v : Value) (i : Nat) (h : d < a.tmps.size) : (a.put (some d) v).tmps.getD i undef = if d = i then v else a.tmps.getD i undef := by
  unfold Act.put;simp only [Array.getD_eq_getD_getElem?]
  by_cases hd : d = i
  · subst hd
    simp [h]
  · simp [hd]
theorem put_size (a : Act) (d : Nat) (v : Value) : (a.put (some d) v).tmps.size = a.tmps.size := by
  unfold Act.put
  simp
theorem yields {ops : Array Oper} {tmps : Array Value} {j d : Nat} {b : Bool} (hd : (ops[j]?).bind (·.dst) = some d) (hs : d < tmps.size) (h : tmps.getD d undef = .bool b) : yielded ops tmps j = some b := by
  unfold yielded
  have he : tmps[d]? = some (.bool b) := by
    rw [Array.getElem?_eq_getElem hs];rw [Array.getD_eq_getD_getElem?, Array.getElem?_eq_getElem hs, Option.getD_some] at h;rw [h]
  simp [hd, he]
def SwOk (P : Program) (Q : Exit → Act → World → Prop) (w : World) (c r : Int) (S : Nat) (l : List (Int × Int × Int)) (code : Code) : Prop :=
  swFrom c l = r → ∀ a : Act, a.tmps.getD 0 undef = .int .i64 c → a.tmps.size = S → a.defers = [] → code.wp P Q a w
def SwQ (Q : Exit → Act → World → Prop) (w : World) (r : Int) (S : Nat) : Prop := ∀ a : Act, a.tmps.getD 2 undef = .int .i64 r → a.tmps.size = S → a.defers = [] → Q .ret a w
theorem sw_ret {S : Nat} (hQ : SwQ Q w r S) {id : Nat} {ty : TypeId} {pos : String} {af : Array Edge} (a : Act) (hs : a.tmps.size = S) (h2 : 2 < S) (hd : a.defers = []) :
    ((Code.region id #[{ dst := some 2, op := .assign (.const (.int .i64 r)), type := ty, pos := pos, after := af, guard := none }] false).seq Code.ret).wp P Q a w := by
  refine wp_seq (wp_region_list ?_);refine Kd.event_run (w1 := w) (v := .int .i64 r) rfl rfl (wpList_nil ?_);show Code.ret.wp P Q _ w;refine wp_ret (hQ _ ?_ ?_ ?_)
  · rw [put_getD _ _ _ _ (by omega)]
    simp
  · rw [put_size]
    exact hs
  · exact hd
theorem SwOk.eqc {S : Nat} {t id id2 : Nat} {ty ty' ty2 ty3 ty4 : TypeId} {p1 p2 p3 p4 : String} {f1 f2 f3 f4 : Array Edge} {lo x : Int} {rest : Code} {l : List (Int × Int × Int)} (hQ : SwQ Q w r S) (ht : 2 < t) (htS : t + 2 < S) (hrest : SwOk P Q w c r S l rest) :
    SwOk P Q w c r S ((lo, lo, x) :: l) ((Code.region id #[{ dst := some (t + 1), op := .move (.tmp 0), type := ty, pos := p1, after := f1, guard := none }, { dst := some (t + 2), op := .binOp .eql ty' (.tmp (t + 1)) (.const (.int .i64 lo)) ty', type := ty2, pos := p2, after := f2, guard := none }, { dst := some t, op := .assign (.tmp (t + 2)), type := ty3, pos := p3, after := f3, guard := none }] false).seq
      (Code.cond (.tmp t) ((Code.region id2 #[{ dst := some 2, op := .assign (.const (.int .i64 x)), type := ty4, pos := p4, after := f4, guard := none }] false).seq Code.ret) rest)) := by
  intro hr a h0 hs hd;obtain ⟨b, hb⟩ : ∃ b : Bool, b = (c == lo) := ⟨_, rfl⟩;refine wp_seq (wp_region_list ?_);refine Kd.event_run (w1 := w) (v := .int .i64 c) rfl (by simp [execOp, Act.eval, h0]) ?_;obtain ⟨a1, e1⟩ : ∃ a1, a1 = a.put (some (t + 1)) (.int .i64 c) := ⟨_, rfl⟩
  have s1 : a1.tmps.size = S := by rw [e1, put_size]; exact hs
  have g1 : a1.tmps.getD (t + 1) undef = .int .i64 c := by rw [e1, put_getD _ _ _ _ (by omega)]; simp
  have z1 : a1.tmps.getD 0 undef = .int .i64 c := by rw [e1, put_getD _ _ _ _ (by omega), if_neg (by omega)]; exact h0
  have d1 : a1.defers = [] := by rw [e1]; exact hd
  show wpList _ _ _ _ (a.put (some (t + 1)) (.int .i64 c)) _;rw [← e1];refine Kd.event_run (w1 := w) (v := .bool b) rfl (by simp [execOp, Act.eval, g1, eqGuard, go_sem, hb]) ?_;obtain ⟨a2, e2⟩ : ∃ a2, a2 = a1.put (some (t + 2)) (.bool b) := ⟨_, rfl⟩
  have s2 : a2.tmps.size = S := by rw [e2, put_size]; exact s1
  have g2 : a2.tmps.getD (t + 2) undef = .bool b := by rw [e2, put_getD _ _ _ _ (by omega)]; simp
  have z2 : a2.tmps.getD 0 undef = .int .i64 c := by rw [e2, put_getD _ _ _ _ (by omega), if_neg (by omega)]; exact z1
  have d2 : a2.defers = [] := by rw [e2]; exact d1
  show wpList _ _ _ _ (a1.put (some (t + 2)) (.bool b)) _;rw [← e2];refine Kd.event_run (w1 := w) (v := .bool b) rfl (by simp [execOp, Act.eval, g2]) (wpList_nil ?_);obtain ⟨a3, e3⟩ : ∃ a3, a3 = a2.put (some t) (.bool b) := ⟨_, rfl⟩
  have s3 : a3.tmps.size = S := by rw [e3, put_size]; exact s2
  have g3 : a3.tmps.getD t undef = .bool b := by rw [e3, put_getD _ _ _ _ (by omega)]; simp
  have z3 : a3.tmps.getD 0 undef = .int .i64 c := by rw [e3, put_getD _ _ _ _ (by omega), if_neg (by omega)]; exact z2
  have d3 : a3.defers = [] := by rw [e3]; exact d2
  show (Code.cond _ _ _).wp P Q (a2.put (some t) (.bool b)) w;rw [← e3];refine wp_cond_split (t := b) g3 (fun hb1 => ?_) (fun hb0 => ?_)
  · have hc : c = lo := by rw [hb1] at hb; simpa using hb.symm
    have hx : x = r := by rw [← hr]; simp [swFrom, hc]
    rw [hx];exact sw_ret hQ a3 s3 (by omega) d3
  · have hc : ¬ c = lo := by rw [hb0] at hb; simpa using hb.symm
    refine hrest ?_ a3 z3 s3 d3;rw [← hr];simp only [swFrom];rw [if_neg (by omega)]
theorem SwOk.rng {S : Nat} {t id id2 : Nat} {ty ty' ty2 ty3 ty4 : TypeId} {p1 p2 p3 p4 p5 p6 p7 p8 : String} {f1 f2 f3 f4 f5 f6 f7 f8 : Array Edge} {lo hi x : Int} {rest : Code} {l : List (Int × Int × Int)} (hQ : SwQ Q w r S) (ht : 2 < t) (htS : t + 6 < S) (hrest : SwOk P Q w c r S l rest) :
    SwOk P Q w c r S ((lo, hi, x) :: l) ((Code.region id #[{ dst := some (t + 1), op := .move (.tmp 0), type := ty, pos := p1, after := f1, guard := none }, { dst := some (t + 2), op := .binOp .geq ty' (.tmp (t + 1)) (.const (.int .i64 lo)) ty', type := ty2, pos := p2, after := f2, guard := none }, { dst := some (t + 3), op := .move (.tmp (t + 2)), type := ty2, pos := p3, after := f3, guard := none },
        { dst := some (t + 4), op := .move (.tmp 0), type := ty, pos := p4, after := f4, guard := some (2, true) }, { dst := some (t + 5), op := .binOp .leq ty' (.tmp (t + 4)) (.const (.int .i64 hi)) ty', type := ty2, pos := p5, after := f5, guard := some (2, true) }, { dst := some (t + 6), op := .pick (.tmp (t + 3)) (.tmp (t + 5)) (.const (.bool false)), type := ty2, pos := p6, after := f6, guard := none }, { dst := some t, op := .assign (.tmp (t + 6)), type := ty3, pos := p7, after := f7, guard := none }] false).seq
      (Code.cond (.tmp t) ((Code.region id2 #[{ dst := some 2, op := .assign (.const (.int .i64 x)), type := ty4, pos := p8, after := f8, guard := none }] false).seq Code.ret) rest)) := by
  intro hr a h0 hs hd;obtain ⟨b, hb⟩ : ∃ b : Bool, b = decide (c ≥ lo) := ⟨_, rfl⟩;obtain ⟨q, hq⟩ : ∃ q : Bool, q = decide (c ≤ hi) := ⟨_, rfl⟩;refine wp_seq (wp_region_list ?_);refine Kd.event_run (w1 := w) (v := .int .i64 c) rfl (by simp [execOp, Act.eval, h0]) ?_;obtain ⟨a1, e1⟩ : ∃ a1, a1 = a.put (some (t + 1)) (.int .i64 c) := ⟨_, rfl⟩
  have s1 : a1.tmps.size = S := by rw [e1, put_size]; exact hs
  have g1 : a1.tmps.getD (t + 1) undef = .int .i64 c := by rw [e1, put_getD _ _ _ _ (by omega)]; simp
  have z1 : a1.tmps.getD 0 undef = .int .i64 c := by rw [e1, put_getD _ _ _ _ (by omega), if_neg (by omega)]; exact h0
  have d1 : a1.defers = [] := by rw [e1]; exact hd
  show wpList _ _ _ _ (a.put (some (t + 1)) (.int .i64 c)) _;rw [← e1];clear e1 h0 hs hd;refine Kd.event_run (w1 := w) (v := .bool b) rfl (by simp [execOp, Act.eval, g1, eqGuard, go_sem, hb]) ?_;obtain ⟨a2, e2⟩ : ∃ a2, a2 = a1.put (some (t + 2)) (.bool b) := ⟨_, rfl⟩
  have s2 : a2.tmps.size = S := by rw [e2, put_size]; exact s1
  have g2 : a2.tmps.getD (t + 2) undef = .bool b := by rw [e2, put_getD _ _ _ _ (by omega)]; simp
  have z2 : a2.tmps.getD 0 undef = .int .i64 c := by rw [e2, put_getD _ _ _ _ (by omega), if_neg (by omega)]; exact z1
  have d2 : a2.defers = [] := by rw [e2]; exact d1
  show wpList _ _ _ _ (a1.put (some (t + 2)) (.bool b)) _;rw [← e2];clear e2 g1 z1 s1 d1;refine Kd.event_run (w1 := w) (v := .bool b) rfl (by simp [execOp, Act.eval, g2]) ?_;obtain ⟨a3, e3⟩ : ∃ a3, a3 = a2.put (some (t + 3)) (.bool b) := ⟨_, rfl⟩
  have s3 : a3.tmps.size = S := by rw [e3, put_size]; exact s2
  have g3 : a3.tmps.getD (t + 3) undef = .bool b := by rw [e3, put_getD _ _ _ _ (by omega)]; simp
  have z3 : a3.tmps.getD 0 undef = .int .i64 c := by rw [e3, put_getD _ _ _ _ (by omega), if_neg (by omega)]; exact z2
  have d3 : a3.defers = [] := by rw [e3]; exact d2
  show wpList _ _ _ _ (a2.put (some (t + 3)) (.bool b)) _;rw [← e3];clear e3 g2 z2 s2 d2
  obtain ⟨a5, s5, g5, z5, d5, q5, H5⟩ : ∃ a5 : Act, a5.tmps.size = S ∧ a5.tmps.getD (t + 3) undef = .bool b ∧ a5.tmps.getD 0 undef = .int .i64 c ∧ a5.defers = [] ∧ (b = true → a5.tmps.getD (t + 5) undef = .bool q) ∧
      ∀ (ops : Array Oper) (Q' : Exit → Act → World → Prop) (l' : List Oper), (ops[2]?).bind (·.dst) = some (t + 3) → wpList P ops Q' l' a5 w →
        wpList P ops Q' ({ dst := some (t + 4), op := .move (.tmp 0), type := ty, pos := p4, after := f4, guard := some (2, true) } :: { dst := some (t + 5), op := .binOp .leq ty' (.tmp (t + 4)) (.const (.int .i64 hi)) ty', type := ty2, pos := p5, after := f5, guard := some (2, true) } :: l') a3 w := by
    cases b with
    | true =>
      obtain ⟨a4, e4⟩ : ∃ a4, a4 = a3.put (some (t + 4)) (.int .i64 c) := ⟨_, rfl⟩
      have s4 : a4.tmps.size = S := by rw [e4, put_size]; exact s3
      have k4 : a4.tmps.getD (t + 4) undef = .int .i64 c := by rw [e4, put_getD _ _ _ _ (by omega)]; simp
      have g4 : a4.tmps.getD (t + 3) undef = .bool true := by rw [e4, put_getD _ _ _ _ (by omega), if_neg (by omega)]; exact g3
      have z4 : a4.tmps.getD 0 undef = .int .i64 c := by rw [e4, put_getD _ _ _ _ (by omega), if_neg (by omega)]; exact z3
      have d4 : a4.defers = [] := by rw [e4]; exact d3
      refine ⟨a4.put (some (t + 5)) (.bool q), by rw [put_size]; exact s4, by rw [put_getD _ _ _ _ (by omega), if_neg (by omega)]; exact g4, by rw [put_getD _ _ _ _ (by omega), if_neg (by omega)]; exact z4, d4, fun _ => by rw [put_getD _ _ _ _ (by omega)]; simp, fun ops Q' l' hd2 h => ?_⟩
      refine wpList_step fun K hK => ?_
      rw [if_pos (by simp [Region.wanted, yields hd2 (by omega) g3])];unfold Oper.wp
      have hx : (execOp a3.eval { dst := some (t + 4), op := .move (.tmp 0), type := ty, pos := p4, after := f4, guard := some (2, true) }).run P w = .ok (.value (.int .i64 c)) w := by simp [execOp, Act.eval, z3]
      rw [hx];refine hK _ _ ?_;show wpList _ _ _ _ (a3.put (some (t + 4)) (.int .i64 c)) _;rw [← e4]
      refine wpList_step fun K hK => ?_
      rw [if_pos (by simp [Region.wanted, yields hd2 (by omega) g4])];unfold Oper.wp
      have hx : (execOp a4.eval { dst := some (t + 5), op := .binOp .leq ty' (.tmp (t + 4)) (.const (.int .i64 hi)) ty', type := ty2, pos := p5, after := f5, guard := some (2, true) }).run P w = .ok (.value (.bool q)) w := by simp [execOp, Act.eval, k4, eqGuard, go_sem, hq]
      rw [hx];exact hK _ _ h
    | false =>
      obtain ⟨a4, e4⟩ : ∃ a4, a4 = a3.put (some (t + 4)) undef := ⟨_, rfl⟩
      have s4 : a4.tmps.size = S := by rw [e4, put_size]; exact s3
      have g4 : a4.tmps.getD (t + 3) undef = .bool false := by rw [e4, put_getD _ _ _ _ (by omega), if_neg (by omega)]; exact g3
      have z4 : a4.tmps.getD 0 undef = .int .i64 c := by rw [e4, put_getD _ _ _ _ (by omega), if_neg (by omega)]; exact z3
      have d4 : a4.defers = [] := by rw [e4]; exact d3
      refine ⟨a4.put (some (t + 5)) undef, by rw [put_size]; exact s4, by rw [put_getD _ _ _ _ (by omega), if_neg (by omega)]; exact g4, by rw [put_getD _ _ _ _ (by omega), if_neg (by omega)]; exact z4, d4, fun h => (by cases h), fun ops Q' l' hd2 h => ?_⟩
      refine wpList_step fun K hK => ?_
      rw [if_neg (by simp [Region.wanted, yields hd2 (by omega) g3])];refine hK _ _ ?_;show wpList _ _ _ _ (a3.put (some (t + 4)) undef) _;rw [← e4]
      refine wpList_step fun K hK => ?_
      rw [if_neg (by simp [Region.wanted, yields hd2 (by omega) g4])];exact hK _ _ h
  refine H5 _ _ _ rfl ?_;refine Kd.event_run (w1 := w) (v := .bool (b && q)) rfl ?_ ?_
  · cases b with
    | true => simp [execOp, Act.eval, g5, q5 rfl, asBool]
    | false => simp [execOp, Act.eval, g5, asBool]
  obtain ⟨a6, e6⟩ : ∃ a6, a6 = a5.put (some (t + 6)) (.bool (b && q)) := ⟨_, rfl⟩
  have s6 : a6.tmps.size = S := by rw [e6, put_size]; exact s5
  have g6 : a6.tmps.getD (t + 6) undef = .bool (b && q) := by rw [e6, put_getD _ _ _ _ (by omega)]; simp
  have z6 : a6.tmps.getD 0 undef = .int .i64 c := by rw [e6, put_getD _ _ _ _ (by omega), if_neg (by omega)]; exact z5
  have d6 : a6.defers = [] := by rw [e6]; exact d5
  show wpList _ _ _ _ (a5.put (some (t + 6)) (.bool (b && q))) _;rw [← e6];refine Kd.event_run (w1 := w) (v := .bool (b && q)) rfl (by simp [execOp, Act.eval, g6]) (wpList_nil ?_);obtain ⟨a7, e7⟩ : ∃ a7, a7 = a6.put (some t) (.bool (b && q)) := ⟨_, rfl⟩
  have s7 : a7.tmps.size = S := by rw [e7, put_size]; exact s6
  have g7 : a7.tmps.getD t undef = .bool (b && q) := by rw [e7, put_getD _ _ _ _ (by omega)]; simp
  have z7 : a7.tmps.getD 0 undef = .int .i64 c := by rw [e7, put_getD _ _ _ _ (by omega), if_neg (by omega)]; exact z6
  have d7 : a7.defers = [] := by rw [e7]; exact d6
  show (Code.cond _ _ _).wp P Q (a6.put (some t) (.bool (b && q))) w;rw [← e7];refine wp_cond_split (t := (b && q)) g7 (fun hb1 => ?_) (fun hb0 => ?_)
  · have hc : lo ≤ c ∧ c ≤ hi := by
      rw [Bool.and_eq_true, hb, hq, decide_eq_true_eq, decide_eq_true_eq] at hb1;exact hb1
    have hx : x = r := by rw [← hr]; simp [swFrom, hc]
    rw [hx];exact sw_ret hQ a7 s7 (by omega) d7
  · have hc : ¬ (lo ≤ c ∧ c ≤ hi) := by
      rw [hb, hq, ← Bool.decide_and, decide_eq_false_iff_not] at hb0;exact hb0
    refine hrest ?_ a7 z7 s7 d7;rw [← hr];simp only [swFrom];rw [if_neg hc]
theorem SwOk.last {S : Nat} (hk : ∀ a : Act, r = 0 → a.tmps.getD 0 undef = .int .i64 c → a.tmps.size = S → a.defers = [] → Q .normal a w) : SwOk P Q w c r S [] Code.skip :=
  fun hr a h0 hs hd => wp_skip (hk a hr.symm h0 hs hd)
end
set_option maxRecDepth 100000 in
theorem ductusref02_Of.calls (a0 : Int) (r : Int) (w : World) (h : ductusref02_Of.f a0 = some r) :
    Calls Try.prog 21 #[.int .i64 a0] w fun e w' => e = .returned (.int .i64 r) ∧ Drawn0 w w' := by
  have hr := Option.some.inj h;clear h
  go_enter Try.func21, Try.ntmps21
  refine wp_seq (wp_region_list ?_);refine Kd.event_run (w1 := w) (v := .int .i64 0) rfl rfl (wpList_nil ?_);refine wp_seq (wp_block ?_);refine (?_ : ∀ Q, SwQ Q w r 453 → (∀ a : Act, r = 0 → a.tmps.getD 0 undef = .int .i64 a0 → a.tmps.size = 453 → a.defers = [] → Q .normal a w) → SwOk Try.prog Q w a0 r 453 ductusref02_Of.tbl _) _ ?_ ?_ hr _ rfl rfl rfl
  · intro Q hQ hn
    unfold ductusref02_Of.tbl;refine SwOk.rng hQ (by omega) (by omega) ?_;refine SwOk.eqc hQ (by omega) (by omega) ?_;refine SwOk.eqc hQ (by omega) (by omega) ?_;refine SwOk.eqc hQ (by omega) (by omega) ?_;refine SwOk.eqc hQ (by omega) (by omega) ?_;refine SwOk.eqc hQ (by omega) (by omega) ?_;refine SwOk.rng hQ (by omega) (by omega) ?_;refine SwOk.rng hQ (by omega) (by omega) ?_;refine SwOk.eqc hQ (by omega) (by omega) ?_;refine SwOk.eqc hQ (by omega) (by omega) ?_;refine SwOk.rng hQ (by omega) (by omega) ?_;refine SwOk.rng hQ (by omega) (by omega) ?_;refine SwOk.rng hQ (by omega) (by omega) ?_;refine SwOk.eqc hQ (by omega) (by omega) ?_;refine SwOk.eqc hQ (by omega) (by omega) ?_;refine SwOk.eqc hQ (by omega) (by omega) ?_;refine SwOk.rng hQ (by omega) (by omega) ?_;refine SwOk.rng hQ (by omega) (by omega) ?_;refine SwOk.eqc hQ (by omega) (by omega) ?_;refine SwOk.rng hQ (by omega) (by omega) ?_;refine SwOk.rng hQ (by omega) (by omega) ?_;refine SwOk.rng hQ (by omega) (by omega) ?_;refine SwOk.rng hQ (by omega) (by omega) ?_;refine SwOk.eqc hQ (by omega) (by omega) ?_;refine SwOk.rng hQ (by omega) (by omega) ?_;refine SwOk.eqc hQ (by omega) (by omega) ?_;refine SwOk.eqc hQ (by omega) (by omega) ?_;refine SwOk.rng hQ (by omega) (by omega) ?_;refine SwOk.rng hQ (by omega) (by omega) ?_;refine SwOk.rng hQ (by omega) (by omega) ?_;refine SwOk.eqc hQ (by omega) (by omega) ?_;refine SwOk.rng hQ (by omega) (by omega) ?_;refine SwOk.rng hQ (by omega) (by omega) ?_;refine SwOk.rng hQ (by omega) (by omega) ?_;refine SwOk.eqc hQ (by omega) (by omega) ?_;refine SwOk.rng hQ (by omega) (by omega) ?_;refine SwOk.eqc hQ (by omega) (by omega) ?_;refine SwOk.rng hQ (by omega) (by omega) ?_;refine SwOk.eqc hQ (by omega) (by omega) ?_;refine SwOk.eqc hQ (by omega) (by omega) ?_;refine SwOk.rng hQ (by omega) (by omega) ?_;refine SwOk.rng hQ (by omega) (by omega) ?_;refine SwOk.eqc hQ (by omega) (by omega) ?_;refine SwOk.eqc hQ (by omega) (by omega) ?_;refine SwOk.eqc hQ (by omega) (by omega) ?_;refine SwOk.rng hQ (by omega) (by omega) ?_;refine SwOk.rng hQ (by omega) (by omega) ?_;refine SwOk.rng hQ (by omega) (by omega) ?_;refine SwOk.rng hQ (by omega) (by omega) ?_;refine SwOk.eqc hQ (by omega) (by omega) ?_;refine SwOk.rng hQ (by omega) (by omega) ?_;refine SwOk.eqc hQ (by omega) (by omega) ?_;refine SwOk.eqc hQ (by omega) (by omega) ?_;refine SwOk.eqc hQ (by omega) (by omega) ?_;refine SwOk.rng hQ (by omega) (by omega) ?_;refine SwOk.rng hQ (by omega) (by omega) ?_;refine SwOk.rng hQ (by omega) (by omega) ?_;refine SwOk.rng hQ (by omega) (by omega) ?_;refine SwOk.eqc hQ (by omega) (by omega) ?_;refine SwOk.rng hQ (by omega) (by omega) ?_;refine SwOk.rng hQ (by omega) (by omega) ?_;refine SwOk.eqc hQ (by omega) (by omega) ?_;refine SwOk.rng hQ (by omega) (by omega) ?_;refine SwOk.rng hQ (by omega) (by omega) ?_;refine SwOk.eqc hQ (by omega) (by omega) ?_;refine SwOk.rng hQ (by omega) (by omega) ?_;refine SwOk.eqc hQ (by omega) (by omega) ?_
    refine SwOk.eqc hQ (by omega) (by omega) ?_;refine SwOk.eqc hQ (by omega) (by omega) ?_;refine SwOk.eqc hQ (by omega) (by omega) ?_;refine SwOk.eqc hQ (by omega) (by omega) ?_;refine SwOk.eqc hQ (by omega) (by omega) ?_;refine SwOk.eqc hQ (by omega) (by omega) ?_;refine SwOk.eqc hQ (by omega) (by omega) ?_;refine SwOk.rng hQ (by omega) (by omega) ?_;refine SwOk.rng hQ (by omega) (by omega) ?_;refine SwOk.eqc hQ (by omega) (by omega) ?_;refine SwOk.eqc hQ (by omega) (by omega) ?_;refine SwOk.eqc hQ (by omega) (by omega) ?_;refine SwOk.eqc hQ (by omega) (by omega) ?_;refine SwOk.eqc hQ (by omega) (by omega) ?_;refine SwOk.rng hQ (by omega) (by omega) ?_;refine SwOk.rng hQ (by omega) (by omega) ?_;refine SwOk.rng hQ (by omega) (by omega) ?_;refine SwOk.eqc hQ (by omega) (by omega) ?_;refine SwOk.eqc hQ (by omega) (by omega) ?_;refine SwOk.rng hQ (by omega) (by omega) ?_;refine SwOk.rng hQ (by omega) (by omega) ?_;refine SwOk.eqc hQ (by omega) (by omega) ?_;refine SwOk.rng hQ (by omega) (by omega) ?_;exact SwOk.last hn
  · intro a h2 hs hd
    show bodyPost Try.prog Try.f21 (fun e w' => e = .returned (.int .i64 r) ∧ Drawn0 w w') Exit.ret a w;exact bodyPost_ret (v := .int .i64 r) ((results_tmp rfl _ _ _).trans (by rw [h2])) hd ⟨rfl, Drawn0.refl w⟩
  · intro a h0 h1 hs hd
    subst h0;refine sw_ret (S := 453) (fun a h2 hs hd => ?_) a hs (by omega) hd;show bodyPost _ _ _ Exit.ret a w;exact bodyPost_ret (v := .int .i64 0) ((results_tmp rfl _ _ _).trans (by rw [h2])) hd ⟨rfl, Drawn0.refl w⟩
end Go.Proofs.Ytmjipbmpapcboaa.P
namespace Go.Proofs.Ytmjipbmpapcboaa.P
open Go.RowKit Go.Proofs.YtmjipbmpapcboaaW.PrintWords Go.Proofs.YtmjipbmpapcboaaW.PrintLast Go.Proofs.YtmjipbmpapcboaaW.PrintMore
attribute [local go_sem] max2_int min2_int max_two min_two
set_option linter.unusedVariables false
set_option linter.unusedSimpArgs false
def ductusref02_All.l0 : Nat → List Int → List Int → Int → Option (List Int)
  | 0, _, _, _ => none
  | k + 1, x0, x3, x4 => if x4 < (x0.length : Int) then (if 0 ≤ x4 then ((ductusref02_Of.f (rd x0 x4)).bind fun t290 => (if x3.length < 17592186044416 then (ductusref02_All.l0 k x0 (x3 ++ [t290]) (wrap64 (x4 + 1))) else (none))) else (none)) else (some x3)
def ductusref02_All.f (k : Nat) (l0 : List Int) : Option (List Int) := ductusref02_All.l0 k l0 ([] : List Int) 0
theorem ductusref02_All.calls (k : Nat) (A0 : Option Addr) (c0 : Nat) (l0 : List Int) (r : List Int) (w : World) (hr0 : Kd.C (Kd.int .i64) w A0 l0.length l0) (hc0 : l0.length ≤ c0) (h : ductusref02_All.f k l0 = some r) :
    Calls Try.prog 36 #[.slice A0 l0.length c0] w fun e w' => ∃ v0_ : Value, e = .returned (v0_) ∧ Kd.R (Kd.int .i64) 3 w' w.heap.size (fun _ => True) v0_ r ∧ Below w.heap.size w w' := by
  have HR0 := Aside0.mk hr0;have HC0 := Aside0.mk hc0;clear hr0 hc0;have HB := Aside0.mk (Below.refl w.heap.size w);unfold ductusref02_All.f at h;have H := h;clear h;have H' := Aside0.mk H;clear H
  go_enter Try.func36, Try.ntmps36
  go_wp2
  go_loopg [3, 4] k (fun kq v3 v4 w' => ∃ (x3_1 : List Int) (x4_1 : Int), v4 = .int .i64 x4_1 ∧ Aside0 (ductusref02_All.l0 kq l0 x3_1 x4_1 = some r) ∧ Aside0 (kq ≤ k) ∧ Aside0 (Kd.R (Kd.int .i64) 3 w' w.heap.size (fun _ => True) v3 x3_1) ∧ Aside0 (Below w.heap.size w w'))
  case atStart => exact ⟨(([] : List Int)), (0), uF, H', ⟨Nat.le_refl _⟩, ⟨by first | exact Kd.R_nil _ _ _ _ _ | exact Kd.N_nil _ _ _ _ _ | exact Kd.V_nil _ _ _ _ _ | exact Kd.Q_nil _ _ _ _ _ | exact Kd.S_nil _ _ _ _ _⟩, ⟨uB HB.out⟩⟩
  case round =>
    clear H';obtain ⟨x3_1, x4_1, rfl, HA, HK1, HO_3, HB⟩ := hrel
    cases gk with
    | zero => exact absurd HA.out (by simp [ductusref02_All.l0])
    | succ k1 =>
      have H := HA.out;clear HA;simp only [ductusref02_All.l0] at H
      by_cases c2 : x4_1 < (l0.length : Int)
      rotate_left
      · rw [if_neg c2] at H
        have c2b0 := decide_eq_false c2;clear c2;obtain rfl := Option.some.inj H;go_wp2;go_ret;exact ⟨_, uE, uR HO_3.out, uB HB.out⟩
      rw [if_pos c2] at H;have c2b0 := decide_eq_true c2;clear c2;replace H := uI H;obtain ⟨c3b0, H⟩ := H;replace H := Option.bind_eq_some_iff.mp H;obtain ⟨t290, A40, H⟩ := H;have A4 := Aside0.mk A40;clear A40;replace H := uP H;obtain ⟨c5, H⟩ := H;have LMc5 := Aside0.mk c5;clear c5;obtain ⟨y291, hy291⟩ : ∃ y_ : List Int, y_ = (x3_1 ++ [t290]) := ⟨_, rfl⟩;replace H : (ductusref02_All.l0 k1 l0 y291 (wrap64 (x4_1 + 1))) = some r := uH hy291 H;have Ny291 := Aside0.mk hy291;clear hy291;have H' := Aside0.mk H;clear H;have p289 : 0 ≤ (x4_1 : Int) := uD;have q289 : x4_1 < (l0.length : Int) := uD;obtain ⟨ad289, e289, hx289_0⟩ := Kd.at_int HR0.out x4_1 p289 q289;cases e289;replace hx289_0 := (HB.out.cell (World.block_lt_of_cell? w _ hx289_0)).trans hx289_0;replace p289 := eq_true p289;replace q289 := eq_true q289
      go_wp2_with (first | ((with_reducible refine gate_callee (f := 21) rfl ?_); refine gL 16 Try.func21 #[.int .i64 (rd l0 x4_1)] ?_; (with_reducible refine (ductusref02_Of.calls (rd l0 x4_1) t290 _ A4.out).mono ?_); rintro e w' ⟨rfl, ⟨nd, rfl⟩⟩; refine ⟨_, rfl, ?_⟩) | ((with_reducible refine gate_builtin (b := .append) (xs := #[.tmp 11, .tmp 17]) rfl ?_); at_builtin; refine Kd.R_append (Kd.int .i64) (w0 := w) w.heap.size rfl (.tmp 11) (.tmp 17) 22 3 (.int .i64 0) 8 rfl Try.underlying22 info3 rfl (by decide) (by omega) u3 x3_1 t290 [.int .i64 t290] (fun _ => True) (fun _ => False) rfl rfl ?aP (fun _ hk => hk.elim) ?aF ?aO ?aB ?aS ?aL ?_; (case aP => exact rfl); (case aB => exact (uB HB.out)); (case aF => exact (fun _ _ => trivial)); (case aO => exact (uR HO_3.out)); (case aS => exact (below_size (uB HB.out))); (case aL => have := LMc5.out; omega); intro v292 w6 ho hb hg hat; rw [← Ny291.out] at ho; have n_ := z2_ (hb) (ho); clear HB HO_3; obtain ⟨HB, HO293⟩ := n_; clear ho hb hg hat))
      go_roundg k1
      case measure => have := HK1.out; omega
      case rel => exact ⟨(y291), (wrap64 (x4_1 + 1)), uF, H', ⟨by have := HK1.out; omega⟩, ⟨uR HO293.out⟩, ⟨uB HB.out⟩⟩
mutual
def ductusref05_End.l0 : Nat → List Int → Int → Int → Option (Int)
  | 0, _, _, _ => none
  | k + 1, x0, x5, x6 => if x6 < (x0.length : Int) then (if 0 ≤ x6 then (ductusref05_End.j1 k x0 x5 x6 ((rd x0 x6) != 10)) else (none)) else (ductusref05_End.j1 k x0 x5 x6 false)
def ductusref05_End.j1 : Nat → List Int → Int → Int → Bool → Option (Int)
  | 0, _, _, _, _ => none
  | k + 1, x0, x5, x6, x19 => if x19 = true then (if 0 ≤ x6 then (if x6 < (x0.length : Int) then ((ductusref02_Opens.f (rd x0 x6)).bind fun t296 => (if t296 = true then (ductusref05_End.j2 k x0 (wrap64 (x5 + 1)) x6) else (ductusref05_End.j2 k x0 x5 x6))) else (none)) else (none)) else (some (-1))
def ductusref05_End.j2 : Nat → List Int → Int → Int → Option (Int)
  | 0, _, _, _ => none
  | k + 1, x0, x5, x6 => if 0 ≤ x6 then (if x6 < (x0.length : Int) then (if (rd x0 x6) = 22 then (if (wrap64 (x5 - 1)) = 0 then (some x6) else (ductusref05_End.l0 k x0 (wrap64 (x5 - 1)) (wrap64 (x6 + 1)))) else (ductusref05_End.l0 k x0 x5 (wrap64 (x6 + 1)))) else (none)) else (none)
end
def ductusref05_End.f (k : Nat) (l0 : List Int) (a1 : Int) : Option (Int) := ductusref05_End.l0 k l0 1 (wrap64 (a1 + 1))
theorem ductusref05_End.calls (k : Nat) (A0 : Option Addr) (c0 : Nat) (l0 : List Int) (a1 : Int) (r : Int) (w : World) (hr0 : Kd.C (Kd.int .i64) w A0 l0.length l0) (hc0 : l0.length ≤ c0) (h : ductusref05_End.f k l0 a1 = some r) :
    Calls Try.prog 65 #[.slice A0 l0.length c0, .int .i64 a1] w fun e w' => e = .returned (.int .i64 r) ∧ Drawn0 w w' := by
  have HR0 := Aside0.mk hr0;have HC0 := Aside0.mk hc0;clear hr0 hc0;unfold ductusref05_End.f at h;have H := h;clear h;have H' := Aside0.mk H;clear H
  go_enter Try.func65, Try.ntmps65
  go_wp2
  go_loopg [5, 6] k (fun kq v5 v6 w' => ∃ (x5_1 : Int) (x6_1 : Int), v5 = .int .i64 x5_1 ∧ v6 = .int .i64 x6_1 ∧ Aside0 (ductusref05_End.l0 kq l0 x5_1 x6_1 = some r) ∧ Aside0 (kq ≤ k) ∧ Drawn0 w w')
  case atStart => exact ⟨(1), (wrap64 (a1 + 1)), uF, uF, H', ⟨Nat.le_refl _⟩, uW⟩
  case round =>
    clear H';(try clear p2);obtain ⟨x5_1, x6_1, rfl, rfl, HA, HK1, ⟨m1, rfl⟩⟩ := hrel
    cases gk with
    | zero => exact absurd HA.out (by simp [ductusref05_End.l0])
    | succ k1 =>
      have H := HA.out;clear HA;simp only [ductusref05_End.l0] at H;have HC3 := Aside0.mk H;clear H
      go_upto_region 3 with (fail)
      go_cut [19] (fun v19 wc => ∃ (kq : Nat) (x19_2 : Bool), v19 = .bool x19_2 ∧ Aside0 (ductusref05_End.j1 kq l0 x5_1 x6_1 x19_2 = some r) ∧ Aside0 (kq ≤ k1) ∧ Drawn0 w wc)
      case first =>
        have H := HC3.out;clear HC3
        by_cases c4 : x6_1 < (l0.length : Int)
        rotate_left
        · rw [if_neg c4] at H
          have c4b0 := decide_eq_false c4;clear c4
          (first | rw [c4b0] | (simp only [i64_w, i32_w]; rw [c4b0]) | skip)
          have H' := Aside0.mk H;clear H;go_wp2;go_meet
          case rel => exact ⟨_, (false), uF, H', ⟨by have := HK1.out; first | omega | exact Nat.le_refl _⟩, uW⟩
        rw [if_pos c4] at H;have c4b0 := decide_eq_true c4;clear c4
        (first | rw [c4b0] | (simp only [i64_w, i32_w]; rw [c4b0]) | skip)
        replace H := uI H;obtain ⟨c5b0, H⟩ := H;have H' := Aside0.mk H;clear H;have p294 : 0 ≤ (x6_1 : Int) := uD;have q294 : x6_1 < (l0.length : Int) := uD;obtain ⟨ad294, e294, hx294_0⟩ := Kd.at_int HR0.out x6_1 p294 q294;cases e294;replace p294 := eq_true p294;replace q294 := eq_true q294;go_wp2;go_meet
        case rel => exact ⟨_, (((rd l0 x6_1) != 10)), uF, H', ⟨by have := HK1.out; first | omega | exact Nat.le_refl _⟩, uW⟩
      case rest =>
        clear HC3;(try clear p2);(try clear q2);(try clear hx2);(try clear c4b0);(try clear c5b0);(try clear hx294_0);(try clear p2);(try clear p294);(try clear q294);obtain ⟨kq, x19_2, rfl, HA, HJ2, ⟨mc2, rfl⟩⟩ := hcut
        cases kq with
        | zero => exact absurd HA.out (by simp [ductusref05_End.j1])
        | succ kj2 =>
          have H := HA.out;clear HA;simp only [ductusref05_End.j1] at H
          by_cases c6 : x19_2 = true
          rotate_left
          · replace c6 := Bool.eq_false_iff.mpr c6
            subst c6
            have H1 : (some (-1)) = some r := by rw [if_neg (show ¬ (false = true) by decide)] at H; exact H
            clear H;have H := H1;clear H1;obtain rfl := Option.some.inj H;go_wp2;go_ret;exact ⟨uF, uW⟩
          subst c6
          have H1 : (if 0 ≤ x6_1 then (if x6_1 < (l0.length : Int) then ((ductusref02_Opens.f (rd l0 x6_1)).bind fun t296 => (if t296 = true then (ductusref05_End.j2 kj2 l0 (wrap64 (x5_1 + 1)) x6_1) else (ductusref05_End.j2 kj2 l0 x5_1 x6_1))) else (none)) else (none)) = some r := by rw [if_pos rfl] at H; exact H
          clear H;have H := H1;clear H1;replace H := uI H;obtain ⟨c7b0, H⟩ := H;replace H := uI H;obtain ⟨c8b0, H⟩ := H;replace H := Option.bind_eq_some_iff.mp H;obtain ⟨t296, A90, H⟩ := H;have A9 := Aside0.mk A90;clear A90;have HC10 := Aside0.mk H;clear H;have p295 : 0 ≤ (x6_1 : Int) := uD;have q295 : x6_1 < (l0.length : Int) := uD;obtain ⟨ad295, e295, hx295_0⟩ := Kd.at_int HR0.out x6_1 p295 q295;cases e295;replace p295 := eq_true p295;replace q295 := eq_true q295
          go_upto_if 26 with (first | ((with_reducible refine gate_callee (f := 22) rfl ?_); refine gL 26 Try.func22 #[.int .i64 (rd l0 x6_1)] ?_; (with_reducible refine (ductusref02_Opens.calls (rd l0 x6_1) t296 _ A9.out).mono ?_); rintro e w' ⟨rfl, ⟨nd, rfl⟩⟩; refine ⟨_, rfl, ?_⟩))
          (try simp only [Act.put, List.setIfInBounds_toArray, List.set_cons_zero, List.set_cons_succ])
          go_cut [5] (fun v5 wc => ∃ (kq : Nat) (x5_9 : Int), v5 = .int .i64 x5_9 ∧ Aside0 (ductusref05_End.j2 kq l0 x5_9 x6_1 = some r) ∧ Aside0 (kq ≤ kj2) ∧ Drawn0 w wc)
          case first =>
            have H := HC10.out;clear HC10
            by_cases c11 : t296 = true
            · subst c11
              have H1 : (ductusref05_End.j2 kj2 l0 (wrap64 (x5_1 + 1)) x6_1) = some r := by rw [if_pos rfl] at H; exact H
              clear H;have H := H1;clear H1;have H' := Aside0.mk H;clear H;go_wp2;go_meet
              case rel => exact ⟨_, (wrap64 (x5_1 + 1)), uF, H', ⟨by have := HK1.out; have := HJ2.out; first | omega | exact Nat.le_refl _⟩, uW⟩
            replace c11 := Bool.eq_false_iff.mpr c11;subst c11
            have H1 : (ductusref05_End.j2 kj2 l0 x5_1 x6_1) = some r := by rw [if_neg (show ¬ (false = true) by decide)] at H; exact H
            clear H;have H := H1;clear H1;have H' := Aside0.mk H;clear H;go_wp2;go_meet
            case rel => exact ⟨_, (x5_1), uF, H', ⟨by have := HK1.out; have := HJ2.out; first | omega | exact Nat.le_refl _⟩, uW⟩
          case rest =>
            clear HC10;(try clear c1);(try clear c2);(try clear p2);(try clear q2);(try clear hx2);(try clear c4b0);(try clear c5b0);(try clear c6);(try clear p6);(try clear c7b0);(try clear c8b0);(try clear c11);(try clear hx294_0);(try clear hx295_0);(try clear p2);(try clear p294);(try clear p295);(try clear q2);(try clear q294);(try clear q295);obtain ⟨kq, x5_9, rfl, HA, HJ9, ⟨mc9, rfl⟩⟩ := hcut
            cases kq with
            | zero => exact absurd HA.out (by simp [ductusref05_End.j2])
            | succ kj9 =>
              have H := HA.out;clear HA;simp only [ductusref05_End.j2] at H;replace H := uI H;obtain ⟨c12b0, H⟩ := H;replace H := uI H;obtain ⟨c13b0, H⟩ := H
              by_cases c14 : (rd l0 x6_1) = 22
              rotate_left
              · rw [if_neg c14] at H
                have c14b0 := beq_eq_false_iff_ne.mpr c14;have c14b1 := bne_iff_ne.mpr c14;have H' := Aside0.mk H;clear H;have p297 : 0 ≤ (x6_1 : Int) := uD;have q297 : x6_1 < (l0.length : Int) := uD;obtain ⟨ad297, e297, hx297_0⟩ := Kd.at_int HR0.out x6_1 p297 q297;obtain rfl : ad295 = ad297 := (by injection e297);replace p297 := eq_true p297;replace q297 := eq_true q297;go_wp2;go_roundg kj9
                case measure => have := HK1.out; have := HJ2.out; have := HJ9.out; omega
                case rel => exact ⟨(x5_9), (wrap64 (x6_1 + 1)), uF, uF, H', ⟨by have := HK1.out; have := HJ2.out; have := HJ9.out; omega⟩, uW⟩
              rw [if_pos c14] at H;have c14b0 := beq_iff_eq.mpr c14;have c14b1 := bne_eq_false_iff_eq.mpr c14;clear c14
              by_cases c15 : (wrap64 (x5_9 - 1)) = 0
              · rw [if_pos c15] at H
                have c15b0 := beq_iff_eq.mpr c15;have c15b1 := bne_eq_false_iff_eq.mpr c15;clear c15;obtain rfl := Option.some.inj H;have p297 : 0 ≤ (x6_1 : Int) := uD;have q297 : x6_1 < (l0.length : Int) := uD;obtain ⟨ad297, e297, hx297_0⟩ := Kd.at_int HR0.out x6_1 p297 q297;obtain rfl : ad295 = ad297 := (by injection e297);replace p297 := eq_true p297;replace q297 := eq_true q297;go_wp2;go_ret;exact ⟨uF, uW⟩
              rw [if_neg c15] at H;have c15b0 := beq_eq_false_iff_ne.mpr c15;have c15b1 := bne_iff_ne.mpr c15;have H' := Aside0.mk H;clear H;have p297 : 0 ≤ (x6_1 : Int) := uD;have q297 : x6_1 < (l0.length : Int) := uD;obtain ⟨ad297, e297, hx297_0⟩ := Kd.at_int HR0.out x6_1 p297 q297;obtain rfl : ad295 = ad297 := (by injection e297);replace p297 := eq_true p297;replace q297 := eq_true q297;go_wp2;go_roundg kj9
              case measure => have := HK1.out; have := HJ2.out; have := HJ9.out; omega
              case rel => exact ⟨(wrap64 (x5_9 - 1)), (wrap64 (x6_1 + 1)), uF, uF, H', ⟨by have := HK1.out; have := HJ2.out; have := HJ9.out; omega⟩, uW⟩
def ductusref02_Word.f (a0 : Int) : Option (ByteArray) := (some (([(⟨#[76]⟩ : ByteArray), (⟨#[82]⟩ : ByteArray), (⟨#[65, 76]⟩ : ByteArray), (⟨#[69, 78]⟩ : ByteArray), (⟨#[69, 83]⟩ : ByteArray), (⟨#[69, 84]⟩ : ByteArray), (⟨#[65, 78]⟩ : ByteArray), (⟨#[67, 83]⟩ : ByteArray), (⟨#[78, 83, 77]⟩ : ByteArray), (⟨#[66, 78]⟩ : ByteArray), (⟨#[66]⟩ : ByteArray), (⟨#[83]⟩ : ByteArray), (⟨#[87, 83]⟩ : ByteArray), (⟨#[79, 78]⟩ : ByteArray), (⟨#[76, 82, 69]⟩ : ByteArray), (⟨#[76, 82, 79]⟩ : ByteArray), (⟨#[82, 76, 69]⟩ : ByteArray), (⟨#[82, 76, 79]⟩ : ByteArray), (⟨#[80, 68, 70]⟩ : ByteArray), (⟨#[76, 82, 73]⟩ : ByteArray), (⟨#[82, 76, 73]⟩ : ByteArray), (⟨#[70, 83, 73]⟩ : ByteArray), (⟨#[80, 68, 73]⟩ : ByteArray)] : List ByteArray) : List ByteArray)).bind fun y298 => (if a0 < 0 then (some (⟨#[]⟩ : ByteArray)) else (if a0 ≥ (y298.length : Int) then (some (⟨#[]⟩ : ByteArray)) else (if 0 ≤ a0 then (if a0 < (y298.length : Int) then (some (rdOf ByteArray.empty y298 a0)) else (none)) else (none))))
theorem ductusref02_Word.calls (a0 : Int) (r : ByteArray) (w : World) (h : ductusref02_Word.f a0 = some r) :
    Calls Try.prog 66 #[.int .i64 a0] w fun e w' => e = .returned (.string r) ∧ Below w.heap.size w w' := by
  have HB := Aside0.mk (Below.refl w.heap.size w);unfold ductusref02_Word.f at h;have H := h;clear h;obtain ⟨y298, hy298⟩ : ∃ y_ : List ByteArray, y_ = (([(⟨#[76]⟩ : ByteArray), (⟨#[82]⟩ : ByteArray), (⟨#[65, 76]⟩ : ByteArray), (⟨#[69, 78]⟩ : ByteArray), (⟨#[69, 83]⟩ : ByteArray), (⟨#[69, 84]⟩ : ByteArray), (⟨#[65, 78]⟩ : ByteArray), (⟨#[67, 83]⟩ : ByteArray), (⟨#[78, 83, 77]⟩ : ByteArray), (⟨#[66, 78]⟩ : ByteArray), (⟨#[66]⟩ : ByteArray), (⟨#[83]⟩ : ByteArray), (⟨#[87, 83]⟩ : ByteArray), (⟨#[79, 78]⟩ : ByteArray), (⟨#[76, 82, 69]⟩ : ByteArray), (⟨#[76, 82, 79]⟩ : ByteArray), (⟨#[82, 76, 69]⟩ : ByteArray), (⟨#[82, 76, 79]⟩ : ByteArray), (⟨#[80, 68, 70]⟩ : ByteArray), (⟨#[76, 82, 73]⟩ : ByteArray), (⟨#[82, 76, 73]⟩ : ByteArray), (⟨#[70, 83, 73]⟩ : ByteArray), (⟨#[80, 68, 73]⟩ : ByteArray)] : List ByteArray)) := ⟨_, rfl⟩;replace H : (if a0 < 0 then (some (⟨#[]⟩ : ByteArray)) else (if a0 ≥ (y298.length : Int) then (some (⟨#[]⟩ : ByteArray)) else (if 0 ≤ a0 then (if a0 < (y298.length : Int) then (some (rdOf ByteArray.empty y298 a0)) else (none)) else (none)))) = some r := uH hy298 H;have Ny298 := Aside0.mk hy298;clear hy298
  by_cases c2 : a0 < 0
  · rw [if_pos c2] at H
    have c2b0 := decide_eq_true c2;clear c2;obtain rfl := Option.some.inj H
    go_enter Try.func66, Try.ntmps66
    go_wp2_with (first | ((with_reducible refine gate_dst (N := 4) rfl ?_); (try (refine gate_guard (by rfl) ?_; dsimp only)); refine Kd.R_lit Kd.string _ 9 ?hg (N := 4) ?hd (xs := ([(⟨#[76]⟩ : ByteArray), (⟨#[82]⟩ : ByteArray), (⟨#[65, 76]⟩ : ByteArray), (⟨#[69, 78]⟩ : ByteArray), (⟨#[69, 83]⟩ : ByteArray), (⟨#[69, 84]⟩ : ByteArray), (⟨#[65, 78]⟩ : ByteArray), (⟨#[67, 83]⟩ : ByteArray), (⟨#[78, 83, 77]⟩ : ByteArray), (⟨#[66, 78]⟩ : ByteArray), (⟨#[66]⟩ : ByteArray), (⟨#[83]⟩ : ByteArray), (⟨#[87, 83]⟩ : ByteArray), (⟨#[79, 78]⟩ : ByteArray), (⟨#[76, 82, 69]⟩ : ByteArray), (⟨#[76, 82, 79]⟩ : ByteArray), (⟨#[82, 76, 69]⟩ : ByteArray), (⟨#[82, 76, 79]⟩ : ByteArray), (⟨#[80, 68, 70]⟩ : ByteArray), (⟨#[76, 82, 73]⟩ : ByteArray), (⟨#[82, 76, 73]⟩ : ByteArray), (⟨#[70, 83, 73]⟩ : ByteArray), (⟨#[80, 68, 73]⟩ : ByteArray)] : List ByteArray)) (inner := [.string (⟨#[76]⟩ : ByteArray), .string (⟨#[82]⟩ : ByteArray), .string (⟨#[65, 76]⟩ : ByteArray), .string (⟨#[69, 78]⟩ : ByteArray), .string (⟨#[69, 83]⟩ : ByteArray), .string (⟨#[69, 84]⟩ : ByteArray), .string (⟨#[65, 78]⟩ : ByteArray), .string (⟨#[67, 83]⟩ : ByteArray), .string (⟨#[78, 83, 77]⟩ : ByteArray), .string (⟨#[66, 78]⟩ : ByteArray), .string (⟨#[66]⟩ : ByteArray), .string (⟨#[83]⟩ : ByteArray), .string (⟨#[87, 83]⟩ : ByteArray), .string (⟨#[79, 78]⟩ : ByteArray), .string (⟨#[76, 82, 69]⟩ : ByteArray), .string (⟨#[76, 82, 79]⟩ : ByteArray), .string (⟨#[82, 76, 69]⟩ : ByteArray), .string (⟨#[82, 76, 79]⟩ : ByteArray), .string (⟨#[80, 68, 70]⟩ : ByteArray), .string (⟨#[76, 82, 73]⟩ : ByteArray), .string (⟨#[82, 76, 73]⟩ : ByteArray), .string (⟨#[70, 83, 73]⟩ : ByteArray), .string (⟨#[80, 68, 73]⟩ : ByteArray)]) (ok := fun _ => True) (okp := fun _ => True) ?hr ?hp (fun _ hk => hk) trivial (Below.refl _ _) (Nat.le_refl _) (by simp) ?_; (case hd => rfl); (case hg => rfl); (case hr => exact uN); (case hp => exact (Reps.one uZ (Reps.one uZ (Reps.one uZ (Reps.one uZ (Reps.one uZ (Reps.one uZ (Reps.one uZ (Reps.one uZ (Reps.one uZ (Reps.one uZ (Reps.one uZ (Reps.one uZ (Reps.one uZ (Reps.one uZ (Reps.one uZ (Reps.one uZ (Reps.one uZ (Reps.one uZ (Reps.one uZ (Reps.one uZ (Reps.one uZ (Reps.one uZ (Reps.one uZ (Reps.none _ _))))))))))))))))))))))))); intro v299 w3 ho4 hb hg_ hnew_; clear hg_ hnew_; (first | rw [← Ny298.out] at ho4 | (simp only [Int.reduceToNat] at ho4; rw [← Ny298.out] at ho4)); have n_ := z2_ (Kd.R_lower ho4 (below_size (uB HB.out))) (below_step (uB HB.out) hb); clear HB; obtain ⟨HO300, HB⟩ := n_; clear hb ho4))
    go_ret;exact ⟨uE, uB HB.out⟩
  rw [if_neg c2] at H;have c2b0 := decide_eq_false c2;clear c2
  by_cases c5 : a0 ≥ (y298.length : Int)
  · rw [if_pos c5] at H
    have c5b0 : decide ((y298.length : Int) ≤ a0) = true := decide_eq_true c5;clear c5;obtain rfl := Option.some.inj H
    go_enter Try.func66, Try.ntmps66
    go_wp2_with (first | ((with_reducible refine gate_dst (N := 4) rfl ?_); (try (refine gate_guard (by rfl) ?_; dsimp only)); refine Kd.R_lit Kd.string _ 9 ?hg (N := 4) ?hd (xs := ([(⟨#[76]⟩ : ByteArray), (⟨#[82]⟩ : ByteArray), (⟨#[65, 76]⟩ : ByteArray), (⟨#[69, 78]⟩ : ByteArray), (⟨#[69, 83]⟩ : ByteArray), (⟨#[69, 84]⟩ : ByteArray), (⟨#[65, 78]⟩ : ByteArray), (⟨#[67, 83]⟩ : ByteArray), (⟨#[78, 83, 77]⟩ : ByteArray), (⟨#[66, 78]⟩ : ByteArray), (⟨#[66]⟩ : ByteArray), (⟨#[83]⟩ : ByteArray), (⟨#[87, 83]⟩ : ByteArray), (⟨#[79, 78]⟩ : ByteArray), (⟨#[76, 82, 69]⟩ : ByteArray), (⟨#[76, 82, 79]⟩ : ByteArray), (⟨#[82, 76, 69]⟩ : ByteArray), (⟨#[82, 76, 79]⟩ : ByteArray), (⟨#[80, 68, 70]⟩ : ByteArray), (⟨#[76, 82, 73]⟩ : ByteArray), (⟨#[82, 76, 73]⟩ : ByteArray), (⟨#[70, 83, 73]⟩ : ByteArray), (⟨#[80, 68, 73]⟩ : ByteArray)] : List ByteArray)) (inner := [.string (⟨#[76]⟩ : ByteArray), .string (⟨#[82]⟩ : ByteArray), .string (⟨#[65, 76]⟩ : ByteArray), .string (⟨#[69, 78]⟩ : ByteArray), .string (⟨#[69, 83]⟩ : ByteArray), .string (⟨#[69, 84]⟩ : ByteArray), .string (⟨#[65, 78]⟩ : ByteArray), .string (⟨#[67, 83]⟩ : ByteArray), .string (⟨#[78, 83, 77]⟩ : ByteArray), .string (⟨#[66, 78]⟩ : ByteArray), .string (⟨#[66]⟩ : ByteArray), .string (⟨#[83]⟩ : ByteArray), .string (⟨#[87, 83]⟩ : ByteArray), .string (⟨#[79, 78]⟩ : ByteArray), .string (⟨#[76, 82, 69]⟩ : ByteArray), .string (⟨#[76, 82, 79]⟩ : ByteArray), .string (⟨#[82, 76, 69]⟩ : ByteArray), .string (⟨#[82, 76, 79]⟩ : ByteArray), .string (⟨#[80, 68, 70]⟩ : ByteArray), .string (⟨#[76, 82, 73]⟩ : ByteArray), .string (⟨#[82, 76, 73]⟩ : ByteArray), .string (⟨#[70, 83, 73]⟩ : ByteArray), .string (⟨#[80, 68, 73]⟩ : ByteArray)]) (ok := fun _ => True) (okp := fun _ => True) ?hr ?hp (fun _ hk => hk) trivial (Below.refl _ _) (Nat.le_refl _) (by simp) ?_; (case hd => rfl); (case hg => rfl); (case hr => exact uN); (case hp => exact (Reps.one uZ (Reps.one uZ (Reps.one uZ (Reps.one uZ (Reps.one uZ (Reps.one uZ (Reps.one uZ (Reps.one uZ (Reps.one uZ (Reps.one uZ (Reps.one uZ (Reps.one uZ (Reps.one uZ (Reps.one uZ (Reps.one uZ (Reps.one uZ (Reps.one uZ (Reps.one uZ (Reps.one uZ (Reps.one uZ (Reps.one uZ (Reps.one uZ (Reps.one uZ (Reps.none _ _))))))))))))))))))))))))); intro v299 w6 ho7 hb hg_ hnew_; clear hg_ hnew_; (first | rw [← Ny298.out] at ho7 | (simp only [Int.reduceToNat] at ho7; rw [← Ny298.out] at ho7)); have n_ := z2_ (Kd.R_lower ho7 (below_size (uB HB.out))) (below_step (uB HB.out) hb); clear HB; obtain ⟨HO300, HB⟩ := n_; clear hb ho7; obtain ⟨Ao8, co8, eo8⟩ := Kd.R_slice HO300.out; subst eo8))
    go_ret;exact ⟨uE, uB HB.out⟩
  rw [if_neg c5] at H;have c5b0 : decide ((y298.length : Int) ≤ a0) = false := decide_eq_false c5;clear c5;replace H := uI H;obtain ⟨c9b0, H⟩ := H;replace H := uI H;obtain ⟨c10b0, H⟩ := H;obtain rfl := Option.some.inj H
  go_enter Try.func66, Try.ntmps66
  go_wp2_with (first | ((with_reducible refine gate_dst (N := 4) rfl ?_); (try (refine gate_guard (by rfl) ?_; dsimp only)); refine Kd.R_lit Kd.string _ 9 ?hg (N := 4) ?hd (xs := ([(⟨#[76]⟩ : ByteArray), (⟨#[82]⟩ : ByteArray), (⟨#[65, 76]⟩ : ByteArray), (⟨#[69, 78]⟩ : ByteArray), (⟨#[69, 83]⟩ : ByteArray), (⟨#[69, 84]⟩ : ByteArray), (⟨#[65, 78]⟩ : ByteArray), (⟨#[67, 83]⟩ : ByteArray), (⟨#[78, 83, 77]⟩ : ByteArray), (⟨#[66, 78]⟩ : ByteArray), (⟨#[66]⟩ : ByteArray), (⟨#[83]⟩ : ByteArray), (⟨#[87, 83]⟩ : ByteArray), (⟨#[79, 78]⟩ : ByteArray), (⟨#[76, 82, 69]⟩ : ByteArray), (⟨#[76, 82, 79]⟩ : ByteArray), (⟨#[82, 76, 69]⟩ : ByteArray), (⟨#[82, 76, 79]⟩ : ByteArray), (⟨#[80, 68, 70]⟩ : ByteArray), (⟨#[76, 82, 73]⟩ : ByteArray), (⟨#[82, 76, 73]⟩ : ByteArray), (⟨#[70, 83, 73]⟩ : ByteArray), (⟨#[80, 68, 73]⟩ : ByteArray)] : List ByteArray)) (inner := [.string (⟨#[76]⟩ : ByteArray), .string (⟨#[82]⟩ : ByteArray), .string (⟨#[65, 76]⟩ : ByteArray), .string (⟨#[69, 78]⟩ : ByteArray), .string (⟨#[69, 83]⟩ : ByteArray), .string (⟨#[69, 84]⟩ : ByteArray), .string (⟨#[65, 78]⟩ : ByteArray), .string (⟨#[67, 83]⟩ : ByteArray), .string (⟨#[78, 83, 77]⟩ : ByteArray), .string (⟨#[66, 78]⟩ : ByteArray), .string (⟨#[66]⟩ : ByteArray), .string (⟨#[83]⟩ : ByteArray), .string (⟨#[87, 83]⟩ : ByteArray), .string (⟨#[79, 78]⟩ : ByteArray), .string (⟨#[76, 82, 69]⟩ : ByteArray), .string (⟨#[76, 82, 79]⟩ : ByteArray), .string (⟨#[82, 76, 69]⟩ : ByteArray), .string (⟨#[82, 76, 79]⟩ : ByteArray), .string (⟨#[80, 68, 70]⟩ : ByteArray), .string (⟨#[76, 82, 73]⟩ : ByteArray), .string (⟨#[82, 76, 73]⟩ : ByteArray), .string (⟨#[70, 83, 73]⟩ : ByteArray), .string (⟨#[80, 68, 73]⟩ : ByteArray)]) (ok := fun _ => True) (okp := fun _ => True) ?hr ?hp (fun _ hk => hk) trivial (Below.refl _ _) (Nat.le_refl _) (by simp) ?_; (case hd => rfl); (case hg => rfl); (case hr => exact uN); (case hp => exact (Reps.one uZ (Reps.one uZ (Reps.one uZ (Reps.one uZ (Reps.one uZ (Reps.one uZ (Reps.one uZ (Reps.one uZ (Reps.one uZ (Reps.one uZ (Reps.one uZ (Reps.one uZ (Reps.one uZ (Reps.one uZ (Reps.one uZ (Reps.one uZ (Reps.one uZ (Reps.one uZ (Reps.one uZ (Reps.one uZ (Reps.one uZ (Reps.one uZ (Reps.one uZ (Reps.none _ _))))))))))))))))))))))))); intro v299 w11 ho12 hb hg_ hnew_; clear hg_ hnew_; (first | rw [← Ny298.out] at ho12 | (simp only [Int.reduceToNat] at ho12; rw [← Ny298.out] at ho12)); have n_ := z2_ (Kd.R_lower ho12 (below_size (uB HB.out))) (below_step (uB HB.out) hb); clear HB; obtain ⟨HO300, HB⟩ := n_; clear hb ho12; obtain ⟨Ao13, co13, eo13⟩ := Kd.R_slice HO300.out; subst eo13; have p301 : 0 ≤ (a0 : Int) := uD; have q301 : a0 < (y298.length : Int) := uD; obtain ⟨ad301, e301, hx301_0⟩ := Kd.at_string (Kd.R_reads' HO300.out).2.2 a0 p301 q301; cases e301; replace p301 := eq_true p301; replace q301 := eq_true q301))
  go_ret;exact ⟨uE, uB HB.out⟩
mutual
def ductusref05_First.l0 : Nat → List Int → Int → Int → Option (Int)
  | 0, _, _, _ => none
  | k + 1, x0, x2, x7 => if x7 < (mn x2 (x0.length : Int)) then (if 0 ≤ x7 then (if x7 < (x0.length : Int) then (if (rd x0 x7) = 10 then (some (-1)) else ((ductusref02_Opens.f (rd x0 x7)).bind fun t304 => (if t304 = true then ((ductusref05_End.f k x0 x7).bind fun t305 => (if t305 < 0 then (some (-1)) else (if t305 ≥ x2 then (some (-1)) else (ductusref05_First.l0 k x0 x2 (wrap64 (t305 + 1)))))) else (if (rd x0 x7) = 1 then (ductusref05_First.j1 k x0 x2 x7 true) else (ductusref05_First.j1 k x0 x2 x7 ((rd x0 x7) == 2)))))) else (none)) else (none)) else (some (-1))
def ductusref05_First.j1 : Nat → List Int → Int → Int → Bool → Option (Int)
  | 0, _, _, _, _ => none
  | k + 1, x0, x2, x7, x42 => if x42 = true then (some 1) else (if 0 ≤ x7 then (if x7 < (x0.length : Int) then (if (rd x0 x7) = 0 then (some 0) else ((ductusref02_Word.f (rd x0 x7)).bind fun t310 => (if t310.toList = ([] : List UInt8) then (some 0) else (ductusref05_First.l0 k x0 x2 (wrap64 (x7 + 1)))))) else (none)) else (none))
end
def ductusref05_First.f (k : Nat) (l0 : List Int) (a1 : Int) (a2 : Int) : Option (Int) := ductusref05_First.l0 k l0 a2 (mx 0 a1)
theorem ductusref05_First.calls (k : Nat) (A0 : Option Addr) (c0 : Nat) (l0 : List Int) (a1 : Int) (a2 : Int) (r : Int) (w : World) (hr0 : Kd.C (Kd.int .i64) w A0 l0.length l0) (hc0 : l0.length ≤ c0) (h : ductusref05_First.f k l0 a1 a2 = some r) :
    Calls Try.prog 49 #[.slice A0 l0.length c0, .int .i64 a1, .int .i64 a2] w fun e w' => e = .returned (.int .i64 r) ∧ Below w.heap.size w w' := by
  have HR0 := Aside0.mk hr0;have HC0 := Aside0.mk hc0;clear hr0 hc0;have HB := Aside0.mk (Below.refl w.heap.size w);unfold ductusref05_First.f at h;have H := h;clear h;obtain ⟨ji4, hji4⟩ : ∃ j_ : Int, (mx 0 a1) = j_ := ⟨_, rfl⟩
  replace H : (ductusref05_First.l0 k l0 a2 ji4) = some r := by first | (rw [hji4] at H; exact H) | (simp only [hji4] at H ⊢; exact H)
  (try (have hji4l : 0 ≤ ji4 := by (rw [← hji4]; unfold mx; (repeat' split) <;> omega)));(try (have hji4m : 0 ≤ ji4 := by omega));have hji4_ : (if 0 < a1 then a1 else 0) = ji4 := hji4;have H' := Aside0.mk H;clear H
  go_enter Try.func49, Try.ntmps49
  go_wp2
  go_loopg [7] k (fun kq v7 w' => ∃ (x7_1 : Int), v7 = .int .i64 x7_1 ∧ Aside0 (ductusref05_First.l0 kq l0 a2 x7_1 = some r) ∧ Aside0 (kq ≤ k) ∧ Aside0 (Below w.heap.size w w'))
  case atStart => exact ⟨(ji4), (by first | rfl | (simp; done) | (simp only [← hji4] <;> (first | rfl | simp)) | (simp [*]; done)), H', ⟨Nat.le_refl _⟩, ⟨uB HB.out⟩⟩
  case round =>
    clear H';(try clear p2);(try clear c4);obtain ⟨x7_1, rfl, HA, HK1, HB⟩ := hrel
    cases gk with
    | zero => exact absurd HA.out (by simp [ductusref05_First.l0])
    | succ k1 =>
      have H := HA.out;clear HA;simp only [ductusref05_First.l0] at H;obtain ⟨ji5, hji5⟩ : ∃ j_ : Int, (mn a2 (l0.length : Int)) = j_ := ⟨_, rfl⟩
      replace H : (if x7_1 < (ji5) then (if 0 ≤ x7_1 then (if x7_1 < (l0.length : Int) then (if (rd l0 x7_1) = 10 then (some (-1)) else ((ductusref02_Opens.f (rd l0 x7_1)).bind fun t304 => (if t304 = true then ((ductusref05_End.f k1 l0 x7_1).bind fun t305 => (if t305 < 0 then (some (-1)) else (if t305 ≥ a2 then (some (-1)) else (ductusref05_First.l0 k1 l0 a2 (wrap64 (t305 + 1)))))) else (if (rd l0 x7_1) = 1 then (ductusref05_First.j1 k1 l0 a2 x7_1 true) else (ductusref05_First.j1 k1 l0 a2 x7_1 ((rd l0 x7_1) == 2)))))) else (none)) else (none)) else (some (-1))) = some r := by first | (rw [hji5] at H; exact H) | (simp only [hji5] at H ⊢; exact H)
      have hji5_ : (if (l0.length : Int) < a2 then (l0.length : Int) else a2) = ji5 := hji5
      by_cases c6 : x7_1 < (ji5)
      rotate_left
      · rw [if_neg c6] at H
        have c6b0 := decide_eq_false c6;clear c6;obtain rfl := Option.some.inj H;go_wp2;go_ret;exact ⟨by first | rfl | (simp [errW_none, errW_some] <;> rfl) | (simp only [← hji4, ← hji5]; first | rfl | (simp [errW_none, errW_some] <;> rfl)) | (simp [*, errW_none, errW_some] <;> rfl), uB HB.out⟩
      rw [if_pos c6] at H;have c6b0 := decide_eq_true c6;clear c6;replace H := uI H;obtain ⟨c7b0, H⟩ := H;replace H := uI H;obtain ⟨c8b0, H⟩ := H
      by_cases c9 : (rd l0 x7_1) = 10
      · rw [if_pos c9] at H
        have c9b0 := beq_iff_eq.mpr c9;have c9b1 := bne_eq_false_iff_eq.mpr c9;clear c9;obtain rfl := Option.some.inj H;have p302 : 0 ≤ (x7_1 : Int) := uD;have q302 : x7_1 < (l0.length : Int) := uD;obtain ⟨ad302, e302, hx302_0⟩ := Kd.at_int HR0.out x7_1 p302 q302;cases e302;replace hx302_0 := (HB.out.cell (World.block_lt_of_cell? w _ hx302_0)).trans hx302_0;replace p302 := eq_true p302;replace q302 := eq_true q302;go_wp2;go_ret;exact ⟨by first | rfl | (simp [errW_none, errW_some] <;> rfl) | (simp only [← hji4, ← hji5]; first | rfl | (simp [errW_none, errW_some] <;> rfl)) | (simp [*, errW_none, errW_some] <;> rfl), uB HB.out⟩
      rw [if_neg c9] at H;have c9b0 := beq_eq_false_iff_ne.mpr c9;have c9b1 := bne_iff_ne.mpr c9;replace H := Option.bind_eq_some_iff.mp H;obtain ⟨t304, A100, H⟩ := H;have A10 := Aside0.mk A100;clear A100
      by_cases c11 : t304 = true
      · subst c11
        have H1 : ((ductusref05_End.f k1 l0 x7_1).bind fun t305 => (if t305 < 0 then (some (-1)) else (if t305 ≥ a2 then (some (-1)) else (ductusref05_First.l0 k1 l0 a2 (wrap64 (t305 + 1)))))) = some r := by rw [if_pos rfl] at H; exact H
        clear H;have H := H1;clear H1;replace H := Option.bind_eq_some_iff.mp H;obtain ⟨t305, A120, H⟩ := H;have A12 := Aside0.mk A120;clear A120
        by_cases c13 : t305 < 0
        · rw [if_pos c13] at H
          have c13b0 := decide_eq_true c13;clear c13;obtain rfl := Option.some.inj H;have p302 : 0 ≤ (x7_1 : Int) := uD;have q302 : x7_1 < (l0.length : Int) := uD;obtain ⟨ad302, e302, hx302_0⟩ := Kd.at_int HR0.out x7_1 p302 q302;cases e302;replace hx302_0 := (HB.out.cell (World.block_lt_of_cell? w _ hx302_0)).trans hx302_0;replace p302 := eq_true p302;replace q302 := eq_true q302;have p303 : 0 ≤ (x7_1 : Int) := uD;have q303 : x7_1 < (l0.length : Int) := uD;obtain ⟨ad303, e303, hx303_0⟩ := Kd.at_int HR0.out x7_1 p303 q303;obtain rfl : ad302 = ad303 := (by injection e303);replace hx303_0 := (HB.out.cell (World.block_lt_of_cell? w _ hx303_0)).trans hx303_0;replace p303 := eq_true p303;replace q303 := eq_true q303
          go_wp2_with (first | ((with_reducible refine gate_callee (f := 22) rfl ?_); refine gL 30 Try.func22 #[.int .i64 (rd l0 x7_1)] ?_; (with_reducible refine (ductusref02_Opens.calls (rd l0 x7_1) true _ A10.out).mono ?_); rintro e w' ⟨rfl, ⟨nd, rfl⟩⟩; refine ⟨_, rfl, ?_⟩) | ((with_reducible refine gate_callee (f := 65) rfl ?_); refine gL 33 Try.func65 #[.slice (some ad302) l0.length c0, .int .i64 x7_1] ?_; (with_reducible refine (ductusref05_End.calls k1 _ _ l0 x7_1 t305 _ ?side1 ?side2 A12.out).mono ?_); (case side1 => exact uC (Kd.C_below HR0.out (uB HB.out))); (case side2 => exact HC0.out); rintro e w' ⟨rfl, ⟨nd, rfl⟩⟩; refine ⟨_, rfl, ?_⟩))
          go_ret;exact ⟨by first | rfl | (simp [errW_none, errW_some] <;> rfl) | (simp only [← hji4, ← hji5]; first | rfl | (simp [errW_none, errW_some] <;> rfl)) | (simp [*, errW_none, errW_some] <;> rfl), uB HB.out⟩
        rw [if_neg c13] at H;have c13b0 := decide_eq_false c13;clear c13
        by_cases c14 : t305 ≥ a2
        · rw [if_pos c14] at H
          have c14b0 : decide (a2 ≤ t305) = true := decide_eq_true c14;clear c14;obtain rfl := Option.some.inj H;have p302 : 0 ≤ (x7_1 : Int) := uD;have q302 : x7_1 < (l0.length : Int) := uD;obtain ⟨ad302, e302, hx302_0⟩ := Kd.at_int HR0.out x7_1 p302 q302;cases e302;replace hx302_0 := (HB.out.cell (World.block_lt_of_cell? w _ hx302_0)).trans hx302_0;replace p302 := eq_true p302;replace q302 := eq_true q302;have p303 : 0 ≤ (x7_1 : Int) := uD;have q303 : x7_1 < (l0.length : Int) := uD;obtain ⟨ad303, e303, hx303_0⟩ := Kd.at_int HR0.out x7_1 p303 q303;obtain rfl : ad302 = ad303 := (by injection e303);replace hx303_0 := (HB.out.cell (World.block_lt_of_cell? w _ hx303_0)).trans hx303_0;replace p303 := eq_true p303;replace q303 := eq_true q303
          go_wp2_with (first | ((with_reducible refine gate_callee (f := 22) rfl ?_); refine gL 30 Try.func22 #[.int .i64 (rd l0 x7_1)] ?_; (with_reducible refine (ductusref02_Opens.calls (rd l0 x7_1) true _ A10.out).mono ?_); rintro e w' ⟨rfl, ⟨nd, rfl⟩⟩; refine ⟨_, rfl, ?_⟩) | ((with_reducible refine gate_callee (f := 65) rfl ?_); refine gL 33 Try.func65 #[.slice (some ad302) l0.length c0, .int .i64 x7_1] ?_; (with_reducible refine (ductusref05_End.calls k1 _ _ l0 x7_1 t305 _ ?side1 ?side2 A12.out).mono ?_); (case side1 => exact uC (Kd.C_below HR0.out (uB HB.out))); (case side2 => exact HC0.out); rintro e w' ⟨rfl, ⟨nd, rfl⟩⟩; refine ⟨_, rfl, ?_⟩))
          go_ret;exact ⟨by first | rfl | (simp [errW_none, errW_some] <;> rfl) | (simp only [← hji4, ← hji5]; first | rfl | (simp [errW_none, errW_some] <;> rfl)) | (simp [*, errW_none, errW_some] <;> rfl), uB HB.out⟩
        rw [if_neg c14] at H;have c14b0 : decide (a2 ≤ t305) = false := decide_eq_false c14;clear c14;have H' := Aside0.mk H;clear H;have p302 : 0 ≤ (x7_1 : Int) := uD;have q302 : x7_1 < (l0.length : Int) := uD;obtain ⟨ad302, e302, hx302_0⟩ := Kd.at_int HR0.out x7_1 p302 q302;cases e302;replace hx302_0 := (HB.out.cell (World.block_lt_of_cell? w _ hx302_0)).trans hx302_0;replace p302 := eq_true p302;replace q302 := eq_true q302;have p303 : 0 ≤ (x7_1 : Int) := uD;have q303 : x7_1 < (l0.length : Int) := uD;obtain ⟨ad303, e303, hx303_0⟩ := Kd.at_int HR0.out x7_1 p303 q303;obtain rfl : ad302 = ad303 := (by injection e303);replace hx303_0 := (HB.out.cell (World.block_lt_of_cell? w _ hx303_0)).trans hx303_0;replace p303 := eq_true p303;replace q303 := eq_true q303
        go_wp2_with (first | ((with_reducible refine gate_callee (f := 22) rfl ?_); refine gL 30 Try.func22 #[.int .i64 (rd l0 x7_1)] ?_; (with_reducible refine (ductusref02_Opens.calls (rd l0 x7_1) true _ A10.out).mono ?_); rintro e w' ⟨rfl, ⟨nd, rfl⟩⟩; refine ⟨_, rfl, ?_⟩) | ((with_reducible refine gate_callee (f := 65) rfl ?_); refine gL 33 Try.func65 #[.slice (some ad302) l0.length c0, .int .i64 x7_1] ?_; (with_reducible refine (ductusref05_End.calls k1 _ _ l0 x7_1 t305 _ ?side1 ?side2 A12.out).mono ?_); (case side1 => exact uC (Kd.C_below HR0.out (uB HB.out))); (case side2 => exact HC0.out); rintro e w' ⟨rfl, ⟨nd, rfl⟩⟩; refine ⟨_, rfl, ?_⟩))
        go_roundg k1
        case measure => have := HK1.out; omega
        case rel => exact ⟨(wrap64 (t305 + 1)), uF, H', ⟨by have := HK1.out; omega⟩, ⟨uB HB.out⟩⟩
      replace c11 := Bool.eq_false_iff.mpr c11;subst c11
      have H1 : (if (rd l0 x7_1) = 1 then (ductusref05_First.j1 k1 l0 a2 x7_1 true) else (ductusref05_First.j1 k1 l0 a2 x7_1 ((rd l0 x7_1) == 2))) = some r := by rw [if_neg (show ¬ (false = true) by decide)] at H; exact H
      clear H;have H := H1;clear H1;have HC15 := Aside0.mk H;clear H;have p302 : 0 ≤ (x7_1 : Int) := uD;have q302 : x7_1 < (l0.length : Int) := uD;obtain ⟨ad302, e302, hx302_0⟩ := Kd.at_int HR0.out x7_1 p302 q302;cases e302;replace hx302_0 := (HB.out.cell (World.block_lt_of_cell? w _ hx302_0)).trans hx302_0;replace p302 := eq_true p302;replace q302 := eq_true q302;have p303 : 0 ≤ (x7_1 : Int) := uD;have q303 : x7_1 < (l0.length : Int) := uD;obtain ⟨ad303, e303, hx303_0⟩ := Kd.at_int HR0.out x7_1 p303 q303;obtain rfl : ad302 = ad303 := (by injection e303);replace hx303_0 := (HB.out.cell (World.block_lt_of_cell? w _ hx303_0)).trans hx303_0;replace p303 := eq_true p303;replace q303 := eq_true q303
      go_upto_region 11 with (first | ((with_reducible refine gate_callee (f := 22) rfl ?_); refine gL 30 Try.func22 #[.int .i64 (rd l0 x7_1)] ?_; (with_reducible refine (ductusref02_Opens.calls (rd l0 x7_1) false _ A10.out).mono ?_); rintro e w' ⟨rfl, ⟨nd, rfl⟩⟩; refine ⟨_, rfl, ?_⟩))
      (try simp only [Act.put, List.setIfInBounds_toArray, List.set_cons_zero, List.set_cons_succ])
      go_cut [42] (fun v42 wc => ∃ (kq : Nat) (x42_14 : Bool), v42 = .bool x42_14 ∧ Aside0 (ductusref05_First.j1 kq l0 a2 x7_1 x42_14 = some r) ∧ Aside0 (kq ≤ k1) ∧ Aside0 (Below w.heap.size w wc))
      case first =>
        have H := HC15.out;clear HC15
        by_cases c16 : (rd l0 x7_1) = 1
        · rw [if_pos c16] at H
          have c16b0 := beq_iff_eq.mpr c16;have c16b1 := bne_eq_false_iff_eq.mpr c16;clear c16
          (first | rw [c16b0] | (simp only [i64_w, i32_w]; rw [c16b0]) | skip)
          have H' := Aside0.mk H;clear H;have p306 : 0 ≤ (x7_1 : Int) := uD;have q306 : x7_1 < (l0.length : Int) := uD;obtain ⟨ad306, e306, hx306_0⟩ := Kd.at_int HR0.out x7_1 p306 q306;obtain rfl : ad302 = ad306 := (by injection e306);replace hx306_0 := (HB.out.cell (World.block_lt_of_cell? w _ hx306_0)).trans hx306_0;replace p306 := eq_true p306;replace q306 := eq_true q306;go_wp2;go_meet
          case rel => exact ⟨_, (true), uF, H', ⟨by have := HK1.out; first | omega | exact Nat.le_refl _⟩, ⟨uB HB.out⟩⟩
        rw [if_neg c16] at H;have c16b0 := beq_eq_false_iff_ne.mpr c16;have c16b1 := bne_iff_ne.mpr c16
        (first | rw [c16b0] | (simp only [i64_w, i32_w]; rw [c16b0]) | skip)
        have H' := Aside0.mk H;clear H;have p306 : 0 ≤ (x7_1 : Int) := uD;have q306 : x7_1 < (l0.length : Int) := uD;obtain ⟨ad306, e306, hx306_0⟩ := Kd.at_int HR0.out x7_1 p306 q306;obtain rfl : ad302 = ad306 := (by injection e306);replace hx306_0 := (HB.out.cell (World.block_lt_of_cell? w _ hx306_0)).trans hx306_0;replace p306 := eq_true p306;replace q306 := eq_true q306;have p307 : 0 ≤ (x7_1 : Int) := uD;have q307 : x7_1 < (l0.length : Int) := uD;obtain ⟨ad307, e307, hx307_0⟩ := Kd.at_int HR0.out x7_1 p307 q307;obtain rfl : ad302 = ad307 := (by injection e307);replace hx307_0 := (HB.out.cell (World.block_lt_of_cell? w _ hx307_0)).trans hx307_0;replace p307 := eq_true p307;replace q307 := eq_true q307;go_wp2;go_meet
        case rel => exact ⟨_, (((rd l0 x7_1) == 2)), uF, H', ⟨by have := HK1.out; first | omega | exact Nat.le_refl _⟩, ⟨uB HB.out⟩⟩
      case rest =>
        clear HC15;(try clear c1);(try clear c2);(try clear p2);(try clear p3);(try clear q3);(try clear hx3);(try clear c4);(try clear c6b0);(try clear p6);(try clear c7b0);(try clear c8b0);(try clear c9b0);(try clear c9b1);(try clear c11);(try clear c13b0);(try clear c14b0);(try clear c16b0);(try clear c16b1);(try clear hx302_0);(try clear hx303_0);(try clear hx306_0);(try clear hx307_0);(try clear p2);(try clear p302);(try clear p303);(try clear p306);(try clear p307);(try clear q302);(try clear q303);(try clear q306);(try clear q307);obtain ⟨kq, x42_14, rfl, HA, HJ14, HB⟩ := hcut
        cases kq with
        | zero => exact absurd HA.out (by simp [ductusref05_First.j1])
        | succ kj14 =>
          have H := HA.out;clear HA;simp only [ductusref05_First.j1] at H
          by_cases c17 : x42_14 = true
          · subst c17
            have H1 : (some 1) = some r := by rw [if_pos rfl] at H; exact H
            clear H;have H := H1;clear H1;obtain rfl := Option.some.inj H;go_wp2;go_ret;exact ⟨by first | rfl | (simp [errW_none, errW_some] <;> rfl) | (simp only [← hji4, ← hji5]; first | rfl | (simp [errW_none, errW_some] <;> rfl)) | (simp [*, errW_none, errW_some] <;> rfl), uB HB.out⟩
          replace c17 := Bool.eq_false_iff.mpr c17;subst c17
          have H1 : (if 0 ≤ x7_1 then (if x7_1 < (l0.length : Int) then (if (rd l0 x7_1) = 0 then (some 0) else ((ductusref02_Word.f (rd l0 x7_1)).bind fun t310 => (if t310.toList = ([] : List UInt8) then (some 0) else (ductusref05_First.l0 kj14 l0 a2 (wrap64 (x7_1 + 1)))))) else (none)) else (none)) = some r := by rw [if_neg (show ¬ (false = true) by decide)] at H; exact H
          clear H;have H := H1;clear H1;replace H := uI H;obtain ⟨c18b0, H⟩ := H;replace H := uI H;obtain ⟨c19b0, H⟩ := H
          by_cases c20 : (rd l0 x7_1) = 0
          · rw [if_pos c20] at H
            have c20b0 := beq_iff_eq.mpr c20;have c20b1 := bne_eq_false_iff_eq.mpr c20;clear c20;obtain rfl := Option.some.inj H;have p308 : 0 ≤ (x7_1 : Int) := uD;have q308 : x7_1 < (l0.length : Int) := uD;obtain ⟨ad308, e308, hx308_0⟩ := Kd.at_int HR0.out x7_1 p308 q308;obtain rfl : ad302 = ad308 := (by injection e308);replace hx308_0 := (HB.out.cell (World.block_lt_of_cell? w _ hx308_0)).trans hx308_0;replace p308 := eq_true p308;replace q308 := eq_true q308;go_wp2;go_ret;exact ⟨by first | rfl | (simp [errW_none, errW_some] <;> rfl) | (simp only [← hji4, ← hji5]; first | rfl | (simp [errW_none, errW_some] <;> rfl)) | (simp [*, errW_none, errW_some] <;> rfl), uB HB.out⟩
          rw [if_neg c20] at H;have c20b0 := beq_eq_false_iff_ne.mpr c20;have c20b1 := bne_iff_ne.mpr c20;replace H := Option.bind_eq_some_iff.mp H;obtain ⟨t310, A210, H⟩ := H;have A21 := Aside0.mk A210;clear A210
          by_cases c22 : t310.toList = ([] : List UInt8)
          · rw [if_pos c22] at H
            have c22b0 := beq_iff_eq.mpr c22;have c22b1 := bne_eq_false_iff_eq.mpr c22;clear c22;obtain rfl := Option.some.inj H;have p308 : 0 ≤ (x7_1 : Int) := uD;have q308 : x7_1 < (l0.length : Int) := uD;obtain ⟨ad308, e308, hx308_0⟩ := Kd.at_int HR0.out x7_1 p308 q308;obtain rfl : ad302 = ad308 := (by injection e308);replace hx308_0 := (HB.out.cell (World.block_lt_of_cell? w _ hx308_0)).trans hx308_0;replace p308 := eq_true p308;replace q308 := eq_true q308;have p309 : 0 ≤ (x7_1 : Int) := uD;have q309 : x7_1 < (l0.length : Int) := uD;obtain ⟨ad309, e309, hx309_0⟩ := Kd.at_int HR0.out x7_1 p309 q309;obtain rfl : ad302 = ad309 := (by injection e309);replace hx309_0 := (HB.out.cell (World.block_lt_of_cell? w _ hx309_0)).trans hx309_0;replace p309 := eq_true p309;replace q309 := eq_true q309
            go_wp2_with (first | (go_at_call 66; (with_reducible refine (ductusref02_Word.calls (rd l0 x7_1) t310 _ A21.out).mono ?_); rintro e w23 ⟨rfl, hb⟩; have n0_ := Aside0.mk (below_step (uB HB.out) hb); clear HB; have HB := n0_; clear n0_; (try clear hb); (try clear hb2); (try clear hk); (try clear hi)))
            go_ret;exact ⟨by first | rfl | (simp [errW_none, errW_some] <;> rfl) | (simp only [← hji4, ← hji5]; first | rfl | (simp [errW_none, errW_some] <;> rfl)) | (simp [*, errW_none, errW_some] <;> rfl), uB HB.out⟩
          rw [if_neg c22] at H;have c22b0 := beq_eq_false_iff_ne.mpr c22;have c22b1 := bne_iff_ne.mpr c22;have H' := Aside0.mk H;clear H;have p308 : 0 ≤ (x7_1 : Int) := uD;have q308 : x7_1 < (l0.length : Int) := uD;obtain ⟨ad308, e308, hx308_0⟩ := Kd.at_int HR0.out x7_1 p308 q308;obtain rfl : ad302 = ad308 := (by injection e308);replace hx308_0 := (HB.out.cell (World.block_lt_of_cell? w _ hx308_0)).trans hx308_0;replace p308 := eq_true p308;replace q308 := eq_true q308;have p309 : 0 ≤ (x7_1 : Int) := uD;have q309 : x7_1 < (l0.length : Int) := uD;obtain ⟨ad309, e309, hx309_0⟩ := Kd.at_int HR0.out x7_1 p309 q309;obtain rfl : ad302 = ad309 := (by injection e309);replace hx309_0 := (HB.out.cell (World.block_lt_of_cell? w _ hx309_0)).trans hx309_0;replace p309 := eq_true p309;replace q309 := eq_true q309
          go_wp2_with (first | (go_at_call 66; (with_reducible refine (ductusref02_Word.calls (rd l0 x7_1) t310 _ A21.out).mono ?_); rintro e w24 ⟨rfl, hb⟩; have n0_ := Aside0.mk (below_step (uB HB.out) hb); clear HB; have HB := n0_; clear n0_; (try clear hb); (try clear hb2); (try clear hk); (try clear hi)))
          go_roundg kj14
          case measure => have := HK1.out; have := HJ14.out; omega
          case rel => exact ⟨(wrap64 (x7_1 + 1)), uF, H', ⟨by have := HK1.out; have := HJ14.out; omega⟩, ⟨uB HB.out⟩⟩
def ductusref05_Level.f (k : Nat) (l0 : List Int) (a1 : Int) : Option (Int) := if a1 = 1 then (some 0) else (if a1 = 2 then (some 1) else ((ductusref05_First.f k l0 0 (l0.length : Int)).bind fun t311 => (some (mx 0 t311))))
theorem ductusref05_Level.calls (k : Nat) (A0 : Option Addr) (c0 : Nat) (l0 : List Int) (a1 : Int) (r : Int) (w : World) (hr0 : Kd.C (Kd.int .i64) w A0 l0.length l0) (hc0 : l0.length ≤ c0) (h : ductusref05_Level.f k l0 a1 = some r) :
    Calls Try.prog 37 #[.slice A0 l0.length c0, .int .i64 a1] w fun e w' => e = .returned (.int .i64 r) ∧ Below w.heap.size w w' := by
  have HR0 := Aside0.mk hr0;have HC0 := Aside0.mk hc0;clear hr0 hc0;have HB := Aside0.mk (Below.refl w.heap.size w);unfold ductusref05_Level.f at h;have H := h;clear h
  by_cases c3 : a1 = 1
  · rw [if_pos c3] at H
    have c3b0 := beq_iff_eq.mpr c3;have c3b1 := bne_eq_false_iff_eq.mpr c3;clear c3;obtain rfl := Option.some.inj H
    go_enter Try.func37, Try.ntmps37
    go_wp2;go_ret;exact ⟨uE, uB HB.out⟩
  rw [if_neg c3] at H;have c3b0 := beq_eq_false_iff_ne.mpr c3;have c3b1 := bne_iff_ne.mpr c3
  by_cases c4 : a1 = 2
  · rw [if_pos c4] at H
    have c4b0 := beq_iff_eq.mpr c4;have c4b1 := bne_eq_false_iff_eq.mpr c4;clear c4;obtain rfl := Option.some.inj H
    go_enter Try.func37, Try.ntmps37
    go_wp2;go_ret;exact ⟨uE, uB HB.out⟩
  rw [if_neg c4] at H;have c4b0 := beq_eq_false_iff_ne.mpr c4;have c4b1 := bne_iff_ne.mpr c4;replace H := Option.bind_eq_some_iff.mp H;obtain ⟨t311, A50, H⟩ := H;have A5 := Aside0.mk A50;clear A50;obtain ⟨ji6, hji6⟩ : ∃ j_ : Int, (mx 0 t311) = j_ := ⟨_, rfl⟩
  replace H : (some ji6) = some r := by first | (rw [hji6] at H; exact H) | (simp only [hji6] at H ⊢; exact H)
  (try rw [hji6] at A5);(try (have hji6l : 0 ≤ ji6 := by (rw [← hji6]; unfold mx; (repeat' split) <;> omega)));(try (have hji6m : 0 ≤ ji6 := by omega));have hji6_ : (if 0 < t311 then t311 else 0) = ji6 := hji6;obtain rfl := Option.some.inj H
  go_enter Try.func37, Try.ntmps37
  go_wp2_with (first | ((with_reducible refine gate_callee (f := 49) rfl ?_); refine gL 13 Try.func49 #[.slice A0 l0.length c0, .int .i64 0, .int .i64 (l0.length : Int)] ?_; (with_reducible refine (ductusref05_First.calls k _ _ l0 0 (l0.length : Int) t311 _ ?side1 ?side2 A5.out).mono ?_); (case side1 => exact uC HR0.out); (case side2 => exact HC0.out); rintro e w7 ⟨rfl, hb⟩; refine ⟨_, rfl, ?_⟩; have n0_ := Aside0.mk (below_step (uB HB.out) hb); clear HB; have HB := n0_; clear n0_; (try clear hb); (try clear hb2); (try clear hk); (try clear hi)))
  go_ret;exact ⟨by first | rfl | (simp [errW_none, errW_some] <;> rfl) | (simp only [← hji6]; first | rfl | (simp [errW_none, errW_some] <;> rfl)) | (simp [*, errW_none, errW_some] <;> rfl), uB HB.out⟩
-- NOT PRINTED: function 84 (ductusref06_walk_push)
-- NOT PRINTED: function 67 (ductusref06_walk_start)
-- NOT PRINTED: function 72 (ductusref06_walk_top)
mutual
def ductusref06_Next.j0 : Nat → Int → Int → Bool → Option (Int)
  | 0, _, _, _ => none
  | k + 1, x0, x1, x12 => if x12 = true then (some (-1)) else (if x1 = 1 then (ductusref06_Next.j1 k (wrap64 (x0 + 1)) 1) else (ductusref06_Next.j1 k (wrap64 (x0 + 1)) 0))
def ductusref06_Next.j1 : Nat → Int → Int → Option (Int)
  | 0, _, _ => none
  | k + 1, x5, x6 => ductusref06_Next.l0 k x5 x6
def ductusref06_Next.l0 : Nat → Int → Int → Option (Int)
  | 0, _, _ => none
  | k + 1, x5, x6 => if (Int.tmod x5 2) = x6 then (some x5) else (ductusref06_Next.l0 k (wrap64 (x5 + 1)) x6)
end
def ductusref06_Next.f (k : Nat) (a0 : Int) (a1 : Int) : Option (Int) := if a0 < 0 then (ductusref06_Next.j0 k a0 a1 true) else (ductusref06_Next.j0 k a0 a1 (decide (a0 > 125)))
theorem ductusref06_Next.calls (k : Nat) (a0 : Int) (a1 : Int) (r : Int) (w : World) (h : ductusref06_Next.f k a0 a1 = some r) :
    Calls Try.prog 85 #[.int .i64 a0, .int .i64 a1] w fun e w' => e = .returned (.int .i64 r) ∧ Drawn0 w w' := by
  unfold ductusref06_Next.f at h;have H := h;clear h;have HC3 := Aside0.mk H;clear H
  go_enter Try.func85, Try.ntmps85
  go_upto_region 1 with (fail)
  go_cut [12] (fun v12 wc => ∃ (kq : Nat) (x12_2 : Bool), v12 = .bool x12_2 ∧ Aside0 (ductusref06_Next.j0 kq a0 a1 x12_2 = some r) ∧ Aside0 (kq ≤ k) ∧ Drawn0 w wc)
  case first =>
    have H := HC3.out;clear HC3
    by_cases c4 : a0 < 0
    · rw [if_pos c4] at H
      have c4b0 := decide_eq_true c4;clear c4
      (first | rw [c4b0] | (simp only [i64_w, i32_w]; rw [c4b0]) | skip)
      have H' := Aside0.mk H;clear H;go_wp2;go_meet
      case rel => exact ⟨_, (true), uF, H', ⟨by first | omega | exact Nat.le_refl _⟩, uW⟩
    rw [if_neg c4] at H;have c4b0 := decide_eq_false c4;clear c4
    (first | rw [c4b0] | (simp only [i64_w, i32_w]; rw [c4b0]) | skip)
    have H' := Aside0.mk H;clear H;go_wp2;go_meet
    case rel => exact ⟨_, (decide (a0 > 125)), uF, H', ⟨by first | omega | exact Nat.le_refl _⟩, uW⟩
  case rest =>
    clear HC3;(try clear p2);(try clear c4b0);obtain ⟨kq, x12_2, rfl, HA, HJ2, ⟨mc2, rfl⟩⟩ := hcut
    cases kq with
    | zero => exact absurd HA.out (by simp [ductusref06_Next.j0])
    | succ kj2 =>
      have H := HA.out;clear HA;simp only [ductusref06_Next.j0] at H
      by_cases c5 : x12_2 = true
      · subst c5
        have H1 : (some (-1)) = some r := by rw [if_pos rfl] at H; exact H
        clear H;have H := H1;clear H1;obtain rfl := Option.some.inj H;go_wp2;go_ret;exact ⟨uF, uW⟩
      replace c5 := Bool.eq_false_iff.mpr c5;subst c5
      have H1 : (if a1 = 1 then (ductusref06_Next.j1 kj2 (wrap64 (a0 + 1)) 1) else (ductusref06_Next.j1 kj2 (wrap64 (a0 + 1)) 0)) = some r := by rw [if_neg (show ¬ (false = true) by decide)] at H; exact H
      clear H;have H := H1;clear H1;have HC6 := Aside0.mk H;clear H
      go_upto_if 16 with (fail)
      go_cut [6] (fun v6 wc => ∃ (kq : Nat) (x6_5 : Int), v6 = .int .i64 x6_5 ∧ Aside0 (ductusref06_Next.j1 kq (wrap64 (a0 + 1)) x6_5 = some r) ∧ Aside0 (kq ≤ kj2) ∧ Drawn0 w wc)
      case first =>
        have H := HC6.out;clear HC6
        by_cases c7 : a1 = 1
        rotate_left
        · rw [if_neg c7] at H
          have c7b0 := beq_eq_false_iff_ne.mpr c7;have c7b1 := bne_iff_ne.mpr c7
          (first | rw [c7b0] | (simp only [i64_w, i32_w]; rw [c7b0]) | skip)
          have H' := Aside0.mk H;clear H;go_wp2;go_meet
          case rel => exact ⟨_, (0), uF, H', ⟨by have := HJ2.out; first | omega | exact Nat.le_refl _⟩, uW⟩
        rw [if_pos c7] at H;have c7b0 := beq_iff_eq.mpr c7;have c7b1 := bne_eq_false_iff_eq.mpr c7;clear c7
        (first | rw [c7b0] | (simp only [i64_w, i32_w]; rw [c7b0]) | skip)
        have H' := Aside0.mk H;clear H;go_wp2;go_meet
        case rel => exact ⟨_, (1), uF, H', ⟨by have := HJ2.out; first | omega | exact Nat.le_refl _⟩, uW⟩
      case rest =>
        clear HC6;(try clear c2);(try clear p2);(try clear c4b0);(try clear c5);(try clear p6);(try clear c7b0);(try clear c7b1);(try clear p2);obtain ⟨kq, x6_5, rfl, HA, HJ5, ⟨mc5, rfl⟩⟩ := hcut
        cases kq with
        | zero => exact absurd HA.out (by simp [ductusref06_Next.j1])
        | succ kj5 =>
          have H := HA.out;clear HA;simp only [ductusref06_Next.j1] at H;have H' := Aside0.mk H;clear H;go_wp2
          go_loopg [5] kj5 (fun kq v5 w' => ∃ (x5_3 : Int), v5 = .int .i64 x5_3 ∧ Aside0 (ductusref06_Next.l0 kq x5_3 x6_5 = some r) ∧ Aside0 (kq ≤ kj5) ∧ Drawn0 w w')
          case atStart => exact ⟨((wrap64 (a0 + 1))), uF, H', ⟨Nat.le_refl _⟩, uW⟩
          case round =>
            clear H';(try clear c2);(try clear p2);(try clear c4b0);(try clear c5);(try clear p6);(try clear c7b0);(try clear c7b1);(try clear p2);(try clear p6);obtain ⟨x5_3, rfl, HA, HK3, ⟨m3, rfl⟩⟩ := hrel
            cases gk with
            | zero => exact absurd HA.out (by simp [ductusref06_Next.l0])
            | succ k3 =>
              have H := HA.out;clear HA;simp only [ductusref06_Next.l0] at H
              by_cases c8 : (Int.tmod x5_3 2) = x6_5
              · rw [if_pos c8] at H
                have c8b0 := beq_iff_eq.mpr c8;have c8b1 := bne_eq_false_iff_eq.mpr c8;clear c8;obtain rfl := Option.some.inj H;go_wp2;go_ret;exact ⟨uF, uW⟩
              rw [if_neg c8] at H;have c8b0 := beq_eq_false_iff_ne.mpr c8;have c8b1 := bne_iff_ne.mpr c8;have H' := Aside0.mk H;clear H;go_wp2;go_roundg k3
              case measure => have := HJ2.out; have := HJ5.out; have := HK3.out; omega
              case rel => exact ⟨(wrap64 (x5_3 + 1)), uF, H', ⟨by have := HJ2.out; have := HJ5.out; have := HK3.out; omega⟩, uW⟩
def ductusref08_seen.l0 : Nat → List Int → List Int → Int → Option (List Int)
  | 0, _, _, _ => none
  | k + 1, x0, x3, x4 => if x4 < (x0.length : Int) then (if 0 ≤ x4 then ((ductusref02_Out.f (rd x0 x4)).bind fun t324 => (if t324 = true then (ductusref08_seen.l0 k x0 x3 (wrap64 (x4 + 1))) else (if x3.length < 17592186044416 then (ductusref08_seen.l0 k x0 (x3 ++ [x4]) (wrap64 (x4 + 1))) else (none)))) else (none)) else (some x3)
def ductusref08_seen.f (k : Nat) (l0 : List Int) : Option (List Int) := ductusref08_seen.l0 k l0 ([] : List Int) 0
theorem ductusref08_seen.calls (k : Nat) (A0 : Option Addr) (c0 : Nat) (l0 : List Int) (r : List Int) (w : World) (hr0 : Kd.C (Kd.int .i64) w A0 l0.length l0) (hc0 : l0.length ≤ c0) (h : ductusref08_seen.f k l0 = some r) :
    Calls Try.prog 74 #[.slice A0 l0.length c0] w fun e w' => ∃ v0_ : Value, e = .returned (v0_) ∧ Kd.R (Kd.int .i64) 3 w' w.heap.size (fun _ => True) v0_ r ∧ Below w.heap.size w w' := by
  have HR0 := Aside0.mk hr0;have HC0 := Aside0.mk hc0;clear hr0 hc0;have HB := Aside0.mk (Below.refl w.heap.size w);unfold ductusref08_seen.f at h;have H := h;clear h;have H' := Aside0.mk H;clear H
  go_enter Try.func74, Try.ntmps74
  go_wp2
  go_loopg [3, 4] k (fun kq v3 v4 w' => ∃ (x3_1 : List Int) (x4_1 : Int), v4 = .int .i64 x4_1 ∧ Aside0 (ductusref08_seen.l0 kq l0 x3_1 x4_1 = some r) ∧ Aside0 (kq ≤ k) ∧ Aside0 (Kd.R (Kd.int .i64) 3 w' w.heap.size (fun _ => True) v3 x3_1) ∧ Aside0 (Below w.heap.size w w'))
  case atStart => exact ⟨(([] : List Int)), (0), uF, H', ⟨Nat.le_refl _⟩, ⟨by first | exact Kd.R_nil _ _ _ _ _ | exact Kd.N_nil _ _ _ _ _ | exact Kd.V_nil _ _ _ _ _ | exact Kd.Q_nil _ _ _ _ _ | exact Kd.S_nil _ _ _ _ _⟩, ⟨uB HB.out⟩⟩
  case round =>
    clear H';obtain ⟨x3_1, x4_1, rfl, HA, HK1, HO_3, HB⟩ := hrel
    cases gk with
    | zero => exact absurd HA.out (by simp [ductusref08_seen.l0])
    | succ k1 =>
      have H := HA.out;clear HA;simp only [ductusref08_seen.l0] at H
      by_cases c2 : x4_1 < (l0.length : Int)
      rotate_left
      · rw [if_neg c2] at H
        have c2b0 := decide_eq_false c2;clear c2;obtain rfl := Option.some.inj H;go_wp2;go_ret;exact ⟨_, uE, uR HO_3.out, uB HB.out⟩
      rw [if_pos c2] at H;have c2b0 := decide_eq_true c2;clear c2;replace H := uI H;obtain ⟨c3b0, H⟩ := H;replace H := Option.bind_eq_some_iff.mp H;obtain ⟨t324, A40, H⟩ := H;have A4 := Aside0.mk A40;clear A40
      by_cases c5 : t324 = true
      · subst c5
        have H1 : (ductusref08_seen.l0 k1 l0 x3_1 (wrap64 (x4_1 + 1))) = some r := by rw [if_pos rfl] at H; exact H
        clear H;have H := H1;clear H1;have H' := Aside0.mk H;clear H;have p323 : 0 ≤ (x4_1 : Int) := uD;have q323 : x4_1 < (l0.length : Int) := uD;obtain ⟨ad323, e323, hx323_0⟩ := Kd.at_int HR0.out x4_1 p323 q323;cases e323;replace hx323_0 := (HB.out.cell (World.block_lt_of_cell? w _ hx323_0)).trans hx323_0;replace p323 := eq_true p323;replace q323 := eq_true q323
        go_wp2_with (first | ((with_reducible refine gate_callee (f := 23) rfl ?_); refine gL 15 Try.func23 #[.int .i64 (rd l0 x4_1)] ?_; (with_reducible refine (ductusref02_Out.calls (rd l0 x4_1) true _ A4.out).mono ?_); rintro e w' ⟨rfl, ⟨nd, rfl⟩⟩; refine ⟨_, rfl, ?_⟩))
        go_roundg k1
        case measure => have := HK1.out; omega
        case rel => exact ⟨(x3_1), (wrap64 (x4_1 + 1)), uF, H', ⟨by have := HK1.out; omega⟩, ⟨uR HO_3.out⟩, ⟨uB HB.out⟩⟩
      replace c5 := Bool.eq_false_iff.mpr c5;subst c5
      have H1 : (if x3_1.length < 17592186044416 then (ductusref08_seen.l0 k1 l0 (x3_1 ++ [x4_1]) (wrap64 (x4_1 + 1))) else (none)) = some r := by rw [if_neg (show ¬ (false = true) by decide)] at H; exact H
      clear H;have H := H1;clear H1;replace H := uP H;obtain ⟨c6, H⟩ := H;have LMc6 := Aside0.mk c6;clear c6;obtain ⟨y325, hy325⟩ : ∃ y_ : List Int, y_ = (x3_1 ++ [x4_1]) := ⟨_, rfl⟩;replace H : (ductusref08_seen.l0 k1 l0 y325 (wrap64 (x4_1 + 1))) = some r := uH hy325 H;have Ny325 := Aside0.mk hy325;clear hy325;have H' := Aside0.mk H;clear H;have p323 : 0 ≤ (x4_1 : Int) := uD;have q323 : x4_1 < (l0.length : Int) := uD;obtain ⟨ad323, e323, hx323_0⟩ := Kd.at_int HR0.out x4_1 p323 q323;cases e323;replace hx323_0 := (HB.out.cell (World.block_lt_of_cell? w _ hx323_0)).trans hx323_0;replace p323 := eq_true p323;replace q323 := eq_true q323
      go_wp2_with (first | ((with_reducible refine gate_callee (f := 23) rfl ?_); refine gL 15 Try.func23 #[.int .i64 (rd l0 x4_1)] ?_; (with_reducible refine (ductusref02_Out.calls (rd l0 x4_1) false _ A4.out).mono ?_); rintro e w' ⟨rfl, ⟨nd, rfl⟩⟩; refine ⟨_, rfl, ?_⟩) | ((with_reducible refine gate_builtin (b := .append) (xs := #[.tmp 17, .tmp 19]) rfl ?_); at_builtin; refine Kd.R_append (Kd.int .i64) (w0 := w) w.heap.size rfl (.tmp 17) (.tmp 19) 22 3 (.int .i64 0) 8 rfl Try.underlying22 info3 rfl (by decide) (by omega) u3 x3_1 x4_1 [.int .i64 x4_1] (fun _ => True) (fun _ => False) rfl rfl ?aP (fun _ hk => hk.elim) ?aF ?aO ?aB ?aS ?aL ?_; (case aP => exact rfl); (case aB => exact (uB HB.out)); (case aF => exact (fun _ _ => trivial)); (case aO => exact (uR HO_3.out)); (case aS => exact (below_size (uB HB.out))); (case aL => have := LMc6.out; omega); intro v326 w7 ho hb hg hat; rw [← Ny325.out] at ho; have n_ := z2_ (hb) (ho); clear HB HO_3; obtain ⟨HB, HO327⟩ := n_; clear ho hb hg hat))
      go_roundg k1
      case measure => have := HK1.out; omega
      case rel => exact ⟨(y325), (wrap64 (x4_1 + 1)), uF, H', ⟨by have := HK1.out; omega⟩, ⟨uR HO327.out⟩, ⟨uB HB.out⟩⟩
end Go.Proofs.Ytmjipbmpapcboaa.P
