/- Texts of this claim put together by a program of its own (SParsed), what the law does not use left out: each part's statements bear their own conditions. -/
import Derived.Test.YtaphbechnjmlgaaC12
namespace Go.Proofs.Ytaphbechnjmlgaa.P
open Go.RowKit Go.Proofs.YtaphbechnjmlgaaW.PrintWords Go.Proofs.YtaphbechnjmlgaaW.PrintLast Go.Proofs.YtaphbechnjmlgaaW.PrintMore
set_option linter.unusedVariables false
set_option linter.unusedSimpArgs false

/-- A node that Parse does not make. -/
def badP (x : S25) : Bool :=
  decide (x.f0 < 1) || decide (x.f0 > 7) || (decide (x.f0 = 5) && (decide (x.f4.length ≠ 1) || decide (x.f2 < 0) || decide (x.f2 > 20) || decide (x.f3 < -1) || decide (x.f3 > 20) || (decide (x.f3 ≥ 0) && decide (x.f3 < x.f2))))
    || ((decide (x.f0 = 3) || decide (x.f0 = 4)) && decide (x.f4.length < 2)) || decide (x.f1.length > 60)
def allP (f : S25 → Option Bool) : List S25 → Option Bool
  | [] => some true
  | y :: l => (f y).bind fun b => if b = true then allP f l else some false
def parsedS : Nat → S25 → Option Bool
  | 0, _ => none
  | n + 1, x => if badP x = true then some false else allP (parsedS n) x.f4
abbrev ParsedN (n : Nat) : Prop := ∀ (x : S25) (v : Value) (r : Bool) (w : World), NodeAt w x v → parsedS n x = some r → Calls Try.prog 19 #[v] w fun e w' => e = .returned (.bool r) ∧ Below w.heap.size w w'
section
variable {P : Program} {ops : Array Oper} {Q : Exit → Act → World → Prop} {a : Act} {w : World} {j : Nat}
def findRegion (n : Nat) : Code → Option (Array Oper)
  | .region id os _ => if id = n then some os else none
  | .seq x y => match findRegion n x with
    | some os => some os
    | none => findRegion n y
  | .cond _ x y => match findRegion n x with
    | some os => some os
    | none => findRegion n y
  | .loop x => findRegion n x
  | .block _ x => findRegion n x
  | .scope x => findRegion n x
  | _ => none
def wantedAt (ops : Array Oper) (j : Nat) (tmps : Array Value) : Bool := match ops[j]? with
  | none => false
  | some o => Region.wanted o (yielded ops tmps)
def dstAt (ops : Array Oper) (j : Nat) : Option Tmp := match ops[j]? with
  | none => none
  | some o => o.dst
def runAt (P : Program) (ops : Array Oper) (j : Nat) (a : Act) (w : World) : Option (Result Next) := match ops[j]? with
  | none => none
  | some o => some ((execOp a.eval o).run P w)
def loadS (t : TypeId) (p : Addr) : Sem Next := execOp (fun _ => .pointer (some p)) { dst := none, op := .load t (.tmp 0), type := 0, pos := "", after := #[], guard := none }
/-- What is left of a region, from operation j on. -/
structure BigAt (P : Program) (ops : Array Oper) (Q : Exit → Act → World → Prop) (j : Nat) (a : Act) (w : World) : Prop where
  out : wpOps P ops Q (List.range' j (ops.size - j)) a w
theorem bigStart {id : Nat} {os : Array Oper} (ho : os = ops) (h : BigAt P ops Q 0 a w) : (Code.region id os false).wp P Q a w := by
  subst ho
  refine wp_region ?_
  rw [List.range_eq_range']
  exact h.out
theorem bigEnd {a' : Act} (hj : (ops.size == j) = true) (ha : a = a') (h : Q .normal a' w) : BigAt P ops Q j a w := by
  subst ha
  have := beq_iff_eq.mp hj
  refine ⟨?_⟩
  rw [show ops.size - j = 0 by omega]
  exact h
theorem bigOn {v : Value} (hw : wantedAt ops j a.tmps = true) (hr : runAt P ops j a w = some (.ok (.value v) w)) {d : Option Tmp} (hd : dstAt ops j = d) (h : BigAt P ops Q (j + 1) (a.put d v) w) : BigAt P ops Q j a w := by
  subst hd
  unfold wantedAt at hw
  unfold runAt at hr
  unfold dstAt at h
  cases ho : ops[j]? with
  | none => rw [ho] at hw; cases hw
  | some o =>
    rw [ho] at hw hr h
    have hl : j < ops.size := (Array.getElem?_eq_some_iff.1 ho).1
    refine ⟨?_⟩
    rw [show ops.size - j = (ops.size - (j + 1)) + 1 by omega, List.range'_succ]
    unfold wpOps
    rw [ho]
    dsimp only at hw hr h ⊢
    rw [if_pos hw]
    left
    unfold Oper.wp
    rw [Option.some.inj hr]
    exact h.out
/-- What the slots hold: the last that was written, else nothing. -/
def look : List (Nat × Value) → Nat → Value
  | [], _ => undef
  | p :: l, i => cond (Nat.beq p.1 i) p.2 (look l i)
def sA (N : Nat) (ups : List (Nat × Value)) : Act := ⟨((List.range N).map (look ups)).toArray, []⟩
theorem put_sA {N d : Nat} {v : Value} {ups : List (Nat × Value)} : (sA N ups).put (some d) v = sA N ((d, v) :: ups) := by
  unfold Act.put sA
  simp only [Act.mk.injEq, and_true]
  apply Array.ext
  · simp
  · intro i h1 h2
    simp only [List.setIfInBounds_toArray, List.getElem_toArray, List.getElem_set, List.getElem_map, List.getElem_range, look]
    by_cases h : d = i
    · subst h
      simp
    · rw [if_neg h, show Nat.beq d i = false from by cases hb : Nat.beq d i; rfl; exact absurd (Nat.eq_of_beq_eq_true hb) h]
      rfl
theorem bigSt {id N : Nat} {os : Array Oper} {ups : List (Nat × Value)} (ho : os = ops) (ha : a = sA N ups) (h : BigAt P ops Q 0 (sA N ups) w) : (Code.region id os false).wp P Q a w := by
  subst ha
  exact bigStart ho h
theorem bigDo {N d : Nat} {ups : List (Nat × Value)} {v : Value} (hw : wantedAt ops j (sA N ups).tmps = true) (hr : runAt P ops j (sA N ups) w = some (.ok (.value v) w)) (hd : dstAt ops j = some d) (h : BigAt P ops Q (j + 1) (sA N ((d, v) :: ups)) w) : BigAt P ops Q j (sA N ups) w :=
  bigOn hw hr hd (by rw [put_sA]; exact h)
theorem bigTest {N d : Nat} {ups : List (Nat × Value)} {b r : Bool} (hw : wantedAt ops j (sA N ups).tmps = true) (hr : runAt P ops j (sA N ups) w = some (.ok (.value (.bool b)) w)) (he : b = r) (hd : dstAt ops j = some d) (h : BigAt P ops Q (j + 1) (sA N ((d, .bool r) :: ups)) w) : BigAt P ops Q j (sA N ups) w := by
  subst he
  exact bigDo hw hr hd h
theorem bigLoad {N d : Nat} {ups : List (Nat × Value)} {t : TypeId} {p : Addr} {v : Value} (hw : wantedAt ops j (sA N ups).tmps = true) (hr : runAt P ops j (sA N ups) w = some ((loadS t p).run P w)) (hl : (loadS t p).run P w = .ok (.value v) w) (hd : dstAt ops j = some d) (h : BigAt P ops Q (j + 1) (sA N ((d, v) :: ups)) w) : BigAt P ops Q j (sA N ups) w := bigDo hw (by rw [hr, hl]) hd h
def isU : Value → Bool
  | .tuple ⟨[]⟩ => true
  | _ => false
theorem isU_eq {v : Value} (h : isU v = true) : v = undef := by
  unfold isU at h
  split at h
  · rfl
  · cases h
def bigOffB (ops : Array Oper) : Nat → Nat → Array Value → Bool
  | 0, _, _ => true
  | n + 1, j, t => match ops[j]? with
    | none => false
    | some o => !Region.wanted o (yielded ops t) && (match o.dst with
      | none => true
      | some d => isU (t.getD d undef)) && bigOffB ops n (j + 1) t
theorem put_undef {o : Option Tmp} (h : (match o with
      | none => true
      | some d => isU (a.tmps.getD d undef)) = true) : a.put o undef = a := by
  cases o with
  | none => rfl
  | some d =>
    have h2 := isU_eq h
    obtain ⟨t, df⟩ := a
    unfold Act.put
    simp only [Act.mk.injEq, and_true]
    apply Array.ext_getElem?
    intro i
    by_cases hi : d = i
    · subst hi
      by_cases hl : d < t.size
      · simp only [Array.getD_eq_getD_getElem?, Array.getElem?_eq_getElem hl, Option.getD_some] at h2
        simp [hl, h2]
      · simp [hl]
    · simp [hi]
theorem bigOff : ∀ (n : Nat) {j : Nat}, bigOffB ops n j a.tmps = true → BigAt P ops Q (j + n) a w → BigAt P ops Q j a w
  | 0, _, _, h => h
  | n + 1, j, hb, h => by
    unfold bigOffB at hb
    cases ho : ops[j]? with
    | none => rw [ho] at hb; cases hb
    | some o =>
      rw [ho] at hb
      dsimp only at hb
      rw [Bool.and_eq_true, Bool.and_eq_true] at hb
      have h2 := bigOff n (j := j + 1) hb.2 (by rw [show j + 1 + n = j + (n + 1) by omega]; exact h)
      have hl : j < ops.size := (Array.getElem?_eq_some_iff.1 ho).1
      replace h2 := h2.out
      refine ⟨?_⟩
      rw [show ops.size - j = (ops.size - (j + 1)) + 1 by omega, List.range'_succ]
      unfold wpOps
      rw [ho]
      dsimp only
      rw [if_neg (by simpa using hb.1.1), put_undef hb.1.2]
      exact h2
end
noncomputable def pOps : Array Oper := ((Try.f19).body.bind (findRegion 1)).getD #[]
set_option maxHeartbeats 16000000 in
set_option maxRecDepth 100000 in
theorem parsed_step (n : Nat) (ih : ParsedN n) (x0 : Int) (A1 : Option Addr) (c1 : Nat) (x1 : List S52) (x2 x3 : Int) (A4 : Option Addr) (c4 : Nat) (x4 : List S25) (w : World) (r : Bool) (q4 : k25.C w A4 x4.length x4) (h : parsedS (n + 1) ⟨x0, x1, x2, x3, x4⟩ = some r) :
    Calls Try.prog 19 #[.agg #[.int .i64 x0, .slice A1 x1.length c1, .int .i64 x2, .int .i64 x3, .slice A4 x4.length c4]] w fun e w' => e = .returned (.bool r) ∧ Below w.heap.size w w' := by
  have hu := Try.underlying25
  rw [parsedS] at h
  obtain ⟨bad, hbad⟩ : ∃ bad, badP ⟨x0, x1, x2, x3, x4⟩ = bad := ⟨_, rfl⟩
  rw [hbad] at h
  dsimp only at h
  have HBAD := Aside0.mk hbad
  have HH := Aside0.mk h
  have HQ := Aside0.mk q4
  have HIH := Aside0.mk ih
  have HB := Aside0.mk (Below.refl w.heap.size w)
  clear h q4 ih hbad
  go_enter Try.func19, Try.ntmps19
  go_upto_region 1 with (((with_reducible refine gate_dst (N := 1) rfl ?_); (try (refine gate_guard (by rfl) ?_; dsimp only)); refine box_event ?hg (N := 1) ?hd (cs := #[.int .i64 x0, .slice A1 x1.length c1, .int .i64 x2, .int .i64 x3, .slice A4 x4.length c4]) (t := 25) ?hr ?_; (case hd => rfl); (case hg => rfl); (case hr => first | (go_simp; done) | (go_simp; rfl)); intro gx hg w1 hbox hb; have HGX := Aside0.mk (by rw [hg]; exact Nat.le_refl _ : w.heap.size ≤ gx); have HJ := Aside0.mk (And.intro (below_step HB.out hb) hbox); clear hb hbox hg))
  (try simp only [Act.put, List.setIfInBounds_toArray, List.set_cons_zero, List.set_cons_succ])
  go_cut [76] (fun v76 wc => v76 = .bool bad ∧ wc = w1)
  case first =>
    have z0 := blk_cell HJ.out.2 0
    have z1 := blk_cell HJ.out.2 1
    have z2 := blk_cell HJ.out.2 2
    have z3 := blk_cell HJ.out.2 3
    have z4 := blk_cell HJ.out.2 4
    have L0 : (loadS 3 ⟨gx, 0, none⟩).run Try.prog w1 = .ok (.value (.int .i64 x0)) w1 := by unfold loadS; go_simp
    have L1 : (loadS 22 ⟨gx, 1, none⟩).run Try.prog w1 = .ok (.value (.slice A1 x1.length c1)) w1 := by unfold loadS; go_simp
    have L2 : (loadS 3 ⟨gx, 2, none⟩).run Try.prog w1 = .ok (.value (.int .i64 x2)) w1 := by unfold loadS; go_simp
    have L3 : (loadS 3 ⟨gx, 3, none⟩).run Try.prog w1 = .ok (.value (.int .i64 x3)) w1 := by unfold loadS; go_simp
    have L4 : (loadS 23 ⟨gx, 4, none⟩).run Try.prog w1 = .ok (.value (.slice A4 x4.length c4)) w1 := by unfold loadS; go_simp
    refine bigSt (ops := pOps) (N := 91) (ups := [(0, .agg #[.int .i64 x0, .slice A1 x1.length c1, .int .i64 x2, .int .i64 x3, .slice A4 x4.length c4]), (1, .pointer (some ⟨gx, 0, none⟩)), (2, .bool false)]) (by kernel_rfl) (by kernel_rfl) ?_
    refine bigDo (j := 0) (v := .pointer (some ⟨gx, 0, none⟩)) (d := 4) (by kernel_rfl) (by kernel_rfl) (by kernel_rfl) ?_
    refine bigLoad (j := 1) (t := 3) (p := ⟨gx, 0, none⟩) (v := .int .i64 (x0)) (d := 5) (by kernel_rfl) (by kernel_rfl) L0 (by kernel_rfl) ?_
    by_cases h2 : x0 < 1
    · have c2 : decide (x0 < 1) = true := decide_eq_true (by omega)
      refine bigTest (j := 2) (b := decide (x0 < 1)) (r := true) (d := 6) (by kernel_rfl) (by kernel_rfl) c2 (by kernel_rfl) ?_
      refine bigDo (j := 3) (v := .bool true) (d := 7) (by kernel_rfl) (by kernel_rfl) (by kernel_rfl) ?_
      refine bigOff (j := 4) 3 (by kernel_rfl) ?_
      refine bigDo (j := 7) (v := .bool true) (d := 11) (by kernel_rfl) (by kernel_rfl) (by kernel_rfl) ?_
      refine bigDo (j := 8) (v := .bool true) (d := 12) (by kernel_rfl) (by kernel_rfl) (by kernel_rfl) ?_
      refine bigOff (j := 9) 41 (by kernel_rfl) ?_
      refine bigDo (j := 50) (v := .bool true) (d := 54) (by kernel_rfl) (by kernel_rfl) (by kernel_rfl) ?_
      refine bigDo (j := 51) (v := .bool true) (d := 55) (by kernel_rfl) (by kernel_rfl) (by kernel_rfl) ?_
      refine bigOff (j := 52) 14 (by kernel_rfl) ?_
      refine bigDo (j := 66) (v := .bool true) (d := 70) (by kernel_rfl) (by kernel_rfl) (by kernel_rfl) ?_
      refine bigDo (j := 67) (v := .bool true) (d := 71) (by kernel_rfl) (by kernel_rfl) (by kernel_rfl) ?_
      refine bigOff (j := 68) 4 (by kernel_rfl) ?_
      refine bigDo (j := 72) (v := .bool true) (d := 76) (by kernel_rfl) (by kernel_rfl) (by kernel_rfl) ?_
      refine bigEnd (j := 73) (by kernel_rfl) (a' := ⟨#[.agg #[.int .i64 x0, .slice A1 x1.length c1, .int .i64 x2, .int .i64 x3, .slice A4 x4.length c4], .pointer (some ⟨gx, 0, none⟩), .bool false, undef, .pointer (some ⟨gx, 0, none⟩), .int .i64 (x0), .bool true, .bool true, undef, undef, undef, .bool true, .bool true, undef, undef, undef, undef, undef, undef, undef, undef, undef, undef, undef, undef, undef, undef, undef, undef, undef, undef, undef, undef, undef, undef, undef, undef, undef, undef, undef, undef, undef, undef, undef, undef, undef, undef, undef, undef, undef, undef, undef, undef, undef, .bool true, .bool true, undef, undef, undef, undef, undef, undef, undef, undef, undef, undef, undef, undef, undef, undef, .bool true, .bool true, undef, undef, undef, undef, .bool true, undef, undef, undef, undef, undef, undef, undef, undef, undef, undef, undef, undef, undef, undef], []⟩) (by kernel_rfl) ?_
      obtain rfl : true = bad := by rw [← HBAD.out]; simp only [badP]; simp; omega
      clear HBAD HH h2 c2
      go_wp2
      go_meet
      case rel => exact ⟨rfl, rfl⟩
    · have c2 : decide (x0 < 1) = false := decide_eq_false (by omega)
      refine bigTest (j := 2) (b := decide (x0 < 1)) (r := false) (d := 6) (by kernel_rfl) (by kernel_rfl) c2 (by kernel_rfl) ?_
      refine bigDo (j := 3) (v := .bool false) (d := 7) (by kernel_rfl) (by kernel_rfl) (by kernel_rfl) ?_
      refine bigDo (j := 4) (v := .pointer (some ⟨gx, 0, none⟩)) (d := 8) (by kernel_rfl) (by kernel_rfl) (by kernel_rfl) ?_
      refine bigLoad (j := 5) (t := 3) (p := ⟨gx, 0, none⟩) (v := .int .i64 (x0)) (d := 9) (by kernel_rfl) (by kernel_rfl) L0 (by kernel_rfl) ?_
      by_cases h6 : 7 < x0
      · have c6 : decide (7 < x0) = true := decide_eq_true (by omega)
        refine bigTest (j := 6) (b := decide (7 < x0)) (r := true) (d := 10) (by kernel_rfl) (by kernel_rfl) c6 (by kernel_rfl) ?_
        refine bigDo (j := 7) (v := .bool true) (d := 11) (by kernel_rfl) (by kernel_rfl) (by kernel_rfl) ?_
        refine bigDo (j := 8) (v := .bool true) (d := 12) (by kernel_rfl) (by kernel_rfl) (by kernel_rfl) ?_
        refine bigOff (j := 9) 41 (by kernel_rfl) ?_
        refine bigDo (j := 50) (v := .bool true) (d := 54) (by kernel_rfl) (by kernel_rfl) (by kernel_rfl) ?_
        refine bigDo (j := 51) (v := .bool true) (d := 55) (by kernel_rfl) (by kernel_rfl) (by kernel_rfl) ?_
        refine bigOff (j := 52) 14 (by kernel_rfl) ?_
        refine bigDo (j := 66) (v := .bool true) (d := 70) (by kernel_rfl) (by kernel_rfl) (by kernel_rfl) ?_
        refine bigDo (j := 67) (v := .bool true) (d := 71) (by kernel_rfl) (by kernel_rfl) (by kernel_rfl) ?_
        refine bigOff (j := 68) 4 (by kernel_rfl) ?_
        refine bigDo (j := 72) (v := .bool true) (d := 76) (by kernel_rfl) (by kernel_rfl) (by kernel_rfl) ?_
        refine bigEnd (j := 73) (by kernel_rfl) (a' := ⟨#[.agg #[.int .i64 x0, .slice A1 x1.length c1, .int .i64 x2, .int .i64 x3, .slice A4 x4.length c4], .pointer (some ⟨gx, 0, none⟩), .bool false, undef, .pointer (some ⟨gx, 0, none⟩), .int .i64 (x0), .bool false, .bool false, .pointer (some ⟨gx, 0, none⟩), .int .i64 (x0), .bool true, .bool true, .bool true, undef, undef, undef, undef, undef, undef, undef, undef, undef, undef, undef, undef, undef, undef, undef, undef, undef, undef, undef, undef, undef, undef, undef, undef, undef, undef, undef, undef, undef, undef, undef, undef, undef, undef, undef, undef, undef, undef, undef, undef, undef, .bool true, .bool true, undef, undef, undef, undef, undef, undef, undef, undef, undef, undef, undef, undef, undef, undef, .bool true, .bool true, undef, undef, undef, undef, .bool true, undef, undef, undef, undef, undef, undef, undef, undef, undef, undef, undef, undef, undef, undef], []⟩) (by kernel_rfl) ?_
        obtain rfl : true = bad := by rw [← HBAD.out]; simp only [badP]; simp; omega
        clear HBAD HH h2 c2 h6 c6
        go_wp2
        go_meet
        case rel => exact ⟨rfl, rfl⟩
      · have c6 : decide (7 < x0) = false := decide_eq_false (by omega)
        refine bigTest (j := 6) (b := decide (7 < x0)) (r := false) (d := 10) (by kernel_rfl) (by kernel_rfl) c6 (by kernel_rfl) ?_
        refine bigDo (j := 7) (v := .bool false) (d := 11) (by kernel_rfl) (by kernel_rfl) (by kernel_rfl) ?_
        refine bigDo (j := 8) (v := .bool false) (d := 12) (by kernel_rfl) (by kernel_rfl) (by kernel_rfl) ?_
        refine bigDo (j := 9) (v := .pointer (some ⟨gx, 0, none⟩)) (d := 13) (by kernel_rfl) (by kernel_rfl) (by kernel_rfl) ?_
        refine bigLoad (j := 10) (t := 3) (p := ⟨gx, 0, none⟩) (v := .int .i64 (x0)) (d := 14) (by kernel_rfl) (by kernel_rfl) L0 (by kernel_rfl) ?_
        by_cases h11 : x0 = 5
        · have c11 : (x0 == 5) = true := beq_iff_eq.mpr (by omega)
          refine bigTest (j := 11) (b := (x0 == 5)) (r := true) (d := 15) (by kernel_rfl) (by kernel_rfl) c11 (by kernel_rfl) ?_
          refine bigDo (j := 12) (v := .bool true) (d := 16) (by kernel_rfl) (by kernel_rfl) (by kernel_rfl) ?_
          refine bigDo (j := 13) (v := .pointer (some ⟨gx, 4, none⟩)) (d := 17) (by kernel_rfl) (by kernel_rfl) (by kernel_rfl) ?_
          refine bigLoad (j := 14) (t := 23) (p := ⟨gx, 4, none⟩) (v := .slice A4 x4.length c4) (d := 18) (by kernel_rfl) (by kernel_rfl) L4 (by kernel_rfl) ?_
          refine bigDo (j := 15) (v := .int .i64 ((x4.length : Int))) (d := 19) (by kernel_rfl) (by kernel_rfl) (by kernel_rfl) ?_
          by_cases h16 : (x4.length : Int) ≠ 1
          · have c16 : (!((x4.length : Int) == 1)) = true := (by rw [beq_eq_false_iff_ne.mpr (by omega)]; rfl)
            refine bigTest (j := 16) (b := (!((x4.length : Int) == 1))) (r := true) (d := 20) (by kernel_rfl) (by kernel_rfl) c16 (by kernel_rfl) ?_
            refine bigDo (j := 17) (v := .bool true) (d := 21) (by kernel_rfl) (by kernel_rfl) (by kernel_rfl) ?_
            refine bigOff (j := 18) 3 (by kernel_rfl) ?_
            refine bigDo (j := 21) (v := .bool true) (d := 25) (by kernel_rfl) (by kernel_rfl) (by kernel_rfl) ?_
            refine bigDo (j := 22) (v := .bool true) (d := 26) (by kernel_rfl) (by kernel_rfl) (by kernel_rfl) ?_
            refine bigOff (j := 23) 3 (by kernel_rfl) ?_
            refine bigDo (j := 26) (v := .bool true) (d := 30) (by kernel_rfl) (by kernel_rfl) (by kernel_rfl) ?_
            refine bigDo (j := 27) (v := .bool true) (d := 31) (by kernel_rfl) (by kernel_rfl) (by kernel_rfl) ?_
            refine bigOff (j := 28) 3 (by kernel_rfl) ?_
            refine bigDo (j := 31) (v := .bool true) (d := 35) (by kernel_rfl) (by kernel_rfl) (by kernel_rfl) ?_
            refine bigDo (j := 32) (v := .bool true) (d := 36) (by kernel_rfl) (by kernel_rfl) (by kernel_rfl) ?_
            refine bigOff (j := 33) 3 (by kernel_rfl) ?_
            refine bigDo (j := 36) (v := .bool true) (d := 40) (by kernel_rfl) (by kernel_rfl) (by kernel_rfl) ?_
            refine bigDo (j := 37) (v := .bool true) (d := 41) (by kernel_rfl) (by kernel_rfl) (by kernel_rfl) ?_
            refine bigOff (j := 38) 10 (by kernel_rfl) ?_
            refine bigDo (j := 48) (v := .bool true) (d := 52) (by kernel_rfl) (by kernel_rfl) (by kernel_rfl) ?_
            refine bigDo (j := 49) (v := .bool true) (d := 53) (by kernel_rfl) (by kernel_rfl) (by kernel_rfl) ?_
            refine bigDo (j := 50) (v := .bool true) (d := 54) (by kernel_rfl) (by kernel_rfl) (by kernel_rfl) ?_
            refine bigDo (j := 51) (v := .bool true) (d := 55) (by kernel_rfl) (by kernel_rfl) (by kernel_rfl) ?_
            refine bigOff (j := 52) 14 (by kernel_rfl) ?_
            refine bigDo (j := 66) (v := .bool true) (d := 70) (by kernel_rfl) (by kernel_rfl) (by kernel_rfl) ?_
            refine bigDo (j := 67) (v := .bool true) (d := 71) (by kernel_rfl) (by kernel_rfl) (by kernel_rfl) ?_
            refine bigOff (j := 68) 4 (by kernel_rfl) ?_
            refine bigDo (j := 72) (v := .bool true) (d := 76) (by kernel_rfl) (by kernel_rfl) (by kernel_rfl) ?_
            refine bigEnd (j := 73) (by kernel_rfl) (a' := ⟨#[.agg #[.int .i64 x0, .slice A1 x1.length c1, .int .i64 x2, .int .i64 x3, .slice A4 x4.length c4], .pointer (some ⟨gx, 0, none⟩), .bool false, undef, .pointer (some ⟨gx, 0, none⟩), .int .i64 (x0), .bool false, .bool false, .pointer (some ⟨gx, 0, none⟩), .int .i64 (x0), .bool false, .bool false, .bool false, .pointer (some ⟨gx, 0, none⟩), .int .i64 (x0), .bool true, .bool true, .pointer (some ⟨gx, 4, none⟩), .slice A4 x4.length c4, .int .i64 ((x4.length : Int)), .bool true, .bool true, undef, undef, undef, .bool true, .bool true, undef, undef, undef, .bool true, .bool true, undef, undef, undef, .bool true, .bool true, undef, undef, undef, .bool true, .bool true, undef, undef, undef, undef, undef, undef, undef, undef, undef, undef, .bool true, .bool true, .bool true, .bool true, undef, undef, undef, undef, undef, undef, undef, undef, undef, undef, undef, undef, undef, undef, .bool true, .bool true, undef, undef, undef, undef, .bool true, undef, undef, undef, undef, undef, undef, undef, undef, undef, undef, undef, undef, undef, undef], []⟩) (by kernel_rfl) ?_
            obtain rfl : true = bad := by rw [← HBAD.out]; simp only [badP]; simp; omega
            clear HBAD HH h2 c2 h6 c6 h11 c11 h16 c16
            go_wp2
            go_meet
            case rel => exact ⟨rfl, rfl⟩
          · have c16 : (!((x4.length : Int) == 1)) = false := (by rw [beq_iff_eq.mpr (by omega)]; rfl)
            refine bigTest (j := 16) (b := (!((x4.length : Int) == 1))) (r := false) (d := 20) (by kernel_rfl) (by kernel_rfl) c16 (by kernel_rfl) ?_
            refine bigDo (j := 17) (v := .bool false) (d := 21) (by kernel_rfl) (by kernel_rfl) (by kernel_rfl) ?_
            refine bigDo (j := 18) (v := .pointer (some ⟨gx, 2, none⟩)) (d := 22) (by kernel_rfl) (by kernel_rfl) (by kernel_rfl) ?_
            refine bigLoad (j := 19) (t := 3) (p := ⟨gx, 2, none⟩) (v := .int .i64 (x2)) (d := 23) (by kernel_rfl) (by kernel_rfl) L2 (by kernel_rfl) ?_
            by_cases h20 : x2 < 0
            · have c20 : decide (x2 < 0) = true := decide_eq_true (by omega)
              refine bigTest (j := 20) (b := decide (x2 < 0)) (r := true) (d := 24) (by kernel_rfl) (by kernel_rfl) c20 (by kernel_rfl) ?_
              refine bigDo (j := 21) (v := .bool true) (d := 25) (by kernel_rfl) (by kernel_rfl) (by kernel_rfl) ?_
              refine bigDo (j := 22) (v := .bool true) (d := 26) (by kernel_rfl) (by kernel_rfl) (by kernel_rfl) ?_
              refine bigOff (j := 23) 3 (by kernel_rfl) ?_
              refine bigDo (j := 26) (v := .bool true) (d := 30) (by kernel_rfl) (by kernel_rfl) (by kernel_rfl) ?_
              refine bigDo (j := 27) (v := .bool true) (d := 31) (by kernel_rfl) (by kernel_rfl) (by kernel_rfl) ?_
              refine bigOff (j := 28) 3 (by kernel_rfl) ?_
              refine bigDo (j := 31) (v := .bool true) (d := 35) (by kernel_rfl) (by kernel_rfl) (by kernel_rfl) ?_
              refine bigDo (j := 32) (v := .bool true) (d := 36) (by kernel_rfl) (by kernel_rfl) (by kernel_rfl) ?_
              refine bigOff (j := 33) 3 (by kernel_rfl) ?_
              refine bigDo (j := 36) (v := .bool true) (d := 40) (by kernel_rfl) (by kernel_rfl) (by kernel_rfl) ?_
              refine bigDo (j := 37) (v := .bool true) (d := 41) (by kernel_rfl) (by kernel_rfl) (by kernel_rfl) ?_
              refine bigOff (j := 38) 10 (by kernel_rfl) ?_
              refine bigDo (j := 48) (v := .bool true) (d := 52) (by kernel_rfl) (by kernel_rfl) (by kernel_rfl) ?_
              refine bigDo (j := 49) (v := .bool true) (d := 53) (by kernel_rfl) (by kernel_rfl) (by kernel_rfl) ?_
              refine bigDo (j := 50) (v := .bool true) (d := 54) (by kernel_rfl) (by kernel_rfl) (by kernel_rfl) ?_
              refine bigDo (j := 51) (v := .bool true) (d := 55) (by kernel_rfl) (by kernel_rfl) (by kernel_rfl) ?_
              refine bigOff (j := 52) 14 (by kernel_rfl) ?_
              refine bigDo (j := 66) (v := .bool true) (d := 70) (by kernel_rfl) (by kernel_rfl) (by kernel_rfl) ?_
              refine bigDo (j := 67) (v := .bool true) (d := 71) (by kernel_rfl) (by kernel_rfl) (by kernel_rfl) ?_
              refine bigOff (j := 68) 4 (by kernel_rfl) ?_
              refine bigDo (j := 72) (v := .bool true) (d := 76) (by kernel_rfl) (by kernel_rfl) (by kernel_rfl) ?_
              refine bigEnd (j := 73) (by kernel_rfl) (a' := ⟨#[.agg #[.int .i64 x0, .slice A1 x1.length c1, .int .i64 x2, .int .i64 x3, .slice A4 x4.length c4], .pointer (some ⟨gx, 0, none⟩), .bool false, undef, .pointer (some ⟨gx, 0, none⟩), .int .i64 (x0), .bool false, .bool false, .pointer (some ⟨gx, 0, none⟩), .int .i64 (x0), .bool false, .bool false, .bool false, .pointer (some ⟨gx, 0, none⟩), .int .i64 (x0), .bool true, .bool true, .pointer (some ⟨gx, 4, none⟩), .slice A4 x4.length c4, .int .i64 ((x4.length : Int)), .bool false, .bool false, .pointer (some ⟨gx, 2, none⟩), .int .i64 (x2), .bool true, .bool true, .bool true, undef, undef, undef, .bool true, .bool true, undef, undef, undef, .bool true, .bool true, undef, undef, undef, .bool true, .bool true, undef, undef, undef, undef, undef, undef, undef, undef, undef, undef, .bool true, .bool true, .bool true, .bool true, undef, undef, undef, undef, undef, undef, undef, undef, undef, undef, undef, undef, undef, undef, .bool true, .bool true, undef, undef, undef, undef, .bool true, undef, undef, undef, undef, undef, undef, undef, undef, undef, undef, undef, undef, undef, undef], []⟩) (by kernel_rfl) ?_
              obtain rfl : true = bad := by rw [← HBAD.out]; simp only [badP]; simp; omega
              clear HBAD HH h2 c2 h6 c6 h11 c11 h16 c16 h20 c20
              go_wp2
              go_meet
              case rel => exact ⟨rfl, rfl⟩
            · have c20 : decide (x2 < 0) = false := decide_eq_false (by omega)
              refine bigTest (j := 20) (b := decide (x2 < 0)) (r := false) (d := 24) (by kernel_rfl) (by kernel_rfl) c20 (by kernel_rfl) ?_
              refine bigDo (j := 21) (v := .bool false) (d := 25) (by kernel_rfl) (by kernel_rfl) (by kernel_rfl) ?_
              refine bigDo (j := 22) (v := .bool false) (d := 26) (by kernel_rfl) (by kernel_rfl) (by kernel_rfl) ?_
              refine bigDo (j := 23) (v := .pointer (some ⟨gx, 2, none⟩)) (d := 27) (by kernel_rfl) (by kernel_rfl) (by kernel_rfl) ?_
              refine bigLoad (j := 24) (t := 3) (p := ⟨gx, 2, none⟩) (v := .int .i64 (x2)) (d := 28) (by kernel_rfl) (by kernel_rfl) L2 (by kernel_rfl) ?_
              by_cases h25 : 20 < x2
              · have c25 : decide (20 < x2) = true := decide_eq_true (by omega)
                refine bigTest (j := 25) (b := decide (20 < x2)) (r := true) (d := 29) (by kernel_rfl) (by kernel_rfl) c25 (by kernel_rfl) ?_
                refine bigDo (j := 26) (v := .bool true) (d := 30) (by kernel_rfl) (by kernel_rfl) (by kernel_rfl) ?_
                refine bigDo (j := 27) (v := .bool true) (d := 31) (by kernel_rfl) (by kernel_rfl) (by kernel_rfl) ?_
                refine bigOff (j := 28) 3 (by kernel_rfl) ?_
                refine bigDo (j := 31) (v := .bool true) (d := 35) (by kernel_rfl) (by kernel_rfl) (by kernel_rfl) ?_
                refine bigDo (j := 32) (v := .bool true) (d := 36) (by kernel_rfl) (by kernel_rfl) (by kernel_rfl) ?_
                refine bigOff (j := 33) 3 (by kernel_rfl) ?_
                refine bigDo (j := 36) (v := .bool true) (d := 40) (by kernel_rfl) (by kernel_rfl) (by kernel_rfl) ?_
                refine bigDo (j := 37) (v := .bool true) (d := 41) (by kernel_rfl) (by kernel_rfl) (by kernel_rfl) ?_
                refine bigOff (j := 38) 10 (by kernel_rfl) ?_
                refine bigDo (j := 48) (v := .bool true) (d := 52) (by kernel_rfl) (by kernel_rfl) (by kernel_rfl) ?_
                refine bigDo (j := 49) (v := .bool true) (d := 53) (by kernel_rfl) (by kernel_rfl) (by kernel_rfl) ?_
                refine bigDo (j := 50) (v := .bool true) (d := 54) (by kernel_rfl) (by kernel_rfl) (by kernel_rfl) ?_
                refine bigDo (j := 51) (v := .bool true) (d := 55) (by kernel_rfl) (by kernel_rfl) (by kernel_rfl) ?_
                refine bigOff (j := 52) 14 (by kernel_rfl) ?_
                refine bigDo (j := 66) (v := .bool true) (d := 70) (by kernel_rfl) (by kernel_rfl) (by kernel_rfl) ?_
                refine bigDo (j := 67) (v := .bool true) (d := 71) (by kernel_rfl) (by kernel_rfl) (by kernel_rfl) ?_
                refine bigOff (j := 68) 4 (by kernel_rfl) ?_
                refine bigDo (j := 72) (v := .bool true) (d := 76) (by kernel_rfl) (by kernel_rfl) (by kernel_rfl) ?_
                refine bigEnd (j := 73) (by kernel_rfl) (a' := ⟨#[.agg #[.int .i64 x0, .slice A1 x1.length c1, .int .i64 x2, .int .i64 x3, .slice A4 x4.length c4], .pointer (some ⟨gx, 0, none⟩), .bool false, undef, .pointer (some ⟨gx, 0, none⟩), .int .i64 (x0), .bool false, .bool false, .pointer (some ⟨gx, 0, none⟩), .int .i64 (x0), .bool false, .bool false, .bool false, .pointer (some ⟨gx, 0, none⟩), .int .i64 (x0), .bool true, .bool true, .pointer (some ⟨gx, 4, none⟩), .slice A4 x4.length c4, .int .i64 ((x4.length : Int)), .bool false, .bool false, .pointer (some ⟨gx, 2, none⟩), .int .i64 (x2), .bool false, .bool false, .bool false, .pointer (some ⟨gx, 2, none⟩), .int .i64 (x2), .bool true, .bool true, .bool true, undef, undef, undef, .bool true, .bool true, undef, undef, undef, .bool true, .bool true, undef, undef, undef, undef, undef, undef, undef, undef, undef, undef, .bool true, .bool true, .bool true, .bool true, undef, undef, undef, undef, undef, undef, undef, undef, undef, undef, undef, undef, undef, undef, .bool true, .bool true, undef, undef, undef, undef, .bool true, undef, undef, undef, undef, undef, undef, undef, undef, undef, undef, undef, undef, undef, undef], []⟩) (by kernel_rfl) ?_
                obtain rfl : true = bad := by rw [← HBAD.out]; simp only [badP]; simp; omega
                clear HBAD HH h2 c2 h6 c6 h11 c11 h16 c16 h20 c20 h25 c25
                go_wp2
                go_meet
                case rel => exact ⟨rfl, rfl⟩
              · have c25 : decide (20 < x2) = false := decide_eq_false (by omega)
                refine bigTest (j := 25) (b := decide (20 < x2)) (r := false) (d := 29) (by kernel_rfl) (by kernel_rfl) c25 (by kernel_rfl) ?_
                refine bigDo (j := 26) (v := .bool false) (d := 30) (by kernel_rfl) (by kernel_rfl) (by kernel_rfl) ?_
                refine bigDo (j := 27) (v := .bool false) (d := 31) (by kernel_rfl) (by kernel_rfl) (by kernel_rfl) ?_
                refine bigDo (j := 28) (v := .pointer (some ⟨gx, 3, none⟩)) (d := 32) (by kernel_rfl) (by kernel_rfl) (by kernel_rfl) ?_
                refine bigLoad (j := 29) (t := 3) (p := ⟨gx, 3, none⟩) (v := .int .i64 (x3)) (d := 33) (by kernel_rfl) (by kernel_rfl) L3 (by kernel_rfl) ?_
                by_cases h30 : x3 < (-1)
                · have c30 : decide (x3 < (-1)) = true := decide_eq_true (by omega)
                  refine bigTest (j := 30) (b := decide (x3 < (-1))) (r := true) (d := 34) (by kernel_rfl) (by kernel_rfl) c30 (by kernel_rfl) ?_
                  refine bigDo (j := 31) (v := .bool true) (d := 35) (by kernel_rfl) (by kernel_rfl) (by kernel_rfl) ?_
                  refine bigDo (j := 32) (v := .bool true) (d := 36) (by kernel_rfl) (by kernel_rfl) (by kernel_rfl) ?_
                  refine bigOff (j := 33) 3 (by kernel_rfl) ?_
                  refine bigDo (j := 36) (v := .bool true) (d := 40) (by kernel_rfl) (by kernel_rfl) (by kernel_rfl) ?_
                  refine bigDo (j := 37) (v := .bool true) (d := 41) (by kernel_rfl) (by kernel_rfl) (by kernel_rfl) ?_
                  refine bigOff (j := 38) 10 (by kernel_rfl) ?_
                  refine bigDo (j := 48) (v := .bool true) (d := 52) (by kernel_rfl) (by kernel_rfl) (by kernel_rfl) ?_
                  refine bigDo (j := 49) (v := .bool true) (d := 53) (by kernel_rfl) (by kernel_rfl) (by kernel_rfl) ?_
                  refine bigDo (j := 50) (v := .bool true) (d := 54) (by kernel_rfl) (by kernel_rfl) (by kernel_rfl) ?_
                  refine bigDo (j := 51) (v := .bool true) (d := 55) (by kernel_rfl) (by kernel_rfl) (by kernel_rfl) ?_
                  refine bigOff (j := 52) 14 (by kernel_rfl) ?_
                  refine bigDo (j := 66) (v := .bool true) (d := 70) (by kernel_rfl) (by kernel_rfl) (by kernel_rfl) ?_
                  refine bigDo (j := 67) (v := .bool true) (d := 71) (by kernel_rfl) (by kernel_rfl) (by kernel_rfl) ?_
                  refine bigOff (j := 68) 4 (by kernel_rfl) ?_
                  refine bigDo (j := 72) (v := .bool true) (d := 76) (by kernel_rfl) (by kernel_rfl) (by kernel_rfl) ?_
                  refine bigEnd (j := 73) (by kernel_rfl) (a' := ⟨#[.agg #[.int .i64 x0, .slice A1 x1.length c1, .int .i64 x2, .int .i64 x3, .slice A4 x4.length c4], .pointer (some ⟨gx, 0, none⟩), .bool false, undef, .pointer (some ⟨gx, 0, none⟩), .int .i64 (x0), .bool false, .bool false, .pointer (some ⟨gx, 0, none⟩), .int .i64 (x0), .bool false, .bool false, .bool false, .pointer (some ⟨gx, 0, none⟩), .int .i64 (x0), .bool true, .bool true, .pointer (some ⟨gx, 4, none⟩), .slice A4 x4.length c4, .int .i64 ((x4.length : Int)), .bool false, .bool false, .pointer (some ⟨gx, 2, none⟩), .int .i64 (x2), .bool false, .bool false, .bool false, .pointer (some ⟨gx, 2, none⟩), .int .i64 (x2), .bool false, .bool false, .bool false, .pointer (some ⟨gx, 3, none⟩), .int .i64 (x3), .bool true, .bool true, .bool true, undef, undef, undef, .bool true, .bool true, undef, undef, undef, undef, undef, undef, undef, undef, undef, undef, .bool true, .bool true, .bool true, .bool true, undef, undef, undef, undef, undef, undef, undef, undef, undef, undef, undef, undef, undef, undef, .bool true, .bool true, undef, undef, undef, undef, .bool true, undef, undef, undef, undef, undef, undef, undef, undef, undef, undef, undef, undef, undef, undef], []⟩) (by kernel_rfl) ?_
                  obtain rfl : true = bad := by rw [← HBAD.out]; simp only [badP]; simp; omega
                  clear HBAD HH h2 c2 h6 c6 h11 c11 h16 c16 h20 c20 h25 c25 h30 c30
                  go_wp2
                  go_meet
                  case rel => exact ⟨rfl, rfl⟩
                · have c30 : decide (x3 < (-1)) = false := decide_eq_false (by omega)
                  refine bigTest (j := 30) (b := decide (x3 < (-1))) (r := false) (d := 34) (by kernel_rfl) (by kernel_rfl) c30 (by kernel_rfl) ?_
                  refine bigDo (j := 31) (v := .bool false) (d := 35) (by kernel_rfl) (by kernel_rfl) (by kernel_rfl) ?_
                  refine bigDo (j := 32) (v := .bool false) (d := 36) (by kernel_rfl) (by kernel_rfl) (by kernel_rfl) ?_
                  refine bigDo (j := 33) (v := .pointer (some ⟨gx, 3, none⟩)) (d := 37) (by kernel_rfl) (by kernel_rfl) (by kernel_rfl) ?_
                  refine bigLoad (j := 34) (t := 3) (p := ⟨gx, 3, none⟩) (v := .int .i64 (x3)) (d := 38) (by kernel_rfl) (by kernel_rfl) L3 (by kernel_rfl) ?_
                  by_cases h35 : 20 < x3
                  · have c35 : decide (20 < x3) = true := decide_eq_true (by omega)
                    refine bigTest (j := 35) (b := decide (20 < x3)) (r := true) (d := 39) (by kernel_rfl) (by kernel_rfl) c35 (by kernel_rfl) ?_
                    refine bigDo (j := 36) (v := .bool true) (d := 40) (by kernel_rfl) (by kernel_rfl) (by kernel_rfl) ?_
                    refine bigDo (j := 37) (v := .bool true) (d := 41) (by kernel_rfl) (by kernel_rfl) (by kernel_rfl) ?_
                    refine bigOff (j := 38) 10 (by kernel_rfl) ?_
                    refine bigDo (j := 48) (v := .bool true) (d := 52) (by kernel_rfl) (by kernel_rfl) (by kernel_rfl) ?_
                    refine bigDo (j := 49) (v := .bool true) (d := 53) (by kernel_rfl) (by kernel_rfl) (by kernel_rfl) ?_
                    refine bigDo (j := 50) (v := .bool true) (d := 54) (by kernel_rfl) (by kernel_rfl) (by kernel_rfl) ?_
                    refine bigDo (j := 51) (v := .bool true) (d := 55) (by kernel_rfl) (by kernel_rfl) (by kernel_rfl) ?_
                    refine bigOff (j := 52) 14 (by kernel_rfl) ?_
                    refine bigDo (j := 66) (v := .bool true) (d := 70) (by kernel_rfl) (by kernel_rfl) (by kernel_rfl) ?_
                    refine bigDo (j := 67) (v := .bool true) (d := 71) (by kernel_rfl) (by kernel_rfl) (by kernel_rfl) ?_
                    refine bigOff (j := 68) 4 (by kernel_rfl) ?_
                    refine bigDo (j := 72) (v := .bool true) (d := 76) (by kernel_rfl) (by kernel_rfl) (by kernel_rfl) ?_
                    refine bigEnd (j := 73) (by kernel_rfl) (a' := ⟨#[.agg #[.int .i64 x0, .slice A1 x1.length c1, .int .i64 x2, .int .i64 x3, .slice A4 x4.length c4], .pointer (some ⟨gx, 0, none⟩), .bool false, undef, .pointer (some ⟨gx, 0, none⟩), .int .i64 (x0), .bool false, .bool false, .pointer (some ⟨gx, 0, none⟩), .int .i64 (x0), .bool false, .bool false, .bool false, .pointer (some ⟨gx, 0, none⟩), .int .i64 (x0), .bool true, .bool true, .pointer (some ⟨gx, 4, none⟩), .slice A4 x4.length c4, .int .i64 ((x4.length : Int)), .bool false, .bool false, .pointer (some ⟨gx, 2, none⟩), .int .i64 (x2), .bool false, .bool false, .bool false, .pointer (some ⟨gx, 2, none⟩), .int .i64 (x2), .bool false, .bool false, .bool false, .pointer (some ⟨gx, 3, none⟩), .int .i64 (x3), .bool false, .bool false, .bool false, .pointer (some ⟨gx, 3, none⟩), .int .i64 (x3), .bool true, .bool true, .bool true, undef, undef, undef, undef, undef, undef, undef, undef, undef, undef, .bool true, .bool true, .bool true, .bool true, undef, undef, undef, undef, undef, undef, undef, undef, undef, undef, undef, undef, undef, undef, .bool true, .bool true, undef, undef, undef, undef, .bool true, undef, undef, undef, undef, undef, undef, undef, undef, undef, undef, undef, undef, undef, undef], []⟩) (by kernel_rfl) ?_
                    obtain rfl : true = bad := by rw [← HBAD.out]; simp only [badP]; simp; omega
                    clear HBAD HH h2 c2 h6 c6 h11 c11 h16 c16 h20 c20 h25 c25 h30 c30 h35 c35
                    go_wp2
                    go_meet
                    case rel => exact ⟨rfl, rfl⟩
                  · have c35 : decide (20 < x3) = false := decide_eq_false (by omega)
                    refine bigTest (j := 35) (b := decide (20 < x3)) (r := false) (d := 39) (by kernel_rfl) (by kernel_rfl) c35 (by kernel_rfl) ?_
                    refine bigDo (j := 36) (v := .bool false) (d := 40) (by kernel_rfl) (by kernel_rfl) (by kernel_rfl) ?_
                    refine bigDo (j := 37) (v := .bool false) (d := 41) (by kernel_rfl) (by kernel_rfl) (by kernel_rfl) ?_
                    refine bigDo (j := 38) (v := .pointer (some ⟨gx, 3, none⟩)) (d := 42) (by kernel_rfl) (by kernel_rfl) (by kernel_rfl) ?_
                    refine bigLoad (j := 39) (t := 3) (p := ⟨gx, 3, none⟩) (v := .int .i64 (x3)) (d := 43) (by kernel_rfl) (by kernel_rfl) L3 (by kernel_rfl) ?_
                    by_cases h40 : 0 ≤ x3
                    · have c40 : decide (0 ≤ x3) = true := decide_eq_true (by omega)
                      refine bigTest (j := 40) (b := decide (0 ≤ x3)) (r := true) (d := 44) (by kernel_rfl) (by kernel_rfl) c40 (by kernel_rfl) ?_
                      refine bigDo (j := 41) (v := .bool true) (d := 45) (by kernel_rfl) (by kernel_rfl) (by kernel_rfl) ?_
                      refine bigDo (j := 42) (v := .pointer (some ⟨gx, 3, none⟩)) (d := 46) (by kernel_rfl) (by kernel_rfl) (by kernel_rfl) ?_
                      refine bigLoad (j := 43) (t := 3) (p := ⟨gx, 3, none⟩) (v := .int .i64 (x3)) (d := 47) (by kernel_rfl) (by kernel_rfl) L3 (by kernel_rfl) ?_
                      refine bigDo (j := 44) (v := .pointer (some ⟨gx, 2, none⟩)) (d := 48) (by kernel_rfl) (by kernel_rfl) (by kernel_rfl) ?_
                      refine bigLoad (j := 45) (t := 3) (p := ⟨gx, 2, none⟩) (v := .int .i64 (x2)) (d := 49) (by kernel_rfl) (by kernel_rfl) L2 (by kernel_rfl) ?_
                      by_cases h46 : x3 < x2
                      · have c46 : decide (x3 < x2) = true := decide_eq_true (by omega)
                        refine bigTest (j := 46) (b := decide (x3 < x2)) (r := true) (d := 50) (by kernel_rfl) (by kernel_rfl) c46 (by kernel_rfl) ?_
                        refine bigDo (j := 47) (v := .bool true) (d := 51) (by kernel_rfl) (by kernel_rfl) (by kernel_rfl) ?_
                        refine bigDo (j := 48) (v := .bool true) (d := 52) (by kernel_rfl) (by kernel_rfl) (by kernel_rfl) ?_
                        refine bigDo (j := 49) (v := .bool true) (d := 53) (by kernel_rfl) (by kernel_rfl) (by kernel_rfl) ?_
                        refine bigDo (j := 50) (v := .bool true) (d := 54) (by kernel_rfl) (by kernel_rfl) (by kernel_rfl) ?_
                        refine bigDo (j := 51) (v := .bool true) (d := 55) (by kernel_rfl) (by kernel_rfl) (by kernel_rfl) ?_
                        refine bigOff (j := 52) 14 (by kernel_rfl) ?_
                        refine bigDo (j := 66) (v := .bool true) (d := 70) (by kernel_rfl) (by kernel_rfl) (by kernel_rfl) ?_
                        refine bigDo (j := 67) (v := .bool true) (d := 71) (by kernel_rfl) (by kernel_rfl) (by kernel_rfl) ?_
                        refine bigOff (j := 68) 4 (by kernel_rfl) ?_
                        refine bigDo (j := 72) (v := .bool true) (d := 76) (by kernel_rfl) (by kernel_rfl) (by kernel_rfl) ?_
                        refine bigEnd (j := 73) (by kernel_rfl) (a' := ⟨#[.agg #[.int .i64 x0, .slice A1 x1.length c1, .int .i64 x2, .int .i64 x3, .slice A4 x4.length c4], .pointer (some ⟨gx, 0, none⟩), .bool false, undef, .pointer (some ⟨gx, 0, none⟩), .int .i64 (x0), .bool false, .bool false, .pointer (some ⟨gx, 0, none⟩), .int .i64 (x0), .bool false, .bool false, .bool false, .pointer (some ⟨gx, 0, none⟩), .int .i64 (x0), .bool true, .bool true, .pointer (some ⟨gx, 4, none⟩), .slice A4 x4.length c4, .int .i64 ((x4.length : Int)), .bool false, .bool false, .pointer (some ⟨gx, 2, none⟩), .int .i64 (x2), .bool false, .bool false, .bool false, .pointer (some ⟨gx, 2, none⟩), .int .i64 (x2), .bool false, .bool false, .bool false, .pointer (some ⟨gx, 3, none⟩), .int .i64 (x3), .bool false, .bool false, .bool false, .pointer (some ⟨gx, 3, none⟩), .int .i64 (x3), .bool false, .bool false, .bool false, .pointer (some ⟨gx, 3, none⟩), .int .i64 (x3), .bool true, .bool true, .pointer (some ⟨gx, 3, none⟩), .int .i64 (x3), .pointer (some ⟨gx, 2, none⟩), .int .i64 (x2), .bool true, .bool true, .bool true, .bool true, .bool true, .bool true, undef, undef, undef, undef, undef, undef, undef, undef, undef, undef, undef, undef, undef, undef, .bool true, .bool true, undef, undef, undef, undef, .bool true, undef, undef, undef, undef, undef, undef, undef, undef, undef, undef, undef, undef, undef, undef], []⟩) (by kernel_rfl) ?_
                        obtain rfl : true = bad := by rw [← HBAD.out]; simp only [badP]; simp; omega
                        clear HBAD HH h2 c2 h6 c6 h11 c11 h16 c16 h20 c20 h25 c25 h30 c30 h35 c35 h40 c40 h46 c46
                        go_wp2
                        go_meet
                        case rel => exact ⟨rfl, rfl⟩
                      · have c46 : decide (x3 < x2) = false := decide_eq_false (by omega)
                        refine bigTest (j := 46) (b := decide (x3 < x2)) (r := false) (d := 50) (by kernel_rfl) (by kernel_rfl) c46 (by kernel_rfl) ?_
                        refine bigDo (j := 47) (v := .bool false) (d := 51) (by kernel_rfl) (by kernel_rfl) (by kernel_rfl) ?_
                        refine bigDo (j := 48) (v := .bool false) (d := 52) (by kernel_rfl) (by kernel_rfl) (by kernel_rfl) ?_
                        refine bigDo (j := 49) (v := .bool false) (d := 53) (by kernel_rfl) (by kernel_rfl) (by kernel_rfl) ?_
                        refine bigDo (j := 50) (v := .bool false) (d := 54) (by kernel_rfl) (by kernel_rfl) (by kernel_rfl) ?_
                        refine bigDo (j := 51) (v := .bool false) (d := 55) (by kernel_rfl) (by kernel_rfl) (by kernel_rfl) ?_
                        refine bigDo (j := 52) (v := .pointer (some ⟨gx, 0, none⟩)) (d := 56) (by kernel_rfl) (by kernel_rfl) (by kernel_rfl) ?_
                        refine bigLoad (j := 53) (t := 3) (p := ⟨gx, 0, none⟩) (v := .int .i64 (x0)) (d := 57) (by kernel_rfl) (by kernel_rfl) L0 (by kernel_rfl) ?_
                        have c54 : (x0 == 3) = false := beq_eq_false_iff_ne.mpr (by omega)
                        refine bigTest (j := 54) (b := (x0 == 3)) (r := false) (d := 58) (by kernel_rfl) (by kernel_rfl) c54 (by kernel_rfl) ?_
                        refine bigDo (j := 55) (v := .bool false) (d := 59) (by kernel_rfl) (by kernel_rfl) (by kernel_rfl) ?_
                        refine bigDo (j := 56) (v := .pointer (some ⟨gx, 0, none⟩)) (d := 60) (by kernel_rfl) (by kernel_rfl) (by kernel_rfl) ?_
                        refine bigLoad (j := 57) (t := 3) (p := ⟨gx, 0, none⟩) (v := .int .i64 (x0)) (d := 61) (by kernel_rfl) (by kernel_rfl) L0 (by kernel_rfl) ?_
                        have c58 : (x0 == 4) = false := beq_eq_false_iff_ne.mpr (by omega)
                        refine bigTest (j := 58) (b := (x0 == 4)) (r := false) (d := 62) (by kernel_rfl) (by kernel_rfl) c58 (by kernel_rfl) ?_
                        refine bigDo (j := 59) (v := .bool false) (d := 63) (by kernel_rfl) (by kernel_rfl) (by kernel_rfl) ?_
                        refine bigDo (j := 60) (v := .bool false) (d := 64) (by kernel_rfl) (by kernel_rfl) (by kernel_rfl) ?_
                        refine bigOff (j := 61) 4 (by kernel_rfl) ?_
                        refine bigDo (j := 65) (v := .bool false) (d := 69) (by kernel_rfl) (by kernel_rfl) (by kernel_rfl) ?_
                        refine bigDo (j := 66) (v := .bool false) (d := 70) (by kernel_rfl) (by kernel_rfl) (by kernel_rfl) ?_
                        refine bigDo (j := 67) (v := .bool false) (d := 71) (by kernel_rfl) (by kernel_rfl) (by kernel_rfl) ?_
                        refine bigDo (j := 68) (v := .pointer (some ⟨gx, 1, none⟩)) (d := 72) (by kernel_rfl) (by kernel_rfl) (by kernel_rfl) ?_
                        refine bigLoad (j := 69) (t := 22) (p := ⟨gx, 1, none⟩) (v := .slice A1 x1.length c1) (d := 73) (by kernel_rfl) (by kernel_rfl) L1 (by kernel_rfl) ?_
                        refine bigDo (j := 70) (v := .int .i64 ((x1.length : Int))) (d := 74) (by kernel_rfl) (by kernel_rfl) (by kernel_rfl) ?_
                        by_cases h71 : 60 < (x1.length : Int)
                        · have c71 : decide (60 < (x1.length : Int)) = true := decide_eq_true (by omega)
                          refine bigTest (j := 71) (b := decide (60 < (x1.length : Int))) (r := true) (d := 75) (by kernel_rfl) (by kernel_rfl) c71 (by kernel_rfl) ?_
                          refine bigDo (j := 72) (v := .bool true) (d := 76) (by kernel_rfl) (by kernel_rfl) (by kernel_rfl) ?_
                          refine bigEnd (j := 73) (by kernel_rfl) (a' := ⟨#[.agg #[.int .i64 x0, .slice A1 x1.length c1, .int .i64 x2, .int .i64 x3, .slice A4 x4.length c4], .pointer (some ⟨gx, 0, none⟩), .bool false, undef, .pointer (some ⟨gx, 0, none⟩), .int .i64 (x0), .bool false, .bool false, .pointer (some ⟨gx, 0, none⟩), .int .i64 (x0), .bool false, .bool false, .bool false, .pointer (some ⟨gx, 0, none⟩), .int .i64 (x0), .bool true, .bool true, .pointer (some ⟨gx, 4, none⟩), .slice A4 x4.length c4, .int .i64 ((x4.length : Int)), .bool false, .bool false, .pointer (some ⟨gx, 2, none⟩), .int .i64 (x2), .bool false, .bool false, .bool false, .pointer (some ⟨gx, 2, none⟩), .int .i64 (x2), .bool false, .bool false, .bool false, .pointer (some ⟨gx, 3, none⟩), .int .i64 (x3), .bool false, .bool false, .bool false, .pointer (some ⟨gx, 3, none⟩), .int .i64 (x3), .bool false, .bool false, .bool false, .pointer (some ⟨gx, 3, none⟩), .int .i64 (x3), .bool true, .bool true, .pointer (some ⟨gx, 3, none⟩), .int .i64 (x3), .pointer (some ⟨gx, 2, none⟩), .int .i64 (x2), .bool false, .bool false, .bool false, .bool false, .bool false, .bool false, .pointer (some ⟨gx, 0, none⟩), .int .i64 (x0), .bool false, .bool false, .pointer (some ⟨gx, 0, none⟩), .int .i64 (x0), .bool false, .bool false, .bool false, undef, undef, undef, undef, .bool false, .bool false, .bool false, .pointer (some ⟨gx, 1, none⟩), .slice A1 x1.length c1, .int .i64 ((x1.length : Int)), .bool true, .bool true, undef, undef, undef, undef, undef, undef, undef, undef, undef, undef, undef, undef, undef, undef], []⟩) (by kernel_rfl) ?_
                          obtain rfl : true = bad := by rw [← HBAD.out]; simp only [badP]; simp; omega
                          clear HBAD HH h2 c2 h6 c6 h11 c11 h16 c16 h20 c20 h25 c25 h30 c30 h35 c35 h40 c40 h46 c46 c54 c58 h71 c71
                          go_wp2
                          go_meet
                          case rel => exact ⟨rfl, rfl⟩
                        · have c71 : decide (60 < (x1.length : Int)) = false := decide_eq_false (by omega)
                          refine bigTest (j := 71) (b := decide (60 < (x1.length : Int))) (r := false) (d := 75) (by kernel_rfl) (by kernel_rfl) c71 (by kernel_rfl) ?_
                          refine bigDo (j := 72) (v := .bool false) (d := 76) (by kernel_rfl) (by kernel_rfl) (by kernel_rfl) ?_
                          refine bigEnd (j := 73) (by kernel_rfl) (a' := ⟨#[.agg #[.int .i64 x0, .slice A1 x1.length c1, .int .i64 x2, .int .i64 x3, .slice A4 x4.length c4], .pointer (some ⟨gx, 0, none⟩), .bool false, undef, .pointer (some ⟨gx, 0, none⟩), .int .i64 (x0), .bool false, .bool false, .pointer (some ⟨gx, 0, none⟩), .int .i64 (x0), .bool false, .bool false, .bool false, .pointer (some ⟨gx, 0, none⟩), .int .i64 (x0), .bool true, .bool true, .pointer (some ⟨gx, 4, none⟩), .slice A4 x4.length c4, .int .i64 ((x4.length : Int)), .bool false, .bool false, .pointer (some ⟨gx, 2, none⟩), .int .i64 (x2), .bool false, .bool false, .bool false, .pointer (some ⟨gx, 2, none⟩), .int .i64 (x2), .bool false, .bool false, .bool false, .pointer (some ⟨gx, 3, none⟩), .int .i64 (x3), .bool false, .bool false, .bool false, .pointer (some ⟨gx, 3, none⟩), .int .i64 (x3), .bool false, .bool false, .bool false, .pointer (some ⟨gx, 3, none⟩), .int .i64 (x3), .bool true, .bool true, .pointer (some ⟨gx, 3, none⟩), .int .i64 (x3), .pointer (some ⟨gx, 2, none⟩), .int .i64 (x2), .bool false, .bool false, .bool false, .bool false, .bool false, .bool false, .pointer (some ⟨gx, 0, none⟩), .int .i64 (x0), .bool false, .bool false, .pointer (some ⟨gx, 0, none⟩), .int .i64 (x0), .bool false, .bool false, .bool false, undef, undef, undef, undef, .bool false, .bool false, .bool false, .pointer (some ⟨gx, 1, none⟩), .slice A1 x1.length c1, .int .i64 ((x1.length : Int)), .bool false, .bool false, undef, undef, undef, undef, undef, undef, undef, undef, undef, undef, undef, undef, undef, undef], []⟩) (by kernel_rfl) ?_
                          obtain rfl : false = bad := by rw [← HBAD.out]; simp only [badP]; simp; omega
                          clear HBAD HH h2 c2 h6 c6 h11 c11 h16 c16 h20 c20 h25 c25 h30 c30 h35 c35 h40 c40 h46 c46 c54 c58 h71 c71
                          go_wp2
                          go_meet
                          case rel => exact ⟨rfl, rfl⟩
                    · have c40 : decide (0 ≤ x3) = false := decide_eq_false (by omega)
                      refine bigTest (j := 40) (b := decide (0 ≤ x3)) (r := false) (d := 44) (by kernel_rfl) (by kernel_rfl) c40 (by kernel_rfl) ?_
                      refine bigDo (j := 41) (v := .bool false) (d := 45) (by kernel_rfl) (by kernel_rfl) (by kernel_rfl) ?_
                      refine bigOff (j := 42) 5 (by kernel_rfl) ?_
                      refine bigDo (j := 47) (v := .bool false) (d := 51) (by kernel_rfl) (by kernel_rfl) (by kernel_rfl) ?_
                      refine bigDo (j := 48) (v := .bool false) (d := 52) (by kernel_rfl) (by kernel_rfl) (by kernel_rfl) ?_
                      refine bigDo (j := 49) (v := .bool false) (d := 53) (by kernel_rfl) (by kernel_rfl) (by kernel_rfl) ?_
                      refine bigDo (j := 50) (v := .bool false) (d := 54) (by kernel_rfl) (by kernel_rfl) (by kernel_rfl) ?_
                      refine bigDo (j := 51) (v := .bool false) (d := 55) (by kernel_rfl) (by kernel_rfl) (by kernel_rfl) ?_
                      refine bigDo (j := 52) (v := .pointer (some ⟨gx, 0, none⟩)) (d := 56) (by kernel_rfl) (by kernel_rfl) (by kernel_rfl) ?_
                      refine bigLoad (j := 53) (t := 3) (p := ⟨gx, 0, none⟩) (v := .int .i64 (x0)) (d := 57) (by kernel_rfl) (by kernel_rfl) L0 (by kernel_rfl) ?_
                      have c54 : (x0 == 3) = false := beq_eq_false_iff_ne.mpr (by omega)
                      refine bigTest (j := 54) (b := (x0 == 3)) (r := false) (d := 58) (by kernel_rfl) (by kernel_rfl) c54 (by kernel_rfl) ?_
                      refine bigDo (j := 55) (v := .bool false) (d := 59) (by kernel_rfl) (by kernel_rfl) (by kernel_rfl) ?_
                      refine bigDo (j := 56) (v := .pointer (some ⟨gx, 0, none⟩)) (d := 60) (by kernel_rfl) (by kernel_rfl) (by kernel_rfl) ?_
                      refine bigLoad (j := 57) (t := 3) (p := ⟨gx, 0, none⟩) (v := .int .i64 (x0)) (d := 61) (by kernel_rfl) (by kernel_rfl) L0 (by kernel_rfl) ?_
                      have c58 : (x0 == 4) = false := beq_eq_false_iff_ne.mpr (by omega)
                      refine bigTest (j := 58) (b := (x0 == 4)) (r := false) (d := 62) (by kernel_rfl) (by kernel_rfl) c58 (by kernel_rfl) ?_
                      refine bigDo (j := 59) (v := .bool false) (d := 63) (by kernel_rfl) (by kernel_rfl) (by kernel_rfl) ?_
                      refine bigDo (j := 60) (v := .bool false) (d := 64) (by kernel_rfl) (by kernel_rfl) (by kernel_rfl) ?_
                      refine bigOff (j := 61) 4 (by kernel_rfl) ?_
                      refine bigDo (j := 65) (v := .bool false) (d := 69) (by kernel_rfl) (by kernel_rfl) (by kernel_rfl) ?_
                      refine bigDo (j := 66) (v := .bool false) (d := 70) (by kernel_rfl) (by kernel_rfl) (by kernel_rfl) ?_
                      refine bigDo (j := 67) (v := .bool false) (d := 71) (by kernel_rfl) (by kernel_rfl) (by kernel_rfl) ?_
                      refine bigDo (j := 68) (v := .pointer (some ⟨gx, 1, none⟩)) (d := 72) (by kernel_rfl) (by kernel_rfl) (by kernel_rfl) ?_
                      refine bigLoad (j := 69) (t := 22) (p := ⟨gx, 1, none⟩) (v := .slice A1 x1.length c1) (d := 73) (by kernel_rfl) (by kernel_rfl) L1 (by kernel_rfl) ?_
                      refine bigDo (j := 70) (v := .int .i64 ((x1.length : Int))) (d := 74) (by kernel_rfl) (by kernel_rfl) (by kernel_rfl) ?_
                      by_cases h71 : 60 < (x1.length : Int)
                      · have c71 : decide (60 < (x1.length : Int)) = true := decide_eq_true (by omega)
                        refine bigTest (j := 71) (b := decide (60 < (x1.length : Int))) (r := true) (d := 75) (by kernel_rfl) (by kernel_rfl) c71 (by kernel_rfl) ?_
                        refine bigDo (j := 72) (v := .bool true) (d := 76) (by kernel_rfl) (by kernel_rfl) (by kernel_rfl) ?_
                        refine bigEnd (j := 73) (by kernel_rfl) (a' := ⟨#[.agg #[.int .i64 x0, .slice A1 x1.length c1, .int .i64 x2, .int .i64 x3, .slice A4 x4.length c4], .pointer (some ⟨gx, 0, none⟩), .bool false, undef, .pointer (some ⟨gx, 0, none⟩), .int .i64 (x0), .bool false, .bool false, .pointer (some ⟨gx, 0, none⟩), .int .i64 (x0), .bool false, .bool false, .bool false, .pointer (some ⟨gx, 0, none⟩), .int .i64 (x0), .bool true, .bool true, .pointer (some ⟨gx, 4, none⟩), .slice A4 x4.length c4, .int .i64 ((x4.length : Int)), .bool false, .bool false, .pointer (some ⟨gx, 2, none⟩), .int .i64 (x2), .bool false, .bool false, .bool false, .pointer (some ⟨gx, 2, none⟩), .int .i64 (x2), .bool false, .bool false, .bool false, .pointer (some ⟨gx, 3, none⟩), .int .i64 (x3), .bool false, .bool false, .bool false, .pointer (some ⟨gx, 3, none⟩), .int .i64 (x3), .bool false, .bool false, .bool false, .pointer (some ⟨gx, 3, none⟩), .int .i64 (x3), .bool false, .bool false, undef, undef, undef, undef, undef, .bool false, .bool false, .bool false, .bool false, .bool false, .pointer (some ⟨gx, 0, none⟩), .int .i64 (x0), .bool false, .bool false, .pointer (some ⟨gx, 0, none⟩), .int .i64 (x0), .bool false, .bool false, .bool false, undef, undef, undef, undef, .bool false, .bool false, .bool false, .pointer (some ⟨gx, 1, none⟩), .slice A1 x1.length c1, .int .i64 ((x1.length : Int)), .bool true, .bool true, undef, undef, undef, undef, undef, undef, undef, undef, undef, undef, undef, undef, undef, undef], []⟩) (by kernel_rfl) ?_
                        obtain rfl : true = bad := by rw [← HBAD.out]; simp only [badP]; simp; omega
                        clear HBAD HH h2 c2 h6 c6 h11 c11 h16 c16 h20 c20 h25 c25 h30 c30 h35 c35 h40 c40 c54 c58 h71 c71
                        go_wp2
                        go_meet
                        case rel => exact ⟨rfl, rfl⟩
                      · have c71 : decide (60 < (x1.length : Int)) = false := decide_eq_false (by omega)
                        refine bigTest (j := 71) (b := decide (60 < (x1.length : Int))) (r := false) (d := 75) (by kernel_rfl) (by kernel_rfl) c71 (by kernel_rfl) ?_
                        refine bigDo (j := 72) (v := .bool false) (d := 76) (by kernel_rfl) (by kernel_rfl) (by kernel_rfl) ?_
                        refine bigEnd (j := 73) (by kernel_rfl) (a' := ⟨#[.agg #[.int .i64 x0, .slice A1 x1.length c1, .int .i64 x2, .int .i64 x3, .slice A4 x4.length c4], .pointer (some ⟨gx, 0, none⟩), .bool false, undef, .pointer (some ⟨gx, 0, none⟩), .int .i64 (x0), .bool false, .bool false, .pointer (some ⟨gx, 0, none⟩), .int .i64 (x0), .bool false, .bool false, .bool false, .pointer (some ⟨gx, 0, none⟩), .int .i64 (x0), .bool true, .bool true, .pointer (some ⟨gx, 4, none⟩), .slice A4 x4.length c4, .int .i64 ((x4.length : Int)), .bool false, .bool false, .pointer (some ⟨gx, 2, none⟩), .int .i64 (x2), .bool false, .bool false, .bool false, .pointer (some ⟨gx, 2, none⟩), .int .i64 (x2), .bool false, .bool false, .bool false, .pointer (some ⟨gx, 3, none⟩), .int .i64 (x3), .bool false, .bool false, .bool false, .pointer (some ⟨gx, 3, none⟩), .int .i64 (x3), .bool false, .bool false, .bool false, .pointer (some ⟨gx, 3, none⟩), .int .i64 (x3), .bool false, .bool false, undef, undef, undef, undef, undef, .bool false, .bool false, .bool false, .bool false, .bool false, .pointer (some ⟨gx, 0, none⟩), .int .i64 (x0), .bool false, .bool false, .pointer (some ⟨gx, 0, none⟩), .int .i64 (x0), .bool false, .bool false, .bool false, undef, undef, undef, undef, .bool false, .bool false, .bool false, .pointer (some ⟨gx, 1, none⟩), .slice A1 x1.length c1, .int .i64 ((x1.length : Int)), .bool false, .bool false, undef, undef, undef, undef, undef, undef, undef, undef, undef, undef, undef, undef, undef, undef], []⟩) (by kernel_rfl) ?_
                        obtain rfl : false = bad := by rw [← HBAD.out]; simp only [badP]; simp; omega
                        clear HBAD HH h2 c2 h6 c6 h11 c11 h16 c16 h20 c20 h25 c25 h30 c30 h35 c35 h40 c40 c54 c58 h71 c71
                        go_wp2
                        go_meet
                        case rel => exact ⟨rfl, rfl⟩
        · have c11 : (x0 == 5) = false := beq_eq_false_iff_ne.mpr (by omega)
          refine bigTest (j := 11) (b := (x0 == 5)) (r := false) (d := 15) (by kernel_rfl) (by kernel_rfl) c11 (by kernel_rfl) ?_
          refine bigDo (j := 12) (v := .bool false) (d := 16) (by kernel_rfl) (by kernel_rfl) (by kernel_rfl) ?_
          refine bigOff (j := 13) 36 (by kernel_rfl) ?_
          refine bigDo (j := 49) (v := .bool false) (d := 53) (by kernel_rfl) (by kernel_rfl) (by kernel_rfl) ?_
          refine bigDo (j := 50) (v := .bool false) (d := 54) (by kernel_rfl) (by kernel_rfl) (by kernel_rfl) ?_
          refine bigDo (j := 51) (v := .bool false) (d := 55) (by kernel_rfl) (by kernel_rfl) (by kernel_rfl) ?_
          refine bigDo (j := 52) (v := .pointer (some ⟨gx, 0, none⟩)) (d := 56) (by kernel_rfl) (by kernel_rfl) (by kernel_rfl) ?_
          refine bigLoad (j := 53) (t := 3) (p := ⟨gx, 0, none⟩) (v := .int .i64 (x0)) (d := 57) (by kernel_rfl) (by kernel_rfl) L0 (by kernel_rfl) ?_
          by_cases h54 : x0 = 3
          · have c54 : (x0 == 3) = true := beq_iff_eq.mpr (by omega)
            refine bigTest (j := 54) (b := (x0 == 3)) (r := true) (d := 58) (by kernel_rfl) (by kernel_rfl) c54 (by kernel_rfl) ?_
            refine bigDo (j := 55) (v := .bool true) (d := 59) (by kernel_rfl) (by kernel_rfl) (by kernel_rfl) ?_
            refine bigOff (j := 56) 3 (by kernel_rfl) ?_
            refine bigDo (j := 59) (v := .bool true) (d := 63) (by kernel_rfl) (by kernel_rfl) (by kernel_rfl) ?_
            refine bigDo (j := 60) (v := .bool true) (d := 64) (by kernel_rfl) (by kernel_rfl) (by kernel_rfl) ?_
            refine bigDo (j := 61) (v := .pointer (some ⟨gx, 4, none⟩)) (d := 65) (by kernel_rfl) (by kernel_rfl) (by kernel_rfl) ?_
            refine bigLoad (j := 62) (t := 23) (p := ⟨gx, 4, none⟩) (v := .slice A4 x4.length c4) (d := 66) (by kernel_rfl) (by kernel_rfl) L4 (by kernel_rfl) ?_
            refine bigDo (j := 63) (v := .int .i64 ((x4.length : Int))) (d := 67) (by kernel_rfl) (by kernel_rfl) (by kernel_rfl) ?_
            by_cases h64 : (x4.length : Int) < 2
            · have c64 : decide ((x4.length : Int) < 2) = true := decide_eq_true (by omega)
              refine bigTest (j := 64) (b := decide ((x4.length : Int) < 2)) (r := true) (d := 68) (by kernel_rfl) (by kernel_rfl) c64 (by kernel_rfl) ?_
              refine bigDo (j := 65) (v := .bool true) (d := 69) (by kernel_rfl) (by kernel_rfl) (by kernel_rfl) ?_
              refine bigDo (j := 66) (v := .bool true) (d := 70) (by kernel_rfl) (by kernel_rfl) (by kernel_rfl) ?_
              refine bigDo (j := 67) (v := .bool true) (d := 71) (by kernel_rfl) (by kernel_rfl) (by kernel_rfl) ?_
              refine bigOff (j := 68) 4 (by kernel_rfl) ?_
              refine bigDo (j := 72) (v := .bool true) (d := 76) (by kernel_rfl) (by kernel_rfl) (by kernel_rfl) ?_
              refine bigEnd (j := 73) (by kernel_rfl) (a' := ⟨#[.agg #[.int .i64 x0, .slice A1 x1.length c1, .int .i64 x2, .int .i64 x3, .slice A4 x4.length c4], .pointer (some ⟨gx, 0, none⟩), .bool false, undef, .pointer (some ⟨gx, 0, none⟩), .int .i64 (x0), .bool false, .bool false, .pointer (some ⟨gx, 0, none⟩), .int .i64 (x0), .bool false, .bool false, .bool false, .pointer (some ⟨gx, 0, none⟩), .int .i64 (x0), .bool false, .bool false, undef, undef, undef, undef, undef, undef, undef, undef, undef, undef, undef, undef, undef, undef, undef, undef, undef, undef, undef, undef, undef, undef, undef, undef, undef, undef, undef, undef, undef, undef, undef, undef, undef, undef, undef, undef, .bool false, .bool false, .bool false, .pointer (some ⟨gx, 0, none⟩), .int .i64 (x0), .bool true, .bool true, undef, undef, undef, .bool true, .bool true, .pointer (some ⟨gx, 4, none⟩), .slice A4 x4.length c4, .int .i64 ((x4.length : Int)), .bool true, .bool true, .bool true, .bool true, undef, undef, undef, undef, .bool true, undef, undef, undef, undef, undef, undef, undef, undef, undef, undef, undef, undef, undef, undef], []⟩) (by kernel_rfl) ?_
              obtain rfl : true = bad := by rw [← HBAD.out]; simp only [badP]; simp; omega
              clear HBAD HH h2 c2 h6 c6 h11 c11 h54 c54 h64 c64
              go_wp2
              go_meet
              case rel => exact ⟨rfl, rfl⟩
            · have c64 : decide ((x4.length : Int) < 2) = false := decide_eq_false (by omega)
              refine bigTest (j := 64) (b := decide ((x4.length : Int) < 2)) (r := false) (d := 68) (by kernel_rfl) (by kernel_rfl) c64 (by kernel_rfl) ?_
              refine bigDo (j := 65) (v := .bool false) (d := 69) (by kernel_rfl) (by kernel_rfl) (by kernel_rfl) ?_
              refine bigDo (j := 66) (v := .bool false) (d := 70) (by kernel_rfl) (by kernel_rfl) (by kernel_rfl) ?_
              refine bigDo (j := 67) (v := .bool false) (d := 71) (by kernel_rfl) (by kernel_rfl) (by kernel_rfl) ?_
              refine bigDo (j := 68) (v := .pointer (some ⟨gx, 1, none⟩)) (d := 72) (by kernel_rfl) (by kernel_rfl) (by kernel_rfl) ?_
              refine bigLoad (j := 69) (t := 22) (p := ⟨gx, 1, none⟩) (v := .slice A1 x1.length c1) (d := 73) (by kernel_rfl) (by kernel_rfl) L1 (by kernel_rfl) ?_
              refine bigDo (j := 70) (v := .int .i64 ((x1.length : Int))) (d := 74) (by kernel_rfl) (by kernel_rfl) (by kernel_rfl) ?_
              by_cases h71 : 60 < (x1.length : Int)
              · have c71 : decide (60 < (x1.length : Int)) = true := decide_eq_true (by omega)
                refine bigTest (j := 71) (b := decide (60 < (x1.length : Int))) (r := true) (d := 75) (by kernel_rfl) (by kernel_rfl) c71 (by kernel_rfl) ?_
                refine bigDo (j := 72) (v := .bool true) (d := 76) (by kernel_rfl) (by kernel_rfl) (by kernel_rfl) ?_
                refine bigEnd (j := 73) (by kernel_rfl) (a' := ⟨#[.agg #[.int .i64 x0, .slice A1 x1.length c1, .int .i64 x2, .int .i64 x3, .slice A4 x4.length c4], .pointer (some ⟨gx, 0, none⟩), .bool false, undef, .pointer (some ⟨gx, 0, none⟩), .int .i64 (x0), .bool false, .bool false, .pointer (some ⟨gx, 0, none⟩), .int .i64 (x0), .bool false, .bool false, .bool false, .pointer (some ⟨gx, 0, none⟩), .int .i64 (x0), .bool false, .bool false, undef, undef, undef, undef, undef, undef, undef, undef, undef, undef, undef, undef, undef, undef, undef, undef, undef, undef, undef, undef, undef, undef, undef, undef, undef, undef, undef, undef, undef, undef, undef, undef, undef, undef, undef, undef, .bool false, .bool false, .bool false, .pointer (some ⟨gx, 0, none⟩), .int .i64 (x0), .bool true, .bool true, undef, undef, undef, .bool true, .bool true, .pointer (some ⟨gx, 4, none⟩), .slice A4 x4.length c4, .int .i64 ((x4.length : Int)), .bool false, .bool false, .bool false, .bool false, .pointer (some ⟨gx, 1, none⟩), .slice A1 x1.length c1, .int .i64 ((x1.length : Int)), .bool true, .bool true, undef, undef, undef, undef, undef, undef, undef, undef, undef, undef, undef, undef, undef, undef], []⟩) (by kernel_rfl) ?_
                obtain rfl : true = bad := by rw [← HBAD.out]; simp only [badP]; simp; omega
                clear HBAD HH h2 c2 h6 c6 h11 c11 h54 c54 h64 c64 h71 c71
                go_wp2
                go_meet
                case rel => exact ⟨rfl, rfl⟩
              · have c71 : decide (60 < (x1.length : Int)) = false := decide_eq_false (by omega)
                refine bigTest (j := 71) (b := decide (60 < (x1.length : Int))) (r := false) (d := 75) (by kernel_rfl) (by kernel_rfl) c71 (by kernel_rfl) ?_
                refine bigDo (j := 72) (v := .bool false) (d := 76) (by kernel_rfl) (by kernel_rfl) (by kernel_rfl) ?_
                refine bigEnd (j := 73) (by kernel_rfl) (a' := ⟨#[.agg #[.int .i64 x0, .slice A1 x1.length c1, .int .i64 x2, .int .i64 x3, .slice A4 x4.length c4], .pointer (some ⟨gx, 0, none⟩), .bool false, undef, .pointer (some ⟨gx, 0, none⟩), .int .i64 (x0), .bool false, .bool false, .pointer (some ⟨gx, 0, none⟩), .int .i64 (x0), .bool false, .bool false, .bool false, .pointer (some ⟨gx, 0, none⟩), .int .i64 (x0), .bool false, .bool false, undef, undef, undef, undef, undef, undef, undef, undef, undef, undef, undef, undef, undef, undef, undef, undef, undef, undef, undef, undef, undef, undef, undef, undef, undef, undef, undef, undef, undef, undef, undef, undef, undef, undef, undef, undef, .bool false, .bool false, .bool false, .pointer (some ⟨gx, 0, none⟩), .int .i64 (x0), .bool true, .bool true, undef, undef, undef, .bool true, .bool true, .pointer (some ⟨gx, 4, none⟩), .slice A4 x4.length c4, .int .i64 ((x4.length : Int)), .bool false, .bool false, .bool false, .bool false, .pointer (some ⟨gx, 1, none⟩), .slice A1 x1.length c1, .int .i64 ((x1.length : Int)), .bool false, .bool false, undef, undef, undef, undef, undef, undef, undef, undef, undef, undef, undef, undef, undef, undef], []⟩) (by kernel_rfl) ?_
                obtain rfl : false = bad := by rw [← HBAD.out]; simp only [badP]; simp; omega
                clear HBAD HH h2 c2 h6 c6 h11 c11 h54 c54 h64 c64 h71 c71
                go_wp2
                go_meet
                case rel => exact ⟨rfl, rfl⟩
          · have c54 : (x0 == 3) = false := beq_eq_false_iff_ne.mpr (by omega)
            refine bigTest (j := 54) (b := (x0 == 3)) (r := false) (d := 58) (by kernel_rfl) (by kernel_rfl) c54 (by kernel_rfl) ?_
            refine bigDo (j := 55) (v := .bool false) (d := 59) (by kernel_rfl) (by kernel_rfl) (by kernel_rfl) ?_
            refine bigDo (j := 56) (v := .pointer (some ⟨gx, 0, none⟩)) (d := 60) (by kernel_rfl) (by kernel_rfl) (by kernel_rfl) ?_
            refine bigLoad (j := 57) (t := 3) (p := ⟨gx, 0, none⟩) (v := .int .i64 (x0)) (d := 61) (by kernel_rfl) (by kernel_rfl) L0 (by kernel_rfl) ?_
            by_cases h58 : x0 = 4
            · have c58 : (x0 == 4) = true := beq_iff_eq.mpr (by omega)
              refine bigTest (j := 58) (b := (x0 == 4)) (r := true) (d := 62) (by kernel_rfl) (by kernel_rfl) c58 (by kernel_rfl) ?_
              refine bigDo (j := 59) (v := .bool true) (d := 63) (by kernel_rfl) (by kernel_rfl) (by kernel_rfl) ?_
              refine bigDo (j := 60) (v := .bool true) (d := 64) (by kernel_rfl) (by kernel_rfl) (by kernel_rfl) ?_
              refine bigDo (j := 61) (v := .pointer (some ⟨gx, 4, none⟩)) (d := 65) (by kernel_rfl) (by kernel_rfl) (by kernel_rfl) ?_
              refine bigLoad (j := 62) (t := 23) (p := ⟨gx, 4, none⟩) (v := .slice A4 x4.length c4) (d := 66) (by kernel_rfl) (by kernel_rfl) L4 (by kernel_rfl) ?_
              refine bigDo (j := 63) (v := .int .i64 ((x4.length : Int))) (d := 67) (by kernel_rfl) (by kernel_rfl) (by kernel_rfl) ?_
              by_cases h64 : (x4.length : Int) < 2
              · have c64 : decide ((x4.length : Int) < 2) = true := decide_eq_true (by omega)
                refine bigTest (j := 64) (b := decide ((x4.length : Int) < 2)) (r := true) (d := 68) (by kernel_rfl) (by kernel_rfl) c64 (by kernel_rfl) ?_
                refine bigDo (j := 65) (v := .bool true) (d := 69) (by kernel_rfl) (by kernel_rfl) (by kernel_rfl) ?_
                refine bigDo (j := 66) (v := .bool true) (d := 70) (by kernel_rfl) (by kernel_rfl) (by kernel_rfl) ?_
                refine bigDo (j := 67) (v := .bool true) (d := 71) (by kernel_rfl) (by kernel_rfl) (by kernel_rfl) ?_
                refine bigOff (j := 68) 4 (by kernel_rfl) ?_
                refine bigDo (j := 72) (v := .bool true) (d := 76) (by kernel_rfl) (by kernel_rfl) (by kernel_rfl) ?_
                refine bigEnd (j := 73) (by kernel_rfl) (a' := ⟨#[.agg #[.int .i64 x0, .slice A1 x1.length c1, .int .i64 x2, .int .i64 x3, .slice A4 x4.length c4], .pointer (some ⟨gx, 0, none⟩), .bool false, undef, .pointer (some ⟨gx, 0, none⟩), .int .i64 (x0), .bool false, .bool false, .pointer (some ⟨gx, 0, none⟩), .int .i64 (x0), .bool false, .bool false, .bool false, .pointer (some ⟨gx, 0, none⟩), .int .i64 (x0), .bool false, .bool false, undef, undef, undef, undef, undef, undef, undef, undef, undef, undef, undef, undef, undef, undef, undef, undef, undef, undef, undef, undef, undef, undef, undef, undef, undef, undef, undef, undef, undef, undef, undef, undef, undef, undef, undef, undef, .bool false, .bool false, .bool false, .pointer (some ⟨gx, 0, none⟩), .int .i64 (x0), .bool false, .bool false, .pointer (some ⟨gx, 0, none⟩), .int .i64 (x0), .bool true, .bool true, .bool true, .pointer (some ⟨gx, 4, none⟩), .slice A4 x4.length c4, .int .i64 ((x4.length : Int)), .bool true, .bool true, .bool true, .bool true, undef, undef, undef, undef, .bool true, undef, undef, undef, undef, undef, undef, undef, undef, undef, undef, undef, undef, undef, undef], []⟩) (by kernel_rfl) ?_
                obtain rfl : true = bad := by rw [← HBAD.out]; simp only [badP]; simp; omega
                clear HBAD HH h2 c2 h6 c6 h11 c11 h54 c54 h58 c58 h64 c64
                go_wp2
                go_meet
                case rel => exact ⟨rfl, rfl⟩
              · have c64 : decide ((x4.length : Int) < 2) = false := decide_eq_false (by omega)
                refine bigTest (j := 64) (b := decide ((x4.length : Int) < 2)) (r := false) (d := 68) (by kernel_rfl) (by kernel_rfl) c64 (by kernel_rfl) ?_
                refine bigDo (j := 65) (v := .bool false) (d := 69) (by kernel_rfl) (by kernel_rfl) (by kernel_rfl) ?_
                refine bigDo (j := 66) (v := .bool false) (d := 70) (by kernel_rfl) (by kernel_rfl) (by kernel_rfl) ?_
                refine bigDo (j := 67) (v := .bool false) (d := 71) (by kernel_rfl) (by kernel_rfl) (by kernel_rfl) ?_
                refine bigDo (j := 68) (v := .pointer (some ⟨gx, 1, none⟩)) (d := 72) (by kernel_rfl) (by kernel_rfl) (by kernel_rfl) ?_
                refine bigLoad (j := 69) (t := 22) (p := ⟨gx, 1, none⟩) (v := .slice A1 x1.length c1) (d := 73) (by kernel_rfl) (by kernel_rfl) L1 (by kernel_rfl) ?_
                refine bigDo (j := 70) (v := .int .i64 ((x1.length : Int))) (d := 74) (by kernel_rfl) (by kernel_rfl) (by kernel_rfl) ?_
                by_cases h71 : 60 < (x1.length : Int)
                · have c71 : decide (60 < (x1.length : Int)) = true := decide_eq_true (by omega)
                  refine bigTest (j := 71) (b := decide (60 < (x1.length : Int))) (r := true) (d := 75) (by kernel_rfl) (by kernel_rfl) c71 (by kernel_rfl) ?_
                  refine bigDo (j := 72) (v := .bool true) (d := 76) (by kernel_rfl) (by kernel_rfl) (by kernel_rfl) ?_
                  refine bigEnd (j := 73) (by kernel_rfl) (a' := ⟨#[.agg #[.int .i64 x0, .slice A1 x1.length c1, .int .i64 x2, .int .i64 x3, .slice A4 x4.length c4], .pointer (some ⟨gx, 0, none⟩), .bool false, undef, .pointer (some ⟨gx, 0, none⟩), .int .i64 (x0), .bool false, .bool false, .pointer (some ⟨gx, 0, none⟩), .int .i64 (x0), .bool false, .bool false, .bool false, .pointer (some ⟨gx, 0, none⟩), .int .i64 (x0), .bool false, .bool false, undef, undef, undef, undef, undef, undef, undef, undef, undef, undef, undef, undef, undef, undef, undef, undef, undef, undef, undef, undef, undef, undef, undef, undef, undef, undef, undef, undef, undef, undef, undef, undef, undef, undef, undef, undef, .bool false, .bool false, .bool false, .pointer (some ⟨gx, 0, none⟩), .int .i64 (x0), .bool false, .bool false, .pointer (some ⟨gx, 0, none⟩), .int .i64 (x0), .bool true, .bool true, .bool true, .pointer (some ⟨gx, 4, none⟩), .slice A4 x4.length c4, .int .i64 ((x4.length : Int)), .bool false, .bool false, .bool false, .bool false, .pointer (some ⟨gx, 1, none⟩), .slice A1 x1.length c1, .int .i64 ((x1.length : Int)), .bool true, .bool true, undef, undef, undef, undef, undef, undef, undef, undef, undef, undef, undef, undef, undef, undef], []⟩) (by kernel_rfl) ?_
                  obtain rfl : true = bad := by rw [← HBAD.out]; simp only [badP]; simp; omega
                  clear HBAD HH h2 c2 h6 c6 h11 c11 h54 c54 h58 c58 h64 c64 h71 c71
                  go_wp2
                  go_meet
                  case rel => exact ⟨rfl, rfl⟩
                · have c71 : decide (60 < (x1.length : Int)) = false := decide_eq_false (by omega)
                  refine bigTest (j := 71) (b := decide (60 < (x1.length : Int))) (r := false) (d := 75) (by kernel_rfl) (by kernel_rfl) c71 (by kernel_rfl) ?_
                  refine bigDo (j := 72) (v := .bool false) (d := 76) (by kernel_rfl) (by kernel_rfl) (by kernel_rfl) ?_
                  refine bigEnd (j := 73) (by kernel_rfl) (a' := ⟨#[.agg #[.int .i64 x0, .slice A1 x1.length c1, .int .i64 x2, .int .i64 x3, .slice A4 x4.length c4], .pointer (some ⟨gx, 0, none⟩), .bool false, undef, .pointer (some ⟨gx, 0, none⟩), .int .i64 (x0), .bool false, .bool false, .pointer (some ⟨gx, 0, none⟩), .int .i64 (x0), .bool false, .bool false, .bool false, .pointer (some ⟨gx, 0, none⟩), .int .i64 (x0), .bool false, .bool false, undef, undef, undef, undef, undef, undef, undef, undef, undef, undef, undef, undef, undef, undef, undef, undef, undef, undef, undef, undef, undef, undef, undef, undef, undef, undef, undef, undef, undef, undef, undef, undef, undef, undef, undef, undef, .bool false, .bool false, .bool false, .pointer (some ⟨gx, 0, none⟩), .int .i64 (x0), .bool false, .bool false, .pointer (some ⟨gx, 0, none⟩), .int .i64 (x0), .bool true, .bool true, .bool true, .pointer (some ⟨gx, 4, none⟩), .slice A4 x4.length c4, .int .i64 ((x4.length : Int)), .bool false, .bool false, .bool false, .bool false, .pointer (some ⟨gx, 1, none⟩), .slice A1 x1.length c1, .int .i64 ((x1.length : Int)), .bool false, .bool false, undef, undef, undef, undef, undef, undef, undef, undef, undef, undef, undef, undef, undef, undef], []⟩) (by kernel_rfl) ?_
                  obtain rfl : false = bad := by rw [← HBAD.out]; simp only [badP]; simp; omega
                  clear HBAD HH h2 c2 h6 c6 h11 c11 h54 c54 h58 c58 h64 c64 h71 c71
                  go_wp2
                  go_meet
                  case rel => exact ⟨rfl, rfl⟩
            · have c58 : (x0 == 4) = false := beq_eq_false_iff_ne.mpr (by omega)
              refine bigTest (j := 58) (b := (x0 == 4)) (r := false) (d := 62) (by kernel_rfl) (by kernel_rfl) c58 (by kernel_rfl) ?_
              refine bigDo (j := 59) (v := .bool false) (d := 63) (by kernel_rfl) (by kernel_rfl) (by kernel_rfl) ?_
              refine bigDo (j := 60) (v := .bool false) (d := 64) (by kernel_rfl) (by kernel_rfl) (by kernel_rfl) ?_
              refine bigOff (j := 61) 4 (by kernel_rfl) ?_
              refine bigDo (j := 65) (v := .bool false) (d := 69) (by kernel_rfl) (by kernel_rfl) (by kernel_rfl) ?_
              refine bigDo (j := 66) (v := .bool false) (d := 70) (by kernel_rfl) (by kernel_rfl) (by kernel_rfl) ?_
              refine bigDo (j := 67) (v := .bool false) (d := 71) (by kernel_rfl) (by kernel_rfl) (by kernel_rfl) ?_
              refine bigDo (j := 68) (v := .pointer (some ⟨gx, 1, none⟩)) (d := 72) (by kernel_rfl) (by kernel_rfl) (by kernel_rfl) ?_
              refine bigLoad (j := 69) (t := 22) (p := ⟨gx, 1, none⟩) (v := .slice A1 x1.length c1) (d := 73) (by kernel_rfl) (by kernel_rfl) L1 (by kernel_rfl) ?_
              refine bigDo (j := 70) (v := .int .i64 ((x1.length : Int))) (d := 74) (by kernel_rfl) (by kernel_rfl) (by kernel_rfl) ?_
              by_cases h71 : 60 < (x1.length : Int)
              · have c71 : decide (60 < (x1.length : Int)) = true := decide_eq_true (by omega)
                refine bigTest (j := 71) (b := decide (60 < (x1.length : Int))) (r := true) (d := 75) (by kernel_rfl) (by kernel_rfl) c71 (by kernel_rfl) ?_
                refine bigDo (j := 72) (v := .bool true) (d := 76) (by kernel_rfl) (by kernel_rfl) (by kernel_rfl) ?_
                refine bigEnd (j := 73) (by kernel_rfl) (a' := ⟨#[.agg #[.int .i64 x0, .slice A1 x1.length c1, .int .i64 x2, .int .i64 x3, .slice A4 x4.length c4], .pointer (some ⟨gx, 0, none⟩), .bool false, undef, .pointer (some ⟨gx, 0, none⟩), .int .i64 (x0), .bool false, .bool false, .pointer (some ⟨gx, 0, none⟩), .int .i64 (x0), .bool false, .bool false, .bool false, .pointer (some ⟨gx, 0, none⟩), .int .i64 (x0), .bool false, .bool false, undef, undef, undef, undef, undef, undef, undef, undef, undef, undef, undef, undef, undef, undef, undef, undef, undef, undef, undef, undef, undef, undef, undef, undef, undef, undef, undef, undef, undef, undef, undef, undef, undef, undef, undef, undef, .bool false, .bool false, .bool false, .pointer (some ⟨gx, 0, none⟩), .int .i64 (x0), .bool false, .bool false, .pointer (some ⟨gx, 0, none⟩), .int .i64 (x0), .bool false, .bool false, .bool false, undef, undef, undef, undef, .bool false, .bool false, .bool false, .pointer (some ⟨gx, 1, none⟩), .slice A1 x1.length c1, .int .i64 ((x1.length : Int)), .bool true, .bool true, undef, undef, undef, undef, undef, undef, undef, undef, undef, undef, undef, undef, undef, undef], []⟩) (by kernel_rfl) ?_
                obtain rfl : true = bad := by rw [← HBAD.out]; simp only [badP]; simp; omega
                clear HBAD HH h2 c2 h6 c6 h11 c11 h54 c54 h58 c58 h71 c71
                go_wp2
                go_meet
                case rel => exact ⟨rfl, rfl⟩
              · have c71 : decide (60 < (x1.length : Int)) = false := decide_eq_false (by omega)
                refine bigTest (j := 71) (b := decide (60 < (x1.length : Int))) (r := false) (d := 75) (by kernel_rfl) (by kernel_rfl) c71 (by kernel_rfl) ?_
                refine bigDo (j := 72) (v := .bool false) (d := 76) (by kernel_rfl) (by kernel_rfl) (by kernel_rfl) ?_
                refine bigEnd (j := 73) (by kernel_rfl) (a' := ⟨#[.agg #[.int .i64 x0, .slice A1 x1.length c1, .int .i64 x2, .int .i64 x3, .slice A4 x4.length c4], .pointer (some ⟨gx, 0, none⟩), .bool false, undef, .pointer (some ⟨gx, 0, none⟩), .int .i64 (x0), .bool false, .bool false, .pointer (some ⟨gx, 0, none⟩), .int .i64 (x0), .bool false, .bool false, .bool false, .pointer (some ⟨gx, 0, none⟩), .int .i64 (x0), .bool false, .bool false, undef, undef, undef, undef, undef, undef, undef, undef, undef, undef, undef, undef, undef, undef, undef, undef, undef, undef, undef, undef, undef, undef, undef, undef, undef, undef, undef, undef, undef, undef, undef, undef, undef, undef, undef, undef, .bool false, .bool false, .bool false, .pointer (some ⟨gx, 0, none⟩), .int .i64 (x0), .bool false, .bool false, .pointer (some ⟨gx, 0, none⟩), .int .i64 (x0), .bool false, .bool false, .bool false, undef, undef, undef, undef, .bool false, .bool false, .bool false, .pointer (some ⟨gx, 1, none⟩), .slice A1 x1.length c1, .int .i64 ((x1.length : Int)), .bool false, .bool false, undef, undef, undef, undef, undef, undef, undef, undef, undef, undef, undef, undef, undef, undef], []⟩) (by kernel_rfl) ?_
                obtain rfl : false = bad := by rw [← HBAD.out]; simp only [badP]; simp; omega
                clear HBAD HH h2 c2 h6 c6 h11 c11 h54 c54 h58 c58 h71 c71
                go_wp2
                go_meet
                case rel => exact ⟨rfl, rfl⟩
  case rest =>
    obtain ⟨rfl, rfl⟩ := hcut
    have hbx := HJ.out.2
    have HBX := Aside0.mk hbx
    have HB2 := Aside0.mk HJ.out.1
    clear hbx HBAD HJ
    cases bad with
    | true =>
      have hh := HH.out
      rw [if_pos rfl, Option.some.injEq] at hh
      subst hh
      clear HH
      go_wp2
      go_ret
      exact ⟨rfl, HB2.out⟩
    | false =>
      have hh := HH.out
      rw [if_neg (by decide)] at hh
      have HA := Aside0.mk hh
      clear HH hh
      go_wp2
      go_loopw [3] (fun s3 wx => ∃ (i : Nat), s3 = .int .i64 (i : Int) ∧ i ≤ x4.length ∧ Aside0 (allP (parsedS n) (x4.drop i) = some r) ∧ Aside0 (wx.heap[gx]? = some (.cells #[.int .i64 x0, .slice A1 x1.length c1, .int .i64 x2, .int .i64 x3, .slice A4 x4.length c4] 25 (0, 0))) ∧ Aside0 (Below w.heap.size w wx)) (fun s3 _ => x4.length - (intOf s3).toNat)
      case atStart => exact ⟨0, rfl, by omega, by simpa using HA, HBX, HB2⟩
      case round =>
        clear HA HBX HB2
        obtain ⟨i, rfl, hi, HA, HBX, HB2⟩ := hrel
        have y4 : wr.cell? ⟨gx, 4, none⟩ = some (.slice A4 x4.length c4) := blk_cell HBX.out 4
        by_cases hlt : i < x4.length
        · obtain ⟨ad, B1, d1, B4, d4, e, h0, h1, h2, h3, h4, q1, q2, q3, q4⟩ := at_T25 (Kd.C_below HQ.out HB2.out) (i : Int) (by omega) (by omega)
          cases e
          rw [Int.toNat_natCast] at h0 h1 h2 h3 h4
          have hx : rd_T25 x4 (i : Int) = x4.getD i z25 := rfl
          have hh := HA.out
          rw [sn_drop z25 x4 i hlt] at hh
          rw [hx] at h0 h1 h2 h3 h4 q1 q2 q3 q4
          obtain ⟨x, hxx⟩ : ∃ x, x4.getD i z25 = x := ⟨_, rfl⟩
          rw [hxx] at h0 h1 h2 h3 h4 q1 q2 q3 q4 hh
          have hNA : NodeAt wr x _ := ⟨B1, d1, B4, d4, rfl, q1, q2, q3, q4⟩
          simp only [allP] at hh
          obtain ⟨v, hv, hh2⟩ := Option.bind_eq_some_iff.mp hh
          have hct := HIH.out x _ v wr hNA hv
          have g1 : decide ((i : Int) < (x4.length : Int)) = true := decide_eq_true (by omega)
          have g2 : ((0 : Int) ≤ (i : Int)) = True := eq_true (by omega)
          have g3 : ((i : Int) < (x4.length : Int)) = True := eq_true (by omega)
          have hnw : i < 9223372036854775807 := by have := Kd.C_max HQ.out; omega
          have HH2 := Aside0.mk hh2
          have HLT := Aside0.mk (And.intro hlt hnw)
          clear hx hxx q1 q2 q3 q4 hNA hh hh2 hv HA hnw
          obtain ⟨y0, y1, y2, y3, y5⟩ := x
          dsimp only at h0 h1 h2 h3 h4 hct
          have HCT := Aside0.mk hct
          clear hct
          cases v with
          | false =>
            have hh := HH2.out
            rw [if_neg (by decide), Option.some.injEq] at hh
            subst hh
            clear HH2
            go_wp2_with (go_at_call 19; (with_reducible refine HCT.out.mono ?_); rintro e w3 ⟨rfl, hb⟩; have HB3 := Aside0.mk hb; clear hb)
            go_ret
            exact ⟨rfl, below_step HB2.out HB3.out⟩
          | true =>
            have hh := HH2.out
            rw [if_pos rfl] at hh
            have HH3 := Aside0.mk hh
            clear HH2 hh
            go_wp2_with (go_at_call 19; (with_reducible refine HCT.out.mono ?_); rintro e w3 ⟨rfl, hb⟩; have HB3 := Aside0.mk hb; clear hb)
            have hw := sn_wrap i HLT.out.2
            refine ⟨⟨i + 1, by rw [hw], HLT.out.1, HH3, ⟨blk_below HBX.out HB3.out⟩, ⟨below_step HB2.out HB3.out⟩⟩, ?_⟩
            rw [hw]
            clear hw
            show List.length _ - (((i + 1 : Nat) : Int)).toNat < List.length _ - ((i : Int)).toNat
            simp only [Int.toNat_natCast]
            exact Nat.sub_lt_sub_left HLT.out.1 (Nat.lt_succ_self i)
        · obtain rfl : i = x4.length := by omega
          have hh := HA.out
          rw [List.drop_length] at hh
          simp only [allP, Option.some.injEq] at hh
          subst hh
          have g1 : decide ((x4.length : Int) < (x4.length : Int)) = false := decide_eq_false (by omega)
          clear HA
          go_wp2
          go_ret
          exact ⟨rfl, HB2.out⟩
theorem parsed_calls : ∀ n, ParsedN n
  | 0 => fun x v r w _ h => by simp [parsedS] at h
  | n + 1 => by
    rintro ⟨x0, x1, x2, x3, x4⟩ v r w ⟨A1, c1, A4, c4, rfl, l1, g1, l4, g4⟩ h
    exact parsed_step n (parsed_calls n) x0 A1 c1 x1 x2 x3 A4 c4 x4 w r g4 h
def ductusref18_Parsed.f (k : Nat) (a0_0 : Int) (l0_1 : List (S52)) (a0_2 : Int) (a0_3 : Int) (l0_4 : List (S25)) : Option Bool := parsedS k ⟨a0_0, l0_1, a0_2, a0_3, l0_4⟩
theorem ductusref18_Parsed.calls (k : Nat) (a0_0 : Int) (A0_1 : Option Addr) (c0_1 : Nat) (l0_1 : List (S52)) (a0_2 : Int) (a0_3 : Int) (A0_4 : Option Addr) (c0_4 : Nat) (l0_4 : List (S25)) (r : Bool) (w : World) (hr0_1 : Kd.C k52 w A0_1 l0_1.length l0_1) (hc0_1 : l0_1.length ≤ c0_1) (hr0_4 : Kd.C k25 w A0_4 l0_4.length l0_4) (hc0_4 : l0_4.length ≤ c0_4) (h : ductusref18_Parsed.f k a0_0 l0_1 a0_2 a0_3 l0_4 = some r) :
    Calls Try.prog 19 #[.agg #[.int .i64 a0_0, .slice A0_1 l0_1.length c0_1, .int .i64 a0_2, .int .i64 a0_3, .slice A0_4 l0_4.length c0_4]] w fun e w' => e = .returned (.bool r) ∧ Below w.heap.size w w' :=
  parsed_calls k ⟨a0_0, l0_1, a0_2, a0_3, l0_4⟩ _ r w ⟨A0_1, c0_1, A0_4, c0_4, rfl, hc0_1, hr0_1, hc0_4, hr0_4⟩ h
end Go.Proofs.Ytaphbechnjmlgaa.P
