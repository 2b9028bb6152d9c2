/- Proved: a call of the Go function class.reaches hands back the table that class_reaches.tbl lists, in new memory; no condition. -/
import Derived.Test.YtnbhncmggfjgdaaDoorPx0
namespace Go.Proofs.YtnbhncmggfjgdaaDoor.P
open Go.RowKit Go.Proofs.YtnbhncmggfjgdaaDoorW.PrintWords Go.Proofs.YtnbhncmggfjgdaaDoorW.PrintLast
set_option linter.unusedVariables false

/-- What plain operations, one behind the other, come to. -/
def runAll (P : Program) : List Oper → Act → World → Option (Act × World)
  | [], a, w => some (a, w)
  | o :: l, a, w => match o.guard with
    | some _ => none
    | none => match (execOp a.eval o).run P w with
      | .ok (.value v) w' => runAll P l (a.put o.dst v) w'
      | _ => none
theorem wpList_runAll {P : Program} {ops : Array Oper} {Q : Exit → Act → World → Prop} : ∀ (l : List Oper) (a : Act) (w : World) (a' : Act) (w' : World), runAll P l a w = some (a', w') → Q .normal a' w' → wpList P ops Q l a w
  | [], a, w, a', w', h, hQ => by
    simp only [runAll, Option.some.injEq, Prod.mk.injEq] at h
    obtain ⟨rfl, rfl⟩ := h
    exact wpList_nil hQ
  | o :: l, a, w, a', w', h, hQ => by
    unfold runAll at h
    cases hg : o.guard with
    | some g =>
      rw [hg] at h
      cases h
    | none =>
      rw [hg] at h
      cases hr : (execOp a.eval o).run P w with
      | ok x w1 =>
        cases x with
        | value v =>
          rw [hr] at h
          exact Kd.event_run hg hr (wpList_runAll l _ _ a' w' h hQ)
        | _ =>
          rw [hr] at h
          cases h
      | _ =>
        rw [hr] at h
        cases h

def class_reaches.tbl : List (Int × Int × Int) := [(0, 8, 9), (9, 9, 11), (10, 10, 10), (11, 11, 11), (12, 12, 12), (13, 13, 10), (14, 27, 9), (28, 30, 10), (31, 31, 11), (32, 32, 12), (33, 34, 13), (35, 37, 5), (38, 42, 13), (43, 43, 4), (44, 44, 7), (45, 45, 4), (46, 47, 7), (48, 57, 3), (58, 58, 7), (59, 64, 13), (91, 96, 13), (123, 126, 13), (127, 132, 9), (133, 133, 10), (134, 159, 9), (160, 160, 7), (161, 161, 13), (162, 165, 5), (166, 169, 13), (171, 172, 13), (173, 173, 9), (174, 175, 13), (176, 177, 5), (178, 179, 3), (180, 180, 13), (182, 184, 13), (185, 185, 3), (187, 191, 13), (215, 215, 13), (247, 247, 13), (768, 879, 8), (1425, 1469, 8), (1470, 1470, 1), (1471, 1471, 8), (1472, 1472, 1), (1473, 1474, 8), (1488, 1524, 1), (1536, 1541, 6), (1542, 1543, 13), (1544, 1544, 2), (1545, 1546, 5), (1547, 1547, 2), (1548, 1548, 7), (1549, 1549, 2), (1552, 1562, 8), (1563, 1610, 2), (1611, 1631, 8), (1632, 1641, 6), (1642, 1642, 5), (1643, 1644, 6), (1645, 1647, 2), (1648, 1648, 8), (1649, 1749, 2), (8203, 8205, 9), (8207, 8207, 1), (8208, 8231, 13), (8232, 8232, 12), (8233, 8233, 10), (8234, 8234, 14), (8235, 8235, 16), (8236, 8236, 18), (8237, 8237, 15), (8238, 8238, 17), (8239, 8239, 7), (8240, 8244, 5), (8245, 8259, 13), (8294, 8294, 19), (8295, 8295, 20), (8296, 8296, 21), (8297, 8297, 22), (8304, 8304, 3), (8308, 8313, 3), (8352, 8384, 5), (8592, 8721, 13), (8722, 8722, 4), (8723, 8723, 5), (8724, 9013, 13), (12296, 12305, 13), (65279, 65279, 9), (128512, 128591, 13)]
def class_reaches.row (x : Int × Int × Int) : S43 := ⟨x.1, x.2.1, x.2.2⟩
def class_reaches.f : Option (List S43) := some (class_reaches.tbl.map class_reaches.row)
def class_reaches.cells : List (Int × Int × Int) → List Value
  | [] => []
  | x :: l => .int .i64 x.1 :: .int .i64 x.2.1 :: .int .i64 x.2.2 :: class_reaches.cells l
theorem class_reaches.reps (w : World) (base : Nat) (ok : Nat → Prop) : ∀ l : List (Int × Int × Int), Reps (k43.M w base ok) 3 (l.map class_reaches.row) (class_reaches.cells l)
  | [] => Reps.none _ _
  | x :: l => Reps.c3 (k43_mkM w base ok (class_reaches.row x)) (class_reaches.reps w base ok l)
theorem straight {P : Program} {i0 i1 : Nat} {o0 o1 : Array Oper} {Q : Exit → Act → World → Prop} {a : Act} {w : World} (t : Tmp) (v : Value) (w' : World)
    (h : ((runAll P o0.toList a w).bind fun x => runAll P o1.toList x.1 x.2).map (fun x => (x.1.tmps.getD t undef, x.1.defers, x.2)) = some (v, [], w'))
    (hQ : ∀ a', a'.tmps.getD t undef = v → a'.defers = [] → Q .ret a' w') :
    ((Code.region i0 o0 false).seq ((Code.region i1 o1 false).seq Code.ret)).wp P Q a w := by
  obtain ⟨⟨a2, w2⟩, h, he⟩ := Option.map_eq_some_iff.1 h
  obtain ⟨⟨a1, w1⟩, h0, h1⟩ := Option.bind_eq_some_iff.1 h
  simp only [Prod.mk.injEq] at he
  obtain ⟨hv, hd, rfl⟩ := he
  refine wp_seq (wp_region_list (wpList_runAll _ _ _ _ _ h0 ?_))
  show ((Code.region i1 o1 false).seq Code.ret).wp P Q a1 w1
  refine wp_seq (wp_region_list (wpList_runAll _ _ _ _ _ h1 ?_))
  show Code.ret.wp P Q a2 w2
  exact wp_ret (hQ a2 hv hd)
theorem class_reaches.calls (r : List S43) (w : World) (h : class_reaches.f = some r) :
    Calls Tryd.prog 26 #[] w fun e w' => ∃ v0_ : Value, e = .returned (v0_) ∧ Kd.R k43 43 w' w.heap.size (fun _ => True) v0_ r ∧ Below w.heap.size w w' := by
  obtain rfl := Option.some.inj h
  go_enter Tryd.func26, Tryd.ntmps26
  refine straight 0 (.slice (some ⟨w.heap.size, 0, none⟩) 90 90) (w.alloc (.cells (class_reaches.cells class_reaches.tbl).toArray 43)) (by kernel_rfl) fun a' hv hd => ?_
  refine bodyPost_ret (v := .slice (some ⟨w.heap.size, 0, none⟩) 90 90) ((results_tmp rfl _ _ _).trans (by rw [hv])) hd ⟨_, rfl, ?_, below_alloc (Below.refl _ _) _⟩
  refine ⟨fun _ _ => trivial, class_reaches.cells class_reaches.tbl, ?_, ?_⟩
  · have h2 := World.ownsRow_lit (base := w.heap.size) (e := 43) (size := 3) w (class_reaches.cells class_reaches.tbl).toArray 90 (Nat.le_refl _) (by simp [maxLen]) (by decide +kernel)
    have e : (class_reaches.tbl.map class_reaches.row).length = 90 := by decide +kernel
    rw [e]
    exact h2
  · exact class_reaches.reps _ _ _ _
end Go.Proofs.YtnbhncmggfjgdaaDoor.P
