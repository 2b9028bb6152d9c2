/- Texts of this claim put together by a program of its own (SJoins, PLib, PEv, PTree, PLay, PLayC, PLet, Px12, PSameI, POpenN, PComp, PureNfaMay), what the law does not use left out: each part's statements bear their own conditions. -/
import Derived.Test.YtbbplchdgedhcaaC11
import Derived.Test.YtbbplchdgedhcaaC12
import Derived.Test.YtbbplchdgedhcaaC13
import Derived.Test.YtbbplchdgedhcaaC10
import Derived.OpenShut
import Derived.Deep.Slices
import Derived.ChangeSlices
import Derived.SizedLaws
namespace Go.Proofs.Ytbbplchdgedhcaa.P
open Go.RowKit Go.Proofs.YtbbplchdgedhcaaW.PrintWords Go.Proofs.YtbbplchdgedhcaaW.PrintLast
set_option linter.unusedVariables false
set_option linter.unusedSimpArgs false

/-- How it stands: the two trees in blocks of their own. -/
structure JI (w W : World) (gx gy : Nat) (cx cy : Array Value) : Prop where
  below : Below w.heap.size w W
  bx : W.heap[gx]? = some (.cells cx 25 (0, 0))
  ry : W.heap[gy]? = some (.cells cy 25 (0, 0))
theorem JI.more {w W W2 : World} {gx gy : Nat} {cx cy : Array Value} (h : JI w W gx gy cx cy) (hb : Below W.heap.size W W2) : JI w W2 gx gy cx cy :=
  ⟨below_step h.below hb, blk_below h.bx hb, blk_below h.ry hb⟩
/-- The element that stands at a place of the two programs laid one behind the other. -/
def finI (e : Inst) (d : Int) : Inst := ⟨e.f0, e.f1, if e.f0 = 2 ∨ e.f0 = 3 then wrap64 (e.f2 + d) else e.f2, if e.f0 = 2 then wrap64 (e.f3 + d) else e.f3⟩
def joinI (p q : List Inst) (i : Nat) : Inst := if i + 1 < p.length then finI (rd_T39 p (i : Int)) 0 else finI (rd_T39 q ((i - (p.length - 1) : Nat) : Int)) ((p.length : Int) - 1)
/-- What the parts of the law answer. -/
structure JoinsOk (k : Nat) (x y : Node) (wa wb sa sb : Int) (p q b : List Inst) (e f g : Int) : Prop where
  hwa : ductusref16_Weight.f k x.f0 x.f1 x.f2 x.f3 x.f4 0 = some wa
  hwb : ductusref16_Weight.f k y.f0 y.f1 y.f2 y.f3 y.f4 0 = some wb
  hsa : ductusref16_Size.f k x.f0 x.f1 x.f2 x.f3 x.f4 = some sa
  hsb : ductusref16_Size.f k y.f0 y.f1 y.f2 y.f3 y.f4 = some sb
  small : wa ≤ 500 → wb ≤ 500 → sa ≤ 1000 → sb ≤ 1000 → nfa_Compile.f k x.f0 x.f1 x.f2 x.f3 x.f4 = some (p, e) ∧ nfa_Compile.f k y.f0 y.f1 y.f2 y.f3 y.f4 = some (q, f) ∧ nfa_Compile.f k 3 [] 0 0 [x, y] = some (b, g) ∧
    (e ≠ 0 ∨ f ≠ 0 → g ≠ 0) ∧ (e = 0 → f = 0 → g = 0 → p.length ≤ 1000 ∧ q.length ≤ 1000 ∧ 1 ≤ p.length ∧ 1 ≤ q.length ∧ b.length + 1 = p.length + q.length ∧ ∀ i, i < b.length → ductusref19_Same.f k [joinI p q i] [rd_T39 b (i : Int)] = some true)
set_option maxHeartbeats 8000000 in
set_option maxRecDepth 100000 in
theorem joins_calls (k : Nat) (x0 : Int) (A1 : Option Addr) (c1 : Nat) (x1 : List S42) (x2 x3 : Int) (A4 : Option Addr) (c4 : Nat) (x4 : List Node) (y0 : Int) (B1 : Option Addr) (d1 : Nat) (y1 : List S42) (y2 y3 : Int) (B4 : Option Addr) (d4 : Nat) (y4 : List Node) (w : World)
    (hx1 : Kd.C k42 w A1 x1.length x1) (hc1 : x1.length ≤ c1) (hx4 : Kd.C k25 w A4 x4.length x4) (hc4 : x4.length ≤ c4) (hy1 : Kd.C k42 w B1 y1.length y1) (hd1 : y1.length ≤ d1) (hy4 : Kd.C k25 w B4 y4.length y4) (hd4 : y4.length ≤ d4)
    (wa wb sa sb : Int) (p q b : List Inst) (e f g : Int) (h : JoinsOk k ⟨x0, x1, x2, x3, x4⟩ ⟨y0, y1, y2, y3, y4⟩ wa wb sa sb p q b e f g) :
    Calls Try.prog 6 #[.agg #[.int .i64 x0, .slice A1 x1.length c1, .int .i64 x2, .int .i64 x3, .slice A4 x4.length c4], .agg #[.int .i64 y0, .slice B1 y1.length d1, .int .i64 y2, .int .i64 y3, .slice B4 y4.length d4]] w fun e w' => e = .returned (.bool true) ∧ Below w.heap.size w w' := by
  have hu := Try.underlying25
  have hui := Try.underlying39
  have HX1 := Aside0.mk hx1
  have HX4 := Aside0.mk hx4
  have HY1 := Aside0.mk hy1
  have HY4 := Aside0.mk hy4
  have HLN := Aside0.mk (show x1.length ≤ c1 ∧ x4.length ≤ c4 ∧ y1.length ≤ d1 ∧ y4.length ≤ d4 from ⟨hc1, hc4, hd1, hd4⟩)
  clear hx1 hx4 hy1 hy4 hc1 hc4 hd1 hd4
  have HOK := Aside0.mk h
  clear h
  have HB := Aside0.mk (Below.refl w.heap.size w)
  go_enter Try.func6, Try.ntmps6
  go_upto_region 3 with (first
    | ((with_reducible refine gate_dst (N := 2) rfl ?_); (try (refine gate_guard (by rfl) ?_; dsimp only)); refine box_event ?hg (N := 2) ?hd (cs := #[.int .i64 x0, .slice A1 x1.length c1, .int .i64 x2, .int .i64 x3, .slice A4 x4.length c4]) (t := 25) ?hr ?_; (case hd => rfl); (case hg => rfl); (case hr => first | (go_simp; done) | (go_simp; rfl)); intro gx hg w1 hbox hb; have HB1 := Aside0.mk (below_step HB.out hb); have HBX := Aside0.mk hbox; clear hb hbox hg)
    | ((with_reducible refine gate_dst (N := 3) rfl ?_); (try (refine gate_guard (by rfl) ?_; dsimp only)); refine box_event ?hg (N := 3) ?hd (cs := #[.int .i64 y0, .slice B1 y1.length d1, .int .i64 y2, .int .i64 y3, .slice B4 y4.length d4]) (t := 25) ?hr ?_; (case hd => rfl); (case hg => rfl); (case hr => first | (go_simp; done) | (go_simp; rfl)); intro gy hg w2 hbox hb; have HJ2 := Aside0.mk (show JI w w2 gx gy #[.int .i64 x0, .slice A1 x1.length c1, .int .i64 x2, .int .i64 x3, .slice A4 x4.length c4] #[.int .i64 y0, .slice B1 y1.length d1, .int .i64 y2, .int .i64 y3, .slice B4 y4.length d4] from ⟨below_step HB1.out hb, blk_below HBX.out hb, hbox⟩); clear hb hbox hg)
    | (go_at_call 7; (with_reducible refine (ductuslaw19_alive.calls true _ rfl).mono ?_); rintro e w3 ⟨rfl, hb⟩; have HJ := Aside0.mk (HJ2.out.more hb); clear hb HJ2 HB1 HBX))
  (try simp only [Act.put, List.setIfInBounds_toArray, List.set_cons_zero, List.set_cons_succ])
  go_cut [33] (fun v33 wc => ∃ sm : Bool, v33 = .bool sm ∧ Aside0 (sm = false → wa ≤ 500 ∧ wb ≤ 500 ∧ sa ≤ 1000 ∧ sb ≤ 1000) ∧ Aside0 (JI w wc gx gy #[.int .i64 x0, .slice A1 x1.length c1, .int .i64 x2, .int .i64 x3, .slice A4 x4.length c4] #[.int .i64 y0, .slice B1 y1.length d1, .int .i64 y2, .int .i64 y3, .slice B4 y4.length d4]))
  case first =>
    have qbx0 := blk_cell HJ.out.bx 0
    have qbx1 := blk_cell HJ.out.bx 1
    have qbx2 := blk_cell HJ.out.bx 2
    have qbx3 := blk_cell HJ.out.bx 3
    have qbx4 := blk_cell HJ.out.bx 4
    have qry0 := blk_cell HJ.out.ry 0
    have qry1 := blk_cell HJ.out.ry 1
    have qry2 := blk_cell HJ.out.ry 2
    have qry3 := blk_cell HJ.out.ry 3
    have qry4 := blk_cell HJ.out.ry 4
    by_cases k0 : wa > 500
    · have e0 : decide (500 < wa) = true := decide_eq_true k0
      go_wp2_with (first
        | (go_at_call 8; (with_reducible refine (ductusref16_Weight.calls k x0 _ _ x1 x2 x3 _ _ x4 0 _ _ (Kd.C_below HX1.out HJ.out.below) HLN.out.1 (Kd.C_below HX4.out HJ.out.below) HLN.out.2.1 HOK.out.hwa).mono ?_); rintro e w4 ⟨rfl, hb⟩; have HJ4 := Aside0.mk (HJ.out.more hb); clear hb; have HJ4x0 := blk_cell HJ4.out.bx 0; have HJ4x1 := blk_cell HJ4.out.bx 1; have HJ4x2 := blk_cell HJ4.out.bx 2; have HJ4x3 := blk_cell HJ4.out.bx 3; have HJ4x4 := blk_cell HJ4.out.bx 4; have HJ4y0 := blk_cell HJ4.out.ry 0; have HJ4y1 := blk_cell HJ4.out.ry 1; have HJ4y2 := blk_cell HJ4.out.ry 2; have HJ4y3 := blk_cell HJ4.out.ry 3; have HJ4y4 := blk_cell HJ4.out.ry 4))
      go_meet
      case rel => exact ⟨true, (by first | rfl | (simp [*]; done)), ⟨fun h => by cases h⟩, HJ4⟩
    have e0 : decide (500 < wa) = false := decide_eq_false k0
    by_cases k1 : wb > 500
    · have e1 : decide (500 < wb) = true := decide_eq_true k1
      go_wp2_with (first
        | (go_at_call 8; (with_reducible refine (ductusref16_Weight.calls k x0 _ _ x1 x2 x3 _ _ x4 0 _ _ (Kd.C_below HX1.out HJ.out.below) HLN.out.1 (Kd.C_below HX4.out HJ.out.below) HLN.out.2.1 HOK.out.hwa).mono ?_); rintro e w4 ⟨rfl, hb⟩; have HJ4 := Aside0.mk (HJ.out.more hb); clear hb; have HJ4x0 := blk_cell HJ4.out.bx 0; have HJ4x1 := blk_cell HJ4.out.bx 1; have HJ4x2 := blk_cell HJ4.out.bx 2; have HJ4x3 := blk_cell HJ4.out.bx 3; have HJ4x4 := blk_cell HJ4.out.bx 4; have HJ4y0 := blk_cell HJ4.out.ry 0; have HJ4y1 := blk_cell HJ4.out.ry 1; have HJ4y2 := blk_cell HJ4.out.ry 2; have HJ4y3 := blk_cell HJ4.out.ry 3; have HJ4y4 := blk_cell HJ4.out.ry 4)
        | (go_at_call 8; (with_reducible refine (ductusref16_Weight.calls k y0 _ _ y1 y2 y3 _ _ y4 0 _ _ (Kd.C_below HY1.out HJ4.out.below) HLN.out.2.2.1 (Kd.C_below HY4.out HJ4.out.below) HLN.out.2.2.2 HOK.out.hwb).mono ?_); rintro e w5 ⟨rfl, hb⟩; have HJ5 := Aside0.mk (HJ4.out.more hb); clear hb; have HJ5x0 := blk_cell HJ5.out.bx 0; have HJ5x1 := blk_cell HJ5.out.bx 1; have HJ5x2 := blk_cell HJ5.out.bx 2; have HJ5x3 := blk_cell HJ5.out.bx 3; have HJ5x4 := blk_cell HJ5.out.bx 4; have HJ5y0 := blk_cell HJ5.out.ry 0; have HJ5y1 := blk_cell HJ5.out.ry 1; have HJ5y2 := blk_cell HJ5.out.ry 2; have HJ5y3 := blk_cell HJ5.out.ry 3; have HJ5y4 := blk_cell HJ5.out.ry 4))
      go_meet
      case rel => exact ⟨true, (by first | rfl | (simp [*]; done)), ⟨fun h => by cases h⟩, HJ5⟩
    have e1 : decide (500 < wb) = false := decide_eq_false k1
    by_cases k2 : sa > 1000
    · have e2 : decide (1000 < sa) = true := decide_eq_true k2
      go_wp2_with (first
        | (go_at_call 8; (with_reducible refine (ductusref16_Weight.calls k x0 _ _ x1 x2 x3 _ _ x4 0 _ _ (Kd.C_below HX1.out HJ.out.below) HLN.out.1 (Kd.C_below HX4.out HJ.out.below) HLN.out.2.1 HOK.out.hwa).mono ?_); rintro e w4 ⟨rfl, hb⟩; have HJ4 := Aside0.mk (HJ.out.more hb); clear hb; have HJ4x0 := blk_cell HJ4.out.bx 0; have HJ4x1 := blk_cell HJ4.out.bx 1; have HJ4x2 := blk_cell HJ4.out.bx 2; have HJ4x3 := blk_cell HJ4.out.bx 3; have HJ4x4 := blk_cell HJ4.out.bx 4; have HJ4y0 := blk_cell HJ4.out.ry 0; have HJ4y1 := blk_cell HJ4.out.ry 1; have HJ4y2 := blk_cell HJ4.out.ry 2; have HJ4y3 := blk_cell HJ4.out.ry 3; have HJ4y4 := blk_cell HJ4.out.ry 4)
        | (go_at_call 8; (with_reducible refine (ductusref16_Weight.calls k y0 _ _ y1 y2 y3 _ _ y4 0 _ _ (Kd.C_below HY1.out HJ4.out.below) HLN.out.2.2.1 (Kd.C_below HY4.out HJ4.out.below) HLN.out.2.2.2 HOK.out.hwb).mono ?_); rintro e w5 ⟨rfl, hb⟩; have HJ5 := Aside0.mk (HJ4.out.more hb); clear hb; have HJ5x0 := blk_cell HJ5.out.bx 0; have HJ5x1 := blk_cell HJ5.out.bx 1; have HJ5x2 := blk_cell HJ5.out.bx 2; have HJ5x3 := blk_cell HJ5.out.bx 3; have HJ5x4 := blk_cell HJ5.out.bx 4; have HJ5y0 := blk_cell HJ5.out.ry 0; have HJ5y1 := blk_cell HJ5.out.ry 1; have HJ5y2 := blk_cell HJ5.out.ry 2; have HJ5y3 := blk_cell HJ5.out.ry 3; have HJ5y4 := blk_cell HJ5.out.ry 4)
        | (go_at_call 9; (with_reducible refine (ductusref16_Size.calls k x0 _ _ x1 x2 x3 _ _ x4 _ _ (Kd.C_below HX1.out HJ5.out.below) HLN.out.1 (Kd.C_below HX4.out HJ5.out.below) HLN.out.2.1 HOK.out.hsa).mono ?_); rintro e w6 ⟨rfl, hb⟩; have HJ6 := Aside0.mk (HJ5.out.more hb); clear hb; have HJ6x0 := blk_cell HJ6.out.bx 0; have HJ6x1 := blk_cell HJ6.out.bx 1; have HJ6x2 := blk_cell HJ6.out.bx 2; have HJ6x3 := blk_cell HJ6.out.bx 3; have HJ6x4 := blk_cell HJ6.out.bx 4; have HJ6y0 := blk_cell HJ6.out.ry 0; have HJ6y1 := blk_cell HJ6.out.ry 1; have HJ6y2 := blk_cell HJ6.out.ry 2; have HJ6y3 := blk_cell HJ6.out.ry 3; have HJ6y4 := blk_cell HJ6.out.ry 4))
      go_meet
      case rel => exact ⟨true, (by first | rfl | (simp [*]; done)), ⟨fun h => by cases h⟩, HJ6⟩
    have e2 : decide (1000 < sa) = false := decide_eq_false k2
    by_cases k3 : sb > 1000
    · have e3 : decide (1000 < sb) = true := decide_eq_true k3
      go_wp2_with (first
        | (go_at_call 8; (with_reducible refine (ductusref16_Weight.calls k x0 _ _ x1 x2 x3 _ _ x4 0 _ _ (Kd.C_below HX1.out HJ.out.below) HLN.out.1 (Kd.C_below HX4.out HJ.out.below) HLN.out.2.1 HOK.out.hwa).mono ?_); rintro e w4 ⟨rfl, hb⟩; have HJ4 := Aside0.mk (HJ.out.more hb); clear hb; have HJ4x0 := blk_cell HJ4.out.bx 0; have HJ4x1 := blk_cell HJ4.out.bx 1; have HJ4x2 := blk_cell HJ4.out.bx 2; have HJ4x3 := blk_cell HJ4.out.bx 3; have HJ4x4 := blk_cell HJ4.out.bx 4; have HJ4y0 := blk_cell HJ4.out.ry 0; have HJ4y1 := blk_cell HJ4.out.ry 1; have HJ4y2 := blk_cell HJ4.out.ry 2; have HJ4y3 := blk_cell HJ4.out.ry 3; have HJ4y4 := blk_cell HJ4.out.ry 4)
        | (go_at_call 8; (with_reducible refine (ductusref16_Weight.calls k y0 _ _ y1 y2 y3 _ _ y4 0 _ _ (Kd.C_below HY1.out HJ4.out.below) HLN.out.2.2.1 (Kd.C_below HY4.out HJ4.out.below) HLN.out.2.2.2 HOK.out.hwb).mono ?_); rintro e w5 ⟨rfl, hb⟩; have HJ5 := Aside0.mk (HJ4.out.more hb); clear hb; have HJ5x0 := blk_cell HJ5.out.bx 0; have HJ5x1 := blk_cell HJ5.out.bx 1; have HJ5x2 := blk_cell HJ5.out.bx 2; have HJ5x3 := blk_cell HJ5.out.bx 3; have HJ5x4 := blk_cell HJ5.out.bx 4; have HJ5y0 := blk_cell HJ5.out.ry 0; have HJ5y1 := blk_cell HJ5.out.ry 1; have HJ5y2 := blk_cell HJ5.out.ry 2; have HJ5y3 := blk_cell HJ5.out.ry 3; have HJ5y4 := blk_cell HJ5.out.ry 4)
        | (go_at_call 9; (with_reducible refine (ductusref16_Size.calls k x0 _ _ x1 x2 x3 _ _ x4 _ _ (Kd.C_below HX1.out HJ5.out.below) HLN.out.1 (Kd.C_below HX4.out HJ5.out.below) HLN.out.2.1 HOK.out.hsa).mono ?_); rintro e w6 ⟨rfl, hb⟩; have HJ6 := Aside0.mk (HJ5.out.more hb); clear hb; have HJ6x0 := blk_cell HJ6.out.bx 0; have HJ6x1 := blk_cell HJ6.out.bx 1; have HJ6x2 := blk_cell HJ6.out.bx 2; have HJ6x3 := blk_cell HJ6.out.bx 3; have HJ6x4 := blk_cell HJ6.out.bx 4; have HJ6y0 := blk_cell HJ6.out.ry 0; have HJ6y1 := blk_cell HJ6.out.ry 1; have HJ6y2 := blk_cell HJ6.out.ry 2; have HJ6y3 := blk_cell HJ6.out.ry 3; have HJ6y4 := blk_cell HJ6.out.ry 4)
        | (go_at_call 9; (with_reducible refine (ductusref16_Size.calls k y0 _ _ y1 y2 y3 _ _ y4 _ _ (Kd.C_below HY1.out HJ6.out.below) HLN.out.2.2.1 (Kd.C_below HY4.out HJ6.out.below) HLN.out.2.2.2 HOK.out.hsb).mono ?_); rintro e w7 ⟨rfl, hb⟩; have HJ7 := Aside0.mk (HJ6.out.more hb); clear hb; have HJ7x0 := blk_cell HJ7.out.bx 0; have HJ7x1 := blk_cell HJ7.out.bx 1; have HJ7x2 := blk_cell HJ7.out.bx 2; have HJ7x3 := blk_cell HJ7.out.bx 3; have HJ7x4 := blk_cell HJ7.out.bx 4; have HJ7y0 := blk_cell HJ7.out.ry 0; have HJ7y1 := blk_cell HJ7.out.ry 1; have HJ7y2 := blk_cell HJ7.out.ry 2; have HJ7y3 := blk_cell HJ7.out.ry 3; have HJ7y4 := blk_cell HJ7.out.ry 4))
      go_meet
      case rel => exact ⟨true, (by first | rfl | (simp [*]; done)), ⟨fun h => by cases h⟩, HJ7⟩
    have e3 : decide (1000 < sb) = false := decide_eq_false k3
    go_wp2_with (first
        | (go_at_call 8; (with_reducible refine (ductusref16_Weight.calls k x0 _ _ x1 x2 x3 _ _ x4 0 _ _ (Kd.C_below HX1.out HJ.out.below) HLN.out.1 (Kd.C_below HX4.out HJ.out.below) HLN.out.2.1 HOK.out.hwa).mono ?_); rintro e w4 ⟨rfl, hb⟩; have HJ4 := Aside0.mk (HJ.out.more hb); clear hb; have HJ4x0 := blk_cell HJ4.out.bx 0; have HJ4x1 := blk_cell HJ4.out.bx 1; have HJ4x2 := blk_cell HJ4.out.bx 2; have HJ4x3 := blk_cell HJ4.out.bx 3; have HJ4x4 := blk_cell HJ4.out.bx 4; have HJ4y0 := blk_cell HJ4.out.ry 0; have HJ4y1 := blk_cell HJ4.out.ry 1; have HJ4y2 := blk_cell HJ4.out.ry 2; have HJ4y3 := blk_cell HJ4.out.ry 3; have HJ4y4 := blk_cell HJ4.out.ry 4)
        | (go_at_call 8; (with_reducible refine (ductusref16_Weight.calls k y0 _ _ y1 y2 y3 _ _ y4 0 _ _ (Kd.C_below HY1.out HJ4.out.below) HLN.out.2.2.1 (Kd.C_below HY4.out HJ4.out.below) HLN.out.2.2.2 HOK.out.hwb).mono ?_); rintro e w5 ⟨rfl, hb⟩; have HJ5 := Aside0.mk (HJ4.out.more hb); clear hb; have HJ5x0 := blk_cell HJ5.out.bx 0; have HJ5x1 := blk_cell HJ5.out.bx 1; have HJ5x2 := blk_cell HJ5.out.bx 2; have HJ5x3 := blk_cell HJ5.out.bx 3; have HJ5x4 := blk_cell HJ5.out.bx 4; have HJ5y0 := blk_cell HJ5.out.ry 0; have HJ5y1 := blk_cell HJ5.out.ry 1; have HJ5y2 := blk_cell HJ5.out.ry 2; have HJ5y3 := blk_cell HJ5.out.ry 3; have HJ5y4 := blk_cell HJ5.out.ry 4)
        | (go_at_call 9; (with_reducible refine (ductusref16_Size.calls k x0 _ _ x1 x2 x3 _ _ x4 _ _ (Kd.C_below HX1.out HJ5.out.below) HLN.out.1 (Kd.C_below HX4.out HJ5.out.below) HLN.out.2.1 HOK.out.hsa).mono ?_); rintro e w6 ⟨rfl, hb⟩; have HJ6 := Aside0.mk (HJ5.out.more hb); clear hb; have HJ6x0 := blk_cell HJ6.out.bx 0; have HJ6x1 := blk_cell HJ6.out.bx 1; have HJ6x2 := blk_cell HJ6.out.bx 2; have HJ6x3 := blk_cell HJ6.out.bx 3; have HJ6x4 := blk_cell HJ6.out.bx 4; have HJ6y0 := blk_cell HJ6.out.ry 0; have HJ6y1 := blk_cell HJ6.out.ry 1; have HJ6y2 := blk_cell HJ6.out.ry 2; have HJ6y3 := blk_cell HJ6.out.ry 3; have HJ6y4 := blk_cell HJ6.out.ry 4)
        | (go_at_call 9; (with_reducible refine (ductusref16_Size.calls k y0 _ _ y1 y2 y3 _ _ y4 _ _ (Kd.C_below HY1.out HJ6.out.below) HLN.out.2.2.1 (Kd.C_below HY4.out HJ6.out.below) HLN.out.2.2.2 HOK.out.hsb).mono ?_); rintro e w7 ⟨rfl, hb⟩; have HJ7 := Aside0.mk (HJ6.out.more hb); clear hb; have HJ7x0 := blk_cell HJ7.out.bx 0; have HJ7x1 := blk_cell HJ7.out.bx 1; have HJ7x2 := blk_cell HJ7.out.bx 2; have HJ7x3 := blk_cell HJ7.out.bx 3; have HJ7x4 := blk_cell HJ7.out.bx 4; have HJ7y0 := blk_cell HJ7.out.ry 0; have HJ7y1 := blk_cell HJ7.out.ry 1; have HJ7y2 := blk_cell HJ7.out.ry 2; have HJ7y3 := blk_cell HJ7.out.ry 3; have HJ7y4 := blk_cell HJ7.out.ry 4))
    go_meet
    case rel => exact ⟨false, (by first | rfl | (simp [*]; done)), ⟨fun _ => by omega⟩, HJ7⟩
  case rest =>
    clear HJ
    obtain ⟨sm, rfl, HSM, HJ⟩ := hcut
    have qbx0 := blk_cell HJ.out.bx 0
    have qbx1 := blk_cell HJ.out.bx 1
    have qbx2 := blk_cell HJ.out.bx 2
    have qbx3 := blk_cell HJ.out.bx 3
    have qbx4 := blk_cell HJ.out.bx 4
    have qry0 := blk_cell HJ.out.ry 0
    have qry1 := blk_cell HJ.out.ry 1
    have qry2 := blk_cell HJ.out.ry 2
    have qry3 := blk_cell HJ.out.ry 3
    have qry4 := blk_cell HJ.out.ry 4
    cases sm with
    | true =>
      go_wp2
      go_ret
      exact ⟨rfl, HJ.out.below⟩
    | false =>
      obtain ⟨m1, m2, m3, m4⟩ := HSM.out rfl
      obtain ⟨hp, hq, hbb, hg, hall⟩ := HOK.out.small m1 m2 m3 m4
      have HP := Aside0.mk hp
      have HQ := Aside0.mk hq
      have HBO := Aside0.mk hbb
      have HG := Aside0.mk hg
      have HALL := Aside0.mk hall
      clear hp hq hbb hg hall m1 m2 m3 m4 HSM
      have HLT := Aside0.mk HJ.out.below.size
      go_upto_region 8 with (first
        | (go_at_call 10; (with_reducible refine (nfa_Compile.calls k x0 _ _ x1 x2 x3 _ _ x4 p e _ (Kd.C_below HX1.out HJ.out.below) HLN.out.1 (Kd.C_below HX4.out HJ.out.below) HLN.out.2.1 HP.out).mono ?_); rintro e_ w5 ⟨vp, rfl, ho, hb⟩; obtain ⟨Ap, cp, rfl⟩ := Kd.R_slice ho; have HJ5 := Aside0.mk (HJ.out.more hb); have HPC := Aside0.mk (Kd.R_reads' ho).2; clear ho hb; have HJ5x0 := blk_cell HJ5.out.bx 0; have HJ5x1 := blk_cell HJ5.out.bx 1; have HJ5x2 := blk_cell HJ5.out.bx 2; have HJ5x3 := blk_cell HJ5.out.bx 3; have HJ5x4 := blk_cell HJ5.out.bx 4; have HJ5y0 := blk_cell HJ5.out.ry 0; have HJ5y1 := blk_cell HJ5.out.ry 1; have HJ5y2 := blk_cell HJ5.out.ry 2; have HJ5y3 := blk_cell HJ5.out.ry 3; have HJ5y4 := blk_cell HJ5.out.ry 4)
        | (go_at_call 10; (with_reducible refine (nfa_Compile.calls k y0 _ _ y1 y2 y3 _ _ y4 q f _ (Kd.C_below HY1.out HJ5.out.below) HLN.out.2.2.1 (Kd.C_below HY4.out HJ5.out.below) HLN.out.2.2.2 HQ.out).mono ?_); rintro e_ w6 ⟨vp, rfl, ho, hb⟩; obtain ⟨Aq, cq, rfl⟩ := Kd.R_slice ho; have HJ6 := Aside0.mk (HJ5.out.more hb); have HPD := Aside0.mk (Kd.C_below HPC.out.2 hb); have HQC := Aside0.mk (Kd.R_reads' ho).2; clear ho hb; have HJ6x0 := blk_cell HJ6.out.bx 0; have HJ6x1 := blk_cell HJ6.out.bx 1; have HJ6x2 := blk_cell HJ6.out.bx 2; have HJ6x3 := blk_cell HJ6.out.bx 3; have HJ6x4 := blk_cell HJ6.out.bx 4; have HJ6y0 := blk_cell HJ6.out.ry 0; have HJ6y1 := blk_cell HJ6.out.ry 1; have HJ6y2 := blk_cell HJ6.out.ry 2; have HJ6y3 := blk_cell HJ6.out.ry 3; have HJ6y4 := blk_cell HJ6.out.ry 4; have HJ7 := Aside0.mk (HJ6.out.more (below_alloc (Below.refl _ _) (.cells #[.int .i64 x0, .slice A1 x1.length c1, .int .i64 x2, .int .i64 x3, .slice A4 x4.length c4, .int .i64 y0, .slice B1 y1.length d1, .int .i64 y2, .int .i64 y3, .slice B4 y4.length d4] 25))); have HK7 := Aside0.mk (heap_alloc_new w6 (.cells #[.int .i64 x0, .slice A1 x1.length c1, .int .i64 x2, .int .i64 x3, .slice A4 x4.length c4, .int .i64 y0, .slice B1 y1.length d1, .int .i64 y2, .int .i64 y3, .slice B4 y4.length d4] 25)))
        | (go_at_call 10; refine (nfa_Compile.calls k 3 none 0 [] 0 0 (some ⟨w6.heap.size, 0, none⟩) 2 [⟨x0, x1, x2, x3, x4⟩, ⟨y0, y1, y2, y3, y4⟩] b g _ (Kd.C_nil _ _) (Nat.le_refl _) (C_of_block (cs := [.int .i64 x0, .slice A1 x1.length c1, .int .i64 x2, .int .i64 x3, .slice A4 x4.length c4, .int .i64 y0, .slice B1 y1.length d1, .int .i64 y2, .int .i64 y3, .slice B4 y4.length d4]) HK7.out (((Reps.none _ _).snoc (k25_mk _ ⟨x0, x1, x2, x3, x4⟩ HLN.out.1 (Kd.C_below HX1.out HJ7.out.below) HLN.out.2.1 (Kd.C_below HX4.out HJ7.out.below)) rfl).snoc (k25_mk _ ⟨y0, y1, y2, y3, y4⟩ HLN.out.2.2.1 (Kd.C_below HY1.out HJ7.out.below) HLN.out.2.2.2 (Kd.C_below HY4.out HJ7.out.below)) rfl) (by simp only [List.length_cons, List.length_nil]; omega)) (Nat.le_refl _) HBO.out).mono ?_; rintro e_ w8 ⟨vp, rfl, ho, hb⟩; obtain ⟨Ab, cb, rfl⟩ := Kd.R_slice ho; have HJ8 := Aside0.mk (HJ7.out.more hb); have HPE := Aside0.mk (Kd.C_below HPD.out (below_step (below_alloc (Below.refl _ _) _) hb)); have HQE := Aside0.mk (Kd.C_below HQC.out.2 (below_step (below_alloc (Below.refl _ _) _) hb)); have HBC := Aside0.mk (Kd.R_reads' ho).2; clear ho hb))
      (try simp only [Act.put, List.setIfInBounds_toArray, List.set_cons_zero, List.set_cons_succ])
      clear HP HQ HBO HPC HPD HQC HJ5 HJ6 HJ7 HK7 HJ
      by_cases n1 : e = 0
      rotate_left
      · have ng := HG.out (.inl n1)
        have b1 : (e != 0) = true := bne_iff_ne.mpr n1
        have b3 : (g != 0) = true := bne_iff_ne.mpr ng
        go_wp2
        go_ret
        exact ⟨by first | rfl | (simp [*]; done) | rw [b3], HJ8.out.below⟩
      have b1 : (e != 0) = false := bne_eq_false_iff_eq.mpr n1
      by_cases n2 : f = 0
      rotate_left
      · have ng := HG.out (.inr n2)
        have b2 : (f != 0) = true := bne_iff_ne.mpr n2
        have b3 : (g != 0) = true := bne_iff_ne.mpr ng
        go_wp2
        go_ret
        exact ⟨by first | rfl | (simp [*]; done) | rw [b3], HJ8.out.below⟩
      have b2 : (f != 0) = false := bne_eq_false_iff_eq.mpr n2
      by_cases n3 : g = 0
      rotate_left
      · have b3 : (g != 0) = true := bne_iff_ne.mpr n3
        go_wp2
        go_ret
        exact ⟨by first | rfl | (simp [*]; done) | rw [b3], HJ8.out.below⟩
      have b3 : (g != 0) = false := bne_eq_false_iff_eq.mpr n3
      obtain ⟨l1, l2, l3, l4, l5, hs⟩ := HALL.out n1 n2 n3
      have HSA := Aside0.mk hs
      have HLE := Aside0.mk (show p.length ≤ 1000 ∧ q.length ≤ 1000 ∧ 1 ≤ p.length ∧ 1 ≤ q.length ∧ b.length + 1 = p.length + q.length from ⟨l1, l2, l3, l4, l5⟩)
      have i1 : IntKind.i64.wrap ((p.length : Int) + (q.length : Int)) = (p.length : Int) + (q.length : Int) := by rw [IntKind.wrap_i64]; omega
      have i2 : IntKind.i64.wrap ((p.length : Int) + (q.length : Int) - 1) = (b.length : Int) := by rw [IntKind.wrap_i64]; omega
      have i3 : ((b.length : Int) != (b.length : Int)) = false := bne_self_eq_false _
      clear hs l1 l2 l3 l4 l5 HALL HG
      clear n1 n2 n3
      go_wp2
      (try simp only [Act.put, List.setIfInBounds_toArray, List.set_cons_zero, List.set_cons_succ])
      go_loopw [11] (fun s11 wx => ∃ i : Nat, s11 = .int .i64 (i : Int) ∧ i ≤ b.length ∧ Aside0 (Below w8.heap.size w8 wx)) (fun s11 _ => b.length - (intOf s11).toNat)
      case atStart => exact ⟨0, rfl, by omega, ⟨Below.refl _ _⟩⟩
      case round =>
        clear i1 i2 i3 b1 b2 b3
        obtain ⟨i, rfl, hi, HW⟩ := hrel
        by_cases hlt : i < b.length
        · have g1 : decide ((i : Int) < (b.length : Int)) = true := decide_eq_true (by omega)
          have g3 : ((i : Int) < (b.length : Int)) = True := eq_true (by omega)
          have i4 : IntKind.i64.wrap ((p.length : Int) - 1) = (p.length : Int) - 1 := by rw [IntKind.wrap_i64]; have := HLE.out; omega
          have HLI := Aside0.mk hlt
          have hs := HSA.out i hlt
          have i6 : IntKind.i64.wrap ((i : Int) + 1) = (i : Int) + 1 := by rw [IntKind.wrap_i64]; have := HLE.out; omega
          obtain ⟨ii, hii, _, hsz, _⟩ := info_parts info39
          have hcut := cut_mid (P := Try.prog) 29 39 .i64 .i64 Try.underlying29 hii 4 hsz Ab b.length cb (i : Int) ((i : Int) + 1) (by omega) (by omega) (by omega) HBC.out.1
          rw [Int.toNat_natCast, show ((i : Int) + 1).toNat = i + 1 by omega, show i + 1 - i = 1 by omega] at hcut
          obtain ⟨Ac, hAc⟩ : ∃ A1, A1 = (if cb = i then Ab else Ab.map (·.add (i * 4))) := ⟨_, rfl⟩
          rw [← hAc] at hcut
          have hC : Kd.C k39 w8 Ac 1 [rd_T39 b (i : Int)] := by
            have hm := Kd.C_mid (lo := i) (hi := i + 1) (c := cb) HBC.out.2 (by omega) (by omega) HBC.out.1
            have e1 : (b.take (i + 1)).drop i = [rd_T39 b (i : Int)] := by
              unfold rd_T39
              rw [Int.toNat_natCast, List.getD_eq_getElem?_getD, List.getElem?_eq_getElem hlt, Option.getD_some, List.take_succ_eq_append_getElem hlt, List.drop_left' (by rw [List.length_take]; omega)]
            rw [e1] at hm
            rw [hAc]
            exact hm
          have HCC := Aside0.mk hC
          clear hC hAc hlt hii hsz hi
          by_cases ci : i + 1 < p.length
          · have hjq : i < p.length := by omega
            have g2 : decide ((i : Int) < (p.length : Int) - 1) = true := decide_eq_true (by omega)
            rw [joinI, if_pos ci] at hs
            obtain ⟨ad, Ae, ce, ee, h0, h1, h2, h3, q1, q2⟩ := at_T39 HPE.out (i : Int) (by omega) (by omega)
            cases ee
            rw [Int.toNat_natCast] at h0 h1 h2 h3
            obtain ⟨x, hx⟩ : ∃ x, rd_T39 p (i : Int) = x := ⟨_, rfl⟩
            rw [hx] at h0 h1 h2 h3 q1 q2 hs
            obtain ⟨o, rl, tt, al⟩ := x
            dsimp only at h0 h1 h2 h3 q1 q2
            have u1 : ((0 : Int) ≤ (i : Int)) = True := eq_true (by omega)
            have u2 : ((i : Int) < (p.length : Int)) = True := eq_true (by omega)
            have HWA := Aside0.mk (below_alloc HW.out (.cells #[.int .i64 0, .slice none 0 0, .int .i64 0, .int .i64 0] 39))
            replace h0 := cell_later HWA.out h0
            replace h1 := cell_later HWA.out h1
            replace h2 := cell_later HWA.out h2
            replace h3 := cell_later HWA.out h3
            have HS := Aside0.mk hs
            have HX := Aside0.mk (And.intro q1 q2)
            clear hs q1 q2 hx hjq ci
            by_cases o2 : o = 2
            · have b2 : (o == 2) = true := beq_iff_eq.mpr o2
              have HF := Aside0.mk (show ductusref19_Same.f k [⟨o, rl, wrap64 (tt), wrap64 (al)⟩] [rd_T39 b (i : Int)] = some true from by have h := HS.out; unfold finI at h; dsimp only at h; rw [if_pos (.inl o2), if_pos o2] at h; rw [Int.add_zero, Int.add_zero] at h; exact h)
              clear o2
              go_upto_region 24 with (fail)
              have HWB := Aside0.mk (below_alloc HW.out (.cells #[.int .i64 o, .slice Ae rl.length ce, .int .i64 (wrap64 (tt)), .int .i64 (wrap64 (al))] 39))
              have hn := heap_alloc_new wr (.cells #[.int .i64 o, .slice Ae rl.length ce, .int .i64 (wrap64 (tt)), .int .i64 (wrap64 (al))] 39)
              generalize wr.alloc (.cells #[.int .i64 o, .slice Ae rl.length ce, .int .i64 (wrap64 (tt)), .int .i64 (wrap64 (al))] 39) = W at HWB hn ⊢
              generalize wr.heap.size = gz at hn ⊢
              have z0 := blk_cell hn 0
              have z1 := blk_cell hn 1
              have z2 := blk_cell hn 2
              have z3 := blk_cell hn 3
              have HFZ := blk_frozen hn 0
              have hSame : Calls Try.prog 12 #[.slice (some ⟨W.heap.size, 0, none⟩) 1 1, .slice Ac 1 (cb - i)] (W.alloc (.cells #[.int .i64 o, .slice Ae rl.length ce, .int .i64 (wrap64 (tt)), .int .i64 (wrap64 (al))] 39)).drew fun e w' => e = .returned (.bool true) ∧ Below ((W.alloc (.cells #[.int .i64 o, .slice Ae rl.length ce, .int .i64 (wrap64 (tt)), .int .i64 (wrap64 (al))] 39)).drew).heap.size (W.alloc (.cells #[.int .i64 o, .slice Ae rl.length ce, .int .i64 (wrap64 (tt)), .int .i64 (wrap64 (al))] 39)).drew w' := (ductusref19_Same.calls k (some ⟨W.heap.size, 0, none⟩) 1 [⟨o, rl, wrap64 (tt), wrap64 (al)⟩] Ac (cb - i) [rd_T39 b (i : Int)] true (W.alloc (.cells #[.int .i64 o, .slice Ae rl.length ce, .int .i64 (wrap64 (tt)), .int .i64 (wrap64 (al))] 39)).drew (C_of_block (cs := [.int .i64 o, .slice Ae rl.length ce, .int .i64 (wrap64 (tt)), .int .i64 (wrap64 (al))]) (blk_drew (heap_alloc_new W _)) ((Reps.none _ _).snoc (k39_mk _ ⟨o, rl, wrap64 (tt), wrap64 (al)⟩ HX.out.1 (Kd.C_below HX.out.2 (below_step HWB.out (below_drew (below_alloc (Below.refl W.heap.size W) _))))) rfl) (by simp only [List.length_cons, List.length_nil]; omega)) (Nat.le_refl _) (Kd.C_below HCC.out (below_step HWB.out (below_drew (below_alloc (Below.refl W.heap.size W) _)))) (by have := HBC.out.1; have := HLI.out; simp only [List.length_cons, List.length_nil]; omega) HF.out).mono fun e w' h => h
              have HSM := Aside0.mk hSame
              clear hSame
              go_region_held3 (fun w' => w'.cell? ⟨gz, 0, none⟩ = some (.int .i64 o) ∧ w'.cell? ⟨gz, 1, none⟩ = some (.slice Ae rl.length ce) ∧ w'.cell? ⟨gz, 2, none⟩ = some (.int .i64 (wrap64 (tt))) ∧ w'.cell? ⟨gz, 3, none⟩ = some (.int .i64 (wrap64 (al))) ∧ Below W.heap.size W w')
                (first | exact ⟨z0, z1, z2, z3, below_drew1 (Below.refl _ _)⟩ | (obtain ⟨hS0, hS1, hS2, hS3, hS4⟩ := ‹_ ∧ _ ∧ _ ∧ _ ∧ Below W.heap.size W _›; refine ⟨?_, ?_, ?_, ?_, ?_⟩ <;> first | exact hcl _ _ hS0 | exact hcl _ _ hS1 | exact hcl _ _ hS2 | exact hcl _ _ hS3 | exact below_step hS4 hb9 | exact cell_later (below_alloc (Below.refl _ _) _) hS0 | exact cell_later (below_alloc (Below.refl _ _) _) hS1 | exact cell_later (below_alloc (Below.refl _ _) _) hS2 | exact cell_later (below_alloc (Below.refl _ _) _) hS3 | exact below_alloc hS4 _))
                (first | (go_at_call 12; (with_reducible refine HSM.out.mono ?_); rintro e_ w9 ⟨rfl, hb9⟩; have HWD := Aside0.mk (below_step (below_step HWB.out (below_drew (below_alloc (Below.refl W.heap.size W) _))) hb9); have hcl := fun (a : Addr) (v : Value) (h : _ = some v) => cell_later (a := a) hb9 h))
              go_wp2
              refine ⟨⟨i + 1, by simp, HLI.out, HWD⟩, ?_⟩
              have := HLI.out
              simp only [intOf, i6, Int.toNat_natCast, show ((i : Int) + 1).toNat = i + 1 by omega]
              omega
            by_cases o3 : o = 3
            · have b2 : (o == 2) = false := beq_eq_false_iff_ne.mpr o2
              have b3 : (o == 3) = true := beq_iff_eq.mpr o3
              have HF := Aside0.mk (show ductusref19_Same.f k [⟨o, rl, wrap64 (tt), al⟩] [rd_T39 b (i : Int)] = some true from by have h := HS.out; unfold finI at h; dsimp only at h; rw [if_pos (.inr o3), if_neg o2] at h; rw [Int.add_zero] at h; exact h)
              clear o3
              go_upto_region 24 with (fail)
              have HWB := Aside0.mk (below_alloc HW.out (.cells #[.int .i64 o, .slice Ae rl.length ce, .int .i64 (wrap64 (tt)), .int .i64 (al)] 39))
              have hn := heap_alloc_new wr (.cells #[.int .i64 o, .slice Ae rl.length ce, .int .i64 (wrap64 (tt)), .int .i64 (al)] 39)
              generalize wr.alloc (.cells #[.int .i64 o, .slice Ae rl.length ce, .int .i64 (wrap64 (tt)), .int .i64 (al)] 39) = W at HWB hn ⊢
              generalize wr.heap.size = gz at hn ⊢
              have z0 := blk_cell hn 0
              have z1 := blk_cell hn 1
              have z2 := blk_cell hn 2
              have z3 := blk_cell hn 3
              have HFZ := blk_frozen hn 0
              have hSame : Calls Try.prog 12 #[.slice (some ⟨W.heap.size, 0, none⟩) 1 1, .slice Ac 1 (cb - i)] (W.alloc (.cells #[.int .i64 o, .slice Ae rl.length ce, .int .i64 (wrap64 (tt)), .int .i64 (al)] 39)).drew fun e w' => e = .returned (.bool true) ∧ Below ((W.alloc (.cells #[.int .i64 o, .slice Ae rl.length ce, .int .i64 (wrap64 (tt)), .int .i64 (al)] 39)).drew).heap.size (W.alloc (.cells #[.int .i64 o, .slice Ae rl.length ce, .int .i64 (wrap64 (tt)), .int .i64 (al)] 39)).drew w' := (ductusref19_Same.calls k (some ⟨W.heap.size, 0, none⟩) 1 [⟨o, rl, wrap64 (tt), al⟩] Ac (cb - i) [rd_T39 b (i : Int)] true (W.alloc (.cells #[.int .i64 o, .slice Ae rl.length ce, .int .i64 (wrap64 (tt)), .int .i64 (al)] 39)).drew (C_of_block (cs := [.int .i64 o, .slice Ae rl.length ce, .int .i64 (wrap64 (tt)), .int .i64 (al)]) (blk_drew (heap_alloc_new W _)) ((Reps.none _ _).snoc (k39_mk _ ⟨o, rl, wrap64 (tt), al⟩ HX.out.1 (Kd.C_below HX.out.2 (below_step HWB.out (below_drew (below_alloc (Below.refl W.heap.size W) _))))) rfl) (by simp only [List.length_cons, List.length_nil]; omega)) (Nat.le_refl _) (Kd.C_below HCC.out (below_step HWB.out (below_drew (below_alloc (Below.refl W.heap.size W) _)))) (by have := HBC.out.1; have := HLI.out; simp only [List.length_cons, List.length_nil]; omega) HF.out).mono fun e w' h => h
              have HSM := Aside0.mk hSame
              clear hSame
              go_region_held3 (fun w' => w'.cell? ⟨gz, 0, none⟩ = some (.int .i64 o) ∧ w'.cell? ⟨gz, 1, none⟩ = some (.slice Ae rl.length ce) ∧ w'.cell? ⟨gz, 2, none⟩ = some (.int .i64 (wrap64 (tt))) ∧ w'.cell? ⟨gz, 3, none⟩ = some (.int .i64 (al)) ∧ Below W.heap.size W w')
                (first | exact ⟨z0, z1, z2, z3, below_drew1 (Below.refl _ _)⟩ | (obtain ⟨hS0, hS1, hS2, hS3, hS4⟩ := ‹_ ∧ _ ∧ _ ∧ _ ∧ Below W.heap.size W _›; refine ⟨?_, ?_, ?_, ?_, ?_⟩ <;> first | exact hcl _ _ hS0 | exact hcl _ _ hS1 | exact hcl _ _ hS2 | exact hcl _ _ hS3 | exact below_step hS4 hb9 | exact cell_later (below_alloc (Below.refl _ _) _) hS0 | exact cell_later (below_alloc (Below.refl _ _) _) hS1 | exact cell_later (below_alloc (Below.refl _ _) _) hS2 | exact cell_later (below_alloc (Below.refl _ _) _) hS3 | exact below_alloc hS4 _))
                (first | (go_at_call 12; (with_reducible refine HSM.out.mono ?_); rintro e_ w9 ⟨rfl, hb9⟩; have HWD := Aside0.mk (below_step (below_step HWB.out (below_drew (below_alloc (Below.refl W.heap.size W) _))) hb9); have hcl := fun (a : Addr) (v : Value) (h : _ = some v) => cell_later (a := a) hb9 h))
              go_wp2
              refine ⟨⟨i + 1, by simp, HLI.out, HWD⟩, ?_⟩
              have := HLI.out
              simp only [intOf, i6, Int.toNat_natCast, show ((i : Int) + 1).toNat = i + 1 by omega]
              omega
            have b2 : (o == 2) = false := beq_eq_false_iff_ne.mpr o2
            have b3 : (o == 3) = false := beq_eq_false_iff_ne.mpr o3
            have HF := Aside0.mk (show ductusref19_Same.f k [⟨o, rl, tt, al⟩] [rd_T39 b (i : Int)] = some true from by have h := HS.out; unfold finI at h; dsimp only at h; rw [if_neg (fun hh => hh.elim o2 o3), if_neg o2] at h; exact h)
            go_upto_region 24 with (fail)
            have HWB := Aside0.mk (below_alloc HW.out (.cells #[.int .i64 o, .slice Ae rl.length ce, .int .i64 (tt), .int .i64 (al)] 39))
            have hn := heap_alloc_new wr (.cells #[.int .i64 o, .slice Ae rl.length ce, .int .i64 (tt), .int .i64 (al)] 39)
            generalize wr.alloc (.cells #[.int .i64 o, .slice Ae rl.length ce, .int .i64 (tt), .int .i64 (al)] 39) = W at HWB hn ⊢
            generalize wr.heap.size = gz at hn ⊢
            have z0 := blk_cell hn 0
            have z1 := blk_cell hn 1
            have z2 := blk_cell hn 2
            have z3 := blk_cell hn 3
            have HFZ := blk_frozen hn 0
            have hSame : Calls Try.prog 12 #[.slice (some ⟨W.heap.size, 0, none⟩) 1 1, .slice Ac 1 (cb - i)] (W.alloc (.cells #[.int .i64 o, .slice Ae rl.length ce, .int .i64 (tt), .int .i64 (al)] 39)).drew fun e w' => e = .returned (.bool true) ∧ Below ((W.alloc (.cells #[.int .i64 o, .slice Ae rl.length ce, .int .i64 (tt), .int .i64 (al)] 39)).drew).heap.size (W.alloc (.cells #[.int .i64 o, .slice Ae rl.length ce, .int .i64 (tt), .int .i64 (al)] 39)).drew w' := (ductusref19_Same.calls k (some ⟨W.heap.size, 0, none⟩) 1 [⟨o, rl, tt, al⟩] Ac (cb - i) [rd_T39 b (i : Int)] true (W.alloc (.cells #[.int .i64 o, .slice Ae rl.length ce, .int .i64 (tt), .int .i64 (al)] 39)).drew (C_of_block (cs := [.int .i64 o, .slice Ae rl.length ce, .int .i64 (tt), .int .i64 (al)]) (blk_drew (heap_alloc_new W _)) ((Reps.none _ _).snoc (k39_mk _ ⟨o, rl, tt, al⟩ HX.out.1 (Kd.C_below HX.out.2 (below_step HWB.out (below_drew (below_alloc (Below.refl W.heap.size W) _))))) rfl) (by simp only [List.length_cons, List.length_nil]; omega)) (Nat.le_refl _) (Kd.C_below HCC.out (below_step HWB.out (below_drew (below_alloc (Below.refl W.heap.size W) _)))) (by have := HBC.out.1; have := HLI.out; simp only [List.length_cons, List.length_nil]; omega) HF.out).mono fun e w' h => h
            have HSM := Aside0.mk hSame
            clear hSame
            go_region_held3 (fun w' => w'.cell? ⟨gz, 0, none⟩ = some (.int .i64 o) ∧ w'.cell? ⟨gz, 1, none⟩ = some (.slice Ae rl.length ce) ∧ w'.cell? ⟨gz, 2, none⟩ = some (.int .i64 (tt)) ∧ w'.cell? ⟨gz, 3, none⟩ = some (.int .i64 (al)) ∧ Below W.heap.size W w')
              (first | exact ⟨z0, z1, z2, z3, below_drew1 (Below.refl _ _)⟩ | (obtain ⟨hS0, hS1, hS2, hS3, hS4⟩ := ‹_ ∧ _ ∧ _ ∧ _ ∧ Below W.heap.size W _›; refine ⟨?_, ?_, ?_, ?_, ?_⟩ <;> first | exact hcl _ _ hS0 | exact hcl _ _ hS1 | exact hcl _ _ hS2 | exact hcl _ _ hS3 | exact below_step hS4 hb9 | exact cell_later (below_alloc (Below.refl _ _) _) hS0 | exact cell_later (below_alloc (Below.refl _ _) _) hS1 | exact cell_later (below_alloc (Below.refl _ _) _) hS2 | exact cell_later (below_alloc (Below.refl _ _) _) hS3 | exact below_alloc hS4 _))
              (first | (go_at_call 12; (with_reducible refine HSM.out.mono ?_); rintro e_ w9 ⟨rfl, hb9⟩; have HWD := Aside0.mk (below_step (below_step HWB.out (below_drew (below_alloc (Below.refl W.heap.size W) _))) hb9); have hcl := fun (a : Addr) (v : Value) (h : _ = some v) => cell_later (a := a) hb9 h))
            go_wp2
            refine ⟨⟨i + 1, by simp, HLI.out, HWD⟩, ?_⟩
            have := HLI.out
            simp only [intOf, i6, Int.toNat_natCast, show ((i : Int) + 1).toNat = i + 1 by omega]
            omega
          obtain ⟨j, hj⟩ : ∃ j, j = i - (p.length - 1) := ⟨_, rfl⟩
          have i5 : IntKind.i64.wrap ((i : Int) - ((p.length : Int) - 1)) = (j : Int) := by rw [IntKind.wrap_i64]; have := HLE.out; have := HLI.out; omega
          have hjq : j < q.length := by have := HLE.out; have := HLI.out; omega
          have g2 : decide ((i : Int) < (p.length : Int) - 1) = false := decide_eq_false (by omega)
          rw [joinI, if_neg ci, ← hj] at hs
          obtain ⟨ad, Ae, ce, ee, h0, h1, h2, h3, q1, q2⟩ := at_T39 HQE.out (j : Int) (by omega) (by omega)
          cases ee
          rw [Int.toNat_natCast] at h0 h1 h2 h3
          obtain ⟨x, hx⟩ : ∃ x, rd_T39 q (j : Int) = x := ⟨_, rfl⟩
          rw [hx] at h0 h1 h2 h3 q1 q2 hs
          obtain ⟨o, rl, tt, al⟩ := x
          dsimp only at h0 h1 h2 h3 q1 q2
          have u1 : ((0 : Int) ≤ (j : Int)) = True := eq_true (by omega)
          have u2 : ((j : Int) < (q.length : Int)) = True := eq_true (by omega)
          have HWA := Aside0.mk (below_alloc HW.out (.cells #[.int .i64 0, .slice none 0 0, .int .i64 0, .int .i64 0] 39))
          replace h0 := cell_later HWA.out h0
          replace h1 := cell_later HWA.out h1
          replace h2 := cell_later HWA.out h2
          replace h3 := cell_later HWA.out h3
          have HS := Aside0.mk hs
          have HX := Aside0.mk (And.intro q1 q2)
          clear hs q1 q2 hx hjq ci hj
          by_cases o2 : o = 2
          · have b2 : (o == 2) = true := beq_iff_eq.mpr o2
            have HF := Aside0.mk (show ductusref19_Same.f k [⟨o, rl, wrap64 (tt + ((p.length : Int) - 1)), wrap64 (al + ((p.length : Int) - 1))⟩] [rd_T39 b (i : Int)] = some true from by have h := HS.out; unfold finI at h; dsimp only at h; rw [if_pos (.inl o2), if_pos o2] at h; exact h)
            clear o2
            go_upto_region 24 with (fail)
            have HWB := Aside0.mk (below_alloc HW.out (.cells #[.int .i64 o, .slice Ae rl.length ce, .int .i64 (wrap64 (tt + ((p.length : Int) - 1))), .int .i64 (wrap64 (al + ((p.length : Int) - 1)))] 39))
            have hn := heap_alloc_new wr (.cells #[.int .i64 o, .slice Ae rl.length ce, .int .i64 (wrap64 (tt + ((p.length : Int) - 1))), .int .i64 (wrap64 (al + ((p.length : Int) - 1)))] 39)
            generalize wr.alloc (.cells #[.int .i64 o, .slice Ae rl.length ce, .int .i64 (wrap64 (tt + ((p.length : Int) - 1))), .int .i64 (wrap64 (al + ((p.length : Int) - 1)))] 39) = W at HWB hn ⊢
            generalize wr.heap.size = gz at hn ⊢
            have z0 := blk_cell hn 0
            have z1 := blk_cell hn 1
            have z2 := blk_cell hn 2
            have z3 := blk_cell hn 3
            have HFZ := blk_frozen hn 0
            have hSame : Calls Try.prog 12 #[.slice (some ⟨W.heap.size, 0, none⟩) 1 1, .slice Ac 1 (cb - i)] (W.alloc (.cells #[.int .i64 o, .slice Ae rl.length ce, .int .i64 (wrap64 (tt + ((p.length : Int) - 1))), .int .i64 (wrap64 (al + ((p.length : Int) - 1)))] 39)).drew fun e w' => e = .returned (.bool true) ∧ Below ((W.alloc (.cells #[.int .i64 o, .slice Ae rl.length ce, .int .i64 (wrap64 (tt + ((p.length : Int) - 1))), .int .i64 (wrap64 (al + ((p.length : Int) - 1)))] 39)).drew).heap.size (W.alloc (.cells #[.int .i64 o, .slice Ae rl.length ce, .int .i64 (wrap64 (tt + ((p.length : Int) - 1))), .int .i64 (wrap64 (al + ((p.length : Int) - 1)))] 39)).drew w' := (ductusref19_Same.calls k (some ⟨W.heap.size, 0, none⟩) 1 [⟨o, rl, wrap64 (tt + ((p.length : Int) - 1)), wrap64 (al + ((p.length : Int) - 1))⟩] Ac (cb - i) [rd_T39 b (i : Int)] true (W.alloc (.cells #[.int .i64 o, .slice Ae rl.length ce, .int .i64 (wrap64 (tt + ((p.length : Int) - 1))), .int .i64 (wrap64 (al + ((p.length : Int) - 1)))] 39)).drew (C_of_block (cs := [.int .i64 o, .slice Ae rl.length ce, .int .i64 (wrap64 (tt + ((p.length : Int) - 1))), .int .i64 (wrap64 (al + ((p.length : Int) - 1)))]) (blk_drew (heap_alloc_new W _)) ((Reps.none _ _).snoc (k39_mk _ ⟨o, rl, wrap64 (tt + ((p.length : Int) - 1)), wrap64 (al + ((p.length : Int) - 1))⟩ HX.out.1 (Kd.C_below HX.out.2 (below_step HWB.out (below_drew (below_alloc (Below.refl W.heap.size W) _))))) rfl) (by simp only [List.length_cons, List.length_nil]; omega)) (Nat.le_refl _) (Kd.C_below HCC.out (below_step HWB.out (below_drew (below_alloc (Below.refl W.heap.size W) _)))) (by have := HBC.out.1; have := HLI.out; simp only [List.length_cons, List.length_nil]; omega) HF.out).mono fun e w' h => h
            have HSM := Aside0.mk hSame
            clear hSame
            go_region_held3 (fun w' => w'.cell? ⟨gz, 0, none⟩ = some (.int .i64 o) ∧ w'.cell? ⟨gz, 1, none⟩ = some (.slice Ae rl.length ce) ∧ w'.cell? ⟨gz, 2, none⟩ = some (.int .i64 (wrap64 (tt + ((p.length : Int) - 1)))) ∧ w'.cell? ⟨gz, 3, none⟩ = some (.int .i64 (wrap64 (al + ((p.length : Int) - 1)))) ∧ Below W.heap.size W w')
              (first | exact ⟨z0, z1, z2, z3, below_drew1 (Below.refl _ _)⟩ | (obtain ⟨hS0, hS1, hS2, hS3, hS4⟩ := ‹_ ∧ _ ∧ _ ∧ _ ∧ Below W.heap.size W _›; refine ⟨?_, ?_, ?_, ?_, ?_⟩ <;> first | exact hcl _ _ hS0 | exact hcl _ _ hS1 | exact hcl _ _ hS2 | exact hcl _ _ hS3 | exact below_step hS4 hb9 | exact cell_later (below_alloc (Below.refl _ _) _) hS0 | exact cell_later (below_alloc (Below.refl _ _) _) hS1 | exact cell_later (below_alloc (Below.refl _ _) _) hS2 | exact cell_later (below_alloc (Below.refl _ _) _) hS3 | exact below_alloc hS4 _))
              (first | (go_at_call 12; (with_reducible refine HSM.out.mono ?_); rintro e_ w9 ⟨rfl, hb9⟩; have HWD := Aside0.mk (below_step (below_step HWB.out (below_drew (below_alloc (Below.refl W.heap.size W) _))) hb9); have hcl := fun (a : Addr) (v : Value) (h : _ = some v) => cell_later (a := a) hb9 h))
            go_wp2
            refine ⟨⟨i + 1, by simp, HLI.out, HWD⟩, ?_⟩
            have := HLI.out
            simp only [intOf, i6, Int.toNat_natCast, show ((i : Int) + 1).toNat = i + 1 by omega]
            omega
          by_cases o3 : o = 3
          · have b2 : (o == 2) = false := beq_eq_false_iff_ne.mpr o2
            have b3 : (o == 3) = true := beq_iff_eq.mpr o3
            have HF := Aside0.mk (show ductusref19_Same.f k [⟨o, rl, wrap64 (tt + ((p.length : Int) - 1)), al⟩] [rd_T39 b (i : Int)] = some true from by have h := HS.out; unfold finI at h; dsimp only at h; rw [if_pos (.inr o3), if_neg o2] at h; exact h)
            clear o3
            go_upto_region 24 with (fail)
            have HWB := Aside0.mk (below_alloc HW.out (.cells #[.int .i64 o, .slice Ae rl.length ce, .int .i64 (wrap64 (tt + ((p.length : Int) - 1))), .int .i64 (al)] 39))
            have hn := heap_alloc_new wr (.cells #[.int .i64 o, .slice Ae rl.length ce, .int .i64 (wrap64 (tt + ((p.length : Int) - 1))), .int .i64 (al)] 39)
            generalize wr.alloc (.cells #[.int .i64 o, .slice Ae rl.length ce, .int .i64 (wrap64 (tt + ((p.length : Int) - 1))), .int .i64 (al)] 39) = W at HWB hn ⊢
            generalize wr.heap.size = gz at hn ⊢
            have z0 := blk_cell hn 0
            have z1 := blk_cell hn 1
            have z2 := blk_cell hn 2
            have z3 := blk_cell hn 3
            have HFZ := blk_frozen hn 0
            have hSame : Calls Try.prog 12 #[.slice (some ⟨W.heap.size, 0, none⟩) 1 1, .slice Ac 1 (cb - i)] (W.alloc (.cells #[.int .i64 o, .slice Ae rl.length ce, .int .i64 (wrap64 (tt + ((p.length : Int) - 1))), .int .i64 (al)] 39)).drew fun e w' => e = .returned (.bool true) ∧ Below ((W.alloc (.cells #[.int .i64 o, .slice Ae rl.length ce, .int .i64 (wrap64 (tt + ((p.length : Int) - 1))), .int .i64 (al)] 39)).drew).heap.size (W.alloc (.cells #[.int .i64 o, .slice Ae rl.length ce, .int .i64 (wrap64 (tt + ((p.length : Int) - 1))), .int .i64 (al)] 39)).drew w' := (ductusref19_Same.calls k (some ⟨W.heap.size, 0, none⟩) 1 [⟨o, rl, wrap64 (tt + ((p.length : Int) - 1)), al⟩] Ac (cb - i) [rd_T39 b (i : Int)] true (W.alloc (.cells #[.int .i64 o, .slice Ae rl.length ce, .int .i64 (wrap64 (tt + ((p.length : Int) - 1))), .int .i64 (al)] 39)).drew (C_of_block (cs := [.int .i64 o, .slice Ae rl.length ce, .int .i64 (wrap64 (tt + ((p.length : Int) - 1))), .int .i64 (al)]) (blk_drew (heap_alloc_new W _)) ((Reps.none _ _).snoc (k39_mk _ ⟨o, rl, wrap64 (tt + ((p.length : Int) - 1)), al⟩ HX.out.1 (Kd.C_below HX.out.2 (below_step HWB.out (below_drew (below_alloc (Below.refl W.heap.size W) _))))) rfl) (by simp only [List.length_cons, List.length_nil]; omega)) (Nat.le_refl _) (Kd.C_below HCC.out (below_step HWB.out (below_drew (below_alloc (Below.refl W.heap.size W) _)))) (by have := HBC.out.1; have := HLI.out; simp only [List.length_cons, List.length_nil]; omega) HF.out).mono fun e w' h => h
            have HSM := Aside0.mk hSame
            clear hSame
            go_region_held3 (fun w' => w'.cell? ⟨gz, 0, none⟩ = some (.int .i64 o) ∧ w'.cell? ⟨gz, 1, none⟩ = some (.slice Ae rl.length ce) ∧ w'.cell? ⟨gz, 2, none⟩ = some (.int .i64 (wrap64 (tt + ((p.length : Int) - 1)))) ∧ w'.cell? ⟨gz, 3, none⟩ = some (.int .i64 (al)) ∧ Below W.heap.size W w')
              (first | exact ⟨z0, z1, z2, z3, below_drew1 (Below.refl _ _)⟩ | (obtain ⟨hS0, hS1, hS2, hS3, hS4⟩ := ‹_ ∧ _ ∧ _ ∧ _ ∧ Below W.heap.size W _›; refine ⟨?_, ?_, ?_, ?_, ?_⟩ <;> first | exact hcl _ _ hS0 | exact hcl _ _ hS1 | exact hcl _ _ hS2 | exact hcl _ _ hS3 | exact below_step hS4 hb9 | exact cell_later (below_alloc (Below.refl _ _) _) hS0 | exact cell_later (below_alloc (Below.refl _ _) _) hS1 | exact cell_later (below_alloc (Below.refl _ _) _) hS2 | exact cell_later (below_alloc (Below.refl _ _) _) hS3 | exact below_alloc hS4 _))
              (first | (go_at_call 12; (with_reducible refine HSM.out.mono ?_); rintro e_ w9 ⟨rfl, hb9⟩; have HWD := Aside0.mk (below_step (below_step HWB.out (below_drew (below_alloc (Below.refl W.heap.size W) _))) hb9); have hcl := fun (a : Addr) (v : Value) (h : _ = some v) => cell_later (a := a) hb9 h))
            go_wp2
            refine ⟨⟨i + 1, by simp, HLI.out, HWD⟩, ?_⟩
            have := HLI.out
            simp only [intOf, i6, Int.toNat_natCast, show ((i : Int) + 1).toNat = i + 1 by omega]
            omega
          have b2 : (o == 2) = false := beq_eq_false_iff_ne.mpr o2
          have b3 : (o == 3) = false := beq_eq_false_iff_ne.mpr o3
          have HF := Aside0.mk (show ductusref19_Same.f k [⟨o, rl, tt, al⟩] [rd_T39 b (i : Int)] = some true from by have h := HS.out; unfold finI at h; dsimp only at h; rw [if_neg (fun hh => hh.elim o2 o3), if_neg o2] at h; exact h)
          go_upto_region 24 with (fail)
          have HWB := Aside0.mk (below_alloc HW.out (.cells #[.int .i64 o, .slice Ae rl.length ce, .int .i64 (tt), .int .i64 (al)] 39))
          have hn := heap_alloc_new wr (.cells #[.int .i64 o, .slice Ae rl.length ce, .int .i64 (tt), .int .i64 (al)] 39)
          generalize wr.alloc (.cells #[.int .i64 o, .slice Ae rl.length ce, .int .i64 (tt), .int .i64 (al)] 39) = W at HWB hn ⊢
          generalize wr.heap.size = gz at hn ⊢
          have z0 := blk_cell hn 0
          have z1 := blk_cell hn 1
          have z2 := blk_cell hn 2
          have z3 := blk_cell hn 3
          have HFZ := blk_frozen hn 0
          have hSame : Calls Try.prog 12 #[.slice (some ⟨W.heap.size, 0, none⟩) 1 1, .slice Ac 1 (cb - i)] (W.alloc (.cells #[.int .i64 o, .slice Ae rl.length ce, .int .i64 (tt), .int .i64 (al)] 39)).drew fun e w' => e = .returned (.bool true) ∧ Below ((W.alloc (.cells #[.int .i64 o, .slice Ae rl.length ce, .int .i64 (tt), .int .i64 (al)] 39)).drew).heap.size (W.alloc (.cells #[.int .i64 o, .slice Ae rl.length ce, .int .i64 (tt), .int .i64 (al)] 39)).drew w' := (ductusref19_Same.calls k (some ⟨W.heap.size, 0, none⟩) 1 [⟨o, rl, tt, al⟩] Ac (cb - i) [rd_T39 b (i : Int)] true (W.alloc (.cells #[.int .i64 o, .slice Ae rl.length ce, .int .i64 (tt), .int .i64 (al)] 39)).drew (C_of_block (cs := [.int .i64 o, .slice Ae rl.length ce, .int .i64 (tt), .int .i64 (al)]) (blk_drew (heap_alloc_new W _)) ((Reps.none _ _).snoc (k39_mk _ ⟨o, rl, tt, al⟩ HX.out.1 (Kd.C_below HX.out.2 (below_step HWB.out (below_drew (below_alloc (Below.refl W.heap.size W) _))))) rfl) (by simp only [List.length_cons, List.length_nil]; omega)) (Nat.le_refl _) (Kd.C_below HCC.out (below_step HWB.out (below_drew (below_alloc (Below.refl W.heap.size W) _)))) (by have := HBC.out.1; have := HLI.out; simp only [List.length_cons, List.length_nil]; omega) HF.out).mono fun e w' h => h
          have HSM := Aside0.mk hSame
          clear hSame
          go_region_held3 (fun w' => w'.cell? ⟨gz, 0, none⟩ = some (.int .i64 o) ∧ w'.cell? ⟨gz, 1, none⟩ = some (.slice Ae rl.length ce) ∧ w'.cell? ⟨gz, 2, none⟩ = some (.int .i64 (tt)) ∧ w'.cell? ⟨gz, 3, none⟩ = some (.int .i64 (al)) ∧ Below W.heap.size W w')
            (first | exact ⟨z0, z1, z2, z3, below_drew1 (Below.refl _ _)⟩ | (obtain ⟨hS0, hS1, hS2, hS3, hS4⟩ := ‹_ ∧ _ ∧ _ ∧ _ ∧ Below W.heap.size W _›; refine ⟨?_, ?_, ?_, ?_, ?_⟩ <;> first | exact hcl _ _ hS0 | exact hcl _ _ hS1 | exact hcl _ _ hS2 | exact hcl _ _ hS3 | exact below_step hS4 hb9 | exact cell_later (below_alloc (Below.refl _ _) _) hS0 | exact cell_later (below_alloc (Below.refl _ _) _) hS1 | exact cell_later (below_alloc (Below.refl _ _) _) hS2 | exact cell_later (below_alloc (Below.refl _ _) _) hS3 | exact below_alloc hS4 _))
            (first | (go_at_call 12; (with_reducible refine HSM.out.mono ?_); rintro e_ w9 ⟨rfl, hb9⟩; have HWD := Aside0.mk (below_step (below_step HWB.out (below_drew (below_alloc (Below.refl W.heap.size W) _))) hb9); have hcl := fun (a : Addr) (v : Value) (h : _ = some v) => cell_later (a := a) hb9 h))
          go_wp2
          refine ⟨⟨i + 1, by simp, HLI.out, HWD⟩, ?_⟩
          have := HLI.out
          simp only [intOf, i6, Int.toNat_natCast, show ((i : Int) + 1).toNat = i + 1 by omega]
          omega
        · have g1 : decide ((i : Int) < (b.length : Int)) = false := decide_eq_false (by omega)
          go_wp2
          go_ret
          exact ⟨rfl, below_step HJ8.out.below HW.out⟩
end Go.Proofs.Ytbbplchdgedhcaa.P
namespace Go.Proofs.Ytbbplchdgedhcaa.P
open Go.RowKit Go.Proofs.YtbbplchdgedhcaaW.PrintWords Go.Proofs.YtbbplchdgedhcaaW.PrintLast
set_option linter.unusedVariables false

theorem wrap_id {x : Int} (h0 : -9223372036854775808 ≤ x) (h1 : x ≤ 9223372036854775807) : wrap64 x = x := by
  unfold wrap64
  omega
theorem wrap_succ (i : Nat) (h : i < 9223372036854775807) : wrap64 ((i : Int) + 1) = ((i + 1 : Nat) : Int) := by
  rw [wrap_id (by omega) (by omega)]
  omega
theorem more {α : Type} {g : Nat → Option α} (h : ∀ k, LeO (g k) (g (k + 1))) (k k' : Nat) (hk : k ≤ k') (r : α) (hr : g k = some r) : g k' = some r := at_rounds h hk hr
end Go.Proofs.Ytbbplchdgedhcaa.P
namespace Go.Proofs.Ytbbplchdgedhcaa.P
open Go.RowKit Go.Proofs.YtbbplchdgedhcaaW.PrintWords Go.Proofs.YtbbplchdgedhcaaW.PrintLast
set_option linter.unusedVariables false

theorem ev_step {α β : Type} {f : Nat → Option α} {g : Nat → Option β} {a : α} {r : β} (H : Ev f a) (h : ∀ k, f k = some a → g (k + 1) = some r) : Ev g r := by
  obtain ⟨K, H⟩ := H
  refine ⟨K + 1, fun k hk => ?_⟩
  obtain ⟨k, rfl⟩ : ∃ m, k = m + 1 := ⟨k - 1, by omega⟩
  exact h k (H k (by omega))
theorem ev_step2 {α β γ : Type} {f : Nat → Option α} {f2 : Nat → Option γ} {g : Nat → Option β} {a : α} {b : γ} {r : β} (H : Ev f a) (H2 : Ev f2 b) (h : ∀ k, f k = some a → f2 k = some b → g (k + 1) = some r) : Ev g r := by
  obtain ⟨K, H⟩ := H
  obtain ⟨K2, H2⟩ := H2
  refine ⟨K + K2 + 1, fun k hk => ?_⟩
  obtain ⟨k, rfl⟩ : ∃ m, k = m + 1 := ⟨k - 1, by omega⟩
  exact h k (H k (by omega)) (H2 k (by omega))
theorem ev_one {β : Type} {g : Nat → Option β} {r : β} (h : ∀ k, g (k + 1) = some r) : Ev g r := ⟨1, fun k hk => by
  obtain ⟨k, rfl⟩ : ∃ m, k = m + 1 := ⟨k - 1, by omega⟩
  exact h k⟩
theorem ev_now {β : Type} {g : Nat → Option β} {r : β} (h : ∀ k, g k = some r) : Ev g r := ⟨0, fun k _ => h k⟩
theorem ev_same {α β : Type} {f : Nat → Option α} {g : Nat → Option β} {a : α} {r : β} (H : Ev f a) (h : ∀ k, f k = some a → g k = some r) : Ev g r := by
  obtain ⟨K, H⟩ := H
  exact ⟨K, fun k hk => h k (H k hk)⟩
theorem ev_same2 {α β γ : Type} {f : Nat → Option α} {f2 : Nat → Option γ} {g : Nat → Option β} {a : α} {b : γ} {r : β} (H : Ev f a) (H2 : Ev f2 b) (h : ∀ k, f k = some a → f2 k = some b → g k = some r) : Ev g r := by
  obtain ⟨K, H⟩ := H
  obtain ⟨K2, H2⟩ := H2
  exact ⟨K + K2, fun k hk => h k (H k (by omega)) (H2 k (by omega))⟩
end Go.Proofs.Ytbbplchdgedhcaa.P
namespace Go.Proofs.Ytbbplchdgedhcaa.P
open Go.RowKit Go.Proofs.YtbbplchdgedhcaaW.PrintWords Go.Proofs.YtbbplchdgedhcaaW.PrintLast
set_option linter.unusedVariables false
set_option linter.unusedSimpArgs false

abbrev TNode : Type := S25
abbrev TRange : Type := S42
def i64b (x : Int) : Prop := -9223372036854775808 ≤ x ∧ x ≤ 9223372036854775807
/-- A tree that can lie in memory. -/
inductive WfN : TNode → Prop
  | mk (x : TNode) (h0 : i64b x.f0) (h1 : ∀ r ∈ x.f1, i64b r.f0 ∧ i64b r.f1) (l1 : x.f1.length < 8796093022208) (h2 : i64b x.f2) (h3 : i64b x.f3) (l4 : x.f4.length < 2199023255552) (hk : ∀ y ∈ x.f4, WfN y) : WfN x
theorem node_ind {P : TNode → Prop} (h : ∀ x : TNode, (∀ y ∈ x.f4, P y) → P x) (x : TNode) : P x := by
  have key : ∀ n (x : TNode), SizeOf.sizeOf x ≤ n → P x := by
    intro n
    induction n with
    | zero =>
      intro x hx
      exact absurd hx (by cases x; simp)
    | succ n ih =>
      intro x hx
      refine h x fun y hy => ih y ?_
      have h1 := List.sizeOf_lt_of_mem hy
      have h2 : SizeOf.sizeOf x.f4 < SizeOf.sizeOf x := by cases x; simp; omega
      omega
  exact key _ x (Nat.le_refl _)
theorem tn_rd (l : List TNode) (i : Nat) (h : i < l.length) : rd_T25 l (i : Int) = l[i] := by
  unfold rd_T25
  rw [Int.toNat_natCast, List.getD_eq_getElem?_getD, List.getElem?_eq_getElem h, Option.getD_some]
theorem tn_mem (l : List TNode) (i : Nat) (h : i < l.length) : rd_T25 l (i : Int) ∈ l := by
  rw [tn_rd l i h]
  exact List.getElem_mem h
abbrev weightE (k : Nat) (x : TNode) (d : Int) : Option Int := ductusref16_Weight.f k x.f0 x.f1 x.f2 x.f3 x.f4 d
theorem weight_loop (f0 : Int) (f1 : List TRange) (f2 f3 : Int) (l : List TNode) (d B : Int) (hd : 0 ≤ d ∧ d ≤ 100) (hB : 0 ≤ B ∧ B < 8000000000000000000) (hl : l.length < 2199023255552) (hk : ∀ y ∈ l, ∃ W, Ev (fun k => weightE k y (d + 1)) W ∧ 1 ≤ W ∧ W ≤ B) (m : Nat) :
    ∀ (i : Nat) (s : Int), i + m = l.length → 1 ≤ s → s ≤ 9000000000000000000 → ∃ W, Ev (fun k => ductusref16_Weight.l0 k d s (i : Int) f0 f1 f2 f3 l) W ∧ s ≤ W ∧ (W ≤ s ∨ W ≤ 2000 + B) := by
  induction m with
  | zero =>
    intro i s hi h1 h2
    refine ⟨s, ev_one fun k => ?_, Int.le_refl _, .inl (Int.le_refl _)⟩
    simp only [ductusref16_Weight.l0]
    rw [if_neg (by omega)]
  | succ m ih =>
    intro i s hi h1 h2
    by_cases hs : s ≤ 2000
    · obtain ⟨V, hV, hV1, hV2⟩ := hk _ (tn_mem l i (by omega))
      obtain ⟨W, hW, hW1, hW2⟩ := ih (i + 1) (s + V) (by omega) (by omega) (by omega)
      refine ⟨W, ?_, by omega, by omega⟩
      have w1 : wrap64 (d + 1) = d + 1 := wrap_id (by omega) (by omega)
      have c1 : (i : Int) < (l.length : Int) := by omega
      have c2 : (0 : Int) ≤ (i : Int) := by omega
      have w2 : wrap64 (s + V) = s + V := wrap_id (by omega) (by omega)
      have w3 : wrap64 ((i : Int) + 1) = ((i + 1 : Nat) : Int) := wrap_succ i (by omega)
      refine ev_step2 hV hW fun k h1 h2 => ?_
      simp only [ductusref16_Weight.l0]
      rw [if_pos c1, if_pos hs, if_pos c2, w1]
      have h1' : ductusref16_Weight.f k (rd_T25 l (i : Int)).f0 (rd_T25 l (i : Int)).f1 (rd_T25 l (i : Int)).f2 (rd_T25 l (i : Int)).f3 (rd_T25 l (i : Int)).f4 (d + 1) = some V := h1
      rw [h1', Option.bind_some, w2, w3]
      exact h2
    · have c1 : (i : Int) < (l.length : Int) := by omega
      refine ⟨s, ev_one fun k => ?_, Int.le_refl _, .inl (Int.le_refl _)⟩
      simp only [ductusref16_Weight.l0]
      rw [if_pos c1, if_neg hs]
theorem weight_ev (x : TNode) : WfN x → ∀ d : Nat, d ≤ 101 → ∃ W, Ev (fun k => weightE k x (d : Int)) W ∧ 1 ≤ W ∧ W ≤ 8796093025208 + 2000 * (101 - (d : Int)) := by
  induction x using node_ind with
  | h x ih =>
    intro hw d hd
    obtain ⟨_, h0, h1, l1, h2, h3, l4, hk⟩ := hw
    by_cases hd1 : d = 101
    · subst hd1
      refine ⟨3000, ev_one fun k => ?_, by omega, by omega⟩
      simp only [weightE, ductusref16_Weight.f]
      rw [if_pos (by omega)]
    · have w1 : wrap64 (1 + (x.f1.length : Int)) = 1 + (x.f1.length : Int) := wrap_id (by omega) (by omega)
      obtain ⟨W, hW, hW1, hW2⟩ := weight_loop x.f0 x.f1 x.f2 x.f3 x.f4 (d : Int) (8796093025208 + 2000 * (101 - ((d + 1 : Nat) : Int))) (by omega) (by omega) l4 (fun y hy => by
        obtain ⟨W, hW, hW1, hW2⟩ := ih y hy (hk y hy) (d + 1) (by omega)
        exact ⟨W, hW, hW1, hW2⟩) x.f4.length 0 (1 + (x.f1.length : Int)) (by omega) (by omega) (by omega)
      refine ⟨W, ?_, by omega, by omega⟩
      refine ev_step hW fun k h => ?_
      simp only [weightE, ductusref16_Weight.f]
      rw [if_neg (by omega), w1]
      exact h
mutual
def sizeT : TNode → Int
  | ⟨f0, _, f2, f3, f4⟩ => sizesT (multT f0 f2 f3) f4 1
def sizesT (t : Int) : List TNode → Int → Int
  | [], s => s
  | x :: l, s => sizesT t l (mn 1000000 (s + t * sizeT x))
end
theorem mn_le (a b : Int) : mn a b ≤ a ∧ mn a b ≤ b := by unfold mn; split <;> omega
theorem sizes_rng (t : Int) (ht : 1 ≤ t ∧ t ≤ 1000000) : ∀ (l : List TNode), (∀ y ∈ l, 1 ≤ sizeT y ∧ sizeT y ≤ 1000000) → ∀ s, 1 ≤ s → s ≤ 1000000 → s ≤ sizesT t l s ∧ sizesT t l s ≤ 1000000
  | [], _, s, h1, h2 => by simp only [sizesT]; omega
  | y :: l, hy, s, h1, h2 => by
    have h3 := hy y (by simp)
    have h4 : 0 ≤ t * sizeT y := Int.mul_nonneg (by omega) (by omega)
    have h5 := mn_le 1000000 (s + t * sizeT y)
    have h6 : s ≤ mn 1000000 (s + t * sizeT y) := by unfold mn; split <;> omega
    have h7 := sizes_rng t ht l (fun z hz => hy z (by simp [hz])) (mn 1000000 (s + t * sizeT y)) (by omega) (by omega)
    simp only [sizesT]
    omega
theorem size_rng (x : TNode) : 1 ≤ sizeT x ∧ sizeT x ≤ 1000000 := by
  induction x using node_ind with
  | h x ih =>
    obtain ⟨f0, f1, f2, f3, f4⟩ := x
    simp only [sizeT]
    exact sizes_rng _ (multT_le _ _ _) f4 ih 1 (by omega) (by omega)
abbrev sizeE (k : Nat) (x : TNode) : Option Int := ductusref16_Size.f k x.f0 x.f1 x.f2 x.f3 x.f4
theorem sizes_ev (t : Int) (ht : 1 ≤ t ∧ t ≤ 1000000) : ∀ (l : List TNode), (∀ y ∈ l, Ev (fun k => sizeC k y) (sizeT y)) → ∀ s, 1 ≤ s → s ≤ 1000000 → Ev (fun k => sizesC (sizeC k) t l s) (sizesT t l s)
  | [], _, s, h1, h2 => ev_now fun k => by simp only [sizesC, sizesT]
  | y :: l, hy, s, h1, h2 => by
    have h3 := size_rng y
    have h4 : 0 ≤ t * sizeT y := Int.mul_nonneg (by omega) (by omega)
    have h5 : 1 ≤ mn 1000000 (s + t * sizeT y) ∧ mn 1000000 (s + t * sizeT y) ≤ 1000000 := by unfold mn; split <;> omega
    refine ev_same2 (hy y (by simp)) (sizes_ev t ht l (fun z hz => hy z (by simp [hz])) _ h5.1 h5.2) fun k e1 e2 => ?_
    simp only [sizesC, sizesT]
    rw [e1, Option.bind_some, if_pos ⟨h3.1, h3.2, h1, h2⟩]
    exact e2
theorem size_ev (x : TNode) : WfN x → Ev (fun k => sizeE k x) (sizeT x) := by
  have e : (fun k => sizeE k x) = fun k => sizeC k x := by
    funext k
    obtain ⟨f0, f1, f2, f3, f4⟩ := x
    rfl
  rw [e]
  clear e
  induction x using node_ind with
  | h x ih =>
    intro hw
    obtain ⟨_, h0, h1, l1, h2, h3, l4, hk⟩ := hw
    obtain ⟨f0, f1, f2, f3, f4⟩ := x
    refine ev_step (sizes_ev (multT f0 f2 f3) (multT_le _ _ _) f4 (fun y hy => ih y hy (hk y hy)) 1 (by omega) (by omega)) fun k e => ?_
    simp only [sizeC, sizeT]
    rw [if_pos h2.1]
    exact e
end Go.Proofs.Ytbbplchdgedhcaa.P
namespace Go.Proofs.Ytbbplchdgedhcaa.P
open Go.RowKit Go.Proofs.YtbbplchdgedhcaaW.PrintWords Go.Proofs.YtbbplchdgedhcaaW.PrintLast
set_option linter.unusedVariables false
set_option linter.unusedSimpArgs false

abbrev TInst : Type := S39
def repB (f2 f3 : Int) (n : Nat) : Bool := !(decide (n ≠ 1 ∨ f2 < 0 ∨ f2 > 20 ∨ f3 < -1 ∨ f3 > 20 ∨ f3 ≥ 0 ∧ f3 < f2))
mutual
def letB : TNode → Bool
  | ⟨f0, _, f2, f3, f4⟩ => if f0 < 1 ∨ f0 > 7 then false else if f0 = 5 then repB f2 f3 f4.length && letsB f4 else if f0 = 3 ∨ f0 = 4 then letsB f4 else true
def letsB : List TNode → Bool
  | [] => true
  | x :: l => letB x && letsB l
end
mutual
def lenM : TNode → Nat
  | ⟨f0, _, f2, f3, f4⟩ => if f0 = 2 then 1 else if f0 = 6 then 1 else if f0 = 7 then 1 else if f0 = 3 then joinN f4 else if f0 = 4 then orN f4
      else if f0 = 5 then f2.toNat * headN f4 + (if f3 < 0 then headN f4 + 2 else (f3 - f2).toNat * (headN f4 + 1)) else 0
def joinN : List TNode → Nat
  | [] => 0
  | x :: l => lenM x + joinN l
def orN : List TNode → Nat
  | [] => 0
  | x :: l => if l.length = 0 then lenM x else lenM x + 2 + orN l
def headN : List TNode → Nat
  | [] => 0
  | x :: _ => lenM x
end
def timesM (g : Nat → List TInst) (len : Nat) : Nat → Nat → List TInst
  | 0, _ => []
  | n + 1, a => g a ++ timesM g len n (a + len)
def optM (g : Nat → List TInst) (len fin : Nat) : Nat → Nat → List TInst
  | 0, _ => []
  | n + 1, a => ⟨2, [], (a : Int) + 1, (fin : Int)⟩ :: (g (a + 1) ++ optM g len fin n (a + 1 + len))
def starM (g : Nat → List TInst) (len : Nat) (a : Nat) : List TInst := ⟨2, [], (a : Int) + 1, ((a + 2 + len : Nat) : Int)⟩ :: (g (a + 1) ++ [⟨3, [], (a : Int), 0⟩])
mutual
def layM : TNode → Nat → List TInst
  | ⟨f0, f1, f2, f3, f4⟩, a => if f0 = 2 then [⟨1, f1, 0, 0⟩] else if f0 = 6 then [⟨4, [], 0, 0⟩] else if f0 = 7 then [⟨5, [], 0, 0⟩] else if f0 = 3 then joinM f4 a else if f0 = 4 then orM f4 a (a + orN f4)
      else if f0 = 5 then timesM (fun b => headM f4 b) (headN f4) f2.toNat a ++ (if f3 < 0 then starM (fun b => headM f4 b) (headN f4) (a + f2.toNat * headN f4)
        else optM (fun b => headM f4 b) (headN f4) (a + f2.toNat * headN f4 + (f3 - f2).toNat * (headN f4 + 1)) (f3 - f2).toNat (a + f2.toNat * headN f4)) else []
def joinM : List TNode → Nat → List TInst
  | [], _ => []
  | x :: l, a => layM x a ++ joinM l (a + lenM x)
def orM : List TNode → Nat → Nat → List TInst
  | [], _, _ => []
  | x :: l, a, fin => if l.length = 0 then layM x a else ⟨2, [], (a : Int) + 1, ((a + 2 + lenM x : Nat) : Int)⟩ :: (layM x (a + 1) ++ ⟨3, [], (fin : Int), 0⟩ :: orM l (a + 2 + lenM x) fin)
def headM : List TNode → Nat → List TInst
  | [], _ => []
  | x :: _, a => layM x a
end
theorem timesM_len (g : Nat → List TInst) (len : Nat) (hg : ∀ a, (g a).length = len) : ∀ n a, (timesM g len n a).length = n * len
  | 0, _ => by simp [timesM]
  | n + 1, a => by
    rw [timesM, List.length_append, hg, timesM_len g len hg n, Nat.succ_mul]
    omega
theorem optM_len (g : Nat → List TInst) (len fin : Nat) (hg : ∀ a, (g a).length = len) : ∀ n a, (optM g len fin n a).length = n * (len + 1)
  | 0, _ => by simp [optM]
  | n + 1, a => by
    rw [optM, List.length_cons, List.length_append, hg, optM_len g len fin hg n, Nat.succ_mul]
    omega
theorem joinM_len : ∀ (l : List TNode), (∀ y ∈ l, ∀ a, (layM y a).length = lenM y) → ∀ a, (joinM l a).length = joinN l
  | [], _, a => by simp [joinM, joinN]
  | x :: l, h, a => by
    rw [joinM, List.length_append, h x (by simp), joinM_len l (fun y hy => h y (by simp [hy])), joinN]
theorem orM_len : ∀ (l : List TNode), (∀ y ∈ l, ∀ a, (layM y a).length = lenM y) → ∀ a fin, (orM l a fin).length = orN l
  | [], _, a, fin => by simp [orM, orN]
  | x :: l, h, a, fin => by
    rw [orM, orN]
    split
    · exact h x (by simp) a
    · rw [List.length_cons, List.length_append, List.length_cons, h x (by simp), orM_len l (fun y hy => h y (by simp [hy]))]
      omega
theorem headM_len (l : List TNode) (h : ∀ y ∈ l, ∀ a, (layM y a).length = lenM y) (a : Nat) : (headM l a).length = headN l := by
  cases l with
  | nil => simp [headM, headN]
  | cons x l => rw [headM, headN, h x (by simp)]
theorem layM_len (x : TNode) : ∀ a, (layM x a).length = lenM x := by
  induction x using node_ind with
  | h x ih =>
    intro a
    obtain ⟨f0, f1, f2, f3, f4⟩ := x
    rw [layM, lenM]
    have hh : ∀ b, ((fun b => headM f4 b) b).length = headN f4 := fun b => headM_len f4 ih b
    repeat' split
    all_goals first
      | rfl
      | exact joinM_len f4 ih a
      | exact orM_len f4 ih a _
      | rw [List.length_append, timesM_len _ _ hh, starM, List.length_cons, List.length_append, hh, List.length_singleton]
      | rw [List.length_append, timesM_len _ _ hh, optM_len _ _ _ hh]
def sumS : List TNode → Int
  | [] => 0
  | y :: l => sizeT y + sumS l
theorem sizes_exact (t : Int) (ht : 1 ≤ t ∧ t ≤ 1000000) : ∀ (l : List TNode) s, 1 ≤ s → s ≤ 1000000 → sizesT t l s < 1000000 → sizesT t l s = s + t * sumS l ∧ ∀ y ∈ l, sizeT y < 1000000
  | [], s, h1, h2, h => by simp [sizesT, sumS]
  | y :: l, s, h1, h2, h => by
    have h3 := size_rng y
    have h4 : sizeT y ≤ t * sizeT y := by
      have := Int.mul_le_mul_of_nonneg_right ht.1 (show 0 ≤ sizeT y by omega)
      rw [Int.one_mul] at this
      exact this
    have h6 : 1 ≤ mn 1000000 (s + t * sizeT y) ∧ mn 1000000 (s + t * sizeT y) ≤ 1000000 := by unfold mn; split <;> omega
    rw [sizesT] at h
    have h7 := sizes_rng t ht l (fun z _ => size_rng z) _ h6.1 h6.2
    have h8 : mn 1000000 (s + t * sizeT y) = s + t * sizeT y := by
      have : mn 1000000 (s + t * sizeT y) < 1000000 := by omega
      revert this
      unfold mn
      split <;> omega
    have h9 := sizes_exact t ht l _ h6.1 h6.2 h
    have h10 : s + t * sizeT y < 1000000 := by omega
    rw [sizesT, h9.1, h8, sumS, Int.mul_add]
    refine ⟨by omega, fun z hz => ?_⟩
    rcases List.mem_cons.1 hz with rfl | hz
    · omega
    · exact h9.2 z hz
theorem sumS_nn : ∀ l : List TNode, 0 ≤ sumS l
  | [] => by simp [sumS]
  | y :: l => by
    have h1 := size_rng y
    have h2 := sumS_nn l
    rw [sumS]
    omega
theorem joinN_le : ∀ (l : List TNode), (∀ y ∈ l, (lenM y : Int) ≤ 3 * sizeT y - 2) → (joinN l : Int) ≤ 3 * sumS l
  | [], _ => by simp [joinN, sumS]
  | y :: l, h => by
    have h1 := h y (by simp)
    have h2 := joinN_le l (fun z hz => h z (by simp [hz]))
    rw [joinN, sumS]
    omega
theorem orN_le : ∀ (l : List TNode), (∀ y ∈ l, (lenM y : Int) ≤ 3 * sizeT y - 2) → (orN l : Int) ≤ 3 * sumS l
  | [], _ => by simp [orN, sumS]
  | y :: l, h => by
    have h1 := h y (by simp)
    have h2 := orN_le l (fun z hz => h z (by simp [hz]))
    have h3 := sumS_nn l
    rw [orN, sumS]
    split <;> omega
theorem letsB_all : ∀ (l : List TNode), letsB l = true → ∀ y ∈ l, letB y = true
  | [], _, y, hy => by simp at hy
  | x :: l, h, y, hy => by
    rw [letsB, Bool.and_eq_true] at h
    rcases List.mem_cons.1 hy with rfl | hy
    · exact h.1
    · exact letsB_all l h.2 y hy
theorem repB_iff {f2 f3 : Int} {n : Nat} (h : repB f2 f3 n = true) : n = 1 ∧ 0 ≤ f2 ∧ f2 ≤ 20 ∧ -1 ≤ f3 ∧ f3 ≤ 20 ∧ (f3 < 0 ∨ f2 ≤ f3) := by
  simp only [repB, Bool.not_eq_true', decide_eq_false_iff_not] at h
  omega
theorem len_le (x : TNode) : letB x = true → sizeT x < 1000000 → (lenM x : Int) ≤ 3 * sizeT x - 2 := by
  induction x using node_ind with
  | h x ih =>
    intro hl hs
    obtain ⟨f0, f1, f2, f3, f4⟩ := x
    simp only at ih
    rw [letB] at hl
    rw [sizeT] at hs ⊢
    have ht := multT_le f0 f2 f3
    have he := sizes_exact (multT f0 f2 f3) ht f4 1 (by omega) (by omega) hs
    rw [he.1]
    have hn := sumS_nn f4
    have hts : sumS f4 ≤ multT f0 f2 f3 * sumS f4 := by
      have := Int.mul_le_mul_of_nonneg_right ht.1 hn
      rw [Int.one_mul] at this
      exact this
    by_cases c0 : f0 < 1 ∨ f0 > 7
    · rw [if_pos c0] at hl
      cases hl
    rw [if_neg c0] at hl
    rw [lenM]
    by_cases c2 : f0 = 2
    · rw [if_pos c2]
      omega
    rw [if_neg c2]
    by_cases c6 : f0 = 6
    · rw [if_pos c6]
      omega
    rw [if_neg c6]
    by_cases c7 : f0 = 7
    · rw [if_pos c7]
      omega
    rw [if_neg c7]
    by_cases c3 : f0 = 3
    · rw [if_pos c3]
      rw [if_neg (by omega), if_pos (.inl c3)] at hl
      have := joinN_le f4 fun y hy => ih y hy (letsB_all f4 hl y hy) (he.2 y hy)
      omega
    rw [if_neg c3]
    by_cases c4 : f0 = 4
    · rw [if_pos c4]
      rw [if_neg (by omega), if_pos (.inr c4)] at hl
      have := orN_le f4 fun y hy => ih y hy (letsB_all f4 hl y hy) (he.2 y hy)
      omega
    rw [if_neg c4]
    by_cases c5 : f0 = 5
    · rw [if_pos c5]
      rw [if_pos c5, Bool.and_eq_true] at hl
      obtain ⟨r1, r2, r3, r4, r5, r6⟩ := repB_iff hl.1
      obtain ⟨y, rfl⟩ := List.length_eq_one_iff.1 r1
      have hy := ih y (by simp) (letsB_all [y] hl.2 y (by simp)) (he.2 y (by simp))
      have hy2 := size_rng y
      rw [headN]
      have es : sumS [y] = sizeT y := by simp [sumS]
      rw [es]
      obtain ⟨n2, rfl⟩ : ∃ n : Nat, f2 = (n : Int) := ⟨f2.toNat, by omega⟩
      rw [Int.toNat_natCast]
      by_cases c8 : f3 < 0
      · rw [if_pos c8]
        have et : multT f0 (n2 : Int) f3 = ((n2 + 1 : Nat) : Int) := by
          unfold multT mn mx
          rw [if_pos c5, if_pos c8]
          repeat' split
          all_goals omega
        rw [et]
        have m1 : ((n2 + 1 : Nat) : Int) * (lenM y : Int) ≤ ((n2 + 1 : Nat) : Int) * (3 * sizeT y - 2) := Int.mul_le_mul_of_nonneg_left hy (by omega)
        have m2 : ((n2 + 1 : Nat) : Int) * (3 * sizeT y - 2) = 3 * (((n2 + 1 : Nat) : Int) * sizeT y) - 2 * ((n2 + 1 : Nat) : Int) := by
          rw [Int.mul_sub, Int.mul_left_comm, Int.mul_comm _ 2]
        have m3 : ((n2 + 1 : Nat) : Int) * (lenM y : Int) = ((n2 * lenM y + lenM y : Nat) : Int) := by
          rw [← Int.natCast_mul, Nat.succ_mul]
        omega
      · rw [if_neg c8]
        obtain ⟨n3, rfl⟩ : ∃ n : Nat, f3 = (n : Int) := ⟨f3.toNat, by omega⟩
        obtain ⟨d, rfl⟩ : ∃ d, n3 = n2 + d := ⟨n3 - n2, by omega⟩
        have e3 : (((n2 + d : Nat) : Int) - (n2 : Int)).toNat = d := by omega
        rw [e3]
        by_cases c9 : n2 + d = 0
        · have z : n2 * lenM y + d * (lenM y + 1) = 0 := by
            rw [show n2 = 0 by omega, show d = 0 by omega, Nat.zero_mul, Nat.zero_mul]
          rw [z]
          rw [es] at hts
          omega
        have et : multT f0 (n2 : Int) ((n2 + d : Nat) : Int) = ((n2 + d : Nat) : Int) := by
          unfold multT mn mx
          rw [if_pos c5, if_neg c8]
          repeat' split
          all_goals omega
        rw [et]
        have m1 : ((n2 + d : Nat) : Int) * (lenM y : Int) ≤ ((n2 + d : Nat) : Int) * (3 * sizeT y - 2) := Int.mul_le_mul_of_nonneg_left hy (by omega)
        have m2 : ((n2 + d : Nat) : Int) * (3 * sizeT y - 2) = 3 * (((n2 + d : Nat) : Int) * sizeT y) - 2 * ((n2 + d : Nat) : Int) := by
          rw [Int.mul_sub, Int.mul_left_comm, Int.mul_comm _ 2]
        have m3 : ((n2 + d : Nat) : Int) * (lenM y : Int) = ((n2 * lenM y + d * lenM y : Nat) : Int) := by
          rw [← Int.natCast_mul, Nat.add_mul]
        have m4 : d * (lenM y + 1) = d * lenM y + d := by rw [Nat.mul_add, Nat.mul_one]
        rw [m4]
        omega
    rw [if_neg c5]
    omega
end Go.Proofs.Ytbbplchdgedhcaa.P
namespace Go.Proofs.Ytbbplchdgedhcaa.P
open Go.RowKit Go.Proofs.YtbbplchdgedhcaaW.PrintWords Go.Proofs.YtbbplchdgedhcaaW.PrintLast
set_option linter.unusedVariables false
set_option linter.unusedSimpArgs false

theorem toP_app (n : Int) (p m : List TInst) (j : Int) (h : 0 ≤ j ∧ j < (p.length : Int)) : toP n (p ++ m) j = toP n p j ++ m ∧ (toP n p j).length = p.length := by
  obtain ⟨k, rfl⟩ : ∃ k : Nat, j = (k : Int) := ⟨j.toNat, by omega⟩
  have hk : k < p.length := by omega
  unfold toP
  simp only [Int.toNat_natCast, List.length_set, and_true]
  have e : (p ++ m).getD k z39 = p.getD k z39 := by
    rw [List.getD_eq_getElem?_getD, List.getD_eq_getElem?_getD, List.getElem?_append_left hk]
  rw [e, List.set_append_left _ _ hk]
theorem altP_app (n : Int) (p m : List TInst) (j : Int) (h : 0 ≤ j ∧ j < (p.length : Int)) : altP n (p ++ m) j = altP n p j ++ m ∧ (altP n p j).length = p.length := by
  obtain ⟨k, rfl⟩ : ∃ k : Nat, j = (k : Int) := ⟨j.toNat, by omega⟩
  have hk : k < p.length := by omega
  unfold altP
  simp only [Int.toNat_natCast, List.length_set, and_true]
  have e : (p ++ m).getD k z39 = p.getD k z39 := by
    rw [List.getD_eq_getElem?_getD, List.getD_eq_getElem?_getD, List.getElem?_append_left hk]
  rw [e, List.set_append_left _ _ hk]
theorem toP_at (n : Int) (p m : List TInst) (e : TInst) (k : Nat) (hk : k = p.length) : toP n (p ++ e :: m) (k : Int) = p ++ ⟨e.f0, e.f1, n, e.f3⟩ :: m := by
  subst hk
  unfold toP
  have h : (p ++ e :: m).getD p.length z39 = e := by
    rw [List.getD_eq_getElem?_getD, List.getElem?_append_right (Nat.le_refl _), Nat.sub_self]
    rfl
  rw [Int.toNat_natCast, h, List.set_append_right _ _ (Nat.le_refl _), Nat.sub_self]
  rfl
theorem altP_at (n : Int) (p m : List TInst) (e : TInst) (k : Nat) (hk : k = p.length) : altP n (p ++ e :: m) (k : Int) = p ++ ⟨e.f0, e.f1, e.f2, n⟩ :: m := by
  subst hk
  unfold altP
  have h : (p ++ e :: m).getD p.length z39 = e := by
    rw [List.getD_eq_getElem?_getD, List.getElem?_append_right (Nat.le_refl _), Nat.sub_self]
    rfl
  rw [Int.toNat_natCast, h, List.set_append_right _ _ (Nat.le_refl _), Nat.sub_self]
  rfl
def inR (js : List Int) (n : Nat) : Prop := ∀ j ∈ js, 0 ≤ j ∧ j < (n : Int)
theorem inR.mono {js : List Int} {n m : Nat} (h : inR js n) (hm : n ≤ m) : inR js m := fun j hj => by
  have := h j hj
  omega
theorem inR.snoc {js : List Int} {n m k : Nat} (h : inR js n) (hm : n ≤ m) (hk : k < m) : inR (js ++ [(k : Int)]) m := fun j hj => by
  rcases List.mem_append.1 hj with hj | hj
  · have := h j hj
    omega
  · rw [List.mem_singleton.1 hj]
    omega
theorem fold_app (F : List TInst → Int → List TInst) (hF : ∀ p m j, 0 ≤ j ∧ j < (p.length : Int) → F (p ++ m) j = F p j ++ m ∧ (F p j).length = p.length) : ∀ (js : List Int) (p m : List TInst), inR js p.length → js.foldl F (p ++ m) = js.foldl F p ++ m ∧ (js.foldl F p).length = p.length
  | [], p, m, _ => ⟨rfl, rfl⟩
  | j :: js, p, m, h => by
    have h1 := hF p m j (h j (by simp))
    have h2 := fold_app F hF js (F p j) m (by rw [h1.2]; exact fun i hi => h i (by simp [hi]))
    rw [List.foldl_cons, List.foldl_cons, h1.1, h2.1, h2.2, h1.2]
    exact ⟨rfl, rfl⟩
theorem tosC_ok (p : List TInst) (js : List Int) (h : inR js p.length) : tosC p js = some (js.foldl (toP (p.length : Int)) p) := if_pos h
theorem altsC_ok (p : List TInst) (js : List Int) (h : inR js p.length) : altsC p js = some (js.foldl (altP (p.length : Int)) p) := if_pos h
theorem inR_one {k n : Nat} (h : k < n) : inR [(k : Int)] n := fun j hj => by
  rw [List.mem_singleton.1 hj]
  omega
/-- What a node does to a program, from some depth on. -/
def LaysC (x : TNode) : Prop := ∀ p : List TInst, p.length + lenM x ≤ 1000000000000 → Ev (fun k => nodeC k x p) (p ++ layM x p.length)
theorem layI_ok (p : List TInst) (x : TInst) (h : p.length < 1000000000000) : layI p x = some (p ++ [x]) := by
  rw [layI, if_pos (by omega)]
theorem joinC_ev : ∀ (l : List TNode), (∀ y ∈ l, LaysC y) → ∀ p : List TInst, p.length + joinN l ≤ 1000000000000 → Ev (fun k => joinC (nodeC k) l p) (p ++ joinM l p.length)
  | [], _, p, hp => ev_now fun k => by simp [joinC, joinM]
  | y :: l, h, p, hp => by
    rw [joinN] at hp
    have hl := layM_len y p.length
    refine ev_same2 (h y (by simp) p (by omega)) (joinC_ev l (fun z hz => h z (by simp [hz])) (p ++ layM y p.length) (by rw [List.length_append, hl]; omega)) fun k h1 h2 => ?_
    rw [joinC, h1, Option.bind_some, h2, joinM, List.length_append, hl, List.append_assoc]
theorem timesC_ev (y : TNode) (h : LaysC y) : ∀ (n : Nat) (p : List TInst), p.length + n * lenM y ≤ 1000000000000 → Ev (fun k => timesC (nodeC k y) n p) (p ++ timesM (fun b => layM y b) (lenM y) n p.length)
  | 0, p, hp => ev_now fun k => by simp [timesC, timesM]
  | n + 1, p, hp => by
    rw [Nat.succ_mul] at hp
    have hl := layM_len y p.length
    refine ev_same2 (h p (by omega)) (timesC_ev y h n (p ++ layM y p.length) (by rw [List.length_append, hl]; omega)) fun k h1 h2 => ?_
    rw [timesC, h1, Option.bind_some, h2, timesM, List.length_append, hl, List.append_assoc]
theorem orC_ev (fin : Nat) : ∀ (l : List TNode), (∀ y ∈ l, LaysC y) → ∀ (p : List TInst) (js : List Int), p.length + orN l = fin → fin ≤ 1000000000000 → inR js p.length → js.length ≤ p.length →
    Ev (fun k => (orL (nodeC k) l p js).bind fun q => tosC q.1 q.2) (js.foldl (toP (fin : Int)) p ++ orM l p.length fin)
  | [], _, p, js, hf, hb, hj, hn => ev_now fun k => by
    rw [orN, Nat.add_zero] at hf
    rw [orL, Option.bind_some, tosC_ok _ _ hj, orM, List.append_nil, ← hf]
  | y :: l, h, p, js, hf, hb, hj, hn => by
    rw [orN] at hf
    by_cases c : l.length = 0
    · rw [if_pos c] at hf
      have hl := layM_len y p.length
      refine ev_same (h y (by simp) p (by omega)) fun k h1 => ?_
      have hq : (p ++ layM y p.length).length = fin := by rw [List.length_append, hl, hf]
      rw [orL, if_pos c, h1, Option.map_some, Option.bind_some, tosC_ok _ _ (hj.mono (by rw [hq]; omega)), hq, (fold_app _ (toP_app _) js p _ hj).1, orM, if_pos c]
    · rw [if_neg c] at hf
      have hl := layM_len y (p.length + 1)
      have F := fold_app _ (toP_app (fin : Int)) js p
      have e3 : (p ++ [(⟨2, [], (p.length : Int) + 1, 0⟩ : TInst)] ++ layM y (p.length + 1) ++ [(⟨3, [], 0, 0⟩ : TInst)]).length = p.length + 2 + lenM y := by
        simp only [List.length_append, List.length_singleton, hl]
        omega
      have ih := orC_ev fin l (fun z hz => h z (by simp [hz])) (p ++ ⟨2, [], (p.length : Int) + 1, ((p.length + 2 + lenM y : Nat) : Int)⟩ :: (layM y (p.length + 1) ++ [⟨3, [], 0, 0⟩])) (js ++ [((p.length + 1 + lenM y : Nat) : Int)])
        (by simp only [List.length_append, List.length_cons, List.length_nil, hl]; omega) hb (hj.snoc (by simp only [List.length_append]; omega) (by simp only [List.length_append, List.length_cons, List.length_nil, hl]; omega))
        (by simp only [List.length_append, List.length_cons, List.length_nil, hl]; omega)
      refine ev_same2 (h y (by simp) (p ++ [⟨2, [], (p.length : Int) + 1, 0⟩]) (by simp only [List.length_append, List.length_singleton]; omega)) ih fun k h1 h2 => ?_
      rw [List.length_append, List.length_singleton] at h1
      have e2 : (p ++ [(⟨2, [], (p.length : Int) + 1, 0⟩ : TInst)] ++ layM y (p.length + 1)).length = p.length + 1 + lenM y := by
        simp only [List.length_append, List.length_singleton, hl]
      rw [orL, if_neg c, if_pos (by omega), layI_ok p _ (by omega), Option.bind_some, h1, Option.bind_some, layI_ok _ _ (by rw [e2]; omega), Option.bind_some, altsC_ok _ _ (inR_one (by rw [e3]; omega)), e3, e2, Option.bind_some, List.foldl_cons, List.foldl_nil]
      have e4 : altP ((p.length + 2 + lenM y : Nat) : Int) (p ++ [(⟨2, [], (p.length : Int) + 1, 0⟩ : TInst)] ++ layM y (p.length + 1) ++ [⟨3, [], 0, 0⟩]) (p.length : Int) = p ++ ⟨2, [], (p.length : Int) + 1, ((p.length + 2 + lenM y : Nat) : Int)⟩ :: (layM y (p.length + 1) ++ [⟨3, [], 0, 0⟩]) := by
        have := altP_at ((p.length + 2 + lenM y : Nat) : Int) p (layM y (p.length + 1) ++ [⟨3, [], 0, 0⟩]) ⟨2, [], (p.length : Int) + 1, 0⟩ p.length rfl
        rw [← this]
        simp only [List.append_assoc, List.singleton_append, List.cons_append, List.nil_append]
      rw [e4, h2, List.foldl_append, List.foldl_cons, List.foldl_nil, (F _ hj).1]
      have F2 := (F [] hj).2
      have e5 : List.foldl (toP (fin : Int)) p js ++ (⟨2, [], (p.length : Int) + 1, ((p.length + 2 + lenM y : Nat) : Int)⟩ : TInst) :: (layM y (p.length + 1) ++ [⟨3, [], 0, 0⟩]) = (List.foldl (toP (fin : Int)) p js ++ (⟨2, [], (p.length : Int) + 1, ((p.length + 2 + lenM y : Nat) : Int)⟩ : TInst) :: layM y (p.length + 1)) ++ ⟨3, [], 0, 0⟩ :: [] := by
        simp only [List.append_assoc, List.cons_append, List.nil_append]
      have e6 : (p ++ (⟨2, [], (p.length : Int) + 1, ((p.length + 2 + lenM y : Nat) : Int)⟩ : TInst) :: (layM y (p.length + 1) ++ [⟨3, [], 0, 0⟩])).length = p.length + 2 + lenM y := by
        simp only [List.length_append, List.length_cons, List.length_nil, hl]
        omega
      rw [e5, toP_at (fin : Int) _ _ _ _ (by rw [List.length_append, F2, List.length_cons, hl]; omega), e6, orM, if_neg c]
      simp only [List.append_assoc, List.cons_append, List.nil_append]
theorem optC_ev (y : TNode) (h : LaysC y) (fin : Nat) : ∀ (n : Nat) (p : List TInst) (js : List Int), p.length + n * (lenM y + 1) = fin → fin ≤ 1000000000000 → inR js p.length → js.length ≤ p.length →
    Ev (fun k => (optC (nodeC k y) n p js).bind fun q => altsC q.1 q.2) (js.foldl (altP (fin : Int)) p ++ optM (fun b => layM y b) (lenM y) fin n p.length)
  | 0, p, js, hf, hb, hj, hn => ev_now fun k => by
    rw [Nat.zero_mul, Nat.add_zero] at hf
    rw [optC, Option.bind_some, altsC_ok _ _ hj, optM, List.append_nil, ← hf]
  | n + 1, p, js, hf, hb, hj, hn => by
    rw [Nat.succ_mul] at hf
    have hl := layM_len y (p.length + 1)
    have F := fold_app _ (altP_app (fin : Int)) js p
    have e2 : (p ++ [(⟨2, [], (p.length : Int) + 1, 0⟩ : TInst)] ++ layM y (p.length + 1)).length = p.length + 1 + lenM y := by
      simp only [List.length_append, List.length_singleton, hl]
    have ih := optC_ev y h fin n (p ++ [⟨2, [], (p.length : Int) + 1, 0⟩] ++ layM y (p.length + 1)) (js ++ [(p.length : Int)]) (by rw [e2]; omega) hb (hj.snoc (by rw [e2]; omega) (by rw [e2]; omega))
      (by rw [e2, List.length_append, List.length_singleton]; omega)
    refine ev_same2 (h (p ++ [⟨2, [], (p.length : Int) + 1, 0⟩]) (by simp only [List.length_append, List.length_singleton]; omega)) ih fun k h1 h2 => ?_
    rw [List.length_append, List.length_singleton] at h1
    rw [optC, if_pos (by omega), layI_ok p _ (by omega), Option.bind_some, h1, Option.bind_some, h2, List.foldl_append, List.foldl_cons, List.foldl_nil, List.append_assoc, (F _ hj).1]
    have F2 := (F [] hj).2
    rw [List.singleton_append, altP_at (fin : Int) _ _ _ _ F2.symm, List.length_append, List.length_cons, hl, optM]
    simp only [List.append_assoc, List.cons_append, List.nil_append]
    have e7 : p.length + (lenM y + 1) = p.length + 1 + lenM y := by omega
    rw [e7]
theorem laysC (x : TNode) : WfN x → letB x = true → LaysC x := by
  induction x using node_ind with
  | h x ih =>
    intro hw hl p hp
    obtain ⟨_, h0, h1, l1, h2, h3, l4, hk⟩ := hw
    obtain ⟨f0, f1, f2, f3, f4⟩ := x
    simp only at ih l1 l4 hk
    rw [letB] at hl
    rw [lenM] at hp
    rw [layM]
    by_cases c0 : f0 < 1 ∨ f0 > 7
    · rw [if_pos c0] at hl
      cases hl
    rw [if_neg c0] at hl
    by_cases c2 : f0 = 2
    · rw [if_pos c2] at hp ⊢
      refine ev_one fun k => ?_
      rw [nodeC, if_pos c2, if_pos l1, layI_ok _ _ (by omega)]
    rw [if_neg c2] at hp ⊢
    by_cases c6 : f0 = 6
    · rw [if_pos c6] at hp ⊢
      refine ev_one fun k => ?_
      rw [nodeC, if_neg c2, if_pos c6, layI_ok _ _ (by omega)]
    rw [if_neg c6] at hp ⊢
    by_cases c7 : f0 = 7
    · rw [if_pos c7] at hp ⊢
      refine ev_one fun k => ?_
      rw [nodeC, if_neg c2, if_neg c6, if_pos c7, layI_ok _ _ (by omega)]
    rw [if_neg c7] at hp ⊢
    by_cases c3 : f0 = 3
    · rw [if_pos c3] at hp ⊢
      rw [if_neg (by omega), if_pos (.inl c3)] at hl
      refine ev_step (joinC_ev f4 (fun y hy => ih y hy (hk y hy) (letsB_all f4 hl y hy)) p hp) fun k h => ?_
      rw [nodeC, if_neg c2, if_neg c6, if_neg c7, if_pos c3]
      exact h
    rw [if_neg c3] at hp ⊢
    by_cases c4 : f0 = 4
    · rw [if_pos c4] at hp ⊢
      rw [if_neg (by omega), if_pos (.inr c4)] at hl
      refine ev_step (orC_ev _ f4 (fun y hy => ih y hy (hk y hy) (letsB_all f4 hl y hy)) p [] rfl hp (fun j hj => by simp at hj) (Nat.zero_le _)) fun k h => ?_
      rw [nodeC, if_neg c2, if_neg c6, if_neg c7, if_neg c3, if_pos c4]
      exact h
    rw [if_neg c4] at hp ⊢
    by_cases c5 : f0 = 5
    · rw [if_pos c5] at hp ⊢
      rw [if_pos c5, Bool.and_eq_true] at hl
      obtain ⟨r1, r2, r3, r4, r5, r6⟩ := repB_iff hl.1
      obtain ⟨y, rfl⟩ := List.length_eq_one_iff.1 r1
      have hy := ih y (by simp) (hk y (by simp)) (letsB_all [y] hl.2 y (by simp))
      rw [headN] at hp ⊢
      have em : (fun b => headM [y] b) = fun b => layM y b := by
        funext b
        rw [headM]
      rw [em]
      have hg : ([y] : List TNode).getD 0 z25 = y := rfl
      have ht := timesC_ev y hy f2.toNat p (by omega)
      have hq : (p ++ timesM (fun b => layM y b) (lenM y) f2.toNat p.length).length = p.length + f2.toNat * lenM y := by
        rw [List.length_append, timesM_len _ _ (layM_len y)]
      by_cases c8 : f3 < 0
      · rw [if_pos c8] at hp ⊢
        have hs := hy (p ++ timesM (fun b => layM y b) (lenM y) f2.toNat p.length ++ [⟨2, [], ((p.length + f2.toNat * lenM y : Nat) : Int) + 1, 0⟩]) (by rw [List.length_append, hq, List.length_singleton]; omega)
        refine ev_step2 ht hs fun k g1 g2 => ?_
        rw [List.length_append, hq, List.length_singleton] at g2
        rw [nodeC, if_neg c2, if_neg c6, if_neg c7, if_neg c3, if_neg c4, if_pos c5, repC]
        dsimp only
        rw [if_neg (by simp), if_pos ⟨r2, r3, r4, r5⟩, hg, g1, Option.bind_some, if_pos c8, layI_ok _ _ (by omega), Option.bind_some, hq, g2, Option.bind_some]
        generalize timesM (fun b => layM y b) (lenM y) f2.toNat p.length = tm at *
        have hl2 := layM_len y (p.length + f2.toNat * lenM y + 1)
        have e9 : (p ++ tm ++ [(⟨2, [], ((p.length + f2.toNat * lenM y : Nat) : Int) + 1, 0⟩ : TInst)] ++ layM y (p.length + f2.toNat * lenM y + 1)).length = p.length + f2.toNat * lenM y + 1 + lenM y := by
          rw [List.length_append, List.length_append, hq, hl2, List.length_singleton]
        rw [layI_ok _ _ (by rw [e9]; omega), Option.bind_some, altsC_ok _ _ (inR_one (by rw [List.length_append, e9, List.length_singleton]; omega)), List.foldl_cons, List.foldl_nil, List.length_append, e9, List.length_singleton]
        have e11 : ∀ (Q L : List TInst) (s j : TInst), Q ++ [s] ++ L ++ [j] = Q ++ s :: (L ++ [j]) := fun Q L s j => by simp
        rw [e11, altP_at _ (p ++ tm) _ _ _ hq.symm, starM, List.append_assoc]
        have e10 : p.length + f2.toNat * lenM y + 1 + lenM y + 1 = p.length + f2.toNat * lenM y + 2 + lenM y := by omega
        rw [e10]
      · rw [if_neg c8] at hp ⊢
        have ho := optC_ev y hy (p.length + f2.toNat * lenM y + (f3 - f2).toNat * (lenM y + 1)) (f3 - f2).toNat (p ++ timesM (fun b => layM y b) (lenM y) f2.toNat p.length) [] (by rw [hq]) (by omega) (fun j hj => by simp at hj) (Nat.zero_le _)
        refine ev_step2 ht ho fun k g1 g2 => ?_
        rw [nodeC, if_neg c2, if_neg c6, if_neg c7, if_neg c3, if_neg c4, if_pos c5, repC]
        dsimp only
        rw [if_neg (by simp), if_pos ⟨r2, r3, r4, r5⟩, hg, g1, Option.bind_some, if_neg c8, g2, List.foldl_nil, hq, List.append_assoc]
    rw [if_neg c5] at hp ⊢
    refine ev_one fun k => ?_
    rw [nodeC, if_neg c2, if_neg c6, if_neg c7, if_neg c3, if_neg c4, if_neg c5, List.append_nil]
end Go.Proofs.Ytbbplchdgedhcaa.P
namespace Go.Proofs.Ytbbplchdgedhcaa.P
open Go.RowKit Go.Proofs.YtbbplchdgedhcaaW.PrintWords Go.Proofs.YtbbplchdgedhcaaW.PrintLast
set_option linter.unusedVariables false
set_option linter.unusedSimpArgs false

theorem anyS_ev : ∀ (l : List TNode), (∀ y ∈ l, Ev (fun k => letS k y) (letB y)) → Ev (fun k => anyS (fun y => (letS k y).map (!·)) l) (!letsB l)
  | [], _ => ev_now fun k => by simp [anyS, letsB]
  | x :: l, h => by
    refine ev_same2 (h x (by simp)) (anyS_ev l fun y hy => h y (by simp [hy])) fun k h1 h2 => ?_
    rw [anyS, h1, letsB]
    cases letB x with
    | false => rfl
    | true => exact h2
theorem letS_ev (x : TNode) : Ev (fun k => letS k x) (letB x) := by
  induction x using node_ind with
  | h x ih =>
    obtain ⟨f0, f1, f2, f3, f4⟩ := x
    refine ev_step (anyS_ev f4 ih) fun k h => ?_
    rw [letS, letB]
    dsimp only
    by_cases c1 : f0 = 1 ∨ f0 = 2 ∨ f0 = 6 ∨ f0 = 7
    · rw [if_pos c1, if_neg (by omega), if_neg (by omega), if_neg (by omega)]
    rw [if_neg c1]
    by_cases c0 : f0 < 1 ∨ f0 > 7
    · rw [if_pos c0, if_neg (by omega), if_neg (by omega)]
    rw [if_neg c0]
    by_cases c5 : f0 = 5
    · rw [if_pos c5]
      by_cases c6 : (f4.length ≠ 1 ∨ f2 < 0 ∨ f2 > 20 ∨ f3 < -1 ∨ f3 > 20 ∨ f3 ≥ 0 ∧ f3 < f2)
      · have e : repB f2 f3 f4.length = false := by
          rw [repB, decide_eq_true c6]
          rfl
        rw [if_pos ⟨c5, c6⟩, e]
        rfl
      · have e : repB f2 f3 f4.length = true := by
          rw [repB, decide_eq_false c6]
          rfl
        rw [if_neg (fun hh => c6 hh.2), if_pos (.inr (.inr c5)), h, e]
        simp
    · rw [if_neg c5, if_neg (fun hh => c5 hh.1), if_pos (by omega), h]
      simp
      omega
end Go.Proofs.Ytbbplchdgedhcaa.P
namespace Go.Proofs.Ytbbplchdgedhcaa.P
open Go.RowKit Go.Proofs.YtbbplchdgedhcaaW.PrintWords Go.Proofs.YtbbplchdgedhcaaW.PrintLast Go.Proofs.YtbbplchdgedhcaaW.PrintMore
attribute [local go_sem] max2_int min2_int max_two min_two
set_option linter.unusedVariables false
set_option linter.unusedSimpArgs false

def ductusref19_Count.l0 : Nat → List (S39) → Int → Int → Int → Option (Int)
  | 0, _, _, _, _ => none
  | k + 1, x0, x1, x5, x6 => if x6 < (x0.length : Int) then (if 0 ≤ x6 then (if ((rd_T39 x0 x6).f0) = x1 then (ductusref19_Count.l0 k x0 x1 (wrap64 (x5 + 1)) (wrap64 (x6 + 1))) else (ductusref19_Count.l0 k x0 x1 x5 (wrap64 (x6 + 1)))) else (none)) else (some x5)
def ductusref19_Count.f (k : Nat) (l0 : List (S39)) (a1 : Int) : Option (Int) := ductusref19_Count.l0 k l0 a1 0 0
end Go.Proofs.Ytbbplchdgedhcaa.P
namespace Go.Proofs.Ytbbplchdgedhcaa.P
open Go.RowKit Go.Proofs.YtbbplchdgedhcaaW.PrintWords Go.Proofs.YtbbplchdgedhcaaW.PrintLast
set_option linter.unusedVariables false
set_option linter.unusedSimpArgs false

abbrev QR : Type := S42
abbrev QI : Type := S39
theorem ranges_ev (a b : List QR) (hl : a.length = b.length) (hb : a.length < 1152921504606846976) (m : Nat) : ∀ i : Nat, i + m = a.length →
    ∃ r, Ev (fun k => slices_Equal_api_Range.l0 k a b (a.length : Int) (i : Int)) r ∧ Ev (fun k => ductusref16_SameSets.l0 k a b (i : Int)) r ∧ (a = b → r = true) := by
  induction m with
  | zero =>
    intro i hi
    refine ⟨true, ev_one fun k => ?_, ev_one fun k => ?_, fun _ => rfl⟩
    · rw [slices_Equal_api_Range.l0, if_neg (by omega)]
    · rw [ductusref16_SameSets.l0, if_neg (by omega)]
  | succ m ih =>
    intro i hi
    obtain ⟨r, h1, h2, h3⟩ := ih (i + 1) (by omega)
    by_cases c : (!(((rd_T42 a (i : Int)).f0) == ((rd_T42 b (i : Int)).f0)) || (!(((rd_T42 a (i : Int)).f1) == ((rd_T42 b (i : Int)).f1)))) = true
    · refine ⟨false, ev_one fun k => ?_, ev_one fun k => ?_, fun e => ?_⟩
      · rw [slices_Equal_api_Range.l0, if_pos (by omega), if_pos (by omega), if_pos (by omega), if_pos (by omega), if_pos c]
      · rw [ductusref16_SameSets.l0, if_pos (by omega), if_pos (by omega), if_pos (by omega), if_pos c]
      · subst e
        simp at c
    · refine ⟨r, ev_step h1 fun k h => ?_, ev_step h2 fun k h => ?_, h3⟩
      · rw [slices_Equal_api_Range.l0, if_pos (by omega), if_pos (by omega), if_pos (by omega), if_pos (by omega), if_neg c, wrap_succ i (by omega)]
        exact h
      · rw [ductusref16_SameSets.l0, if_pos (by omega), if_pos (by omega), if_pos (by omega), if_neg c, wrap_succ i (by omega)]
        exact h
theorem sets_ev (a b : List QR) (hb : a.length < 1152921504606846976) : ∃ r, Ev (fun k => slices_Equal_api_Range.f k a b) r ∧ Ev (fun k => ductusref16_SameSets.f k a b) r ∧ (a = b → r = true) := by
  by_cases c : a.length = b.length
  · obtain ⟨r, h1, h2, h3⟩ := ranges_ev a b c hb a.length 0 (by omega)
    refine ⟨r, ev_same h1 fun k h => ?_, ev_same h2 fun k h => ?_, h3⟩
    · rw [slices_Equal_api_Range.f, if_pos (by omega)]
      exact h
    · rw [ductusref16_SameSets.f, if_pos (by omega)]
      exact h
  · refine ⟨false, ev_now fun k => ?_, ev_now fun k => ?_, fun e => (c (congrArg List.length e)).elim⟩
    · rw [slices_Equal_api_Range.f, if_neg (by omega)]
    · rw [ductusref16_SameSets.f, if_neg (by omega)]
theorem insts_ev (a b : List QI) (hl : a.length = b.length) (hb : a.length < 1152921504606846976) (hr : ∀ e ∈ a, e.f1.length < 1152921504606846976) (m : Nat) : ∀ i : Nat, i + m = a.length →
    ∃ r, Ev (fun k => slices_EqualFunc_api_Inst_api_Inst_nfa_Same_1.l0 k b a (a.length : Int) (i : Int)) r ∧ Ev (fun k => ductusref19_Same.l0 k a b (i : Int)) r ∧ (a = b → r = true) := by
  induction m with
  | zero =>
    intro i hi
    refine ⟨true, ev_one fun k => ?_, ev_one fun k => ?_, fun _ => rfl⟩
    · rw [slices_EqualFunc_api_Inst_api_Inst_nfa_Same_1.l0, if_neg (by omega)]
    · rw [ductusref19_Same.l0, if_neg (by omega)]
  | succ m ih =>
    intro i hi
    obtain ⟨r, h1, h2, h3⟩ := ih (i + 1) (by omega)
    have ha : rd_T39 a (i : Int) ∈ a := by
      unfold rd_T39
      rw [Int.toNat_natCast, List.getD_eq_getElem?_getD, List.getElem?_eq_getElem (show i < a.length by omega), Option.getD_some]
      exact List.getElem_mem _
    obtain ⟨s, g1, g2, g3⟩ := sets_ev (rd_T39 a (i : Int)).f1 (rd_T39 b (i : Int)).f1 (hr _ ha)
    by_cases c0 : (rd_T39 a (i : Int)).f0 = (rd_T39 b (i : Int)).f0
    rotate_left
    · refine ⟨false, ev_step g1 fun k h => ?_, ev_one fun k => ?_, fun e => (c0 (by rw [e])).elim⟩
      · rw [slices_EqualFunc_api_Inst_api_Inst_nfa_Same_1.l0, if_pos (by omega), if_pos (by omega), if_pos (by omega), if_pos (by omega), nfa_Same_1.f, if_neg c0, Option.bind_some, if_neg (by decide)]
      · rw [ductusref19_Same.l0, if_pos (by omega), if_pos (by omega), if_pos (by omega), if_neg c0]
    by_cases c2 : (rd_T39 a (i : Int)).f2 = (rd_T39 b (i : Int)).f2
    rotate_left
    · refine ⟨false, ev_step g1 fun k h => ?_, ev_one fun k => ?_, fun e => (c2 (by rw [e])).elim⟩
      · rw [slices_EqualFunc_api_Inst_api_Inst_nfa_Same_1.l0, if_pos (by omega), if_pos (by omega), if_pos (by omega), if_pos (by omega), nfa_Same_1.f, if_pos c0, if_neg c2, Option.bind_some, if_neg (by decide)]
      · rw [ductusref19_Same.l0, if_pos (by omega), if_pos (by omega), if_pos (by omega), if_pos c0, if_neg c2]
    by_cases c3 : (rd_T39 a (i : Int)).f3 = (rd_T39 b (i : Int)).f3
    rotate_left
    · refine ⟨false, ev_step g1 fun k h => ?_, ev_one fun k => ?_, fun e => (c3 (by rw [e])).elim⟩
      · rw [slices_EqualFunc_api_Inst_api_Inst_nfa_Same_1.l0, if_pos (by omega), if_pos (by omega), if_pos (by omega), if_pos (by omega), nfa_Same_1.f, if_pos c0, if_pos c2, if_neg c3, Option.bind_some, if_neg (by decide)]
      · rw [ductusref19_Same.l0, if_pos (by omega), if_pos (by omega), if_pos (by omega), if_pos c0, if_pos c2, if_neg c3]
    refine ⟨s && r, ev_step2 g1 h1 fun k h h' => ?_, ev_step2 g2 h2 fun k h h' => ?_, fun e => ?_⟩
    · rw [slices_EqualFunc_api_Inst_api_Inst_nfa_Same_1.l0, if_pos (by omega), if_pos (by omega), if_pos (by omega), if_pos (by omega), nfa_Same_1.f, if_pos c0, if_pos c2, if_pos c3, h, Option.bind_some, Option.bind_some]
      cases s with
      | false => rfl
      | true => rw [if_pos rfl, wrap_succ i (by omega), Bool.true_and]; exact h'
    · rw [ductusref19_Same.l0, if_pos (by omega), if_pos (by omega), if_pos (by omega), if_pos c0, if_pos c2, if_pos c3, h, Option.bind_some]
      cases s with
      | false => rfl
      | true => rw [if_pos rfl, wrap_succ i (by omega), Bool.true_and]; exact h'
    · rw [g3 (by rw [e]), h3 e]
      rfl
theorem same_ev (a b : List QI) (hb : a.length < 1152921504606846976) (hr : ∀ e ∈ a, e.f1.length < 1152921504606846976) : ∃ r, Ev (fun k => nfa_Same.f k a b) r ∧ Ev (fun k => ductusref19_Same.f k a b) r ∧ (a = b → r = true) := by
  by_cases c : a.length = b.length
  · obtain ⟨r, h1, h2, h3⟩ := insts_ev a b c hb hr a.length 0 (by omega)
    refine ⟨r, ev_same h1 fun k h => ?_, ev_same h2 fun k h => ?_, h3⟩
    · rw [nfa_Same.f, slices_EqualFunc_api_Inst_api_Inst_nfa_Same_1.f, if_pos (by omega)]
      have h' : slices_EqualFunc_api_Inst_api_Inst_nfa_Same_1.l0 k b a (a.length : Int) 0 = some r := h
      rw [h', Option.bind_some]
    · rw [ductusref19_Same.f, if_pos (by omega)]
      exact h
  · refine ⟨false, ev_now fun k => ?_, ev_now fun k => ?_, fun e => (c (congrArg List.length e)).elim⟩
    · rw [nfa_Same.f, slices_EqualFunc_api_Inst_api_Inst_nfa_Same_1.f, if_neg (by omega), Option.bind_some]
    · rw [ductusref19_Same.f, if_neg (by omega)]
theorem same_self (a : List QI) (hb : a.length < 1152921504606846976) (hr : ∀ e ∈ a, e.f1.length < 1152921504606846976) : Ev (fun k => nfa_Same.f k a a) true ∧ Ev (fun k => ductusref19_Same.f k a a) true := by
  obtain ⟨r, h1, h2, h3⟩ := same_ev a a hb hr
  rw [h3 rfl] at h1 h2
  exact ⟨h1, h2⟩
/-- How many of an Op, from a place on. -/
def cntI (op : Int) : List QI → Int
  | [] => 0
  | e :: l => (if e.f0 = op then 1 else 0) + cntI op l
theorem ti_drop (l : List QI) (i : Nat) (h : i < l.length) : l.drop i = rd_T39 l (i : Int) :: l.drop (i + 1) := by
  unfold rd_T39
  rw [Int.toNat_natCast, List.getD_eq_getElem?_getD, List.getElem?_eq_getElem h, Option.getD_some]
  exact List.drop_eq_getElem_cons h
theorem count_ev (l : List QI) (op : Int) (hb : l.length < 1152921504606846976) (m : Nat) : ∀ (i n : Nat), i + m = l.length → n ≤ i →
    Ev (fun k => nfa_Count.l0 k op (n : Int) l (l.length : Int) (i : Int)) ((n : Int) + cntI op (l.drop i)) ∧ Ev (fun k => ductusref19_Count.l0 k l op (n : Int) (i : Int)) ((n : Int) + cntI op (l.drop i)) := by
  induction m with
  | zero =>
    intro i n hi hn
    rw [List.drop_eq_nil_of_le (by omega), cntI, Int.add_zero]
    refine ⟨ev_one fun k => ?_, ev_one fun k => ?_⟩
    · rw [nfa_Count.l0, if_neg (by omega)]
    · rw [ductusref19_Count.l0, if_neg (by omega)]
  | succ m ih =>
    intro i n hi hn
    rw [ti_drop l i (by omega), cntI]
    by_cases c : (rd_T39 l (i : Int)).f0 = op
    · obtain ⟨h1, h2⟩ := ih (i + 1) (n + 1) (by omega) (by omega)
      have e : (((n + 1 : Nat) : Int) + cntI op (l.drop (i + 1))) = ((n : Int) + (1 + cntI op (l.drop (i + 1)))) := by omega
      rw [e] at h1 h2
      rw [if_pos c]
      refine ⟨ev_step h1 fun k h => ?_, ev_step h2 fun k h => ?_⟩
      · rw [nfa_Count.l0, if_pos (by omega), if_pos (by omega), if_pos (by omega), if_pos c, wrap_succ i (by omega), wrap_succ n (by omega)]
        exact h
      · rw [ductusref19_Count.l0, if_pos (by omega), if_pos (by omega), if_pos c, wrap_succ i (by omega), wrap_succ n (by omega)]
        exact h
    · obtain ⟨h1, h2⟩ := ih (i + 1) n (by omega) (by omega)
      rw [if_neg c, Int.zero_add]
      refine ⟨ev_step h1 fun k h => ?_, ev_step h2 fun k h => ?_⟩
      · rw [nfa_Count.l0, if_pos (by omega), if_pos (by omega), if_pos (by omega), if_neg c, wrap_succ i (by omega)]
        exact h
      · rw [ductusref19_Count.l0, if_pos (by omega), if_pos (by omega), if_neg c, wrap_succ i (by omega)]
        exact h
theorem counts (l : List QI) (op : Int) (hb : l.length < 1152921504606846976) : Ev (fun k => nfa_Count.f k l op) (cntI op l) ∧ Ev (fun k => ductusref19_Count.f k l op) (cntI op l) := by
  have := count_ev l op hb l.length 0 0 (by omega) (by omega)
  rw [List.drop_zero] at this
  have e : (((0 : Nat) : Int) + cntI op l) = cntI op l := Int.zero_add _
  rw [e] at this
  exact this
end Go.Proofs.Ytbbplchdgedhcaa.P
namespace Go.Proofs.Ytbbplchdgedhcaa.P
open Go.Deep Go.ChangeShapes Go.WideShapes Go.Proofs.YtbbplchdgedhcaaW.PrintWords
set_option linter.unusedVariables false
set_option linter.unusedSimpArgs false

/-- What an argument's data weigh is within the reach. -/
def Lite {H : Type} (P : Program) (t : TypeId) (d : DataW H) : Prop := ∀ q ∈ d.weights P t, q ≤ reachBytes
/-- What reads by a type, within m steps, is of a kind. -/
def Opens {α H : Type} (enc : TypeId × Value → H) (P : Program) (w : World) (base : Nat) (held : Bool) (t : TypeId) (d : Kd α) (wf : α → Prop) (m : Nat) : Prop :=
  ∀ (cs : List Value) (y : DataW H × List MemPlace), DataW.trod enc P w base (fun _ => true) held m t cs = some y → Lite P t y.1 → ∃ v, d.K w v cs ∧ wf v
section
variable {α H : Type} {enc : TypeId × Value → H} {P : Program} {w : World} {base : Nat} {held : Bool}
theorem weightsAll_mem {e : TypeId} {n : Nat} {d : DataW H} : ∀ {l : List (DataW H)}, d ∈ l → n ∈ d.weights P e → n ∈ DataW.weightsAll P e l
  | [], h, _ => by simp at h
  | x :: l, h, hn => by
    simp only [DataW.weightsAll, List.mem_append]
    rcases List.mem_cons.1 h with rfl | h
    · exact .inl hn
    · exact .inr (weightsAll_mem h hn)
theorem opens_slice [Inhabited α] {t e : TypeId} {d : Kd α} {wf : α → Prop} {B : Nat} (ht : P.underlying t = some (.slice e)) (hc : P.cellsOf e = d.sz) (hB : P.bytesOf e = B) (m : Nat) (ih : ∀ n, m = n + 1 → Opens enc P w base held e d wf n) :
    Opens enc P w base held t (Kd.slice e d) (fun l => l.length * B ≤ 140737488351232 ∧ ∀ x ∈ l, wf x) m := by
  intro cs y h hw
  rcases DataW.trod_slice ht h with ⟨rfl, _⟩ | ⟨a, len, cap, elems, rest, n, hn, rfl, rfl, hb, hl, hm, hlen, hel, _, _⟩
  · exact ⟨[], ⟨none, 0, rfl, Nat.le_refl _, ⟨rfl, by simp, fun h => absurd h (Nat.lt_irrefl 0)⟩⟩, by simp, by simp⟩
  · have hO := ih n hn
    have ex : ∀ i, i < len → ∃ v : α, (∃ c : List Value, c.length = d.sz ∧ d.K w v c ∧ ∀ j u, c[j]? = some u → w.cell? (a.add (i * d.sz + j)) = some u) ∧ wf v := by
      intro i hi
      have h1 := hel i hi
      rw [hc] at h1
      have h2 : elems[i]? = some (elems[i]'(by omega)) := List.getElem?_eq_getElem (by omega)
      rw [h2] at h1
      obtain ⟨c, hc1, hc2⟩ := Option.bind_eq_some_iff.mp h1
      obtain ⟨_, hcl, hcell⟩ := World.cells?_some hc1
      obtain ⟨v, hv, hwf⟩ := hO c _ hc2 (fun q hq => hw q (by
        simp only [DataW.weights, ht, List.mem_cons, List.mem_append]
        exact .inr (.inl (weightsAll_mem (List.mem_map_of_mem (List.getElem_mem (by omega))) hq))))
      refine ⟨v, ⟨c, hcl, hv, fun j u hu => ?_⟩, hwf⟩
      have hj : j < d.sz := by rw [← hcl]; exact (List.getElem?_eq_some_iff.1 hu).1
      rw [← Go.Deep.add_add, hcell j hj]
      exact hu
    obtain ⟨q, hq⟩ := choose_lt ex
    have hlen2 : ((List.range len).map q).length = len := by simp
    refine ⟨(List.range len).map q, ⟨some a, cap, by rw [hlen2], by rw [hlen2]; exact hl, ?_⟩, ?_, ?_⟩
    · rw [hlen2]
      refine ⟨hlen2, by have := Nat.le_trans hl hm; simp only [maxLen] at this; omega, fun _ => ⟨a, rfl, fun j p hp => ?_⟩⟩
      have hj : j < len := by
        have := (List.getElem?_eq_some_iff.1 hp).1
        rwa [hlen2] at this
      have hpq : p = q j := by
        rw [List.getElem?_map, List.getElem?_range hj] at hp
        exact (Option.some.inj hp).symm
      subst hpq
      obtain ⟨⟨c, h1, h2, h3⟩, _⟩ := hq j hj
      exact ⟨c, h1, h2, h3⟩
    · rw [hlen2]
      have := hw ((elems.length + rest.length) * B) (by simp only [DataW.weights, ht, List.length_map, hB]; exact List.mem_cons_self)
      have h2 : len * B ≤ (elems.length + rest.length) * B := Nat.mul_le_mul_right _ (by omega)
      exact Nat.le_trans h2 this
    · intro x hx
      obtain ⟨j, hj, rfl⟩ := List.mem_map.1 hx
      exact (hq j (List.mem_range.1 hj)).2
theorem okWide_struct {r : Reach} {b0 : Nat} {t : TypeId} {fs : Array Field} {v : Value} (ht : P.underlying t = some (.struct fs)) (h : Value.okWide P w r b0 t v) : ∃ cs, v = .agg cs ∧ cs.size = P.cellsOf t := by
  simp only [Value.okWide, ht] at h
  obtain ⟨cs, h1, h2, _⟩ := h
  exact ⟨cs, h1, h2⟩
end
section
variable {H : Type} {enc : TypeId × Value → H} {w : World} {base : Nat} {held : Bool}
def w64 (x : Int) : Prop := -9223372036854775808 ≤ x ∧ x ≤ 9223372036854775807
theorem w64_of {x : Int} (h : (Lit.int .i64 x).wf = true) : w64 x := by
  have hmin : IntKind.i64.min = -9223372036854775808 := rfl
  have hmax : IntKind.i64.max = 9223372036854775807 := rfl
  simp only [Lit.wf, Bool.and_eq_true, decide_eq_true_eq] at h
  unfold w64
  omega
theorem cells_int : Try.prog.cellsOf 3 = 1 := by kernel_rfl
theorem cells_ranges : Try.prog.cellsOf 22 = 1 := by kernel_rfl
theorem cells_nodes : Try.prog.cellsOf 23 = 1 := by kernel_rfl
theorem cells_range : Try.prog.cellsOf 42 = 2 := by kernel_rfl
theorem cells_node : Try.prog.cellsOf 25 = 5 := by kernel_rfl
theorem bytes_range : Try.prog.bytesOf 42 = 16 := by kernel_rfl
theorem bytes_node : Try.prog.bytesOf 25 = 72 := by kernel_rfl
instance : Inhabited S42 := ⟨z42⟩
instance : Inhabited S25 := ⟨z25⟩
theorem opens_range (m : Nat) : Opens enc Try.prog w base held 42 k42 (fun r => w64 r.f0 ∧ w64 r.f1) m := by
  intro cs y h _
  obtain ⟨xs, n, rfl, _, hl, hxl, hf⟩ := DataW.trod_struct Try.underlying42 h
  rw [cells_range] at hl
  match xs, hxl, cs, hl with
  | [y0, y1], _, [c0, c1], _ =>
    have g0 := hf 0 _ rfl
    have g1 := hf 1 _ rfl
    simp [cells_int] at g0 g1
    obtain ⟨x0, e0, _, w0⟩ := DataW.trod_int Try.underlying3 g0
    obtain ⟨x1, e1, _, w1⟩ := DataW.trod_int Try.underlying3 g1
    obtain rfl := (List.cons.inj e0).1
    obtain rfl := (List.cons.inj e1).1
    exact ⟨⟨x0, x1⟩, k42_mk w ⟨x0, x1⟩, w64_of w0, w64_of w1⟩
/-- A tree that was read. -/
inductive WfT : S25 → Prop
  | mk (x : S25) (h0 : w64 x.f0) (l1 : x.f1.length * 16 ≤ 140737488351232) (h1 : ∀ r ∈ x.f1, w64 r.f0 ∧ w64 r.f1) (h2 : w64 x.f2) (h3 : w64 x.f3) (l4 : x.f4.length * 72 ≤ 140737488351232) (hk : ∀ y ∈ x.f4, WfT y) : WfT x
theorem opens_ranges (m : Nat) : Opens enc Try.prog w base held 22 (Kd.slice 42 k42) (fun l => l.length * 16 ≤ 140737488351232 ∧ ∀ r ∈ l, w64 r.f0 ∧ w64 r.f1) m :=
  opens_slice Try.underlying22 (by rw [cells_range]; rfl) bytes_range m (fun n _ => opens_range n)
theorem opens_node : ∀ m : Nat, Opens enc Try.prog w base held 25 k25 WfT m := by
  intro m
  induction m using Nat.strongRecOn with
  | ind m ih =>
    intro cs y h hw
    obtain ⟨xs, n, rfl, rfl, hl, hxl, hf⟩ := DataW.trod_struct Try.underlying25 h
    rw [cells_node] at hl
    match xs, hxl, cs, hl with
    | [y0, y1, y2, y3, y4], _, [c0, c1, c2, c3, c4], _ =>
      have g0 := hf 0 _ rfl
      have g1 := hf 1 _ rfl
      have g2 := hf 2 _ rfl
      have g3 := hf 3 _ rfl
      have g4 := hf 4 _ rfl
      simp [cells_int, cells_ranges, cells_nodes] at g0 g1 g2 g3 g4
      obtain ⟨x0, e0, _, w0⟩ := DataW.trod_int Try.underlying3 g0
      obtain ⟨x2, e2, _, w2⟩ := DataW.trod_int Try.underlying3 g2
      obtain ⟨x3, e3, _, w3⟩ := DataW.trod_int Try.underlying3 g3
      obtain rfl := (List.cons.inj e0).1
      obtain rfl := (List.cons.inj e2).1
      obtain rfl := (List.cons.inj e3).1
      have hwe : ∀ (j : Nat) (t : TypeId) (d : DataW H), [3, 22, 3, 3, 23][j]? = some t → [y0.1, y1.1, y2.1, y3.1, y4.1][j]? = some d → Lite Try.prog t d := by
        intro j t d ht hd q hq
        refine hw q ?_
        simp only [DataW.weights, Try.underlying25]
        exact DataW.weights_mem_each (j := j) ht hd q hq
      obtain ⟨l1, hk1, hl1⟩ := opens_ranges n [c1] y1 g1 (hwe 1 _ _ rfl rfl)
      obtain ⟨l4, hk4, hl4⟩ := opens_slice (wf := WfT) Try.underlying23 (by rw [cells_node]; rfl) bytes_node n (fun q hq => ih q (by omega)) [c4] y4 g4 (hwe 4 _ _ rfl rfl)
      obtain ⟨A1, d1, he1, hd1, hC1⟩ := hk1
      obtain ⟨A4, d4, he4, hd4, hC4⟩ := hk4
      obtain rfl := (List.cons.inj he1).1
      obtain rfl := (List.cons.inj he4).1
      exact ⟨⟨x0, l1, x2, x3, l4⟩, k25_mk w ⟨x0, l1, x2, x3, l4⟩ hd1 hC1 hd4 hC4, .mk _ (w64_of w0) hl1.1 hl1.2 (w64_of w2) (w64_of w3) hl4.1 hl4.2⟩
/-- An argument that is a tree. -/
theorem open_node {r : Reach} {b0 : Nat} {v : Value} {d : DataW H} {p : List MemPlace} (hv : Value.okWide Try.prog w r b0 25 v) (h : DataW.Trod enc Try.prog w base (fun _ => true) held 25 v d p) (hw : Lite Try.prog 25 d) :
    ∃ (x : S25) (A1 : Option Addr) (c1 : Nat) (A4 : Option Addr) (c4 : Nat), v = .agg #[.int .i64 x.f0, .slice A1 x.f1.length c1, .int .i64 x.f2, .int .i64 x.f3, .slice A4 x.f4.length c4] ∧ x.f1.length ≤ c1 ∧ Kd.C k42 w A1 x.f1.length x.f1 ∧ x.f4.length ≤ c4 ∧ Kd.C k25 w A4 x.f4.length x.f4 ∧ WfT x := by
  obtain ⟨cs, rfl, hs⟩ := okWide_struct Try.underlying25 hv
  obtain ⟨fuel, hf⟩ := h
  obtain ⟨x, hK, hwf⟩ := opens_node fuel _ _ hf hw
  obtain ⟨A1, c1, A4, c4, he, l1, g1, l4, g4⟩ := k25_open hK
  refine ⟨x, A1, c1, A4, c4, ?_, l1, g1, l4, g4, hwf⟩
  have he2 : cs.toList = [.int .i64 x.f0, .slice A1 x.f1.length c1, .int .i64 x.f2, .int .i64 x.f3, .slice A4 x.f4.length c4] := he
  rw [show cs = #[.int .i64 x.f0, .slice A1 x.f1.length c1, .int .i64 x.f2, .int .i64 x.f3, .slice A4 x.f4.length c4] from Array.toList_inj.1 (by simpa using he2)]
theorem lite_of {ts : List TypeId} {ds : List (DataW H)} {j : Nat} {t : TypeId} {d : DataW H} (hsz : (DataW.weightsEach Try.prog ts ds).all (· ≤ reachBytes) = true) (ht : ts[j]? = some t) (hd : ds[j]? = some d) : Lite Try.prog t d := fun q hq => by
  simpa using List.all_eq_true.1 hsz q (DataW.weights_mem_each ht hd q hq)
end
end Go.Proofs.Ytbbplchdgedhcaa.P
namespace Go.Proofs.Ytbbplchdgedhcaa.P
open Go.RowKit Go.Proofs.YtbbplchdgedhcaaW.PrintWords Go.Proofs.YtbbplchdgedhcaaW.PrintLast
set_option linter.unusedVariables false
set_option linter.unusedSimpArgs false

theorem wf_of (x : TNode) : WfT x → WfN x := by
  induction x using node_ind with
  | h x ih =>
    intro hw
    obtain ⟨_, h0, l1, h1, h2, h3, l4, hk⟩ := hw
    exact .mk x h0 h1 (by omega) h2 h3 (by omega) fun y hy => ih y hy (hk y hy)
def lastI : TInst := ⟨0, [], 0, 0⟩
def compM (x : TNode) : List TInst × Int := if letB x = true then compT (layM x 0 ++ [lastI]) else ([], 1)
theorem compC_ev (x : TNode) (hw : WfN x) (hl : letB x = true → lenM x ≤ 9000) : Ev (fun k => nfa_Compile.f k x.f0 x.f1 x.f2 x.f3 x.f4) (compM x) := by
  have e : (fun k => nfa_Compile.f k x.f0 x.f1 x.f2 x.f3 x.f4) = fun k => compX k x := by
    funext k
    obtain ⟨f0, f1, f2, f3, f4⟩ := x
    rfl
  rw [e]
  by_cases c : letB x = true
  · have hn := hl c
    have hs := letS_ev x
    have hy := laysC x hw c [] (by rw [List.length_nil]; omega)
    rw [c] at hs
    refine ev_same2 hs hy fun k h h' => ?_
    rw [compX, h, Option.bind_some, if_pos rfl, h', Option.bind_some, List.nil_append, List.length_nil, layI_ok _ _ (by rw [layM_len]; omega), compM, if_pos c]
    rfl
  · have hs := letS_ev x
    have c' : letB x = false := by simpa using c
    rw [c'] at hs
    refine ev_same hs fun k h => ?_
    rw [compX, h, Option.bind_some, if_neg (by decide), compM, if_neg c]
theorem len_small (x : TNode) (n : Nat) (hn : n < 1000000) (h : sizeT x ≤ n) : letB x = true → lenM x ≤ 3 * n := fun c => by
  have := len_le x c (by omega)
  omega
abbrev rgs (l : List TInst) : Prop := ∀ e ∈ l, e.f1.length < 8796093022208
theorem rgs_app {l m : List TInst} (h : rgs l) (h' : rgs m) : rgs (l ++ m) := fun e he => (List.mem_append.1 he).elim (h e) (h' e)
theorem rgs_cons {x : TInst} {m : List TInst} (h : x.f1 = []) (h' : rgs m) : rgs (x :: m) := fun e he => by
  rcases List.mem_cons.1 he with rfl | he
  · rw [h]
    decide
  · exact h' e he
theorem rgs_nil : rgs [] := fun e he => by cases he
theorem rgs_times (g : Nat → List TInst) (len : Nat) (hg : ∀ a, rgs (g a)) : ∀ n a, rgs (timesM g len n a)
  | 0, _ => rgs_nil
  | n + 1, a => rgs_app (hg a) (rgs_times g len hg n _)
theorem rgs_opt (g : Nat → List TInst) (len fin : Nat) (hg : ∀ a, rgs (g a)) : ∀ n a, rgs (optM g len fin n a)
  | 0, _ => rgs_nil
  | n + 1, a => rgs_cons rfl (rgs_app (hg _) (rgs_opt g len fin hg n _))
theorem rgs_join : ∀ (l : List TNode), (∀ y ∈ l, ∀ a, rgs (layM y a)) → ∀ a, rgs (joinM l a)
  | [], _, a => by rw [joinM]; exact rgs_nil
  | x :: l, h, a => by
    rw [joinM]
    exact rgs_app (h x (by simp) a) (rgs_join l (fun y hy => h y (by simp [hy])) _)
theorem rgs_or : ∀ (l : List TNode), (∀ y ∈ l, ∀ a, rgs (layM y a)) → ∀ a fin, rgs (orM l a fin)
  | [], _, a, fin => by rw [orM]; exact rgs_nil
  | x :: l, h, a, fin => by
    rw [orM]
    split
    · exact h x (by simp) a
    · exact rgs_cons rfl (rgs_app (h x (by simp) _) (rgs_cons rfl (rgs_or l (fun y hy => h y (by simp [hy])) _ _)))
theorem rgs_lay (x : TNode) : WfN x → ∀ a, rgs (layM x a) := by
  induction x using node_ind with
  | h x ih =>
    intro hw a
    obtain ⟨_, h0, h1, l1, h2, h3, l4, hk⟩ := hw
    obtain ⟨f0, f1, f2, f3, f4⟩ := x
    simp only at ih l1 hk
    have hh : ∀ b, rgs ((fun b => headM f4 b) b) := fun b => by
      show rgs (headM f4 b)
      cases f4 with
      | nil => rw [headM]; exact rgs_nil
      | cons y l =>
        rw [headM]
        exact ih y (by simp) (hk y (by simp)) b
    rw [layM]
    repeat' split
    all_goals first
      | exact rgs_nil
      | exact rgs_cons rfl rgs_nil
      | exact rgs_join f4 (fun y hy => ih y hy (hk y hy)) a
      | exact rgs_or f4 (fun y hy => ih y hy (hk y hy)) a _
      | exact rgs_app (rgs_times _ _ hh _ _) (rgs_cons rfl (rgs_app (hh _) (rgs_cons rfl rgs_nil)))
      | exact rgs_app (rgs_times _ _ hh _ _) (rgs_opt _ _ _ hh _ _)
      | (intro e he
         rw [List.mem_singleton.1 he]
         exact l1)
theorem comp_rgs (x : TNode) (hw : WfN x) : rgs (compM x).1 ∧ (compM x).1.length ≤ 1000 := by
  unfold compM compT
  split
  · split
    · exact ⟨rgs_nil, by simp⟩
    · exact ⟨rgs_app (rgs_lay x hw 0) (rgs_cons rfl rgs_nil), by show (layM x 0 ++ [lastI]).length ≤ 1000; omega⟩
  · exact ⟨rgs_nil, by simp⟩
end Go.Proofs.Ytbbplchdgedhcaa.P
namespace Go.Proofs.Ytbbplchdgedhcaa.Pure
open Go.RowKit Go.Proofs.Ytbbplchdgedhcaa.P Go.Proofs.YtbbplchdgedhcaaW.PrintWords Go.Proofs.YtbbplchdgedhcaaW.PrintLast
set_option linter.unusedVariables false
set_option linter.unusedSimpArgs false

/-- What may stand at a place: a split goes on behind it, or further on; a jump elsewhere. -/
def okI (i hi : Nat) (e : TInst) : Prop := 1 ≤ e.f0 ∧ e.f0 ≤ 5 ∧ (e.f0 = 2 → e.f2 = (i : Int) + 1 ∧ i + 1 ≤ hi ∧ (i : Int) < e.f3 ∧ e.f3 ≤ (hi : Int)) ∧ (e.f0 = 3 → 0 ≤ e.f2 ∧ e.f2 ≤ (hi : Int) ∧ e.f2 ≠ (i : Int))
def okL (hi : Nat) : Nat → List TInst → Prop
  | _, [] => True
  | i, e :: l => okI i hi e ∧ okL hi (i + 1) l
theorem okL_app (hi : Nat) : ∀ (l m : List TInst) (i : Nat), okL hi i l → okL hi (i + l.length) m → okL hi i (l ++ m)
  | [], m, i, _, h => h
  | e :: l, m, i, h, h' => ⟨h.1, okL_app hi l m (i + 1) h.2 (by rw [List.length_cons] at h'; rw [show i + 1 + l.length = i + (l.length + 1) by omega]; exact h')⟩
theorem okL_mono {hi hi' : Nat} (hh : hi ≤ hi') : ∀ (l : List TInst) (i : Nat), okL hi i l → okL hi' i l
  | [], i, _ => trivial
  | e :: l, i, h => by
    obtain ⟨⟨h1, h2, h3, h4⟩, h5⟩ := h
    exact ⟨⟨h1, h2, fun c => by have := h3 c; omega, fun c => by have := h4 c; omega⟩, okL_mono hh l (i + 1) h5⟩
theorem okL_get (hi : Nat) : ∀ (l : List TInst) (i j : Nat) (h : j < l.length), okL hi i l → okI (i + j) hi l[j]
  | e :: l, i, 0, h, hk => hk.1
  | e :: l, i, j + 1, h, hk => by
    have := okL_get hi l (i + 1) j (by rw [List.length_cons] at h; omega) hk.2
    rw [show i + (j + 1) = i + 1 + j by omega]
    exact this
theorem ok_simple (i hi : Nat) (op : Int) (r : List TRange) (h : op = 1 ∨ op = 4 ∨ op = 5) : okI i hi ⟨op, r, 0, 0⟩ :=
  ⟨show 1 ≤ op by omega, show op ≤ 5 by omega, fun c => absurd (show op = 2 from c) (by omega), fun c => absurd (show op = 3 from c) (by omega)⟩
theorem ok_split (i hi : Nat) (alt : Int) (h : i + 1 ≤ hi ∧ (i : Int) < alt ∧ alt ≤ (hi : Int)) : okI i hi ⟨2, [], (i : Int) + 1, alt⟩ :=
  ⟨show (1 : Int) ≤ 2 by decide, show (2 : Int) ≤ 5 by decide, fun _ => ⟨rfl, h.1, h.2.1, h.2.2⟩, fun c => absurd (show (2 : Int) = 3 from c) (by decide)⟩
theorem ok_jump (i hi : Nat) (n : Int) (h : 0 ≤ n ∧ n ≤ (hi : Int) ∧ n ≠ (i : Int)) : okI i hi ⟨3, [], n, 0⟩ :=
  ⟨show (1 : Int) ≤ 3 by decide, show (3 : Int) ≤ 5 by decide, fun c => absurd (show (3 : Int) = 2 from c) (by decide), fun _ => h⟩
section
variable (g : Nat → List TInst) (len : Nat) (hg : ∀ a, okL (a + len) a (g a)) (hl : ∀ a, (g a).length = len)
include hg hl
theorem ok_times : ∀ (n a hi : Nat), a + n * len ≤ hi → okL hi a (timesM g len n a)
  | 0, a, hi, h => trivial
  | n + 1, a, hi, h => by
    rw [Nat.succ_mul] at h
    rw [timesM]
    exact okL_app hi _ _ _ (okL_mono (by omega) _ _ (hg a)) (by rw [hl]; exact ok_times n (a + len) hi (by omega))
theorem ok_opt (fin : Nat) : ∀ (n a : Nat), a + n * (len + 1) ≤ fin → okL fin a (optM g len fin n a)
  | 0, a, h => trivial
  | n + 1, a, h => by
    rw [Nat.succ_mul] at h
    rw [optM]
    exact ⟨ok_split a fin _ (by omega), okL_app fin _ _ _ (okL_mono (by omega) _ _ (hg (a + 1))) (by rw [hl]; exact ok_opt fin n (a + 1 + len) (by omega))⟩
theorem ok_star (a : Nat) : okL (a + (len + 2)) a (starM g len a) := by
  rw [starM]
  refine ⟨ok_split a _ _ (by omega), okL_app _ _ _ _ (okL_mono (by omega) _ _ (hg (a + 1))) ?_⟩
  rw [hl]
  exact ⟨ok_jump _ _ _ (by omega), trivial⟩
end
theorem ok_join : ∀ (l : List TNode), (∀ y ∈ l, ∀ a, okL (a + lenM y) a (layM y a)) → ∀ a hi, a + joinN l ≤ hi → okL hi a (joinM l a)
  | [], _, a, hi, _ => by rw [joinM]; trivial
  | x :: l, h, a, hi, hh => by
    rw [joinN] at hh
    rw [joinM]
    exact okL_app hi _ _ _ (okL_mono (by omega) _ _ (h x (by simp) a)) (by rw [layM_len]; exact ok_join l (fun y hy => h y (by simp [hy])) _ hi (by omega))
theorem ok_or : ∀ (l : List TNode), (∀ y ∈ l, ∀ a, okL (a + lenM y) a (layM y a)) → ∀ a fin, a + orN l ≤ fin → okL fin a (P.orM l a fin)
  | [], _, a, fin, _ => by rw [Go.Proofs.Ytbbplchdgedhcaa.P.orM]; trivial
  | x :: l, h, a, fin, hh => by
    rw [orN] at hh
    rw [Go.Proofs.Ytbbplchdgedhcaa.P.orM]
    by_cases c : l.length = 0
    · rw [if_pos c] at hh ⊢
      exact okL_mono (by omega) _ _ (h x (by simp) a)
    · rw [if_neg c] at hh ⊢
      refine ⟨ok_split a fin _ (by omega), okL_app fin _ _ _ (okL_mono (by omega) _ _ (h x (by simp) (a + 1))) ?_⟩
      rw [layM_len]
      refine ⟨ok_jump _ _ _ (by omega), ?_⟩
      rw [show a + 1 + lenM x + 1 = a + 2 + lenM x by omega]
      exact ok_or l (fun y hy => h y (by simp [hy])) _ fin (by omega)
theorem ok_lay (x : TNode) : ∀ a, okL (a + lenM x) a (layM x a) := by
  induction x using node_ind with
  | h x ih =>
    intro a
    obtain ⟨f0, f1, f2, f3, f4⟩ := x
    simp only at ih
    have hh : ∀ b, okL (b + headN f4) b ((fun b => headM f4 b) b) := fun b => by
      show okL (b + headN f4) b (headM f4 b)
      cases f4 with
      | nil => rw [headM]; trivial
      | cons y l =>
        rw [headM, headN]
        exact ih y (by simp) b
    have hl : ∀ b, ((fun b => headM f4 b) b).length = headN f4 := fun b => headM_len f4 (fun y _ => layM_len y) b
    rw [layM, lenM]
    split
    · exact ⟨ok_simple _ _ _ _ (.inl rfl), trivial⟩
    split
    · exact ⟨ok_simple _ _ _ _ (.inr (.inl rfl)), trivial⟩
    split
    · exact ⟨ok_simple _ _ _ _ (.inr (.inr rfl)), trivial⟩
    split
    · exact ok_join f4 ih a _ (Nat.le_refl _)
    split
    · exact ok_or f4 ih a _ (Nat.le_refl _)
    split
    · split
      · refine okL_app _ _ _ _ (ok_times _ _ hh hl _ _ _ (by omega)) ?_
        rw [timesM_len _ _ hl, ← Nat.add_assoc]
        exact ok_star _ _ hh hl _
      · refine okL_app _ _ _ _ (ok_times _ _ hh hl _ _ _ (by omega)) ?_
        rw [timesM_len _ _ hl, ← Nat.add_assoc]
        exact ok_opt _ _ hh hl _ _ _ (Nat.le_refl _)
    · trivial
end Go.Proofs.Ytbbplchdgedhcaa.Pure
