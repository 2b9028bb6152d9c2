/- Texts of this claim put together by a program of its own (SJoin18, PEv, PTree, PMat, PReach), what the law does not use left out: each part's statements bear their own conditions. -/
import Derived.Test.YtaphbechnjmlgaaC17
import Derived.Test.YtaphbechnjmlgaaC16
import Derived.Test.YtaphbechnjmlgaaC11
import Derived.Test.YtaphbechnjmlgaaC15
namespace Go.Proofs.Ytaphbechnjmlgaa.P
open Go.RowKit Go.Proofs.YtaphbechnjmlgaaW.PrintWords Go.Proofs.YtaphbechnjmlgaaW.PrintLast Go.Proofs.YtaphbechnjmlgaaW.PrintMore
set_option linter.unusedVariables false
set_option linter.unusedSimpArgs false

/-- How it stands: the two trees in blocks of their own, and the characters. -/
structure JS (w W : World) (gx gy : Nat) (x y : DNode) (cx cy : Array Value) (A : Option Addr) (l : List Int) : Prop where
  below : Below w.heap.size w W
  bx : BoxN W gx x cx
  by_ : BoxN W gy y cy
  row : Kd.C (Kd.int .i64) W A l.length l
theorem JS.more {w W W2 : World} {gx gy : Nat} {x y : DNode} {cx cy : Array Value} {A : Option Addr} {l : List Int} (h : JS w W gx gy x y cx cy A l) (hb : Below W.heap.size W W2) : JS w W2 gx gy x y cx cy A l :=
  ⟨below_step h.below hb, h.bx.below hb, h.by_.below hb, Kd.C_below h.row hb⟩
/-- What the parts of the law answer. -/
structure JoinsOk (k : Nat) (x y : DNode) (l : List Int) (sa sb : Bool) (Sa Sb : Int) (ex ey : List Int) (ez : Int → List Int) : Prop where
  ha : ductuslaw18_small.f k x.f0 x.f1 x.f2 x.f3 x.f4 l = some sa
  hb : ductuslaw18_small.f k y.f0 y.f1 y.f2 y.f3 y.f4 l = some sb
  sa_ : ductusref16_Size.f k x.f0 x.f1 x.f2 x.f3 x.f4 = some Sa
  sb_ : ductusref16_Size.f k y.f0 y.f1 y.f2 y.f3 y.f4 = some Sb
  main : sa = true → sb = true → l.length ≤ 20 → Sa ≤ 500 → Sb ≤ 500 → endsS k x l 0 = some ex ∧ endsS k y l 0 = some ey ∧ (∀ p ∈ ex, endsS k y l p = some (ez p)) ∧
    (∀ p ∈ ex, 0 ≤ p ∧ p ≤ (l.length : Int)) ∧ (∀ p ∈ ey, 0 ≤ p ∧ p ≤ (l.length : Int)) ∧ (∀ p ∈ ex, ∀ q ∈ ez p, 0 ≤ q ∧ q ≤ (l.length : Int)) ∧ ex.length ≤ 100 ∧ ey.length ≤ 100 ∧ (∀ p ∈ ex, (ez p).length ≤ 100) ∧
    (∀ i : Nat, i ≤ l.length → ∃ b, deriv_Whole.f k 3 [] 0 0 [x, y] l 0 (i : Int) = some b ∧ (b = true ↔ ∃ p ∈ ex, (i : Int) ∈ ez p)) ∧ (∀ i : Nat, i ≤ l.length → ∃ b, deriv_Whole.f k 4 [] 0 0 [x, y] l 0 (i : Int) = some b ∧ (b = true ↔ (i : Int) ∈ ey ∨ (i : Int) ∈ ex))
open Classical in
theorem BRow.cell' {W : World} {g n : Nat} {P : Int → Prop} (h : BRow W g n P) (j : Nat) (hj : j ≤ n) (b : Bool) (hb : b = true ↔ P (j : Int)) : W.cell? ⟨g, j, none⟩ = some (.bool b) := by
  rw [h.cell j hj]
  congr 2
  rw [Bool.eq_iff_iff, decide_eq_true_iff]
  exact hb.symm
set_option maxHeartbeats 16000000 in
set_option maxRecDepth 100000 in
theorem joins_calls (k : Nat) (x0 : Int) (A1 : Option Addr) (c1 : Nat) (x1 : List S52) (x2 x3 : Int) (A4 : Option Addr) (c4 : Nat) (x4 : List DNode) (y0 : Int) (B1 : Option Addr) (d1 : Nat) (y1 : List S52) (y2 y3 : Int) (B4 : Option Addr) (d4 : Nat) (y4 : List DNode) (A : Option Addr) (c : Nat) (l : List Int) (w : World)
    (hx1 : Kd.C k52 w A1 x1.length x1) (hc1 : x1.length ≤ c1) (hx4 : Kd.C k25 w A4 x4.length x4) (hc4 : x4.length ≤ c4) (hy1 : Kd.C k52 w B1 y1.length y1) (hd1 : y1.length ≤ d1) (hy4 : Kd.C k25 w B4 y4.length y4) (hd4 : y4.length ≤ d4) (hl : Kd.C (Kd.int .i64) w A l.length l) (hc : l.length ≤ c)
    (sa sb : Bool) (Sa Sb : Int) (ex ey : List Int) (ez : Int → List Int) (h : JoinsOk k ⟨x0, x1, x2, x3, x4⟩ ⟨y0, y1, y2, y3, y4⟩ l sa sb Sa Sb ex ey ez) :
    Calls Try.prog 5 #[.agg #[.int .i64 x0, .slice A1 x1.length c1, .int .i64 x2, .int .i64 x3, .slice A4 x4.length c4], .agg #[.int .i64 y0, .slice B1 y1.length d1, .int .i64 y2, .int .i64 y3, .slice B4 y4.length d4], .slice A l.length c] w fun e w' => e = .returned (.bool true) ∧ Below w.heap.size w w' := by
  have hu := Try.underlying25
  have HX1 := Aside0.mk hx1
  have HX4 := Aside0.mk hx4
  have HY1 := Aside0.mk hy1
  have HY4 := Aside0.mk hy4
  have HL0 := Aside0.mk hl
  have HLN := Aside0.mk (show x1.length ≤ c1 ∧ x4.length ≤ c4 ∧ y1.length ≤ d1 ∧ y4.length ≤ d4 ∧ l.length ≤ c from ⟨hc1, hc4, hd1, hd4, hc⟩)
  have HOK := Aside0.mk h
  have HB := Aside0.mk (Below.refl w.heap.size w)
  clear hx1 hx4 hy1 hy4 hc1 hc4 hd1 hd4 hl hc h
  go_enter Try.func5, Try.ntmps5
  go_upto_region 3 with (first
    | ((with_reducible refine gate_dst (N := 3) rfl ?_); (try (refine gate_guard (by rfl) ?_; dsimp only)); refine box_event ?hg (N := 3) ?hd (cs := #[.int .i64 x0, .slice A1 x1.length c1, .int .i64 x2, .int .i64 x3, .slice A4 x4.length c4]) (t := 25) ?hr ?_; (case hd => rfl); (case hg => rfl); (case hr => first | (go_simp; done) | (go_simp; rfl)); intro gx hg w1 hbox hb; have HB1 := Aside0.mk (below_step HB.out hb); have HBX := Aside0.mk (show BoxN w1 gx ⟨x0, x1, x2, x3, x4⟩ #[.int .i64 x0, .slice A1 x1.length c1, .int .i64 x2, .int .i64 x3, .slice A4 x4.length c4] from ⟨hbox, A1, c1, A4, c4, rfl, HLN.out.1, Kd.C_below HX1.out HB1.out, HLN.out.2.1, Kd.C_below HX4.out HB1.out⟩); clear hb hbox hg HX1 HX4)
    | ((with_reducible refine gate_dst (N := 4) rfl ?_); (try (refine gate_guard (by rfl) ?_; dsimp only)); refine box_event ?hg (N := 4) ?hd (cs := #[.int .i64 y0, .slice B1 y1.length d1, .int .i64 y2, .int .i64 y3, .slice B4 y4.length d4]) (t := 25) ?hr ?_; (case hd => rfl); (case hg => rfl); (case hr => first | (go_simp; done) | (go_simp; rfl)); intro gy hg w2 hbox hb; have HB2 := Aside0.mk (below_step HB1.out hb); have HJ2 := Aside0.mk (show JS w w2 gx gy ⟨x0, x1, x2, x3, x4⟩ ⟨y0, y1, y2, y3, y4⟩ #[.int .i64 x0, .slice A1 x1.length c1, .int .i64 x2, .int .i64 x3, .slice A4 x4.length c4] #[.int .i64 y0, .slice B1 y1.length d1, .int .i64 y2, .int .i64 y3, .slice B4 y4.length d4] A l from ⟨HB2.out, HBX.out.below hb, ⟨hbox, B1, d1, B4, d4, rfl, HLN.out.2.2.1, Kd.C_below HY1.out HB2.out, HLN.out.2.2.2.1, Kd.C_below HY4.out HB2.out⟩, Kd.C_below HL0.out HB2.out⟩); clear hb hbox hg HY1 HY4 HL0 HB HB1 HB2 HBX)
    | (go_at_call 7; (with_reducible refine (ductuslaw18_alive.calls true _ rfl).mono ?_); rintro e w3 ⟨rfl, hb⟩; have HJ := Aside0.mk (HJ2.out.more hb); clear hb HJ2))
  (try simp only [Act.put, List.setIfInBounds_toArray, List.set_cons_zero, List.set_cons_succ])
  go_cut [44] (fun v44 wc => ∃ sk : Bool, v44 = .bool sk ∧ Aside0 (sk = false → sa = true ∧ sb = true ∧ l.length ≤ 20 ∧ Sa ≤ 500 ∧ Sb ≤ 500) ∧ Aside0 (JS w wc gx gy ⟨x0, x1, x2, x3, x4⟩ ⟨y0, y1, y2, y3, y4⟩ #[.int .i64 x0, .slice A1 x1.length c1, .int .i64 x2, .int .i64 x3, .slice A4 x4.length c4] #[.int .i64 y0, .slice B1 y1.length d1, .int .i64 y2, .int .i64 y3, .slice B4 y4.length d4] A l))
  case first =>
    have zx00 := blk_cell HJ.out.bx.blk 0; have zx01 := blk_cell HJ.out.bx.blk 1; have zx02 := blk_cell HJ.out.bx.blk 2; have zx03 := blk_cell HJ.out.bx.blk 3; have zx04 := blk_cell HJ.out.bx.blk 4; have zy00 := blk_cell HJ.out.by_.blk 0; have zy01 := blk_cell HJ.out.by_.blk 1; have zy02 := blk_cell HJ.out.by_.blk 2; have zy03 := blk_cell HJ.out.by_.blk 3; have zy04 := blk_cell HJ.out.by_.blk 4
    cases sa with
    | false =>
      go_wp2_with (first
        | ((with_reducible refine gate_callee (f := 8) rfl ?_); (try (refine gate_guard (by rfl) ?_; dsimp only)); refine goesL_ (some 22) rfl rfl Try.func8 (by kernel_rfl) rfl #[.agg #[.int .i64 x0, .slice A1 x1.length c1, .int .i64 x2, .int .i64 x3, .slice A4 x4.length c4], .slice A l.length c] rfl (by (try simp only [List.map_toArray, List.map_cons, List.map_nil]); first | done | rfl) ?_; refine (small_node k HJ.out.bx.at_ HJ.out.row HLN.out.2.2.2.2 HOK.out.ha).mono ?_; rintro e_ w_HJ4 ⟨rfl, hb⟩; refine ⟨_, rfl, ?_⟩; have HJ4 := Aside0.mk (HJ.out.more hb); have zxHJ40 := blk_cell HJ4.out.bx.blk 0; have zxHJ41 := blk_cell HJ4.out.bx.blk 1; have zxHJ42 := blk_cell HJ4.out.bx.blk 2; have zxHJ43 := blk_cell HJ4.out.bx.blk 3; have zxHJ44 := blk_cell HJ4.out.bx.blk 4; have zyHJ40 := blk_cell HJ4.out.by_.blk 0; have zyHJ41 := blk_cell HJ4.out.by_.blk 1; have zyHJ42 := blk_cell HJ4.out.by_.blk 2; have zyHJ43 := blk_cell HJ4.out.by_.blk 3; have zyHJ44 := blk_cell HJ4.out.by_.blk 4; clear hb))
      go_meet
      case rel => exact ⟨true, (by first | rfl | (simp [*]; done)), ⟨fun h => by cases h⟩, HJ4⟩
    | true =>
      cases sb with
      | false =>
        go_wp2_with (first
        | ((with_reducible refine gate_callee (f := 8) rfl ?_); (try (refine gate_guard (by rfl) ?_; dsimp only)); refine goesL_ (some 22) rfl rfl Try.func8 (by kernel_rfl) rfl #[.agg #[.int .i64 x0, .slice A1 x1.length c1, .int .i64 x2, .int .i64 x3, .slice A4 x4.length c4], .slice A l.length c] rfl (by (try simp only [List.map_toArray, List.map_cons, List.map_nil]); first | done | rfl) ?_; refine (small_node k HJ.out.bx.at_ HJ.out.row HLN.out.2.2.2.2 HOK.out.ha).mono ?_; rintro e_ w_HJ4 ⟨rfl, hb⟩; refine ⟨_, rfl, ?_⟩; have HJ4 := Aside0.mk (HJ.out.more hb); have zxHJ40 := blk_cell HJ4.out.bx.blk 0; have zxHJ41 := blk_cell HJ4.out.bx.blk 1; have zxHJ42 := blk_cell HJ4.out.bx.blk 2; have zxHJ43 := blk_cell HJ4.out.bx.blk 3; have zxHJ44 := blk_cell HJ4.out.bx.blk 4; have zyHJ40 := blk_cell HJ4.out.by_.blk 0; have zyHJ41 := blk_cell HJ4.out.by_.blk 1; have zyHJ42 := blk_cell HJ4.out.by_.blk 2; have zyHJ43 := blk_cell HJ4.out.by_.blk 3; have zyHJ44 := blk_cell HJ4.out.by_.blk 4; clear hb)
        | ((with_reducible refine gate_callee (f := 8) rfl ?_); (try (refine gate_guard (by rfl) ?_; dsimp only)); refine goesL_ (some 27) rfl rfl Try.func8 (by kernel_rfl) rfl #[.agg #[.int .i64 y0, .slice B1 y1.length d1, .int .i64 y2, .int .i64 y3, .slice B4 y4.length d4], .slice A l.length c] rfl (by (try simp only [List.map_toArray, List.map_cons, List.map_nil]); first | done | rfl) ?_; refine (small_node k HJ4.out.by_.at_ HJ4.out.row HLN.out.2.2.2.2 HOK.out.hb).mono ?_; rintro e_ w_HJ5 ⟨rfl, hb⟩; refine ⟨_, rfl, ?_⟩; have HJ5 := Aside0.mk (HJ4.out.more hb); have zxHJ50 := blk_cell HJ5.out.bx.blk 0; have zxHJ51 := blk_cell HJ5.out.bx.blk 1; have zxHJ52 := blk_cell HJ5.out.bx.blk 2; have zxHJ53 := blk_cell HJ5.out.bx.blk 3; have zxHJ54 := blk_cell HJ5.out.bx.blk 4; have zyHJ50 := blk_cell HJ5.out.by_.blk 0; have zyHJ51 := blk_cell HJ5.out.by_.blk 1; have zyHJ52 := blk_cell HJ5.out.by_.blk 2; have zyHJ53 := blk_cell HJ5.out.by_.blk 3; have zyHJ54 := blk_cell HJ5.out.by_.blk 4; clear hb))
        go_meet
        case rel => exact ⟨true, (by first | rfl | (simp [*]; done)), ⟨fun h => by cases h⟩, HJ5⟩
      | true =>
        by_cases k1 : l.length > 20
        · have e1 : decide (20 < (l.length : Int)) = true := decide_eq_true (by omega)
          go_wp2_with (first
        | ((with_reducible refine gate_callee (f := 8) rfl ?_); (try (refine gate_guard (by rfl) ?_; dsimp only)); refine goesL_ (some 22) rfl rfl Try.func8 (by kernel_rfl) rfl #[.agg #[.int .i64 x0, .slice A1 x1.length c1, .int .i64 x2, .int .i64 x3, .slice A4 x4.length c4], .slice A l.length c] rfl (by (try simp only [List.map_toArray, List.map_cons, List.map_nil]); first | done | rfl) ?_; refine (small_node k HJ.out.bx.at_ HJ.out.row HLN.out.2.2.2.2 HOK.out.ha).mono ?_; rintro e_ w_HJ4 ⟨rfl, hb⟩; refine ⟨_, rfl, ?_⟩; have HJ4 := Aside0.mk (HJ.out.more hb); have zxHJ40 := blk_cell HJ4.out.bx.blk 0; have zxHJ41 := blk_cell HJ4.out.bx.blk 1; have zxHJ42 := blk_cell HJ4.out.bx.blk 2; have zxHJ43 := blk_cell HJ4.out.bx.blk 3; have zxHJ44 := blk_cell HJ4.out.bx.blk 4; have zyHJ40 := blk_cell HJ4.out.by_.blk 0; have zyHJ41 := blk_cell HJ4.out.by_.blk 1; have zyHJ42 := blk_cell HJ4.out.by_.blk 2; have zyHJ43 := blk_cell HJ4.out.by_.blk 3; have zyHJ44 := blk_cell HJ4.out.by_.blk 4; clear hb)
        | ((with_reducible refine gate_callee (f := 8) rfl ?_); (try (refine gate_guard (by rfl) ?_; dsimp only)); refine goesL_ (some 27) rfl rfl Try.func8 (by kernel_rfl) rfl #[.agg #[.int .i64 y0, .slice B1 y1.length d1, .int .i64 y2, .int .i64 y3, .slice B4 y4.length d4], .slice A l.length c] rfl (by (try simp only [List.map_toArray, List.map_cons, List.map_nil]); first | done | rfl) ?_; refine (small_node k HJ4.out.by_.at_ HJ4.out.row HLN.out.2.2.2.2 HOK.out.hb).mono ?_; rintro e_ w_HJ5 ⟨rfl, hb⟩; refine ⟨_, rfl, ?_⟩; have HJ5 := Aside0.mk (HJ4.out.more hb); have zxHJ50 := blk_cell HJ5.out.bx.blk 0; have zxHJ51 := blk_cell HJ5.out.bx.blk 1; have zxHJ52 := blk_cell HJ5.out.bx.blk 2; have zxHJ53 := blk_cell HJ5.out.bx.blk 3; have zxHJ54 := blk_cell HJ5.out.bx.blk 4; have zyHJ50 := blk_cell HJ5.out.by_.blk 0; have zyHJ51 := blk_cell HJ5.out.by_.blk 1; have zyHJ52 := blk_cell HJ5.out.by_.blk 2; have zyHJ53 := blk_cell HJ5.out.by_.blk 3; have zyHJ54 := blk_cell HJ5.out.by_.blk 4; clear hb))
          go_meet
          case rel => exact ⟨true, (by first | rfl | (simp [*]; done)), ⟨fun h => by cases h⟩, HJ5⟩
        have e1 : decide (20 < (l.length : Int)) = false := decide_eq_false (by omega)
        by_cases k2 : Sa > 500
        · have e2 : decide (500 < Sa) = true := decide_eq_true k2
          go_wp2_with (first
        | ((with_reducible refine gate_callee (f := 8) rfl ?_); (try (refine gate_guard (by rfl) ?_; dsimp only)); refine goesL_ (some 22) rfl rfl Try.func8 (by kernel_rfl) rfl #[.agg #[.int .i64 x0, .slice A1 x1.length c1, .int .i64 x2, .int .i64 x3, .slice A4 x4.length c4], .slice A l.length c] rfl (by (try simp only [List.map_toArray, List.map_cons, List.map_nil]); first | done | rfl) ?_; refine (small_node k HJ.out.bx.at_ HJ.out.row HLN.out.2.2.2.2 HOK.out.ha).mono ?_; rintro e_ w_HJ4 ⟨rfl, hb⟩; refine ⟨_, rfl, ?_⟩; have HJ4 := Aside0.mk (HJ.out.more hb); have zxHJ40 := blk_cell HJ4.out.bx.blk 0; have zxHJ41 := blk_cell HJ4.out.bx.blk 1; have zxHJ42 := blk_cell HJ4.out.bx.blk 2; have zxHJ43 := blk_cell HJ4.out.bx.blk 3; have zxHJ44 := blk_cell HJ4.out.bx.blk 4; have zyHJ40 := blk_cell HJ4.out.by_.blk 0; have zyHJ41 := blk_cell HJ4.out.by_.blk 1; have zyHJ42 := blk_cell HJ4.out.by_.blk 2; have zyHJ43 := blk_cell HJ4.out.by_.blk 3; have zyHJ44 := blk_cell HJ4.out.by_.blk 4; clear hb)
        | ((with_reducible refine gate_callee (f := 8) rfl ?_); (try (refine gate_guard (by rfl) ?_; dsimp only)); refine goesL_ (some 27) rfl rfl Try.func8 (by kernel_rfl) rfl #[.agg #[.int .i64 y0, .slice B1 y1.length d1, .int .i64 y2, .int .i64 y3, .slice B4 y4.length d4], .slice A l.length c] rfl (by (try simp only [List.map_toArray, List.map_cons, List.map_nil]); first | done | rfl) ?_; refine (small_node k HJ4.out.by_.at_ HJ4.out.row HLN.out.2.2.2.2 HOK.out.hb).mono ?_; rintro e_ w_HJ5 ⟨rfl, hb⟩; refine ⟨_, rfl, ?_⟩; have HJ5 := Aside0.mk (HJ4.out.more hb); have zxHJ50 := blk_cell HJ5.out.bx.blk 0; have zxHJ51 := blk_cell HJ5.out.bx.blk 1; have zxHJ52 := blk_cell HJ5.out.bx.blk 2; have zxHJ53 := blk_cell HJ5.out.bx.blk 3; have zxHJ54 := blk_cell HJ5.out.bx.blk 4; have zyHJ50 := blk_cell HJ5.out.by_.blk 0; have zyHJ51 := blk_cell HJ5.out.by_.blk 1; have zyHJ52 := blk_cell HJ5.out.by_.blk 2; have zyHJ53 := blk_cell HJ5.out.by_.blk 3; have zyHJ54 := blk_cell HJ5.out.by_.blk 4; clear hb)
        | ((with_reducible refine gate_callee (f := 11) rfl ?_); (try (refine gate_guard (by rfl) ?_; dsimp only)); refine goesL_ (some 37) rfl rfl Try.func11 (by kernel_rfl) rfl #[.agg #[.int .i64 x0, .slice A1 x1.length c1, .int .i64 x2, .int .i64 x3, .slice A4 x4.length c4]] rfl (by (try simp only [List.map_toArray, List.map_cons, List.map_nil]); first | done | rfl) ?_; refine (size_node k HJ5.out.bx.at_ HOK.out.sa_).mono ?_; rintro e_ w_HJ6 ⟨rfl, hb⟩; refine ⟨_, rfl, ?_⟩; have HJ6 := Aside0.mk (HJ5.out.more hb); have zxHJ60 := blk_cell HJ6.out.bx.blk 0; have zxHJ61 := blk_cell HJ6.out.bx.blk 1; have zxHJ62 := blk_cell HJ6.out.bx.blk 2; have zxHJ63 := blk_cell HJ6.out.bx.blk 3; have zxHJ64 := blk_cell HJ6.out.bx.blk 4; have zyHJ60 := blk_cell HJ6.out.by_.blk 0; have zyHJ61 := blk_cell HJ6.out.by_.blk 1; have zyHJ62 := blk_cell HJ6.out.by_.blk 2; have zyHJ63 := blk_cell HJ6.out.by_.blk 3; have zyHJ64 := blk_cell HJ6.out.by_.blk 4; clear hb))
          go_meet
          case rel => exact ⟨true, (by first | rfl | (simp [*]; done)), ⟨fun h => by cases h⟩, HJ6⟩
        have e2 : decide (500 < Sa) = false := decide_eq_false k2
        by_cases k3 : Sb > 500
        · have e3 : decide (500 < Sb) = true := decide_eq_true k3
          go_wp2_with (first
        | ((with_reducible refine gate_callee (f := 8) rfl ?_); (try (refine gate_guard (by rfl) ?_; dsimp only)); refine goesL_ (some 22) rfl rfl Try.func8 (by kernel_rfl) rfl #[.agg #[.int .i64 x0, .slice A1 x1.length c1, .int .i64 x2, .int .i64 x3, .slice A4 x4.length c4], .slice A l.length c] rfl (by (try simp only [List.map_toArray, List.map_cons, List.map_nil]); first | done | rfl) ?_; refine (small_node k HJ.out.bx.at_ HJ.out.row HLN.out.2.2.2.2 HOK.out.ha).mono ?_; rintro e_ w_HJ4 ⟨rfl, hb⟩; refine ⟨_, rfl, ?_⟩; have HJ4 := Aside0.mk (HJ.out.more hb); have zxHJ40 := blk_cell HJ4.out.bx.blk 0; have zxHJ41 := blk_cell HJ4.out.bx.blk 1; have zxHJ42 := blk_cell HJ4.out.bx.blk 2; have zxHJ43 := blk_cell HJ4.out.bx.blk 3; have zxHJ44 := blk_cell HJ4.out.bx.blk 4; have zyHJ40 := blk_cell HJ4.out.by_.blk 0; have zyHJ41 := blk_cell HJ4.out.by_.blk 1; have zyHJ42 := blk_cell HJ4.out.by_.blk 2; have zyHJ43 := blk_cell HJ4.out.by_.blk 3; have zyHJ44 := blk_cell HJ4.out.by_.blk 4; clear hb)
        | ((with_reducible refine gate_callee (f := 8) rfl ?_); (try (refine gate_guard (by rfl) ?_; dsimp only)); refine goesL_ (some 27) rfl rfl Try.func8 (by kernel_rfl) rfl #[.agg #[.int .i64 y0, .slice B1 y1.length d1, .int .i64 y2, .int .i64 y3, .slice B4 y4.length d4], .slice A l.length c] rfl (by (try simp only [List.map_toArray, List.map_cons, List.map_nil]); first | done | rfl) ?_; refine (small_node k HJ4.out.by_.at_ HJ4.out.row HLN.out.2.2.2.2 HOK.out.hb).mono ?_; rintro e_ w_HJ5 ⟨rfl, hb⟩; refine ⟨_, rfl, ?_⟩; have HJ5 := Aside0.mk (HJ4.out.more hb); have zxHJ50 := blk_cell HJ5.out.bx.blk 0; have zxHJ51 := blk_cell HJ5.out.bx.blk 1; have zxHJ52 := blk_cell HJ5.out.bx.blk 2; have zxHJ53 := blk_cell HJ5.out.bx.blk 3; have zxHJ54 := blk_cell HJ5.out.bx.blk 4; have zyHJ50 := blk_cell HJ5.out.by_.blk 0; have zyHJ51 := blk_cell HJ5.out.by_.blk 1; have zyHJ52 := blk_cell HJ5.out.by_.blk 2; have zyHJ53 := blk_cell HJ5.out.by_.blk 3; have zyHJ54 := blk_cell HJ5.out.by_.blk 4; clear hb)
        | ((with_reducible refine gate_callee (f := 11) rfl ?_); (try (refine gate_guard (by rfl) ?_; dsimp only)); refine goesL_ (some 37) rfl rfl Try.func11 (by kernel_rfl) rfl #[.agg #[.int .i64 x0, .slice A1 x1.length c1, .int .i64 x2, .int .i64 x3, .slice A4 x4.length c4]] rfl (by (try simp only [List.map_toArray, List.map_cons, List.map_nil]); first | done | rfl) ?_; refine (size_node k HJ5.out.bx.at_ HOK.out.sa_).mono ?_; rintro e_ w_HJ6 ⟨rfl, hb⟩; refine ⟨_, rfl, ?_⟩; have HJ6 := Aside0.mk (HJ5.out.more hb); have zxHJ60 := blk_cell HJ6.out.bx.blk 0; have zxHJ61 := blk_cell HJ6.out.bx.blk 1; have zxHJ62 := blk_cell HJ6.out.bx.blk 2; have zxHJ63 := blk_cell HJ6.out.bx.blk 3; have zxHJ64 := blk_cell HJ6.out.bx.blk 4; have zyHJ60 := blk_cell HJ6.out.by_.blk 0; have zyHJ61 := blk_cell HJ6.out.by_.blk 1; have zyHJ62 := blk_cell HJ6.out.by_.blk 2; have zyHJ63 := blk_cell HJ6.out.by_.blk 3; have zyHJ64 := blk_cell HJ6.out.by_.blk 4; clear hb)
        | ((with_reducible refine gate_callee (f := 11) rfl ?_); (try (refine gate_guard (by rfl) ?_; dsimp only)); refine goesL_ (some 42) rfl rfl Try.func11 (by kernel_rfl) rfl #[.agg #[.int .i64 y0, .slice B1 y1.length d1, .int .i64 y2, .int .i64 y3, .slice B4 y4.length d4]] rfl (by (try simp only [List.map_toArray, List.map_cons, List.map_nil]); first | done | rfl) ?_; refine (size_node k HJ6.out.by_.at_ HOK.out.sb_).mono ?_; rintro e_ w_HJ7 ⟨rfl, hb⟩; refine ⟨_, rfl, ?_⟩; have HJ7 := Aside0.mk (HJ6.out.more hb); have zxHJ70 := blk_cell HJ7.out.bx.blk 0; have zxHJ71 := blk_cell HJ7.out.bx.blk 1; have zxHJ72 := blk_cell HJ7.out.bx.blk 2; have zxHJ73 := blk_cell HJ7.out.bx.blk 3; have zxHJ74 := blk_cell HJ7.out.bx.blk 4; have zyHJ70 := blk_cell HJ7.out.by_.blk 0; have zyHJ71 := blk_cell HJ7.out.by_.blk 1; have zyHJ72 := blk_cell HJ7.out.by_.blk 2; have zyHJ73 := blk_cell HJ7.out.by_.blk 3; have zyHJ74 := blk_cell HJ7.out.by_.blk 4; clear hb))
          go_meet
          case rel => exact ⟨true, (by first | rfl | (simp [*]; done)), ⟨fun h => by cases h⟩, HJ7⟩
        have e3 : decide (500 < Sb) = false := decide_eq_false k3
        go_wp2_with (first
        | ((with_reducible refine gate_callee (f := 8) rfl ?_); (try (refine gate_guard (by rfl) ?_; dsimp only)); refine goesL_ (some 22) rfl rfl Try.func8 (by kernel_rfl) rfl #[.agg #[.int .i64 x0, .slice A1 x1.length c1, .int .i64 x2, .int .i64 x3, .slice A4 x4.length c4], .slice A l.length c] rfl (by (try simp only [List.map_toArray, List.map_cons, List.map_nil]); first | done | rfl) ?_; refine (small_node k HJ.out.bx.at_ HJ.out.row HLN.out.2.2.2.2 HOK.out.ha).mono ?_; rintro e_ w_HJ4 ⟨rfl, hb⟩; refine ⟨_, rfl, ?_⟩; have HJ4 := Aside0.mk (HJ.out.more hb); have zxHJ40 := blk_cell HJ4.out.bx.blk 0; have zxHJ41 := blk_cell HJ4.out.bx.blk 1; have zxHJ42 := blk_cell HJ4.out.bx.blk 2; have zxHJ43 := blk_cell HJ4.out.bx.blk 3; have zxHJ44 := blk_cell HJ4.out.bx.blk 4; have zyHJ40 := blk_cell HJ4.out.by_.blk 0; have zyHJ41 := blk_cell HJ4.out.by_.blk 1; have zyHJ42 := blk_cell HJ4.out.by_.blk 2; have zyHJ43 := blk_cell HJ4.out.by_.blk 3; have zyHJ44 := blk_cell HJ4.out.by_.blk 4; clear hb)
        | ((with_reducible refine gate_callee (f := 8) rfl ?_); (try (refine gate_guard (by rfl) ?_; dsimp only)); refine goesL_ (some 27) rfl rfl Try.func8 (by kernel_rfl) rfl #[.agg #[.int .i64 y0, .slice B1 y1.length d1, .int .i64 y2, .int .i64 y3, .slice B4 y4.length d4], .slice A l.length c] rfl (by (try simp only [List.map_toArray, List.map_cons, List.map_nil]); first | done | rfl) ?_; refine (small_node k HJ4.out.by_.at_ HJ4.out.row HLN.out.2.2.2.2 HOK.out.hb).mono ?_; rintro e_ w_HJ5 ⟨rfl, hb⟩; refine ⟨_, rfl, ?_⟩; have HJ5 := Aside0.mk (HJ4.out.more hb); have zxHJ50 := blk_cell HJ5.out.bx.blk 0; have zxHJ51 := blk_cell HJ5.out.bx.blk 1; have zxHJ52 := blk_cell HJ5.out.bx.blk 2; have zxHJ53 := blk_cell HJ5.out.bx.blk 3; have zxHJ54 := blk_cell HJ5.out.bx.blk 4; have zyHJ50 := blk_cell HJ5.out.by_.blk 0; have zyHJ51 := blk_cell HJ5.out.by_.blk 1; have zyHJ52 := blk_cell HJ5.out.by_.blk 2; have zyHJ53 := blk_cell HJ5.out.by_.blk 3; have zyHJ54 := blk_cell HJ5.out.by_.blk 4; clear hb)
        | ((with_reducible refine gate_callee (f := 11) rfl ?_); (try (refine gate_guard (by rfl) ?_; dsimp only)); refine goesL_ (some 37) rfl rfl Try.func11 (by kernel_rfl) rfl #[.agg #[.int .i64 x0, .slice A1 x1.length c1, .int .i64 x2, .int .i64 x3, .slice A4 x4.length c4]] rfl (by (try simp only [List.map_toArray, List.map_cons, List.map_nil]); first | done | rfl) ?_; refine (size_node k HJ5.out.bx.at_ HOK.out.sa_).mono ?_; rintro e_ w_HJ6 ⟨rfl, hb⟩; refine ⟨_, rfl, ?_⟩; have HJ6 := Aside0.mk (HJ5.out.more hb); have zxHJ60 := blk_cell HJ6.out.bx.blk 0; have zxHJ61 := blk_cell HJ6.out.bx.blk 1; have zxHJ62 := blk_cell HJ6.out.bx.blk 2; have zxHJ63 := blk_cell HJ6.out.bx.blk 3; have zxHJ64 := blk_cell HJ6.out.bx.blk 4; have zyHJ60 := blk_cell HJ6.out.by_.blk 0; have zyHJ61 := blk_cell HJ6.out.by_.blk 1; have zyHJ62 := blk_cell HJ6.out.by_.blk 2; have zyHJ63 := blk_cell HJ6.out.by_.blk 3; have zyHJ64 := blk_cell HJ6.out.by_.blk 4; clear hb)
        | ((with_reducible refine gate_callee (f := 11) rfl ?_); (try (refine gate_guard (by rfl) ?_; dsimp only)); refine goesL_ (some 42) rfl rfl Try.func11 (by kernel_rfl) rfl #[.agg #[.int .i64 y0, .slice B1 y1.length d1, .int .i64 y2, .int .i64 y3, .slice B4 y4.length d4]] rfl (by (try simp only [List.map_toArray, List.map_cons, List.map_nil]); first | done | rfl) ?_; refine (size_node k HJ6.out.by_.at_ HOK.out.sb_).mono ?_; rintro e_ w_HJ7 ⟨rfl, hb⟩; refine ⟨_, rfl, ?_⟩; have HJ7 := Aside0.mk (HJ6.out.more hb); have zxHJ70 := blk_cell HJ7.out.bx.blk 0; have zxHJ71 := blk_cell HJ7.out.bx.blk 1; have zxHJ72 := blk_cell HJ7.out.bx.blk 2; have zxHJ73 := blk_cell HJ7.out.bx.blk 3; have zxHJ74 := blk_cell HJ7.out.bx.blk 4; have zyHJ70 := blk_cell HJ7.out.by_.blk 0; have zyHJ71 := blk_cell HJ7.out.by_.blk 1; have zyHJ72 := blk_cell HJ7.out.by_.blk 2; have zyHJ73 := blk_cell HJ7.out.by_.blk 3; have zyHJ74 := blk_cell HJ7.out.by_.blk 4; clear hb))
        go_meet
        case rel => exact ⟨false, (by first | rfl | (simp [*]; done)), ⟨fun _ => ⟨by simp, by simp, by omega, by omega, by omega⟩⟩, HJ7⟩
  case rest =>
    clear HJ
    obtain ⟨sk, rfl, HSK, HJ⟩ := hcut
    cases sk with
    | true =>
      go_wp2
      go_ret
      exact ⟨rfl, HJ.out.below⟩
    | false =>
      obtain ⟨m1, m2, m3, m4, m5⟩ := HSK.out rfl
      obtain ⟨q1, q2, q3, q4, q5, q6, q7, q8, q9, q10, q11⟩ := HOK.out.main m1 m2 m3 m4 m5
      have Q1 := Aside0.mk q1
      have Q2 := Aside0.mk q2
      have Q3 := Aside0.mk q3
      have Q4 := Aside0.mk q4
      have Q5 := Aside0.mk q5
      have Q6 := Aside0.mk q6
      have Q7 := Aside0.mk q7
      have Q8 := Aside0.mk q8
      have Q9 := Aside0.mk q9
      have Q10 := Aside0.mk q10
      have Q11 := Aside0.mk q11
      have HL20 := Aside0.mk m3
      clear q1 q2 q3 q4 q5 q6 q7 q8 q9 q10 q11 m1 m2 m3 m4 m5 HSK HOK
      obtain ⟨W, hW⟩ : ∃ W : World, W = wc := ⟨_, rfl⟩
      rw [← hW] at HJ ⊢
      clear hW
      have zx50 := blk_cell HJ.out.bx.blk 0; have zx51 := blk_cell HJ.out.bx.blk 1; have zx52 := blk_cell HJ.out.bx.blk 2; have zx53 := blk_cell HJ.out.bx.blk 3; have zx54 := blk_cell HJ.out.bx.blk 4; have zy50 := blk_cell HJ.out.by_.blk 0; have zy51 := blk_cell HJ.out.by_.blk 1; have zy52 := blk_cell HJ.out.by_.blk 2; have zy53 := blk_cell HJ.out.by_.blk 3; have zy54 := blk_cell HJ.out.by_.blk 4
      go_upto_region 6 with (fail)
      clear zx50 zy50 zx51 zy51 zx52 zy52 zx53 zy53 zx54 zy54
      have hq : BoxN ((W.alloc (.cells #[.int .i64 x0, .slice A1 x1.length c1, .int .i64 x2, .int .i64 x3, .slice A4 x4.length c4, .int .i64 y0, .slice B1 y1.length d1, .int .i64 y2, .int .i64 y3, .slice B4 y4.length d4] 25)).alloc (.cells #[.int .i64 3, .slice none 0 0, .int .i64 0, .int .i64 0, .slice (some ⟨W.heap.size, 0, none⟩) 2 2] 25)) (W.heap.size + 1) ⟨3, [], 0, 0, [⟨x0, x1, x2, x3, x4⟩, ⟨y0, y1, y2, y3, y4⟩]⟩ #[.int .i64 3, .slice none 0 0, .int .i64 0, .int .i64 0, .slice (some ⟨W.heap.size, 0, none⟩) 2 2] ∧ Below W.heap.size W ((W.alloc (.cells #[.int .i64 x0, .slice A1 x1.length c1, .int .i64 x2, .int .i64 x3, .slice A4 x4.length c4, .int .i64 y0, .slice B1 y1.length d1, .int .i64 y2, .int .i64 y3, .slice B4 y4.length d4] 25)).alloc (.cells #[.int .i64 3, .slice none 0 0, .int .i64 0, .int .i64 0, .slice (some ⟨W.heap.size, 0, none⟩) 2 2] 25)) := lit_two (w := W) (cx := [.int .i64 x0, .slice A1 x1.length c1, .int .i64 x2, .int .i64 x3, .slice A4 x4.length c4]) (cy := [.int .i64 y0, .slice B1 y1.length d1, .int .i64 y2, .int .i64 y3, .slice B4 y4.length d4]) HJ.out.bx.at_ HJ.out.by_.at_ 3 0 0
      have HV3 := Aside0.mk hq.1
      have hb := hq.2
      have HJ5 := Aside0.mk (HJ.out.more hb)
      clear hq hb HJ
      generalize ((W.alloc (.cells #[.int .i64 x0, .slice A1 x1.length c1, .int .i64 x2, .int .i64 x3, .slice A4 x4.length c4, .int .i64 y0, .slice B1 y1.length d1, .int .i64 y2, .int .i64 y3, .slice B4 y4.length d4] 25)).alloc (.cells #[.int .i64 3, .slice none 0 0, .int .i64 0, .int .i64 0, .slice (some ⟨W.heap.size, 0, none⟩) 2 2] 25)) = W5 at HV3 HJ5 ⊢
      obtain ⟨g7, hg⟩ : ∃ g, W.heap.size + 1 = g := ⟨_, rfl⟩
      rw [hg] at HV3 ⊢
      generalize W.heap.size = b7 at HV3 hg ⊢
      clear hg
      have zx60 := blk_cell HJ5.out.bx.blk 0; have zx61 := blk_cell HJ5.out.bx.blk 1; have zx62 := blk_cell HJ5.out.bx.blk 2; have zx63 := blk_cell HJ5.out.bx.blk 3; have zx64 := blk_cell HJ5.out.bx.blk 4; have zy60 := blk_cell HJ5.out.by_.blk 0; have zy61 := blk_cell HJ5.out.by_.blk 1; have zy62 := blk_cell HJ5.out.by_.blk 2; have zy63 := blk_cell HJ5.out.by_.blk 3; have zy64 := blk_cell HJ5.out.by_.blk 4
      go_upto_region 7 with (fail)
      clear zx60 zy60 zx61 zy61 zx62 zy62 zx63 zy63 zx64 zy64
      have hq : BoxN ((W5.alloc (.cells #[.int .i64 x0, .slice A1 x1.length c1, .int .i64 x2, .int .i64 x3, .slice A4 x4.length c4, .int .i64 y0, .slice B1 y1.length d1, .int .i64 y2, .int .i64 y3, .slice B4 y4.length d4] 25)).alloc (.cells #[.int .i64 4, .slice none 0 0, .int .i64 0, .int .i64 0, .slice (some ⟨W5.heap.size, 0, none⟩) 2 2] 25)) (W5.heap.size + 1) ⟨4, [], 0, 0, [⟨x0, x1, x2, x3, x4⟩, ⟨y0, y1, y2, y3, y4⟩]⟩ #[.int .i64 4, .slice none 0 0, .int .i64 0, .int .i64 0, .slice (some ⟨W5.heap.size, 0, none⟩) 2 2] ∧ Below W5.heap.size W5 ((W5.alloc (.cells #[.int .i64 x0, .slice A1 x1.length c1, .int .i64 x2, .int .i64 x3, .slice A4 x4.length c4, .int .i64 y0, .slice B1 y1.length d1, .int .i64 y2, .int .i64 y3, .slice B4 y4.length d4] 25)).alloc (.cells #[.int .i64 4, .slice none 0 0, .int .i64 0, .int .i64 0, .slice (some ⟨W5.heap.size, 0, none⟩) 2 2] 25)) := lit_two (w := W5) (cx := [.int .i64 x0, .slice A1 x1.length c1, .int .i64 x2, .int .i64 x3, .slice A4 x4.length c4]) (cy := [.int .i64 y0, .slice B1 y1.length d1, .int .i64 y2, .int .i64 y3, .slice B4 y4.length d4]) HJ5.out.bx.at_ HJ5.out.by_.at_ 4 0 0
      have HV4 := Aside0.mk hq.1
      have hb := hq.2
      have HV3' := Aside0.mk (HV3.out.below hb)
      clear HV3
      have HV3 := HV3'
      clear HV3'
      have HJ6 := Aside0.mk (HJ5.out.more hb)
      clear hq hb HJ5
      generalize ((W5.alloc (.cells #[.int .i64 x0, .slice A1 x1.length c1, .int .i64 x2, .int .i64 x3, .slice A4 x4.length c4, .int .i64 y0, .slice B1 y1.length d1, .int .i64 y2, .int .i64 y3, .slice B4 y4.length d4] 25)).alloc (.cells #[.int .i64 4, .slice none 0 0, .int .i64 0, .int .i64 0, .slice (some ⟨W5.heap.size, 0, none⟩) 2 2] 25)) = V at HV4 HJ6 HV3 ⊢
      obtain ⟨g8, hg⟩ : ∃ g, W5.heap.size + 1 = g := ⟨_, rfl⟩
      rw [hg] at HV4 ⊢
      generalize W5.heap.size = b8 at HV4 hg ⊢
      clear hg
      have hw7 : wrap64 ((l.length : Int) + 1) = ((l.length + 1 : Nat) : Int) := sn_wrap l.length (by have := HL20.out; omega)
      have hmk : ∀ W : World, (Instr.makeSlice 36 (.int .i64 ((l.length : Int) + 1)) (.int .i64 ((l.length : Int) + 1))).run Try.prog W = .ok (.slice (some ⟨W.heap.size, 0, none⟩) (l.length + 1) (l.length + 1)) (W.alloc (.cells (madeCells #[.bool false] (l.length + 1)) 4)) := by
        intro W
        have h := make_run (l.length + 1) (by have := HL20.out; omega) W
        rw [show ((l.length + 1 : Nat) : Int) = (l.length : Int) + 1 by omega] at h
        exact h
      have HBD := Aside0.mk (below_drew1 (Below.refl V.heap.size V))
      refine start_ (n := 10) (S := fun w' => Below V.heap.size V w') (ds := []) #[false, false, false, false, false, false, false, false, false, false] (by kernel_rfl) rfl rfl HBD.out (fun hHeld => ?_)
      generalize V.drew = k0 at hHeld ⊢
      clear HBD
      refine pure_ (i := 0) (N := some 53) (v := ?_) (a' := ?_) #[true, false, false, false, false, false, false, false, false, false] rfl rfl (by kernel_rfl) (fun _ _ _ h => h) (Or.inl ⟨by rfl, ?_⟩) ?_ ?_
      rotate_left
      · intro w'
        go_simp
        with_reducible rfl
      rotate_left
      · simp only [Act.put, List.setIfInBounds_toArray, List.set_cons_zero, List.set_cons_succ, i64_w, i32_w, hw7]
        rfl
      refine pure_ (i := 1) (N := some 54) (v := ?_) (a' := ?_) #[true, true, false, false, false, false, false, false, false, false] rfl rfl (by kernel_rfl) (fun _ _ _ h => h) (Or.inl ⟨by rfl, ?_⟩) ?_ ?_
      rotate_left
      · intro w'
        go_simp
        with_reducible rfl
      rotate_left
      · simp only [Act.put, List.setIfInBounds_toArray, List.set_cons_zero, List.set_cons_succ, i64_w, i32_w, hw7]
        rfl
      refine pure_ (i := 2) (N := some 55) (v := ?_) (a' := ?_) #[true, true, true, false, false, false, false, false, false, false] rfl rfl (by kernel_rfl) (fun _ _ _ h => h) (Or.inl ⟨by rfl, ?_⟩) ?_ ?_
      rotate_left
      · intro w'
        go_simp
        with_reducible rfl
      rotate_left
      · simp only [Act.put, List.setIfInBounds_toArray, List.set_cons_zero, List.set_cons_succ, i64_w, i32_w, hw7]
        rfl
      refine pure_ (i := 4) (N := some 57) (v := ?_) (a' := ?_) #[true, true, true, false, true, false, false, false, false, false] rfl rfl (by kernel_rfl) (fun _ _ _ h => h) (Or.inl ⟨by rfl, ?_⟩) ?_ ?_
      rotate_left
      · intro w'
        go_simp
        with_reducible rfl
      rotate_left
      · simp only [Act.put, List.setIfInBounds_toArray, List.set_cons_zero, List.set_cons_succ, i64_w, i32_w, hw7]
        rfl
      refine pure_ (i := 5) (N := some 58) (v := ?_) (a' := ?_) #[true, true, true, false, true, true, false, false, false, false] rfl rfl (by kernel_rfl) (fun _ _ _ h => h) (Or.inl ⟨by rfl, ?_⟩) ?_ ?_
      rotate_left
      · intro w'
        go_simp
        with_reducible rfl
      rotate_left
      · simp only [Act.put, List.setIfInBounds_toArray, List.set_cons_zero, List.set_cons_succ, i64_w, i32_w, hw7]
        rfl
      refine pure_ (i := 6) (N := some 59) (v := ?_) (a' := ?_) #[true, true, true, false, true, true, true, false, false, false] rfl rfl (by kernel_rfl) (fun _ _ _ h => h) (Or.inl ⟨by rfl, ?_⟩) ?_ ?_
      rotate_left
      · intro w'
        go_simp
        with_reducible rfl
      rotate_left
      · simp only [Act.put, List.setIfInBounds_toArray, List.set_cons_zero, List.set_cons_succ, i64_w, i32_w, hw7]
        rfl
      refine join_ (fuel' := 1) (l' := #[true, true, true, true, true, true, true, true, true, false]) (σ := Nat × Nat) (fun s => [(56, .slice (some ⟨s.1, 0, none⟩) (l.length + 1) (l.length + 1)), (60, .slice (some ⟨s.2, 0, none⟩) (l.length + 1) (l.length + 1)), (9, .slice (some ⟨s.1, 0, none⟩) (l.length + 1) (l.length + 1))]) (fun s w' => Below V.heap.size V w' ∧ BRow w' s.1 l.length (fun _ => False) ∧ BRow w' s.2 l.length (fun _ => False) ∧ s.1 ≠ s.2 ∧ V.heap.size ≤ s.1 ∧ V.heap.size ≤ s.2) ?hcont (fun hcont => ?_)
      rotate_left
      · refine two_ (i := 3) (j := 7) (Ni := some 56) (Nj := some 60) #[true, true, true, true, true, true, true, false, false, false] #[true, true, true, false, true, true, true, true, false, false] rfl rfl rfl rfl (by kernel_rfl) (by decide) (by decide) (fun K hK => ?_) (fun K hK => ?_)
        · refine value_ (v := .slice (some ⟨k0.heap.size, 0, none⟩) (l.length + 1) (l.length + 1)) (w1 := k0.alloc (.cells (madeCells #[.bool false] (l.length + 1)) 4)) (by rfl) rfl ?hraa ?_
          case hraa => first | (go_simp; done) | (go_simp; rw [hmk]; done) | (go_simp; rw [hmk]; rfl) | (go_simp; simp only [hmk]; done) | (go_simp; simp only [hmk]; rfl)
          have hR1 := BRow.made k0 l.length
          refine hK.out _ _ (below_step hHeld (below_alloc (Below.refl _ _) _)) (fun hHeld2 => ?_)
          clear hK K
          refine norm_ (a' := ?_) ?_ ?_
          rotate_left
          · show Act.put _ (some 56) _ = _
            simp only [Act.put, List.setIfInBounds_toArray, List.set_cons_zero, List.set_cons_succ, i64_w, i32_w]
            rfl
          refine pure_ (i := 8) (N := some 9) (v := ?_) (a' := ?_) #[true, true, true, true, true, true, true, false, true, false] rfl rfl (by kernel_rfl) (fun _ _ _ h => h) (Or.inl ⟨by rfl, ?_⟩) ?_ ?_
          rotate_left
          · intro w'
            go_simp
            with_reducible rfl
          rotate_left
          · simp only [Act.put, List.setIfInBounds_toArray, List.set_cons_zero, List.set_cons_succ, i64_w, i32_w, hw7]
            rfl
          have hz1 : (k0.alloc (.cells (madeCells #[.bool false] (l.length + 1)) 4)).heap.size = k0.heap.size + 1 := by simp
          generalize hk1 : k0.alloc (.cells (madeCells #[.bool false] (l.length + 1)) 4) = k1 at hR1 hHeld2 hz1 ⊢
          have HZ1 := Aside0.mk hz1
          clear hz1 hk1
          refine one_ (i := 7) (N := some 60) #[true, true, true, true, true, true, true, true, true, false] rfl rfl (by kernel_rfl) (by decide) (fun K hK => ?_)
          refine value_ (v := .slice (some ⟨k1.heap.size, 0, none⟩) (l.length + 1) (l.length + 1)) (w1 := k1.alloc (.cells (madeCells #[.bool false] (l.length + 1)) 4)) (by rfl) rfl ?hrab ?_
          case hrab => first | (go_simp; done) | (go_simp; rw [hmk]; done) | (go_simp; rw [hmk]; rfl) | (go_simp; simp only [hmk]; done) | (go_simp; simp only [hmk]; rfl)
          refine hK.out _ _ (below_step hHeld2 (below_alloc (Below.refl _ _) _)) (fun hHeld3 => ?_)
          clear hK K
          refine norm_ (a' := ?_) ?_ ?_
          rotate_left
          · show Act.put _ (some 60) _ = _
            simp only [Act.put, List.setIfInBounds_toArray, List.set_cons_zero, List.set_cons_succ, i64_w, i32_w]
            rfl
          refine norm_ ?_ (hcont ⟨k0.heap.size, k1.heap.size⟩ _ ⟨hHeld3, hR1.below (below_alloc (Below.refl _ _) _), BRow.made k1 l.length, by have := HZ1.out; omega, ⟨by have := HZ1.out; have := hHeld.size; omega, by have := HZ1.out; have := hHeld.size; omega⟩⟩)
          simp only [putAll, Act.put, List.setIfInBounds_toArray, List.set_cons_zero, List.set_cons_succ, i64_w, i32_w]
          try rfl
        · refine value_ (v := .slice (some ⟨k0.heap.size, 0, none⟩) (l.length + 1) (l.length + 1)) (w1 := k0.alloc (.cells (madeCells #[.bool false] (l.length + 1)) 4)) (by rfl) rfl ?hrba ?_
          case hrba => first | (go_simp; done) | (go_simp; rw [hmk]; done) | (go_simp; rw [hmk]; rfl) | (go_simp; simp only [hmk]; done) | (go_simp; simp only [hmk]; rfl)
          have hR1 := BRow.made k0 l.length
          refine hK.out _ _ (below_step hHeld (below_alloc (Below.refl _ _) _)) (fun hHeld2 => ?_)
          clear hK K
          refine norm_ (a' := ?_) ?_ ?_
          rotate_left
          · show Act.put _ (some 60) _ = _
            simp only [Act.put, List.setIfInBounds_toArray, List.set_cons_zero, List.set_cons_succ, i64_w, i32_w]
            rfl
          have hz1 : (k0.alloc (.cells (madeCells #[.bool false] (l.length + 1)) 4)).heap.size = k0.heap.size + 1 := by simp
          generalize hk1 : k0.alloc (.cells (madeCells #[.bool false] (l.length + 1)) 4) = k1 at hR1 hHeld2 hz1 ⊢
          have HZ1 := Aside0.mk hz1
          clear hz1 hk1
          refine one_ (i := 3) (N := some 56) #[true, true, true, true, true, true, true, true, false, false] rfl rfl (by kernel_rfl) (by decide) (fun K hK => ?_)
          refine value_ (v := .slice (some ⟨k1.heap.size, 0, none⟩) (l.length + 1) (l.length + 1)) (w1 := k1.alloc (.cells (madeCells #[.bool false] (l.length + 1)) 4)) (by rfl) rfl ?hrbb ?_
          case hrbb => first | (go_simp; done) | (go_simp; rw [hmk]; done) | (go_simp; rw [hmk]; rfl) | (go_simp; simp only [hmk]; done) | (go_simp; simp only [hmk]; rfl)
          refine hK.out _ _ (below_step hHeld2 (below_alloc (Below.refl _ _) _)) (fun hHeld3 => ?_)
          clear hK K
          refine norm_ (a' := ?_) ?_ ?_
          rotate_left
          · show Act.put _ (some 56) _ = _
            simp only [Act.put, List.setIfInBounds_toArray, List.set_cons_zero, List.set_cons_succ, i64_w, i32_w]
            rfl
          refine pure_ (i := 8) (N := some 9) (v := ?_) (a' := ?_) #[true, true, true, true, true, true, true, true, true, false] rfl rfl (by kernel_rfl) (fun _ _ _ h => h) (Or.inl ⟨by rfl, ?_⟩) ?_ ?_
          rotate_left
          · intro w'
            go_simp
            with_reducible rfl
          rotate_left
          · simp only [Act.put, List.setIfInBounds_toArray, List.set_cons_zero, List.set_cons_succ, i64_w, i32_w, hw7]
            rfl
          refine norm_ ?_ (hcont ⟨k1.heap.size, k0.heap.size⟩ _ ⟨hHeld3, BRow.made k1 l.length, hR1.below (below_alloc (Below.refl _ _) _), by have := HZ1.out; omega, ⟨by have := HZ1.out; have := hHeld.size; omega, by have := HZ1.out; have := hHeld.size; omega⟩⟩)
          simp only [putAll, Act.put, List.setIfInBounds_toArray, List.set_cons_zero, List.set_cons_succ, i64_w, i32_w]
          try rfl
      rintro ⟨b9, b10⟩ kz ⟨hHeld, hR9, hR10, hne, hl9, hl10⟩
      refine norm_ (a' := ?_) ?_ ?_
      rotate_left
      · simp only [putAll, Act.put, List.setIfInBounds_toArray, List.set_cons_zero, List.set_cons_succ, i64_w, i32_w]
        rfl
      have HR9 := Aside0.mk hR9
      have HR10 := Aside0.mk hR10
      have HNE := Aside0.mk hne
      have HL9 := Aside0.mk hl9
      have HL10 := Aside0.mk hl10
      clear hR9 hR10 hne hl9 hl10
      refine pure_ (i := 9) (N := some 10) (v := ?_) (a' := ?_) #[true, true, true, true, true, true, true, true, true, true] rfl rfl (by kernel_rfl) (fun _ _ _ h => h) (Or.inl ⟨by rfl, ?_⟩) ?_ ?_
      rotate_left
      · intro w'
        go_simp
        with_reducible rfl
      rotate_left
      · simp only [Act.put, List.setIfInBounds_toArray, List.set_cons_zero, List.set_cons_succ, i64_w, i32_w, hw7]
        rfl
      refine done_ (by kernel_rfl) ?_
      have HBV := Aside0.mk hHeld
      clear hHeld
      go_upto_region 8 with (fail)
      have HBD := Aside0.mk (below_step HBV.out (below_drew1 (Below.refl kz.heap.size kz)))
      have HRD9 := Aside0.mk (HR9.out.below (below_drew1 (Below.refl _ _)))
      have HRD10 := Aside0.mk (HR10.out.below (below_drew1 (Below.refl _ _)))
      clear HR9 HR10
      refine start_ (n := 8) (S := fun w' => Below V.heap.size V w') (ds := []) #[false, false, false, false, false, false, false, false] (by kernel_rfl) rfl rfl HBD.out (fun hHeld => ?_)
      generalize kz.drew = k0 at hHeld HRD9 HRD10 ⊢
      clear HBD HBV
      refine take_ (i := 0) (N := some 61) (v := ?_) (a' := ?_) #[true, false, false, false, false, false, false, false] rfl rfl (by kernel_rfl) (fun _ _ _ h => h) (Or.inl ⟨by rfl, ?_⟩) hHeld ?_ ?_
      rotate_left
      · rintro w' hS
        have a0 := blk_cell (HJ6.out.bx.below hS).blk 0
        have a1 := blk_cell (HJ6.out.bx.below hS).blk 1
        have a2 := blk_cell (HJ6.out.bx.below hS).blk 2
        have a3 := blk_cell (HJ6.out.bx.below hS).blk 3
        have a4 := blk_cell (HJ6.out.bx.below hS).blk 4
        go_simp
        with_reducible rfl
      rotate_left
      · simp only [Act.put, List.setIfInBounds_toArray, List.set_cons_zero, List.set_cons_succ, i64_w, i32_w]
        rfl
      refine pure_ (i := 1) (N := some 62) (v := ?_) (a' := ?_) #[true, true, false, false, false, false, false, false] rfl rfl (by kernel_rfl) (fun _ _ _ h => h) (Or.inl ⟨by rfl, ?_⟩) ?_ ?_
      rotate_left
      · intro w'
        go_simp
        with_reducible rfl
      rotate_left
      · simp only [Act.put, List.setIfInBounds_toArray, List.set_cons_zero, List.set_cons_succ, i64_w, i32_w]
        rfl
      refine take_ (i := 3) (N := some 64) (v := ?_) (a' := ?_) #[true, true, false, true, false, false, false, false] rfl rfl (by kernel_rfl) (fun _ _ _ h => h) (Or.inl ⟨by rfl, ?_⟩) hHeld ?_ ?_
      rotate_left
      · rintro w' hS
        have a0 := blk_cell (HJ6.out.by_.below hS).blk 0
        have a1 := blk_cell (HJ6.out.by_.below hS).blk 1
        have a2 := blk_cell (HJ6.out.by_.below hS).blk 2
        have a3 := blk_cell (HJ6.out.by_.below hS).blk 3
        have a4 := blk_cell (HJ6.out.by_.below hS).blk 4
        go_simp
        with_reducible rfl
      rotate_left
      · simp only [Act.put, List.setIfInBounds_toArray, List.set_cons_zero, List.set_cons_succ, i64_w, i32_w]
        rfl
      refine pure_ (i := 4) (N := some 65) (v := ?_) (a' := ?_) #[true, true, false, true, true, false, false, false] rfl rfl (by kernel_rfl) (fun _ _ _ h => h) (Or.inl ⟨by rfl, ?_⟩) ?_ ?_
      rotate_left
      · intro w'
        go_simp
        with_reducible rfl
      rotate_left
      · simp only [Act.put, List.setIfInBounds_toArray, List.set_cons_zero, List.set_cons_succ, i64_w, i32_w]
        rfl
      refine one_ (i := 2) (N := some 63) #[true, true, true, true, true, false, false, false] rfl rfl (by kernel_rfl) (by decide) (fun K hK => ?_)
      refine goes_ Try.func14 (by kernel_rfl) rfl #[.agg #[.int .i64 x0, .slice A1 x1.length c1, .int .i64 x2, .int .i64 x3, .slice A4 x4.length c4], .slice A l.length c, .int .i64 0] (by rfl) rfl rfl (by (try simp only [List.map_toArray, List.map_cons, List.map_nil]); rfl) ?_
      refine (ends_nodeR k (HJ6.out.bx.below hHeld).at_ 0 (Kd.C_below HJ6.out.row hHeld) HLN.out.2.2.2.2 Q1.out).mono ?_
      rintro e_ k1 ⟨S1, s1, rfl, hR, hb⟩
      refine ⟨_, rfl, ?_⟩
      have HE1 := Aside0.mk hR
      have HRE9 := Aside0.mk (HRD9.out.below hb)
      have HRE10 := Aside0.mk (HRD10.out.below hb)
      have HLE1 := Aside0.mk hHeld.size
      clear HRD9 HRD10
      refine hK.out _ _ (below_step hHeld hb) (fun hHeld => ?_)
      clear hK K hR hb
      refine norm_ (a' := ?_) ?_ ?_
      rotate_left
      · show Act.put _ (some 63) _ = _
        simp only [Act.put, List.setIfInBounds_toArray, List.set_cons_zero, List.set_cons_succ, i64_w, i32_w]
        rfl
      refine one_ (i := 5) (N := some 66) #[true, true, true, true, true, true, false, false] rfl rfl (by kernel_rfl) (by decide) (fun K hK => ?_)
      refine goes_ Try.func14 (by kernel_rfl) rfl #[.agg #[.int .i64 y0, .slice B1 y1.length d1, .int .i64 y2, .int .i64 y3, .slice B4 y4.length d4], .slice A l.length c, .int .i64 0] (by rfl) rfl rfl (by (try simp only [List.map_toArray, List.map_cons, List.map_nil]); rfl) ?_
      refine (ends_nodeR k (HJ6.out.by_.below hHeld).at_ 0 (Kd.C_below HJ6.out.row hHeld) HLN.out.2.2.2.2 Q2.out).mono ?_
      rintro e_ k2 ⟨S2, s2, rfl, hR, hb⟩
      refine ⟨_, rfl, ?_⟩
      have HE2 := Aside0.mk hR
      have HJT := Aside0.mk (show JT V k2 b9 b10 l.length (fun _ => False) (fun _ => False) S1 s1 S2 s2 ex ey from ⟨below_step hHeld hb, HRE9.out.below hb, HRE10.out.below hb, Kd.R_lower (Kd.R_below HE1.out hb) HLE1.out, Kd.R_lower HE2.out hHeld.size, HNE.out, HL9.out, HL10.out⟩)
      refine hK.out _ _ (below_step hHeld hb) (fun hHeld => ?_)
      clear hK K hR hb
      refine norm_ (a' := ?_) ?_ ?_
      rotate_left
      · show Act.put _ (some 66) _ = _
        simp only [Act.put, List.setIfInBounds_toArray, List.set_cons_zero, List.set_cons_succ, i64_w, i32_w]
        rfl
      refine pure_ (i := 6) (N := some 11) (v := ?_) (a' := ?_) #[true, true, true, true, true, true, true, false] rfl rfl (by kernel_rfl) (fun _ _ _ h => h) (Or.inl ⟨by rfl, ?_⟩) ?_ ?_
      rotate_left
      · intro w'
        go_simp
        with_reducible rfl
      rotate_left
      · simp only [Act.put, List.setIfInBounds_toArray, List.set_cons_zero, List.set_cons_succ, i64_w, i32_w]
        rfl
      refine pure_ (i := 7) (N := some 12) (v := ?_) (a' := ?_) #[true, true, true, true, true, true, true, true] rfl rfl (by kernel_rfl) (fun _ _ _ h => h) (Or.inl ⟨by rfl, ?_⟩) ?_ ?_
      rotate_left
      · intro w'
        go_simp
        with_reducible rfl
      rotate_left
      · simp only [Act.put, List.setIfInBounds_toArray, List.set_cons_zero, List.set_cons_succ, i64_w, i32_w]
        rfl
      refine done_ (by kernel_rfl) ?_
      clear hHeld HE1 HE2 HRE9 HRE10 HLE1
      have HNEQ := HNE
      clear HNE HL9 HL10
      have h36 := Try.underlying36
      have HXL := Aside0.mk (And.intro Q7.out (And.intro Q8.out Q9.out))
      go_wp2
      go_loopw [13] (fun s13 wx => ∃ (i : Nat) (P9 P10 : Int → Prop), s13 = .int .i64 (i : Int) ∧ i ≤ ex.length ∧ Aside0 (∀ j, P9 j ↔ ∃ p ∈ ex.take i, j ∈ ez p) ∧ Aside0 (∀ j, P10 j ↔ j ∈ ex.take i) ∧ Aside0 (JT V wx b9 b10 l.length P9 P10 S1 s1 S2 s2 ex ey)) (fun s13 _ => ex.length - (intOf s13).toNat)
      case atStart => exact ⟨0, _, _, rfl, by omega, ⟨by simp⟩, ⟨by simp⟩, HJT⟩
      case round =>
        clear HJT
        obtain ⟨i, P9, P10, rfl, hi, H9, H10, HJT⟩ := hrel
        by_cases hlt : i < ex.length
        · obtain ⟨ad, ee, h0⟩ := Kd.at_int (Kd.R_reads' HJT.out.x).2.2 (i : Int) (by omega) (by omega)
          cases ee
          rw [Int.toNat_natCast] at h0
          obtain ⟨p, hp⟩ : ∃ p, rd ex (i : Int) = p := ⟨_, rfl⟩
          rw [hp] at h0
          have hpm : p ∈ ex := by
            rw [← hp, rd_get ex i hlt]
            exact List.getElem_mem hlt
          have HTK := Aside0.mk (show ∀ j, j ∈ ex.take (i + 1) ↔ j ∈ ex.take i ∨ j = p by
            intro j
            rw [List.take_succ_eq_append_getElem hlt, List.mem_append, List.mem_singleton, ← hp, rd_get ex i hlt])
          have HPM := Aside0.mk hpm
          have HPR := Aside0.mk (Q4.out p hpm)
          have HRI := Aside0.mk hp
          have g1 : decide ((i : Int) < (ex.length : Int)) = true := decide_eq_true (by omega)
          have g2 : ((0 : Int) ≤ (i : Int)) = True := eq_true (by omega)
          have g3 : ((i : Int) < (ex.length : Int)) = True := eq_true (by omega)
          have g4 : ((0 : Int) ≤ p) = True := eq_true HPR.out.1
          have g5 : (p < (l.length : Int) + 1) = True := eq_true (by have := HPR.out.2; omega)
          have HLI := Aside0.mk hlt
          have hw := sn_wrap i (by have := HXL.out.1; have := HLI.out; omega)
          have r1 := HJT.out.r10.cell p.toNat (by have := HPR.out; omega)
          have r2 := HJT.out.r10.frozen p.toNat
          clear hp hpm hlt
          go_upto_region 13 with (fail)
          clear h0 r1 r2
          have HJT2 := Aside0.mk (HJT.out.put10 p HPR.out.1)
          generalize wr.setCell ⟨b10, p.toNat, none⟩ (.bool true) = wA at HJT2 ⊢
          clear HJT
          have HBD := Aside0.mk (HJT2.out.more (below_drew1 (Below.refl wA.heap.size wA)))
          refine start_ (n := 8) (S := fun w' => JT V w' b9 b10 l.length P9 (fun j => j = p ∨ P10 j) (some ad) s1 S2 s2 ex ey) (ds := []) #[false, false, false, false, false, false, false, false] (by kernel_rfl) rfl rfl HBD.out (fun hHeld => ?_)
          generalize wA.drew = k0 at hHeld ⊢
          clear HBD HJT2
          refine take_ (i := 0) (N := some 79) (v := ?_) (a' := ?_) #[true, false, false, false, false, false, false, false] rfl rfl (by kernel_rfl) (fun _ _ _ h => h) (Or.inl ⟨by rfl, ?_⟩) hHeld ?_ ?_
          rotate_left
          · rintro w' hS
            have a0 := blk_cell (HJ6.out.by_.below hS.bel).blk 0
            have a1 := blk_cell (HJ6.out.by_.below hS.bel).blk 1
            have a2 := blk_cell (HJ6.out.by_.below hS.bel).blk 2
            have a3 := blk_cell (HJ6.out.by_.below hS.bel).blk 3
            have a4 := blk_cell (HJ6.out.by_.below hS.bel).blk 4
            go_simp
            with_reducible rfl
          rotate_left
          · simp only [Act.put, List.setIfInBounds_toArray, List.set_cons_zero, List.set_cons_succ, i64_w, i32_w]
            rfl
          refine pure_ (i := 1) (N := some 80) (v := ?_) (a' := ?_) #[true, true, false, false, false, false, false, false] rfl rfl (by kernel_rfl) (fun _ _ _ h => h) (Or.inl ⟨by rfl, ?_⟩) ?_ ?_
          rotate_left
          · intro w'
            go_simp
            with_reducible rfl
          rotate_left
          · simp only [Act.put, List.setIfInBounds_toArray, List.set_cons_zero, List.set_cons_succ, i64_w, i32_w]
            rfl
          refine pure_ (i := 2) (N := some 81) (v := ?_) (a' := ?_) #[true, true, true, false, false, false, false, false] rfl rfl (by kernel_rfl) (fun _ _ _ h => h) (Or.inl ⟨by rfl, ?_⟩) ?_ ?_
          rotate_left
          · intro w'
            go_simp
            with_reducible rfl
          rotate_left
          · simp only [Act.put, List.setIfInBounds_toArray, List.set_cons_zero, List.set_cons_succ, i64_w, i32_w]
            rfl
          refine pure_ (i := 3) (N := some 82) (v := ?_) (a' := ?_) #[true, true, true, true, false, false, false, false] rfl rfl (by kernel_rfl) (fun _ _ _ h => h) (Or.inl ⟨by rfl, ?_⟩) ?_ ?_
          rotate_left
          · intro w'
            go_simp
            with_reducible rfl
          rotate_left
          · simp only [Act.put, List.setIfInBounds_toArray, List.set_cons_zero, List.set_cons_succ, i64_w, i32_w]
            rfl
          refine pure_ (i := 4) (N := some 83) (v := ?_) (a' := ?_) #[true, true, true, true, true, false, false, false] rfl rfl (by kernel_rfl) (fun _ _ _ h => h) (Or.inl ⟨by rfl, ?_⟩) ?_ ?_
          rotate_left
          · intro w'
            go_simp
            with_reducible rfl
          rotate_left
          · simp only [Act.put, List.setIfInBounds_toArray, List.set_cons_zero, List.set_cons_succ, i64_w, i32_w]
            rfl
          refine take_ (i := 5) (N := some 84) (v := ?_) (a' := ?_) #[true, true, true, true, true, true, false, false] rfl rfl (by kernel_rfl) (fun _ _ _ h => h) (Or.inl ⟨by rfl, ?_⟩) hHeld ?_ ?_
          rotate_left
          · rintro w' hS
            obtain ⟨ad', ee', h0'⟩ := Kd.at_int (Kd.R_reads' hS.x).2.2 (i : Int) (by omega) (by have := HLI.out; omega)
            cases ee'
            rw [Int.toNat_natCast, HRI.out] at h0'
            go_simp
            with_reducible rfl
          rotate_left
          · simp only [Act.put, List.setIfInBounds_toArray, List.set_cons_zero, List.set_cons_succ, i64_w, i32_w]
            rfl
          refine one_ (i := 6) (N := some 85) #[true, true, true, true, true, true, true, false] rfl rfl (by kernel_rfl) (by decide) (fun K hK => ?_)
          refine goes_ Try.func14 (by kernel_rfl) rfl #[.agg #[.int .i64 y0, .slice B1 y1.length d1, .int .i64 y2, .int .i64 y3, .slice B4 y4.length d4], .slice A l.length c, .int .i64 p] (by rfl) rfl rfl (by (try simp only [List.map_toArray, List.map_cons, List.map_nil]); rfl) ?_
          refine (ends_nodeR k (HJ6.out.by_.below hHeld.bel).at_ p (Kd.C_below HJ6.out.row hHeld.bel) HLN.out.2.2.2.2 (Q3.out p HPM.out)).mono ?_
          rintro e_ k3 ⟨S3, s3, rfl, hR, hb⟩
          refine ⟨_, rfl, ?_⟩
          have HE3 := Aside0.mk hR
          refine hK.out _ _ (hHeld.more hb) (fun hHeld => ?_)
          clear hK K hR hb
          refine norm_ (a' := ?_) ?_ ?_
          rotate_left
          · show Act.put _ (some 85) _ = _
            simp only [Act.put, List.setIfInBounds_toArray, List.set_cons_zero, List.set_cons_succ, i64_w, i32_w]
            rfl
          refine pure_ (i := 7) (N := some 14) (v := ?_) (a' := ?_) #[true, true, true, true, true, true, true, true] rfl rfl (by kernel_rfl) (fun _ _ _ h => h) (Or.inl ⟨by rfl, ?_⟩) ?_ ?_
          rotate_left
          · intro w'
            go_simp
            with_reducible rfl
          rotate_left
          · simp only [Act.put, List.setIfInBounds_toArray, List.set_cons_zero, List.set_cons_succ, i64_w, i32_w]
            rfl
          refine done_ (by kernel_rfl) ?_
          have HJT3 := Aside0.mk hHeld
          have HZR := Aside0.mk (Q6.out p HPM.out)
          have HZL := Aside0.mk (HXL.out.2.2 p HPM.out)
          have HZ := Aside0.mk (show ∀ q, q ∈ ez p ↔ q ∈ ez p from fun _ => Iff.rfl)
          obtain ⟨z, hz⟩ : ∃ z, ez p = z := ⟨_, rfl⟩
          rw [hz] at HE3 HZR HZL ⊢
          have HZE := Aside0.mk hz
          clear hz HZ hHeld
          generalize k0.heap.size = bz at HE3
          go_wp2
          go_loopw [15] (fun s15 wy => ∃ (j : Nat) (R9 : Int → Prop), s15 = .int .i64 (j : Int) ∧ j ≤ z.length ∧ Aside0 (∀ q, R9 q ↔ P9 q ∨ q ∈ z.take j) ∧ Aside0 (JT V wy b9 b10 l.length R9 (fun j => j = p ∨ P10 j) (some ad) s1 S2 s2 ex ey) ∧ Aside0 (SetR wy bz z (.slice S3 z.length s3))) (fun s15 _ => z.length - (intOf s15).toNat)
          case atStart => exact ⟨0, P9, rfl, by omega, ⟨by simp⟩, HJT3, HE3⟩
          case round =>
            clear HJT3 HE3
            obtain ⟨j, R9, rfl, hj, HR9, HJT3, HE3⟩ := hrel
            by_cases hjl : j < z.length
            · obtain ⟨ae, ee, hc0⟩ := Kd.at_int (Kd.R_reads' HE3.out).2.2 (j : Int) (by omega) (by omega)
              cases ee
              rw [Int.toNat_natCast] at hc0
              obtain ⟨q, hq⟩ : ∃ q, rd z (j : Int) = q := ⟨_, rfl⟩
              rw [hq] at hc0
              have hqr := HZR.out q (by rw [← hq, rd_get z j hjl]; exact List.getElem_mem hjl)
              have HTK2 := Aside0.mk (show ∀ u, u ∈ z.take (j + 1) ↔ u ∈ z.take j ∨ u = q by
                intro u
                rw [List.take_succ_eq_append_getElem hjl, List.mem_append, List.mem_singleton, ← hq, rd_get z j hjl])
              have HQR := Aside0.mk hqr
              have p1 : decide ((j : Int) < (z.length : Int)) = true := decide_eq_true (by omega)
              have p2 : ((0 : Int) ≤ (j : Int)) = True := eq_true (by omega)
              have p3 : ((j : Int) < (z.length : Int)) = True := eq_true (by omega)
              have p4 : ((0 : Int) ≤ q) = True := eq_true HQR.out.1
              have p5 : (q < (l.length : Int) + 1) = True := eq_true (by have := HQR.out.2; omega)
              have HLJ := Aside0.mk hjl
              have hw2 := sn_wrap j (by have := HZL.out; have := HLJ.out; omega)
              have r1 := HJT3.out.r9.cell q.toNat (by have := HQR.out; omega)
              have r2 := HJT3.out.r9.frozen q.toNat
              clear hq hjl hqr
              go_wp2
              refine ⟨⟨j + 1, (fun u => u = q ∨ R9 u), by first | (rw [hw2]; done) | rfl | simp, HLJ.out, ⟨fun u => by rw [HTK2.out]; show u = q ∨ R9 u ↔ _; rw [HR9.out]; constructor <;> (intro h; rcases h with h | h | h <;> simp [h])⟩, ⟨HJT3.out.put9 q HQR.out.1⟩, ⟨setR_put HE3.out HJT3.out.r9 _ _⟩⟩, ?_⟩
              first | (rw [hw2]) | skip
              show z.length - _ < z.length - _
              have := HLJ.out
              simp only [intOf, Int.toNat_natCast]
              omega
            · have hn : j = z.length := by omega
              subst hn
              have p1 : decide ((z.length : Int) < (z.length : Int)) = false := decide_eq_false (by omega)
              clear hj
              go_wp2
              refine ⟨⟨i + 1, R9, (fun j => j = p ∨ P10 j), by first | (rw [hw]; done) | rfl | simp, HLI.out, ⟨fun u => ?_⟩, ⟨fun u => ?_⟩, ⟨HJT3.out⟩⟩, ?_⟩
              · rw [HR9.out, H9.out, List.take_length]
                constructor
                · rintro (⟨v, hv, hu⟩ | hu)
                  · exact ⟨v, (HTK.out v).2 (.inl hv), hu⟩
                  · exact ⟨p, (HTK.out p).2 (.inr rfl), by rw [HZE.out]; exact hu⟩
                · rintro ⟨v, hv, hu⟩
                  rcases (HTK.out v).1 hv with hv | rfl
                  · exact .inl ⟨v, hv, hu⟩
                  · exact .inr (by rw [HZE.out] at hu; exact hu)
              · show u = p ∨ P10 u ↔ _
                rw [HTK.out, H10.out]
                exact or_comm
              first | (rw [hw]) | skip
              show ex.length - _ < ex.length - _
              have := HLI.out
              simp only [intOf, Int.toNat_natCast]
              omega
        · have hn : i = ex.length := by omega
          subst hn
          have g1 : decide ((ex.length : Int) < (ex.length : Int)) = false := decide_eq_false (by omega)
          have HJT4 := Aside0.mk (HJT.out.congr (Q9 := fun j => ∃ p ∈ ex, j ∈ ez p) (Q10 := fun j => j ∈ ex) (fun j => by rw [H9.out, List.take_length]) (fun j => by rw [H10.out, List.take_length]))
          clear hi HJT H9 H10
          go_wp2
          go_loopw [16] (fun s16 wx => ∃ (i : Nat) (R10 : Int → Prop), s16 = .int .i64 (i : Int) ∧ i ≤ ey.length ∧ Aside0 (∀ j, R10 j ↔ j ∈ ey.take i ∨ j ∈ ex) ∧ Aside0 (JT V wx b9 b10 l.length (fun j => ∃ p ∈ ex, j ∈ ez p) R10 S1 s1 S2 s2 ex ey)) (fun s16 _ => ey.length - (intOf s16).toNat)
          case atStart => exact ⟨0, _, rfl, by omega, ⟨by simp⟩, HJT4⟩
          case round =>
            clear HJT4
            obtain ⟨i, R10, rfl, hi, HR10, HJT4⟩ := hrel
            by_cases hlt : i < ey.length
            · obtain ⟨ad, ee, h0⟩ := Kd.at_int (Kd.R_reads' HJT4.out.y).2.2 (i : Int) (by omega) (by omega)
              cases ee
              rw [Int.toNat_natCast] at h0
              obtain ⟨p, hp⟩ : ∃ p, rd ey (i : Int) = p := ⟨_, rfl⟩
              rw [hp] at h0
              have hpr := Q5.out p (by rw [← hp, rd_get ey i hlt]; exact List.getElem_mem hlt)
              have HTK := Aside0.mk (show ∀ j, j ∈ ey.take (i + 1) ↔ j ∈ ey.take i ∨ j = p by
                intro j
                rw [List.take_succ_eq_append_getElem hlt, List.mem_append, List.mem_singleton, ← hp, rd_get ey i hlt])
              have HPR := Aside0.mk hpr
              have p1 : decide ((i : Int) < (ey.length : Int)) = true := decide_eq_true (by omega)
              have p2 : ((0 : Int) ≤ (i : Int)) = True := eq_true (by omega)
              have p3 : ((i : Int) < (ey.length : Int)) = True := eq_true (by omega)
              have p4 : ((0 : Int) ≤ p) = True := eq_true HPR.out.1
              have p5 : (p < (l.length : Int) + 1) = True := eq_true (by have := HPR.out.2; omega)
              have HLI := Aside0.mk hlt
              have hw := sn_wrap i (by have := HXL.out.2.1; have := HLI.out; omega)
              have r1 := HJT4.out.r10.cell p.toNat (by have := HPR.out; omega)
              have r2 := HJT4.out.r10.frozen p.toNat
              clear hp hlt hpr
              go_wp2
              refine ⟨⟨i + 1, (fun u => u = p ∨ R10 u), by first | (rw [hw]; done) | rfl | simp, HLI.out, ⟨fun u => by rw [HTK.out]; show u = p ∨ R10 u ↔ _; rw [HR10.out]; constructor <;> (intro h; first | (rcases h with h | h | h <;> simp [h]; done) | (rcases h with (h | h) | h <;> simp [h]))⟩, ⟨HJT4.out.put10 p HPR.out.1⟩⟩, ?_⟩
              first | (rw [hw]) | skip
              show ey.length - _ < ey.length - _
              have := HLI.out
              simp only [intOf, Int.toNat_natCast]
              omega
            · have hn : i = ey.length := by omega
              subst hn
              have p1 : decide ((ey.length : Int) < (ey.length : Int)) = false := decide_eq_false (by omega)
              have HJT5 := Aside0.mk (HJT4.out.congr (Q10 := fun j => j ∈ ey ∨ j ∈ ex) (fun _ => Iff.rfl) (fun j => by rw [HR10.out, List.take_length]))
              clear hi HJT4 HR10 p1 g1
              have p1 : decide ((ey.length : Int) < (ey.length : Int)) = false := decide_eq_false (by omega)
              go_wp2
              go_loopw [17] (fun s17 wx => ∃ (i : Nat), s17 = .int .i64 (i : Int) ∧ i ≤ l.length + 1 ∧ Aside0 (JT V wx b9 b10 l.length (fun j => ∃ p ∈ ex, j ∈ ez p) (fun j => j ∈ ey ∨ j ∈ ex) S1 s1 S2 s2 ex ey)) (fun s17 _ => l.length + 1 - (intOf s17).toNat)
              case atStart => exact ⟨0, rfl, by omega, HJT5⟩
              case round =>
                clear HJT5
                obtain ⟨i, rfl, hi, HJT5⟩ := hrel
                by_cases hlt : i ≤ l.length
                · obtain ⟨bj, hj1, hj2⟩ := Q10.out i hlt
                  obtain ⟨bo, ho1, ho2⟩ := Q11.out i hlt
                  have HJ1 := Aside0.mk hj1
                  have HJ2 := Aside0.mk hj2
                  have HO1 := Aside0.mk ho1
                  have HO2 := Aside0.mk ho2
                  have HLI := Aside0.mk hlt
                  have u1 : decide ((i : Int) ≤ (l.length : Int)) = true := decide_eq_true (by omega)
                  have u1n : decide (i ≤ l.length) = true := decide_eq_true hlt
                  have u2 : ((0 : Int) ≤ (i : Int)) = True := eq_true (by omega)
                  have u3 : ((i : Int) < (l.length : Int) + 1) = True := eq_true (by omega)
                  have hw := sn_wrap i (by have := HL20.out; have := HLI.out; omega)
                  clear hj1 hj2 ho1 ho2 hlt
                  go_upto_region 25 with (fail)
                  have HBD := Aside0.mk (HJT5.out.more (below_drew1 (Below.refl wr.heap.size wr)))
                  refine start_ (n := 20) (S := fun w' => JT V w' b9 b10 l.length (fun j => ∃ p ∈ ex, j ∈ ez p) (fun j => j ∈ ey ∨ j ∈ ex) S1 s1 S2 s2 ex ey) (ds := []) #[false, false, false, false, false, false, false, false, false, false, false, false, false, false, false, false, false, false, false, false] (by kernel_rfl) rfl rfl HBD.out (fun hHeld => ?_)
                  generalize wr.drew = k0 at hHeld ⊢
                  clear HBD HJT5
                  refine take_ (i := 0) (N := some 116) (v := ?_) (a' := ?_) #[true, false, false, false, false, false, false, false, false, false, false, false, false, false, false, false, false, false, false, false] rfl rfl (by kernel_rfl) (fun _ _ _ h => h) (Or.inl ⟨by rfl, ?_⟩) hHeld ?_ ?_
                  rotate_left
                  · rintro w' hS
                    have a0 := blk_cell (HV3.out.below hS.bel).blk 0
                    have a1 := blk_cell (HV3.out.below hS.bel).blk 1
                    have a2 := blk_cell (HV3.out.below hS.bel).blk 2
                    have a3 := blk_cell (HV3.out.below hS.bel).blk 3
                    have a4 := blk_cell (HV3.out.below hS.bel).blk 4
                    go_simp
                    with_reducible rfl
                  rotate_left
                  · simp only [Act.put, List.setIfInBounds_toArray, List.set_cons_zero, List.set_cons_succ, i64_w, i32_w, bne_self_eq_false, beq_self_eq_true, Bool.not_true]
                    rfl
                  refine pure_ (i := 1) (N := some 117) (v := ?_) (a' := ?_) #[true, true, false, false, false, false, false, false, false, false, false, false, false, false, false, false, false, false, false, false] rfl rfl (by kernel_rfl) (fun _ _ _ h => h) (Or.inl ⟨by rfl, ?_⟩) ?_ ?_
                  rotate_left
                  · intro w'
                    go_simp
                    with_reducible rfl
                  rotate_left
                  · simp only [Act.put, List.setIfInBounds_toArray, List.set_cons_zero, List.set_cons_succ, i64_w, i32_w, bne_self_eq_false, beq_self_eq_true, Bool.not_true]
                    rfl
                  refine pure_ (i := 2) (N := some 118) (v := ?_) (a' := ?_) #[true, true, true, false, false, false, false, false, false, false, false, false, false, false, false, false, false, false, false, false] rfl rfl (by kernel_rfl) (fun _ _ _ h => h) (Or.inl ⟨by rfl, ?_⟩) ?_ ?_
                  rotate_left
                  · intro w'
                    go_simp
                    with_reducible rfl
                  rotate_left
                  · simp only [Act.put, List.setIfInBounds_toArray, List.set_cons_zero, List.set_cons_succ, i64_w, i32_w, bne_self_eq_false, beq_self_eq_true, Bool.not_true]
                    rfl
                  refine pure_ (i := 4) (N := some 120) (v := ?_) (a' := ?_) #[true, true, true, false, true, false, false, false, false, false, false, false, false, false, false, false, false, false, false, false] rfl rfl (by kernel_rfl) (fun _ _ _ h => h) (Or.inl ⟨by rfl, ?_⟩) ?_ ?_
                  rotate_left
                  · intro w'
                    go_simp
                    with_reducible rfl
                  rotate_left
                  · simp only [Act.put, List.setIfInBounds_toArray, List.set_cons_zero, List.set_cons_succ, i64_w, i32_w, bne_self_eq_false, beq_self_eq_true, Bool.not_true]
                    rfl
                  refine pure_ (i := 5) (N := some 121) (v := ?_) (a' := ?_) #[true, true, true, false, true, true, false, false, false, false, false, false, false, false, false, false, false, false, false, false] rfl rfl (by kernel_rfl) (fun _ _ _ h => h) (Or.inl ⟨by rfl, ?_⟩) ?_ ?_
                  rotate_left
                  · intro w'
                    go_simp
                    with_reducible rfl
                  rotate_left
                  · simp only [Act.put, List.setIfInBounds_toArray, List.set_cons_zero, List.set_cons_succ, i64_w, i32_w, bne_self_eq_false, beq_self_eq_true, Bool.not_true]
                    rfl
                  refine pure_ (i := 6) (N := some 122) (v := ?_) (a' := ?_) #[true, true, true, false, true, true, true, false, false, false, false, false, false, false, false, false, false, false, false, false] rfl rfl (by kernel_rfl) (fun _ _ _ h => h) (Or.inl ⟨by rfl, ?_⟩) ?_ ?_
                  rotate_left
                  · intro w'
                    go_simp
                    with_reducible rfl
                  rotate_left
                  · simp only [Act.put, List.setIfInBounds_toArray, List.set_cons_zero, List.set_cons_succ, i64_w, i32_w, bne_self_eq_false, beq_self_eq_true, Bool.not_true]
                    rfl
                  refine take_ (i := 7) (N := some 123) (v := ?_) (a' := ?_) #[true, true, true, false, true, true, true, true, false, false, false, false, false, false, false, false, false, false, false, false] rfl rfl (by kernel_rfl) (fun _ _ _ h => h) (Or.inl ⟨by rfl, ?_⟩) hHeld ?_ ?_
                  rotate_left
                  · rintro w' hS
                    have a0 := hS.r9.cell' i HLI.out bj HJ2.out
                    go_simp
                    with_reducible rfl
                  rotate_left
                  · simp only [Act.put, List.setIfInBounds_toArray, List.set_cons_zero, List.set_cons_succ, i64_w, i32_w, bne_self_eq_false, beq_self_eq_true, Bool.not_true]
                    rfl
                  refine one_ (i := 3) (N := some 119) #[true, true, true, true, true, true, true, true, false, false, false, false, false, false, false, false, false, false, false, false] rfl rfl (by kernel_rfl) (by decide) (fun K hK => ?_)
                  refine goes_ Try.func16 (by kernel_rfl) rfl #[.agg #[.int .i64 3, .slice none 0 0, .int .i64 0, .int .i64 0, .slice (some ⟨b7, 0, none⟩) 2 2], .slice A l.length c, .int .i64 0, .int .i64 (i : Int)] (by rfl) rfl rfl (by (try simp only [List.map_toArray, List.map_cons, List.map_nil]); rfl) ?_
                  refine (whole_node k (HV3.out.below hHeld.bel).at_ 0 (i : Int) (Kd.C_below HJ6.out.row hHeld.bel) HLN.out.2.2.2.2 HJ1.out).mono ?_
                  rintro e_ kw3 ⟨rfl, hb⟩
                  refine ⟨_, rfl, ?_⟩
                  refine hK.out _ _ (hHeld.more hb) (fun hHeld => ?_)
                  clear hK K hb
                  refine norm_ (a' := ?_) ?_ ?_
                  rotate_left
                  · show Act.put _ (some 119) _ = _
                    simp only [Act.put, List.setIfInBounds_toArray, List.set_cons_zero, List.set_cons_succ, i64_w, i32_w]
                    rfl
                  refine pure_ (i := 8) (N := some 124) (v := ?_) (a' := ?_) #[true, true, true, true, true, true, true, true, true, false, false, false, false, false, false, false, false, false, false, false] rfl rfl (by kernel_rfl) (fun _ _ _ h => h) (Or.inl ⟨by rfl, ?_⟩) ?_ ?_
                  rotate_left
                  · intro w'
                    go_simp
                    with_reducible rfl
                  rotate_left
                  · simp only [Act.put, List.setIfInBounds_toArray, List.set_cons_zero, List.set_cons_succ, i64_w, i32_w, bne_self_eq_false, beq_self_eq_true, Bool.not_true]
                    rfl
                  refine pure_ (i := 9) (N := some 125) (v := ?_) (a' := ?_) #[true, true, true, true, true, true, true, true, true, true, false, false, false, false, false, false, false, false, false, false] rfl rfl (by kernel_rfl) (fun _ _ _ h => h) (Or.inl ⟨by rfl, ?_⟩) ?_ ?_
                  rotate_left
                  · intro w'
                    go_simp
                    with_reducible rfl
                  rotate_left
                  · simp only [Act.put, List.setIfInBounds_toArray, List.set_cons_zero, List.set_cons_succ, i64_w, i32_w, bne_self_eq_false, beq_self_eq_true, Bool.not_true]
                    rfl
                  refine take_ (i := 10) (N := some 126) (v := ?_) (a' := ?_) #[true, true, true, true, true, true, true, true, true, true, true, false, false, false, false, false, false, false, false, false] rfl rfl (by kernel_rfl) (fun _ _ _ h => h) (Or.inl ⟨by rfl, ?_⟩) hHeld ?_ ?_
                  rotate_left
                  · rintro w' hS
                    have a0 := blk_cell (HV4.out.below hS.bel).blk 0
                    have a1 := blk_cell (HV4.out.below hS.bel).blk 1
                    have a2 := blk_cell (HV4.out.below hS.bel).blk 2
                    have a3 := blk_cell (HV4.out.below hS.bel).blk 3
                    have a4 := blk_cell (HV4.out.below hS.bel).blk 4
                    go_simp
                    with_reducible rfl
                  rotate_left
                  · simp only [Act.put, List.setIfInBounds_toArray, List.set_cons_zero, List.set_cons_succ, i64_w, i32_w, bne_self_eq_false, beq_self_eq_true, Bool.not_true]
                    rfl
                  refine pure_ (i := 11) (N := some 127) (v := ?_) (a' := ?_) #[true, true, true, true, true, true, true, true, true, true, true, true, false, false, false, false, false, false, false, false] rfl rfl (by kernel_rfl) (fun _ _ _ h => h) (Or.inl ⟨by rfl, ?_⟩) ?_ ?_
                  rotate_left
                  · intro w'
                    go_simp
                    with_reducible rfl
                  rotate_left
                  · simp only [Act.put, List.setIfInBounds_toArray, List.set_cons_zero, List.set_cons_succ, i64_w, i32_w, bne_self_eq_false, beq_self_eq_true, Bool.not_true]
                    rfl
                  refine pure_ (i := 12) (N := some 128) (v := ?_) (a' := ?_) #[true, true, true, true, true, true, true, true, true, true, true, true, true, false, false, false, false, false, false, false] rfl rfl (by kernel_rfl) (fun _ _ _ h => h) (Or.inl ⟨by rfl, ?_⟩) ?_ ?_
                  rotate_left
                  · intro w'
                    go_simp
                    with_reducible rfl
                  rotate_left
                  · simp only [Act.put, List.setIfInBounds_toArray, List.set_cons_zero, List.set_cons_succ, i64_w, i32_w, bne_self_eq_false, beq_self_eq_true, Bool.not_true]
                    rfl
                  refine pure_ (i := 14) (N := some 130) (v := ?_) (a' := ?_) #[true, true, true, true, true, true, true, true, true, true, true, true, true, false, true, false, false, false, false, false] rfl rfl (by kernel_rfl) (fun _ _ _ h => h) (Or.inl ⟨by rfl, ?_⟩) ?_ ?_
                  rotate_left
                  · intro w'
                    go_simp
                    with_reducible rfl
                  rotate_left
                  · simp only [Act.put, List.setIfInBounds_toArray, List.set_cons_zero, List.set_cons_succ, i64_w, i32_w, bne_self_eq_false, beq_self_eq_true, Bool.not_true]
                    rfl
                  refine pure_ (i := 15) (N := some 131) (v := ?_) (a' := ?_) #[true, true, true, true, true, true, true, true, true, true, true, true, true, false, true, true, false, false, false, false] rfl rfl (by kernel_rfl) (fun _ _ _ h => h) (Or.inl ⟨by rfl, ?_⟩) ?_ ?_
                  rotate_left
                  · intro w'
                    go_simp
                    with_reducible rfl
                  rotate_left
                  · simp only [Act.put, List.setIfInBounds_toArray, List.set_cons_zero, List.set_cons_succ, i64_w, i32_w, bne_self_eq_false, beq_self_eq_true, Bool.not_true]
                    rfl
                  refine pure_ (i := 16) (N := some 132) (v := ?_) (a' := ?_) #[true, true, true, true, true, true, true, true, true, true, true, true, true, false, true, true, true, false, false, false] rfl rfl (by kernel_rfl) (fun _ _ _ h => h) (Or.inl ⟨by rfl, ?_⟩) ?_ ?_
                  rotate_left
                  · intro w'
                    go_simp
                    with_reducible rfl
                  rotate_left
                  · simp only [Act.put, List.setIfInBounds_toArray, List.set_cons_zero, List.set_cons_succ, i64_w, i32_w, bne_self_eq_false, beq_self_eq_true, Bool.not_true]
                    rfl
                  refine take_ (i := 17) (N := some 133) (v := ?_) (a' := ?_) #[true, true, true, true, true, true, true, true, true, true, true, true, true, false, true, true, true, true, false, false] rfl rfl (by kernel_rfl) (fun _ _ _ h => h) (Or.inl ⟨by rfl, ?_⟩) hHeld ?_ ?_
                  rotate_left
                  · rintro w' hS
                    have a0 := hS.r10.cell' i HLI.out bo HO2.out
                    go_simp
                    with_reducible rfl
                  rotate_left
                  · simp only [Act.put, List.setIfInBounds_toArray, List.set_cons_zero, List.set_cons_succ, i64_w, i32_w, bne_self_eq_false, beq_self_eq_true, Bool.not_true]
                    rfl
                  refine one_ (i := 13) (N := some 129) #[true, true, true, true, true, true, true, true, true, true, true, true, true, true, true, true, true, true, false, false] rfl rfl (by kernel_rfl) (by decide) (fun K hK => ?_)
                  refine goes_ Try.func16 (by kernel_rfl) rfl #[.agg #[.int .i64 4, .slice none 0 0, .int .i64 0, .int .i64 0, .slice (some ⟨b8, 0, none⟩) 2 2], .slice A l.length c, .int .i64 0, .int .i64 (i : Int)] (by rfl) rfl rfl (by (try simp only [List.map_toArray, List.map_cons, List.map_nil]); rfl) ?_
                  refine (whole_node k (HV4.out.below hHeld.bel).at_ 0 (i : Int) (Kd.C_below HJ6.out.row hHeld.bel) HLN.out.2.2.2.2 HO1.out).mono ?_
                  rintro e_ kw4 ⟨rfl, hb⟩
                  refine ⟨_, rfl, ?_⟩
                  refine hK.out _ _ (hHeld.more hb) (fun hHeld => ?_)
                  clear hK K hb
                  refine norm_ (a' := ?_) ?_ ?_
                  rotate_left
                  · show Act.put _ (some 129) _ = _
                    simp only [Act.put, List.setIfInBounds_toArray, List.set_cons_zero, List.set_cons_succ, i64_w, i32_w]
                    rfl
                  refine pure_ (i := 18) (N := some 134) (v := ?_) (a' := ?_) #[true, true, true, true, true, true, true, true, true, true, true, true, true, true, true, true, true, true, true, false] rfl rfl (by kernel_rfl) (fun _ _ _ h => h) (Or.inl ⟨by rfl, ?_⟩) ?_ ?_
                  rotate_left
                  · intro w'
                    go_simp
                    with_reducible rfl
                  rotate_left
                  · simp only [Act.put, List.setIfInBounds_toArray, List.set_cons_zero, List.set_cons_succ, i64_w, i32_w, bne_self_eq_false, beq_self_eq_true, Bool.not_true]
                    rfl
                  refine pure_ (i := 19) (N := some 135) (v := ?_) (a' := ?_) #[true, true, true, true, true, true, true, true, true, true, true, true, true, true, true, true, true, true, true, true] rfl rfl (by kernel_rfl) (fun _ _ _ h => h) (Or.inl ⟨by rfl, ?_⟩) ?_ ?_
                  rotate_left
                  · intro w'
                    go_simp
                    with_reducible rfl
                  rotate_left
                  · simp only [Act.put, List.setIfInBounds_toArray, List.set_cons_zero, List.set_cons_succ, i64_w, i32_w, bne_self_eq_false, beq_self_eq_true, Bool.not_true]
                    rfl
                  refine done_ (by kernel_rfl) ?_
                  have HJT6 := Aside0.mk hHeld
                  clear hHeld
                  go_wp2
                  refine ⟨⟨i + 1, by first | (rw [hw]; done) | rfl | simp, by have := HLI.out; omega, ⟨HJT6.out⟩⟩, ?_⟩
                  first | (rw [hw]) | skip
                  show l.length + 1 - _ < l.length + 1 - _
                  have := HLI.out
                  simp only [intOf, Int.toNat_natCast]
                  omega
                · have hn : i = l.length + 1 := by omega
                  subst hn
                  have u1 : decide ((l.length : Int) + 1 ≤ (l.length : Int)) = false := decide_eq_false (by omega)
                  have u1n : decide (l.length + 1 ≤ l.length) = false := decide_eq_false (by omega)
                  have HBE := Aside0.mk (below_step HJ6.out.below HJT5.out.bel)
                  clear hi HJT5
                  go_wp2
                  go_ret
                  exact ⟨rfl, HBE.out⟩
end Go.Proofs.Ytaphbechnjmlgaa.P
namespace Go.Proofs.Ytaphbechnjmlgaa.P
open Go.RowKit Go.Proofs.YtaphbechnjmlgaaW.PrintWords Go.Proofs.YtaphbechnjmlgaaW.PrintLast
set_option linter.unusedVariables false

theorem ev_step {α β : Type} {f : Nat → Option α} {g : Nat → Option β} {a : α} {r : β} (H : Ev f a) (h : ∀ k, f k = some a → g (k + 1) = some r) : Ev g r := by
  obtain ⟨K, H⟩ := H
  refine ⟨K + 1, fun k hk => ?_⟩
  obtain ⟨k, rfl⟩ : ∃ m, k = m + 1 := ⟨k - 1, by omega⟩
  exact h k (H k (by omega))
theorem ev_step2 {α β γ : Type} {f : Nat → Option α} {f2 : Nat → Option γ} {g : Nat → Option β} {a : α} {b : γ} {r : β} (H : Ev f a) (H2 : Ev f2 b) (h : ∀ k, f k = some a → f2 k = some b → g (k + 1) = some r) : Ev g r := by
  obtain ⟨K, H⟩ := H
  obtain ⟨K2, H2⟩ := H2
  refine ⟨K + K2 + 1, fun k hk => ?_⟩
  obtain ⟨k, rfl⟩ : ∃ m, k = m + 1 := ⟨k - 1, by omega⟩
  exact h k (H k (by omega)) (H2 k (by omega))
theorem ev_one {β : Type} {g : Nat → Option β} {r : β} (h : ∀ k, g (k + 1) = some r) : Ev g r := ⟨1, fun k hk => by
  obtain ⟨k, rfl⟩ : ∃ m, k = m + 1 := ⟨k - 1, by omega⟩
  exact h k⟩
theorem ev_now {β : Type} {g : Nat → Option β} {r : β} (h : ∀ k, g k = some r) : Ev g r := ⟨0, fun k _ => h k⟩
theorem ev_same {α β : Type} {f : Nat → Option α} {g : Nat → Option β} {a : α} {r : β} (H : Ev f a) (h : ∀ k, f k = some a → g k = some r) : Ev g r := by
  obtain ⟨K, H⟩ := H
  exact ⟨K, fun k hk => h k (H k hk)⟩
theorem ev_same2 {α β γ : Type} {f : Nat → Option α} {f2 : Nat → Option γ} {g : Nat → Option β} {a : α} {b : γ} {r : β} (H : Ev f a) (H2 : Ev f2 b) (h : ∀ k, f k = some a → f2 k = some b → g k = some r) : Ev g r := by
  obtain ⟨K, H⟩ := H
  obtain ⟨K2, H2⟩ := H2
  exact ⟨K + K2, fun k hk => h k (H k (by omega)) (H2 k (by omega))⟩
end Go.Proofs.Ytaphbechnjmlgaa.P
namespace Go.Proofs.Ytaphbechnjmlgaa.P
open Go.RowKit Go.Proofs.YtaphbechnjmlgaaW.PrintWords Go.Proofs.YtaphbechnjmlgaaW.PrintLast
set_option linter.unusedVariables false
set_option linter.unusedSimpArgs false

abbrev TNode : Type := S25
abbrev TRange : Type := S52
def i64b (x : Int) : Prop := -9223372036854775808 ≤ x ∧ x ≤ 9223372036854775807
/-- A tree that can lie in memory. -/
inductive WfN : TNode → Prop
  | mk (x : TNode) (h0 : i64b x.f0) (h1 : ∀ r ∈ x.f1, i64b r.f0 ∧ i64b r.f1) (l1 : x.f1.length < 8796093022208) (h2 : i64b x.f2) (h3 : i64b x.f3) (l4 : x.f4.length < 2199023255552) (hk : ∀ y ∈ x.f4, WfN y) : WfN x
theorem node_ind {P : TNode → Prop} (h : ∀ x : TNode, (∀ y ∈ x.f4, P y) → P x) (x : TNode) : P x := by
  have key : ∀ n (x : TNode), SizeOf.sizeOf x ≤ n → P x := by
    intro n
    induction n with
    | zero =>
      intro x hx
      exact absurd hx (by cases x; simp)
    | succ n ih =>
      intro x hx
      refine h x fun y hy => ih y ?_
      have h1 := List.sizeOf_lt_of_mem hy
      have h2 : SizeOf.sizeOf x.f4 < SizeOf.sizeOf x := by cases x; simp; omega
      omega
  exact key _ x (Nat.le_refl _)
theorem tn_rd (l : List TNode) (i : Nat) (h : i < l.length) : rd_T25 l (i : Int) = l[i] := by
  unfold rd_T25
  rw [Int.toNat_natCast, List.getD_eq_getElem?_getD, List.getElem?_eq_getElem h, Option.getD_some]
theorem tn_mem (l : List TNode) (i : Nat) (h : i < l.length) : rd_T25 l (i : Int) ∈ l := by
  rw [tn_rd l i h]
  exact List.getElem_mem h
abbrev weightE (k : Nat) (x : TNode) (d : Int) : Option Int := ductusref16_Weight.f k x.f0 x.f1 x.f2 x.f3 x.f4 d
theorem weight_loop (f0 : Int) (f1 : List TRange) (f2 f3 : Int) (l : List TNode) (d B : Int) (hd : 0 ≤ d ∧ d ≤ 100) (hB : 0 ≤ B ∧ B < 8000000000000000000) (hl : l.length < 2199023255552) (hk : ∀ y ∈ l, ∃ W, Ev (fun k => weightE k y (d + 1)) W ∧ 1 ≤ W ∧ W ≤ B) (m : Nat) :
    ∀ (i : Nat) (s : Int), i + m = l.length → 1 ≤ s → s ≤ 9000000000000000000 → ∃ W, Ev (fun k => ductusref16_Weight.l0 k d s (i : Int) f0 f1 f2 f3 l) W ∧ s ≤ W ∧ (W ≤ s ∨ W ≤ 2000 + B) := by
  induction m with
  | zero =>
    intro i s hi h1 h2
    refine ⟨s, ev_one fun k => ?_, Int.le_refl _, .inl (Int.le_refl _)⟩
    simp only [ductusref16_Weight.l0]
    rw [if_neg (by omega)]
  | succ m ih =>
    intro i s hi h1 h2
    by_cases hs : s ≤ 2000
    · obtain ⟨V, hV, hV1, hV2⟩ := hk _ (tn_mem l i (by omega))
      obtain ⟨W, hW, hW1, hW2⟩ := ih (i + 1) (s + V) (by omega) (by omega) (by omega)
      refine ⟨W, ?_, by omega, by omega⟩
      have w1 : wrap64 (d + 1) = d + 1 := wrap_id (by omega) (by omega)
      have c1 : (i : Int) < (l.length : Int) := by omega
      have c2 : (0 : Int) ≤ (i : Int) := by omega
      have w2 : wrap64 (s + V) = s + V := wrap_id (by omega) (by omega)
      have w3 : wrap64 ((i : Int) + 1) = ((i + 1 : Nat) : Int) := wrap_succ i (by omega)
      refine ev_step2 hV hW fun k h1 h2 => ?_
      simp only [ductusref16_Weight.l0]
      rw [if_pos c1, if_pos hs, if_pos c2, w1]
      have h1' : ductusref16_Weight.f k (rd_T25 l (i : Int)).f0 (rd_T25 l (i : Int)).f1 (rd_T25 l (i : Int)).f2 (rd_T25 l (i : Int)).f3 (rd_T25 l (i : Int)).f4 (d + 1) = some V := h1
      rw [h1', Option.bind_some, w2, w3]
      exact h2
    · have c1 : (i : Int) < (l.length : Int) := by omega
      refine ⟨s, ev_one fun k => ?_, Int.le_refl _, .inl (Int.le_refl _)⟩
      simp only [ductusref16_Weight.l0]
      rw [if_pos c1, if_neg hs]
theorem weight_ev (x : TNode) : WfN x → ∀ d : Nat, d ≤ 101 → ∃ W, Ev (fun k => weightE k x (d : Int)) W ∧ 1 ≤ W ∧ W ≤ 8796093025208 + 2000 * (101 - (d : Int)) := by
  induction x using node_ind with
  | h x ih =>
    intro hw d hd
    obtain ⟨_, h0, h1, l1, h2, h3, l4, hk⟩ := hw
    by_cases hd1 : d = 101
    · subst hd1
      refine ⟨3000, ev_one fun k => ?_, by omega, by omega⟩
      simp only [weightE, ductusref16_Weight.f]
      rw [if_pos (by omega)]
    · have w1 : wrap64 (1 + (x.f1.length : Int)) = 1 + (x.f1.length : Int) := wrap_id (by omega) (by omega)
      obtain ⟨W, hW, hW1, hW2⟩ := weight_loop x.f0 x.f1 x.f2 x.f3 x.f4 (d : Int) (8796093025208 + 2000 * (101 - ((d + 1 : Nat) : Int))) (by omega) (by omega) l4 (fun y hy => by
        obtain ⟨W, hW, hW1, hW2⟩ := ih y hy (hk y hy) (d + 1) (by omega)
        exact ⟨W, hW, hW1, hW2⟩) x.f4.length 0 (1 + (x.f1.length : Int)) (by omega) (by omega) (by omega)
      refine ⟨W, ?_, by omega, by omega⟩
      refine ev_step hW fun k h => ?_
      simp only [weightE, ductusref16_Weight.f]
      rw [if_neg (by omega), w1]
      exact h
mutual
def sizeT : TNode → Int
  | ⟨f0, _, f2, f3, f4⟩ => sizesT (multT f0 f2 f3) f4 1
def sizesT (t : Int) : List TNode → Int → Int
  | [], s => s
  | x :: l, s => sizesT t l (mn 1000000 (s + t * sizeT x))
end
theorem mn_le (a b : Int) : mn a b ≤ a ∧ mn a b ≤ b := by unfold mn; split <;> omega
theorem sizes_rng (t : Int) (ht : 1 ≤ t ∧ t ≤ 1000000) : ∀ (l : List TNode), (∀ y ∈ l, 1 ≤ sizeT y ∧ sizeT y ≤ 1000000) → ∀ s, 1 ≤ s → s ≤ 1000000 → s ≤ sizesT t l s ∧ sizesT t l s ≤ 1000000
  | [], _, s, h1, h2 => by simp only [sizesT]; omega
  | y :: l, hy, s, h1, h2 => by
    have h3 := hy y (by simp)
    have h4 : 0 ≤ t * sizeT y := Int.mul_nonneg (by omega) (by omega)
    have h5 := mn_le 1000000 (s + t * sizeT y)
    have h6 : s ≤ mn 1000000 (s + t * sizeT y) := by unfold mn; split <;> omega
    have h7 := sizes_rng t ht l (fun z hz => hy z (by simp [hz])) (mn 1000000 (s + t * sizeT y)) (by omega) (by omega)
    simp only [sizesT]
    omega
theorem size_rng (x : TNode) : 1 ≤ sizeT x ∧ sizeT x ≤ 1000000 := by
  induction x using node_ind with
  | h x ih =>
    obtain ⟨f0, f1, f2, f3, f4⟩ := x
    simp only [sizeT]
    exact sizes_rng _ (multT_le _ _ _) f4 ih 1 (by omega) (by omega)
abbrev sizeE (k : Nat) (x : TNode) : Option Int := ductusref16_Size.f k x.f0 x.f1 x.f2 x.f3 x.f4
theorem sizes_ev (t : Int) (ht : 1 ≤ t ∧ t ≤ 1000000) : ∀ (l : List TNode), (∀ y ∈ l, Ev (fun k => sizeC k y) (sizeT y)) → ∀ s, 1 ≤ s → s ≤ 1000000 → Ev (fun k => sizesC (sizeC k) t l s) (sizesT t l s)
  | [], _, s, h1, h2 => ev_now fun k => by simp only [sizesC, sizesT]
  | y :: l, hy, s, h1, h2 => by
    have h3 := size_rng y
    have h4 : 0 ≤ t * sizeT y := Int.mul_nonneg (by omega) (by omega)
    have h5 : 1 ≤ mn 1000000 (s + t * sizeT y) ∧ mn 1000000 (s + t * sizeT y) ≤ 1000000 := by unfold mn; split <;> omega
    refine ev_same2 (hy y (by simp)) (sizes_ev t ht l (fun z hz => hy z (by simp [hz])) _ h5.1 h5.2) fun k e1 e2 => ?_
    simp only [sizesC, sizesT]
    rw [e1, Option.bind_some, if_pos ⟨h3.1, h3.2, h1, h2⟩]
    exact e2
theorem size_ev (x : TNode) : WfN x → Ev (fun k => sizeE k x) (sizeT x) := by
  have e : (fun k => sizeE k x) = fun k => sizeC k x := by
    funext k
    obtain ⟨f0, f1, f2, f3, f4⟩ := x
    rfl
  rw [e]
  clear e
  induction x using node_ind with
  | h x ih =>
    intro hw
    obtain ⟨_, h0, h1, l1, h2, h3, l4, hk⟩ := hw
    obtain ⟨f0, f1, f2, f3, f4⟩ := x
    refine ev_step (sizes_ev (multT f0 f2 f3) (multT_le _ _ _) f4 (fun y hy => ih y hy (hk y hy)) 1 (by omega) (by omega)) fun k e => ?_
    simp only [sizeC, sizeT]
    rw [if_pos h2.1]
    exact e
end Go.Proofs.Ytaphbechnjmlgaa.P
namespace Go.Proofs.Ytaphbechnjmlgaa.P
open Go.RowKit Go.Proofs.YtaphbechnjmlgaaW.PrintWords Go.Proofs.YtaphbechnjmlgaaW.PrintLast
set_option linter.unusedVariables false
set_option linter.unusedSimpArgs false

/-- So often, one behind the other. -/
def Times (R : Int → Int → Prop) : Nat → Int → Int → Prop
  | 0, i, j => i = j
  | m + 1, i, j => ∃ t, R i t ∧ Times R m t j
theorem times_right (R : Int → Int → Prop) : ∀ (m : Nat) (i j : Int), Times R (m + 1) i j ↔ ∃ t, Times R m i t ∧ R t j
  | 0, i, j => by
    simp only [Times]
    exact ⟨fun ⟨t, h1, h2⟩ => ⟨i, rfl, h2 ▸ h1⟩, fun ⟨t, h1, h2⟩ => ⟨j, h1 ▸ h2, rfl⟩⟩
  | m + 1, i, j => by
    constructor
    · rintro ⟨t, h1, h2⟩
      obtain ⟨s, h3, h4⟩ := (times_right R m t j).1 h2
      exact ⟨s, ⟨t, h1, h3⟩, h4⟩
    · rintro ⟨s, ⟨t, h1, h3⟩, h4⟩
      exact ⟨t, h1, (times_right R m t j).2 ⟨s, h3, h4⟩⟩
theorem times_add (R : Int → Int → Prop) : ∀ (m n : Nat) (i j : Int), Times R (m + n) i j ↔ ∃ t, Times R m i t ∧ Times R n t j
  | 0, n, i, j => by
    simp only [Times, Nat.zero_add]
    exact ⟨fun h => ⟨i, rfl, h⟩, fun ⟨t, h1, h2⟩ => h1 ▸ h2⟩
  | m + 1, n, i, j => by
    rw [show m + 1 + n = (m + n) + 1 by omega]
    constructor
    · rintro ⟨t, h1, h2⟩
      obtain ⟨s, h3, h4⟩ := (times_add R m n t j).1 h2
      exact ⟨s, ⟨t, h1, h3⟩, h4⟩
    · rintro ⟨s, ⟨t, h1, h3⟩, h4⟩
      exact ⟨t, h1, (times_add R m n t j).2 ⟨s, h3, h4⟩⟩
/-- How often a repeat may be. -/
def Often (lo hi : Int) (R : Int → Int → Prop) (i j : Int) : Prop := ∃ m : Nat, lo ≤ (m : Int) ∧ (hi < 0 ∨ (m : Int) ≤ hi) ∧ Times R m i j
mutual
/-- A tree matches a text from a place up to another one. -/
def M (l : List Int) : TNode → Int → Int → Prop
  | ⟨f0, f1, f2, f3, f4⟩, i, j => if f0 = 1 then i = j
    else if f0 = 2 then i < (l.length : Int) ∧ hasM f1 (rd l i) = true ∧ j = i + 1
    else if f0 = 6 then i = 0 ∧ j = 0
    else if f0 = 7 then i = (l.length : Int) ∧ j = (l.length : Int)
    else if f0 = 3 then MJ l f4 i j
    else if f0 = 4 then MO l f4 i j
    else if f0 = 5 then f4.length = 1 ∧ (f3 < 0 ∨ f2 ≤ f3) ∧ Often f2 f3 (M1 l f4) i j
    else False
def MJ (l : List Int) : List TNode → Int → Int → Prop
  | [], i, j => i = j
  | y :: ys, i, j => ∃ t, M l y i t ∧ MJ l ys t j
def MO (l : List Int) : List TNode → Int → Int → Prop
  | [], i, j => False
  | y :: ys, i, j => M l y i j ∨ MO l ys i j
def M1 (l : List Int) : List TNode → Int → Int → Prop
  | [], i, j => False
  | y :: _, i, j => M l y i j
end
theorem M_eq (l : List Int) (x : TNode) (i j : Int) : M l x i j ↔ (if x.f0 = 1 then i = j
    else if x.f0 = 2 then i < (l.length : Int) ∧ hasM x.f1 (rd l i) = true ∧ j = i + 1
    else if x.f0 = 6 then i = 0 ∧ j = 0
    else if x.f0 = 7 then i = (l.length : Int) ∧ j = (l.length : Int)
    else if x.f0 = 3 then MJ l x.f4 i j
    else if x.f0 = 4 then MO l x.f4 i j
    else if x.f0 = 5 then x.f4.length = 1 ∧ (x.f3 < 0 ∨ x.f2 ≤ x.f3) ∧ Often x.f2 x.f3 (M1 l x.f4) i j
    else False) := by
  cases x
  rw [M]
section
variable (l : List Int) (x : TNode) (i j : Int)
theorem M_1 (h : x.f0 = 1) : M l x i j ↔ i = j := by rw [M_eq, h]; simp
theorem M_2 (h : x.f0 = 2) : M l x i j ↔ i < (l.length : Int) ∧ hasM x.f1 (rd l i) = true ∧ j = i + 1 := by rw [M_eq, h]; simp
theorem M_6 (h : x.f0 = 6) : M l x i j ↔ i = 0 ∧ j = 0 := by rw [M_eq, h]; simp
theorem M_7 (h : x.f0 = 7) : M l x i j ↔ i = (l.length : Int) ∧ j = (l.length : Int) := by rw [M_eq, h]; simp
theorem M_3 (h : x.f0 = 3) : M l x i j ↔ MJ l x.f4 i j := by rw [M_eq, h]; simp
theorem M_4 (h : x.f0 = 4) : M l x i j ↔ MO l x.f4 i j := by rw [M_eq, h]; simp
theorem M_5 (h : x.f0 = 5) : M l x i j ↔ x.f4.length = 1 ∧ (x.f3 < 0 ∨ x.f2 ≤ x.f3) ∧ Often x.f2 x.f3 (M1 l x.f4) i j := by rw [M_eq, h]; simp
theorem M_5' (h : x.f0 = 5) (y : TNode) (hy : x.f4 = [y]) : M l x i j ↔ (x.f3 < 0 ∨ x.f2 ≤ x.f3) ∧ Often x.f2 x.f3 (M l y) i j := by
  rw [M_5 l x i j h, hy, show M1 l [y] = M l y by funext a b; rw [M1]]
  simp
theorem M_0 (h : x.f0 < 1 ∨ x.f0 > 7) : ¬ M l x i j := by
  rw [M_eq, if_neg (by omega), if_neg (by omega), if_neg (by omega), if_neg (by omega), if_neg (by omega), if_neg (by omega), if_neg (by omega)]
  exact id
end
theorem MO_iff (l : List Int) (i j : Int) : ∀ ys : List TNode, MO l ys i j ↔ ∃ y ∈ ys, M l y i j
  | [] => by rw [MO]; simp
  | y :: ys => by rw [MO, MO_iff l i j ys]; simp
theorem MJ_one (l : List Int) (y : TNode) (i j : Int) : MJ l [y] i j ↔ M l y i j := by
  simp only [MJ]
  exact ⟨fun ⟨t, h1, h2⟩ => h2 ▸ h1, fun h => ⟨j, h, rfl⟩⟩
abbrev Bnd (n : Int) (R : Int → Int → Prop) : Prop := ∀ i j, R i j → 0 ≤ i → i ≤ n → i ≤ j ∧ j ≤ n
theorem bnd_times {n : Int} {R : Int → Int → Prop} (h : Bnd n R) : ∀ m, Bnd n (Times R m)
  | 0, i, j, hr, h1, h2 => by
    obtain rfl : i = j := hr
    omega
  | m + 1, i, j, ⟨t, hr, ht⟩, h1, h2 => by
    have := h i t hr h1 h2
    have := bnd_times h m t j ht (by omega) (by omega)
    omega
theorem bnd_often {n lo hi : Int} {R : Int → Int → Prop} (h : Bnd n R) : Bnd n (Often lo hi R) := fun i j ⟨m, _, _, ht⟩ h1 h2 => bnd_times h m i j ht h1 h2
theorem bnd_MJ (l : List Int) : ∀ ys : List TNode, (∀ y ∈ ys, Bnd (l.length : Int) (M l y)) → Bnd (l.length : Int) (MJ l ys)
  | [], h, i, j, hm, h1, h2 => by
    rw [MJ] at hm
    omega
  | y :: ys, h, i, j, hm, h1, h2 => by
    rw [MJ] at hm
    obtain ⟨t, ht, hm⟩ := hm
    have := h y (by simp) i t ht h1 h2
    have := bnd_MJ l ys (fun z hz => h z (by simp [hz])) t j hm (by omega) (by omega)
    omega
theorem bnd_M (l : List Int) (x : TNode) : Bnd (l.length : Int) (M l x) := by
  induction x using node_ind with
  | h x ih =>
    intro i j hm h1 h2
    rw [M_eq] at hm
    split at hm
    · omega
    split at hm
    · omega
    split at hm
    · omega
    split at hm
    · omega
    split at hm
    · exact bnd_MJ l _ ih i j hm h1 h2
    split at hm
    · obtain ⟨y, hy, hm⟩ := (MO_iff l i j _).1 hm
      exact ih y hy i j hm h1 h2
    split at hm
    · obtain ⟨hl, _, hm⟩ := hm
      obtain ⟨y, hy⟩ : ∃ y, x.f4 = [y] := List.length_eq_one_iff.1 hl
      rw [hy, show M1 l [y] = M l y by funext a b; rw [M1]] at hm
      exact bnd_often (ih y (by rw [hy]; simp)) i j hm h1 h2
    · exact hm.elim
abbrev Srt (xs : List Int) : Prop := xs.Pairwise (· < ·)
theorem srt_len : ∀ (a b : List Int), Srt a → Srt b → (∀ p ∈ a, p ∈ b) → a.length ≤ b.length ∧ (a.length = b.length → a = b)
  | [], b, _, _, _ => ⟨Nat.zero_le _, fun h => (List.length_eq_zero_iff.1 h.symm).symm⟩
  | p :: a, b, ha, hb, hs => by
    obtain ⟨u, v, rfl⟩ := List.append_of_mem (hs p (by simp))
    replace ha := List.pairwise_cons.1 ha
    have h2 : ∀ q ∈ a, q ∈ v := by
      intro q hq
      have h3 := hs q (by simp [hq])
      have h4 := ha.1 q hq
      rw [List.mem_append, List.mem_cons] at h3
      rcases h3 with h3 | h3 | h3
      · have := (List.pairwise_append.1 hb).2.2 q h3 p (by simp)
        omega
      · omega
      · exact h3
    have hv : Srt v := (List.pairwise_cons.1 (List.pairwise_append.1 hb).2.1).2
    obtain ⟨h5, h6⟩ := srt_len a v ha.2 hv h2
    constructor
    · simp only [List.length_cons, List.length_append]
      omega
    · intro hl
      simp only [List.length_cons, List.length_append] at hl
      have : u = [] := List.length_eq_zero_iff.1 (by omega)
      subst this
      rw [h6 (by omega), List.nil_append]
theorem srt_ext {a b : List Int} (ha : Srt a) (hb : Srt b) (h : ∀ p, p ∈ a ↔ p ∈ b) : a = b :=
  (srt_len a b ha hb fun p hp => (h p).1 hp).2 (Nat.le_antisymm (srt_len a b ha hb fun p hp => (h p).1 hp).1 (srt_len b a hb ha fun p hp => (h p).2 hp).1)
def upto (n : Nat) : List Int := (List.range (n + 1)).map fun i : Nat => (i : Int)
theorem upto_srt (n : Nat) : Srt (upto n) := by
  unfold upto Srt
  rw [List.pairwise_map]
  exact List.Pairwise.imp (fun h => by omega) List.pairwise_lt_range
theorem mem_upto (n : Nat) (p : Int) : p ∈ upto n ↔ 0 ≤ p ∧ p ≤ (n : Int) := by
  unfold upto
  simp only [List.mem_map, List.mem_range]
  exact ⟨fun ⟨i, h1, h2⟩ => by omega, fun h => ⟨p.toNat, by omega, by omega⟩⟩
theorem upto_len (n : Nat) : (upto n).length = n + 1 := by simp [upto]
open Classical in
/-- The places of a text that a tree matches up to, from a place. -/
noncomputable def endsM (l : List Int) (x : TNode) (i : Int) : List Int := (upto l.length).filter fun j => decide (M l x i j)
theorem endsM_srt (l : List Int) (x : TNode) (i : Int) : Srt (endsM l x i) := List.Pairwise.filter _ (upto_srt _)
open Classical in
theorem mem_endsM (l : List Int) (x : TNode) (i j : Int) (h : 0 ≤ i ∧ i ≤ (l.length : Int)) : j ∈ endsM l x i ↔ M l x i j := by
  unfold endsM
  rw [List.mem_filter, mem_upto, decide_eq_true_iff]
  exact ⟨fun h => h.2, fun hm => ⟨by have := bnd_M l x i j hm h.1 h.2; omega, hm⟩⟩
end Go.Proofs.Ytaphbechnjmlgaa.P
namespace Go.Proofs.Ytaphbechnjmlgaa.P
open Go.RowKit Go.Proofs.YtaphbechnjmlgaaW.PrintWords Go.Proofs.YtaphbechnjmlgaaW.PrintLast
set_option linter.unusedVariables false
set_option linter.unusedSimpArgs false

theorem half_64 {i j : Nat} (h : i ≤ 1000) (h2 : j ≤ 1000) : wrap64 ((IntKind.u64.wrap (wrap64 ((i : Int) + (j : Int)))) / 2) = (((i + j) / 2 : Nat) : Int) := by
  rw [wrap_id (x := (i : Int) + (j : Int)) (by omega) (by omega), IntKind.wrap_u64, show ((i : Int) + (j : Int)) % 18446744073709551616 = (i : Int) + (j : Int) by omega, wrap_id (by omega) (by omega)]
  omega
theorem less_int (a b : Int) : cmp_Less_int.f a b = some (decide (a < b)) := by
  unfold cmp_Less_int.f cmp_isNaN_int.f
  simp
theorem rd_srt {xs : List Int} (hs : Srt xs) {a b : Nat} (h : a < b) (hb : b < xs.length) : rd xs (a : Int) < rd xs (b : Int) := by
  rw [rd_get xs a (by omega), rd_get xs b hb]
  exact List.pairwise_iff_getElem.1 hs a b (by omega) hb h
theorem mem_rd {xs : List Int} {p : Int} : p ∈ xs ↔ ∃ i : Nat, i < xs.length ∧ rd xs (i : Int) = p := by
  constructor
  · intro h
    obtain ⟨i, hi, rfl⟩ := List.getElem_of_mem h
    exact ⟨i, hi, rd_get xs i hi⟩
  · rintro ⟨i, hi, rfl⟩
    rw [rd_get xs i hi]
    exact List.getElem_mem hi
theorem bs_ok (xs : List Int) (p : Int) (hl : xs.length ≤ 500) (hs : Srt xs) : ∀ (k i j : Nat), i ≤ j → j ≤ xs.length → j - i < k → (∀ q : Nat, q < i → rd xs (q : Int) < p) → (∀ q : Nat, j ≤ q → q < xs.length → p ≤ rd xs (q : Int)) →
    ∃ m : Nat, m ≤ xs.length ∧ (∀ q : Nat, q < m → rd xs (q : Int) < p) ∧ (∀ q : Nat, m ≤ q → q < xs.length → p ≤ rd xs (q : Int)) ∧ slices_BinarySearch_deriv_set_int.l0 k xs p (xs.length : Int) (i : Int) (j : Int) = some ((m : Int), decide (p ∈ xs))
  | 0, i, j, _, _, h, _, _ => absurd h (by omega)
  | k + 1, i, j, hij, hj, hf, h1, h2 => by
    by_cases c : i < j
    · have hm := half_64 (i := i) (j := j) (by omega) (by omega)
      obtain ⟨h, hh⟩ : ∃ h, (i + j) / 2 = h := ⟨_, rfl⟩
      have e1 : i ≤ h := by omega
      have e2 : h < j := by omega
      rw [hh] at hm
      by_cases c2 : rd xs (h : Int) < p
      · obtain ⟨m, a1, a2, a3, a4⟩ := bs_ok xs p hl hs k (h + 1) j (by omega) hj (by omega) (fun q hq => by
          rcases Nat.lt_or_ge q h with hq2 | hq2
          · have := rd_srt hs hq2 (by omega)
            omega
          · obtain rfl : q = h := by omega
            exact c2) h2
        refine ⟨m, a1, a2, a3, ?_⟩
        unfold slices_BinarySearch_deriv_set_int.l0
        rw [if_pos (by omega), hm, if_pos (by omega), if_pos (by omega), less_int, Option.bind_some, if_pos (decide_eq_true c2), wrap_succ h (by omega)]
        exact a4
      · obtain ⟨m, a1, a2, a3, a4⟩ := bs_ok xs p hl hs k i h (by omega) (by omega) (by omega) h1 (fun q hq hq2 => by
          rcases Nat.lt_or_ge h q with hq3 | hq3
          · have := rd_srt hs hq3 hq2
            omega
          · obtain rfl : q = h := by omega
            omega)
        refine ⟨m, a1, a2, a3, ?_⟩
        unfold slices_BinarySearch_deriv_set_int.l0
        rw [if_pos (by omega), hm, if_pos (by omega), if_pos (by omega), less_int, Option.bind_some, if_neg (by rw [decide_eq_false c2]; decide)]
        exact a4
    · obtain rfl : i = j := by omega
      refine ⟨i, hj, h1, h2, ?_⟩
      unfold slices_BinarySearch_deriv_set_int.l0
      rw [if_neg (by omega)]
      by_cases c3 : i < xs.length
      · rw [if_pos (by omega), if_pos (by omega), if_pos (by omega)]
        by_cases c4 : rd xs (i : Int) = p
        · rw [if_pos c4, decide_eq_true (mem_rd.2 ⟨i, c3, c4⟩)]
        · have hn : ¬ p ∈ xs := by
            intro hp
            obtain ⟨q, hq, hq2⟩ := mem_rd.1 hp
            rcases Nat.lt_trichotomy q i with h | h | h
            · have := h1 q h
              omega
            · subst h
              exact c4 hq2
            · have := rd_srt hs h hq
              have := h2 i (by omega) c3
              omega
          rw [if_neg c4, decide_eq_false hn]
          simp [slices_isNaN_int.f]
      · have hn : ¬ p ∈ xs := by
          intro hp
          obtain ⟨q, hq, hq2⟩ := mem_rd.1 hp
          have := h1 q (by omega)
          omega
        rw [if_neg (by omega), decide_eq_false hn]
/-- A set of places of a text. -/
structure SetOK (n : Nat) (xs : List Int) : Prop where
  srt : Srt xs
  rng : ∀ p ∈ xs, 0 ≤ p ∧ p ≤ (n : Int)
theorem SetOK.len {n : Nat} {xs : List Int} (h : SetOK n xs) : xs.length ≤ n + 1 := by
  have := (srt_len xs (upto n) h.srt (upto_srt n) (fun p hp => (mem_upto n p).2 (h.rng p hp))).1
  rw [upto_len] at this
  exact this
theorem setOK_nil (n : Nat) : SetOK n [] := ⟨List.Pairwise.nil, fun p hp => by simp at hp⟩
theorem setOK_one {n : Nat} {p : Int} (h : 0 ≤ p ∧ p ≤ (n : Int)) : SetOK n [p] := ⟨by simp [Srt], fun q hq => by simp at hq; omega⟩
theorem with_ok {n k : Nat} (hn : n ≤ 64) (hk : 100 ≤ k) {xs : List Int} (hx : SetOK n xs) {p : Int} (hp : 0 ≤ p ∧ p ≤ (n : Int)) :
    ∃ ys, withS k xs p = some ys ∧ SetOK n ys ∧ ∀ q, q ∈ ys ↔ q = p ∨ q ∈ xs := by
  have hl := hx.len
  obtain ⟨m, h1, h2, h3, h4⟩ := bs_ok xs p (by omega) hx.srt k 0 xs.length (by omega) (by omega) (by omega) (fun q hq => absurd hq (by omega)) (fun q h h' => absurd h' (by omega))
  have h5 : slices_BinarySearch_deriv_set_int.f k xs p = some ((m : Int), decide (p ∈ xs)) := h4
  unfold withS
  rw [h5, Option.bind_some]
  by_cases c : p ∈ xs
  · rw [if_pos (decide_eq_true c)]
    exact ⟨xs, rfl, hx, fun q => ⟨fun h => .inr h, fun h => by rcases h with rfl | h; exact c; exact h⟩⟩
  · have hc : ¬ (((m : Int), decide (p ∈ xs)) : Int × Bool).2 = true := by simp [c]
    rw [if_neg hc, if_pos ⟨by simp, by simp only []; omega, by omega⟩]
    refine ⟨_, rfl, ⟨?_, ?_⟩, ?_⟩
    · simp only [Int.toNat_natCast]
      refine List.pairwise_append.2 ⟨List.Pairwise.sublist (List.take_sublist m xs) hx.srt, List.pairwise_cons.2 ⟨?_, List.Pairwise.sublist (List.drop_sublist m xs) hx.srt⟩, ?_⟩
      · intro q hq
        obtain ⟨i, hi, hq2⟩ := List.getElem_of_mem hq
        rw [List.getElem_drop] at hq2
        rw [List.length_drop] at hi
        have := h3 (m + i) (by omega) (by omega)
        rw [rd_get xs _ (by omega), hq2] at this
        rcases Int.lt_or_eq_of_le this with h | h
        · exact h
        · exact absurd (h ▸ List.mem_of_mem_drop hq) c
      · intro a ha q hq
        obtain ⟨i, hi, ha2⟩ := List.getElem_of_mem ha
        rw [List.length_take] at hi
        rw [List.getElem_take] at ha2
        have h6 := h2 i (by omega)
        rw [rd_get xs _ (by omega), ha2] at h6
        rcases List.mem_cons.1 hq with rfl | hq
        · exact h6
        · obtain ⟨j, hj, hq2⟩ := List.getElem_of_mem hq
          rw [List.getElem_drop] at hq2
          rw [List.length_drop] at hj
          have := h3 (m + j) (by omega) (by omega)
          rw [rd_get xs _ (by omega), hq2] at this
          omega
    · intro q hq
      simp only [Int.toNat_natCast] at hq
      rcases List.mem_append.1 hq with h | h
      · exact hx.rng q (List.mem_of_mem_take h)
      · rcases List.mem_cons.1 h with rfl | h
        · exact hp
        · exact hx.rng q (List.mem_of_mem_drop h)
    · intro q
      simp only [Int.toNat_natCast]
      rw [List.mem_append, List.mem_cons]
      constructor
      · rintro (h | h | h)
        · exact .inr (List.mem_of_mem_take h)
        · exact .inl h
        · exact .inr (List.mem_of_mem_drop h)
      · rintro (h | h)
        · exact .inr (.inl h)
        · rw [← List.take_append_drop m xs, List.mem_append] at h
          rcases h with h | h
          · exact .inl h
          · exact .inr (.inr h)
theorem withs_ok {n k : Nat} (hn : n ≤ 64) (hk : 100 ≤ k) : ∀ (ps : List Int) {xs : List Int}, SetOK n xs → (∀ p ∈ ps, 0 ≤ p ∧ p ≤ (n : Int)) →
    ∃ ys, withsS k ps xs = some ys ∧ SetOK n ys ∧ ∀ q, q ∈ ys ↔ q ∈ ps ∨ q ∈ xs
  | [], xs, hx, _ => ⟨xs, rfl, hx, fun q => by simp⟩
  | p :: ps, xs, hx, hp => by
    obtain ⟨ys, e1, h1, h2⟩ := with_ok hn hk hx (hp p (by simp))
    obtain ⟨zs, e2, h3, h4⟩ := withs_ok hn hk ps h1 (fun q hq => hp q (by simp [hq]))
    refine ⟨zs, by rw [withsS, e1, Option.bind_some, e2], h3, fun q => ?_⟩
    rw [h4, h2, List.mem_cons]
    constructor
    · rintro (h | h | h)
      · exact .inl (.inr h)
      · exact .inl (.inl h)
      · exact .inr h
    · rintro ((h | h) | h)
      · exact .inr (.inl h)
      · exact .inl h
      · exact .inr (.inr h)
/-- What is reached by a relation from some places. -/
abbrev Img (R : Int → Int → Prop) (xs : List Int) (j : Int) : Prop := ∃ i ∈ xs, R i j
/-- A step answers what a relation reaches. -/
def Lifts (n : Nat) (R : Int → Int → Prop) (f : List Int → Option (List Int)) : Prop := ∀ xs, SetOK n xs → ∃ r, f xs = some r ∧ SetOK n r ∧ ∀ j, j ∈ r ↔ Img R xs j
theorem set_ok {k : Nat} (hk : 100 ≤ k) (rl : List TRange) (l : List Int) (hl : l.length ≤ 64) : ∀ (ps xs : List Int), SetOK l.length xs → (∀ p ∈ ps, 0 ≤ p ∧ p ≤ (l.length : Int)) →
    ∃ ys, setL k rl l ps xs = some ys ∧ SetOK l.length ys ∧ ∀ q, q ∈ ys ↔ (∃ i ∈ ps, i < (l.length : Int) ∧ hasM rl (rd l i) = true ∧ q = i + 1) ∨ q ∈ xs
  | [], xs, hx, _ => ⟨xs, rfl, hx, fun q => by simp⟩
  | p :: ps, xs, hx, hp => by
    have hp0 := hp p (by simp)
    have hps : ∀ q ∈ ps, 0 ≤ q ∧ q ≤ (l.length : Int) := fun q hq => hp q (by simp [hq])
    rw [setL]
    by_cases c : p < (l.length : Int)
    · rw [if_pos c, if_pos hp0.1]
      by_cases c2 : hasM rl (rd l p) = true
      · rw [if_pos c2, wrap_id (by omega) (by omega)]
        obtain ⟨ys, e1, h1, h2⟩ := with_ok (p := p + 1) hl hk hx (by omega)
        obtain ⟨zs, e2, h3, h4⟩ := set_ok hk rl l hl ps ys h1 hps
        refine ⟨zs, by rw [e1, Option.bind_some, e2], h3, fun q => ?_⟩
        rw [h4, h2]
        constructor
        · rintro (⟨i, h, h'⟩ | h | h)
          · exact .inl ⟨i, by simp [h], h'⟩
          · exact .inl ⟨p, by simp, c, c2, h⟩
          · exact .inr h
        · rintro (⟨i, h, h'⟩ | h)
          · rcases List.mem_cons.1 h with rfl | h
            · exact .inr (.inl h'.2.2)
            · exact .inl ⟨i, h, h'⟩
          · exact .inr (.inr h)
      · rw [if_neg c2]
        obtain ⟨zs, e2, h3, h4⟩ := set_ok hk rl l hl ps xs hx hps
        refine ⟨zs, e2, h3, fun q => ?_⟩
        rw [h4]
        constructor
        · rintro (⟨i, h, h'⟩ | h)
          · exact .inl ⟨i, by simp [h], h'⟩
          · exact .inr h
        · rintro (⟨i, h, h'⟩ | h)
          · rcases List.mem_cons.1 h with rfl | h
            · exact absurd h'.2.1 c2
            · exact .inl ⟨i, h, h'⟩
          · exact .inr h
    · rw [if_neg c]
      obtain ⟨zs, e2, h3, h4⟩ := set_ok hk rl l hl ps xs hx hps
      refine ⟨zs, e2, h3, fun q => ?_⟩
      rw [h4]
      constructor
      · rintro (⟨i, h, h'⟩ | h)
        · exact .inl ⟨i, by simp [h], h'⟩
        · exact .inr h
      · rintro (⟨i, h, h'⟩ | h)
        · rcases List.mem_cons.1 h with rfl | h
          · exact absurd h'.1 c
          · exact .inl ⟨i, h, h'⟩
        · exact .inr h
theorem index_ok (xs : List Int) (p : Int) (hl : xs.length ≤ 500) (d : Nat) : ∀ (k i : Nat), i + d = xs.length → d < k → ∃ m : Int, slices_Index_deriv_set_int.l0 k xs p (xs.length : Int) (i : Int) = some m ∧ (0 ≤ m ↔ p ∈ xs.drop i) := by
  induction d with
  | zero =>
    intro k i hi hk
    obtain ⟨k, rfl⟩ : ∃ m, k = m + 1 := ⟨k - 1, by omega⟩
    refine ⟨-1, ?_, ?_⟩
    · unfold slices_Index_deriv_set_int.l0
      rw [if_neg (by omega)]
    · rw [List.drop_eq_nil_of_le (by omega)]
      simp
  | succ d ih =>
    intro k i hi hk
    obtain ⟨k, rfl⟩ : ∃ m, k = m + 1 := ⟨k - 1, by omega⟩
    rw [drop_cons xs i (by omega)]
    unfold slices_Index_deriv_set_int.l0
    rw [if_pos (by omega), if_pos (by omega), if_pos (by omega)]
    by_cases c : p = rd xs (i : Int)
    · exact ⟨i, by rw [if_pos c], by simp [c]⟩
    · obtain ⟨m, h1, h2⟩ := ih k (i + 1) (by omega) (by omega)
      refine ⟨m, by rw [if_neg c, wrap_succ i (by omega), h1], ?_⟩
      rw [h2, List.mem_cons]
      simp [c]
theorem contains_ok (k : Nat) (xs : List Int) (p : Int) (hl : xs.length ≤ 500) (hk : xs.length < k) : slices_Contains_deriv_set_int.f k xs p = some (decide (p ∈ xs)) := by
  obtain ⟨m, h1, h2⟩ := index_ok xs p hl xs.length k 0 (by omega) hk
  unfold slices_Contains_deriv_set_int.f
  rw [show slices_Index_deriv_set_int.f k xs p = some m from h1, Option.bind_some]
  rw [List.drop_zero] at h2
  rw [Option.some.injEq, decide_eq_decide]
  exact h2
theorem edge_ok {n k : Nat} (hn : n ≤ 64) (hk : 100 ≤ k) (e : Int) (he : 0 ≤ e ∧ e ≤ (n : Int)) : Lifts n (fun i j => i = e ∧ j = e) (edgeS k e) := by
  intro xs hx
  have hl := hx.len
  unfold edgeS
  rw [contains_ok k xs e (by omega) (by omega), Option.map_some]
  by_cases c : e ∈ xs
  · rw [if_pos (decide_eq_true c)]
    refine ⟨_, rfl, setOK_one he, fun j => ?_⟩
    rw [List.mem_singleton]
    exact ⟨fun h => ⟨e, c, rfl, h⟩, fun ⟨i, _, _, h⟩ => h⟩
  · rw [if_neg (by simp [c])]
    refine ⟨_, rfl, setOK_nil n, fun j => ?_⟩
    simp only [List.not_mem_nil, false_iff]
    rintro ⟨i, h, rfl, _⟩
    exact c h
theorem join_ok {n : Nat} (l : List Int) (f : DNode → List Int → Option (List Int)) : ∀ ys : List DNode, (∀ y ∈ ys, Lifts n (M l y) (f y)) → Lifts n (MJ l ys) (joinRS f ys)
  | [], _, xs, hx => ⟨xs, rfl, hx, fun j => by simp [MJ]⟩
  | y :: ys, h, xs, hx => by
    obtain ⟨r, e1, h1, h2⟩ := h y (by simp) xs hx
    obtain ⟨s, e2, h3, h4⟩ := join_ok l f ys (fun z hz => h z (by simp [hz])) r h1
    refine ⟨s, by rw [joinRS, e1, Option.bind_some, e2], h3, fun j => ?_⟩
    rw [h4]
    constructor
    · rintro ⟨t, ht, hm⟩
      obtain ⟨i, hi, hr⟩ := (h2 t).1 ht
      exact ⟨i, hi, by rw [MJ]; exact ⟨t, hr, hm⟩⟩
    · rintro ⟨i, hi, hm⟩
      rw [MJ] at hm
      obtain ⟨t, hr, hm⟩ := hm
      exact ⟨t, (h2 t).2 ⟨i, hi, hr⟩, hm⟩
theorem or_ok {n k : Nat} (hn : n ≤ 64) (hk : 100 ≤ k) (l : List Int) (at_ : List Int) (f : DNode → Option (List Int)) : ∀ (ys : List DNode) (xs : List Int), (∀ y ∈ ys, ∃ r, f y = some r ∧ SetOK n r ∧ ∀ j, j ∈ r ↔ Img (M l y) at_ j) → SetOK n xs →
    ∃ r, orRS k f ys xs = some r ∧ SetOK n r ∧ ∀ j, j ∈ r ↔ Img (MO l ys) at_ j ∨ j ∈ xs
  | [], xs, _, hx => ⟨xs, rfl, hx, fun j => by simp [MO]⟩
  | y :: ys, xs, h, hx => by
    obtain ⟨r, e1, h1, h2⟩ := h y (by simp)
    obtain ⟨t, e2, h3, h4⟩ := withs_ok hn hk r hx h1.rng
    obtain ⟨s, e3, h5, h6⟩ := or_ok hn hk l at_ f ys t (fun z hz => h z (by simp [hz])) h3
    refine ⟨s, by rw [orRS, e1, Option.bind_some, e2, Option.bind_some, e3], h5, fun j => ?_⟩
    rw [h6, h4, h2]
    constructor
    · rintro (⟨i, hi, hm⟩ | ⟨i, hi, hm⟩ | hm)
      · exact .inl ⟨i, hi, by rw [MO]; exact .inr hm⟩
      · exact .inl ⟨i, hi, by rw [MO]; exact .inl hm⟩
      · exact .inr hm
    · rintro (⟨i, hi, hm⟩ | hm)
      · rw [MO] at hm
        rcases hm with hm | hm
        · exact .inr (.inl ⟨i, hi, hm⟩)
        · exact .inl ⟨i, hi, hm⟩
      · exact .inr (.inr hm)
end Go.Proofs.Ytaphbechnjmlgaa.P
