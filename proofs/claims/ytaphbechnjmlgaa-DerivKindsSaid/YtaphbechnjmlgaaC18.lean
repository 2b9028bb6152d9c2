/- Texts of this claim put together by a program of its own (SKinds, PLib, PEv, PTree, PMat, PReach, PMore, PShift, PInts, POpenN, PWf), what the law does not use left out: each part's statements bear their own conditions. -/
import Derived.Test.YtaphbechnjmlgaaC17
import Derived.Test.YtaphbechnjmlgaaC11
import Derived.Test.YtaphbechnjmlgaaC16
import Derived.Test.YtaphbechnjmlgaaC15
import Derived.OpenShut
import Derived.Deep.Slices
import Derived.ChangeSlices
import Derived.SizedLaws
namespace Go.Proofs.Ytaphbechnjmlgaa.P
open Go.RowKit Go.Proofs.YtaphbechnjmlgaaW.PrintWords Go.Proofs.YtaphbechnjmlgaaW.PrintLast Go.Proofs.YtaphbechnjmlgaaW.PrintMore
set_option linter.unusedVariables false
set_option linter.unusedSimpArgs false

def orX (x y : DNode) : DNode := ⟨4, [], 0, 0, [x, y]⟩
def joinX (x y : DNode) : DNode := ⟨3, [], 0, 0, [x, y]⟩
def emptyX : DNode := ⟨1, [], 0, 0, []⟩
def repX (lo hi : Int) (x : DNode) : DNode := ⟨5, [], lo, hi, [x]⟩
/-- What the parts of the law answer. -/
structure KindsOk (k : Nat) (x : DNode) (l : List Int) (sm : Bool) (S : Int) (e t : List Int) : Prop where
  hsm : ductuslaw18_small.f k x.f0 x.f1 x.f2 x.f3 x.f4 l = some sm
  hs : ductusref16_Size.f k x.f0 x.f1 x.f2 x.f3 x.f4 = some S
  main : sm = true → S ≤ 1000 → endsS k x l 0 = some e ∧ endsS k (orX x x) l 0 = some e ∧ endsS k (joinX x emptyX) l 0 = some e ∧ endsS k (repX 1 1 x) l 0 = some e ∧ endsS k (repX 0 0 x) l 0 = some [0] ∧ endsS k (repX 1 (-1) x) l 0 = some t ∧ endsS k (joinX x (repX 0 (-1) x)) l 0 = some t ∧
    ductusref01_Ints.f k e e = some true ∧ ductusref01_Ints.f k [0] [0] = some true ∧ ductusref01_Ints.f k t t = some true
set_option maxHeartbeats 8000000 in
set_option maxRecDepth 100000 in
theorem kinds_calls (k : Nat) (x0 : Int) (A1 : Option Addr) (c1 : Nat) (x1 : List S52) (x2 x3 : Int) (A4 : Option Addr) (c4 : Nat) (x4 : List DNode) (A : Option Addr) (c : Nat) (l : List Int) (w : World)
    (hx1 : Kd.C k52 w A1 x1.length x1) (hc1 : x1.length ≤ c1) (hx4 : Kd.C k25 w A4 x4.length x4) (hc4 : x4.length ≤ c4) (hl : Kd.C (Kd.int .i64) w A l.length l) (hc : l.length ≤ c)
    (sm : Bool) (S : Int) (e t : List Int) (h : KindsOk k ⟨x0, x1, x2, x3, x4⟩ l sm S e t) :
    Calls Try.prog 4 #[.agg #[.int .i64 x0, .slice A1 x1.length c1, .int .i64 x2, .int .i64 x3, .slice A4 x4.length c4], .slice A l.length c] w fun e w' => e = .returned (.bool true) ∧ Below w.heap.size w w' := by
  have hu := Try.underlying25
  have HX1 := Aside0.mk hx1
  have HX4 := Aside0.mk hx4
  have HL0 := Aside0.mk hl
  have HLN := Aside0.mk (show x1.length ≤ c1 ∧ x4.length ≤ c4 ∧ l.length ≤ c from ⟨hc1, hc4, hc⟩)
  have HOK := Aside0.mk h
  have HB := Aside0.mk (Below.refl w.heap.size w)
  clear hx1 hx4 hc1 hc4 hl hc h
  go_enter Try.func4, Try.ntmps4
  go_upto_region 3 with (first
    | ((with_reducible refine gate_dst (N := 2) rfl ?_); (try (refine gate_guard (by rfl) ?_; dsimp only)); refine box_event ?hg (N := 2) ?hd (cs := #[.int .i64 x0, .slice A1 x1.length c1, .int .i64 x2, .int .i64 x3, .slice A4 x4.length c4]) (t := 25) ?hr ?_; (case hd => rfl); (case hg => rfl); (case hr => first | (go_simp; done) | (go_simp; rfl)); intro gx hg w1 hbox hb; have HB1 := Aside0.mk (below_step HB.out hb); have HBX := Aside0.mk (show BoxN w1 gx ⟨x0, x1, x2, x3, x4⟩ #[.int .i64 x0, .slice A1 x1.length c1, .int .i64 x2, .int .i64 x3, .slice A4 x4.length c4] from ⟨hbox, A1, c1, A4, c4, rfl, HLN.out.1, Kd.C_below HX1.out HB1.out, HLN.out.2.1, Kd.C_below HX4.out HB1.out⟩); have HL := Aside0.mk (Kd.C_below HL0.out HB1.out); clear hb hbox hg HX1 HX4 HL0 HB)
    | (go_at_call 7; (with_reducible refine (ductuslaw18_alive.calls true _ rfl).mono ?_); rintro e w3 ⟨rfl, hb⟩; have HB2 := Aside0.mk (below_step HB1.out hb); have HX2 := Aside0.mk (HBX.out.below hb); have HL2 := Aside0.mk (Kd.C_below HL.out hb); clear hb HB1 HBX HL))
  (try simp only [Act.put, List.setIfInBounds_toArray, List.set_cons_zero, List.set_cons_succ])
  go_cut [23] (fun v23 wc => ∃ sk : Bool, v23 = .bool sk ∧ Aside0 (sk = false → sm = true ∧ S ≤ 1000) ∧ Aside0 (Below w.heap.size w wc) ∧ Aside0 (BoxN wc gx ⟨x0, x1, x2, x3, x4⟩ #[.int .i64 x0, .slice A1 x1.length c1, .int .i64 x2, .int .i64 x3, .slice A4 x4.length c4]) ∧ Aside0 (Kd.C (Kd.int .i64) wc A l.length l))
  case first =>
    have z0 := blk_cell HX2.out.blk 0; have z1 := blk_cell HX2.out.blk 1; have z2 := blk_cell HX2.out.blk 2; have z3 := blk_cell HX2.out.blk 3; have z4 := blk_cell HX2.out.blk 4
    cases sm with
    | false =>
      go_wp2_with (go_at_call 8; (with_reducible refine (small_node k HX2.out.at_ HL2.out HLN.out.2.2 HOK.out.hsm).mono ?_); rintro e w4 ⟨rfl, hb⟩; have HB4 := Aside0.mk (below_step HB2.out hb); have HX4 := Aside0.mk (HX2.out.below hb); have HL4 := Aside0.mk (Kd.C_below HL2.out hb); have y0 := blk_cell HX4.out.blk 0; have y1 := blk_cell HX4.out.blk 1; have y2 := blk_cell HX4.out.blk 2; have y3 := blk_cell HX4.out.blk 3; have y4 := blk_cell HX4.out.blk 4; clear hb)
      go_meet
      case rel => exact ⟨true, (by first | rfl | (simp [*]; done)), ⟨fun h => by cases h⟩, HB4, HX4, HL4⟩
    | true =>
      by_cases k0 : S > 1000
      · have e0 : decide (1000 < S) = true := decide_eq_true k0
        go_wp2_with (first
          | (go_at_call 8; (with_reducible refine (small_node k HX2.out.at_ HL2.out HLN.out.2.2 HOK.out.hsm).mono ?_); rintro e w4 ⟨rfl, hb⟩; have HB4 := Aside0.mk (below_step HB2.out hb); have HX4 := Aside0.mk (HX2.out.below hb); have HL4 := Aside0.mk (Kd.C_below HL2.out hb); have y0 := blk_cell HX4.out.blk 0; have y1 := blk_cell HX4.out.blk 1; have y2 := blk_cell HX4.out.blk 2; have y3 := blk_cell HX4.out.blk 3; have y4 := blk_cell HX4.out.blk 4; clear hb)
          | ((with_reducible refine gate_callee (f := 11) rfl ?_); (try (refine gate_guard (by rfl) ?_; dsimp only)); refine goesL_ (some 21) rfl rfl Try.func11 (by kernel_rfl) rfl #[.agg #[.int .i64 x0, .slice A1 x1.length c1, .int .i64 x2, .int .i64 x3, .slice A4 x4.length c4]] rfl (by (try simp only [List.map_toArray, List.map_cons, List.map_nil]); first | done | rfl) ?_; (refine (size_node k HX4.out.at_ HOK.out.hs).mono ?_); rintro e w5 ⟨rfl, hb⟩; refine ⟨_, rfl, ?_⟩; have HB5 := Aside0.mk (below_step HB4.out hb); have HX5 := Aside0.mk (HX4.out.below hb); have HL5 := Aside0.mk (Kd.C_below HL4.out hb); clear hb))
        go_meet
        case rel => exact ⟨true, (by first | rfl | (simp [*]; done)), ⟨fun h => by cases h⟩, HB5, HX5, HL5⟩
      · have e0 : decide (1000 < S) = false := decide_eq_false k0
        go_wp2_with (first
          | (go_at_call 8; (with_reducible refine (small_node k HX2.out.at_ HL2.out HLN.out.2.2 HOK.out.hsm).mono ?_); rintro e w4 ⟨rfl, hb⟩; have HB4 := Aside0.mk (below_step HB2.out hb); have HX4 := Aside0.mk (HX2.out.below hb); have HL4 := Aside0.mk (Kd.C_below HL2.out hb); have y0 := blk_cell HX4.out.blk 0; have y1 := blk_cell HX4.out.blk 1; have y2 := blk_cell HX4.out.blk 2; have y3 := blk_cell HX4.out.blk 3; have y4 := blk_cell HX4.out.blk 4; clear hb)
          | ((with_reducible refine gate_callee (f := 11) rfl ?_); (try (refine gate_guard (by rfl) ?_; dsimp only)); refine goesL_ (some 21) rfl rfl Try.func11 (by kernel_rfl) rfl #[.agg #[.int .i64 x0, .slice A1 x1.length c1, .int .i64 x2, .int .i64 x3, .slice A4 x4.length c4]] rfl (by (try simp only [List.map_toArray, List.map_cons, List.map_nil]); first | done | rfl) ?_; (refine (size_node k HX4.out.at_ HOK.out.hs).mono ?_); rintro e w5 ⟨rfl, hb⟩; refine ⟨_, rfl, ?_⟩; have HB5 := Aside0.mk (below_step HB4.out hb); have HX5 := Aside0.mk (HX4.out.below hb); have HL5 := Aside0.mk (Kd.C_below HL4.out hb); clear hb))
        go_meet
        case rel => exact ⟨false, (by first | rfl | (simp [*]; done)), ⟨fun h => (by first | exact ⟨rfl, by omega⟩ | exact ⟨trivial, by omega⟩)⟩, HB5, HX5, HL5⟩
  case rest =>
    clear HB2 HX2 HL2
    obtain ⟨sk, rfl, HSK, HB5, HX5, HL5⟩ := hcut
    cases sk with
    | true =>
      go_wp2
      go_ret
      exact ⟨rfl, HB5.out⟩
    | false =>
      obtain ⟨m1, m2⟩ := HSK.out rfl
      obtain ⟨q1, q2, q3, q4, q5, q6, q7, q8, q9, q10⟩ := HOK.out.main m1 m2
      have Q1 := Aside0.mk q1
      have Q2 := Aside0.mk q2
      have Q3 := Aside0.mk q3
      have Q4 := Aside0.mk q4
      have Q5 := Aside0.mk q5
      have Q6 := Aside0.mk q6
      have Q7 := Aside0.mk q7
      have Q8 := Aside0.mk q8
      have Q9 := Aside0.mk q9
      have Q10 := Aside0.mk q10
      clear q1 q2 q3 q4 q5 q6 q7 q8 q9 q10 m1 m2 HSK HOK
      have z0 := blk_cell HX5.out.blk 0; have z1 := blk_cell HX5.out.blk 1; have z2 := blk_cell HX5.out.blk 2; have z3 := blk_cell HX5.out.blk 3; have z4 := blk_cell HX5.out.blk 4
      go_upto_region 6 with ((with_reducible refine gate_callee (f := 14) rfl ?_); (try (refine gate_guard (by rfl) ?_; dsimp only)); refine goesL_ (some 26) rfl rfl Try.func14 (by kernel_rfl) rfl #[.agg #[.int .i64 x0, .slice A1 x1.length c1, .int .i64 x2, .int .i64 x3, .slice A4 x4.length c4], .slice A l.length c, .int .i64 0] rfl (by (try simp only [List.map_toArray, List.map_cons, List.map_nil]); first | done | rfl) ?_; refine (ends_node k HX5.out.at_ 0 HL5.out HLN.out.2.2 Q1.out).mono ?_; rintro e_ w6 ⟨S0, s0, rfl, hC, hs0, hb⟩; refine ⟨_, rfl, ?_⟩; have HB6 := Aside0.mk (below_step HB5.out hb); have HX6 := Aside0.mk (HX5.out.below hb); have HL6 := Aside0.mk (Kd.C_below HL5.out hb); have HE6 := Aside0.mk hC; have HS0 := Aside0.mk hs0; clear hb hC hs0)
      (try simp only [Act.put, List.setIfInBounds_toArray, List.set_cons_zero, List.set_cons_succ])
      clear z0 z1 z2 z3 z4 HB5 HX5 HL5
      have z0 := blk_cell HX6.out.blk 0; have z1 := blk_cell HX6.out.blk 1; have z2 := blk_cell HX6.out.blk 2; have z3 := blk_cell HX6.out.blk 3; have z4 := blk_cell HX6.out.blk 4
      go_upto_region 7 with (fail)
      clear z0 z1 z2 z3 z4
      have hq : BoxN ((w6.alloc (.cells #[.int .i64 x0, .slice A1 x1.length c1, .int .i64 x2, .int .i64 x3, .slice A4 x4.length c4, .int .i64 x0, .slice A1 x1.length c1, .int .i64 x2, .int .i64 x3, .slice A4 x4.length c4] 25)).alloc (.cells #[.int .i64 4, .slice none 0 0, .int .i64 0, .int .i64 0, .slice (some ⟨w6.heap.size, 0, none⟩) 2 2] 25)) (w6.heap.size + 1) (orX ⟨x0, x1, x2, x3, x4⟩ ⟨x0, x1, x2, x3, x4⟩) #[.int .i64 4, .slice none 0 0, .int .i64 0, .int .i64 0, .slice (some ⟨w6.heap.size, 0, none⟩) 2 2] ∧ Below w6.heap.size w6 ((w6.alloc (.cells #[.int .i64 x0, .slice A1 x1.length c1, .int .i64 x2, .int .i64 x3, .slice A4 x4.length c4, .int .i64 x0, .slice A1 x1.length c1, .int .i64 x2, .int .i64 x3, .slice A4 x4.length c4] 25)).alloc (.cells #[.int .i64 4, .slice none 0 0, .int .i64 0, .int .i64 0, .slice (some ⟨w6.heap.size, 0, none⟩) 2 2] 25)) := lit_two (w := w6) (cx := [.int .i64 x0, .slice A1 x1.length c1, .int .i64 x2, .int .i64 x3, .slice A4 x4.length c4]) (cy := [.int .i64 x0, .slice A1 x1.length c1, .int .i64 x2, .int .i64 x3, .slice A4 x4.length c4]) HX6.out.at_ HX6.out.at_ 4 0 0
      have HV6 := Aside0.mk hq.1
      have hb := hq.2
      have HB7 := Aside0.mk (below_step HB6.out hb)
      have HX7 := Aside0.mk (HX6.out.below hb)
      have HL7 := Aside0.mk (Kd.C_below HL6.out hb)
      have HE7 := Aside0.mk (Kd.C_below HE6.out hb)
      clear hq hb HB6 HX6 HL6 HE6
      generalize ((w6.alloc (.cells #[.int .i64 x0, .slice A1 x1.length c1, .int .i64 x2, .int .i64 x3, .slice A4 x4.length c4, .int .i64 x0, .slice A1 x1.length c1, .int .i64 x2, .int .i64 x3, .slice A4 x4.length c4] 25)).alloc (.cells #[.int .i64 4, .slice none 0 0, .int .i64 0, .int .i64 0, .slice (some ⟨w6.heap.size, 0, none⟩) 2 2] 25)) = w7 at HV6 HB7 HX7 HL7 HE7 ⊢
      obtain ⟨g6, hg⟩ : ∃ g, w6.heap.size + 1 = g := ⟨_, rfl⟩
      rw [hg] at HV6 ⊢
      generalize w6.heap.size = b6 at HV6 hg ⊢
      clear hg
      have z0 := blk_cell HX7.out.blk 0; have z1 := blk_cell HX7.out.blk 1; have z2 := blk_cell HX7.out.blk 2; have z3 := blk_cell HX7.out.blk 3; have z4 := blk_cell HX7.out.blk 4
      go_upto_region 8 with (fail)
      clear z0 z1 z2 z3 z4
      have hq : BoxN ((w7.alloc (.cells #[.int .i64 x0, .slice A1 x1.length c1, .int .i64 x2, .int .i64 x3, .slice A4 x4.length c4, .int .i64 1, .slice none 0 0, .int .i64 0, .int .i64 0, .slice none 0 0] 25)).alloc (.cells #[.int .i64 3, .slice none 0 0, .int .i64 0, .int .i64 0, .slice (some ⟨w7.heap.size, 0, none⟩) 2 2] 25)) (w7.heap.size + 1) (joinX ⟨x0, x1, x2, x3, x4⟩ emptyX) #[.int .i64 3, .slice none 0 0, .int .i64 0, .int .i64 0, .slice (some ⟨w7.heap.size, 0, none⟩) 2 2] ∧ Below w7.heap.size w7 ((w7.alloc (.cells #[.int .i64 x0, .slice A1 x1.length c1, .int .i64 x2, .int .i64 x3, .slice A4 x4.length c4, .int .i64 1, .slice none 0 0, .int .i64 0, .int .i64 0, .slice none 0 0] 25)).alloc (.cells #[.int .i64 3, .slice none 0 0, .int .i64 0, .int .i64 0, .slice (some ⟨w7.heap.size, 0, none⟩) 2 2] 25)) := lit_two (w := w7) (cx := [.int .i64 x0, .slice A1 x1.length c1, .int .i64 x2, .int .i64 x3, .slice A4 x4.length c4]) (cy := [.int .i64 1, .slice none 0 0, .int .i64 0, .int .i64 0, .slice none 0 0]) HX7.out.at_ (lit_empty w7) 3 0 0
      have HV7 := Aside0.mk hq.1
      have hb := hq.2
      have HV6' := Aside0.mk (HV6.out.below hb)
      clear HV6
      have HV6 := HV6'
      clear HV6'
      have HB8 := Aside0.mk (below_step HB7.out hb)
      have HX8 := Aside0.mk (HX7.out.below hb)
      have HL8 := Aside0.mk (Kd.C_below HL7.out hb)
      have HE8 := Aside0.mk (Kd.C_below HE7.out hb)
      clear hq hb HB7 HX7 HL7 HE7
      generalize ((w7.alloc (.cells #[.int .i64 x0, .slice A1 x1.length c1, .int .i64 x2, .int .i64 x3, .slice A4 x4.length c4, .int .i64 1, .slice none 0 0, .int .i64 0, .int .i64 0, .slice none 0 0] 25)).alloc (.cells #[.int .i64 3, .slice none 0 0, .int .i64 0, .int .i64 0, .slice (some ⟨w7.heap.size, 0, none⟩) 2 2] 25)) = w8 at HV6 HV7 HB8 HX8 HL8 HE8 ⊢
      obtain ⟨g7, hg⟩ : ∃ g, w7.heap.size + 1 = g := ⟨_, rfl⟩
      rw [hg] at HV7 ⊢
      generalize w7.heap.size = b7 at HV7 hg ⊢
      clear hg
      have z0 := blk_cell HX8.out.blk 0; have z1 := blk_cell HX8.out.blk 1; have z2 := blk_cell HX8.out.blk 2; have z3 := blk_cell HX8.out.blk 3; have z4 := blk_cell HX8.out.blk 4
      go_upto_region 9 with (fail)
      clear z0 z1 z2 z3 z4
      have hq : BoxN ((w8.alloc (.cells #[.int .i64 x0, .slice A1 x1.length c1, .int .i64 x2, .int .i64 x3, .slice A4 x4.length c4] 25)).alloc (.cells #[.int .i64 5, .slice none 0 0, .int .i64 1, .int .i64 1, .slice (some ⟨w8.heap.size, 0, none⟩) 1 1] 25)) (w8.heap.size + 1) (repX 1 1 ⟨x0, x1, x2, x3, x4⟩) #[.int .i64 5, .slice none 0 0, .int .i64 1, .int .i64 1, .slice (some ⟨w8.heap.size, 0, none⟩) 1 1] ∧ Below w8.heap.size w8 ((w8.alloc (.cells #[.int .i64 x0, .slice A1 x1.length c1, .int .i64 x2, .int .i64 x3, .slice A4 x4.length c4] 25)).alloc (.cells #[.int .i64 5, .slice none 0 0, .int .i64 1, .int .i64 1, .slice (some ⟨w8.heap.size, 0, none⟩) 1 1] 25)) := lit_one (w := w8) (cx := [.int .i64 x0, .slice A1 x1.length c1, .int .i64 x2, .int .i64 x3, .slice A4 x4.length c4]) HX8.out.at_ 5 1 1
      have HV8 := Aside0.mk hq.1
      have hb := hq.2
      have HV6' := Aside0.mk (HV6.out.below hb)
      clear HV6
      have HV6 := HV6'
      clear HV6'
      have HV7' := Aside0.mk (HV7.out.below hb)
      clear HV7
      have HV7 := HV7'
      clear HV7'
      have HB9 := Aside0.mk (below_step HB8.out hb)
      have HX9 := Aside0.mk (HX8.out.below hb)
      have HL9 := Aside0.mk (Kd.C_below HL8.out hb)
      have HE9 := Aside0.mk (Kd.C_below HE8.out hb)
      clear hq hb HB8 HX8 HL8 HE8
      generalize ((w8.alloc (.cells #[.int .i64 x0, .slice A1 x1.length c1, .int .i64 x2, .int .i64 x3, .slice A4 x4.length c4] 25)).alloc (.cells #[.int .i64 5, .slice none 0 0, .int .i64 1, .int .i64 1, .slice (some ⟨w8.heap.size, 0, none⟩) 1 1] 25)) = w9 at HV6 HV7 HV8 HB9 HX9 HL9 HE9 ⊢
      obtain ⟨g8, hg⟩ : ∃ g, w8.heap.size + 1 = g := ⟨_, rfl⟩
      rw [hg] at HV8 ⊢
      generalize w8.heap.size = b8 at HV8 hg ⊢
      clear hg
      have z0 := blk_cell HX9.out.blk 0; have z1 := blk_cell HX9.out.blk 1; have z2 := blk_cell HX9.out.blk 2; have z3 := blk_cell HX9.out.blk 3; have z4 := blk_cell HX9.out.blk 4
      go_upto_region 10 with (fail)
      clear z0 z1 z2 z3 z4
      have hq : BoxN ((w9.alloc (.cells #[.int .i64 x0, .slice A1 x1.length c1, .int .i64 x2, .int .i64 x3, .slice A4 x4.length c4] 25)).alloc (.cells #[.int .i64 5, .slice none 0 0, .int .i64 0, .int .i64 0, .slice (some ⟨w9.heap.size, 0, none⟩) 1 1] 25)) (w9.heap.size + 1) (repX 0 0 ⟨x0, x1, x2, x3, x4⟩) #[.int .i64 5, .slice none 0 0, .int .i64 0, .int .i64 0, .slice (some ⟨w9.heap.size, 0, none⟩) 1 1] ∧ Below w9.heap.size w9 ((w9.alloc (.cells #[.int .i64 x0, .slice A1 x1.length c1, .int .i64 x2, .int .i64 x3, .slice A4 x4.length c4] 25)).alloc (.cells #[.int .i64 5, .slice none 0 0, .int .i64 0, .int .i64 0, .slice (some ⟨w9.heap.size, 0, none⟩) 1 1] 25)) := lit_one (w := w9) (cx := [.int .i64 x0, .slice A1 x1.length c1, .int .i64 x2, .int .i64 x3, .slice A4 x4.length c4]) HX9.out.at_ 5 0 0
      have HV9 := Aside0.mk hq.1
      have hb := hq.2
      have HV6' := Aside0.mk (HV6.out.below hb)
      clear HV6
      have HV6 := HV6'
      clear HV6'
      have HV7' := Aside0.mk (HV7.out.below hb)
      clear HV7
      have HV7 := HV7'
      clear HV7'
      have HV8' := Aside0.mk (HV8.out.below hb)
      clear HV8
      have HV8 := HV8'
      clear HV8'
      have HB10 := Aside0.mk (below_step HB9.out hb)
      have HX10 := Aside0.mk (HX9.out.below hb)
      have HL10 := Aside0.mk (Kd.C_below HL9.out hb)
      have HE10 := Aside0.mk (Kd.C_below HE9.out hb)
      clear hq hb HB9 HX9 HL9 HE9
      generalize ((w9.alloc (.cells #[.int .i64 x0, .slice A1 x1.length c1, .int .i64 x2, .int .i64 x3, .slice A4 x4.length c4] 25)).alloc (.cells #[.int .i64 5, .slice none 0 0, .int .i64 0, .int .i64 0, .slice (some ⟨w9.heap.size, 0, none⟩) 1 1] 25)) = w10 at HV6 HV7 HV8 HV9 HB10 HX10 HL10 HE10 ⊢
      obtain ⟨g9, hg⟩ : ∃ g, w9.heap.size + 1 = g := ⟨_, rfl⟩
      rw [hg] at HV9 ⊢
      generalize w9.heap.size = b9 at HV9 hg ⊢
      clear hg
      have z0 := blk_cell HX10.out.blk 0; have z1 := blk_cell HX10.out.blk 1; have z2 := blk_cell HX10.out.blk 2; have z3 := blk_cell HX10.out.blk 3; have z4 := blk_cell HX10.out.blk 4
      go_upto_region 11 with (fail)
      clear z0 z1 z2 z3 z4
      have hq : BoxN ((w10.alloc (.cells #[.int .i64 x0, .slice A1 x1.length c1, .int .i64 x2, .int .i64 x3, .slice A4 x4.length c4] 25)).alloc (.cells #[.int .i64 5, .slice none 0 0, .int .i64 1, .int .i64 (-1), .slice (some ⟨w10.heap.size, 0, none⟩) 1 1] 25)) (w10.heap.size + 1) (repX 1 (-1) ⟨x0, x1, x2, x3, x4⟩) #[.int .i64 5, .slice none 0 0, .int .i64 1, .int .i64 (-1), .slice (some ⟨w10.heap.size, 0, none⟩) 1 1] ∧ Below w10.heap.size w10 ((w10.alloc (.cells #[.int .i64 x0, .slice A1 x1.length c1, .int .i64 x2, .int .i64 x3, .slice A4 x4.length c4] 25)).alloc (.cells #[.int .i64 5, .slice none 0 0, .int .i64 1, .int .i64 (-1), .slice (some ⟨w10.heap.size, 0, none⟩) 1 1] 25)) := lit_one (w := w10) (cx := [.int .i64 x0, .slice A1 x1.length c1, .int .i64 x2, .int .i64 x3, .slice A4 x4.length c4]) HX10.out.at_ 5 1 (-1)
      have HV10 := Aside0.mk hq.1
      have hb := hq.2
      have HV6' := Aside0.mk (HV6.out.below hb)
      clear HV6
      have HV6 := HV6'
      clear HV6'
      have HV7' := Aside0.mk (HV7.out.below hb)
      clear HV7
      have HV7 := HV7'
      clear HV7'
      have HV8' := Aside0.mk (HV8.out.below hb)
      clear HV8
      have HV8 := HV8'
      clear HV8'
      have HV9' := Aside0.mk (HV9.out.below hb)
      clear HV9
      have HV9 := HV9'
      clear HV9'
      have HB11 := Aside0.mk (below_step HB10.out hb)
      have HX11 := Aside0.mk (HX10.out.below hb)
      have HL11 := Aside0.mk (Kd.C_below HL10.out hb)
      have HE11 := Aside0.mk (Kd.C_below HE10.out hb)
      clear hq hb HB10 HX10 HL10 HE10
      generalize ((w10.alloc (.cells #[.int .i64 x0, .slice A1 x1.length c1, .int .i64 x2, .int .i64 x3, .slice A4 x4.length c4] 25)).alloc (.cells #[.int .i64 5, .slice none 0 0, .int .i64 1, .int .i64 (-1), .slice (some ⟨w10.heap.size, 0, none⟩) 1 1] 25)) = w11 at HV6 HV7 HV8 HV9 HV10 HB11 HX11 HL11 HE11 ⊢
      obtain ⟨g10, hg⟩ : ∃ g, w10.heap.size + 1 = g := ⟨_, rfl⟩
      rw [hg] at HV10 ⊢
      generalize w10.heap.size = b10 at HV10 hg ⊢
      clear hg
      have z0 := blk_cell HX11.out.blk 0; have z1 := blk_cell HX11.out.blk 1; have z2 := blk_cell HX11.out.blk 2; have z3 := blk_cell HX11.out.blk 3; have z4 := blk_cell HX11.out.blk 4
      go_upto_region 12 with (fail)
      clear z0 z1 z2 z3 z4
      have hq : BoxN ((w11.alloc (.cells #[.int .i64 x0, .slice A1 x1.length c1, .int .i64 x2, .int .i64 x3, .slice A4 x4.length c4] 25)).alloc (.cells #[.int .i64 5, .slice none 0 0, .int .i64 0, .int .i64 (-1), .slice (some ⟨w11.heap.size, 0, none⟩) 1 1] 25)) (w11.heap.size + 1) (repX 0 (-1) ⟨x0, x1, x2, x3, x4⟩) #[.int .i64 5, .slice none 0 0, .int .i64 0, .int .i64 (-1), .slice (some ⟨w11.heap.size, 0, none⟩) 1 1] ∧ Below w11.heap.size w11 ((w11.alloc (.cells #[.int .i64 x0, .slice A1 x1.length c1, .int .i64 x2, .int .i64 x3, .slice A4 x4.length c4] 25)).alloc (.cells #[.int .i64 5, .slice none 0 0, .int .i64 0, .int .i64 (-1), .slice (some ⟨w11.heap.size, 0, none⟩) 1 1] 25)) := lit_one (w := w11) (cx := [.int .i64 x0, .slice A1 x1.length c1, .int .i64 x2, .int .i64 x3, .slice A4 x4.length c4]) HX11.out.at_ 5 0 (-1)
      have HV11 := Aside0.mk hq.1
      have hb := hq.2
      have HV6' := Aside0.mk (HV6.out.below hb)
      clear HV6
      have HV6 := HV6'
      clear HV6'
      have HV7' := Aside0.mk (HV7.out.below hb)
      clear HV7
      have HV7 := HV7'
      clear HV7'
      have HV8' := Aside0.mk (HV8.out.below hb)
      clear HV8
      have HV8 := HV8'
      clear HV8'
      have HV9' := Aside0.mk (HV9.out.below hb)
      clear HV9
      have HV9 := HV9'
      clear HV9'
      have HV10' := Aside0.mk (HV10.out.below hb)
      clear HV10
      have HV10 := HV10'
      clear HV10'
      have HB12 := Aside0.mk (below_step HB11.out hb)
      have HX12 := Aside0.mk (HX11.out.below hb)
      have HL12 := Aside0.mk (Kd.C_below HL11.out hb)
      have HE12 := Aside0.mk (Kd.C_below HE11.out hb)
      clear hq hb HB11 HX11 HL11 HE11
      generalize ((w11.alloc (.cells #[.int .i64 x0, .slice A1 x1.length c1, .int .i64 x2, .int .i64 x3, .slice A4 x4.length c4] 25)).alloc (.cells #[.int .i64 5, .slice none 0 0, .int .i64 0, .int .i64 (-1), .slice (some ⟨w11.heap.size, 0, none⟩) 1 1] 25)) = w12 at HV6 HV7 HV8 HV9 HV10 HV11 HB12 HX12 HL12 HE12 ⊢
      obtain ⟨g11, hg⟩ : ∃ g, w11.heap.size + 1 = g := ⟨_, rfl⟩
      rw [hg] at HV11 ⊢
      generalize w11.heap.size = b11 at HV11 hg ⊢
      clear hg
      have z0 := blk_cell HX12.out.blk 0; have z1 := blk_cell HX12.out.blk 1; have z2 := blk_cell HX12.out.blk 2; have z3 := blk_cell HX12.out.blk 3; have z4 := blk_cell HX12.out.blk 4
      have v0 := blk_cell HV11.out.blk 0; have v1 := blk_cell HV11.out.blk 1; have v2 := blk_cell HV11.out.blk 2; have v3 := blk_cell HV11.out.blk 3; have v4 := blk_cell HV11.out.blk 4
      go_upto_region 13 with (fail)
      clear z0 z1 z2 z3 z4 v0 v1 v2 v3 v4
      have hq : BoxN ((w12.alloc (.cells #[.int .i64 x0, .slice A1 x1.length c1, .int .i64 x2, .int .i64 x3, .slice A4 x4.length c4, .int .i64 5, .slice none 0 0, .int .i64 0, .int .i64 (-1), .slice (some ⟨b11, 0, none⟩) 1 1] 25)).alloc (.cells #[.int .i64 3, .slice none 0 0, .int .i64 0, .int .i64 0, .slice (some ⟨w12.heap.size, 0, none⟩) 2 2] 25)) (w12.heap.size + 1) (joinX ⟨x0, x1, x2, x3, x4⟩ (repX 0 (-1) ⟨x0, x1, x2, x3, x4⟩)) #[.int .i64 3, .slice none 0 0, .int .i64 0, .int .i64 0, .slice (some ⟨w12.heap.size, 0, none⟩) 2 2] ∧ Below w12.heap.size w12 ((w12.alloc (.cells #[.int .i64 x0, .slice A1 x1.length c1, .int .i64 x2, .int .i64 x3, .slice A4 x4.length c4, .int .i64 5, .slice none 0 0, .int .i64 0, .int .i64 (-1), .slice (some ⟨b11, 0, none⟩) 1 1] 25)).alloc (.cells #[.int .i64 3, .slice none 0 0, .int .i64 0, .int .i64 0, .slice (some ⟨w12.heap.size, 0, none⟩) 2 2] 25)) := lit_two (w := w12) (cx := [.int .i64 x0, .slice A1 x1.length c1, .int .i64 x2, .int .i64 x3, .slice A4 x4.length c4]) (cy := [.int .i64 5, .slice none 0 0, .int .i64 0, .int .i64 (-1), .slice (some ⟨b11, 0, none⟩) 1 1]) HX12.out.at_ HV11.out.at_ 3 0 0
      have HV12 := Aside0.mk hq.1
      have hb := hq.2
      have HV6' := Aside0.mk (HV6.out.below hb)
      clear HV6
      have HV6 := HV6'
      clear HV6'
      have HV7' := Aside0.mk (HV7.out.below hb)
      clear HV7
      have HV7 := HV7'
      clear HV7'
      have HV8' := Aside0.mk (HV8.out.below hb)
      clear HV8
      have HV8 := HV8'
      clear HV8'
      have HV9' := Aside0.mk (HV9.out.below hb)
      clear HV9
      have HV9 := HV9'
      clear HV9'
      have HV10' := Aside0.mk (HV10.out.below hb)
      clear HV10
      have HV10 := HV10'
      clear HV10'
      have HV11' := Aside0.mk (HV11.out.below hb)
      clear HV11
      have HV11 := HV11'
      clear HV11'
      have HB13 := Aside0.mk (below_step HB12.out hb)
      have HX13 := Aside0.mk (HX12.out.below hb)
      have HL13 := Aside0.mk (Kd.C_below HL12.out hb)
      have HE13 := Aside0.mk (Kd.C_below HE12.out hb)
      clear hq hb HB12 HX12 HL12 HE12
      generalize ((w12.alloc (.cells #[.int .i64 x0, .slice A1 x1.length c1, .int .i64 x2, .int .i64 x3, .slice A4 x4.length c4, .int .i64 5, .slice none 0 0, .int .i64 0, .int .i64 (-1), .slice (some ⟨b11, 0, none⟩) 1 1] 25)).alloc (.cells #[.int .i64 3, .slice none 0 0, .int .i64 0, .int .i64 0, .slice (some ⟨w12.heap.size, 0, none⟩) 2 2] 25)) = w13 at HV6 HV7 HV8 HV9 HV10 HV11 HV12 HB13 HX13 HL13 HE13 ⊢
      obtain ⟨g12, hg⟩ : ∃ g, w12.heap.size + 1 = g := ⟨_, rfl⟩
      rw [hg] at HV12 ⊢
      generalize w12.heap.size = b12 at HV12 hg ⊢
      clear hg
      have HBD := Aside0.mk (below_drew1 (Below.refl w13.heap.size w13))
      refine start_ (n := 36) (S := fun w' => Below w13.heap.size w13 w') (ds := []) #[false, false, false, false, false, false, false, false, false, false, false, false, false, false, false, false, false, false, false, false, false, false, false, false, false, false, false, false, false, false, false, false, false, false, false, false] (by kernel_rfl) rfl rfl HBD.out (fun hHeld => ?_)
      generalize w13.drew = k0 at hHeld ⊢
      clear HBD
      refine take_ (i := 0) (N := some 51) (v := ?_) (a' := ?_) #[true, false, false, false, false, false, false, false, false, false, false, false, false, false, false, false, false, false, false, false, false, false, false, false, false, false, false, false, false, false, false, false, false, false, false, false] rfl rfl (by kernel_rfl) (fun _ _ _ h => h) (Or.inl ⟨by rfl, ?_⟩) hHeld ?_ ?_
      rotate_left
      · rintro w' hS
        have a0 := blk_cell (HV6.out.below hS).blk 0
        have a1 := blk_cell (HV6.out.below hS).blk 1
        have a2 := blk_cell (HV6.out.below hS).blk 2
        have a3 := blk_cell (HV6.out.below hS).blk 3
        have a4 := blk_cell (HV6.out.below hS).blk 4
        go_simp
        with_reducible rfl
      rotate_left
      · simp only [Act.put, List.setIfInBounds_toArray, List.set_cons_zero, List.set_cons_succ, i64_w, i32_w]
        rfl
      refine pure_ (i := 1) (N := some 52) (v := ?_) (a' := ?_) #[true, true, false, false, false, false, false, false, false, false, false, false, false, false, false, false, false, false, false, false, false, false, false, false, false, false, false, false, false, false, false, false, false, false, false, false] rfl rfl (by kernel_rfl) (fun _ _ _ h => h) (Or.inl ⟨by rfl, ?_⟩) ?_ ?_
      rotate_left
      · intro w'
        go_simp
        with_reducible rfl
      rotate_left
      · simp only [Act.put, List.setIfInBounds_toArray, List.set_cons_zero, List.set_cons_succ, i64_w, i32_w]
        rfl
      refine pure_ (i := 3) (N := some 54) (v := ?_) (a' := ?_) #[true, true, false, true, false, false, false, false, false, false, false, false, false, false, false, false, false, false, false, false, false, false, false, false, false, false, false, false, false, false, false, false, false, false, false, false] rfl rfl (by kernel_rfl) (fun _ _ _ h => h) (Or.inl ⟨by rfl, ?_⟩) ?_ ?_
      rotate_left
      · intro w'
        go_simp
        with_reducible rfl
      rotate_left
      · simp only [Act.put, List.setIfInBounds_toArray, List.set_cons_zero, List.set_cons_succ, i64_w, i32_w]
        rfl
      refine one_ (i := 2) (N := some 53) #[true, true, true, true, false, false, false, false, false, false, false, false, false, false, false, false, false, false, false, false, false, false, false, false, false, false, false, false, false, false, false, false, false, false, false, false] rfl rfl (by kernel_rfl) (by decide) (fun K hK => ?_)
      refine goes_ Try.func14 (by kernel_rfl) rfl #[.agg #[.int .i64 4, .slice none 0 0, .int .i64 0, .int .i64 0, .slice (some ⟨b6, 0, none⟩) 2 2], .slice A l.length c, .int .i64 0] (by rfl) rfl rfl (by (try simp only [List.map_toArray, List.map_cons, List.map_nil]); rfl) ?_
      refine (ends_node k (HV6.out.below hHeld).at_ 0 (Kd.C_below HL13.out hHeld) HLN.out.2.2 Q2.out).mono ?_
      rintro e_ k1 ⟨S1, s1, rfl, hC, hs, hb⟩
      refine ⟨_, rfl, ?_⟩
      refine hK.out _ _ (below_step hHeld hb) (fun hHeld => ?_)
      clear hK K
      have HC1 := Aside0.mk hC
      have HS1 := Aside0.mk hs
      have HOP := Aside0.mk hb
      clear hC hs hb
      refine norm_ (a' := ?_) ?_ ?_
      rotate_left
      · show Act.put _ (some 53) _ = _
        simp only [Act.put, List.setIfInBounds_toArray, List.set_cons_zero, List.set_cons_succ, i64_w, i32_w]
        rfl
      refine one_ (i := 4) (N := some 55) #[true, true, true, true, true, false, false, false, false, false, false, false, false, false, false, false, false, false, false, false, false, false, false, false, false, false, false, false, false, false, false, false, false, false, false, false] rfl rfl (by kernel_rfl) (by decide) (fun K hK => ?_)
      refine goes_ Try.func15 (by kernel_rfl) rfl #[.slice S1 e.length s1, .slice S0 e.length s0] (by rfl) rfl rfl (by (try simp only [List.map_toArray, List.map_cons, List.map_nil]); rfl) ?_
      refine (ints_node k HC1.out HS1.out (Kd.C_below HE13.out hHeld) HS0.out Q8.out).mono ?_
      rintro e_ k2 ⟨rfl, hb⟩
      refine ⟨_, rfl, ?_⟩
      refine hK.out _ _ (below_step hHeld hb) (fun hHeld => ?_)
      clear hK K hb HOP
      refine norm_ (a' := ?_) ?_ ?_
      rotate_left
      · show Act.put _ (some 55) _ = _
        simp only [Act.put, List.setIfInBounds_toArray, List.set_cons_zero, List.set_cons_succ, i64_w, i32_w]
        rfl
      refine pure_ (i := 5) (N := some 56) (v := ?_) (a' := ?_) #[true, true, true, true, true, true, false, false, false, false, false, false, false, false, false, false, false, false, false, false, false, false, false, false, false, false, false, false, false, false, false, false, false, false, false, false] rfl rfl (by kernel_rfl) (fun _ _ _ h => h) (Or.inl ⟨by rfl, ?_⟩) ?_ ?_
      rotate_left
      · intro w'
        go_simp
        with_reducible rfl
      rotate_left
      · simp only [Act.put, List.setIfInBounds_toArray, List.set_cons_zero, List.set_cons_succ, i64_w, i32_w]
        rfl
      refine take_ (i := 6) (N := some 57) (v := ?_) (a' := ?_) #[true, true, true, true, true, true, true, false, false, false, false, false, false, false, false, false, false, false, false, false, false, false, false, false, false, false, false, false, false, false, false, false, false, false, false, false] rfl rfl (by kernel_rfl) (fun _ _ _ h => h) (Or.inl ⟨by rfl, ?_⟩) hHeld ?_ ?_
      rotate_left
      · rintro w' hS
        have a0 := blk_cell (HV7.out.below hS).blk 0
        have a1 := blk_cell (HV7.out.below hS).blk 1
        have a2 := blk_cell (HV7.out.below hS).blk 2
        have a3 := blk_cell (HV7.out.below hS).blk 3
        have a4 := blk_cell (HV7.out.below hS).blk 4
        go_simp
        with_reducible rfl
      rotate_left
      · simp only [Act.put, List.setIfInBounds_toArray, List.set_cons_zero, List.set_cons_succ, i64_w, i32_w]
        rfl
      refine pure_ (i := 7) (N := some 58) (v := ?_) (a' := ?_) #[true, true, true, true, true, true, true, true, false, false, false, false, false, false, false, false, false, false, false, false, false, false, false, false, false, false, false, false, false, false, false, false, false, false, false, false] rfl rfl (by kernel_rfl) (fun _ _ _ h => h) (Or.inl ⟨by rfl, ?_⟩) ?_ ?_
      rotate_left
      · intro w'
        go_simp
        with_reducible rfl
      rotate_left
      · simp only [Act.put, List.setIfInBounds_toArray, List.set_cons_zero, List.set_cons_succ, i64_w, i32_w]
        rfl
      refine pure_ (i := 9) (N := some 60) (v := ?_) (a' := ?_) #[true, true, true, true, true, true, true, true, false, true, false, false, false, false, false, false, false, false, false, false, false, false, false, false, false, false, false, false, false, false, false, false, false, false, false, false] rfl rfl (by kernel_rfl) (fun _ _ _ h => h) (Or.inl ⟨by rfl, ?_⟩) ?_ ?_
      rotate_left
      · intro w'
        go_simp
        with_reducible rfl
      rotate_left
      · simp only [Act.put, List.setIfInBounds_toArray, List.set_cons_zero, List.set_cons_succ, i64_w, i32_w]
        rfl
      refine one_ (i := 8) (N := some 59) #[true, true, true, true, true, true, true, true, true, true, false, false, false, false, false, false, false, false, false, false, false, false, false, false, false, false, false, false, false, false, false, false, false, false, false, false] rfl rfl (by kernel_rfl) (by decide) (fun K hK => ?_)
      refine goes_ Try.func14 (by kernel_rfl) rfl #[.agg #[.int .i64 3, .slice none 0 0, .int .i64 0, .int .i64 0, .slice (some ⟨b7, 0, none⟩) 2 2], .slice A l.length c, .int .i64 0] (by rfl) rfl rfl (by (try simp only [List.map_toArray, List.map_cons, List.map_nil]); rfl) ?_
      refine (ends_node k (HV7.out.below hHeld).at_ 0 (Kd.C_below HL13.out hHeld) HLN.out.2.2 Q3.out).mono ?_
      rintro e_ k3 ⟨S3, s3, rfl, hC, hs, hb⟩
      refine ⟨_, rfl, ?_⟩
      refine hK.out _ _ (below_step hHeld hb) (fun hHeld => ?_)
      clear hK K
      have HC3 := Aside0.mk hC
      have HS3 := Aside0.mk hs
      have HOP := Aside0.mk hb
      clear hC hs hb
      refine norm_ (a' := ?_) ?_ ?_
      rotate_left
      · show Act.put _ (some 59) _ = _
        simp only [Act.put, List.setIfInBounds_toArray, List.set_cons_zero, List.set_cons_succ, i64_w, i32_w]
        rfl
      refine one_ (i := 10) (N := some 61) #[true, true, true, true, true, true, true, true, true, true, true, false, false, false, false, false, false, false, false, false, false, false, false, false, false, false, false, false, false, false, false, false, false, false, false, false] rfl rfl (by kernel_rfl) (by decide) (fun K hK => ?_)
      refine goes_ Try.func15 (by kernel_rfl) rfl #[.slice S3 e.length s3, .slice S0 e.length s0] (by rfl) rfl rfl (by (try simp only [List.map_toArray, List.map_cons, List.map_nil]); rfl) ?_
      refine (ints_node k HC3.out HS3.out (Kd.C_below HE13.out hHeld) HS0.out Q8.out).mono ?_
      rintro e_ k4 ⟨rfl, hb⟩
      refine ⟨_, rfl, ?_⟩
      refine hK.out _ _ (below_step hHeld hb) (fun hHeld => ?_)
      clear hK K hb HOP
      refine norm_ (a' := ?_) ?_ ?_
      rotate_left
      · show Act.put _ (some 61) _ = _
        simp only [Act.put, List.setIfInBounds_toArray, List.set_cons_zero, List.set_cons_succ, i64_w, i32_w]
        rfl
      refine pure_ (i := 11) (N := some 62) (v := ?_) (a' := ?_) #[true, true, true, true, true, true, true, true, true, true, true, true, false, false, false, false, false, false, false, false, false, false, false, false, false, false, false, false, false, false, false, false, false, false, false, false] rfl rfl (by kernel_rfl) (fun _ _ _ h => h) (Or.inl ⟨by rfl, ?_⟩) ?_ ?_
      rotate_left
      · intro w'
        go_simp
        with_reducible rfl
      rotate_left
      · simp only [Act.put, List.setIfInBounds_toArray, List.set_cons_zero, List.set_cons_succ, i64_w, i32_w]
        rfl
      refine pure_ (i := 12) (N := some 63) (v := ?_) (a' := ?_) #[true, true, true, true, true, true, true, true, true, true, true, true, true, false, false, false, false, false, false, false, false, false, false, false, false, false, false, false, false, false, false, false, false, false, false, false] rfl rfl (by kernel_rfl) (fun _ _ _ h => h) (Or.inl ⟨by rfl, ?_⟩) ?_ ?_
      rotate_left
      · intro w'
        go_simp
        with_reducible rfl
      rotate_left
      · simp only [Act.put, List.setIfInBounds_toArray, List.set_cons_zero, List.set_cons_succ, i64_w, i32_w]
        rfl
      refine take_ (i := 13) (N := some 64) (v := ?_) (a' := ?_) #[true, true, true, true, true, true, true, true, true, true, true, true, true, true, false, false, false, false, false, false, false, false, false, false, false, false, false, false, false, false, false, false, false, false, false, false] rfl rfl (by kernel_rfl) (fun _ _ _ h => h) (Or.inl ⟨by rfl, ?_⟩) hHeld ?_ ?_
      rotate_left
      · rintro w' hS
        have a0 := blk_cell (HV8.out.below hS).blk 0
        have a1 := blk_cell (HV8.out.below hS).blk 1
        have a2 := blk_cell (HV8.out.below hS).blk 2
        have a3 := blk_cell (HV8.out.below hS).blk 3
        have a4 := blk_cell (HV8.out.below hS).blk 4
        go_simp
        with_reducible rfl
      rotate_left
      · simp only [Act.put, List.setIfInBounds_toArray, List.set_cons_zero, List.set_cons_succ, i64_w, i32_w]
        rfl
      refine pure_ (i := 14) (N := some 65) (v := ?_) (a' := ?_) #[true, true, true, true, true, true, true, true, true, true, true, true, true, true, true, false, false, false, false, false, false, false, false, false, false, false, false, false, false, false, false, false, false, false, false, false] rfl rfl (by kernel_rfl) (fun _ _ _ h => h) (Or.inl ⟨by rfl, ?_⟩) ?_ ?_
      rotate_left
      · intro w'
        go_simp
        with_reducible rfl
      rotate_left
      · simp only [Act.put, List.setIfInBounds_toArray, List.set_cons_zero, List.set_cons_succ, i64_w, i32_w]
        rfl
      refine pure_ (i := 16) (N := some 67) (v := ?_) (a' := ?_) #[true, true, true, true, true, true, true, true, true, true, true, true, true, true, true, false, true, false, false, false, false, false, false, false, false, false, false, false, false, false, false, false, false, false, false, false] rfl rfl (by kernel_rfl) (fun _ _ _ h => h) (Or.inl ⟨by rfl, ?_⟩) ?_ ?_
      rotate_left
      · intro w'
        go_simp
        with_reducible rfl
      rotate_left
      · simp only [Act.put, List.setIfInBounds_toArray, List.set_cons_zero, List.set_cons_succ, i64_w, i32_w]
        rfl
      refine one_ (i := 15) (N := some 66) #[true, true, true, true, true, true, true, true, true, true, true, true, true, true, true, true, true, false, false, false, false, false, false, false, false, false, false, false, false, false, false, false, false, false, false, false] rfl rfl (by kernel_rfl) (by decide) (fun K hK => ?_)
      refine goes_ Try.func14 (by kernel_rfl) rfl #[.agg #[.int .i64 5, .slice none 0 0, .int .i64 1, .int .i64 1, .slice (some ⟨b8, 0, none⟩) 1 1], .slice A l.length c, .int .i64 0] (by rfl) rfl rfl (by (try simp only [List.map_toArray, List.map_cons, List.map_nil]); rfl) ?_
      refine (ends_node k (HV8.out.below hHeld).at_ 0 (Kd.C_below HL13.out hHeld) HLN.out.2.2 Q4.out).mono ?_
      rintro e_ k5 ⟨S5, s5, rfl, hC, hs, hb⟩
      refine ⟨_, rfl, ?_⟩
      refine hK.out _ _ (below_step hHeld hb) (fun hHeld => ?_)
      clear hK K
      have HC5 := Aside0.mk hC
      have HS5 := Aside0.mk hs
      have HOP := Aside0.mk hb
      clear hC hs hb
      refine norm_ (a' := ?_) ?_ ?_
      rotate_left
      · show Act.put _ (some 66) _ = _
        simp only [Act.put, List.setIfInBounds_toArray, List.set_cons_zero, List.set_cons_succ, i64_w, i32_w]
        rfl
      refine one_ (i := 17) (N := some 68) #[true, true, true, true, true, true, true, true, true, true, true, true, true, true, true, true, true, true, false, false, false, false, false, false, false, false, false, false, false, false, false, false, false, false, false, false] rfl rfl (by kernel_rfl) (by decide) (fun K hK => ?_)
      refine goes_ Try.func15 (by kernel_rfl) rfl #[.slice S5 e.length s5, .slice S0 e.length s0] (by rfl) rfl rfl (by (try simp only [List.map_toArray, List.map_cons, List.map_nil]); rfl) ?_
      refine (ints_node k HC5.out HS5.out (Kd.C_below HE13.out hHeld) HS0.out Q8.out).mono ?_
      rintro e_ k6 ⟨rfl, hb⟩
      refine ⟨_, rfl, ?_⟩
      refine hK.out _ _ (below_step hHeld hb) (fun hHeld => ?_)
      clear hK K hb HOP
      refine norm_ (a' := ?_) ?_ ?_
      rotate_left
      · show Act.put _ (some 68) _ = _
        simp only [Act.put, List.setIfInBounds_toArray, List.set_cons_zero, List.set_cons_succ, i64_w, i32_w]
        rfl
      refine pure_ (i := 18) (N := some 69) (v := ?_) (a' := ?_) #[true, true, true, true, true, true, true, true, true, true, true, true, true, true, true, true, true, true, true, false, false, false, false, false, false, false, false, false, false, false, false, false, false, false, false, false] rfl rfl (by kernel_rfl) (fun _ _ _ h => h) (Or.inl ⟨by rfl, ?_⟩) ?_ ?_
      rotate_left
      · intro w'
        go_simp
        with_reducible rfl
      rotate_left
      · simp only [Act.put, List.setIfInBounds_toArray, List.set_cons_zero, List.set_cons_succ, i64_w, i32_w]
        rfl
      refine pure_ (i := 19) (N := some 70) (v := ?_) (a' := ?_) #[true, true, true, true, true, true, true, true, true, true, true, true, true, true, true, true, true, true, true, true, false, false, false, false, false, false, false, false, false, false, false, false, false, false, false, false] rfl rfl (by kernel_rfl) (fun _ _ _ h => h) (Or.inl ⟨by rfl, ?_⟩) ?_ ?_
      rotate_left
      · intro w'
        go_simp
        with_reducible rfl
      rotate_left
      · simp only [Act.put, List.setIfInBounds_toArray, List.set_cons_zero, List.set_cons_succ, i64_w, i32_w]
        rfl
      refine take_ (i := 20) (N := some 71) (v := ?_) (a' := ?_) #[true, true, true, true, true, true, true, true, true, true, true, true, true, true, true, true, true, true, true, true, true, false, false, false, false, false, false, false, false, false, false, false, false, false, false, false] rfl rfl (by kernel_rfl) (fun _ _ _ h => h) (Or.inl ⟨by rfl, ?_⟩) hHeld ?_ ?_
      rotate_left
      · rintro w' hS
        have a0 := blk_cell (HV9.out.below hS).blk 0
        have a1 := blk_cell (HV9.out.below hS).blk 1
        have a2 := blk_cell (HV9.out.below hS).blk 2
        have a3 := blk_cell (HV9.out.below hS).blk 3
        have a4 := blk_cell (HV9.out.below hS).blk 4
        go_simp
        with_reducible rfl
      rotate_left
      · simp only [Act.put, List.setIfInBounds_toArray, List.set_cons_zero, List.set_cons_succ, i64_w, i32_w]
        rfl
      refine pure_ (i := 21) (N := some 72) (v := ?_) (a' := ?_) #[true, true, true, true, true, true, true, true, true, true, true, true, true, true, true, true, true, true, true, true, true, true, false, false, false, false, false, false, false, false, false, false, false, false, false, false] rfl rfl (by kernel_rfl) (fun _ _ _ h => h) (Or.inl ⟨by rfl, ?_⟩) ?_ ?_
      rotate_left
      · intro w'
        go_simp
        with_reducible rfl
      rotate_left
      · simp only [Act.put, List.setIfInBounds_toArray, List.set_cons_zero, List.set_cons_succ, i64_w, i32_w]
        rfl
      refine join_ (fuel' := 12) (l' := #[true, true, true, true, true, true, true, true, true, true, true, true, true, true, true, true, true, true, true, true, true, true, true, true, false, false, false, false, false, false, false, false, false, false, false, false]) (σ := Option Addr × Nat × Nat) (fun s => [(73, .slice s.1 1 s.2.1), (74, .slice (some ⟨s.2.2, 0, none⟩) 1 1)]) (fun s w' => Below w13.heap.size w13 w' ∧ Kd.C (Kd.int .i64) w' s.1 1 [0] ∧ 1 ≤ s.2.1 ∧ Kd.C (Kd.int .i64) w' (some ⟨s.2.2, 0, none⟩) 1 [0]) ?hcont (fun hcont => ?_)
      rotate_left
      · refine two_ (i := 22) (j := 23) (Ni := some 73) (Nj := some 74) #[true, true, true, true, true, true, true, true, true, true, true, true, true, true, true, true, true, true, true, true, true, true, true, false, false, false, false, false, false, false, false, false, false, false, false, false] #[true, true, true, true, true, true, true, true, true, true, true, true, true, true, true, true, true, true, true, true, true, true, false, true, false, false, false, false, false, false, false, false, false, false, false, false] rfl rfl rfl rfl (by kernel_rfl) (by decide) (by decide) (fun K hK => ?_) (fun K hK => ?_)
        · refine goes_ Try.func14 (by kernel_rfl) rfl #[.agg #[.int .i64 5, .slice none 0 0, .int .i64 0, .int .i64 0, .slice (some ⟨b9, 0, none⟩) 1 1], .slice A l.length c, .int .i64 0] (by rfl) rfl rfl (by (try simp only [List.map_toArray, List.map_cons, List.map_nil]); rfl) ?_
          refine (ends_node k (HV9.out.below hHeld).at_ 0 (Kd.C_below HL13.out hHeld) HLN.out.2.2 Q5.out).mono ?_
          rintro e_ k1' ⟨Sx, sx, rfl, hC, hs, hb⟩
          refine ⟨_, rfl, ?_⟩
          refine hK.out _ _ (below_step hHeld hb) (fun hHeld => ?_)
          clear hK K
          refine norm_ (a' := ?_) ?_ ?_
          rotate_left
          · show Act.put _ (some 73) _ = _
            simp only [Act.put, List.setIfInBounds_toArray, List.set_cons_zero, List.set_cons_succ, i64_w, i32_w]
            rfl
          refine one_ (i := 23) (N := some 74) #[true, true, true, true, true, true, true, true, true, true, true, true, true, true, true, true, true, true, true, true, true, true, true, true, false, false, false, false, false, false, false, false, false, false, false, false] rfl rfl (by kernel_rfl) (by decide) (fun K hK => ?_)
          refine value_ (v := .slice (some ⟨k1'.heap.size, 0, none⟩) 1 1) (w1 := k1'.alloc (.cells #[.int .i64 0] 3)) (by rfl) rfl ?hrun1 ?_
          case hrun1 => go_simp
          refine hK.out _ _ (below_step hHeld (below_alloc (Below.refl _ _) _)) (fun hHeld => ?_)
          clear hK K
          refine norm_ ?_ (hcont ⟨Sx, sx, k1'.heap.size⟩ _ ⟨hHeld, Kd.C_below hC (below_alloc (Below.refl _ _) _), hs, (show Kd.C (Kd.int .i64) (k1'.alloc (.cells #[.int .i64 0] 3)) (some ⟨k1'.heap.size, 0, none⟩) 1 [0] from (Kd.R_reads' (setR_of (B := k1'.heap.size) (g := k1'.heap.size) (cap := 1) (ys := [0]) (Nat.le_refl _) (heap_alloc_new k1' _) (by decide) (by decide) rfl rfl)).2.2)⟩)
          simp only [putAll, Act.put, List.setIfInBounds_toArray, List.set_cons_zero, List.set_cons_succ, i64_w, i32_w]
          rfl
        · refine value_ (v := .slice (some ⟨k6.heap.size, 0, none⟩) 1 1) (w1 := k6.alloc (.cells #[.int .i64 0] 3)) (by rfl) rfl ?hrun2 ?_
          case hrun2 => go_simp
          have hR0 := (show Kd.C (Kd.int .i64) (k6.alloc (.cells #[.int .i64 0] 3)) (some ⟨k6.heap.size, 0, none⟩) 1 [0] from (Kd.R_reads' (setR_of (B := k6.heap.size) (g := k6.heap.size) (cap := 1) (ys := [0]) (Nat.le_refl _) (heap_alloc_new k6 _) (by decide) (by decide) rfl rfl)).2.2)
          refine hK.out _ _ (below_step hHeld (below_alloc (Below.refl _ _) _)) (fun hHeld => ?_)
          clear hK K
          refine norm_ (a' := ?_) ?_ ?_
          rotate_left
          · show Act.put _ (some 74) _ = _
            simp only [Act.put, List.setIfInBounds_toArray, List.set_cons_zero, List.set_cons_succ, i64_w, i32_w]
            rfl
          refine one_ (i := 22) (N := some 73) #[true, true, true, true, true, true, true, true, true, true, true, true, true, true, true, true, true, true, true, true, true, true, true, true, false, false, false, false, false, false, false, false, false, false, false, false] rfl rfl (by kernel_rfl) (by decide) (fun K hK => ?_)
          refine goes_ Try.func14 (by kernel_rfl) rfl #[.agg #[.int .i64 5, .slice none 0 0, .int .i64 0, .int .i64 0, .slice (some ⟨b9, 0, none⟩) 1 1], .slice A l.length c, .int .i64 0] (by rfl) rfl rfl (by (try simp only [List.map_toArray, List.map_cons, List.map_nil]); rfl) ?_
          refine (ends_node k (HV9.out.below hHeld).at_ 0 (Kd.C_below HL13.out hHeld) HLN.out.2.2 Q5.out).mono ?_
          rintro e_ k1' ⟨Sx, sx, rfl, hC, hs, hb⟩
          refine ⟨_, rfl, ?_⟩
          refine hK.out _ _ (below_step hHeld hb) (fun hHeld => ?_)
          clear hK K
          refine norm_ ?_ (hcont ⟨Sx, sx, k6.heap.size⟩ _ ⟨hHeld, hC, hs, Kd.C_below hR0 hb⟩)
          simp only [putAll, Act.put, List.setIfInBounds_toArray, List.set_cons_zero, List.set_cons_succ, i64_w, i32_w]
          rfl
      rintro ⟨Sx, sx, bz⟩ kz ⟨hHeld, hC, hs, hR0⟩
      refine norm_ (a' := ?_) ?_ ?_
      rotate_left
      · simp only [putAll, Act.put, List.setIfInBounds_toArray, List.set_cons_zero, List.set_cons_succ, i64_w, i32_w]
        rfl
      have HCZ := Aside0.mk hC
      have HSZ := Aside0.mk hs
      have HRZ := Aside0.mk hR0
      have HOP := Aside0.mk hHeld
      clear hC hs hR0
      refine one_ (i := 24) (N := some 75) #[true, true, true, true, true, true, true, true, true, true, true, true, true, true, true, true, true, true, true, true, true, true, true, true, true, false, false, false, false, false, false, false, false, false, false, false] rfl rfl (by kernel_rfl) (by decide) (fun K hK => ?_)
      refine goes_ Try.func15 (by kernel_rfl) rfl #[.slice Sx 1 sx, .slice (some ⟨bz, 0, none⟩) 1 1] (by rfl) rfl rfl (by (try simp only [List.map_toArray, List.map_cons, List.map_nil]); rfl) ?_
      refine (ints_node k (l := [0]) (m := [0]) HCZ.out HSZ.out HRZ.out (Nat.le_refl _) Q9.out).mono ?_
      rintro e_ k7 ⟨rfl, hb⟩
      refine ⟨_, rfl, ?_⟩
      refine hK.out _ _ (below_step hHeld hb) (fun hHeld => ?_)
      clear hK K hb HOP
      refine norm_ (a' := ?_) ?_ ?_
      rotate_left
      · show Act.put _ (some 75) _ = _
        simp only [Act.put, List.setIfInBounds_toArray, List.set_cons_zero, List.set_cons_succ, i64_w, i32_w]
        rfl
      refine pure_ (i := 25) (N := some 76) (v := ?_) (a' := ?_) #[true, true, true, true, true, true, true, true, true, true, true, true, true, true, true, true, true, true, true, true, true, true, true, true, true, true, false, false, false, false, false, false, false, false, false, false] rfl rfl (by kernel_rfl) (fun _ _ _ h => h) (Or.inl ⟨by rfl, ?_⟩) ?_ ?_
      rotate_left
      · intro w'
        go_simp
        with_reducible rfl
      rotate_left
      · simp only [Act.put, List.setIfInBounds_toArray, List.set_cons_zero, List.set_cons_succ, i64_w, i32_w]
        rfl
      refine pure_ (i := 26) (N := some 77) (v := ?_) (a' := ?_) #[true, true, true, true, true, true, true, true, true, true, true, true, true, true, true, true, true, true, true, true, true, true, true, true, true, true, true, false, false, false, false, false, false, false, false, false] rfl rfl (by kernel_rfl) (fun _ _ _ h => h) (Or.inl ⟨by rfl, ?_⟩) ?_ ?_
      rotate_left
      · intro w'
        go_simp
        with_reducible rfl
      rotate_left
      · simp only [Act.put, List.setIfInBounds_toArray, List.set_cons_zero, List.set_cons_succ, i64_w, i32_w]
        rfl
      refine take_ (i := 27) (N := some 78) (v := ?_) (a' := ?_) #[true, true, true, true, true, true, true, true, true, true, true, true, true, true, true, true, true, true, true, true, true, true, true, true, true, true, true, true, false, false, false, false, false, false, false, false] rfl rfl (by kernel_rfl) (fun _ _ _ h => h) (Or.inl ⟨by rfl, ?_⟩) hHeld ?_ ?_
      rotate_left
      · rintro w' hS
        have a0 := blk_cell (HV10.out.below hS).blk 0
        have a1 := blk_cell (HV10.out.below hS).blk 1
        have a2 := blk_cell (HV10.out.below hS).blk 2
        have a3 := blk_cell (HV10.out.below hS).blk 3
        have a4 := blk_cell (HV10.out.below hS).blk 4
        go_simp
        with_reducible rfl
      rotate_left
      · simp only [Act.put, List.setIfInBounds_toArray, List.set_cons_zero, List.set_cons_succ, i64_w, i32_w]
        rfl
      refine pure_ (i := 28) (N := some 79) (v := ?_) (a' := ?_) #[true, true, true, true, true, true, true, true, true, true, true, true, true, true, true, true, true, true, true, true, true, true, true, true, true, true, true, true, true, false, false, false, false, false, false, false] rfl rfl (by kernel_rfl) (fun _ _ _ h => h) (Or.inl ⟨by rfl, ?_⟩) ?_ ?_
      rotate_left
      · intro w'
        go_simp
        with_reducible rfl
      rotate_left
      · simp only [Act.put, List.setIfInBounds_toArray, List.set_cons_zero, List.set_cons_succ, i64_w, i32_w]
        rfl
      refine take_ (i := 30) (N := some 81) (v := ?_) (a' := ?_) #[true, true, true, true, true, true, true, true, true, true, true, true, true, true, true, true, true, true, true, true, true, true, true, true, true, true, true, true, true, false, true, false, false, false, false, false] rfl rfl (by kernel_rfl) (fun _ _ _ h => h) (Or.inl ⟨by rfl, ?_⟩) hHeld ?_ ?_
      rotate_left
      · rintro w' hS
        have a0 := blk_cell (HV12.out.below hS).blk 0
        have a1 := blk_cell (HV12.out.below hS).blk 1
        have a2 := blk_cell (HV12.out.below hS).blk 2
        have a3 := blk_cell (HV12.out.below hS).blk 3
        have a4 := blk_cell (HV12.out.below hS).blk 4
        go_simp
        with_reducible rfl
      rotate_left
      · simp only [Act.put, List.setIfInBounds_toArray, List.set_cons_zero, List.set_cons_succ, i64_w, i32_w]
        rfl
      refine pure_ (i := 31) (N := some 82) (v := ?_) (a' := ?_) #[true, true, true, true, true, true, true, true, true, true, true, true, true, true, true, true, true, true, true, true, true, true, true, true, true, true, true, true, true, false, true, true, false, false, false, false] rfl rfl (by kernel_rfl) (fun _ _ _ h => h) (Or.inl ⟨by rfl, ?_⟩) ?_ ?_
      rotate_left
      · intro w'
        go_simp
        with_reducible rfl
      rotate_left
      · simp only [Act.put, List.setIfInBounds_toArray, List.set_cons_zero, List.set_cons_succ, i64_w, i32_w]
        rfl
      refine one_ (i := 29) (N := some 80) #[true, true, true, true, true, true, true, true, true, true, true, true, true, true, true, true, true, true, true, true, true, true, true, true, true, true, true, true, true, true, true, true, false, false, false, false] rfl rfl (by kernel_rfl) (by decide) (fun K hK => ?_)
      refine goes_ Try.func14 (by kernel_rfl) rfl #[.agg #[.int .i64 5, .slice none 0 0, .int .i64 1, .int .i64 (-1), .slice (some ⟨b10, 0, none⟩) 1 1], .slice A l.length c, .int .i64 0] (by rfl) rfl rfl (by (try simp only [List.map_toArray, List.map_cons, List.map_nil]); rfl) ?_
      refine (ends_node k (HV10.out.below hHeld).at_ 0 (Kd.C_below HL13.out hHeld) HLN.out.2.2 Q6.out).mono ?_
      rintro e_ k8 ⟨S8, s8, rfl, hC, hs, hb⟩
      refine ⟨_, rfl, ?_⟩
      refine hK.out _ _ (below_step hHeld hb) (fun hHeld => ?_)
      clear hK K
      have HC8 := Aside0.mk hC
      have HS8 := Aside0.mk hs
      have HOP := Aside0.mk hb
      clear hC hs hb
      refine norm_ (a' := ?_) ?_ ?_
      rotate_left
      · show Act.put _ (some 80) _ = _
        simp only [Act.put, List.setIfInBounds_toArray, List.set_cons_zero, List.set_cons_succ, i64_w, i32_w]
        rfl
      refine one_ (i := 32) (N := some 83) #[true, true, true, true, true, true, true, true, true, true, true, true, true, true, true, true, true, true, true, true, true, true, true, true, true, true, true, true, true, true, true, true, true, false, false, false] rfl rfl (by kernel_rfl) (by decide) (fun K hK => ?_)
      refine goes_ Try.func14 (by kernel_rfl) rfl #[.agg #[.int .i64 3, .slice none 0 0, .int .i64 0, .int .i64 0, .slice (some ⟨b12, 0, none⟩) 2 2], .slice A l.length c, .int .i64 0] (by rfl) rfl rfl (by (try simp only [List.map_toArray, List.map_cons, List.map_nil]); rfl) ?_
      refine (ends_node k (HV12.out.below hHeld).at_ 0 (Kd.C_below HL13.out hHeld) HLN.out.2.2 Q7.out).mono ?_
      rintro e_ k9 ⟨S9, s9, rfl, hC, hs, hb⟩
      refine ⟨_, rfl, ?_⟩
      refine hK.out _ _ (below_step hHeld hb) (fun hHeld => ?_)
      clear hK K
      have HC9 := Aside0.mk hC
      have HS9 := Aside0.mk hs
      have HOP := Aside0.mk hb
      clear hC hs hb
      refine norm_ (a' := ?_) ?_ ?_
      rotate_left
      · show Act.put _ (some 83) _ = _
        simp only [Act.put, List.setIfInBounds_toArray, List.set_cons_zero, List.set_cons_succ, i64_w, i32_w]
        rfl
      refine one_ (i := 33) (N := some 84) #[true, true, true, true, true, true, true, true, true, true, true, true, true, true, true, true, true, true, true, true, true, true, true, true, true, true, true, true, true, true, true, true, true, true, false, false] rfl rfl (by kernel_rfl) (by decide) (fun K hK => ?_)
      refine goes_ Try.func15 (by kernel_rfl) rfl #[.slice S8 t.length s8, .slice S9 t.length s9] (by rfl) rfl rfl (by (try simp only [List.map_toArray, List.map_cons, List.map_nil]); rfl) ?_
      refine (ints_node k (Kd.C_below HC8.out HOP.out) HS8.out HC9.out HS9.out Q10.out).mono ?_
      rintro e_ k10 ⟨rfl, hb⟩
      refine ⟨_, rfl, ?_⟩
      refine hK.out _ _ (below_step hHeld hb) (fun hHeld => ?_)
      clear hK K hb HOP
      refine norm_ (a' := ?_) ?_ ?_
      rotate_left
      · show Act.put _ (some 84) _ = _
        simp only [Act.put, List.setIfInBounds_toArray, List.set_cons_zero, List.set_cons_succ, i64_w, i32_w]
        rfl
      refine pure_ (i := 34) (N := some 85) (v := ?_) (a' := ?_) #[true, true, true, true, true, true, true, true, true, true, true, true, true, true, true, true, true, true, true, true, true, true, true, true, true, true, true, true, true, true, true, true, true, true, true, false] rfl rfl (by kernel_rfl) (fun _ _ _ h => h) (Or.inl ⟨by rfl, ?_⟩) ?_ ?_
      rotate_left
      · intro w'
        go_simp
        with_reducible rfl
      rotate_left
      · simp only [Act.put, List.setIfInBounds_toArray, List.set_cons_zero, List.set_cons_succ, i64_w, i32_w]
        rfl
      refine pure_ (i := 35) (N := some 4) (v := ?_) (a' := ?_) #[true, true, true, true, true, true, true, true, true, true, true, true, true, true, true, true, true, true, true, true, true, true, true, true, true, true, true, true, true, true, true, true, true, true, true, true] rfl rfl (by kernel_rfl) (fun _ _ _ h => h) (Or.inl ⟨by rfl, ?_⟩) ?_ ?_
      rotate_left
      · intro w'
        go_simp
        with_reducible rfl
      rotate_left
      · simp only [Act.put, List.setIfInBounds_toArray, List.set_cons_zero, List.set_cons_succ, i64_w, i32_w]
        rfl
      refine done_ (by kernel_rfl) ?_
      go_wp2
      go_ret
      exact ⟨rfl, below_step HB13.out hHeld⟩
end Go.Proofs.Ytaphbechnjmlgaa.P
namespace Go.Proofs.Ytaphbechnjmlgaa.P
open Go.RowKit Go.Proofs.YtaphbechnjmlgaaW.PrintWords Go.Proofs.YtaphbechnjmlgaaW.PrintLast
set_option linter.unusedVariables false

theorem wrap_id {x : Int} (h0 : -9223372036854775808 ≤ x) (h1 : x ≤ 9223372036854775807) : wrap64 x = x := by
  unfold wrap64
  omega
theorem wrap_succ (i : Nat) (h : i < 9223372036854775807) : wrap64 ((i : Int) + 1) = ((i + 1 : Nat) : Int) := by
  rw [wrap_id (by omega) (by omega)]
  omega
theorem rd_nat (xs : List Int) (i : Nat) : rd xs (i : Int) = xs.getD i 0 := by
  unfold rd
  rw [Int.toNat_natCast]
theorem rd_get (xs : List Int) (i : Nat) (h : i < xs.length) : rd xs (i : Int) = xs[i] := by
  rw [rd_nat, List.getD_eq_getElem?_getD, List.getElem?_eq_getElem h, Option.getD_some]
theorem drop_cons (xs : List Int) (i : Nat) (h : i < xs.length) : xs.drop i = rd xs (i : Int) :: xs.drop (i + 1) := by
  rw [rd_get xs i h]
  exact List.drop_eq_getElem_cons h
theorem more {α : Type} {g : Nat → Option α} (h : ∀ k, LeO (g k) (g (k + 1))) (k k' : Nat) (hk : k ≤ k') (r : α) (hr : g k = some r) : g k' = some r := at_rounds h hk hr
end Go.Proofs.Ytaphbechnjmlgaa.P
namespace Go.Proofs.Ytaphbechnjmlgaa.P
open Go.RowKit Go.Proofs.YtaphbechnjmlgaaW.PrintWords Go.Proofs.YtaphbechnjmlgaaW.PrintLast
set_option linter.unusedVariables false

theorem ev_step {α β : Type} {f : Nat → Option α} {g : Nat → Option β} {a : α} {r : β} (H : Ev f a) (h : ∀ k, f k = some a → g (k + 1) = some r) : Ev g r := by
  obtain ⟨K, H⟩ := H
  refine ⟨K + 1, fun k hk => ?_⟩
  obtain ⟨k, rfl⟩ : ∃ m, k = m + 1 := ⟨k - 1, by omega⟩
  exact h k (H k (by omega))
theorem ev_step2 {α β γ : Type} {f : Nat → Option α} {f2 : Nat → Option γ} {g : Nat → Option β} {a : α} {b : γ} {r : β} (H : Ev f a) (H2 : Ev f2 b) (h : ∀ k, f k = some a → f2 k = some b → g (k + 1) = some r) : Ev g r := by
  obtain ⟨K, H⟩ := H
  obtain ⟨K2, H2⟩ := H2
  refine ⟨K + K2 + 1, fun k hk => ?_⟩
  obtain ⟨k, rfl⟩ : ∃ m, k = m + 1 := ⟨k - 1, by omega⟩
  exact h k (H k (by omega)) (H2 k (by omega))
theorem ev_one {β : Type} {g : Nat → Option β} {r : β} (h : ∀ k, g (k + 1) = some r) : Ev g r := ⟨1, fun k hk => by
  obtain ⟨k, rfl⟩ : ∃ m, k = m + 1 := ⟨k - 1, by omega⟩
  exact h k⟩
theorem ev_now {β : Type} {g : Nat → Option β} {r : β} (h : ∀ k, g k = some r) : Ev g r := ⟨0, fun k _ => h k⟩
theorem ev_same {α β : Type} {f : Nat → Option α} {g : Nat → Option β} {a : α} {r : β} (H : Ev f a) (h : ∀ k, f k = some a → g k = some r) : Ev g r := by
  obtain ⟨K, H⟩ := H
  exact ⟨K, fun k hk => h k (H k hk)⟩
theorem ev_same2 {α β γ : Type} {f : Nat → Option α} {f2 : Nat → Option γ} {g : Nat → Option β} {a : α} {b : γ} {r : β} (H : Ev f a) (H2 : Ev f2 b) (h : ∀ k, f k = some a → f2 k = some b → g k = some r) : Ev g r := by
  obtain ⟨K, H⟩ := H
  obtain ⟨K2, H2⟩ := H2
  exact ⟨K + K2, fun k hk => h k (H k (by omega)) (H2 k (by omega))⟩
end Go.Proofs.Ytaphbechnjmlgaa.P
namespace Go.Proofs.Ytaphbechnjmlgaa.P
open Go.RowKit Go.Proofs.YtaphbechnjmlgaaW.PrintWords Go.Proofs.YtaphbechnjmlgaaW.PrintLast
set_option linter.unusedVariables false
set_option linter.unusedSimpArgs false

abbrev TNode : Type := S25
abbrev TRange : Type := S52
def i64b (x : Int) : Prop := -9223372036854775808 ≤ x ∧ x ≤ 9223372036854775807
/-- A tree that can lie in memory. -/
inductive WfN : TNode → Prop
  | mk (x : TNode) (h0 : i64b x.f0) (h1 : ∀ r ∈ x.f1, i64b r.f0 ∧ i64b r.f1) (l1 : x.f1.length < 8796093022208) (h2 : i64b x.f2) (h3 : i64b x.f3) (l4 : x.f4.length < 2199023255552) (hk : ∀ y ∈ x.f4, WfN y) : WfN x
theorem node_ind {P : TNode → Prop} (h : ∀ x : TNode, (∀ y ∈ x.f4, P y) → P x) (x : TNode) : P x := by
  have key : ∀ n (x : TNode), SizeOf.sizeOf x ≤ n → P x := by
    intro n
    induction n with
    | zero =>
      intro x hx
      exact absurd hx (by cases x; simp)
    | succ n ih =>
      intro x hx
      refine h x fun y hy => ih y ?_
      have h1 := List.sizeOf_lt_of_mem hy
      have h2 : SizeOf.sizeOf x.f4 < SizeOf.sizeOf x := by cases x; simp; omega
      omega
  exact key _ x (Nat.le_refl _)
theorem tn_rd (l : List TNode) (i : Nat) (h : i < l.length) : rd_T25 l (i : Int) = l[i] := by
  unfold rd_T25
  rw [Int.toNat_natCast, List.getD_eq_getElem?_getD, List.getElem?_eq_getElem h, Option.getD_some]
theorem tn_mem (l : List TNode) (i : Nat) (h : i < l.length) : rd_T25 l (i : Int) ∈ l := by
  rw [tn_rd l i h]
  exact List.getElem_mem h
abbrev weightE (k : Nat) (x : TNode) (d : Int) : Option Int := ductusref16_Weight.f k x.f0 x.f1 x.f2 x.f3 x.f4 d
theorem weight_loop (f0 : Int) (f1 : List TRange) (f2 f3 : Int) (l : List TNode) (d B : Int) (hd : 0 ≤ d ∧ d ≤ 100) (hB : 0 ≤ B ∧ B < 8000000000000000000) (hl : l.length < 2199023255552) (hk : ∀ y ∈ l, ∃ W, Ev (fun k => weightE k y (d + 1)) W ∧ 1 ≤ W ∧ W ≤ B) (m : Nat) :
    ∀ (i : Nat) (s : Int), i + m = l.length → 1 ≤ s → s ≤ 9000000000000000000 → ∃ W, Ev (fun k => ductusref16_Weight.l0 k d s (i : Int) f0 f1 f2 f3 l) W ∧ s ≤ W ∧ (W ≤ s ∨ W ≤ 2000 + B) := by
  induction m with
  | zero =>
    intro i s hi h1 h2
    refine ⟨s, ev_one fun k => ?_, Int.le_refl _, .inl (Int.le_refl _)⟩
    simp only [ductusref16_Weight.l0]
    rw [if_neg (by omega)]
  | succ m ih =>
    intro i s hi h1 h2
    by_cases hs : s ≤ 2000
    · obtain ⟨V, hV, hV1, hV2⟩ := hk _ (tn_mem l i (by omega))
      obtain ⟨W, hW, hW1, hW2⟩ := ih (i + 1) (s + V) (by omega) (by omega) (by omega)
      refine ⟨W, ?_, by omega, by omega⟩
      have w1 : wrap64 (d + 1) = d + 1 := wrap_id (by omega) (by omega)
      have c1 : (i : Int) < (l.length : Int) := by omega
      have c2 : (0 : Int) ≤ (i : Int) := by omega
      have w2 : wrap64 (s + V) = s + V := wrap_id (by omega) (by omega)
      have w3 : wrap64 ((i : Int) + 1) = ((i + 1 : Nat) : Int) := wrap_succ i (by omega)
      refine ev_step2 hV hW fun k h1 h2 => ?_
      simp only [ductusref16_Weight.l0]
      rw [if_pos c1, if_pos hs, if_pos c2, w1]
      have h1' : ductusref16_Weight.f k (rd_T25 l (i : Int)).f0 (rd_T25 l (i : Int)).f1 (rd_T25 l (i : Int)).f2 (rd_T25 l (i : Int)).f3 (rd_T25 l (i : Int)).f4 (d + 1) = some V := h1
      rw [h1', Option.bind_some, w2, w3]
      exact h2
    · have c1 : (i : Int) < (l.length : Int) := by omega
      refine ⟨s, ev_one fun k => ?_, Int.le_refl _, .inl (Int.le_refl _)⟩
      simp only [ductusref16_Weight.l0]
      rw [if_pos c1, if_neg hs]
theorem weight_ev (x : TNode) : WfN x → ∀ d : Nat, d ≤ 101 → ∃ W, Ev (fun k => weightE k x (d : Int)) W ∧ 1 ≤ W ∧ W ≤ 8796093025208 + 2000 * (101 - (d : Int)) := by
  induction x using node_ind with
  | h x ih =>
    intro hw d hd
    obtain ⟨_, h0, h1, l1, h2, h3, l4, hk⟩ := hw
    by_cases hd1 : d = 101
    · subst hd1
      refine ⟨3000, ev_one fun k => ?_, by omega, by omega⟩
      simp only [weightE, ductusref16_Weight.f]
      rw [if_pos (by omega)]
    · have w1 : wrap64 (1 + (x.f1.length : Int)) = 1 + (x.f1.length : Int) := wrap_id (by omega) (by omega)
      obtain ⟨W, hW, hW1, hW2⟩ := weight_loop x.f0 x.f1 x.f2 x.f3 x.f4 (d : Int) (8796093025208 + 2000 * (101 - ((d + 1 : Nat) : Int))) (by omega) (by omega) l4 (fun y hy => by
        obtain ⟨W, hW, hW1, hW2⟩ := ih y hy (hk y hy) (d + 1) (by omega)
        exact ⟨W, hW, hW1, hW2⟩) x.f4.length 0 (1 + (x.f1.length : Int)) (by omega) (by omega) (by omega)
      refine ⟨W, ?_, by omega, by omega⟩
      refine ev_step hW fun k h => ?_
      simp only [weightE, ductusref16_Weight.f]
      rw [if_neg (by omega), w1]
      exact h
mutual
def sizeT : TNode → Int
  | ⟨f0, _, f2, f3, f4⟩ => sizesT (multT f0 f2 f3) f4 1
def sizesT (t : Int) : List TNode → Int → Int
  | [], s => s
  | x :: l, s => sizesT t l (mn 1000000 (s + t * sizeT x))
end
theorem mn_le (a b : Int) : mn a b ≤ a ∧ mn a b ≤ b := by unfold mn; split <;> omega
theorem sizes_rng (t : Int) (ht : 1 ≤ t ∧ t ≤ 1000000) : ∀ (l : List TNode), (∀ y ∈ l, 1 ≤ sizeT y ∧ sizeT y ≤ 1000000) → ∀ s, 1 ≤ s → s ≤ 1000000 → s ≤ sizesT t l s ∧ sizesT t l s ≤ 1000000
  | [], _, s, h1, h2 => by simp only [sizesT]; omega
  | y :: l, hy, s, h1, h2 => by
    have h3 := hy y (by simp)
    have h4 : 0 ≤ t * sizeT y := Int.mul_nonneg (by omega) (by omega)
    have h5 := mn_le 1000000 (s + t * sizeT y)
    have h6 : s ≤ mn 1000000 (s + t * sizeT y) := by unfold mn; split <;> omega
    have h7 := sizes_rng t ht l (fun z hz => hy z (by simp [hz])) (mn 1000000 (s + t * sizeT y)) (by omega) (by omega)
    simp only [sizesT]
    omega
theorem size_rng (x : TNode) : 1 ≤ sizeT x ∧ sizeT x ≤ 1000000 := by
  induction x using node_ind with
  | h x ih =>
    obtain ⟨f0, f1, f2, f3, f4⟩ := x
    simp only [sizeT]
    exact sizes_rng _ (multT_le _ _ _) f4 ih 1 (by omega) (by omega)
abbrev sizeE (k : Nat) (x : TNode) : Option Int := ductusref16_Size.f k x.f0 x.f1 x.f2 x.f3 x.f4
theorem sizes_ev (t : Int) (ht : 1 ≤ t ∧ t ≤ 1000000) : ∀ (l : List TNode), (∀ y ∈ l, Ev (fun k => sizeC k y) (sizeT y)) → ∀ s, 1 ≤ s → s ≤ 1000000 → Ev (fun k => sizesC (sizeC k) t l s) (sizesT t l s)
  | [], _, s, h1, h2 => ev_now fun k => by simp only [sizesC, sizesT]
  | y :: l, hy, s, h1, h2 => by
    have h3 := size_rng y
    have h4 : 0 ≤ t * sizeT y := Int.mul_nonneg (by omega) (by omega)
    have h5 : 1 ≤ mn 1000000 (s + t * sizeT y) ∧ mn 1000000 (s + t * sizeT y) ≤ 1000000 := by unfold mn; split <;> omega
    refine ev_same2 (hy y (by simp)) (sizes_ev t ht l (fun z hz => hy z (by simp [hz])) _ h5.1 h5.2) fun k e1 e2 => ?_
    simp only [sizesC, sizesT]
    rw [e1, Option.bind_some, if_pos ⟨h3.1, h3.2, h1, h2⟩]
    exact e2
theorem size_ev (x : TNode) : WfN x → Ev (fun k => sizeE k x) (sizeT x) := by
  have e : (fun k => sizeE k x) = fun k => sizeC k x := by
    funext k
    obtain ⟨f0, f1, f2, f3, f4⟩ := x
    rfl
  rw [e]
  clear e
  induction x using node_ind with
  | h x ih =>
    intro hw
    obtain ⟨_, h0, h1, l1, h2, h3, l4, hk⟩ := hw
    obtain ⟨f0, f1, f2, f3, f4⟩ := x
    refine ev_step (sizes_ev (multT f0 f2 f3) (multT_le _ _ _) f4 (fun y hy => ih y hy (hk y hy)) 1 (by omega) (by omega)) fun k e => ?_
    simp only [sizeC, sizeT]
    rw [if_pos h2.1]
    exact e
end Go.Proofs.Ytaphbechnjmlgaa.P
namespace Go.Proofs.Ytaphbechnjmlgaa.P
open Go.RowKit Go.Proofs.YtaphbechnjmlgaaW.PrintWords Go.Proofs.YtaphbechnjmlgaaW.PrintLast
set_option linter.unusedVariables false
set_option linter.unusedSimpArgs false

/-- So often, one behind the other. -/
def Times (R : Int → Int → Prop) : Nat → Int → Int → Prop
  | 0, i, j => i = j
  | m + 1, i, j => ∃ t, R i t ∧ Times R m t j
theorem times_right (R : Int → Int → Prop) : ∀ (m : Nat) (i j : Int), Times R (m + 1) i j ↔ ∃ t, Times R m i t ∧ R t j
  | 0, i, j => by
    simp only [Times]
    exact ⟨fun ⟨t, h1, h2⟩ => ⟨i, rfl, h2 ▸ h1⟩, fun ⟨t, h1, h2⟩ => ⟨j, h1 ▸ h2, rfl⟩⟩
  | m + 1, i, j => by
    constructor
    · rintro ⟨t, h1, h2⟩
      obtain ⟨s, h3, h4⟩ := (times_right R m t j).1 h2
      exact ⟨s, ⟨t, h1, h3⟩, h4⟩
    · rintro ⟨s, ⟨t, h1, h3⟩, h4⟩
      exact ⟨t, h1, (times_right R m t j).2 ⟨s, h3, h4⟩⟩
theorem times_add (R : Int → Int → Prop) : ∀ (m n : Nat) (i j : Int), Times R (m + n) i j ↔ ∃ t, Times R m i t ∧ Times R n t j
  | 0, n, i, j => by
    simp only [Times, Nat.zero_add]
    exact ⟨fun h => ⟨i, rfl, h⟩, fun ⟨t, h1, h2⟩ => h1 ▸ h2⟩
  | m + 1, n, i, j => by
    rw [show m + 1 + n = (m + n) + 1 by omega]
    constructor
    · rintro ⟨t, h1, h2⟩
      obtain ⟨s, h3, h4⟩ := (times_add R m n t j).1 h2
      exact ⟨s, ⟨t, h1, h3⟩, h4⟩
    · rintro ⟨s, ⟨t, h1, h3⟩, h4⟩
      exact ⟨t, h1, (times_add R m n t j).2 ⟨s, h3, h4⟩⟩
/-- How often a repeat may be. -/
def Often (lo hi : Int) (R : Int → Int → Prop) (i j : Int) : Prop := ∃ m : Nat, lo ≤ (m : Int) ∧ (hi < 0 ∨ (m : Int) ≤ hi) ∧ Times R m i j
mutual
/-- A tree matches a text from a place up to another one. -/
def M (l : List Int) : TNode → Int → Int → Prop
  | ⟨f0, f1, f2, f3, f4⟩, i, j => if f0 = 1 then i = j
    else if f0 = 2 then i < (l.length : Int) ∧ hasM f1 (rd l i) = true ∧ j = i + 1
    else if f0 = 6 then i = 0 ∧ j = 0
    else if f0 = 7 then i = (l.length : Int) ∧ j = (l.length : Int)
    else if f0 = 3 then MJ l f4 i j
    else if f0 = 4 then MO l f4 i j
    else if f0 = 5 then f4.length = 1 ∧ (f3 < 0 ∨ f2 ≤ f3) ∧ Often f2 f3 (M1 l f4) i j
    else False
def MJ (l : List Int) : List TNode → Int → Int → Prop
  | [], i, j => i = j
  | y :: ys, i, j => ∃ t, M l y i t ∧ MJ l ys t j
def MO (l : List Int) : List TNode → Int → Int → Prop
  | [], i, j => False
  | y :: ys, i, j => M l y i j ∨ MO l ys i j
def M1 (l : List Int) : List TNode → Int → Int → Prop
  | [], i, j => False
  | y :: _, i, j => M l y i j
end
theorem M_eq (l : List Int) (x : TNode) (i j : Int) : M l x i j ↔ (if x.f0 = 1 then i = j
    else if x.f0 = 2 then i < (l.length : Int) ∧ hasM x.f1 (rd l i) = true ∧ j = i + 1
    else if x.f0 = 6 then i = 0 ∧ j = 0
    else if x.f0 = 7 then i = (l.length : Int) ∧ j = (l.length : Int)
    else if x.f0 = 3 then MJ l x.f4 i j
    else if x.f0 = 4 then MO l x.f4 i j
    else if x.f0 = 5 then x.f4.length = 1 ∧ (x.f3 < 0 ∨ x.f2 ≤ x.f3) ∧ Often x.f2 x.f3 (M1 l x.f4) i j
    else False) := by
  cases x
  rw [M]
section
variable (l : List Int) (x : TNode) (i j : Int)
theorem M_1 (h : x.f0 = 1) : M l x i j ↔ i = j := by rw [M_eq, h]; simp
theorem M_2 (h : x.f0 = 2) : M l x i j ↔ i < (l.length : Int) ∧ hasM x.f1 (rd l i) = true ∧ j = i + 1 := by rw [M_eq, h]; simp
theorem M_6 (h : x.f0 = 6) : M l x i j ↔ i = 0 ∧ j = 0 := by rw [M_eq, h]; simp
theorem M_7 (h : x.f0 = 7) : M l x i j ↔ i = (l.length : Int) ∧ j = (l.length : Int) := by rw [M_eq, h]; simp
theorem M_3 (h : x.f0 = 3) : M l x i j ↔ MJ l x.f4 i j := by rw [M_eq, h]; simp
theorem M_4 (h : x.f0 = 4) : M l x i j ↔ MO l x.f4 i j := by rw [M_eq, h]; simp
theorem M_5 (h : x.f0 = 5) : M l x i j ↔ x.f4.length = 1 ∧ (x.f3 < 0 ∨ x.f2 ≤ x.f3) ∧ Often x.f2 x.f3 (M1 l x.f4) i j := by rw [M_eq, h]; simp
theorem M_5' (h : x.f0 = 5) (y : TNode) (hy : x.f4 = [y]) : M l x i j ↔ (x.f3 < 0 ∨ x.f2 ≤ x.f3) ∧ Often x.f2 x.f3 (M l y) i j := by
  rw [M_5 l x i j h, hy, show M1 l [y] = M l y by funext a b; rw [M1]]
  simp
theorem M_0 (h : x.f0 < 1 ∨ x.f0 > 7) : ¬ M l x i j := by
  rw [M_eq, if_neg (by omega), if_neg (by omega), if_neg (by omega), if_neg (by omega), if_neg (by omega), if_neg (by omega), if_neg (by omega)]
  exact id
end
theorem MO_iff (l : List Int) (i j : Int) : ∀ ys : List TNode, MO l ys i j ↔ ∃ y ∈ ys, M l y i j
  | [] => by rw [MO]; simp
  | y :: ys => by rw [MO, MO_iff l i j ys]; simp
theorem MJ_one (l : List Int) (y : TNode) (i j : Int) : MJ l [y] i j ↔ M l y i j := by
  simp only [MJ]
  exact ⟨fun ⟨t, h1, h2⟩ => h2 ▸ h1, fun h => ⟨j, h, rfl⟩⟩
abbrev Bnd (n : Int) (R : Int → Int → Prop) : Prop := ∀ i j, R i j → 0 ≤ i → i ≤ n → i ≤ j ∧ j ≤ n
theorem bnd_times {n : Int} {R : Int → Int → Prop} (h : Bnd n R) : ∀ m, Bnd n (Times R m)
  | 0, i, j, hr, h1, h2 => by
    obtain rfl : i = j := hr
    omega
  | m + 1, i, j, ⟨t, hr, ht⟩, h1, h2 => by
    have := h i t hr h1 h2
    have := bnd_times h m t j ht (by omega) (by omega)
    omega
theorem bnd_often {n lo hi : Int} {R : Int → Int → Prop} (h : Bnd n R) : Bnd n (Often lo hi R) := fun i j ⟨m, _, _, ht⟩ h1 h2 => bnd_times h m i j ht h1 h2
theorem bnd_MJ (l : List Int) : ∀ ys : List TNode, (∀ y ∈ ys, Bnd (l.length : Int) (M l y)) → Bnd (l.length : Int) (MJ l ys)
  | [], h, i, j, hm, h1, h2 => by
    rw [MJ] at hm
    omega
  | y :: ys, h, i, j, hm, h1, h2 => by
    rw [MJ] at hm
    obtain ⟨t, ht, hm⟩ := hm
    have := h y (by simp) i t ht h1 h2
    have := bnd_MJ l ys (fun z hz => h z (by simp [hz])) t j hm (by omega) (by omega)
    omega
theorem bnd_M (l : List Int) (x : TNode) : Bnd (l.length : Int) (M l x) := by
  induction x using node_ind with
  | h x ih =>
    intro i j hm h1 h2
    rw [M_eq] at hm
    split at hm
    · omega
    split at hm
    · omega
    split at hm
    · omega
    split at hm
    · omega
    split at hm
    · exact bnd_MJ l _ ih i j hm h1 h2
    split at hm
    · obtain ⟨y, hy, hm⟩ := (MO_iff l i j _).1 hm
      exact ih y hy i j hm h1 h2
    split at hm
    · obtain ⟨hl, _, hm⟩ := hm
      obtain ⟨y, hy⟩ : ∃ y, x.f4 = [y] := List.length_eq_one_iff.1 hl
      rw [hy, show M1 l [y] = M l y by funext a b; rw [M1]] at hm
      exact bnd_often (ih y (by rw [hy]; simp)) i j hm h1 h2
    · exact hm.elim
abbrev Srt (xs : List Int) : Prop := xs.Pairwise (· < ·)
theorem srt_len : ∀ (a b : List Int), Srt a → Srt b → (∀ p ∈ a, p ∈ b) → a.length ≤ b.length ∧ (a.length = b.length → a = b)
  | [], b, _, _, _ => ⟨Nat.zero_le _, fun h => (List.length_eq_zero_iff.1 h.symm).symm⟩
  | p :: a, b, ha, hb, hs => by
    obtain ⟨u, v, rfl⟩ := List.append_of_mem (hs p (by simp))
    replace ha := List.pairwise_cons.1 ha
    have h2 : ∀ q ∈ a, q ∈ v := by
      intro q hq
      have h3 := hs q (by simp [hq])
      have h4 := ha.1 q hq
      rw [List.mem_append, List.mem_cons] at h3
      rcases h3 with h3 | h3 | h3
      · have := (List.pairwise_append.1 hb).2.2 q h3 p (by simp)
        omega
      · omega
      · exact h3
    have hv : Srt v := (List.pairwise_cons.1 (List.pairwise_append.1 hb).2.1).2
    obtain ⟨h5, h6⟩ := srt_len a v ha.2 hv h2
    constructor
    · simp only [List.length_cons, List.length_append]
      omega
    · intro hl
      simp only [List.length_cons, List.length_append] at hl
      have : u = [] := List.length_eq_zero_iff.1 (by omega)
      subst this
      rw [h6 (by omega), List.nil_append]
theorem srt_ext {a b : List Int} (ha : Srt a) (hb : Srt b) (h : ∀ p, p ∈ a ↔ p ∈ b) : a = b :=
  (srt_len a b ha hb fun p hp => (h p).1 hp).2 (Nat.le_antisymm (srt_len a b ha hb fun p hp => (h p).1 hp).1 (srt_len b a hb ha fun p hp => (h p).2 hp).1)
def upto (n : Nat) : List Int := (List.range (n + 1)).map fun i : Nat => (i : Int)
theorem upto_srt (n : Nat) : Srt (upto n) := by
  unfold upto Srt
  rw [List.pairwise_map]
  exact List.Pairwise.imp (fun h => by omega) List.pairwise_lt_range
theorem mem_upto (n : Nat) (p : Int) : p ∈ upto n ↔ 0 ≤ p ∧ p ≤ (n : Int) := by
  unfold upto
  simp only [List.mem_map, List.mem_range]
  exact ⟨fun ⟨i, h1, h2⟩ => by omega, fun h => ⟨p.toNat, by omega, by omega⟩⟩
theorem upto_len (n : Nat) : (upto n).length = n + 1 := by simp [upto]
open Classical in
/-- The places of a text that a tree matches up to, from a place. -/
noncomputable def endsM (l : List Int) (x : TNode) (i : Int) : List Int := (upto l.length).filter fun j => decide (M l x i j)
theorem endsM_srt (l : List Int) (x : TNode) (i : Int) : Srt (endsM l x i) := List.Pairwise.filter _ (upto_srt _)
open Classical in
theorem mem_endsM (l : List Int) (x : TNode) (i j : Int) (h : 0 ≤ i ∧ i ≤ (l.length : Int)) : j ∈ endsM l x i ↔ M l x i j := by
  unfold endsM
  rw [List.mem_filter, mem_upto, decide_eq_true_iff]
  exact ⟨fun h => h.2, fun hm => ⟨by have := bnd_M l x i j hm h.1 h.2; omega, hm⟩⟩
open Classical in
theorem endsM_congr {l m : List Int} {x y : TNode} {i : Int} (hlen : l.length = m.length) (h : ∀ j, M l x i j ↔ M m y i j) : endsM l x i = endsM m y i := by
  unfold endsM
  rw [hlen]
  congr 1
  funext j
  rw [Bool.eq_iff_iff, decide_eq_true_iff, decide_eq_true_iff]
  exact h j
end Go.Proofs.Ytaphbechnjmlgaa.P
namespace Go.Proofs.Ytaphbechnjmlgaa.P
open Go.RowKit Go.Proofs.YtaphbechnjmlgaaW.PrintWords Go.Proofs.YtaphbechnjmlgaaW.PrintLast
set_option linter.unusedVariables false
set_option linter.unusedSimpArgs false

theorem half_64 {i j : Nat} (h : i ≤ 1000) (h2 : j ≤ 1000) : wrap64 ((IntKind.u64.wrap (wrap64 ((i : Int) + (j : Int)))) / 2) = (((i + j) / 2 : Nat) : Int) := by
  rw [wrap_id (x := (i : Int) + (j : Int)) (by omega) (by omega), IntKind.wrap_u64, show ((i : Int) + (j : Int)) % 18446744073709551616 = (i : Int) + (j : Int) by omega, wrap_id (by omega) (by omega)]
  omega
theorem less_int (a b : Int) : cmp_Less_int.f a b = some (decide (a < b)) := by
  unfold cmp_Less_int.f cmp_isNaN_int.f
  simp
theorem rd_srt {xs : List Int} (hs : Srt xs) {a b : Nat} (h : a < b) (hb : b < xs.length) : rd xs (a : Int) < rd xs (b : Int) := by
  rw [rd_get xs a (by omega), rd_get xs b hb]
  exact List.pairwise_iff_getElem.1 hs a b (by omega) hb h
theorem mem_rd {xs : List Int} {p : Int} : p ∈ xs ↔ ∃ i : Nat, i < xs.length ∧ rd xs (i : Int) = p := by
  constructor
  · intro h
    obtain ⟨i, hi, rfl⟩ := List.getElem_of_mem h
    exact ⟨i, hi, rd_get xs i hi⟩
  · rintro ⟨i, hi, rfl⟩
    rw [rd_get xs i hi]
    exact List.getElem_mem hi
theorem bs_ok (xs : List Int) (p : Int) (hl : xs.length ≤ 500) (hs : Srt xs) : ∀ (k i j : Nat), i ≤ j → j ≤ xs.length → j - i < k → (∀ q : Nat, q < i → rd xs (q : Int) < p) → (∀ q : Nat, j ≤ q → q < xs.length → p ≤ rd xs (q : Int)) →
    ∃ m : Nat, m ≤ xs.length ∧ (∀ q : Nat, q < m → rd xs (q : Int) < p) ∧ (∀ q : Nat, m ≤ q → q < xs.length → p ≤ rd xs (q : Int)) ∧ slices_BinarySearch_deriv_set_int.l0 k xs p (xs.length : Int) (i : Int) (j : Int) = some ((m : Int), decide (p ∈ xs))
  | 0, i, j, _, _, h, _, _ => absurd h (by omega)
  | k + 1, i, j, hij, hj, hf, h1, h2 => by
    by_cases c : i < j
    · have hm := half_64 (i := i) (j := j) (by omega) (by omega)
      obtain ⟨h, hh⟩ : ∃ h, (i + j) / 2 = h := ⟨_, rfl⟩
      have e1 : i ≤ h := by omega
      have e2 : h < j := by omega
      rw [hh] at hm
      by_cases c2 : rd xs (h : Int) < p
      · obtain ⟨m, a1, a2, a3, a4⟩ := bs_ok xs p hl hs k (h + 1) j (by omega) hj (by omega) (fun q hq => by
          rcases Nat.lt_or_ge q h with hq2 | hq2
          · have := rd_srt hs hq2 (by omega)
            omega
          · obtain rfl : q = h := by omega
            exact c2) h2
        refine ⟨m, a1, a2, a3, ?_⟩
        unfold slices_BinarySearch_deriv_set_int.l0
        rw [if_pos (by omega), hm, if_pos (by omega), if_pos (by omega), less_int, Option.bind_some, if_pos (decide_eq_true c2), wrap_succ h (by omega)]
        exact a4
      · obtain ⟨m, a1, a2, a3, a4⟩ := bs_ok xs p hl hs k i h (by omega) (by omega) (by omega) h1 (fun q hq hq2 => by
          rcases Nat.lt_or_ge h q with hq3 | hq3
          · have := rd_srt hs hq3 hq2
            omega
          · obtain rfl : q = h := by omega
            omega)
        refine ⟨m, a1, a2, a3, ?_⟩
        unfold slices_BinarySearch_deriv_set_int.l0
        rw [if_pos (by omega), hm, if_pos (by omega), if_pos (by omega), less_int, Option.bind_some, if_neg (by rw [decide_eq_false c2]; decide)]
        exact a4
    · obtain rfl : i = j := by omega
      refine ⟨i, hj, h1, h2, ?_⟩
      unfold slices_BinarySearch_deriv_set_int.l0
      rw [if_neg (by omega)]
      by_cases c3 : i < xs.length
      · rw [if_pos (by omega), if_pos (by omega), if_pos (by omega)]
        by_cases c4 : rd xs (i : Int) = p
        · rw [if_pos c4, decide_eq_true (mem_rd.2 ⟨i, c3, c4⟩)]
        · have hn : ¬ p ∈ xs := by
            intro hp
            obtain ⟨q, hq, hq2⟩ := mem_rd.1 hp
            rcases Nat.lt_trichotomy q i with h | h | h
            · have := h1 q h
              omega
            · subst h
              exact c4 hq2
            · have := rd_srt hs h hq
              have := h2 i (by omega) c3
              omega
          rw [if_neg c4, decide_eq_false hn]
          simp [slices_isNaN_int.f]
      · have hn : ¬ p ∈ xs := by
          intro hp
          obtain ⟨q, hq, hq2⟩ := mem_rd.1 hp
          have := h1 q (by omega)
          omega
        rw [if_neg (by omega), decide_eq_false hn]
/-- A set of places of a text. -/
structure SetOK (n : Nat) (xs : List Int) : Prop where
  srt : Srt xs
  rng : ∀ p ∈ xs, 0 ≤ p ∧ p ≤ (n : Int)
theorem SetOK.len {n : Nat} {xs : List Int} (h : SetOK n xs) : xs.length ≤ n + 1 := by
  have := (srt_len xs (upto n) h.srt (upto_srt n) (fun p hp => (mem_upto n p).2 (h.rng p hp))).1
  rw [upto_len] at this
  exact this
theorem setOK_nil (n : Nat) : SetOK n [] := ⟨List.Pairwise.nil, fun p hp => by simp at hp⟩
theorem setOK_one {n : Nat} {p : Int} (h : 0 ≤ p ∧ p ≤ (n : Int)) : SetOK n [p] := ⟨by simp [Srt], fun q hq => by simp at hq; omega⟩
theorem with_ok {n k : Nat} (hn : n ≤ 64) (hk : 100 ≤ k) {xs : List Int} (hx : SetOK n xs) {p : Int} (hp : 0 ≤ p ∧ p ≤ (n : Int)) :
    ∃ ys, withS k xs p = some ys ∧ SetOK n ys ∧ ∀ q, q ∈ ys ↔ q = p ∨ q ∈ xs := by
  have hl := hx.len
  obtain ⟨m, h1, h2, h3, h4⟩ := bs_ok xs p (by omega) hx.srt k 0 xs.length (by omega) (by omega) (by omega) (fun q hq => absurd hq (by omega)) (fun q h h' => absurd h' (by omega))
  have h5 : slices_BinarySearch_deriv_set_int.f k xs p = some ((m : Int), decide (p ∈ xs)) := h4
  unfold withS
  rw [h5, Option.bind_some]
  by_cases c : p ∈ xs
  · rw [if_pos (decide_eq_true c)]
    exact ⟨xs, rfl, hx, fun q => ⟨fun h => .inr h, fun h => by rcases h with rfl | h; exact c; exact h⟩⟩
  · have hc : ¬ (((m : Int), decide (p ∈ xs)) : Int × Bool).2 = true := by simp [c]
    rw [if_neg hc, if_pos ⟨by simp, by simp only []; omega, by omega⟩]
    refine ⟨_, rfl, ⟨?_, ?_⟩, ?_⟩
    · simp only [Int.toNat_natCast]
      refine List.pairwise_append.2 ⟨List.Pairwise.sublist (List.take_sublist m xs) hx.srt, List.pairwise_cons.2 ⟨?_, List.Pairwise.sublist (List.drop_sublist m xs) hx.srt⟩, ?_⟩
      · intro q hq
        obtain ⟨i, hi, hq2⟩ := List.getElem_of_mem hq
        rw [List.getElem_drop] at hq2
        rw [List.length_drop] at hi
        have := h3 (m + i) (by omega) (by omega)
        rw [rd_get xs _ (by omega), hq2] at this
        rcases Int.lt_or_eq_of_le this with h | h
        · exact h
        · exact absurd (h ▸ List.mem_of_mem_drop hq) c
      · intro a ha q hq
        obtain ⟨i, hi, ha2⟩ := List.getElem_of_mem ha
        rw [List.length_take] at hi
        rw [List.getElem_take] at ha2
        have h6 := h2 i (by omega)
        rw [rd_get xs _ (by omega), ha2] at h6
        rcases List.mem_cons.1 hq with rfl | hq
        · exact h6
        · obtain ⟨j, hj, hq2⟩ := List.getElem_of_mem hq
          rw [List.getElem_drop] at hq2
          rw [List.length_drop] at hj
          have := h3 (m + j) (by omega) (by omega)
          rw [rd_get xs _ (by omega), hq2] at this
          omega
    · intro q hq
      simp only [Int.toNat_natCast] at hq
      rcases List.mem_append.1 hq with h | h
      · exact hx.rng q (List.mem_of_mem_take h)
      · rcases List.mem_cons.1 h with rfl | h
        · exact hp
        · exact hx.rng q (List.mem_of_mem_drop h)
    · intro q
      simp only [Int.toNat_natCast]
      rw [List.mem_append, List.mem_cons]
      constructor
      · rintro (h | h | h)
        · exact .inr (List.mem_of_mem_take h)
        · exact .inl h
        · exact .inr (List.mem_of_mem_drop h)
      · rintro (h | h)
        · exact .inr (.inl h)
        · rw [← List.take_append_drop m xs, List.mem_append] at h
          rcases h with h | h
          · exact .inl h
          · exact .inr (.inr h)
theorem withs_ok {n k : Nat} (hn : n ≤ 64) (hk : 100 ≤ k) : ∀ (ps : List Int) {xs : List Int}, SetOK n xs → (∀ p ∈ ps, 0 ≤ p ∧ p ≤ (n : Int)) →
    ∃ ys, withsS k ps xs = some ys ∧ SetOK n ys ∧ ∀ q, q ∈ ys ↔ q ∈ ps ∨ q ∈ xs
  | [], xs, hx, _ => ⟨xs, rfl, hx, fun q => by simp⟩
  | p :: ps, xs, hx, hp => by
    obtain ⟨ys, e1, h1, h2⟩ := with_ok hn hk hx (hp p (by simp))
    obtain ⟨zs, e2, h3, h4⟩ := withs_ok hn hk ps h1 (fun q hq => hp q (by simp [hq]))
    refine ⟨zs, by rw [withsS, e1, Option.bind_some, e2], h3, fun q => ?_⟩
    rw [h4, h2, List.mem_cons]
    constructor
    · rintro (h | h | h)
      · exact .inl (.inr h)
      · exact .inl (.inl h)
      · exact .inr h
    · rintro ((h | h) | h)
      · exact .inr (.inl h)
      · exact .inl h
      · exact .inr (.inr h)
/-- What is reached by a relation from some places. -/
abbrev Img (R : Int → Int → Prop) (xs : List Int) (j : Int) : Prop := ∃ i ∈ xs, R i j
/-- A step answers what a relation reaches. -/
def Lifts (n : Nat) (R : Int → Int → Prop) (f : List Int → Option (List Int)) : Prop := ∀ xs, SetOK n xs → ∃ r, f xs = some r ∧ SetOK n r ∧ ∀ j, j ∈ r ↔ Img R xs j
theorem set_ok {k : Nat} (hk : 100 ≤ k) (rl : List TRange) (l : List Int) (hl : l.length ≤ 64) : ∀ (ps xs : List Int), SetOK l.length xs → (∀ p ∈ ps, 0 ≤ p ∧ p ≤ (l.length : Int)) →
    ∃ ys, setL k rl l ps xs = some ys ∧ SetOK l.length ys ∧ ∀ q, q ∈ ys ↔ (∃ i ∈ ps, i < (l.length : Int) ∧ hasM rl (rd l i) = true ∧ q = i + 1) ∨ q ∈ xs
  | [], xs, hx, _ => ⟨xs, rfl, hx, fun q => by simp⟩
  | p :: ps, xs, hx, hp => by
    have hp0 := hp p (by simp)
    have hps : ∀ q ∈ ps, 0 ≤ q ∧ q ≤ (l.length : Int) := fun q hq => hp q (by simp [hq])
    rw [setL]
    by_cases c : p < (l.length : Int)
    · rw [if_pos c, if_pos hp0.1]
      by_cases c2 : hasM rl (rd l p) = true
      · rw [if_pos c2, wrap_id (by omega) (by omega)]
        obtain ⟨ys, e1, h1, h2⟩ := with_ok (p := p + 1) hl hk hx (by omega)
        obtain ⟨zs, e2, h3, h4⟩ := set_ok hk rl l hl ps ys h1 hps
        refine ⟨zs, by rw [e1, Option.bind_some, e2], h3, fun q => ?_⟩
        rw [h4, h2]
        constructor
        · rintro (⟨i, h, h'⟩ | h | h)
          · exact .inl ⟨i, by simp [h], h'⟩
          · exact .inl ⟨p, by simp, c, c2, h⟩
          · exact .inr h
        · rintro (⟨i, h, h'⟩ | h)
          · rcases List.mem_cons.1 h with rfl | h
            · exact .inr (.inl h'.2.2)
            · exact .inl ⟨i, h, h'⟩
          · exact .inr (.inr h)
      · rw [if_neg c2]
        obtain ⟨zs, e2, h3, h4⟩ := set_ok hk rl l hl ps xs hx hps
        refine ⟨zs, e2, h3, fun q => ?_⟩
        rw [h4]
        constructor
        · rintro (⟨i, h, h'⟩ | h)
          · exact .inl ⟨i, by simp [h], h'⟩
          · exact .inr h
        · rintro (⟨i, h, h'⟩ | h)
          · rcases List.mem_cons.1 h with rfl | h
            · exact absurd h'.2.1 c2
            · exact .inl ⟨i, h, h'⟩
          · exact .inr h
    · rw [if_neg c]
      obtain ⟨zs, e2, h3, h4⟩ := set_ok hk rl l hl ps xs hx hps
      refine ⟨zs, e2, h3, fun q => ?_⟩
      rw [h4]
      constructor
      · rintro (⟨i, h, h'⟩ | h)
        · exact .inl ⟨i, by simp [h], h'⟩
        · exact .inr h
      · rintro (⟨i, h, h'⟩ | h)
        · rcases List.mem_cons.1 h with rfl | h
          · exact absurd h'.1 c
          · exact .inl ⟨i, h, h'⟩
        · exact .inr h
theorem index_ok (xs : List Int) (p : Int) (hl : xs.length ≤ 500) (d : Nat) : ∀ (k i : Nat), i + d = xs.length → d < k → ∃ m : Int, slices_Index_deriv_set_int.l0 k xs p (xs.length : Int) (i : Int) = some m ∧ (0 ≤ m ↔ p ∈ xs.drop i) := by
  induction d with
  | zero =>
    intro k i hi hk
    obtain ⟨k, rfl⟩ : ∃ m, k = m + 1 := ⟨k - 1, by omega⟩
    refine ⟨-1, ?_, ?_⟩
    · unfold slices_Index_deriv_set_int.l0
      rw [if_neg (by omega)]
    · rw [List.drop_eq_nil_of_le (by omega)]
      simp
  | succ d ih =>
    intro k i hi hk
    obtain ⟨k, rfl⟩ : ∃ m, k = m + 1 := ⟨k - 1, by omega⟩
    rw [drop_cons xs i (by omega)]
    unfold slices_Index_deriv_set_int.l0
    rw [if_pos (by omega), if_pos (by omega), if_pos (by omega)]
    by_cases c : p = rd xs (i : Int)
    · exact ⟨i, by rw [if_pos c], by simp [c]⟩
    · obtain ⟨m, h1, h2⟩ := ih k (i + 1) (by omega) (by omega)
      refine ⟨m, by rw [if_neg c, wrap_succ i (by omega), h1], ?_⟩
      rw [h2, List.mem_cons]
      simp [c]
theorem contains_ok (k : Nat) (xs : List Int) (p : Int) (hl : xs.length ≤ 500) (hk : xs.length < k) : slices_Contains_deriv_set_int.f k xs p = some (decide (p ∈ xs)) := by
  obtain ⟨m, h1, h2⟩ := index_ok xs p hl xs.length k 0 (by omega) hk
  unfold slices_Contains_deriv_set_int.f
  rw [show slices_Index_deriv_set_int.f k xs p = some m from h1, Option.bind_some]
  rw [List.drop_zero] at h2
  rw [Option.some.injEq, decide_eq_decide]
  exact h2
theorem edge_ok {n k : Nat} (hn : n ≤ 64) (hk : 100 ≤ k) (e : Int) (he : 0 ≤ e ∧ e ≤ (n : Int)) : Lifts n (fun i j => i = e ∧ j = e) (edgeS k e) := by
  intro xs hx
  have hl := hx.len
  unfold edgeS
  rw [contains_ok k xs e (by omega) (by omega), Option.map_some]
  by_cases c : e ∈ xs
  · rw [if_pos (decide_eq_true c)]
    refine ⟨_, rfl, setOK_one he, fun j => ?_⟩
    rw [List.mem_singleton]
    exact ⟨fun h => ⟨e, c, rfl, h⟩, fun ⟨i, _, _, h⟩ => h⟩
  · rw [if_neg (by simp [c])]
    refine ⟨_, rfl, setOK_nil n, fun j => ?_⟩
    simp only [List.not_mem_nil, false_iff]
    rintro ⟨i, h, rfl, _⟩
    exact c h
theorem join_ok {n : Nat} (l : List Int) (f : DNode → List Int → Option (List Int)) : ∀ ys : List DNode, (∀ y ∈ ys, Lifts n (M l y) (f y)) → Lifts n (MJ l ys) (joinRS f ys)
  | [], _, xs, hx => ⟨xs, rfl, hx, fun j => by simp [MJ]⟩
  | y :: ys, h, xs, hx => by
    obtain ⟨r, e1, h1, h2⟩ := h y (by simp) xs hx
    obtain ⟨s, e2, h3, h4⟩ := join_ok l f ys (fun z hz => h z (by simp [hz])) r h1
    refine ⟨s, by rw [joinRS, e1, Option.bind_some, e2], h3, fun j => ?_⟩
    rw [h4]
    constructor
    · rintro ⟨t, ht, hm⟩
      obtain ⟨i, hi, hr⟩ := (h2 t).1 ht
      exact ⟨i, hi, by rw [MJ]; exact ⟨t, hr, hm⟩⟩
    · rintro ⟨i, hi, hm⟩
      rw [MJ] at hm
      obtain ⟨t, hr, hm⟩ := hm
      exact ⟨t, (h2 t).2 ⟨i, hi, hr⟩, hm⟩
theorem or_ok {n k : Nat} (hn : n ≤ 64) (hk : 100 ≤ k) (l : List Int) (at_ : List Int) (f : DNode → Option (List Int)) : ∀ (ys : List DNode) (xs : List Int), (∀ y ∈ ys, ∃ r, f y = some r ∧ SetOK n r ∧ ∀ j, j ∈ r ↔ Img (M l y) at_ j) → SetOK n xs →
    ∃ r, orRS k f ys xs = some r ∧ SetOK n r ∧ ∀ j, j ∈ r ↔ Img (MO l ys) at_ j ∨ j ∈ xs
  | [], xs, _, hx => ⟨xs, rfl, hx, fun j => by simp [MO]⟩
  | y :: ys, xs, h, hx => by
    obtain ⟨r, e1, h1, h2⟩ := h y (by simp)
    obtain ⟨t, e2, h3, h4⟩ := withs_ok hn hk r hx h1.rng
    obtain ⟨s, e3, h5, h6⟩ := or_ok hn hk l at_ f ys t (fun z hz => h z (by simp [hz])) h3
    refine ⟨s, by rw [orRS, e1, Option.bind_some, e2, Option.bind_some, e3], h5, fun j => ?_⟩
    rw [h6, h4, h2]
    constructor
    · rintro (⟨i, hi, hm⟩ | ⟨i, hi, hm⟩ | hm)
      · exact .inl ⟨i, hi, by rw [MO]; exact .inr hm⟩
      · exact .inl ⟨i, hi, by rw [MO]; exact .inl hm⟩
      · exact .inr hm
    · rintro (⟨i, hi, hm⟩ | hm)
      · rw [MO] at hm
        rcases hm with hm | hm
        · exact .inr (.inl ⟨i, hi, hm⟩)
        · exact .inl ⟨i, hi, hm⟩
      · exact .inr (.inr hm)
end Go.Proofs.Ytaphbechnjmlgaa.P
namespace Go.Proofs.Ytaphbechnjmlgaa.P
open Go.RowKit Go.Proofs.YtaphbechnjmlgaaW.PrintWords Go.Proofs.YtaphbechnjmlgaaW.PrintLast
set_option linter.unusedVariables false
set_option linter.unusedSimpArgs false

theorem times_ok {n : Nat} {R : Int → Int → Prop} {f : List Int → Option (List Int)} (hf : Lifts n R f) : ∀ m, Lifts n (Times R m) (timesRS f m)
  | 0 => fun xs hx => ⟨xs, rfl, hx, fun j => by simp [Times]⟩
  | m + 1 => fun xs hx => by
    obtain ⟨r, e1, h1, h2⟩ := hf xs hx
    obtain ⟨s, e2, h3, h4⟩ := times_ok hf m r h1
    refine ⟨s, by rw [timesRS, e1, Option.bind_some, e2], h3, fun j => ?_⟩
    rw [h4]
    constructor
    · rintro ⟨t, ht, hm⟩
      obtain ⟨i, hi, hr⟩ := (h2 t).1 ht
      exact ⟨i, hi, t, hr, hm⟩
    · rintro ⟨i, hi, t, hr, hm⟩
      exact ⟨t, (h2 t).2 ⟨i, hi, hr⟩, hm⟩
theorem img_right {R : Int → Int → Prop} {at_ : List Int} {m : Nat} {j : Int} : Img (Times R (m + 1)) at_ j ↔ ∃ t, Img (Times R m) at_ t ∧ R t j := by
  constructor
  · rintro ⟨i, hi, h⟩
    obtain ⟨t, h1, h2⟩ := (times_right R m i j).1 h
    exact ⟨t, ⟨i, hi, h1⟩, h2⟩
  · rintro ⟨t, ⟨i, hi, h1⟩, h2⟩
    exact ⟨i, hi, (times_right R m i j).2 ⟨t, h1, h2⟩⟩
theorem more_ok {n k : Nat} (hn : n ≤ 64) (hk : 100 ≤ k) {R : Int → Int → Prop} {f : List Int → Option (List Int)} (hf : Lifts n R f) (at_ : List Int) (lo : Nat) (hi : Int) : ∀ (fuel d m : Nat) (last all : List Int),
    d < fuel → lo ≤ m → m + d ≤ 1000 → (hi < 0 ∨ (m : Int) ≤ hi) → SetOK n last → SetOK n all → (∀ j, j ∈ last ↔ Img (Times R m) at_ j) → (∀ j, j ∈ all ↔ ∃ m' : Nat, lo ≤ m' ∧ m' ≤ m ∧ Img (Times R m') at_ j) →
    (hi < 0 → n + 1 ≤ all.length + d) → (0 ≤ hi → hi ≤ (m : Int) + (d : Int)) → ∃ r, moreS k f hi fuel (m : Int) last all = some r ∧ SetOK n r ∧ ∀ j, j ∈ r ↔ Img (Often (lo : Int) hi R) at_ j
  | 0, d, m, last, all, h, _, _, _, _, _, _, _, _, _ => absurd h (by omega)
  | fuel + 1, d, m, last, all, hd, hlo, hmd, hm, hl, ha, il, ia, d1, d2 => by
    rw [moreS]
    by_cases c : hi < 0 ∨ (m : Int) < hi
    · rw [if_pos c]
      obtain ⟨l2, e1, h1, h2⟩ := hf last hl
      obtain ⟨a2, e2, h3, h4⟩ := withs_ok hn hk l2 ha h1.rng
      have il2 : ∀ j, j ∈ l2 ↔ Img (Times R (m + 1)) at_ j := by
        intro j
        rw [h2, img_right]
        exact ⟨fun ⟨t, ht, hr⟩ => ⟨t, (il t).1 ht, hr⟩, fun ⟨t, ht, hr⟩ => ⟨t, (il t).2 ht, hr⟩⟩
      have ia2 : ∀ j, j ∈ a2 ↔ ∃ m' : Nat, lo ≤ m' ∧ m' ≤ m + 1 ∧ Img (Times R m') at_ j := by
        intro j
        rw [h4, il2, ia]
        constructor
        · rintro (h | ⟨m', q1, q2, q3⟩)
          · exact ⟨m + 1, by omega, by omega, h⟩
          · exact ⟨m', q1, by omega, q3⟩
        · rintro ⟨m', q1, q2, q3⟩
          by_cases cm : m' = m + 1
          · subst cm
            exact .inl q3
          · exact .inr ⟨m', q1, by omega, q3⟩
      have hsub := srt_len all a2 ha.srt h3.srt (fun p hp => (h4 p).2 (.inr hp))
      rw [e1, Option.bind_some, e2, Option.bind_some]
      by_cases st : (a2.length = all.length ∧ hi < 0) ∨ l2.length = 0
      · rw [if_pos st]
        refine ⟨a2, rfl, h3, fun j => ?_⟩
        rw [ia2]
        constructor
        · rintro ⟨m', q1, q2, i, q3, q4⟩
          exact ⟨i, q3, m', by omega, by omega, q4⟩
        · rintro ⟨i, q3, m', q1, q2, q4⟩
          rcases st with ⟨st, _⟩ | st
          · have heq := hsub.2 st.symm
            have cl : ∀ c : Nat, ∀ j, Img (Times R (lo + c)) at_ j → j ∈ all := by
              intro c
              induction c with
              | zero =>
                intro j h
                exact (ia j).2 ⟨lo, by omega, by omega, h⟩
              | succ c ih =>
                intro j h
                obtain ⟨t, q5, q6⟩ := img_right.1 h
                obtain ⟨m'', q7, q8, q9⟩ := (ia t).1 (ih t q5)
                rw [heq]
                exact (ia2 j).2 ⟨m'' + 1, by omega, by omega, img_right.2 ⟨t, q9, q6⟩⟩
            have := cl (m' - lo) j (by rw [show lo + (m' - lo) = m' by omega]; exact ⟨i, q3, q4⟩)
            rw [heq] at this
            exact (ia2 j).1 this
          · by_cases cm : m' ≤ m + 1
            · exact ⟨m', by omega, cm, i, q3, q4⟩
            · rw [show m' = (m + 1) + (m' - (m + 1)) by omega] at q4
              obtain ⟨t, q5, q6⟩ := (times_add R _ _ i j).1 q4
              have := (il2 t).2 ⟨i, q3, q5⟩
              rw [List.length_eq_zero_iff.1 st] at this
              simp at this
      · rw [if_neg st, wrap_succ m (by omega)]
        have hl3 := h3.len
        refine more_ok hn hk hf at_ lo hi fuel (d - 1) (m + 1) l2 a2 ?_ (by omega) ?_ (by omega) h1 h3 il2 ia2 ?_ ?_
        · rcases c with c | c
          · have := d1 c
            have : a2.length ≠ all.length := fun h => st (.inl ⟨h, c⟩)
            omega
          · have := d2 (by omega)
            omega
        · rcases c with c | c
          · have := d1 c
            have : a2.length ≠ all.length := fun h => st (.inl ⟨h, c⟩)
            omega
          · have := d2 (by omega)
            omega
        · intro c
          have := d1 c
          have : a2.length ≠ all.length := fun h => st (.inl ⟨h, c⟩)
          omega
        · intro c2
          have := d2 c2
          omega
    · rw [if_neg c]
      refine ⟨all, rfl, ha, fun j => ?_⟩
      rw [ia]
      constructor
      · rintro ⟨m', q1, q2, i, q3, q4⟩
        exact ⟨i, q3, m', by omega, by omega, q4⟩
      · rintro ⟨i, q3, m', q1, q2, q4⟩
        exact ⟨m', by omega, by omega, i, q3, q4⟩
theorem again_ok {n k : Nat} (hn : n ≤ 64) (hk : 200 ≤ k) {R : Int → Int → Prop} {f : List Int → Option (List Int)} (hf : Lifts n R f) (lo hi : Int) (h0 : 0 ≤ lo ∧ lo ≤ 20) (h1 : hi ≤ 20) (h2 : hi < 0 ∨ lo ≤ hi) : Lifts n (Often lo hi R) (againS k f lo hi) := by
  intro xs hx
  obtain ⟨r, e1, h3, h4⟩ := times_ok hf lo.toNat xs hx
  obtain ⟨s, e2, h5, h6⟩ := more_ok (k := k) hn (by omega) hf xs lo.toNat hi k 100 lo.toNat r r (by omega) (by omega) (by omega) (by omega) h3 h3 h4 (fun j => by
    rw [h4]
    constructor
    · intro h
      exact ⟨_, Nat.le_refl _, Nat.le_refl _, h⟩
    · rintro ⟨m', q1, q2, q3⟩
      rw [show lo.toNat = m' by omega]
      exact q3) (by omega) (by omega)
  rw [show ((lo.toNat : Nat) : Int) = lo by omega] at e2 h6
  exact ⟨s, by rw [againS, if_pos (by omega), e1, Option.bind_some, e2], h5, h6⟩
/-- Bounds of repeats that are not great. -/
inductive GoodN : TNode → Prop
  | mk (x : TNode) (h : x.f0 = 5 → 0 ≤ x.f2 ∧ x.f2 ≤ 20 ∧ x.f3 ≤ 20) (hk : ∀ y ∈ x.f4, GoodN y) : GoodN x
mutual
/-- How deep a tree is. -/
def dep : TNode → Nat
  | ⟨_, _, _, _, f4⟩ => deps f4 + 1
def deps : List TNode → Nat
  | [] => 0
  | y :: ys => max (dep y) (deps ys)
end
theorem dep_mem : ∀ (ys : List TNode) (y : TNode), y ∈ ys → dep y ≤ deps ys
  | z :: ys, y, h => by
    rw [deps]
    rcases List.mem_cons.1 h with rfl | h
    · omega
    · have := dep_mem ys y h
      omega
theorem dep_eq (x : TNode) : dep x = deps x.f4 + 1 := by
  cases x
  rw [dep]
theorem dep_kid {x y : TNode} (h : y ∈ x.f4) : dep y < dep x := by
  have := dep_mem _ y h
  rw [dep_eq x]
  omega
theorem reach_ok {k : Nat} (hk : 200 ≤ k) (l : List Int) (hl : l.length ≤ 64) (x : TNode) : GoodN x → ∀ m, dep x ≤ m → Lifts l.length (M l x) (reachS k l m x) := by
  induction x using node_ind with
  | h x ih =>
    rintro ⟨_, hg, hgk⟩ m hm
    obtain ⟨m, rfl⟩ : ∃ m', m = m' + 1 := ⟨m - 1, by rw [dep_eq] at hm; omega⟩
    have ihk : ∀ y ∈ x.f4, Lifts l.length (M l y) (reachS k l m y) := fun y hy => ih y hy (hgk y hy) m (by have := dep_kid hy; omega)
    intro xs hx
    rw [reachS]
    by_cases c1 : x.f0 = 1
    · rw [if_pos c1]
      refine ⟨xs, rfl, hx, fun j => ?_⟩
      simp [Img, M_1 l x _ j c1]
    rw [if_neg c1]
    by_cases c2 : x.f0 = 2
    · rw [if_pos c2]
      obtain ⟨r, e1, h1, h2⟩ := set_ok (by omega : 100 ≤ k) x.f1 l hl xs [] (setOK_nil _) hx.rng
      refine ⟨r, e1, h1, fun j => ?_⟩
      rw [h2]
      simp only [List.not_mem_nil, or_false, Img, M_2 l x _ j c2]
    rw [if_neg c2]
    by_cases c6 : x.f0 = 6
    · rw [if_pos c6]
      obtain ⟨r, e1, h1, h2⟩ := edge_ok hl (by omega : 100 ≤ k) 0 (by omega) xs hx
      refine ⟨r, e1, h1, fun j => ?_⟩
      rw [h2]
      simp only [Img, M_6 l x _ j c6]
    rw [if_neg c6]
    by_cases c7 : x.f0 = 7
    · rw [if_pos c7]
      obtain ⟨r, e1, h1, h2⟩ := edge_ok hl (by omega : 100 ≤ k) (l.length : Int) (by omega) xs hx
      refine ⟨r, e1, h1, fun j => ?_⟩
      rw [h2]
      simp only [Img, M_7 l x _ j c7]
    rw [if_neg c7]
    by_cases c3 : x.f0 = 3
    · rw [if_pos c3]
      obtain ⟨r, e1, h1, h2⟩ := join_ok l (reachS k l m) x.f4 ihk xs hx
      refine ⟨r, e1, h1, fun j => ?_⟩
      rw [h2]
      simp only [Img, M_3 l x _ j c3]
    rw [if_neg c3]
    by_cases c4 : x.f0 = 4
    · rw [if_pos c4]
      obtain ⟨r, e1, h1, h2⟩ := or_ok hl (by omega : 100 ≤ k) l xs (fun y => reachS k l m y xs) x.f4 [] (fun y hy => ihk y hy xs hx) (setOK_nil _)
      refine ⟨r, e1, h1, fun j => ?_⟩
      rw [h2]
      simp only [List.not_mem_nil, or_false, Img, M_4 l x _ j c4]
    rw [if_neg c4]
    by_cases c5 : x.f0 = 5
    · rw [if_pos c5]
      by_cases cl : x.f4.length = 1 ∧ (x.f3 < 0 ∨ x.f3 ≥ x.f2)
      · rw [if_pos cl]
        obtain ⟨y, hy⟩ : ∃ y, x.f4 = [y] := List.length_eq_one_iff.1 cl.1
        have hyl := ihk y (by rw [hy]; simp)
        rw [show x.f4.getD 0 z25 = y by rw [hy]; rfl]
        obtain ⟨r, e1, h1, h2⟩ := again_ok hl hk hyl x.f2 x.f3 ⟨(hg c5).1, (hg c5).2.1⟩ (hg c5).2.2 (by omega) xs hx
        refine ⟨r, e1, h1, fun j => ?_⟩
        rw [h2]
        have : x.f3 < 0 ∨ x.f2 ≤ x.f3 := by omega
        simp only [Img, M_5' l x _ j c5 y hy, this, true_and]
      · rw [if_neg cl]
        refine ⟨[], rfl, setOK_nil _, fun j => ?_⟩
        simp only [List.not_mem_nil, false_iff]
        rintro ⟨i, _, h⟩
        rw [M_5 l x i j c5] at h
        exact cl ⟨h.1, by omega⟩
    · rw [if_neg c5]
      refine ⟨[], rfl, setOK_nil _, fun j => ?_⟩
      simp only [List.not_mem_nil, false_iff]
      rintro ⟨i, _, h⟩
      exact M_0 l x i j (by omega) h
theorem ends_ok {k : Nat} (l : List Int) (hl : l.length ≤ 64) (x : TNode) (hg : GoodN x) (hk : 200 ≤ k) (hd : dep x ≤ k) (a : Int) (ha : 0 ≤ a ∧ a ≤ (l.length : Int)) : endsS k x l a = some (endsM l x a) := by
  unfold endsS
  rw [if_neg (by omega)]
  obtain ⟨r, e, h1, h2⟩ := reach_ok hk l hl x hg k hd [a] (setOK_one ha)
  rw [e]
  congr 1
  refine srt_ext h1.srt (endsM_srt l x a) fun j => ?_
  rw [h2, mem_endsM l x a j ha]
  simp [Img]
end Go.Proofs.Ytaphbechnjmlgaa.P
namespace Go.Proofs.Ytaphbechnjmlgaa.P
open Go.RowKit Go.Proofs.YtaphbechnjmlgaaW.PrintWords Go.Proofs.YtaphbechnjmlgaaW.PrintLast
set_option linter.unusedVariables false
set_option linter.unusedSimpArgs false

theorem allP_ev : ∀ l : List TNode, (∀ y ∈ l, ∃ b, Ev (fun k => parsedS k y) b ∧ (b = true → GoodN y)) → ∃ b, Ev (fun k => allP (parsedS k) l) b ∧ (b = true → ∀ y ∈ l, GoodN y)
  | [], _ => ⟨true, ev_now fun k => rfl, fun _ y hy => by simp at hy⟩
  | y :: l, h => by
    obtain ⟨b, e1, h1⟩ := h y (by simp)
    obtain ⟨c, e2, h2⟩ := allP_ev l (fun z hz => h z (by simp [hz]))
    cases b with
    | false => exact ⟨false, ev_same e1 fun k e => by rw [allP, e, Option.bind_some, if_neg (by decide)], fun h => by cases h⟩
    | true =>
      refine ⟨c, ev_same2 e1 e2 fun k e e' => by rw [allP, e, Option.bind_some, if_pos rfl]; exact e', fun hc z hz => ?_⟩
      rcases List.mem_cons.1 hz with rfl | hz
      · exact h1 rfl
      · exact h2 hc z hz
theorem parsed_ev (x : TNode) : ∃ b, Ev (fun k => parsedS k x) b ∧ (b = true → GoodN x) := by
  induction x using node_ind with
  | h x ih =>
    by_cases c : badP x = true
    · exact ⟨false, ev_one fun k => by rw [parsedS, if_pos c], fun h => by cases h⟩
    · obtain ⟨b, e, h⟩ := allP_ev x.f4 ih
      refine ⟨b, ev_step e fun k e => by rw [parsedS, if_neg c]; exact e, fun hb => ⟨x, fun h5 => ?_, h hb⟩⟩
      simp only [badP, Bool.not_eq_true, Bool.or_eq_false_iff, Bool.and_eq_false_iff, decide_eq_false_iff_not] at c
      omega
abbrev smallE (k : Nat) (x : TNode) (l : List Int) : Option Bool := ductuslaw18_small.f k x.f0 x.f1 x.f2 x.f3 x.f4 l
theorem small_ev (x : TNode) (l : List Int) (hw : WfN x) : ∃ b, Ev (fun k => smallE k x l) b ∧ (b = true → l.length ≤ 40 ∧ GoodN x) := by
  obtain ⟨W, e1, _⟩ := weight_ev x hw 0 (by omega)
  obtain ⟨b, e2, h2⟩ := parsed_ev x
  by_cases c1 : W ≤ 300
  · by_cases c2 : (l.length : Int) ≤ 40
    · refine ⟨b, ev_same2 e1 e2 fun k e e' => ?_, fun hb => ⟨by omega, h2 hb⟩⟩
      have e'' : ductusref18_Parsed.f k x.f0 x.f1 x.f2 x.f3 x.f4 = some b := by cases x; exact e'
      unfold smallE ductuslaw18_small.f
      rw [show ductusref16_Weight.f k x.f0 x.f1 x.f2 x.f3 x.f4 0 = some W from e, Option.bind_some, if_pos c1, if_pos c2, e'', Option.bind_some]
    · refine ⟨false, ev_same e1 fun k e => ?_, fun h => by cases h⟩
      unfold smallE ductuslaw18_small.f
      rw [show ductusref16_Weight.f k x.f0 x.f1 x.f2 x.f3 x.f4 0 = some W from e, Option.bind_some, if_pos c1, if_neg c2]
  · refine ⟨false, ev_same e1 fun k e => ?_, fun h => by cases h⟩
    unfold smallE ductuslaw18_small.f
    rw [show ductusref16_Weight.f k x.f0 x.f1 x.f2 x.f3 x.f4 0 = some W from e, Option.bind_some, if_neg c1]
section
variable (l : List Int) (s : Nat) (hs : s ≤ l.length)
abbrev Moved (s : Nat) (R S : Int → Int → Prop) (n : Int) : Prop := ∀ i j, 0 ≤ i → i ≤ n → (R (i + (s : Int)) (j + (s : Int)) ↔ S i j)
include hs in
end
end Go.Proofs.Ytaphbechnjmlgaa.P
namespace Go.Proofs.Ytaphbechnjmlgaa.P
open Go.RowKit Go.Proofs.YtaphbechnjmlgaaW.PrintWords Go.Proofs.YtaphbechnjmlgaaW.PrintLast
set_option linter.unusedVariables false

theorem ints_loop (a b : List Int) (hl : a.length = b.length) (hn : a.length < 9223372036854775807) (d : Nat) : ∀ (k i : Nat), i ≤ a.length → a.length - i = d → d < k →
    ductusref01_Ints.l0 k a b (i : Int) = some (decide (a.drop i = b.drop i)) := by
  induction d with
  | zero =>
    intro k i hi hd hk
    obtain ⟨k, rfl⟩ : ∃ m, k = m + 1 := ⟨k - 1, by omega⟩
    simp only [ductusref01_Ints.l0]
    rw [if_neg (by omega), List.drop_eq_nil_of_le (by omega), List.drop_eq_nil_of_le (by omega)]
    simp
  | succ d ih =>
    intro k i hi hd hk
    obtain ⟨k, rfl⟩ : ∃ m, k = m + 1 := ⟨k - 1, by omega⟩
    simp only [ductusref01_Ints.l0]
    rw [if_pos (by omega), if_pos (by omega), if_pos (by omega), wrap_succ i (by omega), drop_cons a i (by omega), drop_cons b i (by omega)]
    by_cases h : rd a i = rd b i
    · rw [if_pos h, ih k (i + 1) (by omega) (by omega) (by omega), h]
      simp
    · rw [if_neg h]
      simp [h]
theorem ints_eq (k : Nat) (a b : List Int) (hn : a.length < 9223372036854775807) (hk : a.length < k) : ductusref01_Ints.f k a b = some (decide (a = b)) := by
  unfold ductusref01_Ints.f
  by_cases h : a.length = b.length
  · rw [if_pos (by omega)]
    have := ints_loop a b h hn a.length k 0 (by omega) (by omega) hk
    simpa using this
  · rw [if_neg (by omega)]
    have : ¬ a = b := fun e => h (by rw [e])
    simp [this]
theorem ints_same (k : Nat) (a : List Int) (hn : a.length < 9223372036854775807) (hk : a.length < k) : ductusref01_Ints.f k a a = some true := by
  rw [ints_eq k a a hn hk]
  simp

end Go.Proofs.Ytaphbechnjmlgaa.P
namespace Go.Proofs.Ytaphbechnjmlgaa.P
open Go.Deep Go.ChangeShapes Go.WideShapes Go.Proofs.YtaphbechnjmlgaaW.PrintWords
set_option linter.unusedVariables false
set_option linter.unusedSimpArgs false

/-- What an argument's data weigh is within the reach. -/
def Lite {H : Type} (P : Program) (t : TypeId) (d : DataW H) : Prop := ∀ q ∈ d.weights P t, q ≤ reachBytes
/-- What reads by a type, within m steps, is of a kind. -/
def Opens {α H : Type} (enc : TypeId × Value → H) (P : Program) (w : World) (base : Nat) (held : Bool) (t : TypeId) (d : Kd α) (wf : α → Prop) (m : Nat) : Prop :=
  ∀ (cs : List Value) (y : DataW H × List MemPlace), DataW.trod enc P w base (fun _ => true) held m t cs = some y → Lite P t y.1 → ∃ v, d.K w v cs ∧ wf v
section
variable {α H : Type} {enc : TypeId × Value → H} {P : Program} {w : World} {base : Nat} {held : Bool}
theorem opens_int {t : TypeId} {k : IntKind} (ht : P.underlying t = some (.int k)) (m : Nat) : Opens enc P w base held t (Kd.int k) (fun x => (Lit.int k x).wf = true) m := by
  intro cs y h _
  obtain ⟨n, rfl, _, hw⟩ := DataW.trod_int ht h
  exact ⟨n, rfl, hw⟩
theorem weightsAll_mem {e : TypeId} {n : Nat} {d : DataW H} : ∀ {l : List (DataW H)}, d ∈ l → n ∈ d.weights P e → n ∈ DataW.weightsAll P e l
  | [], h, _ => by simp at h
  | x :: l, h, hn => by
    simp only [DataW.weightsAll, List.mem_append]
    rcases List.mem_cons.1 h with rfl | h
    · exact .inl hn
    · exact .inr (weightsAll_mem h hn)
theorem opens_slice [Inhabited α] {t e : TypeId} {d : Kd α} {wf : α → Prop} {B : Nat} (ht : P.underlying t = some (.slice e)) (hc : P.cellsOf e = d.sz) (hB : P.bytesOf e = B) (m : Nat) (ih : ∀ n, m = n + 1 → Opens enc P w base held e d wf n) :
    Opens enc P w base held t (Kd.slice e d) (fun l => l.length * B ≤ 140737488351232 ∧ ∀ x ∈ l, wf x) m := by
  intro cs y h hw
  rcases DataW.trod_slice ht h with ⟨rfl, _⟩ | ⟨a, len, cap, elems, rest, n, hn, rfl, rfl, hb, hl, hm, hlen, hel, _, _⟩
  · exact ⟨[], ⟨none, 0, rfl, Nat.le_refl _, ⟨rfl, by simp, fun h => absurd h (Nat.lt_irrefl 0)⟩⟩, by simp, by simp⟩
  · have hO := ih n hn
    have ex : ∀ i, i < len → ∃ v : α, (∃ c : List Value, c.length = d.sz ∧ d.K w v c ∧ ∀ j u, c[j]? = some u → w.cell? (a.add (i * d.sz + j)) = some u) ∧ wf v := by
      intro i hi
      have h1 := hel i hi
      rw [hc] at h1
      have h2 : elems[i]? = some (elems[i]'(by omega)) := List.getElem?_eq_getElem (by omega)
      rw [h2] at h1
      obtain ⟨c, hc1, hc2⟩ := Option.bind_eq_some_iff.mp h1
      obtain ⟨_, hcl, hcell⟩ := World.cells?_some hc1
      obtain ⟨v, hv, hwf⟩ := hO c _ hc2 (fun q hq => hw q (by
        simp only [DataW.weights, ht, List.mem_cons, List.mem_append]
        exact .inr (.inl (weightsAll_mem (List.mem_map_of_mem (List.getElem_mem (by omega))) hq))))
      refine ⟨v, ⟨c, hcl, hv, fun j u hu => ?_⟩, hwf⟩
      have hj : j < d.sz := by rw [← hcl]; exact (List.getElem?_eq_some_iff.1 hu).1
      rw [← Go.Deep.add_add, hcell j hj]
      exact hu
    obtain ⟨q, hq⟩ := choose_lt ex
    have hlen2 : ((List.range len).map q).length = len := by simp
    refine ⟨(List.range len).map q, ⟨some a, cap, by rw [hlen2], by rw [hlen2]; exact hl, ?_⟩, ?_, ?_⟩
    · rw [hlen2]
      refine ⟨hlen2, by have := Nat.le_trans hl hm; simp only [maxLen] at this; omega, fun _ => ⟨a, rfl, fun j p hp => ?_⟩⟩
      have hj : j < len := by
        have := (List.getElem?_eq_some_iff.1 hp).1
        rwa [hlen2] at this
      have hpq : p = q j := by
        rw [List.getElem?_map, List.getElem?_range hj] at hp
        exact (Option.some.inj hp).symm
      subst hpq
      obtain ⟨⟨c, h1, h2, h3⟩, _⟩ := hq j hj
      exact ⟨c, h1, h2, h3⟩
    · rw [hlen2]
      have := hw ((elems.length + rest.length) * B) (by simp only [DataW.weights, ht, List.length_map, hB]; exact List.mem_cons_self)
      have h2 : len * B ≤ (elems.length + rest.length) * B := Nat.mul_le_mul_right _ (by omega)
      exact Nat.le_trans h2 this
    · intro x hx
      obtain ⟨j, hj, rfl⟩ := List.mem_map.1 hx
      exact (hq j (List.mem_range.1 hj)).2
theorem okWide_struct {r : Reach} {b0 : Nat} {t : TypeId} {fs : Array Field} {v : Value} (ht : P.underlying t = some (.struct fs)) (h : Value.okWide P w r b0 t v) : ∃ cs, v = .agg cs ∧ cs.size = P.cellsOf t := by
  simp only [Value.okWide, ht] at h
  obtain ⟨cs, h1, h2, _⟩ := h
  exact ⟨cs, h1, h2⟩
end
section
variable {H : Type} {enc : TypeId × Value → H} {w : World} {base : Nat} {held : Bool}
def w64 (x : Int) : Prop := -9223372036854775808 ≤ x ∧ x ≤ 9223372036854775807
theorem w64_of {x : Int} (h : (Lit.int .i64 x).wf = true) : w64 x := by
  have hmin : IntKind.i64.min = -9223372036854775808 := rfl
  have hmax : IntKind.i64.max = 9223372036854775807 := rfl
  simp only [Lit.wf, Bool.and_eq_true, decide_eq_true_eq] at h
  unfold w64
  omega
theorem cells_int : Try.prog.cellsOf 3 = 1 := by kernel_rfl
theorem cells_ranges : Try.prog.cellsOf 22 = 1 := by kernel_rfl
theorem cells_nodes : Try.prog.cellsOf 23 = 1 := by kernel_rfl
theorem cells_range : Try.prog.cellsOf 52 = 2 := by kernel_rfl
theorem cells_node : Try.prog.cellsOf 25 = 5 := by kernel_rfl
theorem bytes_range : Try.prog.bytesOf 52 = 16 := by kernel_rfl
theorem bytes_node : Try.prog.bytesOf 25 = 72 := by kernel_rfl
instance : Inhabited S52 := ⟨z52⟩
instance : Inhabited S25 := ⟨z25⟩
theorem opens_range (m : Nat) : Opens enc Try.prog w base held 52 k52 (fun r => w64 r.f0 ∧ w64 r.f1) m := by
  intro cs y h _
  obtain ⟨xs, n, rfl, _, hl, hxl, hf⟩ := DataW.trod_struct Try.underlying52 h
  rw [cells_range] at hl
  match xs, hxl, cs, hl with
  | [y0, y1], _, [c0, c1], _ =>
    have g0 := hf 0 _ rfl
    have g1 := hf 1 _ rfl
    simp [cells_int] at g0 g1
    obtain ⟨x0, e0, _, w0⟩ := DataW.trod_int Try.underlying3 g0
    obtain ⟨x1, e1, _, w1⟩ := DataW.trod_int Try.underlying3 g1
    obtain rfl := (List.cons.inj e0).1
    obtain rfl := (List.cons.inj e1).1
    exact ⟨⟨x0, x1⟩, k52_mk w ⟨x0, x1⟩, w64_of w0, w64_of w1⟩
/-- A tree that was read. -/
inductive WfT : S25 → Prop
  | mk (x : S25) (h0 : w64 x.f0) (l1 : x.f1.length * 16 ≤ 140737488351232) (h1 : ∀ r ∈ x.f1, w64 r.f0 ∧ w64 r.f1) (h2 : w64 x.f2) (h3 : w64 x.f3) (l4 : x.f4.length * 72 ≤ 140737488351232) (hk : ∀ y ∈ x.f4, WfT y) : WfT x
theorem opens_ranges (m : Nat) : Opens enc Try.prog w base held 22 (Kd.slice 52 k52) (fun l => l.length * 16 ≤ 140737488351232 ∧ ∀ r ∈ l, w64 r.f0 ∧ w64 r.f1) m :=
  opens_slice Try.underlying22 (by rw [cells_range]; rfl) bytes_range m (fun n _ => opens_range n)
theorem opens_node : ∀ m : Nat, Opens enc Try.prog w base held 25 k25 WfT m := by
  intro m
  induction m using Nat.strongRecOn with
  | ind m ih =>
    intro cs y h hw
    obtain ⟨xs, n, rfl, rfl, hl, hxl, hf⟩ := DataW.trod_struct Try.underlying25 h
    rw [cells_node] at hl
    match xs, hxl, cs, hl with
    | [y0, y1, y2, y3, y4], _, [c0, c1, c2, c3, c4], _ =>
      have g0 := hf 0 _ rfl
      have g1 := hf 1 _ rfl
      have g2 := hf 2 _ rfl
      have g3 := hf 3 _ rfl
      have g4 := hf 4 _ rfl
      simp [cells_int, cells_ranges, cells_nodes] at g0 g1 g2 g3 g4
      obtain ⟨x0, e0, _, w0⟩ := DataW.trod_int Try.underlying3 g0
      obtain ⟨x2, e2, _, w2⟩ := DataW.trod_int Try.underlying3 g2
      obtain ⟨x3, e3, _, w3⟩ := DataW.trod_int Try.underlying3 g3
      obtain rfl := (List.cons.inj e0).1
      obtain rfl := (List.cons.inj e2).1
      obtain rfl := (List.cons.inj e3).1
      have hwe : ∀ (j : Nat) (t : TypeId) (d : DataW H), [3, 22, 3, 3, 23][j]? = some t → [y0.1, y1.1, y2.1, y3.1, y4.1][j]? = some d → Lite Try.prog t d := by
        intro j t d ht hd q hq
        refine hw q ?_
        simp only [DataW.weights, Try.underlying25]
        exact DataW.weights_mem_each (j := j) ht hd q hq
      obtain ⟨l1, hk1, hl1⟩ := opens_ranges n [c1] y1 g1 (hwe 1 _ _ rfl rfl)
      obtain ⟨l4, hk4, hl4⟩ := opens_slice (wf := WfT) Try.underlying23 (by rw [cells_node]; rfl) bytes_node n (fun q hq => ih q (by omega)) [c4] y4 g4 (hwe 4 _ _ rfl rfl)
      obtain ⟨A1, d1, he1, hd1, hC1⟩ := hk1
      obtain ⟨A4, d4, he4, hd4, hC4⟩ := hk4
      obtain rfl := (List.cons.inj he1).1
      obtain rfl := (List.cons.inj he4).1
      exact ⟨⟨x0, l1, x2, x3, l4⟩, k25_mk w ⟨x0, l1, x2, x3, l4⟩ hd1 hC1 hd4 hC4, .mk _ (w64_of w0) hl1.1 hl1.2 (w64_of w2) (w64_of w3) hl4.1 hl4.2⟩
/-- An argument that is a tree. -/
theorem open_node {r : Reach} {b0 : Nat} {v : Value} {d : DataW H} {p : List MemPlace} (hv : Value.okWide Try.prog w r b0 25 v) (h : DataW.Trod enc Try.prog w base (fun _ => true) held 25 v d p) (hw : Lite Try.prog 25 d) :
    ∃ (x : S25) (A1 : Option Addr) (c1 : Nat) (A4 : Option Addr) (c4 : Nat), v = .agg #[.int .i64 x.f0, .slice A1 x.f1.length c1, .int .i64 x.f2, .int .i64 x.f3, .slice A4 x.f4.length c4] ∧ x.f1.length ≤ c1 ∧ Kd.C k52 w A1 x.f1.length x.f1 ∧ x.f4.length ≤ c4 ∧ Kd.C k25 w A4 x.f4.length x.f4 ∧ WfT x := by
  obtain ⟨cs, rfl, hs⟩ := okWide_struct Try.underlying25 hv
  obtain ⟨fuel, hf⟩ := h
  obtain ⟨x, hK, hwf⟩ := opens_node fuel _ _ hf hw
  obtain ⟨A1, c1, A4, c4, he, l1, g1, l4, g4⟩ := k25_open hK
  refine ⟨x, A1, c1, A4, c4, ?_, l1, g1, l4, g4, hwf⟩
  have he2 : cs.toList = [.int .i64 x.f0, .slice A1 x.f1.length c1, .int .i64 x.f2, .int .i64 x.f3, .slice A4 x.f4.length c4] := he
  rw [show cs = #[.int .i64 x.f0, .slice A1 x.f1.length c1, .int .i64 x.f2, .int .i64 x.f3, .slice A4 x.f4.length c4] from Array.toList_inj.1 (by simpa using he2)]
theorem lite_of {ts : List TypeId} {ds : List (DataW H)} {j : Nat} {t : TypeId} {d : DataW H} (hsz : (DataW.weightsEach Try.prog ts ds).all (· ≤ reachBytes) = true) (ht : ts[j]? = some t) (hd : ds[j]? = some d) : Lite Try.prog t d := fun q hq => by
  simpa using List.all_eq_true.1 hsz q (DataW.weights_mem_each ht hd q hq)
end
end Go.Proofs.Ytaphbechnjmlgaa.P
namespace Go.Proofs.Ytaphbechnjmlgaa.P
open Go.RowKit Go.Proofs.YtaphbechnjmlgaaW.PrintWords Go.Proofs.YtaphbechnjmlgaaW.PrintLast
theorem wf_of (x : TNode) : WfT x → WfN x := by
  induction x using node_ind with
  | h x ih =>
    intro hw
    obtain ⟨_, h0, l1, h1, h2, h3, l4, hk⟩ := hw
    exact .mk x h0 h1 (by omega) h2 h3 (by omega) fun y hy => ih y hy (hk y hy)
end Go.Proofs.Ytaphbechnjmlgaa.P
