/- Proved: the theorems below, each under its own conditions. -/
import Derived.Test.YtmjipbmpapcboaaProg
import Derived.Test.YtmjipbmpapcboaaCZ
import Derived.Below
import Derived.Deep.Draws
import Derived.Deep.AppendLies
import Derived.Maps.AppendAt
import Derived.OwnWalk
import Derived.Laws.BytesArg
import Derived.Laws.MakeOwn
import Derived.Laws.OwnMore
import Derived.Deep.OwnRows
import Derived.Tactics
import Derived.Lib.ConvBytes
import Derived.Laws.Slices
import Derived.WalkKit
import Derived.KernelRfl
import Derived.RowKit3
import Derived.Deep.LoopGhost
import Derived.Deep.QuietTactic
import Derived.BigQuiet
import Derived.WideLaws
import Derived.Deep.DeepCutAuto
import Derived.Deep.CutBlock
import Derived.Deep.RegionHeld3
import Derived.Laws.Rows
import Derived.Lib.AppendStr
import Derived.ArgAppend
import Derived.Laws.IdiomCopy
import Derived.OrdersHeld
import Derived.Laws.BitsLemmas
import Derived.RowKit
import Derived.Test.YtmjipbmpapcboaaC0
import Derived.Test.YtmjipbmpapcboaaC1
import Derived.Test.YtmjipbmpapcboaaC2
import Derived.Test.YtmjipbmpapcboaaC3
import Derived.Test.YtmjipbmpapcboaaC4
import Derived.Test.YtmjipbmpapcboaaC5
import Derived.Test.YtmjipbmpapcboaaC6
import Derived.Test.YtmjipbmpapcboaaC7
import Derived.Test.YtmjipbmpapcboaaC8
import Derived.Test.YtmjipbmpapcboaaC9
import Derived.Test.YtmjipbmpapcboaaC10
import Derived.Test.YtmjipbmpapcboaaC11
import Derived.Test.YtmjipbmpapcboaaC12
import Derived.Lib.SliceRun
namespace Go.Proofs.Ytmjipbmpapcboaa.P
open Go.RowKit Go.Proofs.YtmjipbmpapcboaaW.PrintWords Go.Proofs.YtmjipbmpapcboaaW.PrintLast Go.Proofs.YtmjipbmpapcboaaW.PrintMore
attribute [local go_sem] max2_int min2_int max_two min_two
set_option linter.unusedVariables false
set_option maxHeartbeats 8000000
set_option maxRecDepth 100000
set_option linter.unusedSimpArgs false
def errW : Option Int → Value
  | none => .nilIface
  | some c => .iface 0 (.int .i64 c)
theorem errW_none : errW none = .nilIface := rfl
theorem errW_some (c : Int) : errW (some c) = .iface 0 (.int .i64 c) := rfl
theorem info3 : (Try.prog.info? 3).map (fun i => (i.zero, i.size, i.bytes)) = some (some (.int .i64 0), 1, 8) := by kernel_rfl
theorem info4 : (Try.prog.info? 4).map (fun i => (i.zero, i.size, i.bytes)) = some (some (.bool false), 1, 1) := by kernel_rfl
theorem info22 : (Try.prog.info? 22).map (fun i => (i.zero, i.size, i.bytes)) = some (some (.slice none 0 0), 1, 24) := by kernel_rfl
theorem info29 : (Try.prog.info? 29).map (fun i => (i.zero, i.size, i.bytes)) = some (some (.agg #[(.int .i64 0), (.int .i64 0)]), 2, 16) := by kernel_rfl
theorem info59 : (Try.prog.info? 59).map (fun i => (i.zero, i.size, i.bytes)) = some (some (.agg #[(.slice none 0 0), (.int .i64 0), (.int .i64 0), (.int .i64 0)]), 4, 48) := by kernel_rfl
theorem info87 : (Try.prog.info? 87).map (fun i => (i.zero, i.size, i.bytes)) = some (some (.agg #[(.int .i64 0), (.int .i64 0)]), 2, 16) := by kernel_rfl
-- the values' own types
structure S29 where
  f0 : Int
  f1 : Int
def z29 : S29 := ⟨(0 : Int), (0 : Int)⟩
def k29 : Kd S29 := Kd.iso (Kd.pair (Kd.int .i64) (Kd.int .i64)) (fun x : S29 => (x.f0, x.f1))
theorem k29_open {w : World} {x : S29} {cs : List Value} (h : k29.K w x cs) : cs = [.int .i64 x.f0, .int .i64 x.f1] := by
  obtain ⟨_, _, rfl, rfl, rfl⟩ := h;exact rfl
theorem k29_mkM (w : World) (base : Nat) (ok : Nat → Prop) (x : S29)  : k29.M w base ok x [.int .i64 x.f0, .int .i64 x.f1] := ⟨[.int .i64 x.f0], [.int .i64 x.f1], rfl, rfl, rfl⟩
def rd_T29 (xs : List S29) (i : Int) : S29 := xs.getD i.toNat z29
theorem at_T29 {w : World} {A : Option Addr} {n : Nat} {xs : List S29} (h : Kd.C k29 w A n xs) (i : Int) (h0 : 0 ≤ i) (h1 : i < n) : ∃ ad , A = some ad ∧ w.cell? (ad.add (i.toNat * 2)) = some (.int .i64 (rd_T29 xs i).f0) ∧ w.cell? ⟨(ad.add (i.toNat * 2)).block, (ad.add (i.toNat * 2)).off + 1, none⟩ = some (.int .i64 (rd_T29 xs i).f1) := by
  obtain ⟨ad, c, e, _, hK, hc0⟩ := Kd.C_get h z29 i h0 h1;have hc : ∀ j u, c[j]? = some u → w.cell? (ad.add (i.toNat * 2 + j)) = some u := hc0;obtain rfl := k29_open hK;exact ⟨ad, e, hc 0 _ rfl, by rw [← add_field _ _ 1 (by omega)]; exact hc 1 _ rfl⟩
def rd_L2 (xs : List (List Int)) (i : Int) : (List Int) := xs.getD i.toNat ([] : List Int)
theorem at_L2 {w : World} {A : Option Addr} {n : Nat} {xs : List (List Int)} (h : Kd.C (Kd.slice 3 (Kd.int .i64)) w A n xs) (i : Int) (h0 : 0 ≤ i) (h1 : i < n) : ∃ ad A0 c0, A = some ad ∧ w.cell? (ad.add i.toNat) = some (.slice A0 (rd_L2 xs i).length c0) ∧ (rd_L2 xs i).length ≤ c0 ∧ (Kd.int .i64).C w A0 (rd_L2 xs i).length (rd_L2 xs i) := by
  obtain ⟨ad, c, e, _, hK, hc0⟩ := Kd.C_get h ([] : List Int) i h0 h1;have hc : ∀ j u, c[j]? = some u → w.cell? (ad.add (i.toNat * 1 + j)) = some u := hc0;obtain ⟨A0, c0, rfl, l0, g0⟩ := hK;exact ⟨ad, A0, c0, e, by have hq := hc 0 _ rfl; rwa [Nat.mul_one, Nat.add_zero] at hq, l0, g0⟩
structure S68 where
  f0 : Int
  f1 : Int
  f2 : Int
def z68 : S68 := ⟨(0 : Int), (0 : Int), (0 : Int)⟩
def k68 : Kd S68 := Kd.iso (Kd.pair (Kd.int .i64) (Kd.pair (Kd.int .i64) (Kd.int .i64))) (fun x : S68 => (x.f0, x.f1, x.f2))
theorem k68_open {w : World} {x : S68} {cs : List Value} (h : k68.K w x cs) : cs = [.int .i64 x.f0, .int .i64 x.f1, .int .i64 x.f2] := by
  obtain ⟨_, _, rfl, rfl, ⟨_, _, rfl, rfl, rfl⟩⟩ := h;exact rfl
theorem k68_mkM (w : World) (base : Nat) (ok : Nat → Prop) (x : S68)  : k68.M w base ok x [.int .i64 x.f0, .int .i64 x.f1, .int .i64 x.f2] := ⟨[.int .i64 x.f0], [.int .i64 x.f1, .int .i64 x.f2], rfl, rfl, ⟨[.int .i64 x.f1], [.int .i64 x.f2], rfl, rfl, rfl⟩⟩
def rd_T68 (xs : List S68) (i : Int) : S68 := xs.getD i.toNat z68
theorem at_T68 {w : World} {A : Option Addr} {n : Nat} {xs : List S68} (h : Kd.C k68 w A n xs) (i : Int) (h0 : 0 ≤ i) (h1 : i < n) : ∃ ad , A = some ad ∧ w.cell? (ad.add (i.toNat * 3)) = some (.int .i64 (rd_T68 xs i).f0) ∧ w.cell? ⟨(ad.add (i.toNat * 3)).block, (ad.add (i.toNat * 3)).off + 1, none⟩ = some (.int .i64 (rd_T68 xs i).f1) ∧ w.cell? ⟨(ad.add (i.toNat * 3)).block, (ad.add (i.toNat * 3)).off + 2, none⟩ = some (.int .i64 (rd_T68 xs i).f2) := by
  obtain ⟨ad, c, e, _, hK, hc0⟩ := Kd.C_get h z68 i h0 h1;have hc : ∀ j u, c[j]? = some u → w.cell? (ad.add (i.toNat * 3 + j)) = some u := hc0;obtain rfl := k68_open hK;exact ⟨ad, e, hc 0 _ rfl, by rw [← add_field _ _ 1 (by omega)]; exact hc 1 _ rfl, by rw [← add_field _ _ 2 (by omega)]; exact hc 2 _ rfl⟩
structure S96 where
  f0 : Int
  f1 : Int
  f2 : Bool
def z96 : S96 := ⟨(0 : Int), (0 : Int), false⟩
def k96 : Kd S96 := Kd.iso (Kd.pair (Kd.int .i64) (Kd.pair (Kd.int .i64) Kd.bool)) (fun x : S96 => (x.f0, x.f1, x.f2))
theorem k96_open {w : World} {x : S96} {cs : List Value} (h : k96.K w x cs) : cs = [.int .i64 x.f0, .int .i64 x.f1, .bool x.f2] := by
  obtain ⟨_, _, rfl, rfl, ⟨_, _, rfl, rfl, rfl⟩⟩ := h;exact rfl
theorem k96_mk (w : World) (x : S96)  : k96.K w x [.int .i64 x.f0, .int .i64 x.f1, .bool x.f2] := ⟨[.int .i64 x.f0], [.int .i64 x.f1, .bool x.f2], rfl, rfl, ⟨[.int .i64 x.f1], [.bool x.f2], rfl, rfl, rfl⟩⟩
theorem k96_mkM (w : World) (base : Nat) (ok : Nat → Prop) (x : S96)  : k96.M w base ok x [.int .i64 x.f0, .int .i64 x.f1, .bool x.f2] := ⟨[.int .i64 x.f0], [.int .i64 x.f1, .bool x.f2], rfl, rfl, ⟨[.int .i64 x.f1], [.bool x.f2], rfl, rfl, rfl⟩⟩
structure S59 where
  f0 : (List Int)
  f1 : Int
  f2 : Int
  f3 : Int
def z59 : S59 := ⟨([] : List Int), (0 : Int), (0 : Int), (0 : Int)⟩
def k59 : Kd S59 := Kd.iso (Kd.pair (Kd.slice 3 (Kd.int .i64)) (Kd.pair (Kd.int .i64) (Kd.pair (Kd.int .i64) (Kd.int .i64)))) (fun x : S59 => (x.f0, x.f1, x.f2, x.f3))
theorem k59_open {w : World} {x : S59} {cs : List Value} (h : k59.K w x cs) : ∃ A0 c0, cs = [.slice A0 x.f0.length c0, .int .i64 x.f1, .int .i64 x.f2, .int .i64 x.f3] ∧ x.f0.length ≤ c0 ∧ (Kd.int .i64).C w A0 x.f0.length x.f0 := by
  obtain ⟨_, _, rfl, ⟨A0, c0, rfl, l0, g0⟩, ⟨_, _, rfl, rfl, ⟨_, _, rfl, rfl, rfl⟩⟩⟩ := h;exact ⟨A0, c0, rfl, l0, g0⟩
theorem k59_openM {w : World} {base : Nat} {ok : Nat → Prop} {x : S59} {cs : List Value} (h : k59.M w base ok x cs) : ∃ v0, cs = [v0, .int .i64 x.f1, .int .i64 x.f2, .int .i64 x.f3] ∧ (Kd.int .i64).R 3 w base ok v0 x.f0 := by
  obtain ⟨_, _, rfl, ⟨v0, rfl, g0⟩, ⟨_, _, rfl, rfl, ⟨_, _, rfl, rfl, rfl⟩⟩⟩ := h;exact ⟨v0, rfl, g0⟩
theorem k59_mkM (w : World) (base : Nat) (ok : Nat → Prop) (x : S59) {v0 : Value} (g0 : (Kd.int .i64).R 3 w base ok v0 x.f0) : k59.M w base ok x [v0, .int .i64 x.f1, .int .i64 x.f2, .int .i64 x.f3] := ⟨[v0], [.int .i64 x.f1, .int .i64 x.f2, .int .i64 x.f3], rfl, ⟨v0, rfl, g0⟩, ⟨[.int .i64 x.f1], [.int .i64 x.f2, .int .i64 x.f3], rfl, rfl, ⟨[.int .i64 x.f2], [.int .i64 x.f3], rfl, rfl, rfl⟩⟩⟩
def rd_T59 (xs : List S59) (i : Int) : S59 := xs.getD i.toNat z59
theorem at_T59 {w : World} {A : Option Addr} {n : Nat} {xs : List S59} (h : Kd.C k59 w A n xs) (i : Int) (h0 : 0 ≤ i) (h1 : i < n) : ∃ ad A0 c0, A = some ad ∧ w.cell? (ad.add (i.toNat * 4)) = some (.slice A0 (rd_T59 xs i).f0.length c0) ∧ w.cell? ⟨(ad.add (i.toNat * 4)).block, (ad.add (i.toNat * 4)).off + 1, none⟩ = some (.int .i64 (rd_T59 xs i).f1) ∧ w.cell? ⟨(ad.add (i.toNat * 4)).block, (ad.add (i.toNat * 4)).off + 2, none⟩ = some (.int .i64 (rd_T59 xs i).f2) ∧ w.cell? ⟨(ad.add (i.toNat * 4)).block, (ad.add (i.toNat * 4)).off + 3, none⟩ = some (.int .i64 (rd_T59 xs i).f3) ∧ (rd_T59 xs i).f0.length ≤ c0 ∧ (Kd.int .i64).C w A0 (rd_T59 xs i).f0.length (rd_T59 xs i).f0 := by
  obtain ⟨ad, c, e, _, hK, hc0⟩ := Kd.C_get h z59 i h0 h1;have hc : ∀ j u, c[j]? = some u → w.cell? (ad.add (i.toNat * 4 + j)) = some u := hc0;obtain ⟨A0, c0, rfl, l0, g0⟩ := k59_open hK;exact ⟨ad, A0, c0, e, hc 0 _ rfl, by rw [← add_field _ _ 1 (by omega)]; exact hc 1 _ rfl, by rw [← add_field _ _ 2 (by omega)]; exact hc 2 _ rfl, by rw [← add_field _ _ 3 (by omega)]; exact hc 3 _ rfl, l0, g0⟩
structure S87 where
  f0 : Int
  f1 : Int
def z87 : S87 := ⟨(0 : Int), (0 : Int)⟩
def k87 : Kd S87 := Kd.iso (Kd.pair (Kd.int .i64) (Kd.int .i64)) (fun x : S87 => (x.f0, x.f1))
theorem k87_open {w : World} {x : S87} {cs : List Value} (h : k87.K w x cs) : cs = [.int .i64 x.f0, .int .i64 x.f1] := by
  obtain ⟨_, _, rfl, rfl, rfl⟩ := h;exact rfl
theorem k87_openM {w : World} {base : Nat} {ok : Nat → Prop} {x : S87} {cs : List Value} (h : k87.M w base ok x cs) : cs = [.int .i64 x.f0, .int .i64 x.f1] := by
  obtain ⟨_, _, rfl, rfl, rfl⟩ := h;exact rfl
theorem k87_mkM (w : World) (base : Nat) (ok : Nat → Prop) (x : S87)  : k87.M w base ok x [.int .i64 x.f0, .int .i64 x.f1] := ⟨[.int .i64 x.f0], [.int .i64 x.f1], rfl, rfl, rfl⟩
def rd_T87 (xs : List S87) (i : Int) : S87 := xs.getD i.toNat z87
theorem at_T87 {w : World} {A : Option Addr} {n : Nat} {xs : List S87} (h : Kd.C k87 w A n xs) (i : Int) (h0 : 0 ≤ i) (h1 : i < n) : ∃ ad , A = some ad ∧ w.cell? (ad.add (i.toNat * 2)) = some (.int .i64 (rd_T87 xs i).f0) ∧ w.cell? ⟨(ad.add (i.toNat * 2)).block, (ad.add (i.toNat * 2)).off + 1, none⟩ = some (.int .i64 (rd_T87 xs i).f1) := by
  obtain ⟨ad, c, e, _, hK, hc0⟩ := Kd.C_get h z87 i h0 h1;have hc : ∀ j u, c[j]? = some u → w.cell? (ad.add (i.toNat * 2 + j)) = some u := hc0;obtain rfl := k87_open hK;exact ⟨ad, e, hc 0 _ rfl, by rw [← add_field _ _ 1 (by omega)]; exact hc 1 _ rfl⟩
def line_Lines.l0 : Nat → Int → List (S29) → Int → List Int → Int → Int → Option ((List (S29)) × Int)
  | 0, _, _, _, _, _, _ => none
  | k + 1, x1, x6, x7, x10, x11, x12 => if x12 < x11 then (if 0 ≤ x12 then (if x12 < (x10.length : Int) then (if (rd x10 x12) ≤ x7 then (some (([] : List (S29)), 3)) else (if x6.length < 8796093022208 then (line_Lines.l0 k x1 (x6 ++ [(⟨x7, rd x10 x12⟩ : S29)]) (rd x10 x12) x10 x11 (wrap64 (x12 + 1))) else (none))) else (none)) else (none)) else (if x7 = x1 then (some (x6, 0)) else (some (([] : List (S29)), 3)))
def line_Lines.f (k : Nat) (l0 : List Int) (a1 : Int) : Option ((List (S29)) × Int) := line_Lines.l0 k a1 ([] : List (S29)) 0 l0 (l0.length : Int) 0
theorem line_Lines.mono_l : ∀ k, (∀ y0 y1 y2 y3 y4 y5, LeO (line_Lines.l0 k y0 y1 y2 y3 y4 y5) (line_Lines.l0 (k + 1) y0 y1 y2 y3 y4 y5))
  | 0 => fun _ _ _ _ _ _ r h => by simp [line_Lines.l0] at h
  | k + 1 => by
    have ih0 := line_Lines.mono_l k
    · intro y0 y1 y2 y3 y4 y5
      unfold line_Lines.l0
      repeat' first
      | (with_reducible exact ih0 _ _ _ _ _ _)
      | (with_reducible exact LeO.refl _)
      | (with_reducible exact LeO.none _)
      | (with_reducible refine LeO.ite ?_ ?_)
      | (with_reducible refine LeO.bind ?_ (fun _ => ?_))
      | exact ih0 _ _ _ _ _ _
      | exact LeO.none _
      | refine LeO.ite ?_ ?_
      | refine LeO.bind ?_ (fun _ => ?_)
theorem line_Lines.mono : ∀ a0 a1 k, LeO (line_Lines.f k a0 a1) (line_Lines.f (k + 1) a0 a1) := by
  intro a0 a1 k;have ih0 := line_Lines.mono_l k;unfold line_Lines.f
  repeat' first
      | (with_reducible exact ih0 _ _ _ _ _ _)
      | (with_reducible exact LeO.refl _)
      | (with_reducible exact LeO.none _)
      | (with_reducible refine LeO.ite ?_ ?_)
      | (with_reducible refine LeO.bind ?_ (fun _ => ?_))
      | exact ih0 _ _ _ _ _ _
      | exact LeO.none _
      | refine LeO.ite ?_ ?_
      | refine LeO.bind ?_ (fun _ => ?_)
theorem line_Lines.calls (k : Nat) (A0 : Option Addr) (c0 : Nat) (l0 : List Int) (a1 : Int) (r1 : List (S29)) (r2 : Int) (w : World) (hr0 : Kd.C (Kd.int .i64) w A0 l0.length l0) (hc0 : l0.length ≤ c0) (h : line_Lines.f k l0 a1 = some (r1, r2)) :
    Calls Try.prog 9 #[.slice A0 l0.length c0, .int .i64 a1] w fun e w' => ∃ v0_ : Value, e = .returned (.tuple #[v0_, .int .i64 r2]) ∧ Kd.R k29 29 w' w.heap.size (fun _ => True) v0_ r1 ∧ Below w.heap.size w w' := by
  have hu29 := Try.underlying29;have HR0 := Aside0.mk hr0;have HC0 := Aside0.mk hc0;clear hr0 hc0;have HB := Aside0.mk (Below.refl w.heap.size w);unfold line_Lines.f at h;have H := h;clear h;have H' := Aside0.mk H;clear H
  go_enter Try.func9, Try.ntmps9
  go_wp2
  go_loopg [6, 7, 12] k (fun kq v6 v7 v12 w' => ∃ (x6_1 : List (S29)) (x7_1 : Int) (x12_1 : Int), v7 = .int .i64 x7_1 ∧ v12 = .int .i64 x12_1 ∧ Aside0 (line_Lines.l0 kq a1 x6_1 x7_1 l0 (l0.length : Int) x12_1 = some (r1, r2)) ∧ Aside0 (kq ≤ k) ∧ Aside0 (Kd.R k29 29 w' w.heap.size (fun _ => True) v6 x6_1) ∧ Aside0 (Below w.heap.size w w'))
  case atStart => exact ⟨(([] : List (S29))), (0), (0), uF, uF, H', ⟨Nat.le_refl _⟩, ⟨by first | exact Kd.R_nil _ _ _ _ _ | exact Kd.N_nil _ _ _ _ _ | exact Kd.V_nil _ _ _ _ _ | exact Kd.Q_nil _ _ _ _ _ | exact Kd.S_nil _ _ _ _ _⟩, ⟨uB HB.out⟩⟩
  case round =>
    clear H';(try clear p2);obtain ⟨x6_1, x7_1, x12_1, rfl, rfl, HA, HK1, HO_6, HB⟩ := hrel
    cases gk with
    | zero => exact absurd HA.out (by simp [line_Lines.l0])
    | succ k1 =>
      have H := HA.out;clear HA;simp only [line_Lines.l0] at H
      by_cases c3 : x12_1 < (l0.length : Int)
      rotate_left
      · rw [if_neg c3] at H
        have c3b0 := decide_eq_false c3;clear c3
        by_cases c9 : x7_1 = a1
        · rw [if_pos c9] at H
          have c9b0 := beq_iff_eq.mpr c9;have c9b1 := bne_eq_false_iff_eq.mpr c9;clear c9;simp only [Option.some.injEq, Prod.mk.injEq] at H;obtain ⟨rfl, rfl⟩ := H;go_wp2;go_ret2;exact ⟨_, uE, uR HO_6.out, uB HB.out⟩
        rw [if_neg c9] at H;have c9b0 := beq_eq_false_iff_ne.mpr c9;have c9b1 := bne_iff_ne.mpr c9;simp only [Option.some.injEq, Prod.mk.injEq] at H;obtain ⟨rfl, rfl⟩ := H;go_wp2;go_ret2;exact ⟨_, uE, by first | exact Kd.R_nil _ _ _ _ _ | exact Kd.N_nil _ _ _ _ _ | exact Kd.V_nil _ _ _ _ _ | exact Kd.Q_nil _ _ _ _ _ | exact Kd.S_nil _ _ _ _ _, uB HB.out⟩
      rw [if_pos c3] at H;have c3b0 := decide_eq_true c3;clear c3;replace H := uI H;obtain ⟨c4b0, H⟩ := H;replace H := uI H;obtain ⟨c5b0, H⟩ := H
      by_cases c6 : (rd l0 x12_1) ≤ x7_1
      · rw [if_pos c6] at H
        have c6b0 := decide_eq_true c6;clear c6;simp only [Option.some.injEq, Prod.mk.injEq] at H;obtain ⟨rfl, rfl⟩ := H;have p101 : 0 ≤ (x12_1 : Int) := uD;have q101 : x12_1 < (l0.length : Int) := uD;obtain ⟨ad101, e101, hx101_0⟩ := Kd.at_int HR0.out x12_1 p101 q101;cases e101;replace hx101_0 := (HB.out.cell (World.block_lt_of_cell? w _ hx101_0)).trans hx101_0;replace p101 := eq_true p101;replace q101 := eq_true q101;go_wp2;go_ret2;exact ⟨_, uE, by first | exact Kd.R_nil _ _ _ _ _ | exact Kd.N_nil _ _ _ _ _ | exact Kd.V_nil _ _ _ _ _ | exact Kd.Q_nil _ _ _ _ _ | exact Kd.S_nil _ _ _ _ _, uB HB.out⟩
      rw [if_neg c6] at H;have c6b0 := decide_eq_false c6;clear c6;replace H := uP H;obtain ⟨c7, H⟩ := H;have LMc7 := Aside0.mk c7;clear c7;obtain ⟨y102, hy102⟩ : ∃ y_ : List (S29), y_ = (x6_1 ++ [(⟨x7_1, rd l0 x12_1⟩ : S29)]) := ⟨_, rfl⟩;replace H : (line_Lines.l0 k1 a1 y102 (rd l0 x12_1) l0 (l0.length : Int) (wrap64 (x12_1 + 1))) = some (r1, r2) := uH hy102 H;have Ny102 := Aside0.mk hy102;clear hy102;have H' := Aside0.mk H;clear H;have p101 : 0 ≤ (x12_1 : Int) := uD;have q101 : x12_1 < (l0.length : Int) := uD;obtain ⟨ad101, e101, hx101_0⟩ := Kd.at_int HR0.out x12_1 p101 q101;cases e101;replace hx101_0 := (HB.out.cell (World.block_lt_of_cell? w _ hx101_0)).trans hx101_0;replace p101 := eq_true p101;replace q101 := eq_true q101
      go_wp2_with (first | ((with_reducible refine gate_builtin (b := .append) (xs := #[.tmp 19, .tmp 23]) rfl ?_); at_builtin; refine Kd.R_append k29 (w0 := w) w.heap.size rfl (.tmp 19) (.tmp 23) 24 29 (.agg #[(.int .i64 0), (.int .i64 0)]) 16 rfl Try.underlying24 info29 rfl (by decide) (by omega) u6 x6_1 (⟨x7_1, rd l0 x12_1⟩ : S29) [.int .i64 x7_1, .int .i64 (rd l0 x12_1)] (fun _ => True) (fun _ => False) rfl rfl ?aP (fun _ hk => hk.elim) ?aF ?aO ?aB ?aS ?aL ?_; (case aP => exact k29_mkM _ _ _ (⟨x7_1, rd l0 x12_1⟩ : S29)); (case aB => exact (uB HB.out)); (case aF => exact (fun _ _ => trivial)); (case aO => exact (uR HO_6.out)); (case aS => exact (below_size (uB HB.out))); (case aL => have := LMc7.out; omega); intro v103 w8 ho hb hg hat; rw [← Ny102.out] at ho; have n_ := z2_ (hb) (ho); clear HB HO_6; obtain ⟨HB, HO104⟩ := n_; clear ho hb hg hat))
      go_roundg k1
      case measure => have := HK1.out; omega
      case rel => exact ⟨(y102), (rd l0 x12_1), (wrap64 (x12_1 + 1)), uF, uF, H', ⟨by have := HK1.out; omega⟩, ⟨uR HO104.out⟩, ⟨uB HB.out⟩⟩
def line_Right.f (k : Nat) (l0 : List Int) (a1 : Int) : Option (Bool) := (line_Lines.f k l0 a1).bind fun bt105 => (some (bt105.2 == 0))
theorem line_Right.mono : ∀ a0 a1 k, LeO (line_Right.f k a0 a1) (line_Right.f (k + 1) a0 a1) := by
  intro a0 a1 k;unfold line_Right.f
  repeat' first
      | (with_reducible exact line_Lines.mono _ _ _)
      | (with_reducible exact LeO.refl _)
      | (with_reducible exact LeO.none _)
      | (with_reducible refine LeO.ite ?_ ?_)
      | (with_reducible refine LeO.bind ?_ (fun _ => ?_))
      | exact line_Lines.mono _ _ _
      | exact LeO.none _
      | refine LeO.ite ?_ ?_
      | refine LeO.bind ?_ (fun _ => ?_)
theorem line_Right.calls (k : Nat) (A0 : Option Addr) (c0 : Nat) (l0 : List Int) (a1 : Int) (r : Bool) (w : World) (hr0 : Kd.C (Kd.int .i64) w A0 l0.length l0) (hc0 : l0.length ≤ c0) (h : line_Right.f k l0 a1 = some r) :
    Calls Try.prog 12 #[.slice A0 l0.length c0, .int .i64 a1] w fun e w' => e = .returned (.bool r) ∧ Below w.heap.size w w' := by
  have HR0 := Aside0.mk hr0;have HC0 := Aside0.mk hc0;clear hr0 hc0;have HB := Aside0.mk (Below.refl w.heap.size w);unfold line_Right.f at h;have H := h;clear h;replace H := Option.bind_eq_some_iff.mp H;obtain ⟨⟨t105, t106⟩, A30, H⟩ := H;have A3 := Aside0.mk A30;clear A30;obtain rfl := Option.some.inj H
  go_enter Try.func12, Try.ntmps12
  go_wp2_with (first | ((with_reducible refine gate_callee (f := 9) rfl ?_); refine gL 10 Try.func9 #[.slice A0 l0.length c0, .int .i64 a1] ?_; (with_reducible refine (line_Lines.calls k _ _ l0 a1 t105 t106 _ ?side1 ?side2 A3.out).mono ?_); (case side1 => exact uC HR0.out); (case side2 => exact HC0.out); rintro e w4 ⟨v107, rfl, ho0, hb⟩; refine ⟨_, rfl, ?_⟩; have n_ := z2_ (Kd.R_lower ho0 (below_size (uB HB.out))) (below_step (uB HB.out) hb); clear HB; obtain ⟨HO108, HB⟩ := n_; (try clear hb); (try clear ho0)))
  go_ret;exact ⟨uE, uB HB.out⟩
-- NOT PRINTED: function 24 (slices_IndexFunc_int)
-- NOT PRINTED: function 25 (line_Of_1)
def ductusref01_Ints.l0 : Nat → List Int → List Int → Int → Option (Bool)
  | 0, _, _, _ => none
  | k + 1, x0, x1, x5 => if x5 < (x0.length : Int) then (if 0 ≤ x5 then (if x5 < (x1.length : Int) then (if (rd x0 x5) = (rd x1 x5) then (ductusref01_Ints.l0 k x0 x1 (wrap64 (x5 + 1))) else (some false)) else (none)) else (none)) else (some true)
def ductusref01_Ints.f (k : Nat) (l0 : List Int) (l1 : List Int) : Option (Bool) := if (l0.length : Int) = (l1.length : Int) then (ductusref01_Ints.l0 k l0 l1 0) else (some false)
theorem ductusref01_Ints.mono_l : ∀ k, (∀ y0 y1 y2, LeO (ductusref01_Ints.l0 k y0 y1 y2) (ductusref01_Ints.l0 (k + 1) y0 y1 y2))
  | 0 => fun _ _ _ r h => by simp [ductusref01_Ints.l0] at h
  | k + 1 => by
    have ih0 := ductusref01_Ints.mono_l k
    · intro y0 y1 y2
      unfold ductusref01_Ints.l0
      repeat' first
      | (with_reducible exact ih0 _ _ _)
      | (with_reducible exact LeO.refl _)
      | (with_reducible exact LeO.none _)
      | (with_reducible refine LeO.ite ?_ ?_)
      | (with_reducible refine LeO.bind ?_ (fun _ => ?_))
      | exact ih0 _ _ _
      | exact LeO.none _
      | refine LeO.ite ?_ ?_
      | refine LeO.bind ?_ (fun _ => ?_)
theorem ductusref01_Ints.mono : ∀ a0 a1 k, LeO (ductusref01_Ints.f k a0 a1) (ductusref01_Ints.f (k + 1) a0 a1) := by
  intro a0 a1 k;have ih0 := ductusref01_Ints.mono_l k;unfold ductusref01_Ints.f
  repeat' first
      | (with_reducible exact ih0 _ _ _)
      | (with_reducible exact LeO.refl _)
      | (with_reducible exact LeO.none _)
      | (with_reducible refine LeO.ite ?_ ?_)
      | (with_reducible refine LeO.bind ?_ (fun _ => ?_))
      | exact ih0 _ _ _
      | exact LeO.none _
      | refine LeO.ite ?_ ?_
      | refine LeO.bind ?_ (fun _ => ?_)
theorem ductusref01_Ints.calls (k : Nat) (A0 : Option Addr) (c0 : Nat) (l0 : List Int) (A1 : Option Addr) (c1 : Nat) (l1 : List Int) (r : Bool) (w : World) (hr0 : Kd.C (Kd.int .i64) w A0 l0.length l0) (hc0 : l0.length ≤ c0) (hr1 : Kd.C (Kd.int .i64) w A1 l1.length l1) (hc1 : l1.length ≤ c1) (h : ductusref01_Ints.f k l0 l1 = some r) :
    Calls Try.prog 15 #[.slice A0 l0.length c0, .slice A1 l1.length c1] w fun e w' => e = .returned (.bool r) ∧ Drawn0 w w' := by
  have HR0 := Aside0.mk hr0;have HC0 := Aside0.mk hc0;clear hr0 hc0;have HR1 := Aside0.mk hr1;have HC1 := Aside0.mk hc1;clear hr1 hc1;unfold ductusref01_Ints.f at h;have H := h;clear h
  by_cases c3 : (l0.length : Int) = (l1.length : Int)
  rotate_left
  · rw [if_neg c3] at H
    have c3b0 := beq_eq_false_iff_ne.mpr c3;have c3b1 := bne_iff_ne.mpr c3
    have c3b2 : (l0.length == l1.length) = false := by first | simpa using c3 | (simp at c3 ⊢; omega)
    obtain rfl := Option.some.inj H
    go_enter Try.func15, Try.ntmps15
    go_wp2
    repeat (go_quiet (fail); try go_wp2)
    go_ret;exact ⟨uF, uW⟩
  rw [if_pos c3] at H;have c3b0 := beq_iff_eq.mpr c3;have c3b1 := bne_eq_false_iff_eq.mpr c3
  have c3b2 : (l0.length == l1.length) = true := by first | simpa using c3 | (simp at c3 ⊢; omega)
  clear c3;have H' := Aside0.mk H;clear H
  go_enter Try.func15, Try.ntmps15
  go_wp2
  repeat (go_quiet (fail); try go_wp2)
  go_loopg [5] k (fun kq v5 w' => ∃ (x5_1 : Int), v5 = .int .i64 x5_1 ∧ Aside0 (ductusref01_Ints.l0 kq l0 l1 x5_1 = some r) ∧ Aside0 (kq ≤ k) ∧ Drawn0 w w')
  case atStart => exact ⟨(0), uF, H', ⟨Nat.le_refl _⟩, uW⟩
  case round =>
    clear H';(try clear c1);(try clear p2);(try clear c3b0);(try clear c3b1);(try clear c3b2);obtain ⟨x5_1, rfl, HA, HK1, ⟨m1, rfl⟩⟩ := hrel
    cases gk with
    | zero => exact absurd HA.out (by simp [ductusref01_Ints.l0])
    | succ k1 =>
      have H := HA.out;clear HA;simp only [ductusref01_Ints.l0] at H
      by_cases c4 : x5_1 < (l0.length : Int)
      rotate_left
      · rw [if_neg c4] at H
        have c4b0 := decide_eq_false c4;clear c4;obtain rfl := Option.some.inj H;go_wp2
        repeat (go_quiet (fail); try go_wp2)
        go_ret;exact ⟨uF, uW⟩
      rw [if_pos c4] at H;have c4b0 := decide_eq_true c4;clear c4;replace H := uI H;obtain ⟨c5b0, H⟩ := H;replace H := uI H;obtain ⟨c6b0, H⟩ := H
      by_cases c7 : (rd l0 x5_1) = (rd l1 x5_1)
      rotate_left
      · rw [if_neg c7] at H
        have c7b0 := beq_eq_false_iff_ne.mpr c7;have c7b1 := bne_iff_ne.mpr c7;obtain rfl := Option.some.inj H;have p109 : 0 ≤ (x5_1 : Int) := uD;have q109 : x5_1 < (l0.length : Int) := uD;obtain ⟨ad109, e109, hx109_0⟩ := Kd.at_int HR0.out x5_1 p109 q109;cases e109;replace p109 := eq_true p109;replace q109 := eq_true q109;have p110 : 0 ≤ (x5_1 : Int) := uD;have q110 : x5_1 < (l1.length : Int) := uD;obtain ⟨ad110, e110, hx110_0⟩ := Kd.at_int HR1.out x5_1 p110 q110;cases e110;replace p110 := eq_true p110;replace q110 := eq_true q110;go_wp2
        repeat (go_quiet (fail); try go_wp2)
        go_ret;exact ⟨uF, uW⟩
      rw [if_pos c7] at H;have c7b0 := beq_iff_eq.mpr c7;have c7b1 := bne_eq_false_iff_eq.mpr c7;clear c7;have H' := Aside0.mk H;clear H;have p109 : 0 ≤ (x5_1 : Int) := uD;have q109 : x5_1 < (l0.length : Int) := uD;obtain ⟨ad109, e109, hx109_0⟩ := Kd.at_int HR0.out x5_1 p109 q109;cases e109;replace p109 := eq_true p109;replace q109 := eq_true q109;have p110 : 0 ≤ (x5_1 : Int) := uD;have q110 : x5_1 < (l1.length : Int) := uD;obtain ⟨ad110, e110, hx110_0⟩ := Kd.at_int HR1.out x5_1 p110 q110;cases e110;replace p110 := eq_true p110;replace q110 := eq_true q110;go_wp2
      repeat (go_quiet (fail); try go_wp2)
      go_roundg k1
      case measure => have := HK1.out; omega
      case rel => exact ⟨(wrap64 (x5_1 + 1)), uF, H', ⟨by have := HK1.out; omega⟩, uW⟩
def line_last.f (l0 : List Int) : Option (Int) := if (l0.length : Int) = 0 then (some 0) else (if 0 ≤ (wrap64 ((l0.length : Int) - 1)) then (if (wrap64 ((l0.length : Int) - 1)) < (l0.length : Int) then (some (rd l0 (wrap64 ((l0.length : Int) - 1)))) else (none)) else (none))
theorem line_last.calls (A0 : Option Addr) (c0 : Nat) (l0 : List Int) (r : Int) (w : World) (hr0 : Kd.C (Kd.int .i64) w A0 l0.length l0) (hc0 : l0.length ≤ c0) (h : line_last.f l0 = some r) :
    Calls Try.prog 26 #[.slice A0 l0.length c0] w fun e w' => e = .returned (.int .i64 r) ∧ Drawn0 w w' := by
  have HR0 := Aside0.mk hr0;have HC0 := Aside0.mk hc0;clear hr0 hc0;unfold line_last.f at h;have H := h;clear h
  by_cases c2 : (l0.length : Int) = 0
  · rw [if_pos c2] at H
    have c2b0 := beq_iff_eq.mpr c2;have c2b1 := bne_eq_false_iff_eq.mpr c2;clear c2;obtain rfl := Option.some.inj H
    go_enter Try.func26, Try.ntmps26
    go_wp2;go_ret;exact ⟨uF, uW⟩
  rw [if_neg c2] at H;have c2b0 := beq_eq_false_iff_ne.mpr c2;have c2b1 := bne_iff_ne.mpr c2
  have c2b2 : ¬ (l0 = []) := fun h_ => c2 (by rw [h_]; rfl)
  obtain ⟨ji3, hji3⟩ : ∃ j_ : Int, (wrap64 ((l0.length : Int) - 1)) = j_ := ⟨_, rfl⟩
  replace H : (if 0 ≤ (ji3) then (if (ji3) < (l0.length : Int) then (some (rd l0 (ji3))) else (none)) else (none)) = some r := by first | (rw [hji3] at H; exact H) | (simp only [hji3] at H ⊢; exact H)
  have hji3w : (IntKind.i64.wrap ((l0.length : Int) - 1)) = ji3 := (i64_w _).trans hji3;replace H := uI H;obtain ⟨c4b0, H⟩ := H;replace H := uI H;obtain ⟨c5b0, H⟩ := H;obtain rfl := Option.some.inj H;have p111 : 0 ≤ ((ji3) : Int) := uD;have q111 : (ji3) < (l0.length : Int) := uD;obtain ⟨ad111, e111, hx111_0⟩ := Kd.at_int HR0.out (ji3) p111 q111;cases e111;replace p111 := eq_true p111;replace q111 := eq_true q111
  go_enter Try.func26, Try.ntmps26
  go_wp2;go_ret;exact ⟨by first | rfl | (simp; done) | (simp only [← hji3] <;> (first | rfl | simp)) | (simp [*]; done), uW⟩
mutual
def line_Wrap.j0 : Nat → Int → Int → Bool → Option (List Int)
  | 0, _, _, _ => none
  | k + 1, x0, x1, x15 => if x15 = true then (some ([] : List Int)) else (line_Wrap.l0 k x0 x1 ([] : List Int))
def line_Wrap.l0 : Nat → Int → Int → List Int → Option (List Int)
  | 0, _, _, _ => none
  | k + 1, x0, x1, x5 => (line_last.f x5).bind fun t112 => (if (wrap64 (x0 - t112)) > x1 then ((line_last.f x5).bind fun t113 => (if x5.length < 17592186044416 then (line_Wrap.l0 k x0 x1 (x5 ++ [wrap64 (t113 + x1)])) else (none))) else (if x5.length < 17592186044416 then (some (x5 ++ [x0])) else (none)))
end
def line_Wrap.f (k : Nat) (a0 : Int) (a1 : Int) : Option (List Int) := if a0 < 1 then (line_Wrap.j0 k a0 a1 true) else (if a1 < 1 then (line_Wrap.j0 k a0 a1 true) else (line_Wrap.j0 k a0 a1 (decide (a0 > 4000))))
theorem line_Wrap.mono_l : ∀ k, (∀ y0 y1 y2, LeO (line_Wrap.j0 k y0 y1 y2) (line_Wrap.j0 (k + 1) y0 y1 y2)) ∧ (∀ y0 y1 y2, LeO (line_Wrap.l0 k y0 y1 y2) (line_Wrap.l0 (k + 1) y0 y1 y2))
  | 0 => ⟨fun _ _ _ r h => by simp [line_Wrap.j0] at h, fun _ _ _ r h => by simp [line_Wrap.l0] at h⟩
  | k + 1 => by
    obtain ⟨ih0, ih1⟩ := line_Wrap.mono_l k;refine ⟨?_, ?_⟩
    · intro y0 y1 y2
      unfold line_Wrap.j0
      repeat' first
      | (with_reducible exact ih0 _ _ _)
      | (with_reducible exact ih1 _ _ _)
      | (with_reducible exact LeO.refl _)
      | (with_reducible exact LeO.none _)
      | (with_reducible refine LeO.ite ?_ ?_)
      | (with_reducible refine LeO.bind ?_ (fun _ => ?_))
      | exact ih0 _ _ _
      | exact ih1 _ _ _
      | exact LeO.none _
      | refine LeO.ite ?_ ?_
      | refine LeO.bind ?_ (fun _ => ?_)
    · intro y0 y1 y2
      unfold line_Wrap.l0
      repeat' first
      | (with_reducible exact ih0 _ _ _)
      | (with_reducible exact ih1 _ _ _)
      | (with_reducible exact LeO.refl _)
      | (with_reducible exact LeO.none _)
      | (with_reducible refine LeO.ite ?_ ?_)
      | (with_reducible refine LeO.bind ?_ (fun _ => ?_))
      | exact ih0 _ _ _
      | exact ih1 _ _ _
      | exact LeO.none _
      | refine LeO.ite ?_ ?_
      | refine LeO.bind ?_ (fun _ => ?_)
theorem line_Wrap.mono : ∀ a0 a1 k, LeO (line_Wrap.f k a0 a1) (line_Wrap.f (k + 1) a0 a1) := by
  intro a0 a1 k;obtain ⟨ih0, ih1⟩ := line_Wrap.mono_l k;unfold line_Wrap.f
  repeat' first
      | (with_reducible exact ih0 _ _ _)
      | (with_reducible exact ih1 _ _ _)
      | (with_reducible exact LeO.refl _)
      | (with_reducible exact LeO.none _)
      | (with_reducible refine LeO.ite ?_ ?_)
      | (with_reducible refine LeO.bind ?_ (fun _ => ?_))
      | exact ih0 _ _ _
      | exact ih1 _ _ _
      | exact LeO.none _
      | refine LeO.ite ?_ ?_
      | refine LeO.bind ?_ (fun _ => ?_)
theorem line_Wrap.calls (k : Nat) (a0 : Int) (a1 : Int) (r : List Int) (w : World) (h : line_Wrap.f k a0 a1 = some r) :
    Calls Try.prog 16 #[.int .i64 a0, .int .i64 a1] w fun e w' => ∃ v0_ : Value, e = .returned (v0_) ∧ Kd.R (Kd.int .i64) 3 w' w.heap.size (fun _ => True) v0_ r ∧ Below w.heap.size w w' := by
  have HB := Aside0.mk (Below.refl w.heap.size w);unfold line_Wrap.f at h;have H := h;clear h;have HC3 := Aside0.mk H;clear H
  go_enter Try.func16, Try.ntmps16
  go_upto_region 1 with (fail)
  go_cut [15] (fun v15 wc => ∃ (kq : Nat) (x15_2 : Bool), v15 = .bool x15_2 ∧ Aside0 (line_Wrap.j0 kq a0 a1 x15_2 = some r) ∧ Aside0 (kq ≤ k) ∧ Aside0 (Below w.heap.size w wc))
  case first =>
    have H := HC3.out;clear HC3
    by_cases c4 : a0 < 1
    · rw [if_pos c4] at H
      have c4b0 := decide_eq_true c4;clear c4
      (first | rw [c4b0] | (simp only [i64_w, i32_w]; rw [c4b0]) | skip)
      have H' := Aside0.mk H;clear H;go_wp2;go_meet
      case rel => exact ⟨_, (true), uF, H', ⟨by first | omega | exact Nat.le_refl _⟩, ⟨uB HB.out⟩⟩
    rw [if_neg c4] at H;have c4b0 := decide_eq_false c4;clear c4
    (first | rw [c4b0] | (simp only [i64_w, i32_w]; rw [c4b0]) | skip)
    by_cases c5 : a1 < 1
    · rw [if_pos c5] at H
      have c5b0 := decide_eq_true c5;clear c5;have H' := Aside0.mk H;clear H;go_wp2;go_meet
      case rel => exact ⟨_, (true), uF, H', ⟨by first | omega | exact Nat.le_refl _⟩, ⟨uB HB.out⟩⟩
    rw [if_neg c5] at H;have c5b0 := decide_eq_false c5;clear c5;have H' := Aside0.mk H;clear H;go_wp2;go_meet
    case rel => exact ⟨_, (decide (a0 > 4000)), uF, H', ⟨by first | omega | exact Nat.le_refl _⟩, ⟨uB HB.out⟩⟩
  case rest =>
    clear HC3;(try clear c1);(try clear p2);(try clear c4b0);(try clear c5b0);obtain ⟨kq, x15_2, rfl, HA, HJ2, HB⟩ := hcut
    cases kq with
    | zero => exact absurd HA.out (by simp [line_Wrap.j0])
    | succ kj2 =>
      have H := HA.out;clear HA;simp only [line_Wrap.j0] at H
      by_cases c6 : x15_2 = true
      · subst c6
        have H1 : (some ([] : List Int)) = some r := by rw [if_pos rfl] at H; exact H
        clear H;have H := H1;clear H1;obtain rfl := Option.some.inj H;go_wp2;go_ret;exact ⟨_, uE, by first | exact Kd.R_nil _ _ _ _ _ | exact Kd.N_nil _ _ _ _ _ | exact Kd.V_nil _ _ _ _ _ | exact Kd.Q_nil _ _ _ _ _ | exact Kd.S_nil _ _ _ _ _, uB HB.out⟩
      replace c6 := Bool.eq_false_iff.mpr c6;subst c6
      have H1 : (line_Wrap.l0 kj2 a0 a1 ([] : List Int)) = some r := by rw [if_neg (show ¬ (false = true) by decide)] at H; exact H
      clear H;have H := H1;clear H1;have H' := Aside0.mk H;clear H;go_wp2
      go_loopg [5] kj2 (fun kq v5 w' => ∃ (x5_2 : List Int), Aside0 (line_Wrap.l0 kq a0 a1 x5_2 = some r) ∧ Aside0 (kq ≤ kj2) ∧ Aside0 (Kd.R (Kd.int .i64) 3 w' w.heap.size (fun _ => True) v5 x5_2) ∧ Aside0 (Below w.heap.size w w'))
      case atStart => exact ⟨(([] : List Int)), H', ⟨Nat.le_refl _⟩, ⟨by first | exact Kd.R_nil _ _ _ _ _ | exact Kd.N_nil _ _ _ _ _ | exact Kd.V_nil _ _ _ _ _ | exact Kd.Q_nil _ _ _ _ _ | exact Kd.S_nil _ _ _ _ _⟩, ⟨uB HB.out⟩⟩
      case round =>
        clear H';(try clear c1);(try clear p2);(try clear c4b0);(try clear c5b0);(try clear c6);(try clear p2);obtain ⟨x5_2, HA, HK2, HO_5, HB⟩ := hrel
        cases gk with
        | zero => exact absurd HA.out (by simp [line_Wrap.l0])
        | succ k2 =>
          have H := HA.out;clear HA;simp only [line_Wrap.l0] at H;replace H := Option.bind_eq_some_iff.mp H;obtain ⟨t112, A70, H⟩ := H;have A7 := Aside0.mk A70;clear A70
          by_cases c8 : (wrap64 (a0 - t112)) > a1
          rotate_left
          · rw [if_neg c8] at H
            have c8b0 : decide (a1 < (wrap64 (a0 - t112))) = false := decide_eq_false c8;clear c8;replace H := uP H;obtain ⟨c13, H⟩ := H;have LMc13 := Aside0.mk c13;clear c13;obtain ⟨y117, hy117⟩ : ∃ y_ : List Int, y_ = (x5_2 ++ [a0]) := ⟨_, rfl⟩;replace H : (some y117) = some r := uH hy117 H;have Ny117 := Aside0.mk hy117;clear hy117;obtain rfl := Option.some.inj H;obtain ⟨Ao14, co14, eo14⟩ := Kd.R_slice HO_5.out;subst eo14
            go_wp2_with (first | ((with_reducible refine gate_callee (f := 26) rfl ?_); refine gL 18 Try.func26 #[.slice Ao14 x5_2.length co14] ?_; (with_reducible refine (line_last.calls _ _ x5_2 t112 _ ?side1 ?side2 A7.out).mono ?_); (case side1 => exact uC (Kd.R_reads' HO_5.out).2.2); (case side2 => exact (Kd.R_reads' HO_5.out).2.1); rintro e w' ⟨rfl, ⟨nd, rfl⟩⟩; refine ⟨_, rfl, ?_⟩) | ((with_reducible refine gate_builtin (b := .append) (xs := #[.tmp 29, .tmp 31]) rfl ?_); at_builtin; refine Kd.R_append (Kd.int .i64) (w0 := w) w.heap.size rfl (.tmp 29) (.tmp 31) 22 3 (.int .i64 0) 8 rfl Try.underlying22 info3 rfl (by decide) (by omega) (.slice Ao14 x5_2.length co14) x5_2 a0 [.int .i64 a0] (fun _ => True) (fun _ => False) rfl rfl ?aP (fun _ hk => hk.elim) ?aF ?aO ?aB ?aS ?aL ?_; (case aP => exact rfl); (case aB => exact (uB HB.out)); (case aF => exact (fun _ _ => trivial)); (case aO => exact (uR HO_5.out)); (case aS => exact (below_size (uB HB.out))); (case aL => have := LMc13.out; omega); intro v118 w15 ho hb hg hat; rw [← Ny117.out] at ho; have n_ := z2_ (hb) (ho); clear HB HO_5; obtain ⟨HB, HO119⟩ := n_; clear ho hb hg hat))
            go_ret;exact ⟨_, uE, uR HO119.out, uB HB.out⟩
          rw [if_pos c8] at H;have c8b0 : decide (a1 < (wrap64 (a0 - t112))) = true := decide_eq_true c8;clear c8;replace H := Option.bind_eq_some_iff.mp H;obtain ⟨t113, A90, H⟩ := H;have A9 := Aside0.mk A90;clear A90;replace H := uP H;obtain ⟨c10, H⟩ := H;have LMc10 := Aside0.mk c10;clear c10;obtain ⟨y114, hy114⟩ : ∃ y_ : List Int, y_ = (x5_2 ++ [wrap64 (t113 + a1)]) := ⟨_, rfl⟩;replace H : (line_Wrap.l0 k2 a0 a1 y114) = some r := uH hy114 H;have Ny114 := Aside0.mk hy114;clear hy114;have H' := Aside0.mk H;clear H;obtain ⟨Ao11, co11, eo11⟩ := Kd.R_slice HO_5.out;subst eo11
          go_wp2_with (first | ((with_reducible refine gate_callee (f := 26) rfl ?_); refine gL 18 Try.func26 #[.slice Ao11 x5_2.length co11] ?_; (with_reducible refine (line_last.calls _ _ x5_2 t112 _ ?side1 ?side2 A7.out).mono ?_); (case side1 => exact uC (Kd.R_reads' HO_5.out).2.2); (case side2 => exact (Kd.R_reads' HO_5.out).2.1); rintro e w' ⟨rfl, ⟨nd, rfl⟩⟩; refine ⟨_, rfl, ?_⟩) | ((with_reducible refine gate_callee (f := 26) rfl ?_); refine gL 24 Try.func26 #[.slice Ao11 x5_2.length co11] ?_; (with_reducible refine (line_last.calls _ _ x5_2 t113 _ ?side1 ?side2 A9.out).mono ?_); (case side1 => exact uC (Kd.R_reads' HO_5.out).2.2); (case side2 => exact (Kd.R_reads' HO_5.out).2.1); rintro e w' ⟨rfl, ⟨nd, rfl⟩⟩; refine ⟨_, rfl, ?_⟩) | ((with_reducible refine gate_builtin (b := .append) (xs := #[.tmp 22, .tmp 27]) rfl ?_); at_builtin; refine Kd.R_append (Kd.int .i64) (w0 := w) w.heap.size rfl (.tmp 22) (.tmp 27) 22 3 (.int .i64 0) 8 rfl Try.underlying22 info3 rfl (by decide) (by omega) (.slice Ao11 x5_2.length co11) x5_2 (wrap64 (t113 + a1)) [.int .i64 (wrap64 (t113 + a1))] (fun _ => True) (fun _ => False) rfl rfl ?aP (fun _ hk => hk.elim) ?aF ?aO ?aB ?aS ?aL ?_; (case aP => exact rfl); (case aB => exact (uB HB.out)); (case aF => exact (fun _ _ => trivial)); (case aO => exact (uR HO_5.out)); (case aS => exact (below_size (uB HB.out))); (case aL => have := LMc10.out; omega); intro v115 w12 ho hb hg hat; rw [← Ny114.out] at ho; have n_ := z2_ (hb) (ho); clear HB HO_5; obtain ⟨HB, HO116⟩ := n_; clear ho hb hg hat))
          go_roundg k2
          case measure => have := HJ2.out; have := HK2.out; omega
          case rel => exact ⟨(y114), H', ⟨by have := HJ2.out; have := HK2.out; omega⟩, ⟨uR HO116.out⟩, ⟨uB HB.out⟩⟩
theorem eqA29 (d : Nat) (w : World) (x0 y0 : Int) (x1 y1 : Int) :
    (Op.equalIn (d + 2) 29 (.agg #[.int .i64 x0, .int .i64 x1]) (.agg #[.int .i64 y0, .int .i64 y1])).run Try.prog w = .ok (x0 == y0 && (x1 == y1)) w := by
  refine eqA_of Try.underlying29 (by kernel_rfl) ?_;refine eqf_cons (by rfl) (by go_simp; rfl) (by go_simp; rfl) (by go_simp) ?_;exact eqf_last (by rfl) (by go_simp; rfl) (by go_simp; rfl) (by go_simp)
-- NOT PRINTED: function 45 (slices_BinarySearchFunc_class_reach_int)
def class_find_1.f (a0_0 : Int) (a0_1 : Int) (a0_2 : Int) (a1 : Int) : Option (Int) := if a0_1 < a1 then (some (-1)) else (if a0_0 > a1 then (some 1) else (some 0))
theorem class_find_1.calls (a0_0 : Int) (a0_1 : Int) (a0_2 : Int) (a1 : Int) (r : Int) (w : World) (h : class_find_1.f a0_0 a0_1 a0_2 a1 = some r) :
    Calls Try.prog 46 #[.agg #[.int .i64 a0_0, .int .i64 a0_1, .int .i64 a0_2], .int .i64 a1] w fun e w' => e = .returned (.int .i64 r) ∧ Below w.heap.size w w' := by
  have hu68 := Try.underlying68;have HB := Aside0.mk (Below.refl w.heap.size w);unfold class_find_1.f at h;have H := h;clear h
  by_cases c3 : a0_1 < a1
  · rw [if_pos c3] at H
    have c3b0 := decide_eq_true c3;clear c3;obtain rfl := Option.some.inj H
    go_enter Try.func46, Try.ntmps46
    go_wp2_with (first | ((with_reducible refine gate_dst (N := 2) rfl ?_); refine box_event ?hg (N := 2) ?hd (cs := #[.int .i64 a0_0, .int .i64 a0_1, .int .i64 a0_2]) (t := 68) ?hr ?_; (case hd => rfl); (case hg => rfl); (case hr => exact uN); intro gb120 hg w4 hbox hb; have n_ := z4_ (below_step (uB HB.out) hb) (hbox) ((by rw [hg]; exact (below_size (uB HB.out)) : w.heap.size ≤ gb120)) ((by rw [hg]; exact (below_size (uB HB.out)) : w.heap.size ≤ gb120)); clear HB; obtain ⟨HB, BK120, GW120, GE120⟩ := n_; clear hb hbox hg; have hcz5_0 : w4.cell? ⟨gb120, 0, none⟩ = some (.int .i64 a0_0) := (blk_cell BK120.out 0).trans rfl; have hcz5_1 : w4.cell? ⟨gb120, 1, none⟩ = some (.int .i64 a0_1) := (blk_cell BK120.out 1).trans rfl; have hcz5_2 : w4.cell? ⟨gb120, 2, none⟩ = some (.int .i64 a0_2) := (blk_cell BK120.out 2).trans rfl; have hfz5_0 := blk_frozen BK120.out 0; have hfz5_1 := blk_frozen BK120.out 1; have hfz5_2 := blk_frozen BK120.out 2))
    go_ret;exact ⟨uE, uG HB.out GE120.out⟩
  rw [if_neg c3] at H;have c3b0 := decide_eq_false c3;clear c3
  by_cases c6 : a0_0 > a1
  · rw [if_pos c6] at H
    have c6b0 : decide (a1 < a0_0) = true := decide_eq_true c6;clear c6;obtain rfl := Option.some.inj H
    go_enter Try.func46, Try.ntmps46
    go_wp2_with (first | ((with_reducible refine gate_dst (N := 2) rfl ?_); refine box_event ?hg (N := 2) ?hd (cs := #[.int .i64 a0_0, .int .i64 a0_1, .int .i64 a0_2]) (t := 68) ?hr ?_; (case hd => rfl); (case hg => rfl); (case hr => exact uN); intro gb120 hg w7 hbox hb; have n_ := z4_ (below_step (uB HB.out) hb) (hbox) ((by rw [hg]; exact (below_size (uB HB.out)) : w.heap.size ≤ gb120)) ((by rw [hg]; exact (below_size (uB HB.out)) : w.heap.size ≤ gb120)); clear HB; obtain ⟨HB, BK120, GW120, GE120⟩ := n_; clear hb hbox hg; have hcz8_0 : w7.cell? ⟨gb120, 0, none⟩ = some (.int .i64 a0_0) := (blk_cell BK120.out 0).trans rfl; have hcz8_1 : w7.cell? ⟨gb120, 1, none⟩ = some (.int .i64 a0_1) := (blk_cell BK120.out 1).trans rfl; have hcz8_2 : w7.cell? ⟨gb120, 2, none⟩ = some (.int .i64 a0_2) := (blk_cell BK120.out 2).trans rfl; have hfz8_0 := blk_frozen BK120.out 0; have hfz8_1 := blk_frozen BK120.out 1; have hfz8_2 := blk_frozen BK120.out 2))
    go_ret;exact ⟨uE, uG HB.out GE120.out⟩
  rw [if_neg c6] at H;have c6b0 : decide (a1 < a0_0) = false := decide_eq_false c6;clear c6;obtain rfl := Option.some.inj H
  go_enter Try.func46, Try.ntmps46
  go_wp2_with (first | ((with_reducible refine gate_dst (N := 2) rfl ?_); refine box_event ?hg (N := 2) ?hd (cs := #[.int .i64 a0_0, .int .i64 a0_1, .int .i64 a0_2]) (t := 68) ?hr ?_; (case hd => rfl); (case hg => rfl); (case hr => exact uN); intro gb120 hg w9 hbox hb; have n_ := z4_ (below_step (uB HB.out) hb) (hbox) ((by rw [hg]; exact (below_size (uB HB.out)) : w.heap.size ≤ gb120)) ((by rw [hg]; exact (below_size (uB HB.out)) : w.heap.size ≤ gb120)); clear HB; obtain ⟨HB, BK120, GW120, GE120⟩ := n_; clear hb hbox hg; have hcz10_0 : w9.cell? ⟨gb120, 0, none⟩ = some (.int .i64 a0_0) := (blk_cell BK120.out 0).trans rfl; have hcz10_1 : w9.cell? ⟨gb120, 1, none⟩ = some (.int .i64 a0_1) := (blk_cell BK120.out 1).trans rfl; have hcz10_2 : w9.cell? ⟨gb120, 2, none⟩ = some (.int .i64 a0_2) := (blk_cell BK120.out 2).trans rfl; have hfz10_0 := blk_frozen BK120.out 0; have hfz10_1 := blk_frozen BK120.out 1; have hfz10_2 := blk_frozen BK120.out 2))
  go_ret;exact ⟨uE, uG HB.out GE120.out⟩
def slices_BinarySearchFunc_class_reach_int_class_find_1.l0 : Nat → List (S68) → Int → Int → Int → Int → Option (Int × Bool)
  | 0, _, _, _, _, _ => none
  | k + 1, x0, x1, x8, x9, x10 => if x9 < x10 then (if 0 ≤ (wrap64 ((IntKind.u64.wrap (wrap64 (x9 + x10))) / 2)) then (if (wrap64 ((IntKind.u64.wrap (wrap64 (x9 + x10))) / 2)) < (x0.length : Int) then ((class_find_1.f ((rd_T68 x0 (wrap64 ((IntKind.u64.wrap (wrap64 (x9 + x10))) / 2))).f0) ((rd_T68 x0 (wrap64 ((IntKind.u64.wrap (wrap64 (x9 + x10))) / 2))).f1) ((rd_T68 x0 (wrap64 ((IntKind.u64.wrap (wrap64 (x9 + x10))) / 2))).f2) x1).bind fun t122 => (if t122 < 0 then (slices_BinarySearchFunc_class_reach_int_class_find_1.l0 k x0 x1 x8 (wrap64 ((wrap64 ((IntKind.u64.wrap (wrap64 (x9 + x10))) / 2)) + 1)) x10) else (slices_BinarySearchFunc_class_reach_int_class_find_1.l0 k x0 x1 x8 x9 (wrap64 ((IntKind.u64.wrap (wrap64 (x9 + x10))) / 2))))) else (none)) else (none)) else (if x9 < x8 then (if 0 ≤ x9 then (if x9 < (x0.length : Int) then ((class_find_1.f ((rd_T68 x0 x9).f0) ((rd_T68 x0 x9).f1) ((rd_T68 x0 x9).f2) x1).bind fun t124 => (some (x9, (t124 == 0)))) else (none)) else (none)) else (some (x9, false)))
def slices_BinarySearchFunc_class_reach_int_class_find_1.f (k : Nat) (l0 : List (S68)) (a1 : Int)  : Option (Int × Bool) := slices_BinarySearchFunc_class_reach_int_class_find_1.l0 k l0 a1 (l0.length : Int) 0 (l0.length : Int)
theorem slices_BinarySearchFunc_class_reach_int_class_find_1.mono_l : ∀ k, (∀ y0 y1 y2 y3 y4, LeO (slices_BinarySearchFunc_class_reach_int_class_find_1.l0 k y0 y1 y2 y3 y4) (slices_BinarySearchFunc_class_reach_int_class_find_1.l0 (k + 1) y0 y1 y2 y3 y4))
  | 0 => fun _ _ _ _ _ r h => by simp [slices_BinarySearchFunc_class_reach_int_class_find_1.l0] at h
  | k + 1 => by
    have ih0 := slices_BinarySearchFunc_class_reach_int_class_find_1.mono_l k
    · intro y0 y1 y2 y3 y4
      unfold slices_BinarySearchFunc_class_reach_int_class_find_1.l0
      repeat' first
      | (with_reducible exact ih0 _ _ _ _ _)
      | (with_reducible exact LeO.refl _)
      | (with_reducible exact LeO.none _)
      | (with_reducible refine LeO.ite ?_ ?_)
      | (with_reducible refine LeO.bind ?_ (fun _ => ?_))
      | exact ih0 _ _ _ _ _
      | exact LeO.none _
      | refine LeO.ite ?_ ?_
      | refine LeO.bind ?_ (fun _ => ?_)
theorem slices_BinarySearchFunc_class_reach_int_class_find_1.mono : ∀ a0 a1 k, LeO (slices_BinarySearchFunc_class_reach_int_class_find_1.f k a0 a1) (slices_BinarySearchFunc_class_reach_int_class_find_1.f (k + 1) a0 a1) := by
  intro a0 a1 k;have ih0 := slices_BinarySearchFunc_class_reach_int_class_find_1.mono_l k;unfold slices_BinarySearchFunc_class_reach_int_class_find_1.f
  repeat' first
      | (with_reducible exact ih0 _ _ _ _ _)
      | (with_reducible exact LeO.refl _)
      | (with_reducible exact LeO.none _)
      | (with_reducible refine LeO.ite ?_ ?_)
      | (with_reducible refine LeO.bind ?_ (fun _ => ?_))
      | exact ih0 _ _ _ _ _
      | exact LeO.none _
      | refine LeO.ite ?_ ?_
      | refine LeO.bind ?_ (fun _ => ?_)
theorem slices_BinarySearchFunc_class_reach_int_class_find_1.calls (k : Nat) (A0 : Option Addr) (c0 : Nat) (l0 : List (S68)) (a1 : Int)  (r1 : Int) (r2 : Bool) (w : World) (hr0 : Kd.C k68 w A0 l0.length l0) (hc0 : l0.length ≤ c0) (h : slices_BinarySearchFunc_class_reach_int_class_find_1.f k l0 a1 = some (r1, r2)) :
    Calls Try.prog 45 #[.slice A0 l0.length c0, .int .i64 a1, .func (.func 46) #[] #[]] w fun e w' => e = .returned (.tuple #[.int .i64 r1, .bool r2]) ∧ Below w.heap.size w w' := by
  have hu68 := Try.underlying68;have HR0 := Aside0.mk hr0;have HC0 := Aside0.mk hc0;clear hr0 hc0;have HB := Aside0.mk (Below.refl w.heap.size w);unfold slices_BinarySearchFunc_class_reach_int_class_find_1.f at h;have H := h;clear h;have H' := Aside0.mk H;clear H
  go_enter Try.func45, Try.ntmps45
  go_wp2
  go_loopg [9, 10] k (fun kq v9 v10 w' => ∃ (x9_1 : Int) (x10_1 : Int), v9 = .int .i64 x9_1 ∧ v10 = .int .i64 x10_1 ∧ Aside0 (slices_BinarySearchFunc_class_reach_int_class_find_1.l0 kq l0 a1 (l0.length : Int) x9_1 x10_1 = some (r1, r2)) ∧ Aside0 (kq ≤ k) ∧ Aside0 (Below w.heap.size w w'))
  case atStart => exact ⟨(0), ((l0.length : Int)), uF, uF, H', ⟨Nat.le_refl _⟩, ⟨uB HB.out⟩⟩
  case round =>
    clear H';(try clear p2);obtain ⟨x9_1, x10_1, rfl, rfl, HA, HK1, HB⟩ := hrel
    cases gk with
    | zero => exact absurd HA.out (by simp [slices_BinarySearchFunc_class_reach_int_class_find_1.l0])
    | succ k1 =>
      have H := HA.out;clear HA;simp only [slices_BinarySearchFunc_class_reach_int_class_find_1.l0] at H
      by_cases c4 : x9_1 < x10_1
      rotate_left
      · rw [if_neg c4] at H
        have c4b0 := decide_eq_false c4;clear c4
        by_cases c12 : x9_1 < (l0.length : Int)
        rotate_left
        · rw [if_neg c12] at H
          have c12b0 := decide_eq_false c12;clear c12;simp only [Option.some.injEq, Prod.mk.injEq] at H;obtain ⟨rfl, rfl⟩ := H;go_wp2;go_ret2;exact ⟨uE, uB HB.out⟩
        rw [if_pos c12] at H;have c12b0 := decide_eq_true c12;clear c12;replace H := uI H;obtain ⟨c13b0, H⟩ := H;replace H := uI H;obtain ⟨c14b0, H⟩ := H;replace H := Option.bind_eq_some_iff.mp H;obtain ⟨t124, A150, H⟩ := H;have A15 := Aside0.mk A150;clear A150;simp only [Option.some.injEq, Prod.mk.injEq] at H;obtain ⟨rfl, rfl⟩ := H;have p123 : 0 ≤ (x9_1 : Int) := uD;have q123 : x9_1 < (l0.length : Int) := uD;obtain ⟨ad123, e123, hx123_0, hx123_1, hx123_2⟩ := at_T68 HR0.out x9_1 p123 q123;cases e123;replace hx123_0 := (HB.out.cell (World.block_lt_of_cell? w _ hx123_0)).trans hx123_0;replace hx123_1 := (HB.out.cell (World.block_lt_of_cell? w _ hx123_1)).trans hx123_1;replace hx123_2 := (HB.out.cell (World.block_lt_of_cell? w _ hx123_2)).trans hx123_2;replace p123 := eq_true p123;replace q123 := eq_true q123
        go_wp2_with (first | (go_at_call 46; (with_reducible refine (class_find_1.calls ((rd_T68 l0 x9_1).f0) ((rd_T68 l0 x9_1).f1) ((rd_T68 l0 x9_1).f2) a1 t124 _ A15.out).mono ?_); rintro e w16 ⟨rfl, hb⟩; have n0_ := Aside0.mk (below_step (uB HB.out) hb); clear HB; have HB := n0_; clear n0_; (try clear hb); (try clear hb2); (try clear hk); (try clear hi)))
        go_ret2;exact ⟨uE, uB HB.out⟩
      rw [if_pos c4] at H;have c4b0 := decide_eq_true c4;clear c4;obtain ⟨ji5, hji5⟩ : ∃ j_ : Int, (wrap64 ((IntKind.u64.wrap (wrap64 (x9_1 + x10_1))) / 2)) = j_ := ⟨_, rfl⟩
      replace H : (if 0 ≤ (ji5) then (if (ji5) < (l0.length : Int) then ((class_find_1.f ((rd_T68 l0 (ji5)).f0) ((rd_T68 l0 (ji5)).f1) ((rd_T68 l0 (ji5)).f2) a1).bind fun t122 => (if t122 < 0 then (slices_BinarySearchFunc_class_reach_int_class_find_1.l0 k1 l0 a1 (l0.length : Int) (wrap64 ((ji5) + 1)) x10_1) else (slices_BinarySearchFunc_class_reach_int_class_find_1.l0 k1 l0 a1 (l0.length : Int) x9_1 ji5))) else (none)) else (none)) = some (r1, r2) := by first | (rw [hji5] at H; exact H) | (simp only [hji5] at H ⊢; exact H)
      have hji5w : (IntKind.i64.wrap ((IntKind.u64.wrap (wrap64 (x9_1 + x10_1))) / 2)) = ji5 := (i64_w _).trans hji5;replace H := uI H;obtain ⟨c6b0, H⟩ := H;replace H := uI H;obtain ⟨c7b0, H⟩ := H;replace H := Option.bind_eq_some_iff.mp H;obtain ⟨t122, A80, H⟩ := H;have A8 := Aside0.mk A80;clear A80
      by_cases c9 : t122 < 0
      rotate_left
      · rw [if_neg c9] at H
        have c9b0 := decide_eq_false c9;clear c9;have H' := Aside0.mk H;clear H;have p121 : 0 ≤ ((ji5) : Int) := uD;have q121 : (ji5) < (l0.length : Int) := uD;obtain ⟨ad121, e121, hx121_0, hx121_1, hx121_2⟩ := at_T68 HR0.out (ji5) p121 q121;cases e121;replace hx121_0 := (HB.out.cell (World.block_lt_of_cell? w _ hx121_0)).trans hx121_0;replace hx121_1 := (HB.out.cell (World.block_lt_of_cell? w _ hx121_1)).trans hx121_1;replace hx121_2 := (HB.out.cell (World.block_lt_of_cell? w _ hx121_2)).trans hx121_2;replace p121 := eq_true p121;replace q121 := eq_true q121
        go_wp2_with (first | (go_at_call 46; (with_reducible refine (class_find_1.calls ((rd_T68 l0 (ji5)).f0) ((rd_T68 l0 (ji5)).f1) ((rd_T68 l0 (ji5)).f2) a1 t122 _ A8.out).mono ?_); rintro e w11 ⟨rfl, hb⟩; have n0_ := Aside0.mk (below_step (uB HB.out) hb); clear HB; have HB := n0_; clear n0_; (try clear hb); (try clear hb2); (try clear hk); (try clear hi)))
        go_roundg k1
        case measure => have := HK1.out; omega
        case rel => exact ⟨(x9_1), (ji5), uF, (by first | rfl | (simp; done) | (simp only [← hji5] <;> (first | rfl | simp)) | (simp [*]; done)), H', ⟨by have := HK1.out; omega⟩, ⟨uB HB.out⟩⟩
      rw [if_pos c9] at H;have c9b0 := decide_eq_true c9;clear c9;have H' := Aside0.mk H;clear H;have p121 : 0 ≤ ((ji5) : Int) := uD;have q121 : (ji5) < (l0.length : Int) := uD;obtain ⟨ad121, e121, hx121_0, hx121_1, hx121_2⟩ := at_T68 HR0.out (ji5) p121 q121;cases e121;replace hx121_0 := (HB.out.cell (World.block_lt_of_cell? w _ hx121_0)).trans hx121_0;replace hx121_1 := (HB.out.cell (World.block_lt_of_cell? w _ hx121_1)).trans hx121_1;replace hx121_2 := (HB.out.cell (World.block_lt_of_cell? w _ hx121_2)).trans hx121_2;replace p121 := eq_true p121;replace q121 := eq_true q121
      go_wp2_with (first | (go_at_call 46; (with_reducible refine (class_find_1.calls ((rd_T68 l0 (ji5)).f0) ((rd_T68 l0 (ji5)).f1) ((rd_T68 l0 (ji5)).f2) a1 t122 _ A8.out).mono ?_); rintro e w10 ⟨rfl, hb⟩; have n0_ := Aside0.mk (below_step (uB HB.out) hb); clear HB; have HB := n0_; clear n0_; (try clear hb); (try clear hb2); (try clear hk); (try clear hi)))
      go_roundg k1
      case measure => have := HK1.out; omega
      case rel => exact ⟨(wrap64 ((ji5) + 1)), (x10_1), (by first | rfl | (simp; done) | (simp only [← hji5] <;> (first | rfl | simp)) | (simp [*]; done)), uF, H', ⟨by have := HK1.out; omega⟩, ⟨uB HB.out⟩⟩
def class_find.f (k : Nat) (l0 : List (S68)) (a1 : Int) : Option (Int) := (slices_BinarySearchFunc_class_reach_int_class_find_1.f k l0 a1).bind fun bt125 => (if bt125.2 = true then (if 0 ≤ bt125.1 then (if bt125.1 < (l0.length : Int) then (some ((rd_T68 l0 bt125.1).f2)) else (none)) else (none)) else (some 0))
theorem class_find.mono : ∀ a0 a1 k, LeO (class_find.f k a0 a1) (class_find.f (k + 1) a0 a1) := by
  intro a0 a1 k;unfold class_find.f
  repeat' first
      | (with_reducible exact slices_BinarySearchFunc_class_reach_int_class_find_1.mono _ _ _)
      | (with_reducible exact LeO.refl _)
      | (with_reducible exact LeO.none _)
      | (with_reducible refine LeO.ite ?_ ?_)
      | (with_reducible refine LeO.bind ?_ (fun _ => ?_))
      | exact slices_BinarySearchFunc_class_reach_int_class_find_1.mono _ _ _
      | exact LeO.none _
      | refine LeO.ite ?_ ?_
      | refine LeO.bind ?_ (fun _ => ?_)
theorem class_find.calls (k : Nat) (A0 : Option Addr) (c0 : Nat) (l0 : List (S68)) (a1 : Int) (r : Int) (w : World) (hr0 : Kd.C k68 w A0 l0.length l0) (hc0 : l0.length ≤ c0) (h : class_find.f k l0 a1 = some r) :
    Calls Try.prog 32 #[.slice A0 l0.length c0, .int .i64 a1] w fun e w' => e = .returned (.int .i64 r) ∧ Below w.heap.size w w' := by
  have HR0 := Aside0.mk hr0;have HC0 := Aside0.mk hc0;clear hr0 hc0;have HB := Aside0.mk (Below.refl w.heap.size w);unfold class_find.f at h;have H := h;clear h;replace H := Option.bind_eq_some_iff.mp H;obtain ⟨⟨t125, t126⟩, A30, H⟩ := H;have A3 := Aside0.mk A30;clear A30
  by_cases c4 : t126 = true
  rotate_left
  · replace c4 := Bool.eq_false_iff.mpr c4
    subst c4
    have H1 : (some 0) = some r := by rw [if_neg (show ¬ (false = true) by decide)] at H; exact H
    clear H;have H := H1;clear H1;obtain rfl := Option.some.inj H
    go_enter Try.func32, Try.ntmps32
    go_wp2_with (first | ((with_reducible refine gate_callee (f := 45) rfl ?_); refine gL 10 Try.func45 #[.slice A0 l0.length c0, .int .i64 a1, .func (.func 46) #[] #[]] ?_; (with_reducible refine (slices_BinarySearchFunc_class_reach_int_class_find_1.calls k _ _ l0 a1  t125 false _ ?side1 ?side2 A3.out).mono ?_); (case side1 => exact uC HR0.out); (case side2 => exact HC0.out); rintro e w8 ⟨rfl, hb⟩; refine ⟨_, rfl, ?_⟩; have n0_ := Aside0.mk (below_step (uB HB.out) hb); clear HB; have HB := n0_; clear n0_; (try clear hb); (try clear hb2); (try clear hk); (try clear hi)))
    go_ret;exact ⟨uE, uB HB.out⟩
  subst c4
  have H1 : (if 0 ≤ t125 then (if t125 < (l0.length : Int) then (some ((rd_T68 l0 t125).f2)) else (none)) else (none)) = some r := by rw [if_pos rfl] at H; exact H
  clear H;have H := H1;clear H1;replace H := uI H;obtain ⟨c5b0, H⟩ := H;replace H := uI H;obtain ⟨c6b0, H⟩ := H;obtain rfl := Option.some.inj H
  go_enter Try.func32, Try.ntmps32
  go_wp2_with (first | ((with_reducible refine gate_callee (f := 45) rfl ?_); refine gL 10 Try.func45 #[.slice A0 l0.length c0, .int .i64 a1, .func (.func 46) #[] #[]] ?_; (with_reducible refine (slices_BinarySearchFunc_class_reach_int_class_find_1.calls k _ _ l0 a1  t125 true _ ?side1 ?side2 A3.out).mono ?_); (case side1 => exact uC HR0.out); (case side2 => exact HC0.out); rintro e w7 ⟨rfl, hb⟩; refine ⟨_, rfl, ?_⟩; have n0_ := Aside0.mk (below_step (uB HB.out) hb); clear HB; have HB := n0_; clear n0_; (try clear hb); (try clear hb2); (try clear hk); (try clear hi); have p127 : 0 ≤ (t125 : Int) := uD; have q127 : t125 < (l0.length : Int) := uD; obtain ⟨ad127, e127, hx127_0, hx127_1, hx127_2⟩ := at_T68 HR0.out t125 p127 q127; cases e127; replace hx127_0 := (HB.out.cell (World.block_lt_of_cell? w _ hx127_0)).trans hx127_0; replace hx127_1 := (HB.out.cell (World.block_lt_of_cell? w _ hx127_1)).trans hx127_1; replace hx127_2 := (HB.out.cell (World.block_lt_of_cell? w _ hx127_2)).trans hx127_2; replace p127 := eq_true p127; replace q127 := eq_true q127))
  go_ret;exact ⟨uE, uB HB.out⟩
end Go.Proofs.Ytmjipbmpapcboaa.P
namespace Go.Proofs.Ytmjipbmpapcboaa.P
open Go.RowKit Go.Proofs.YtmjipbmpapcboaaW.PrintWords Go.Proofs.YtmjipbmpapcboaaW.PrintLast
set_option linter.unusedVariables false
def runAll (P : Program) : List Oper → Act → World → Option (Act × World)
  | [], a, w => some (a, w)
  | o :: l, a, w => match o.guard with
    | some _ => none
    | none => match (execOp a.eval o).run P w with
      | .ok (.value v) w' => runAll P l (a.put o.dst v) w'
      | _ => none
theorem wpList_runAll {P : Program} {ops : Array Oper} {Q : Exit → Act → World → Prop} : ∀ (l : List Oper) (a : Act) (w : World) (a' : Act) (w' : World), runAll P l a w = some (a', w') → Q .normal a' w' → wpList P ops Q l a w
  | [], a, w, a', w', h, hQ => by
    simp only [runAll, Option.some.injEq, Prod.mk.injEq] at h;obtain ⟨rfl, rfl⟩ := h;exact wpList_nil hQ
  | o :: l, a, w, a', w', h, hQ => by
    unfold runAll at h
    cases hg : o.guard with
    | some g =>
      rw [hg] at h;cases h
    | none =>
      rw [hg] at h
      cases hr : (execOp a.eval o).run P w with
      | ok x w1 =>
        cases x with
        | value v =>
          rw [hr] at h;exact Kd.event_run hg hr (wpList_runAll l _ _ a' w' h hQ)
        | _ =>
          rw [hr] at h;cases h
      | _ =>
        rw [hr] at h;cases h
def class_reaches.tbl : List (Int × Int × Int) := [(0, 8, 9), (9, 9, 11), (10, 10, 10), (11, 11, 11), (12, 12, 12), (13, 13, 10), (14, 27, 9), (28, 30, 10), (31, 31, 11), (32, 32, 12), (33, 34, 13), (35, 37, 5), (38, 42, 13), (43, 43, 4), (44, 44, 7), (45, 45, 4), (46, 47, 7), (48, 57, 3), (58, 58, 7), (59, 64, 13), (91, 96, 13), (123, 126, 13), (127, 132, 9), (133, 133, 10), (134, 159, 9), (160, 160, 7), (161, 161, 13), (162, 165, 5), (166, 169, 13), (171, 172, 13), (173, 173, 9), (174, 175, 13), (176, 177, 5), (178, 179, 3), (180, 180, 13), (182, 184, 13), (185, 185, 3), (187, 191, 13), (215, 215, 13), (247, 247, 13), (768, 879, 8), (1425, 1469, 8), (1470, 1470, 1), (1471, 1471, 8), (1472, 1472, 1), (1473, 1474, 8), (1488, 1524, 1), (1536, 1541, 6), (1542, 1543, 13), (1544, 1544, 2), (1545, 1546, 5), (1547, 1547, 2), (1548, 1548, 7), (1549, 1549, 2), (1552, 1562, 8), (1563, 1610, 2), (1611, 1631, 8), (1632, 1641, 6), (1642, 1642, 5), (1643, 1644, 6), (1645, 1647, 2), (1648, 1648, 8), (1649, 1749, 2), (8203, 8205, 9), (8207, 8207, 1), (8208, 8231, 13), (8232, 8232, 12), (8233, 8233, 10), (8234, 8234, 14), (8235, 8235, 16), (8236, 8236, 18), (8237, 8237, 15), (8238, 8238, 17), (8239, 8239, 7), (8240, 8244, 5), (8245, 8259, 13), (8294, 8294, 19), (8295, 8295, 20), (8296, 8296, 21), (8297, 8297, 22), (8304, 8304, 3), (8308, 8313, 3), (8352, 8384, 5), (8592, 8721, 13), (8722, 8722, 4), (8723, 8723, 5), (8724, 9013, 13), (12296, 12305, 13), (65279, 65279, 9), (128512, 128591, 13)]
def class_reaches.row (x : Int × Int × Int) : S68 := ⟨x.1, x.2.1, x.2.2⟩
def class_reaches.f : Option (List S68) := some (class_reaches.tbl.map class_reaches.row)
def class_reaches.cells : List (Int × Int × Int) → List Value
  | [] => []
  | x :: l => .int .i64 x.1 :: .int .i64 x.2.1 :: .int .i64 x.2.2 :: class_reaches.cells l
theorem class_reaches.reps (w : World) (base : Nat) (ok : Nat → Prop) : ∀ l : List (Int × Int × Int), Reps (k68.M w base ok) 3 (l.map class_reaches.row) (class_reaches.cells l)
  | [] => Reps.none _ _
  | x :: l => Reps.c3 (k68_mkM w base ok (class_reaches.row x)) (class_reaches.reps w base ok l)
theorem straight {P : Program} {i0 i1 : Nat} {o0 o1 : Array Oper} {Q : Exit → Act → World → Prop} {a : Act} {w : World} (t : Tmp) (v : Value) (w' : World)
    (h : ((runAll P o0.toList a w).bind fun x => runAll P o1.toList x.1 x.2).map (fun x => (x.1.tmps.getD t undef, x.1.defers, x.2)) = some (v, [], w'))
    (hQ : ∀ a', a'.tmps.getD t undef = v → a'.defers = [] → Q .ret a' w') :
    ((Code.region i0 o0 false).seq ((Code.region i1 o1 false).seq Code.ret)).wp P Q a w := by
  obtain ⟨⟨a2, w2⟩, h, he⟩ := Option.map_eq_some_iff.1 h;obtain ⟨⟨a1, w1⟩, h0, h1⟩ := Option.bind_eq_some_iff.1 h;simp only [Prod.mk.injEq] at he;obtain ⟨hv, hd, rfl⟩ := he;refine wp_seq (wp_region_list (wpList_runAll _ _ _ _ _ h0 ?_));show ((Code.region i1 o1 false).seq Code.ret).wp P Q a1 w1;refine wp_seq (wp_region_list (wpList_runAll _ _ _ _ _ h1 ?_));show Code.ret.wp P Q a2 w2;exact wp_ret (hQ a2 hv hd)
theorem class_reaches.calls (r : List S68) (w : World) (h : class_reaches.f = some r) :
    Calls Try.prog 33 #[] w fun e w' => ∃ v0_ : Value, e = .returned (v0_) ∧ Kd.R k68 68 w' w.heap.size (fun _ => True) v0_ r ∧ Below w.heap.size w w' := by
  obtain rfl := Option.some.inj h
  go_enter Try.func33, Try.ntmps33
  refine straight 0 (.slice (some ⟨w.heap.size, 0, none⟩) 90 90) (w.alloc (.cells (class_reaches.cells class_reaches.tbl).toArray 68)) (by kernel_rfl) fun a' hv hd => ?_
  refine bodyPost_ret (v := .slice (some ⟨w.heap.size, 0, none⟩) 90 90) ((results_tmp rfl _ _ _).trans (by rw [hv])) hd ⟨_, rfl, ?_, below_alloc (Below.refl _ _) _⟩;refine ⟨fun _ _ => trivial, class_reaches.cells class_reaches.tbl, ?_, ?_⟩
  · have h2 := World.ownsRow_lit (base := w.heap.size) (e := 68) (size := 3) w (class_reaches.cells class_reaches.tbl).toArray 90 (Nat.le_refl _) (by simp [maxLen]) (by decide +kernel)
    have e : (class_reaches.tbl.map class_reaches.row).length = 90 := by decide +kernel
    rw [e];exact h2
  · exact class_reaches.reps _ _ _ _
end Go.Proofs.Ytmjipbmpapcboaa.P
namespace Go.Proofs.Ytmjipbmpapcboaa.P
open Go.RowKit Go.Proofs.YtmjipbmpapcboaaW.PrintWords Go.Proofs.YtmjipbmpapcboaaW.PrintLast Go.Proofs.YtmjipbmpapcboaaW.PrintMore
attribute [local go_sem] max2_int min2_int max_two min_two
set_option linter.unusedVariables false
set_option linter.unusedSimpArgs false
def class_Of.f (k : Nat) (a0 : Int) : Option (Int) := (class_reaches.f).bind fun t128 => ((class_find.f k t128 a0).bind fun t131 => (some t131))
theorem class_Of.mono : ∀ a0 k, LeO (class_Of.f k a0) (class_Of.f (k + 1) a0) := by
  intro a0 k;unfold class_Of.f
  repeat' first
      | (with_reducible exact class_find.mono _ _ _)
      | (with_reducible exact LeO.refl _)
      | (with_reducible exact LeO.none _)
      | (with_reducible refine LeO.ite ?_ ?_)
      | (with_reducible refine LeO.bind ?_ (fun _ => ?_))
      | exact class_find.mono _ _ _
      | exact LeO.none _
      | refine LeO.ite ?_ ?_
      | refine LeO.bind ?_ (fun _ => ?_)
theorem class_Of.calls (k : Nat) (a0 : Int) (r : Int) (w : World) (h : class_Of.f k a0 = some r) :
    Calls Try.prog 28 #[.int .i64 a0] w fun e w' => e = .returned (.int .i64 r) ∧ Below w.heap.size w w' := by
  have HB := Aside0.mk (Below.refl w.heap.size w);unfold class_Of.f at h;have H := h;clear h;replace H := Option.bind_eq_some_iff.mp H;obtain ⟨t128, A20, H⟩ := H;have A2 := Aside0.mk A20;clear A20;replace H := Option.bind_eq_some_iff.mp H;obtain ⟨t131, A30, H⟩ := H;have A3 := Aside0.mk A30;clear A30;obtain rfl := Option.some.inj H
  go_enter Try.func28, Try.ntmps28
  go_wp2_with (first | ((with_reducible refine gate_callee (f := 33) rfl ?_); refine gL 3 Try.func33 #[] ?_; (with_reducible refine (class_reaches.calls  t128 _ A2.out).mono ?_); rintro e w4 ⟨v129, rfl, ho0, hb⟩; refine ⟨_, rfl, ?_⟩; have n_ := z2_ (Kd.R_lower ho0 (below_size (uB HB.out))) (below_step (uB HB.out) hb); clear HB; obtain ⟨HO130, HB⟩ := n_; (try clear hb); (try clear ho0); obtain ⟨Ao5, co5, eo5⟩ := Kd.R_slice HO130.out; subst eo5) | ((with_reducible refine gate_callee (f := 32) rfl ?_); refine gL 5 Try.func32 #[.slice Ao5 t128.length co5, .int .i64 a0] ?_; (with_reducible refine (class_find.calls k _ _ t128 a0 t131 _ ?side1 ?side2 A3.out).mono ?_); (case side1 => exact uC (Kd.R_reads' HO130.out).2.2); (case side2 => exact (Kd.R_reads' HO130.out).2.1); rintro e w6 ⟨rfl, hb⟩; refine ⟨_, rfl, ?_⟩; have n_ := z2_ (Kd.R_below (uR HO130.out) hb) (below_step (uB HB.out) hb); clear HO130 HB; obtain ⟨HO130, HB⟩ := n_; (try clear hb); (try clear hb2); (try clear hk); (try clear hi)))
  go_ret;exact ⟨uE, uB HB.out⟩
def class_in.f (a0 : Int) (a1 : Int) : Option (Bool) := if a0 ≥ 0 then (if a0 ≤ 22 then (if 0 ≤ a0 then (some ((Go.bits .and .u64 (shr .u64 a1 a0) 1) == 1)) else (none)) else (some false)) else (some false)
theorem class_in.calls (a0 : Int) (a1 : Int) (r : Bool) (w : World) (h : class_in.f a0 a1 = some r) :
    Calls Try.prog 47 #[.int .i64 a0, .int .u64 a1] w fun e w' => e = .returned (.bool r) ∧ Drawn0 w w' := by
  unfold class_in.f at h;have H := h;clear h
  by_cases c3 : a0 ≥ 0
  rotate_left
  · rw [if_neg c3] at H
    have c3b0 : decide (0 ≤ a0) = false := decide_eq_false c3;clear c3;obtain rfl := Option.some.inj H
    go_enter Try.func47, Try.ntmps47
    go_wp2;go_ret;exact ⟨uF, uW⟩
  rw [if_pos c3] at H;have c3b0 : decide (0 ≤ a0) = true := decide_eq_true c3;clear c3
  by_cases c4 : a0 ≤ 22
  rotate_left
  · rw [if_neg c4] at H
    have c4b0 := decide_eq_false c4;clear c4;obtain rfl := Option.some.inj H
    go_enter Try.func47, Try.ntmps47
    go_wp2;go_ret;exact ⟨uF, uW⟩
  rw [if_pos c4] at H;have c4b0 := decide_eq_true c4;clear c4;replace H := uP H;obtain ⟨c5, H⟩ := H;have c5b0 := eq_true c5;have c5b1 := decide_eq_true c5;clear c5;obtain ⟨ji6, hji6⟩ : ∃ j_ : Int, (shr .u64 a1 a0) = j_ := ⟨_, rfl⟩
  replace H : (some ((Go.bits .and .u64 (ji6) 1) == 1)) = some r := by first | (rw [hji6] at H; exact H) | (simp only [hji6] at H ⊢; exact H)
  have hji6_ : (a1 / 2 ^ min a0.toNat 64) = ji6 := hji6;have hji6z : a0 ≤ 64 → (a1 / 2 ^ a0.toNat) = ji6 := shr_small hji6;obtain rfl := Option.some.inj H
  go_enter Try.func47, Try.ntmps47
  go_wp2;go_ret;exact ⟨by first | rfl | (simp; done) | (simp only [← hji6] <;> (first | rfl | simp)) | (simp [*]; done), uW⟩
def class_set.l0 : Nat → Int → List Int → Int → Int → Option (Int)
  | 0, _, _, _, _ => none
  | k + 1, x2, x5, x6, x7 => if x7 < x6 then (if 0 ≤ x7 then (if x7 < (x5.length : Int) then (if 0 ≤ (rd x5 x7) then (class_set.l0 k (Go.bits .or .u64 x2 (shl .u64 1 (rd x5 x7))) x5 x6 (wrap64 (x7 + 1))) else (none)) else (none)) else (none)) else (some x2)
def class_set.f (k : Nat) (l0 : List Int) : Option (Int) := class_set.l0 k 0 l0 (l0.length : Int) 0
theorem class_set.mono_l : ∀ k, (∀ y0 y1 y2 y3, LeO (class_set.l0 k y0 y1 y2 y3) (class_set.l0 (k + 1) y0 y1 y2 y3))
  | 0 => fun _ _ _ _ r h => by simp [class_set.l0] at h
  | k + 1 => by
    have ih0 := class_set.mono_l k
    · intro y0 y1 y2 y3
      unfold class_set.l0
      repeat' first
      | (with_reducible exact ih0 _ _ _ _)
      | (with_reducible exact LeO.refl _)
      | (with_reducible exact LeO.none _)
      | (with_reducible refine LeO.ite ?_ ?_)
      | (with_reducible refine LeO.bind ?_ (fun _ => ?_))
      | exact ih0 _ _ _ _
      | exact LeO.none _
      | refine LeO.ite ?_ ?_
      | refine LeO.bind ?_ (fun _ => ?_)
theorem class_set.mono : ∀ a0 k, LeO (class_set.f k a0) (class_set.f (k + 1) a0) := by
  intro a0 k;have ih0 := class_set.mono_l k;unfold class_set.f
  repeat' first
      | (with_reducible exact ih0 _ _ _ _)
      | (with_reducible exact LeO.refl _)
      | (with_reducible exact LeO.none _)
      | (with_reducible refine LeO.ite ?_ ?_)
      | (with_reducible refine LeO.bind ?_ (fun _ => ?_))
      | exact ih0 _ _ _ _
      | exact LeO.none _
      | refine LeO.ite ?_ ?_
      | refine LeO.bind ?_ (fun _ => ?_)
theorem class_set.calls (k : Nat) (A0 : Option Addr) (c0 : Nat) (l0 : List Int) (r : Int) (w : World) (hr0 : Kd.C (Kd.int .i64) w A0 l0.length l0) (hc0 : l0.length ≤ c0) (h : class_set.f k l0 = some r) :
    Calls Try.prog 48 #[.slice A0 l0.length c0] w fun e w' => e = .returned (.int .u64 r) ∧ Drawn0 w w' := by
  have HR0 := Aside0.mk hr0;have HC0 := Aside0.mk hc0;clear hr0 hc0;unfold class_set.f at h;have H := h;clear h;have H' := Aside0.mk H;clear H
  go_enter Try.func48, Try.ntmps48
  go_wp2
  go_loopg [2, 7] k (fun kq v2 v7 w' => ∃ (x2_1 : Int) (x7_1 : Int), v2 = .int .u64 x2_1 ∧ v7 = .int .i64 x7_1 ∧ Aside0 (class_set.l0 kq x2_1 l0 (l0.length : Int) x7_1 = some r) ∧ Aside0 (kq ≤ k) ∧ Drawn0 w w')
  case atStart => exact ⟨(0), (0), uF, uF, H', ⟨Nat.le_refl _⟩, uW⟩
  case round =>
    clear H';obtain ⟨x2_1, x7_1, rfl, rfl, HA, HK1, ⟨m1, rfl⟩⟩ := hrel
    cases gk with
    | zero => exact absurd HA.out (by simp [class_set.l0])
    | succ k1 =>
      have H := HA.out;clear HA;simp only [class_set.l0] at H
      by_cases c2 : x7_1 < (l0.length : Int)
      rotate_left
      · rw [if_neg c2] at H
        have c2b0 := decide_eq_false c2;clear c2;obtain rfl := Option.some.inj H;go_wp2;go_ret;exact ⟨uF, uW⟩
      rw [if_pos c2] at H;have c2b0 := decide_eq_true c2;clear c2;replace H := uI H;obtain ⟨c3b0, H⟩ := H;replace H := uI H;obtain ⟨c4b0, H⟩ := H;replace H := uP H;obtain ⟨c5, H⟩ := H;have c5b0 := eq_true c5;have c5b1 := decide_eq_true c5;clear c5;obtain ⟨ji6, hji6⟩ : ∃ j_ : Int, (shl .u64 1 (rd l0 x7_1)) = j_ := ⟨_, rfl⟩
      replace H : (class_set.l0 k1 (Go.bits .or .u64 x2_1 (ji6)) l0 (l0.length : Int) (wrap64 (x7_1 + 1))) = some r := by first | (rw [hji6] at H; exact H) | (simp only [hji6] at H ⊢; exact H)
      have hji6_ : (IntKind.u64.wrap (1 * 2 ^ min (rd l0 x7_1).toNat 64)) = ji6 := hji6;have hji6z : (rd l0 x7_1) ≤ 64 → (IntKind.u64.wrap (1 * 2 ^ (rd l0 x7_1).toNat)) = ji6 := shl_small hji6
      have hji6u : (IntKind.u64.wrap (2 ^ min (rd l0 x7_1).toNat 64)) = ji6 := by have h_ := hji6_; rw [Int.one_mul] at h_; exact h_
      have hji6v : (rd l0 x7_1) ≤ 64 → (IntKind.u64.wrap (2 ^ (rd l0 x7_1).toNat)) = ji6 := fun hle_ => by have h_ := hji6z hle_; rw [Int.one_mul] at h_; exact h_
      have H' := Aside0.mk H;clear H;have p132 : 0 ≤ (x7_1 : Int) := uD;have q132 : x7_1 < (l0.length : Int) := uD;obtain ⟨ad132, e132, hx132_0⟩ := Kd.at_int HR0.out x7_1 p132 q132;cases e132;replace p132 := eq_true p132;replace q132 := eq_true q132;go_wp2;go_roundg k1
      case measure => have := HK1.out; omega
      case rel => exact ⟨(Go.bits .or .u64 x2_1 (ji6)), (wrap64 (x7_1 + 1)), (by first | rfl | (simp; done) | (simp only [← hji6] <;> (first | rfl | simp)) | (simp [*]; done)), uF, H', ⟨by have := HK1.out; omega⟩, uW⟩
def class_Opens.f (k : Nat) (a0 : Int) : Option (Bool) := (class_set.f k (([19, 20, 21] : List Int))).bind fun t136 => ((class_in.f a0 t136).bind fun t137 => (some t137))
theorem class_Opens.mono : ∀ a0 k, LeO (class_Opens.f k a0) (class_Opens.f (k + 1) a0) := by
  intro a0 k;unfold class_Opens.f
  repeat' first
      | (with_reducible exact class_set.mono _ _)
      | (with_reducible exact LeO.refl _)
      | (with_reducible exact LeO.none _)
      | (with_reducible refine LeO.ite ?_ ?_)
      | (with_reducible refine LeO.bind ?_ (fun _ => ?_))
      | exact class_set.mono _ _
      | exact LeO.none _
      | refine LeO.ite ?_ ?_
      | refine LeO.bind ?_ (fun _ => ?_)
theorem class_Opens.calls (k : Nat) (a0 : Int) (r : Bool) (w : World) (h : class_Opens.f k a0 = some r) :
    Calls Try.prog 34 #[.int .i64 a0] w fun e w' => e = .returned (.bool r) ∧ Below w.heap.size w w' := by
  have HB := Aside0.mk (Below.refl w.heap.size w);unfold class_Opens.f at h;have H := h;clear h;obtain ⟨y133, hy133⟩ : ∃ y_ : List Int, y_ = (([19, 20, 21] : List Int)) := ⟨_, rfl⟩;replace H : ((class_set.f k y133).bind fun t136 => ((class_in.f a0 t136).bind fun t137 => (some t137))) = some r := uH hy133 H;have Ny133 := Aside0.mk hy133;clear hy133;replace H := Option.bind_eq_some_iff.mp H;obtain ⟨t136, A20, H⟩ := H;have A2 := Aside0.mk A20;clear A20;replace H := Option.bind_eq_some_iff.mp H;obtain ⟨t137, A30, H⟩ := H;have A3 := Aside0.mk A30;clear A30;obtain rfl := Option.some.inj H
  go_enter Try.func34, Try.ntmps34
  go_wp2_with (first | ((with_reducible refine gate_dst (N := 4) rfl ?_); refine Kd.R_lit (Kd.int .i64) _ 3 ?hg (N := 4) ?hd (xs := ([19, 20, 21] : List Int)) (inner := [.int .i64 19, .int .i64 20, .int .i64 21]) (ok := fun _ => True) (okp := fun _ => True) ?hr ?hp (fun _ hk => hk) trivial (Below.refl _ _) (Nat.le_refl _) (by simp) ?_; (case hd => rfl); (case hg => rfl); (case hr => exact uN); (case hp => exact (Reps.one uL (Reps.one uL (Reps.one uL (Reps.none _ _))))); intro v134 w4 ho5 hb hg_ hnew_; clear hg_ hnew_; (first | rw [← Ny133.out] at ho5 | (simp only [Int.reduceToNat] at ho5; rw [← Ny133.out] at ho5)); have n_ := z2_ (Kd.R_lower ho5 (below_size (uB HB.out))) (below_step (uB HB.out) hb); clear HB; obtain ⟨HO135, HB⟩ := n_; clear hb ho5; obtain ⟨Ao6, co6, eo6⟩ := Kd.R_slice HO135.out; subst eo6) | ((with_reducible refine gate_callee (f := 48) rfl ?_); refine gL 5 Try.func48 #[.slice Ao6 y133.length co6] ?_; (with_reducible refine (class_set.calls k _ _ y133 t136 _ ?side1 ?side2 A2.out).mono ?_); (case side1 => exact uC (Kd.R_reads' HO135.out).2.2); (case side2 => exact (Kd.R_reads' HO135.out).2.1); rintro e w' ⟨rfl, ⟨nd, rfl⟩⟩; refine ⟨_, rfl, ?_⟩) | ((with_reducible refine gate_callee (f := 47) rfl ?_); refine gL 6 Try.func47 #[.int .i64 a0, .int .u64 t136] ?_; (with_reducible refine (class_in.calls a0 t136 t137 _ A3.out).mono ?_); rintro e w' ⟨rfl, ⟨nd, rfl⟩⟩; refine ⟨_, rfl, ?_⟩))
  go_ret;exact ⟨uE, uB HB.out⟩
def class_Out.f (k : Nat) (a0 : Int) : Option (Bool) := (class_set.f k (([14, 15, 16, 17, 18, 9] : List Int))).bind fun t141 => ((class_in.f a0 t141).bind fun t142 => (some t142))
theorem class_Out.mono : ∀ a0 k, LeO (class_Out.f k a0) (class_Out.f (k + 1) a0) := by
  intro a0 k;unfold class_Out.f
  repeat' first
      | (with_reducible exact class_set.mono _ _)
      | (with_reducible exact LeO.refl _)
      | (with_reducible exact LeO.none _)
      | (with_reducible refine LeO.ite ?_ ?_)
      | (with_reducible refine LeO.bind ?_ (fun _ => ?_))
      | exact class_set.mono _ _
      | exact LeO.none _
      | refine LeO.ite ?_ ?_
      | refine LeO.bind ?_ (fun _ => ?_)
theorem class_Out.calls (k : Nat) (a0 : Int) (r : Bool) (w : World) (h : class_Out.f k a0 = some r) :
    Calls Try.prog 35 #[.int .i64 a0] w fun e w' => e = .returned (.bool r) ∧ Below w.heap.size w w' := by
  have HB := Aside0.mk (Below.refl w.heap.size w);unfold class_Out.f at h;have H := h;clear h;obtain ⟨y138, hy138⟩ : ∃ y_ : List Int, y_ = (([14, 15, 16, 17, 18, 9] : List Int)) := ⟨_, rfl⟩;replace H : ((class_set.f k y138).bind fun t141 => ((class_in.f a0 t141).bind fun t142 => (some t142))) = some r := uH hy138 H;have Ny138 := Aside0.mk hy138;clear hy138;replace H := Option.bind_eq_some_iff.mp H;obtain ⟨t141, A20, H⟩ := H;have A2 := Aside0.mk A20;clear A20;replace H := Option.bind_eq_some_iff.mp H;obtain ⟨t142, A30, H⟩ := H;have A3 := Aside0.mk A30;clear A30;obtain rfl := Option.some.inj H
  go_enter Try.func35, Try.ntmps35
  go_wp2_with (first | ((with_reducible refine gate_dst (N := 4) rfl ?_); refine Kd.R_lit (Kd.int .i64) _ 3 ?hg (N := 4) ?hd (xs := ([14, 15, 16, 17, 18, 9] : List Int)) (inner := [.int .i64 14, .int .i64 15, .int .i64 16, .int .i64 17, .int .i64 18, .int .i64 9]) (ok := fun _ => True) (okp := fun _ => True) ?hr ?hp (fun _ hk => hk) trivial (Below.refl _ _) (Nat.le_refl _) (by simp) ?_; (case hd => rfl); (case hg => rfl); (case hr => exact uN); (case hp => exact (Reps.one uL (Reps.one uL (Reps.one uL (Reps.one uL (Reps.one uL (Reps.one uL (Reps.none _ _)))))))); intro v139 w4 ho5 hb hg_ hnew_; clear hg_ hnew_; (first | rw [← Ny138.out] at ho5 | (simp only [Int.reduceToNat] at ho5; rw [← Ny138.out] at ho5)); have n_ := z2_ (Kd.R_lower ho5 (below_size (uB HB.out))) (below_step (uB HB.out) hb); clear HB; obtain ⟨HO140, HB⟩ := n_; clear hb ho5; obtain ⟨Ao6, co6, eo6⟩ := Kd.R_slice HO140.out; subst eo6) | ((with_reducible refine gate_callee (f := 48) rfl ?_); refine gL 5 Try.func48 #[.slice Ao6 y138.length co6] ?_; (with_reducible refine (class_set.calls k _ _ y138 t141 _ ?side1 ?side2 A2.out).mono ?_); (case side1 => exact uC (Kd.R_reads' HO140.out).2.2); (case side2 => exact (Kd.R_reads' HO140.out).2.1); rintro e w' ⟨rfl, ⟨nd, rfl⟩⟩; refine ⟨_, rfl, ?_⟩) | ((with_reducible refine gate_callee (f := 47) rfl ?_); refine gL 6 Try.func47 #[.int .i64 a0, .int .u64 t141] ?_; (with_reducible refine (class_in.calls a0 t141 t142 _ A3.out).mono ?_); rintro e w' ⟨rfl, ⟨nd, rfl⟩⟩; refine ⟨_, rfl, ?_⟩))
  go_ret;exact ⟨uE, uB HB.out⟩
def line_light.f (k : Nat) (a0 : Int) : Option (Bool) := if a0 = 12 then (some true) else (if a0 = 22 then (some true) else ((class_Opens.f k a0).bind fun t143 => (if t143 = true then (some true) else ((class_Out.f k a0).bind fun t144 => (some t144)))))
theorem line_light.mono : ∀ a0 k, LeO (line_light.f k a0) (line_light.f (k + 1) a0) := by
  intro a0 k;unfold line_light.f
  repeat' first
      | (with_reducible exact class_Opens.mono _ _)
      | (with_reducible exact class_Out.mono _ _)
      | (with_reducible exact LeO.refl _)
      | (with_reducible exact LeO.none _)
      | (with_reducible refine LeO.ite ?_ ?_)
      | (with_reducible refine LeO.bind ?_ (fun _ => ?_))
      | exact class_Opens.mono _ _
      | exact class_Out.mono _ _
      | exact LeO.none _
      | refine LeO.ite ?_ ?_
      | refine LeO.bind ?_ (fun _ => ?_)
theorem line_light.calls (k : Nat) (a0 : Int) (r : Bool) (w : World) (h : line_light.f k a0 = some r) :
    Calls Try.prog 29 #[.int .i64 a0] w fun e w' => e = .returned (.bool r) ∧ Below w.heap.size w w' := by
  have HB := Aside0.mk (Below.refl w.heap.size w);unfold line_light.f at h;have H := h;clear h
  by_cases c2 : a0 = 12
  · rw [if_pos c2] at H
    have c2b0 := beq_iff_eq.mpr c2;have c2b1 := bne_eq_false_iff_eq.mpr c2;clear c2;obtain rfl := Option.some.inj H
    go_enter Try.func29, Try.ntmps29
    go_wp2;go_ret;exact ⟨uE, uB HB.out⟩
  rw [if_neg c2] at H;have c2b0 := beq_eq_false_iff_ne.mpr c2;have c2b1 := bne_iff_ne.mpr c2
  by_cases c3 : a0 = 22
  · rw [if_pos c3] at H
    have c3b0 := beq_iff_eq.mpr c3;have c3b1 := bne_eq_false_iff_eq.mpr c3;clear c3;obtain rfl := Option.some.inj H
    go_enter Try.func29, Try.ntmps29
    go_wp2;go_ret;exact ⟨uE, uB HB.out⟩
  rw [if_neg c3] at H;have c3b0 := beq_eq_false_iff_ne.mpr c3;have c3b1 := bne_iff_ne.mpr c3;replace H := Option.bind_eq_some_iff.mp H;obtain ⟨t143, A40, H⟩ := H;have A4 := Aside0.mk A40;clear A40
  by_cases c5 : t143 = true
  · subst c5
    have H1 : (some true) = some r := by rw [if_pos rfl] at H; exact H
    clear H;have H := H1;clear H1;obtain rfl := Option.some.inj H
    go_enter Try.func29, Try.ntmps29
    go_wp2_with (first | (go_at_call 34; (with_reducible refine (class_Opens.calls k a0 true _ A4.out).mono ?_); rintro e w6 ⟨rfl, hb⟩; have n0_ := Aside0.mk (below_step (uB HB.out) hb); clear HB; have HB := n0_; clear n0_; (try clear hb); (try clear hb2); (try clear hk); (try clear hi)))
    go_ret;exact ⟨uE, uB HB.out⟩
  replace c5 := Bool.eq_false_iff.mpr c5;subst c5
  have H1 : ((class_Out.f k a0).bind fun t144 => (some t144)) = some r := by rw [if_neg (show ¬ (false = true) by decide)] at H; exact H
  clear H;have H := H1;clear H1;replace H := Option.bind_eq_some_iff.mp H;obtain ⟨t144, A70, H⟩ := H;have A7 := Aside0.mk A70;clear A70;obtain rfl := Option.some.inj H
  go_enter Try.func29, Try.ntmps29
  go_wp2_with (first | (go_at_call 34; (with_reducible refine (class_Opens.calls k a0 false _ A4.out).mono ?_); rintro e w8 ⟨rfl, hb⟩; have n0_ := Aside0.mk (below_step (uB HB.out) hb); clear HB; have HB := n0_; clear n0_; (try clear hb); (try clear hb2); (try clear hk); (try clear hi)) | (go_at_call 35; (with_reducible refine (class_Out.calls k a0 t144 _ A7.out).mono ?_); rintro e w9 ⟨rfl, hb⟩; have n0_ := Aside0.mk (below_step (uB HB.out) hb); clear HB; have HB := n0_; clear n0_; (try clear hb); (try clear hb2); (try clear hk); (try clear hi)))
  go_ret;exact ⟨uE, uB HB.out⟩
end Go.Proofs.Ytmjipbmpapcboaa.P
namespace Go.Proofs.Ytmjipbmpapcboaa.P
open Go.RowKit Go.Proofs.YtmjipbmpapcboaaW.PrintWords Go.Proofs.YtmjipbmpapcboaaW.PrintLast
set_option linter.unusedVariables false
def slices_Clone_int.f (l0 : List Int) : Option (List Int) := if l0.length < 17592186044416 then some l0 else none
theorem cinfo3 : (Try.prog.info? 3).map (fun i => (i.zero, i.size, i.bytes)) = some (some (.int .i64 0), 1, 8) := by kernel_rfl
set_option maxHeartbeats 4000000 in
set_option maxRecDepth 100000 in
theorem slices_Clone_int.calls (A0 : Option Addr) (c0 : Nat) (l0 : List Int) (r : List Int) (w : World) (hr0 : Kd.C (Kd.int .i64) w A0 l0.length l0) (hc0 : l0.length ≤ c0) (h : slices_Clone_int.f l0 = some r) :
    Calls Try.prog 27 #[.slice A0 l0.length c0] w fun e w' => ∃ v0_ : Value, e = .returned (v0_) ∧ Kd.R (Kd.int .i64) 3 w' w.heap.size (fun _ => True) v0_ r ∧ Below w.heap.size w w' := by
  have HL : Aside0 (l0.length < 17592186044416) := by
    refine ⟨?_⟩;unfold slices_Clone_int.f at h
    by_cases hl : l0.length < 17592186044416
    · exact hl
    · rw [if_neg hl] at h
      cases h
  obtain rfl : l0 = r := by
    unfold slices_Clone_int.f at h;rw [if_pos HL.out] at h;exact Option.some.inj h
  clear h;have HR0 := Aside0.mk hr0;have HC0 := Aside0.mk hc0;clear hr0 hc0
  have qT : ∀ (W : World) (a : Option Addr) (n c n' c' : Nat), (binOp .eql 22 (.slice a n c) (.slice none n' c')).run Try.prog W = .ok (.bool a.isNone) W := fun W a n c n' c' => Lib.run_eql_slice_nil W _ _ a n c n' c' Try.underlying22
  have HB := Aside0.mk (Below.refl w.heap.size w)
  cases A0 with
  | none =>
    have h0 : l0 = [] := by
      rcases Nat.eq_zero_or_pos l0.length with h0 | h0
      · exact List.eq_nil_of_length_eq_zero h0
      · have h1 := Kd.C_get HR0.out (0 : Int) 0 (by omega) (by omega)
        obtain ⟨ad, c, e, _⟩ := h1;cases e
    subst h0
    go_enter Try.func27, Try.ntmps27
    go_wp2;go_ret;exact ⟨_, rfl, Kd.R_nil _ _ _ _ _, HB.out⟩
  | some ad =>
    go_enter Try.func27, Try.ntmps27
    go_wp2_with (first
      | ((with_reducible refine gate_dst (N := 5) rfl ?_); refine Kd.R_lit (Kd.int .i64) _ 3 ?hg (N := 5) ?hd (xs := ([] : List Int)) (inner := []) (ok := fun _ => True) (okp := fun _ => True) ?hr ?hp (fun _ hk => hk) trivial (Below.refl _ _) (Nat.le_refl _) (by simp) ?_; (case hd => rfl); (case hg => rfl); (case hr => exact uN); (case hp => exact (Reps.none _ _)); intro v254 w32 ho33 hb hg_ hnew_; clear hg_ hnew_; have HO := Aside0.mk ho33; have n6_ := Aside0.mk (below_step (by exact HB.out) hb); clear HB; have HB := n6_; clear n6_; clear hb ho33)
      | ((with_reducible refine gate_builtin (b := .append) (xs := #[.tmp 5, .tmp 6]) rfl ?_); at_builtin; refine Kd.R_append_rows (Kd.int .i64) (w0 := w) w.heap.size rfl (.tmp 5) (.tmp 6) 22 3 (.int .i64 0) 8 rfl Try.underlying22 cinfo3 rfl (by decide) (by omega) v254 ([] : List Int) l0 _ _ _ (fun k_ => True) (fun _ => False) rfl rfl ?aO ?aR (fun _ _ h => h) (fun _ h => h.elim) ?aF ?aB ?aS ?aL ?_; (case aR => exact (Kd.C_below HR0.out HB.out)); (case aB => exact HB.out); (case aF => exact (fun k_ hk => trivial)); (case aO => exact Kd.R_lower (Kd.R_mono HO.out (fun _ _ => trivial)) (Nat.le_refl _)); (case aS => exact (below_size HB.out)); (case aL => have := HL.out; simp; omega); intro v257 w34 ho hb hg hat; have HO2 := Aside0.mk ho; clear HB; have HB := Aside0.mk hb; clear ho hb hg hat))
    go_ret;exact ⟨_, rfl, by simpa using HO2.out, HB.out⟩
end Go.Proofs.Ytmjipbmpapcboaa.P
namespace Go.Proofs.Ytmjipbmpapcboaa.P
open Go.RowKit Go.Proofs.YtmjipbmpapcboaaW.PrintWords Go.Proofs.YtmjipbmpapcboaaW.PrintLast
set_option linter.unusedVariables false
set_option linter.unusedSimpArgs false
def idxFrom (p : Int → Bool) (i : Nat) : List Int → Int
  | [] => -1
  | x :: l => if p x = true then (i : Int) else idxFrom p (i + 1) l
def TestAns (g : Nat) (caps : Array Value) (p : Int → Bool) (w : World) (l : List Int) : Prop :=
  ∀ x ∈ l, ∀ n : Nat, Calls Try.prog g (#[.int .i64 x] ++ caps) (w.drewN n) fun e w' => e = .returned (.bool (p x)) ∧ ∃ m, w' = (w.drewN n).drewN m
set_option maxHeartbeats 4000000 in
set_option maxRecDepth 100000 in
theorem idx_func.calls (g : Nat) (caps : Array Value) (p : Int → Bool) (A0 : Option Addr) (c0 : Nat) (l0 : List Int) (w : World) (hr0 : Kd.C (Kd.int .i64) w A0 l0.length l0) (hl : l0.length < 9223372036854775807) (ht : TestAns g caps p w l0) (hgo : ∀ (x : Int) (W : World), (callFunc g (#[.int .i64 x] ++ caps)).run Try.prog W = .ok (.enter g (#[.int .i64 x] ++ caps)) W) :
    Calls Try.prog 24 #[.slice A0 l0.length c0, .func (.func g) #[] caps] w fun e w' => e = .returned (.int .i64 (idxFrom p 0 l0)) ∧ ∃ m, w' = w.drewN m := by
  have HR0 := Aside0.mk hr0;have HL := Aside0.mk hl;have HT := Aside0.mk ht;clear hr0 hl ht
  go_enter Try.func24, Try.ntmps24
  go_wp2
  go_loopw [8] (fun v wr => ∃ i : Nat, v = .int .i64 (i : Int) ∧ i ≤ l0.length ∧ (∃ m, wr = w.drewN m) ∧ idxFrom p 0 l0 = idxFrom p i (l0.drop i)) (fun v wr => l0.length - (intOf v).toNat)
  case atStart => exact ⟨0, rfl, by omega, ⟨0, rfl⟩, by simp⟩
  case round =>
    obtain ⟨i, rfl, hi, ⟨m, rfl⟩, hidx⟩ := hrel
    by_cases h : i < l0.length
    · obtain ⟨ad, e, hx⟩ := Kd.at_int HR0.out (i : Int) (by omega) (by omega)
      cases e;rw [Int.toNat_natCast] at hx
      have hmem : rd l0 (i : Int) ∈ l0 := by
        unfold rd;rw [Int.toNat_natCast, List.getD_eq_getElem?_getD, List.getElem?_eq_getElem h, Option.getD_some];exact List.getElem_mem _
      have hcall := HT.out _ hmem
      have hd : l0.drop i = rd l0 (i : Int) :: l0.drop (i + 1) := by
        unfold rd;rw [Int.toNat_natCast, List.getD_eq_getElem?_getD, List.getElem?_eq_getElem h, Option.getD_some];exact List.drop_eq_getElem_cons h
      rw [hd] at hidx;have H := Aside0.mk hidx;have h1 : decide ((i : Int) < (l0.length : Int)) = true := decide_eq_true (by omega);have h2 : ((0 : Int) ≤ (i : Int)) = True := eq_true (by omega);have h3 : ((i : Int) < (l0.length : Int)) = True := eq_true (by omega);have hgo1 := hgo (rd l0 (i : Int));clear hidx hd;obtain ⟨b, hb⟩ : ∃ b, p (rd l0 (i : Int)) = b := ⟨_, rfl⟩;rw [hb] at hcall;have HP := Aside0.mk hb;clear hb
      cases b with
      | true =>
        go_wp2_with (refine (hcall _).mono ?_; rintro e w' ⟨rfl, m2, rfl⟩)
        go_ret;refine ⟨?_, _, rfl⟩;rw [H.out];simp only [idxFrom];rw [if_pos HP.out];rfl
      | false =>
        go_wp2_with (refine (hcall _).mono ?_; rintro e w' ⟨rfl, m2, rfl⟩)
        have hw : wrap64 ((i : Int) + 1) = ((i + 1 : Nat) : Int) := by
          have := HL.out;unfold wrap64
          omega
        refine ⟨⟨i + 1, by rw [hw], by omega, ⟨_, rfl⟩, ?_⟩, ?_⟩
        · rw [H.out]
          simp only [idxFrom];rw [if_neg (by rw [HP.out]; decide)]
        · rw [hw]
          show l0.length - (((i + 1 : Nat) : Int)).toNat < l0.length - ((i : Int)).toNat
          omega
    · have hn : i = l0.length := by omega
      subst hn;have h1 : decide ((l0.length : Int) < (l0.length : Int)) = false := decide_eq_false (by omega);have H := Aside0.mk hidx;clear hidx;go_wp2;go_ret;refine ⟨?_, _, rfl⟩;rw [H.out, List.drop_length];rfl
end Go.Proofs.Ytmjipbmpapcboaa.P
