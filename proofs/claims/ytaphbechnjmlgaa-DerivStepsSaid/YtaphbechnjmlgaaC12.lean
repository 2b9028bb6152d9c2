/- Texts of this claim put together by a program of its own (Px0, SNode, Px3, Px1, Px4, SDJoin, SNullN, SSameN, SDOr, SHasR), what the law does not use left out: each part's statements bear their own conditions. -/
import Derived.Test.YtaphbechnjmlgaaProg
import Derived.Below
import Derived.Deep.Draws
import Derived.Deep.AppendLies
import Derived.Maps.AppendAt
import Derived.OwnWalk
import Derived.Laws.BytesArg
import Derived.Laws.MakeOwn
import Derived.Laws.OwnMore
import Derived.Deep.OwnRows
import Derived.Tactics
import Derived.Lib.ConvBytes
import Derived.Laws.Slices
import Derived.WalkKit
import Derived.KernelRfl
import Derived.RowKit3
import Derived.Deep.LoopGhost
import Derived.Deep.QuietTactic
import Derived.BigQuiet
import Derived.WideLaws
import Derived.Deep.DeepCutAuto
import Derived.Deep.CutBlock
import Derived.Deep.RegionHeld3
import Derived.Laws.Rows
import Derived.Lib.AppendStr
import Derived.ArgAppend
import Derived.Laws.IdiomCopy
import Derived.OrdersHeld
import Derived.Laws.BitsLemmas
import Derived.RowKit
import Derived.Test.YtaphbechnjmlgaaC0
import Derived.Test.YtaphbechnjmlgaaC1
import Derived.Test.YtaphbechnjmlgaaC2
import Derived.Test.YtaphbechnjmlgaaC3
import Derived.Test.YtaphbechnjmlgaaC4
import Derived.Test.YtaphbechnjmlgaaC5
import Derived.Test.YtaphbechnjmlgaaC6
import Derived.Test.YtaphbechnjmlgaaC7
import Derived.Test.YtaphbechnjmlgaaC8
import Derived.Test.YtaphbechnjmlgaaC9
import Derived.Test.YtaphbechnjmlgaaC10
import Derived.Test.YtaphbechnjmlgaaC11
import Derived.Lib.SliceRun
import Derived.WalkSpells
import Derived.ProofKit
import Derived.Laws.EntriesVeiled
import Derived.StillTailTactics
namespace Go.Proofs.Ytaphbechnjmlgaa.P
open Go.RowKit Go.Proofs.YtaphbechnjmlgaaW.PrintWords Go.Proofs.YtaphbechnjmlgaaW.PrintLast Go.Proofs.YtaphbechnjmlgaaW.PrintMore
attribute [local go_sem] max2_int min2_int max_two min_two
set_option linter.unusedVariables false
set_option linter.unusedSimpArgs false



def errW : Option Int → Value
  | none => .nilIface
  | some c => .iface 0 (.int .i64 c)
theorem errW_none : errW none = .nilIface := rfl
theorem errW_some (c : Int) : errW (some c) = .iface 0 (.int .i64 c) := rfl

theorem info3 : (Try.prog.info? 3).map (fun i => (i.zero, i.size, i.bytes)) = some (some (.int .i64 0), 1, 8) := by kernel_rfl
theorem info4 : (Try.prog.info? 4).map (fun i => (i.zero, i.size, i.bytes)) = some (some (.bool false), 1, 1) := by kernel_rfl
structure S52 where
  f0 : Int
  f1 : Int
def z52 : S52 := ⟨(0 : Int), (0 : Int)⟩
def k52 : Kd S52 := Kd.iso (Kd.pair (Kd.int .i64) (Kd.int .i64)) (fun x : S52 => (x.f0, x.f1))
theorem k52_open {w : World} {x : S52} {cs : List Value} (h : k52.K w x cs) : cs = [.int .i64 x.f0, .int .i64 x.f1] := by
  obtain ⟨_, _, rfl, rfl, rfl⟩ := h
  exact rfl
theorem k52_mk (w : World) (x : S52)  : k52.K w x [.int .i64 x.f0, .int .i64 x.f1] := ⟨[.int .i64 x.f0], [.int .i64 x.f1], rfl, rfl, rfl⟩
theorem k52_mkM (w : World) (base : Nat) (ok : Nat → Prop) (x : S52)  : k52.M w base ok x [.int .i64 x.f0, .int .i64 x.f1] := ⟨[.int .i64 x.f0], [.int .i64 x.f1], rfl, rfl, rfl⟩
def rd_T52 (xs : List S52) (i : Int) : S52 := xs.getD i.toNat z52
theorem at_T52 {w : World} {A : Option Addr} {n : Nat} {xs : List S52} (h : Kd.C k52 w A n xs) (i : Int) (h0 : 0 ≤ i) (h1 : i < n) : ∃ ad , A = some ad ∧ w.cell? (ad.add (i.toNat * 2)) = some (.int .i64 (rd_T52 xs i).f0) ∧ w.cell? ⟨(ad.add (i.toNat * 2)).block, (ad.add (i.toNat * 2)).off + 1, none⟩ = some (.int .i64 (rd_T52 xs i).f1) := by
  obtain ⟨ad, c, e, _, hK, hc0⟩ := Kd.C_get h z52 i h0 h1
  have hc : ∀ j u, c[j]? = some u → w.cell? (ad.add (i.toNat * 2 + j)) = some u := hc0
  obtain rfl := k52_open hK
  exact ⟨ad, e, hc 0 _ rfl, by rw [← add_field _ _ 1 (by omega)]; exact hc 1 _ rfl⟩

structure S25 where
  f0 : Int
  f1 : (List S52)
  f2 : Int
  f3 : Int
  f4 : (List S25)
def z25 : S25 := ⟨(0 : Int), ([] : List S52), (0 : Int), (0 : Int), ([] : List S25)⟩
def F25 (d : Kd S25) : Kd S25 := Kd.iso (Kd.pair (Kd.int .i64) (Kd.pair (Kd.slice 52 k52) (Kd.pair (Kd.int .i64) (Kd.pair (Kd.int .i64) (Kd.slice 25 d))))) (fun x : S25 => (x.f0, x.f1, x.f2, x.f3, x.f4))
theorem mono25 : Kd.Mono F25 := Kd.mono_iso _ (Kd.mono_pair (Kd.mono_const _) (Kd.mono_pair (Kd.mono_const _) (Kd.mono_pair (Kd.mono_const _) (Kd.mono_pair (Kd.mono_const _) (Kd.mono_slice 25 Kd.mono_id)))))
theorem sub25 : Kd.Sub F25 [25, 52] := Kd.sub_iso _ (Kd.sub_pair (Kd.sub_const _ (by decide)) (Kd.sub_pair (Kd.sub_const _ (by decide)) (Kd.sub_pair (Kd.sub_const _ (by decide)) (Kd.sub_pair (Kd.sub_const _ (by decide)) (Kd.sub_slice 25 (by decide) Kd.sub_id)))))
theorem sz25 : ∀ n, (Kd.upto F25 5 [25, 52] n).sz = 5 := Kd.upto_sz (fun _ => rfl)
def k25 : Kd S25 := Kd.fix F25 5 [25, 52] sz25 (Kd.upto_E sub25)
theorem k25_open {w : World} {x : S25} {cs : List Value} (h : k25.K w x cs) : ∃ A1 c1 A4 c4, cs = [.int .i64 x.f0, .slice A1 x.f1.length c1, .int .i64 x.f2, .int .i64 x.f3, .slice A4 x.f4.length c4] ∧ x.f1.length ≤ c1 ∧ k52.C w A1 x.f1.length x.f1 ∧ x.f4.length ≤ c4 ∧ k25.C w A4 x.f4.length x.f4 := by
  obtain ⟨n, h⟩ := h
  cases n with
  | zero => exact h.elim
  | succ n =>
    obtain ⟨_, _, rfl, rfl, ⟨_, _, rfl, ⟨A1, c1, rfl, l1, g1⟩, ⟨_, _, rfl, rfl, ⟨_, _, rfl, rfl, ⟨A4, c4, rfl, l4, g4⟩⟩⟩⟩⟩ := h
    exact ⟨A1, c1, A4, c4, rfl, l1, g1, l4, Kd.fix_C g4⟩
theorem k25_mk (w : World) (x : S25) {A1 : Option Addr} {c1 : Nat} (l1 : x.f1.length ≤ c1) (g1 : k52.C w A1 x.f1.length x.f1) {A4 : Option Addr} {c4 : Nat} (l4 : x.f4.length ≤ c4) (g4 : k25.C w A4 x.f4.length x.f4) : k25.K w x [.int .i64 x.f0, .slice A1 x.f1.length c1, .int .i64 x.f2, .int .i64 x.f3, .slice A4 x.f4.length c4] := by
  obtain ⟨n4, q4⟩ := Kd.fix_C_back mono25 g4
  have r4 := Kd.upto_C_le mono25 sz25 (show n4 ≤ n4 by omega) q4
  exact ⟨n4 + 1, ⟨[.int .i64 x.f0], [.slice A1 x.f1.length c1, .int .i64 x.f2, .int .i64 x.f3, .slice A4 x.f4.length c4], rfl, rfl, ⟨[.slice A1 x.f1.length c1], [.int .i64 x.f2, .int .i64 x.f3, .slice A4 x.f4.length c4], rfl, ⟨A1, c1, rfl, l1, g1⟩, ⟨[.int .i64 x.f2], [.int .i64 x.f3, .slice A4 x.f4.length c4], rfl, rfl, ⟨[.int .i64 x.f3], [.slice A4 x.f4.length c4], rfl, rfl, ⟨A4, c4, rfl, l4, r4⟩⟩⟩⟩⟩⟩
theorem k25_openF {W : World} {ok : Nat → Prop} {x : S25} {cs : List Value} (h : Kd.FK k25 W ok x cs) : ∃ A1 c1 A4 c4, cs = [.int .i64 x.f0, .slice A1 x.f1.length c1, .int .i64 x.f2, .int .i64 x.f3, .slice A4 x.f4.length c4] ∧ x.f1.length ≤ c1 ∧ Kd.F k52 W ok A1 x.f1.length x.f1 ∧ x.f4.length ≤ c4 ∧ Kd.F k25 W ok A4 x.f4.length x.f4 := by
  obtain ⟨A1, c1, A4, c4, rfl, l1, _, l4, _⟩ := k25_open (Kd.FK_now h)
  exact ⟨A1, c1, A4, c4, rfl, l1, (fun W' hW => by obtain ⟨A1_, c1_, A4_, c4_, he, l1_, g1_, l4_, g4_⟩ := k25_open (h W' hW); injection (Option.some.inj (show some (Value.slice A1 x.f1.length c1) = some (Value.slice A1_ x.f1.length c1_) from congrArg (fun l => l[1]?) he)) with ha_ _ _; rw [ha_]; exact g1_), l4, (fun W' hW => by obtain ⟨A1_, c1_, A4_, c4_, he, l1_, g1_, l4_, g4_⟩ := k25_open (h W' hW); injection (Option.some.inj (show some (Value.slice A4 x.f4.length c4) = some (Value.slice A4_ x.f4.length c4_) from congrArg (fun l => l[4]?) he)) with ha_ _ _; rw [ha_]; exact g4_)⟩
theorem k25_mkF (W : World) (ok : Nat → Prop) (x : S25) {A1 : Option Addr} {c1 : Nat} (l1 : x.f1.length ≤ c1) (g1 : Kd.F k52 W ok A1 x.f1.length x.f1) {A4 : Option Addr} {c4 : Nat} (l4 : x.f4.length ≤ c4) (g4 : Kd.F k25 W ok A4 x.f4.length x.f4) : Kd.FK k25 W ok x [.int .i64 x.f0, .slice A1 x.f1.length c1, .int .i64 x.f2, .int .i64 x.f3, .slice A4 x.f4.length c4] := fun W2 hW => k25_mk W2 x l1 (g1 W2 hW) l4 (g4 W2 hW)
def rd_T25 (xs : List S25) (i : Int) : S25 := xs.getD i.toNat z25
theorem at_T25 {w : World} {A : Option Addr} {n : Nat} {xs : List S25} (h : Kd.C k25 w A n xs) (i : Int) (h0 : 0 ≤ i) (h1 : i < n) : ∃ ad A1 c1 A4 c4, A = some ad ∧ w.cell? (ad.add (i.toNat * 5)) = some (.int .i64 (rd_T25 xs i).f0) ∧ w.cell? ⟨(ad.add (i.toNat * 5)).block, (ad.add (i.toNat * 5)).off + 1, none⟩ = some (.slice A1 (rd_T25 xs i).f1.length c1) ∧ w.cell? ⟨(ad.add (i.toNat * 5)).block, (ad.add (i.toNat * 5)).off + 2, none⟩ = some (.int .i64 (rd_T25 xs i).f2) ∧ w.cell? ⟨(ad.add (i.toNat * 5)).block, (ad.add (i.toNat * 5)).off + 3, none⟩ = some (.int .i64 (rd_T25 xs i).f3) ∧ w.cell? ⟨(ad.add (i.toNat * 5)).block, (ad.add (i.toNat * 5)).off + 4, none⟩ = some (.slice A4 (rd_T25 xs i).f4.length c4) ∧ (rd_T25 xs i).f1.length ≤ c1 ∧ k52.C w A1 (rd_T25 xs i).f1.length (rd_T25 xs i).f1 ∧ (rd_T25 xs i).f4.length ≤ c4 ∧ k25.C w A4 (rd_T25 xs i).f4.length (rd_T25 xs i).f4 := by
  obtain ⟨ad, c, e, _, hK, hc0⟩ := Kd.C_get h z25 i h0 h1
  have hc : ∀ j u, c[j]? = some u → w.cell? (ad.add (i.toNat * 5 + j)) = some u := hc0
  obtain ⟨A1, c1, A4, c4, rfl, l1, g1, l4, g4⟩ := k25_open hK
  exact ⟨ad, A1, c1, A4, c4, e, hc 0 _ rfl, by rw [← add_field _ _ 1 (by omega)]; exact hc 1 _ rfl, by rw [← add_field _ _ 2 (by omega)]; exact hc 2 _ rfl, by rw [← add_field _ _ 3 (by omega)]; exact hc 3 _ rfl, by rw [← add_field _ _ 4 (by omega)]; exact hc 4 _ rfl, l1, g1, l4, g4⟩

end Go.Proofs.Ytaphbechnjmlgaa.P
namespace Go.Proofs.Ytaphbechnjmlgaa.P
open Go.RowKit Go.Proofs.YtaphbechnjmlgaaW.PrintWords Go.Proofs.YtaphbechnjmlgaaW.PrintLast
set_option linter.unusedVariables false
set_option linter.unusedSimpArgs false

/-- A node as a call takes it. -/
def NodeAt (w : World) (x : S25) (v : Value) : Prop :=
  ∃ A1 c1 A4 c4, v = .agg #[.int .i64 x.f0, .slice A1 x.f1.length c1, .int .i64 x.f2, .int .i64 x.f3, .slice A4 x.f4.length c4] ∧ x.f1.length ≤ c1 ∧ k52.C w A1 x.f1.length x.f1 ∧ x.f4.length ≤ c4 ∧ k25.C w A4 x.f4.length x.f4
theorem NodeAt.below {w w1 : World} {x : S25} {v : Value} (h : NodeAt w x v) (hb : Below w.heap.size w w1) : NodeAt w1 x v := by
  obtain ⟨A1, c1, A4, c4, rfl, l1, g1, l4, g4⟩ := h
  exact ⟨A1, c1, A4, c4, rfl, l1, Kd.C_below g1 hb, l4, Kd.C_below g4 hb⟩
theorem sn_drop {α : Type} (z : α) (xs : List α) (i : Nat) (h : i < xs.length) : xs.drop i = xs.getD i z :: xs.drop (i + 1) := by
  rw [List.getD_eq_getElem?_getD, List.getElem?_eq_getElem h, Option.getD_some]
  exact List.drop_eq_getElem_cons h
theorem sn_wrap (i : Nat) (h : i < 9223372036854775807) : wrap64 ((i : Int) + 1) = ((i + 1 : Nat) : Int) := by
  unfold wrap64
  omega
end Go.Proofs.Ytaphbechnjmlgaa.P
namespace Go.Proofs.Ytaphbechnjmlgaa.P
open Go.RowKit Go.Proofs.YtaphbechnjmlgaaW.PrintWords Go.Proofs.YtaphbechnjmlgaaW.PrintLast Go.Proofs.YtaphbechnjmlgaaW.PrintMore
attribute [local go_sem] max2_int min2_int max_two min_two
set_option linter.unusedVariables false
set_option linter.unusedSimpArgs false

-- BY HAND: function 12 (deriv_Null)

-- NOT PRINTED: function 22 (deriv_Null_1)

-- NOT PRINTED: function 24 (deriv_Null_2)

def deriv_none.f  : Option (Int × (List (S52)) × Int × Int × (List (S25))) := some (0, ([] : List (S52)), 0, 0, ([] : List (S25)))
set_option maxHeartbeats 8000000 in
set_option maxRecDepth 100000 in
theorem deriv_none.calls  (r1 : Int) (r2 : List (S52)) (r3 : Int) (r4 : Int) (r5 : List (S25)) (w : World) (h : deriv_none.f  = some (r1, r2, r3, r4, r5)) :
    Calls Try.prog 27 #[] w fun e w' => ∃ v1_ v4_ : Value, e = .returned (.agg #[.int .i64 r1, v1_, .int .i64 r3, .int .i64 r4, v4_]) ∧ Kd.R k52 52 w' w.heap.size (fun _ => True) v1_ r2 ∧ Kd.R k25 25 w' w.heap.size (fun k_ => some k_ ≠ (v1_ : Value).ownBlock) v4_ r5 ∧ Below w.heap.size w w' := by
  have hu25 := Try.underlying25
  have HB := Aside0.mk (Below.refl w.heap.size w)
  have H : (some (0, ([] : List (S52)), 0, 0, ([] : List (S25)))) = some (r1, r2, r3, r4, r5) := h
  clear h
  simp only [Option.some.injEq, Prod.mk.injEq] at H
  obtain ⟨rfl, rfl, rfl, rfl, rfl⟩ := H
  go_enter Try.func27, Try.ntmps27
  go_wp2_with (first | ((with_reducible refine gate_dst (N := 0) rfl ?_); refine box_event ?hg (N := 0) ?hd (cs := #[.int .i64 0, .slice none 0 0, .int .i64 0, .int .i64 0, .slice none 0 0]) (t := 25) ?hr ?_; (case hd => rfl); (case hg => rfl); (case hr => first | (go_simp; done) | (go_simp; rfl)); intro gb103 hg w1 hbox hb; have n0_ := Aside0.mk (below_step (by repeat (first | (with_reducible first | exact HB.out | apply below_alloc | apply pw_below_drewN | apply below_drew1) | exact HB.out)) hb); have n1_ := Aside0.mk (hbox); have n2_ := Aside0.mk ((by rw [hg]; exact (below_size (by repeat (first | (with_reducible first | exact HB.out | apply below_alloc | apply pw_below_drewN | apply below_drew1) | exact HB.out))) : w.heap.size ≤ gb103)); have n3_ := Aside0.mk ((by rw [hg]; exact (below_size (by repeat (first | (with_reducible first | exact HB.out | apply below_alloc | apply pw_below_drewN | apply below_drew1) | exact HB.out))) : w.heap.size ≤ gb103)); clear HB; have HB := n0_; have BK103 := n1_; have GW103 := n2_; have GE103 := n3_; clear n0_ n1_ n2_ n3_; clear hb hbox hg; have hcz2_0 : w1.cell? ⟨gb103, 0, none⟩ = some (.int .i64 0) := (blk_cell BK103.out 0).trans rfl; have hcz2_1 : w1.cell? ⟨gb103, 1, none⟩ = some (.slice none 0 0) := (blk_cell BK103.out 1).trans rfl; have hcz2_2 : w1.cell? ⟨gb103, 2, none⟩ = some (.int .i64 0) := (blk_cell BK103.out 2).trans rfl; have hcz2_3 : w1.cell? ⟨gb103, 3, none⟩ = some (.int .i64 0) := (blk_cell BK103.out 3).trans rfl; have hcz2_4 : w1.cell? ⟨gb103, 4, none⟩ = some (.slice none 0 0) := (blk_cell BK103.out 4).trans rfl; have hfz2_0 := blk_frozen BK103.out 0; have hfz2_1 := blk_frozen BK103.out 1; have hfz2_2 := blk_frozen BK103.out 2; have hfz2_3 := blk_frozen BK103.out 3; have hfz2_4 := blk_frozen BK103.out 4))
  refine bodyPost_ret (results_cell_row rfl _ _ gb103 25 #[.int .i64 0, .slice none 0 0, .int .i64 0, .int .i64 0, .slice none 0 0] (0, 0) _ rfl (by (with_reducible repeat (first | refine blk_drewN ?_ _ | refine blk_drew ?_ | refine blk_alloc ?_ _)); refine blk_put (cs := #[.int .i64 0, .slice none 0 0, .int .i64 0, .int .i64 0, .slice none 0 0]) ?_ 4 _ rfl; (with_reducible repeat (first | refine blk_drewN ?_ _ | refine blk_drew ?_ | refine blk_alloc ?_ _)); refine blk_put (cs := #[.int .i64 0, .slice none 0 0, .int .i64 0, .int .i64 0, .slice none 0 0]) ?_ 3 _ rfl; (with_reducible repeat (first | refine blk_drewN ?_ _ | refine blk_drew ?_ | refine blk_alloc ?_ _)); refine blk_put (cs := #[.int .i64 0, .slice none 0 0, .int .i64 0, .int .i64 0, .slice none 0 0]) ?_ 2 _ rfl; (with_reducible repeat (first | refine blk_drewN ?_ _ | refine blk_drew ?_ | refine blk_alloc ?_ _)); refine blk_put (cs := #[.int .i64 0, .slice none 0 0, .int .i64 0, .int .i64 0, .slice none 0 0]) ?_ 1 _ rfl; (with_reducible repeat (first | refine blk_drewN ?_ _ | refine blk_drew ?_ | refine blk_alloc ?_ _)); refine blk_put (cs := #[.int .i64 0, .slice none 0 0, .int .i64 0, .int .i64 0, .slice none 0 0]) ?_ 0 _ rfl; (with_reducible repeat (first | refine blk_drewN ?_ _ | refine blk_drew ?_ | refine blk_alloc ?_ _)); exact BK103.out) Try.underlying25 rfl (by kernel_rfl)) rfl ?_
  exact ⟨_, _, by first | rfl | (simp [errW_none, errW_some] <;> rfl) | (simp [*, errW_none, errW_some] <;> rfl), by first | exact Kd.R_nil _ _ _ _ _ | exact Kd.N_nil _ _ _ _ _ | exact Kd.V_nil _ _ _ _ _ | exact Kd.Q_nil _ _ _ _ _ | exact Kd.S_nil _ _ _ _ _, by first | exact Kd.R_nil _ _ _ _ _ | exact Kd.N_nil _ _ _ _ _ | exact Kd.V_nil _ _ _ _ _ | exact Kd.Q_nil _ _ _ _ _ | exact Kd.S_nil _ _ _ _ _, by repeat (first | (with_reducible first | exact HB.out | apply below_alloc | apply pw_below_drewN | apply below_drew1 | refine below_set ?_ GE103.out) | exact HB.out)⟩

-- NOT PRINTED: function 53 (slices_IndexFunc_api_Range)

-- NOT PRINTED: function 43 (slices_ContainsFunc_api_Range)

-- NOT PRINTED: function 44 (tree_Has_1)

end Go.Proofs.Ytaphbechnjmlgaa.P
namespace Go.Proofs.Ytaphbechnjmlgaa.P
open Go.RowKit Go.Proofs.YtaphbechnjmlgaaW.PrintWords Go.Proofs.YtaphbechnjmlgaaW.PrintLast Go.Proofs.YtaphbechnjmlgaaW.PrintMore
attribute [local go_sem] max2_int min2_int max_two min_two
set_option linter.unusedVariables false
set_option linter.unusedSimpArgs false

theorem eqA52 (d : Nat) (w : World) (x0 y0 : Int) (x1 y1 : Int) :
    (Op.equalIn (d + 2) 52 (.agg #[.int .i64 x0, .int .i64 x1]) (.agg #[.int .i64 y0, .int .i64 y1])).run Try.prog w = .ok (x0 == y0 && (x1 == y1)) w := by
  refine eqA_of Try.underlying52 (by kernel_rfl) ?_
  refine eqf_cons (by rfl) (by go_simp; rfl) (by go_simp; rfl) (by go_simp) ?_
  exact eqf_last (by rfl) (by go_simp; rfl) (by go_simp; rfl) (by go_simp)
end Go.Proofs.Ytaphbechnjmlgaa.P
namespace Go.Proofs.Ytaphbechnjmlgaa.P
open Go.RowKit Go.Proofs.YtaphbechnjmlgaaW.PrintWords Go.Proofs.YtaphbechnjmlgaaW.PrintLast Go.Proofs.YtaphbechnjmlgaaW.PrintMore
attribute [local go_sem] max2_int min2_int max_two min_two
set_option linter.unusedVariables false
set_option linter.unusedSimpArgs false

attribute [local go_sem high] eqA52
def deriv_empty.f  : Option (Int × (List (S52)) × Int × Int × (List (S25))) := some (1, ([] : List (S52)), 0, 0, ([] : List (S25)))
set_option maxHeartbeats 8000000 in
set_option maxRecDepth 100000 in
theorem deriv_empty.calls  (r1 : Int) (r2 : List (S52)) (r3 : Int) (r4 : Int) (r5 : List (S25)) (w : World) (h : deriv_empty.f  = some (r1, r2, r3, r4, r5)) :
    Calls Try.prog 35 #[] w fun e w' => ∃ v1_ v4_ : Value, e = .returned (.agg #[.int .i64 r1, v1_, .int .i64 r3, .int .i64 r4, v4_]) ∧ Kd.R k52 52 w' w.heap.size (fun _ => True) v1_ r2 ∧ Kd.R k25 25 w' w.heap.size (fun k_ => some k_ ≠ (v1_ : Value).ownBlock) v4_ r5 ∧ Below w.heap.size w w' := by
  have hu25 := Try.underlying25
  have HB := Aside0.mk (Below.refl w.heap.size w)
  have H : (some (1, ([] : List (S52)), 0, 0, ([] : List (S25)))) = some (r1, r2, r3, r4, r5) := h
  clear h
  simp only [Option.some.injEq, Prod.mk.injEq] at H
  obtain ⟨rfl, rfl, rfl, rfl, rfl⟩ := H
  go_enter Try.func35, Try.ntmps35
  go_wp2_with (first | ((with_reducible refine gate_dst (N := 0) rfl ?_); refine box_event ?hg (N := 0) ?hd (cs := #[.int .i64 0, .slice none 0 0, .int .i64 0, .int .i64 0, .slice none 0 0]) (t := 25) ?hr ?_; (case hd => rfl); (case hg => rfl); (case hr => first | (go_simp; done) | (go_simp; rfl)); intro gb105 hg w1 hbox hb; have n0_ := Aside0.mk (below_step (by repeat (first | (with_reducible first | exact HB.out | apply below_alloc | apply pw_below_drewN | apply below_drew1) | exact HB.out)) hb); have n1_ := Aside0.mk (hbox); have n2_ := Aside0.mk ((by rw [hg]; exact (below_size (by repeat (first | (with_reducible first | exact HB.out | apply below_alloc | apply pw_below_drewN | apply below_drew1) | exact HB.out))) : w.heap.size ≤ gb105)); have n3_ := Aside0.mk ((by rw [hg]; exact (below_size (by repeat (first | (with_reducible first | exact HB.out | apply below_alloc | apply pw_below_drewN | apply below_drew1) | exact HB.out))) : w.heap.size ≤ gb105)); clear HB; have HB := n0_; have BK105 := n1_; have GW105 := n2_; have GE105 := n3_; clear n0_ n1_ n2_ n3_; clear hb hbox hg; have hcz2_0 : w1.cell? ⟨gb105, 0, none⟩ = some (.int .i64 0) := (blk_cell BK105.out 0).trans rfl; have hcz2_1 : w1.cell? ⟨gb105, 1, none⟩ = some (.slice none 0 0) := (blk_cell BK105.out 1).trans rfl; have hcz2_2 : w1.cell? ⟨gb105, 2, none⟩ = some (.int .i64 0) := (blk_cell BK105.out 2).trans rfl; have hcz2_3 : w1.cell? ⟨gb105, 3, none⟩ = some (.int .i64 0) := (blk_cell BK105.out 3).trans rfl; have hcz2_4 : w1.cell? ⟨gb105, 4, none⟩ = some (.slice none 0 0) := (blk_cell BK105.out 4).trans rfl; have hfz2_0 := blk_frozen BK105.out 0; have hfz2_1 := blk_frozen BK105.out 1; have hfz2_2 := blk_frozen BK105.out 2; have hfz2_3 := blk_frozen BK105.out 3; have hfz2_4 := blk_frozen BK105.out 4))
  refine bodyPost_ret (results_cell_row rfl _ _ gb105 25 #[.int .i64 1, .slice none 0 0, .int .i64 0, .int .i64 0, .slice none 0 0] (0, 0) _ rfl (by (with_reducible repeat (first | refine blk_drewN ?_ _ | refine blk_drew ?_ | refine blk_alloc ?_ _)); refine blk_put (cs := #[.int .i64 1, .slice none 0 0, .int .i64 0, .int .i64 0, .slice none 0 0]) ?_ 4 _ rfl; (with_reducible repeat (first | refine blk_drewN ?_ _ | refine blk_drew ?_ | refine blk_alloc ?_ _)); refine blk_put (cs := #[.int .i64 1, .slice none 0 0, .int .i64 0, .int .i64 0, .slice none 0 0]) ?_ 3 _ rfl; (with_reducible repeat (first | refine blk_drewN ?_ _ | refine blk_drew ?_ | refine blk_alloc ?_ _)); refine blk_put (cs := #[.int .i64 1, .slice none 0 0, .int .i64 0, .int .i64 0, .slice none 0 0]) ?_ 2 _ rfl; (with_reducible repeat (first | refine blk_drewN ?_ _ | refine blk_drew ?_ | refine blk_alloc ?_ _)); refine blk_put (cs := #[.int .i64 1, .slice none 0 0, .int .i64 0, .int .i64 0, .slice none 0 0]) ?_ 1 _ rfl; (with_reducible repeat (first | refine blk_drewN ?_ _ | refine blk_drew ?_ | refine blk_alloc ?_ _)); refine blk_put (cs := #[.int .i64 0, .slice none 0 0, .int .i64 0, .int .i64 0, .slice none 0 0]) ?_ 0 _ rfl; (with_reducible repeat (first | refine blk_drewN ?_ _ | refine blk_drew ?_ | refine blk_alloc ?_ _)); exact BK105.out) Try.underlying25 rfl (by kernel_rfl)) rfl ?_
  exact ⟨_, _, by first | rfl | (simp [errW_none, errW_some] <;> rfl) | (simp [*, errW_none, errW_some] <;> rfl), by first | exact Kd.R_nil _ _ _ _ _ | exact Kd.N_nil _ _ _ _ _ | exact Kd.V_nil _ _ _ _ _ | exact Kd.Q_nil _ _ _ _ _ | exact Kd.S_nil _ _ _ _ _, by first | exact Kd.R_nil _ _ _ _ _ | exact Kd.N_nil _ _ _ _ _ | exact Kd.V_nil _ _ _ _ _ | exact Kd.Q_nil _ _ _ _ _ | exact Kd.S_nil _ _ _ _ _, by repeat (first | (with_reducible first | exact HB.out | apply below_alloc | apply pw_below_drewN | apply below_drew1 | refine below_set ?_ GE105.out) | exact HB.out)⟩

def slices_Equal_api_Range.l0 : Nat → List (S52) → List (S52) → Int → Int → Option (Bool)
  | 0, _, _, _, _ => none
  | k + 1, x0, x1, x12, x13 => if x13 < x12 then (if 0 ≤ x13 then (if x13 < (x0.length : Int) then (if x13 < (x1.length : Int) then (if (!(((rd_T52 x0 x13).f0) == ((rd_T52 x1 x13).f0)) || (!(((rd_T52 x0 x13).f1) == ((rd_T52 x1 x13).f1)))) = true then (some false) else (slices_Equal_api_Range.l0 k x0 x1 x12 (wrap64 (x13 + 1)))) else (none)) else (none)) else (none)) else (some true)
def slices_Equal_api_Range.f (k : Nat) (l0 : List (S52)) (l1 : List (S52)) : Option (Bool) := if (l0.length : Int) = (l1.length : Int) then (slices_Equal_api_Range.l0 k l0 l1 (l0.length : Int) 0) else (some false)
set_option maxHeartbeats 8000000 in
set_option maxRecDepth 100000 in
theorem slices_Equal_api_Range.calls (k : Nat) (A0 : Option Addr) (c0 : Nat) (l0 : List (S52)) (A1 : Option Addr) (c1 : Nat) (l1 : List (S52)) (r : Bool) (w : World) (hr0 : Kd.C k52 w A0 l0.length l0) (hc0 : l0.length ≤ c0) (hr1 : Kd.C k52 w A1 l1.length l1) (hc1 : l1.length ≤ c1) (h : slices_Equal_api_Range.f k l0 l1 = some r) :
    Calls Try.prog 54 #[.slice A0 l0.length c0, .slice A1 l1.length c1] w fun e w' => e = .returned (.bool r) ∧ Drawn0 w w' := by
  have hu52 := Try.underlying52
  have HR0 := Aside0.mk hr0
  have HC0 := Aside0.mk hc0
  clear hr0 hc0
  have HR1 := Aside0.mk hr1
  have HC1 := Aside0.mk hc1
  clear hr1 hc1
  have H : (if (l0.length : Int) = (l1.length : Int) then (slices_Equal_api_Range.l0 k l0 l1 (l0.length : Int) 0) else (some false)) = some r := h
  clear h
  by_cases c3 : (l0.length : Int) = (l1.length : Int)
  rotate_left
  · rw [if_neg c3] at H
    have c3b0 : ((l0.length : Int) == (l1.length : Int)) = false := beq_eq_false_iff_ne.mpr c3
    have c3b1 : ((l0.length : Int) != (l1.length : Int)) = true := bne_iff_ne.mpr c3
    have c3b2 : (l0.length == l1.length) = false := by first | simpa using c3 | (simp at c3 ⊢; omega)
    obtain rfl := Option.some.inj H
    go_enter Try.func54, Try.ntmps54
    go_wp2
    repeat (go_quiet (fail); try go_wp2)
    go_ret
    exact ⟨by first | rfl | (simp; done) | (simp [*]; done), by repeat (first | exact Drawn0.refl _ | apply Drawn0.step)⟩
  rw [if_pos c3] at H
  have c3b0 : ((l0.length : Int) == (l1.length : Int)) = true := beq_iff_eq.mpr c3
  have c3b1 : ((l0.length : Int) != (l1.length : Int)) = false := bne_eq_false_iff_eq.mpr c3
  have c3b2 : (l0.length == l1.length) = true := by first | simpa using c3 | (simp at c3 ⊢; omega)
  clear c3
  have H' := Aside0.mk H
  clear H
  go_enter Try.func54, Try.ntmps54
  go_wp2
  repeat (go_quiet (fail); try go_wp2)
  go_loopg [13] k (fun kq v13 w' => ∃ (x13_1 : Int), v13 = .int .i64 x13_1 ∧ Aside0 (slices_Equal_api_Range.l0 kq l0 l1 (l0.length : Int) x13_1 = some r) ∧ Aside0 (kq ≤ k) ∧ Drawn0 w w')
  case atStart => exact ⟨(0), (by first | rfl | (simp; done) | (simp [*]; done)), H', ⟨Nat.le_refl _⟩, by repeat (first | exact Drawn0.refl _ | apply Drawn0.step)⟩
  case round =>
    clear H'
    try clear c1
    try clear p2
    try clear c3
    try clear c3b0
    try clear c3b1
    try clear c3b2
    obtain ⟨x13_1, rfl, HA, HK1, ⟨m1, rfl⟩⟩ := hrel
    cases gk with
    | zero => exact absurd HA.out (by simp [slices_Equal_api_Range.l0])
    | succ k1 =>
      have H := HA.out
      clear HA
      simp only [slices_Equal_api_Range.l0] at H
      by_cases c4 : x13_1 < (l0.length : Int)
      rotate_left
      · rw [if_neg c4] at H
        have c4b0 : decide (x13_1 < (l0.length : Int)) = false := decide_eq_false c4
        clear c4
        obtain rfl := Option.some.inj H
        go_wp2
        repeat (go_quiet (fail); try go_wp2)
        go_ret
        exact ⟨by first | rfl | (simp; done) | (simp [*]; done), by repeat (first | exact Drawn0.refl _ | apply Drawn0.step)⟩
      rw [if_pos c4] at H
      have c4b0 : decide (x13_1 < (l0.length : Int)) = true := decide_eq_true c4
      clear c4
      by_cases c5 : 0 ≤ x13_1
      rotate_left
      · rw [if_neg c5] at H
        exact absurd H (by simp)
      rw [if_pos c5] at H
      have c5b0 : decide (0 ≤ x13_1) = true := decide_eq_true c5
      clear c5
      by_cases c6 : x13_1 < (l0.length : Int)
      rotate_left
      · rw [if_neg c6] at H
        exact absurd H (by simp)
      rw [if_pos c6] at H
      have c6b0 : decide (x13_1 < (l0.length : Int)) = true := decide_eq_true c6
      clear c6
      by_cases c7 : x13_1 < (l1.length : Int)
      rotate_left
      · rw [if_neg c7] at H
        exact absurd H (by simp)
      rw [if_pos c7] at H
      have c7b0 : decide (x13_1 < (l1.length : Int)) = true := decide_eq_true c7
      clear c7
      by_cases c8 : (!(((rd_T52 l0 x13_1).f0) == ((rd_T52 l1 x13_1).f0)) || (!(((rd_T52 l0 x13_1).f1) == ((rd_T52 l1 x13_1).f1)))) = true
      · rw [if_pos c8] at H
        have c8b0 : (!(((rd_T52 l0 x13_1).f0) == ((rd_T52 l1 x13_1).f0)) || (!(((rd_T52 l0 x13_1).f1) == ((rd_T52 l1 x13_1).f1)))) = true := c8
        clear c8
        obtain rfl := Option.some.inj H
        have p106 : 0 ≤ (x13_1 : Int) := of_decide_eq_true (by first | (with_reducible assumption) | assumption)
        have q106 : x13_1 < (l0.length : Int) := of_decide_eq_true (by first | (with_reducible assumption) | assumption)
        obtain ⟨ad106, e106, hx106_0, hx106_1⟩ := at_T52 HR0.out x13_1 p106 q106
        cases e106
        replace p106 := eq_true p106
        replace q106 := eq_true q106
        have p107 : 0 ≤ (x13_1 : Int) := of_decide_eq_true (by first | (with_reducible assumption) | assumption)
        have q107 : x13_1 < (l1.length : Int) := of_decide_eq_true (by first | (with_reducible assumption) | assumption)
        obtain ⟨ad107, e107, hx107_0, hx107_1⟩ := at_T52 HR1.out x13_1 p107 q107
        cases e107
        replace p107 := eq_true p107
        replace q107 := eq_true q107
        go_wp2
        repeat (go_quiet (fail); try go_wp2)
        go_ret
        exact ⟨by first | rfl | (simp; done) | (simp [*]; done), by repeat (first | exact Drawn0.refl _ | apply Drawn0.step)⟩
      rw [if_neg c8] at H
      have c8b0 : (!(((rd_T52 l0 x13_1).f0) == ((rd_T52 l1 x13_1).f0)) || (!(((rd_T52 l0 x13_1).f1) == ((rd_T52 l1 x13_1).f1)))) = false := by simpa using c8
      clear c8
      have H' := Aside0.mk H
      clear H
      have p106 : 0 ≤ (x13_1 : Int) := of_decide_eq_true (by first | (with_reducible assumption) | assumption)
      have q106 : x13_1 < (l0.length : Int) := of_decide_eq_true (by first | (with_reducible assumption) | assumption)
      obtain ⟨ad106, e106, hx106_0, hx106_1⟩ := at_T52 HR0.out x13_1 p106 q106
      cases e106
      replace p106 := eq_true p106
      replace q106 := eq_true q106
      have p107 : 0 ≤ (x13_1 : Int) := of_decide_eq_true (by first | (with_reducible assumption) | assumption)
      have q107 : x13_1 < (l1.length : Int) := of_decide_eq_true (by first | (with_reducible assumption) | assumption)
      obtain ⟨ad107, e107, hx107_0, hx107_1⟩ := at_T52 HR1.out x13_1 p107 q107
      cases e107
      replace p107 := eq_true p107
      replace q107 := eq_true q107
      go_wp2
      repeat (go_quiet (fail); try go_wp2)
      go_roundg k1
      case measure => have := HK1.out; omega
      case rel => exact ⟨(wrap64 (x13_1 + 1)), (by first | rfl | (simp; done) | (simp [*]; done)), H', ⟨by have := HK1.out; omega⟩, by repeat (first | exact Drawn0.refl _ | apply Drawn0.step)⟩

-- NOT PRINTED: function 55 (slices_EqualFunc_api_Node_api_Node)

-- NOT PRINTED: function 77700055 (slices_EqualFunc_api_Node_api_Node_tree_Same)

end Go.Proofs.Ytaphbechnjmlgaa.P
namespace Go.Proofs.Ytaphbechnjmlgaa.P
open Go.RowKit Go.Proofs.YtaphbechnjmlgaaW.PrintWords Go.Proofs.YtaphbechnjmlgaaW.PrintLast Go.Proofs.YtaphbechnjmlgaaW.PrintMore
set_option linter.unusedVariables false
set_option linter.unusedSimpArgs false

abbrev DNode : Type := S25
/-- A node as a call hands it on: what its lists lead to lies in P. -/
def NodeF (w : World) (P : Nat → Prop) (x : DNode) (v : Value) : Prop :=
  ∃ A1 c1 A4 c4, v = .agg #[.int .i64 x.f0, .slice A1 x.f1.length c1, .int .i64 x.f2, .int .i64 x.f3, .slice A4 x.f4.length c4] ∧ x.f1.length ≤ c1 ∧ Kd.F k52 w P A1 x.f1.length x.f1 ∧ x.f4.length ≤ c4 ∧ Kd.F k25 w P A4 x.f4.length x.f4
theorem NodeF.now {w : World} {P : Nat → Prop} {x : DNode} {v : Value} (h : NodeF w P x v) : NodeAt w x v := by
  obtain ⟨A1, c1, A4, c4, rfl, l1, g1, l4, g4⟩ := h
  exact ⟨A1, c1, A4, c4, rfl, l1, Kd.F_now g1, l4, Kd.F_now g4⟩
theorem NodeF.mono {w : World} {P P' : Nat → Prop} {x : DNode} {v : Value} (h : NodeF w P x v) (hp : ∀ k, P k → P' k) : NodeF w P' x v := by
  obtain ⟨A1, c1, A4, c4, rfl, l1, g1, l4, g4⟩ := h
  exact ⟨A1, c1, A4, c4, rfl, l1, Kd.F_mono g1 hp, l4, Kd.F_mono g4 hp⟩
theorem NodeF.bound {w : World} {P : Nat → Prop} {x : DNode} {v : Value} (h : NodeF w P x v) : NodeF w (fun k => P k ∧ k < w.heap.size) x v := by
  obtain ⟨A1, c1, A4, c4, rfl, l1, g1, l4, g4⟩ := h
  exact ⟨A1, c1, A4, c4, rfl, l1, Kd.F_bound g1, l4, Kd.F_bound g4⟩
theorem NodeF.step {w w1 : World} {P : Nat → Prop} {x : DNode} {v : Value} (h : NodeF w P x v) (hm : ∀ k, P k → k < w.heap.size → w1.heap[k]? = w.heap[k]?) : NodeF w1 P x v := by
  obtain ⟨A1, c1, A4, c4, rfl, l1, g1, l4, g4⟩ := h
  exact ⟨A1, c1, A4, c4, rfl, l1, Kd.F_step g1 hm, l4, Kd.F_step g4 hm⟩
theorem NodeF.below {w w1 : World} {P : Nat → Prop} {x : DNode} {v : Value} (h : NodeF w P x v) (hb : Below w.heap.size w w1) : NodeF w1 P x v := h.step fun k _ hk => hb.block k hk
theorem F_zero {α : Type} {d : Kd α} {w : World} {P : Nat → Prop} (A : Option Addr) : Kd.F d w P A 0 [] := fun _ _ => ⟨rfl, by simp, fun h => absurd h (Nat.lt_irrefl 0)⟩
/-- An element of a row of nodes that is read. -/
theorem at_F {w : World} {P : Nat → Prop} {A : Option Addr} {n : Nat} {xs : List DNode} (h : Kd.F k25 w P A n xs) (i : Nat) (h1 : i < n) :
    ∃ ad A1 c1 A4 c4, A = some ad ∧ w.cell? (ad.add (i * 5)) = some (.int .i64 (xs.getD i z25).f0) ∧ w.cell? ⟨(ad.add (i * 5)).block, (ad.add (i * 5)).off + 1, none⟩ = some (.slice A1 (xs.getD i z25).f1.length c1) ∧ w.cell? ⟨(ad.add (i * 5)).block, (ad.add (i * 5)).off + 2, none⟩ = some (.int .i64 (xs.getD i z25).f2) ∧ w.cell? ⟨(ad.add (i * 5)).block, (ad.add (i * 5)).off + 3, none⟩ = some (.int .i64 (xs.getD i z25).f3) ∧ w.cell? ⟨(ad.add (i * 5)).block, (ad.add (i * 5)).off + 4, none⟩ = some (.slice A4 (xs.getD i z25).f4.length c4) ∧
      (xs.getD i z25).f1.length ≤ c1 ∧ Kd.F k52 w P A1 (xs.getD i z25).f1.length (xs.getD i z25).f1 ∧ (xs.getD i z25).f4.length ≤ c4 ∧ Kd.F k25 w P A4 (xs.getD i z25).f4.length (xs.getD i z25).f4 := by
  obtain ⟨ad, c, e, hcl, hF, hcc, _⟩ := Kd.F_get h z25 (i : Int) (by omega) (by omega)
  have hc : ∀ j u, c[j]? = some u → w.cell? (ad.add (i * 5 + j)) = some u := hcc
  rw [Int.toNat_natCast] at hF
  obtain ⟨A1, c1, A4, c4, rfl, l1, g1, l4, g4⟩ := k25_openF hF
  exact ⟨ad, A1, c1, A4, c4, e, hc 0 _ rfl, by rw [← add_field _ _ 1 (by omega)]; exact hc 1 _ rfl, by rw [← add_field _ _ 2 (by omega)]; exact hc 2 _ rfl, by rw [← add_field _ _ 3 (by omega)]; exact hc 3 _ rfl, by rw [← add_field _ _ 4 (by omega)]; exact hc 4 _ rfl, l1, g1, l4, g4⟩
theorem ninfo : (Try.prog.info? 25).map (fun i => (i.zero, i.size, i.bytes)) = some (some (.agg #[.int .i64 0, .slice none 0 0, .int .i64 0, .int .i64 0, .slice none 0 0]), 5, 72) := by kernel_rfl
theorem NodeF.far {w : World} {P : Nat → Prop} {x : DNode} {v : Value} (h : NodeF w P x v) {g j : Nat} (hp : ∀ k, P k → k ≠ g) (u : Value) : NodeF (w.setCell ⟨g, j, none⟩ u) P x v := h.step fun k hk _ => Below.heap_setCell w ⟨g, j, none⟩ u k (hp k hk)
/-- The kids of a join of a list, behind some: none where one matches nothing, or where they are too many. -/
def dkids : List DNode → List DNode → Option (Option (List DNode))
  | [], acc => some (some acc)
  | n :: l, acc => if n.f0 = 0 then some none else if n.f0 = 1 then dkids l acc else if n.f0 = 3 then (if acc.length + n.f4.length < 1099511627776 then dkids l (acc ++ n.f4) else none)
      else if acc.length < 1099511627776 then dkids l (acc ++ [n]) else none
def joinK : Option (List DNode) → DNode
  | none => ⟨0, [], 0, 0, []⟩
  | some [] => ⟨1, [], 0, 0, []⟩
  | some [k] => k
  | some ks => ⟨3, [], 0, 0, ks⟩
set_option maxHeartbeats 8000000 in
set_option maxRecDepth 100000 in
theorem join_calls (P : Nat → Prop) (A : Option Addr) (c : Nat) (l : List DNode) (ks : Option (List DNode)) (w0 : World) (hl : Kd.F k25 w0 P A l.length l) (h : dkids l [] = some ks) :
    Calls Try.prog 45 #[.slice A l.length c] w0 fun e w' => ∃ v, e = .returned v ∧ NodeF w' (fun k => P k ∨ w0.heap.size ≤ k) (joinK ks) v ∧ Below w0.heap.size w0 w' := by
  have hu := Try.underlying25
  have HL := Aside0.mk (Kd.F_bound hl)
  have HH := Aside0.mk h
  have HN := Aside0.mk (Kd.F_max hl)
  clear hl h
  go_enter Try.func45, Try.ntmps45
  have HB0 := Aside0.mk (Below.refl w0.heap.size w0)
  go_wp2_with (((with_reducible refine gate_dst (N := 2) rfl ?_); refine box_event ?hg (N := 2) ?hd (cs := #[.int .i64 0, .slice none 0 0, .int .i64 0, .int .i64 0, .slice none 0 0]) (t := 25) ?hr ?_; (case hd => rfl); (case hg => rfl); (case hr => first | (go_simp; done) | (go_simp; rfl)); intro gr hg w1 hbox hb; have HB1 := Aside0.mk (below_step HB0.out hb); have HG := Aside0.mk (by rw [hg]; exact Nat.le_refl _ : w0.heap.size ≤ gr); have HGR := Aside0.mk hbox; clear hb hbox hg))
  clear HB0
  go_loopw [3, 8] (fun s3 s8 wx => ∃ (i : Nat) (acc : List DNode), s8 = .int .i64 (i : Int) ∧ i ≤ l.length ∧ Aside0 (dkids (l.drop i) acc = some ks) ∧ Aside0 (Kd.N k25 25 wx w0.heap.size (fun k => (P k ∨ w0.heap.size ≤ k) ∧ k ≠ gr) s3 acc) ∧ Aside0 (wx.heap[gr]? = some (.cells #[.int .i64 0, .slice none 0 0, .int .i64 0, .int .i64 0, .slice none 0 0] 25 (0, 0))) ∧ Aside0 (Below w0.heap.size w0 wx)) (fun _ s8 _ => l.length - (intOf s8).toNat)
  case atStart => exact ⟨0, [], rfl, by omega, by simpa using HH, ⟨Kd.N_nil _ _ _ _ _⟩, HGR, HB1⟩
  case round =>
    clear HH HGR HB1
    obtain ⟨i, acc, rfl, hi, HH, HO, HGR, HB⟩ := hrel
    by_cases hlt : i < l.length
    · obtain ⟨ad, A1, c1, A4, c4, e, h0, h1, h2, h3, h4, q1, q2, q3, q4⟩ := at_F (Kd.F_below HL.out HB.out) i hlt
      cases e
      have hh := HH.out
      rw [sn_drop z25 l i hlt] at hh
      obtain ⟨x, hxx⟩ : ∃ x, l.getD i z25 = x := ⟨_, rfl⟩
      rw [hxx] at h0 h1 h2 h3 h4 q1 q2 q3 q4 hh
      obtain ⟨x0, x1, x2, x3, x4⟩ := x
      simp only [dkids] at hh
      dsimp only at h0 h1 h2 h3 h4 q1 q2 q3 q4
      have HQ := Aside0.mk (And.intro q1 (And.intro q2 (And.intro q3 q4)))
      have g1 : decide ((i : Int) < (l.length : Int)) = true := decide_eq_true (by omega)
      have g2 : ((0 : Int) ≤ (i : Int)) = True := eq_true (by omega)
      have g3 : ((i : Int) < (l.length : Int)) = True := eq_true (by omega)
      have HWA := Aside0.mk (below_alloc (Below.refl wr.heap.size wr) (.cells #[.int .i64 x0, .slice A1 x1.length c1, .int .i64 x2, .int .i64 x3, .slice A4 x4.length c4] 25))
      have HGA := Aside0.mk (blk_below HGR.out HWA.out)
      have HLI := Aside0.mk hlt
      clear hxx q1 q2 q3 q4 hlt HH
      by_cases c0 : x0 = 0
      · rw [if_pos c0] at hh
        obtain rfl := Option.some.inj hh
        subst c0
        clear hh
        go_wp2_with (go_at_call 27; (with_reducible refine (deriv_none.calls 0 [] 0 0 [] _ rfl).mono ?_); rintro e_ w5 ⟨v1, v4, rfl, hv1, hv4, hb⟩; obtain ⟨D1, d1, rfl⟩ := Kd.R_slice hv1; obtain ⟨D4, d4, rfl⟩ := Kd.R_slice hv4; have HB5 := Aside0.mk (below_step HB.out (below_step HWA.out hb)); have HG5 := Aside0.mk (blk_below HGA.out hb); have t0 := blk_cell HG5.out 0; have t1 := blk_cell HG5.out 1; have t2 := blk_cell HG5.out 2; have t3 := blk_cell HG5.out 3; have t4 := blk_cell HG5.out 4; have f0 := blk_frozen HG5.out 0; have f1 := blk_frozen HG5.out 1; have f2 := blk_frozen HG5.out 2; have f3 := blk_frozen HG5.out 3; have f4 := blk_frozen HG5.out 4; clear hv1 hv4 hb)
        refine bodyPost_ret (results_cell_row rfl _ _ gr 25 #[.int .i64 0, .slice D1 0 d1, .int .i64 0, .int .i64 0, .slice D4 0 d4] (0, 0) _ rfl (blk_put (blk_put (blk_put (blk_put (blk_put HG5.out 0 _ rfl) 1 _ rfl) 2 _ rfl) 3 _ rfl) 4 _ rfl) Try.underlying25 rfl (by kernel_rfl)) rfl ?_
        exact ⟨_, rfl, ⟨D1, d1, D4, d4, rfl, Nat.zero_le _, F_zero _, Nat.zero_le _, F_zero _⟩, below_set (below_set (below_set (below_set (below_set HB5.out HG.out) HG.out) HG.out) HG.out) HG.out⟩
      rw [if_neg c0] at hh
      have k0 : (x0 == 0) = false := beq_eq_false_iff_ne.mpr c0
      have hw := sn_wrap i (by have := HN.out; have := HLI.out; omega)
      have hm : l.length - (i + 1) < l.length - i := by have := HLI.out; omega
      have HBA := Aside0.mk (below_step HB.out HWA.out)
      by_cases c1' : x0 = 1
      · rw [if_pos c1'] at hh
        have HH := Aside0.mk hh
        subst c1'
        clear hh
        go_wp2
        refine ⟨⟨i + 1, acc, by rw [hw], HLI.out, HH, ⟨Kd.N_alloc HO.out _⟩, HGA, HBA⟩, ?_⟩
        rw [hw]
        show l.length - (((i + 1 : Nat) : Int)).toNat < l.length - ((i : Int)).toNat
        simp only [Int.toNat_natCast]
        exact hm
      rw [if_neg c1'] at hh
      have k1 : (x0 == 1) = false := beq_eq_false_iff_ne.mpr c1'
      by_cases c3 : x0 = 3
      · rw [if_pos c3] at hh
        by_cases ca : acc.length + x4.length < 1099511627776
        rotate_left
        · rw [if_neg ca] at hh
          cases hh
        rw [if_pos ca] at hh
        have HH := Aside0.mk hh
        have HAC := Aside0.mk ca
        subst c3
        clear hh ca
        go_wp2_with ((with_reducible refine gate_builtin (b := .append) (xs := #[.tmp 25, .tmp 27]) rfl ?_); at_builtin; refine Kd.N_append_rows k25 (w0 := w0) w0.heap.size rfl (.tmp 25) (.tmp 27) 23 25 (.agg #[.int .i64 0, .slice none 0 0, .int .i64 0, .int .i64 0, .slice none 0 0]) 72 rfl Try.underlying23 ninfo rfl (by decide) (by decide) _ acc x4 A4 x4.length c4 (fun k => (P k ∨ w0.heap.size ≤ k) ∧ k ≠ gr) (fun k => P k ∧ k < w0.heap.size) rfl rfl (Kd.N_alloc HO.out _) (Kd.F_alloc HQ.out.2.2.2 _) ?sK ?sF ?sB ?sS ?sL ?_; (case sK => (intro k hk; exact ⟨⟨.inl hk.1, by have := HG.out; have := hk.2; omega⟩, fun he => by have := Kd.N_base HO.out k he.symm; have := hk.2; omega⟩)); (case sF => (intro k hk; exact ⟨.inr (Nat.le_trans HBA.out.size hk), by have := blk_lt HGA.out; omega⟩)); (case sB => exact HBA.out); (case sS => exact HBA.out.size); (case sL => (have := HAC.out; omega)); intro v1 w6 hn hb hg hat; have HO6 := Aside0.mk hn; have HB6 := Aside0.mk hb; have HG6 := Aside0.mk (blk_grown HGA.out hg (Kd.N_away HO.out (fun k hk => hk.2))); clear hn hb hg hat)
        refine ⟨⟨i + 1, _, by rw [hw], HLI.out, HH, HO6, HG6, HB6⟩, ?_⟩
        rw [hw]
        show l.length - (((i + 1 : Nat) : Int)).toNat < l.length - ((i : Int)).toNat
        simp only [Int.toNat_natCast]
        exact hm
      · rw [if_neg c3] at hh
        have k3 : (x0 == 3) = false := beq_eq_false_iff_ne.mpr c3
        by_cases ca : acc.length < 1099511627776
        rotate_left
        · rw [if_neg ca] at hh
          cases hh
        rw [if_pos ca] at hh
        have HH := Aside0.mk hh
        have HAC := Aside0.mk ca
        clear hh ca c0 c1' c3
        go_wp2_with ((with_reducible refine gate_builtin (b := .append) (xs := #[.tmp 14, .tmp 16]) rfl ?_); at_builtin; refine Kd.N_append k25 (w0 := w0) w0.heap.size rfl (.tmp 14) (.tmp 16) 23 25 (.agg #[.int .i64 0, .slice none 0 0, .int .i64 0, .int .i64 0, .slice none 0 0]) 72 rfl Try.underlying23 ninfo rfl (by decide) (by decide) _ acc ⟨x0, x1, x2, x3, x4⟩ [.int .i64 x0, .slice A1 x1.length c1, .int .i64 x2, .int .i64 x3, .slice A4 x4.length c4] (fun k => (P k ∨ w0.heap.size ≤ k) ∧ k ≠ gr) (fun k => P k ∧ k < w0.heap.size) rfl (by first | rfl | (show Value.slice (some ⟨wr.heap.size + 1, 0, none⟩) 1 1 = _; rw [World.size_alloc])) (k25_mkF _ _ ⟨x0, x1, x2, x3, x4⟩ HQ.out.1 (Kd.F_alloc HQ.out.2.1 _) HQ.out.2.2.1 (Kd.F_alloc HQ.out.2.2.2 _)) ?sK ?sF (Kd.N_alloc HO.out _) ?sB ?sS ?sL ?_; (case sK => (intro k hk; exact ⟨⟨.inl hk.1, by have := HG.out; have := hk.2; omega⟩, fun he => by have := Kd.N_base HO.out k he.symm; have := hk.2; omega⟩)); (case sF => (intro k hk; exact ⟨.inr (Nat.le_trans HBA.out.size hk), by have := blk_lt HGA.out; omega⟩)); (case sB => exact HBA.out); (case sS => exact HBA.out.size); (case sL => (have := HAC.out; omega)); intro v1 w6 hn hb hg hat; have HO6 := Aside0.mk hn; have HB6 := Aside0.mk hb; have HG6 := Aside0.mk (blk_grown HGA.out hg (Kd.N_away HO.out (fun k hk => hk.2))); clear hn hb hg hat)
        refine ⟨⟨i + 1, _, by rw [hw], HLI.out, HH, HO6, HG6, HB6⟩, ?_⟩
        rw [hw]
        show l.length - (((i + 1 : Nat) : Int)).toNat < l.length - ((i : Int)).toNat
        simp only [Int.toNat_natCast]
        exact hm
    · have hn : i = l.length := by omega
      subst hn
      have g1 : decide ((l.length : Int) < (l.length : Int)) = false := decide_eq_false (by omega)
      have hh := HH.out
      rw [List.drop_length] at hh
      simp only [dkids] at hh
      obtain rfl := Option.some.inj hh
      obtain ⟨A3, c3, e3⟩ := Kd.N_slice HO.out
      subst e3
      clear hh HH hi
      cases acc with
      | nil =>
        go_wp2_with (go_at_call 35; (with_reducible refine (deriv_empty.calls 1 [] 0 0 [] _ rfl).mono ?_); rintro e_ w5 ⟨v1, v4, rfl, hv1, hv4, hb⟩; obtain ⟨D1, d1, rfl⟩ := Kd.R_slice hv1; obtain ⟨D4, d4, rfl⟩ := Kd.R_slice hv4; have HB5 := Aside0.mk (below_step HB.out hb); have HGG := Aside0.mk (blk_below HGR.out hb); have t0 := blk_cell HGG.out 0; have t1 := blk_cell HGG.out 1; have t2 := blk_cell HGG.out 2; have t3 := blk_cell HGG.out 3; have t4 := blk_cell HGG.out 4; have f0 := blk_frozen HGG.out 0; have f1 := blk_frozen HGG.out 1; have f2 := blk_frozen HGG.out 2; have f3 := blk_frozen HGG.out 3; have f4 := blk_frozen HGG.out 4; clear hv1 hv4 hb)
        refine bodyPost_ret (results_cell_row rfl _ _ gr 25 #[.int .i64 1, .slice D1 0 d1, .int .i64 0, .int .i64 0, .slice D4 0 d4] (0, 0) _ rfl (blk_put (blk_put (blk_put (blk_put (blk_put HGG.out 0 _ rfl) 1 _ rfl) 2 _ rfl) 3 _ rfl) 4 _ rfl) Try.underlying25 rfl (by kernel_rfl)) rfl ?_
        exact ⟨_, rfl, ⟨D1, d1, D4, d4, rfl, Nat.zero_le _, F_zero _, Nat.zero_le _, F_zero _⟩, below_set (below_set (below_set (below_set (below_set HB5.out HG.out) HG.out) HG.out) HG.out) HG.out⟩
      | cons y rest =>
        cases rest with
        | nil =>
          obtain ⟨ad, E1, e1, E4, e4, ee, h0, h1, h2, h3, h4, q1, q2, q3, q4⟩ := at_F (Kd.N_F HO.out) 0 (by simp)
          cases ee
          have ea : ad.add (0 * 5) = ad := by
            show ad.add 0 = ad
            cases ad
            simp [Addr.add]
          rw [ea] at h0 h1 h2 h3 h4
          have hy : ([y] : List DNode).getD 0 z25 = y := rfl
          rw [hy] at h0 h1 h2 h3 h4 q1 q2 q3 q4
          have HNF := Aside0.mk (show NodeF wr (fun k => (P k ∨ w0.heap.size ≤ k) ∧ k ≠ gr) y _ from ⟨E1, e1, E4, e4, rfl, q1, q2, q3, q4⟩)
          have HGG := HGR
          have u1 : ((0 : Int) < (1 : Int)) = True := eq_true (by omega)
          have t0 := blk_cell HGG.out 0
          have t1 := blk_cell HGG.out 1
          have t2 := blk_cell HGG.out 2
          have t3 := blk_cell HGG.out 3
          have t4 := blk_cell HGG.out 4
          have f0 := blk_frozen HGG.out 0
          have f1 := blk_frozen HGG.out 1
          have f2 := blk_frozen HGG.out 2
          have f3 := blk_frozen HGG.out 3
          have f4 := blk_frozen HGG.out 4
          clear q1 q2 q3 q4 hy
          go_wp2
          refine bodyPost_ret (results_cell_row rfl _ _ gr 25 #[.int .i64 y.f0, .slice E1 y.f1.length e1, .int .i64 y.f2, .int .i64 y.f3, .slice E4 y.f4.length e4] (0, 0) _ rfl (blk_put (blk_put (blk_put (blk_put (blk_put HGG.out 0 _ rfl) 1 _ rfl) 2 _ rfl) 3 _ rfl) 4 _ rfl) Try.underlying25 rfl (by kernel_rfl)) rfl ?_
          exact ⟨_, rfl, (((((HNF.out.far (fun k hk => hk.2) _).far (fun k hk => hk.2) _).far (fun k hk => hk.2) _).far (fun k hk => hk.2) _).far (fun k hk => hk.2) _).mono (fun k hk => hk.1), below_set (below_set (below_set (below_set (below_set HB.out HG.out) HG.out) HG.out) HG.out) HG.out⟩
        | cons z rest =>
          have HGG := HGR
          have HNF := Aside0.mk (show NodeF wr (fun k => (P k ∨ w0.heap.size ≤ k) ∧ k ≠ gr) ⟨3, [], 0, 0, y :: z :: rest⟩ (.agg #[.int .i64 3, .slice none 0 0, .int .i64 0, .int .i64 0, .slice A3 (y :: z :: rest).length c3]) from ⟨none, 0, A3, c3, rfl, Nat.le_refl _, F_zero _, (Kd.N_reads' HO.out).2.1, Kd.N_F HO.out⟩)
          have t0 := blk_cell HGG.out 0
          have t1 := blk_cell HGG.out 1
          have t2 := blk_cell HGG.out 2
          have t3 := blk_cell HGG.out 3
          have t4 := blk_cell HGG.out 4
          have f0 := blk_frozen HGG.out 0
          have f1 := blk_frozen HGG.out 1
          have f2 := blk_frozen HGG.out 2
          have f3 := blk_frozen HGG.out 3
          have f4 := blk_frozen HGG.out 4
          have p0 : (((y :: z :: rest).length : Int) == 0) = false := beq_eq_false_iff_ne.mpr (by simp only [List.length_cons]; omega)
          have p1 : (((y :: z :: rest).length : Int) == 1) = false := beq_eq_false_iff_ne.mpr (by simp only [List.length_cons]; omega)
          obtain ⟨n9, hn9⟩ : ∃ n9, (y :: z :: rest).length = n9 := ⟨_, rfl⟩
          obtain ⟨ll, hll⟩ : ∃ ll, y :: z :: rest = ll := ⟨_, rfl⟩
          rw [hll] at p0 p1 HNF ⊢
          go_wp2
          refine bodyPost_ret (results_cell_row rfl _ _ gr 25 #[.int .i64 3, .slice none 0 0, .int .i64 0, .int .i64 0, .slice A3 ll.length c3] (0, 0) _ rfl (blk_put (blk_put (blk_put (blk_put (blk_put HGG.out 0 _ rfl) 1 _ rfl) 2 _ rfl) 3 _ rfl) 4 _ rfl) Try.underlying25 rfl (by kernel_rfl)) rfl ?_
          subst hll
          exact ⟨_, rfl, (((((HNF.out.far (fun k hk => hk.2) _).far (fun k hk => hk.2) _).far (fun k hk => hk.2) _).far (fun k hk => hk.2) _).far (fun k hk => hk.2) _).mono (fun k hk => hk.1), below_set (below_set (below_set (below_set (below_set HB.out HG.out) HG.out) HG.out) HG.out) HG.out⟩
end Go.Proofs.Ytaphbechnjmlgaa.P
namespace Go.Proofs.Ytaphbechnjmlgaa.P
open Go.RowKit Go.Proofs.YtaphbechnjmlgaaW.PrintWords Go.Proofs.YtaphbechnjmlgaaW.PrintLast
set_option linter.unusedVariables false
set_option linter.unusedSimpArgs false

/-- A list's elements one by one: the first that a test lets ends it. -/
def anyS (t : S25 → Option Bool) : List S25 → Option Bool
  | [] => some false
  | x :: l => (t x).bind fun b => if b = true then some true else anyS t l
/-- Does a node match nothing at all, of a depth up to n? -/
def nullS (st sp : Bool) : Nat → S25 → Option Bool
  | 0, _ => none
  | n + 1, x => if x.f0 = 1 then some true else if x.f0 = 6 then some st else if x.f0 = 7 then some sp
      else if x.f0 = 3 then (anyS (fun k => (nullS st sp n k).map (!·)) x.f4).map (!·)
      else if x.f0 = 4 then anyS (nullS st sp n) x.f4
      else if x.f0 = 5 then (if x.f4.length = 1 ∧ (x.f3 < 0 ∨ x.f3 ≥ x.f2) then (if x.f2 ≤ 0 then some true else nullS st sp n (x.f4.getD 0 z25)) else some false)
      else some false
/-- What a call of a function value answers at the nodes of a list. -/
abbrev TestN (g : Nat) (caps : Array Value) (t : S25 → Option Bool) (w : World) : Prop :=
  ∀ (x : S25) (v : Value) (b : Bool) (W : World), Below w.heap.size w W → NodeAt W x v → t x = some b → Calls Try.prog g (#[v] ++ caps) W fun e w' => e = .returned (.bool b) ∧ Below W.heap.size W w'
set_option maxHeartbeats 4000000 in
set_option maxRecDepth 100000 in
theorem index_node (g : Nat) (caps : Array Value) (t : S25 → Option Bool) (A0 : Option Addr) (c0 : Nat) (l0 : List S25) (w : World) (r : Bool) (hr0 : k25.C w A0 l0.length l0) (ht : TestN g caps t w) (hgo : ∀ (v : Value) (W : World), (callFunc g (#[v] ++ caps)).run Try.prog W = .ok (.enter g (#[v] ++ caps)) W) (h : anyS t l0 = some r) :
    Calls Try.prog 33 #[.slice A0 l0.length c0, .func (.func g) #[] caps] w fun e w' => (∃ i : Int, e = .returned (.int .i64 i) ∧ decide (i ≥ 0) = r) ∧ Below w.heap.size w w' := by
  have HL := Aside0.mk (Kd.C_max hr0)
  have HR0 := Aside0.mk hr0
  have HT := Aside0.mk ht
  have HH := Aside0.mk h
  clear hr0 ht h
  go_enter Try.func33, Try.ntmps33
  go_wp2
  go_loopw [8] (fun v wr => ∃ i : Nat, v = .int .i64 (i : Int) ∧ i ≤ l0.length ∧ Below w.heap.size w wr ∧ anyS t (l0.drop i) = some r) (fun v wr => l0.length - (intOf v).toNat)
  case atStart => exact ⟨0, rfl, by omega, Below.refl _ _, by simpa using HH.out⟩
  case round =>
    obtain ⟨i, rfl, hi, hB, hidx⟩ := hrel
    have HB := Aside0.mk hB
    by_cases h : i < l0.length
    · obtain ⟨ad, A1, c1, A4, c4, e, h0, h1, h2, h3, h4, q1, q2, q3, q4⟩ := at_T25 (Kd.C_below HR0.out hB) (i : Int) (by omega) (by omega)
      cases e
      rw [Int.toNat_natCast] at h0 h1 h2 h3 h4
      rw [sn_drop z25 l0 i h] at hidx
      have hx : rd_T25 l0 (i : Int) = l0.getD i z25 := rfl
      rw [hx] at h0 h1 h2 h3 h4 q1 q2 q3 q4
      obtain ⟨x, hxx⟩ : ∃ x, l0.getD i z25 = x := ⟨_, rfl⟩
      rw [hxx] at h0 h1 h2 h3 h4 q1 q2 q3 q4 hidx
      have hNA : NodeAt wr x _ := ⟨A1, c1, A4, c4, rfl, q1, q2, q3, q4⟩
      simp only [anyS] at hidx
      obtain ⟨b, hb, hidx⟩ := Option.bind_eq_some_iff.mp hidx
      have hcall := HT.out x _ b wr hB hNA hb
      have H := Aside0.mk hidx
      have p1 : decide ((i : Int) < (l0.length : Int)) = true := decide_eq_true (by omega)
      have p2 : ((0 : Int) ≤ (i : Int)) = True := eq_true (by omega)
      have p3 : ((i : Int) < (l0.length : Int)) = True := eq_true (by omega)
      have hgo1 := hgo (.agg #[.int .i64 x.f0, .slice A1 x.f1.length c1, .int .i64 x.f2, .int .i64 x.f3, .slice A4 x.f4.length c4])
      clear hidx hB hx hxx hb hNA q1 q2 q3 q4
      cases b with
      | true =>
        go_wp2_with (refine hcall.mono ?_; rintro e w' ⟨rfl, hb1⟩; have HB1 := Aside0.mk hb1; clear hb1)
        go_ret
        refine ⟨⟨_, rfl, ?_⟩, below_step HB.out HB1.out⟩
        have := H.out
        first | rw [if_pos rfl] at this | rw [if_pos trivial] at this
        rw [← Option.some.inj this]
        exact decide_eq_true (by omega)
      | false =>
        go_wp2_with (refine hcall.mono ?_; rintro e w' ⟨rfl, hb1⟩; have HB1 := Aside0.mk hb1; clear hb1)
        have hw := sn_wrap i (by have := HL.out; omega)
        refine ⟨⟨i + 1, by rw [hw], by omega, below_step HB.out HB1.out, ?_⟩, ?_⟩
        · have := H.out
          rw [if_neg (by simp)] at this
          exact this
        · rw [hw]
          show l0.length - (((i + 1 : Nat) : Int)).toNat < l0.length - ((i : Int)).toNat
          clear hw
          omega
    · have hn : i = l0.length := by omega
      subst hn
      have p1 : decide ((l0.length : Int) < (l0.length : Int)) = false := decide_eq_false (by omega)
      have H := Aside0.mk hidx
      clear hidx hB
      go_wp2
      go_ret
      refine ⟨⟨_, rfl, ?_⟩, HB.out⟩
      have := H.out
      rw [List.drop_length] at this
      rw [← Option.some.inj this]
      exact decide_eq_false (by omega)
set_option maxHeartbeats 4000000 in
theorem contains_node (g : Nat) (caps : Array Value) (t : S25 → Option Bool) (A0 : Option Addr) (c0 : Nat) (l0 : List S25) (w : World) (r : Bool) (hr0 : k25.C w A0 l0.length l0) (ht : TestN g caps t w) (hgo : ∀ (v : Value) (W : World), (callFunc g (#[v] ++ caps)).run Try.prog W = .ok (.enter g (#[v] ++ caps)) W) (h : anyS t l0 = some r) :
    Calls Try.prog 23 #[.slice A0 l0.length c0, .func (.func g) #[] caps] w fun e w' => e = .returned (.bool r) ∧ Below w.heap.size w w' := by
  have hct := index_node g caps t A0 c0 l0 w r hr0 ht hgo h
  clear hr0 ht hgo h
  go_enter Try.func23, Try.ntmps23
  go_wp2_with (go_at_call 33; (with_reducible refine hct.mono ?_); rintro e w' ⟨⟨i, rfl, hi⟩, hb⟩; have HB := Aside0.mk hb; have HI := Aside0.mk hi; clear hb hi)
  go_ret
  exact ⟨by rw [HI.out]; rfl, HB.out⟩
/-- deriv.Null answers nullS, up to a depth. -/
abbrev NullN (st sp : Bool) (n : Nat) : Prop := ∀ (x : S25) (v : Value) (r : Bool) (w : World), NodeAt w x v → nullS st sp n x = some r → Calls Try.prog 12 #[v, .bool st, .bool sp] w fun e w' => e = .returned (.bool r) ∧ Below w.heap.size w w'
set_option maxHeartbeats 4000000 in
theorem null1_calls (st sp : Bool) (n : Nat) (ih : NullN st sp n) (cs cp : Nat) (x : S25) (v : Value) (b : Bool) (W : World) (hs : W.cell? ⟨cs, 0, none⟩ = some (.bool st)) (hp : W.cell? ⟨cp, 0, none⟩ = some (.bool sp)) (hN : NodeAt W x v) (h : nullS st sp n x = some b) :
    Calls Try.prog 22 #[v, .pointer (some ⟨cs, 0, none⟩), .pointer (some ⟨cp, 0, none⟩)] W fun e w' => e = .returned (.bool b) ∧ Below W.heap.size W w' := by
  have hct := fun W' (hb : Below W.heap.size W W') => ih x v b W' (hN.below hb) h
  obtain ⟨A1, c1, A4, c4, rfl, _⟩ := hN
  have HCT := Aside0.mk hct
  have hs2 := fun o => cell_later (below_alloc (Below.refl W.heap.size W) o) hs
  have hp2 := fun o => cell_later (below_alloc (Below.refl W.heap.size W) o) hp
  have hs3 := hs2 (.cells #[.int .i64 x.f0, .slice A1 x.f1.length c1, .int .i64 x.f2, .int .i64 x.f3, .slice A4 x.f4.length c4] 25)
  have hp3 := hp2 (.cells #[.int .i64 x.f0, .slice A1 x.f1.length c1, .int .i64 x.f2, .int .i64 x.f3, .slice A4 x.f4.length c4] 25)
  clear hct h ih hs hp hs2 hp2
  have hu := Try.underlying25
  go_enter Try.func22, Try.ntmps22
  go_wp2_with (go_at_call 12; refine (HCT.out _ (below_alloc (Below.refl _ _) _)).mono ?_; rintro e w' ⟨rfl, hb⟩; have HB := Aside0.mk hb; clear hb)
  go_ret
  exact ⟨rfl, below_step (below_alloc (Below.refl _ _) _) HB.out⟩
set_option maxHeartbeats 4000000 in
theorem null2_calls (st sp : Bool) (n : Nat) (ih : NullN st sp n) (cs cp d : Nat) (x : S25) (v : Value) (b : Bool) (W : World) (hs : W.cell? ⟨cs, 0, none⟩ = some (.bool st)) (hp : W.cell? ⟨cp, 0, none⟩ = some (.bool sp)) (hd : W.cell? ⟨d, 0, none⟩ = some (.func (.func 22) #[] #[.pointer (some ⟨cs, 0, none⟩), .pointer (some ⟨cp, 0, none⟩)])) (hN : NodeAt W x v) (h : nullS st sp n x = some b) :
    Calls Try.prog 24 #[v, .pointer (some ⟨d, 0, none⟩)] W fun e w' => e = .returned (.bool (!b)) ∧ Below W.heap.size W w' := by
  have hct := fun W' (hb : Below W.heap.size W W') => null1_calls st sp n ih cs cp x v b W' (cell_later hb hs) (cell_later hb hp) (hN.below hb) h
  obtain ⟨A1, c1, A4, c4, rfl, _⟩ := hN
  have HCT := Aside0.mk hct
  have hd2 := fun o => cell_later (below_alloc (Below.refl W.heap.size W) o) hd
  have hd3 := hd2 (.cells #[.int .i64 x.f0, .slice A1 x.f1.length c1, .int .i64 x.f2, .int .i64 x.f3, .slice A4 x.f4.length c4] 25)
  have hgo := fun W => enters_ Try.func22 (by kernel_rfl) rfl #[.agg #[.int .i64 x.f0, .slice A1 x.f1.length c1, .int .i64 x.f2, .int .i64 x.f3, .slice A4 x.f4.length c4], .pointer (some ⟨cs, 0, none⟩), .pointer (some ⟨cp, 0, none⟩)] W
  clear hct h ih hs hp hd2 hd
  have hu := Try.underlying25
  go_enter Try.func24, Try.ntmps24
  go_wp2_with (refine (HCT.out _ (below_alloc (Below.refl _ _) _)).mono ?_; rintro e w' ⟨rfl, hb⟩; have HB := Aside0.mk hb; clear hb)
  go_ret
  exact ⟨rfl, below_step (below_alloc (Below.refl _ _) _) HB.out⟩
/-- How it stands: the node and the two flags in blocks of their own. -/
structure NI (w W : World) (gx gs gp : Nat) (cx : Array Value) (st sp : Bool) : Prop where
  below : Below w.heap.size w W
  bx : W.heap[gx]? = some (.cells cx 25 (0, 0))
  bs : W.heap[gs]? = some (.cells #[.bool st] 4 (0, 0))
  bp : W.heap[gp]? = some (.cells #[.bool sp] 4 (0, 0))
theorem NI.more {w W W2 : World} {gx gs gp : Nat} {cx : Array Value} {st sp : Bool} (h : NI w W gx gs gp cx st sp) (hb : Below W.heap.size W W2) : NI w W2 gx gs gp cx st sp :=
  ⟨below_step h.below hb, blk_below h.bx hb, blk_below h.bs hb, blk_below h.bp hb⟩
set_option maxHeartbeats 8000000 in
set_option maxRecDepth 100000 in
theorem null_step (st sp : Bool) (n : Nat) (ih : NullN st sp n) (x0 : Int) (A1 : Option Addr) (c1 : Nat) (x1 : List S52) (x2 x3 : Int) (A4 : Option Addr) (c4 : Nat) (x4 : List S25) (w : World) (r : Bool) (hx4 : k25.C w A4 x4.length x4) (h : nullS st sp (n + 1) ⟨x0, x1, x2, x3, x4⟩ = some r) :
    Calls Try.prog 12 #[.agg #[.int .i64 x0, .slice A1 x1.length c1, .int .i64 x2, .int .i64 x3, .slice A4 x4.length c4], .bool st, .bool sp] w fun e w' => e = .returned (.bool r) ∧ Below w.heap.size w w' := by
  have hu := Try.underlying25
  rw [nullS] at h
  dsimp only at h
  have HH := Aside0.mk h
  have HX4 := Aside0.mk hx4
  have HN := Aside0.mk (Kd.C_max hx4)
  have HIH := Aside0.mk ih
  have HB := Aside0.mk (Below.refl w.heap.size w)
  clear h hx4 ih
  go_enter Try.func12, Try.ntmps12
  go_upto_region 2 with (first
    | ((with_reducible refine gate_dst (N := 3) rfl ?_); (try (refine gate_guard (by rfl) ?_; dsimp only)); refine box_event ?hg (N := 3) ?hd (cs := #[.int .i64 x0, .slice A1 x1.length c1, .int .i64 x2, .int .i64 x3, .slice A4 x4.length c4]) (t := 25) ?hr ?_; (case hd => rfl); (case hg => rfl); (case hr => first | (go_simp; done) | (go_simp; rfl)); intro gx hg w1 hbox hb; have HB1 := Aside0.mk (below_step HB.out hb); have HBX := Aside0.mk hbox; clear hb hbox hg)
    | ((with_reducible refine gate_dst (N := 4) rfl ?_); (try (refine gate_guard (by rfl) ?_; dsimp only)); refine box_event ?hg (N := 4) ?hd (cs := #[.bool st]) (t := 4) ?hr ?_; (case hd => rfl); (case hg => rfl); (case hr => first | (go_simp; done) | (go_simp; rfl)); intro gs hg w2 hbox hb; have HB2 := Aside0.mk (below_step HB1.out hb); have HBX2 := Aside0.mk (blk_below HBX.out hb); have HBS := Aside0.mk hbox; clear hb hbox hg)
    | ((with_reducible refine gate_dst (N := 5) rfl ?_); (try (refine gate_guard (by rfl) ?_; dsimp only)); refine box_event ?hg (N := 5) ?hd (cs := #[.bool sp]) (t := 4) ?hr ?_; (case hd => rfl); (case hg => rfl); (case hr => first | (go_simp; done) | (go_simp; rfl)); intro gp hg w3 hbox hb; have HJ3 := Aside0.mk (show NI w w3 gx gs gp #[.int .i64 x0, .slice A1 x1.length c1, .int .i64 x2, .int .i64 x3, .slice A4 x4.length c4] st sp from ⟨below_step HB2.out hb, blk_below HBX2.out hb, blk_below HBS.out hb, hbox⟩); clear hb hbox hg))
  clear HB HB1 HBX HB2 HBX2 HBS
  have HJ := Aside0.mk (HJ3.out.more (below_alloc (Below.refl _ _) (.cells #[.func (.func 22) #[] #[.pointer (some ⟨gs, 0, none⟩), .pointer (some ⟨gp, 0, none⟩)]] 39)))
  have hn := heap_alloc_new w3 (.cells #[.func (.func 22) #[] #[.pointer (some ⟨gs, 0, none⟩), .pointer (some ⟨gp, 0, none⟩)]] 39)
  generalize w3.alloc (.cells #[.func (.func 22) #[] #[.pointer (some ⟨gs, 0, none⟩), .pointer (some ⟨gp, 0, none⟩)]] 39) = W at HJ hn ⊢
  generalize w3.heap.size = d at hn ⊢
  have z0 := blk_cell HJ.out.bx 0
  have z1 := blk_cell HJ.out.bx 1
  have z2 := blk_cell HJ.out.bx 2
  have z3 := blk_cell HJ.out.bx 3
  have z4 := blk_cell HJ.out.bx 4
  have zs := blk_cell HJ.out.bs 0
  have zp := blk_cell HJ.out.bp 0
  have zd := blk_cell hn 0
  have HZ := Aside0.mk (And.intro zs (And.intro zp zd))
  clear hn
  by_cases c1 : x0 = 1
  · have h := HH.out
    rw [if_pos c1] at h
    obtain rfl := Option.some.inj h
    subst c1
    clear h HH
    go_wp2
    go_ret
    exact ⟨rfl, HJ.out.below⟩
  have k1 : (x0 == 1) = false := beq_eq_false_iff_ne.mpr c1
  by_cases c6 : x0 = 6
  · have h := HH.out
    rw [if_neg c1, if_pos c6] at h
    obtain rfl := Option.some.inj h
    subst c6
    clear h HH
    go_wp2
    go_ret
    exact ⟨rfl, HJ.out.below⟩
  have k6 : (x0 == 6) = false := beq_eq_false_iff_ne.mpr c6
  by_cases c7 : x0 = 7
  · have h := HH.out
    rw [if_neg c1, if_neg c6, if_pos c7] at h
    obtain rfl := Option.some.inj h
    subst c7
    clear h HH
    go_wp2
    go_ret
    exact ⟨rfl, HJ.out.below⟩
  have k7 : (x0 == 7) = false := beq_eq_false_iff_ne.mpr c7
  by_cases c3 : x0 = 3
  · have h := HH.out
    rw [if_neg c1, if_neg c6, if_neg c7, if_pos c3] at h
    obtain ⟨b, hb, rfl⟩ := Option.map_eq_some_iff.mp h
    have hct := contains_node 24 #[.pointer (some ⟨d, 0, none⟩)] (fun k => (nullS st sp n k).map (!·)) A4 c4 x4 W b (Kd.C_below HX4.out HJ.out.below) (fun x v b' W2 hb2 hN ht => by
      obtain ⟨b1, hb1, rfl⟩ := Option.map_eq_some_iff.mp ht
      exact null2_calls st sp n HIH.out gs gp d x v b1 W2 (cell_later hb2 HZ.out.1) (cell_later hb2 HZ.out.2.1) (cell_later hb2 HZ.out.2.2) hN hb1) (fun v W => enters_ Try.func24 (by kernel_rfl) rfl _ W) hb
    have HCT := Aside0.mk hct
    subst c3
    clear h HH hct hb
    go_wp2_with (go_at_call 23; (with_reducible refine HCT.out.mono ?_); rintro e w' ⟨rfl, hb⟩; have HB := Aside0.mk hb; clear hb)
    go_ret
    exact ⟨rfl, below_step HJ.out.below HB.out⟩
  have k3 : (x0 == 3) = false := beq_eq_false_iff_ne.mpr c3
  by_cases c4' : x0 = 4
  · have h := HH.out
    rw [if_neg c1, if_neg c6, if_neg c7, if_neg c3, if_pos c4'] at h
    have hct := contains_node 22 #[.pointer (some ⟨gs, 0, none⟩), .pointer (some ⟨gp, 0, none⟩)] (nullS st sp n) A4 c4 x4 W r (Kd.C_below HX4.out HJ.out.below) (fun x v b' W2 hb2 hN ht => null1_calls st sp n HIH.out gs gp x v b' W2 (cell_later hb2 HZ.out.1) (cell_later hb2 HZ.out.2.1) hN ht) (fun v W => enters_ Try.func22 (by kernel_rfl) rfl _ W) h
    have HCT := Aside0.mk hct
    subst c4'
    clear h HH hct
    go_wp2_with (go_at_call 23; (with_reducible refine HCT.out.mono ?_); rintro e w' ⟨rfl, hb⟩; have HB := Aside0.mk hb; clear hb)
    go_ret
    exact ⟨rfl, below_step HJ.out.below HB.out⟩
  have k4 : (x0 == 4) = false := beq_eq_false_iff_ne.mpr c4'
  by_cases c5 : x0 = 5
  rotate_left
  · have h := HH.out
    rw [if_neg c1, if_neg c6, if_neg c7, if_neg c3, if_neg c4', if_neg c5] at h
    obtain rfl := Option.some.inj h
    have k5 : (x0 == 5) = false := beq_eq_false_iff_ne.mpr c5
    clear h HH c1 c6 c7 c3 c4' c5
    go_wp2
    go_ret
    exact ⟨rfl, HJ.out.below⟩
  have h := HH.out
  rw [if_neg c1, if_neg c6, if_neg c7, if_neg c3, if_neg c4', if_pos c5] at h
  clear HH c1 c6 c7 c3 c4' k1 k6 k7 k3 k4
  subst c5
  by_cases a1 : x4.length = 1
  rotate_left
  · rw [if_neg (fun hh => a1 hh.1)] at h
    obtain rfl := Option.some.inj h
    have p1 : ((x4.length : Int) == 1) = false := beq_eq_false_iff_ne.mpr (by omega)
    clear h a1
    go_upto_region 14 with (fail)
    go_quiet (fail)
    go_wp2
    go_ret
    exact ⟨rfl, pw_below_drewN HJ.out.below _⟩
  have p1 : ((x4.length : Int) == 1) = true := beq_iff_eq.mpr (by omega)
  by_cases a2 : x3 < 0 ∨ x3 ≥ x2
  rotate_left
  · rw [if_neg (fun hh => a2 hh.2)] at h
    obtain rfl := Option.some.inj h
    have p2 : decide (x3 < 0) = false := decide_eq_false (by omega)
    have p3 : decide (x3 ≥ x2) = false := decide_eq_false (by omega)
    have p3' : decide (x2 ≤ x3) = false := decide_eq_false (by omega)
    clear h a2
    rw [a1] at z4
    rw [a1]
    go_upto_region 14 with (fail)
    go_quiet (fail)
    go_wp2
    go_ret
    exact ⟨rfl, pw_below_drewN HJ.out.below _⟩
  rw [if_pos ⟨a1, a2⟩] at h
  by_cases a3 : x2 ≤ 0
  · rw [if_pos a3] at h
    obtain rfl := Option.some.inj h
    have p4 : decide (x2 ≤ 0) = true := decide_eq_true a3
    rw [a1] at z4
    rw [a1]
    by_cases a4 : x3 < 0
    · have p2 : decide (x3 < 0) = true := decide_eq_true a4
      clear h a2 a3 a4
      go_upto_region 14 with (fail)
      go_quiet (fail)
      go_wp2
      go_ret
      exact ⟨rfl, pw_below_drewN HJ.out.below _⟩
    · have p2 : decide (x3 < 0) = false := decide_eq_false a4
      have p3 : decide (x3 ≥ x2) = true := decide_eq_true (by omega)
      have p3' : decide (x2 ≤ x3) = true := decide_eq_true (by omega)
      clear h a2 a3 a4
      go_upto_region 14 with (fail)
      go_quiet (fail)
      go_wp2
      go_ret
      exact ⟨rfl, pw_below_drewN HJ.out.below _⟩
  rw [if_neg a3] at h
  have p4 : decide (x2 ≤ 0) = false := decide_eq_false a3
  obtain ⟨ad, Ak, ck, Bk, ek, ee, h0, h1, h2, h3, h4, q1, q2, q3, q4⟩ := at_T25 (Kd.C_below HX4.out HJ.out.below) 0 (by omega) (by omega)
  cases ee
  have ea : ad.add ((0 : Int).toNat * 5) = ad := by
    show ad.add 0 = ad
    cases ad
    simp [Addr.add]
  rw [ea] at h0 h1 h2 h3 h4
  have hx : rd_T25 x4 0 = x4.getD 0 z25 := rfl
  rw [hx] at h0 h1 h2 h3 h4 q1 q2 q3 q4
  obtain ⟨y, hy⟩ : ∃ y, x4.getD 0 z25 = y := ⟨_, rfl⟩
  rw [hy] at h0 h1 h2 h3 h4 q1 q2 q3 q4 h
  have hct := null1_calls st sp n HIH.out gs gp y _ r W.drew (cell_later (below_drew (Below.refl W.heap.size W)) HZ.out.1) (cell_later (below_drew (Below.refl W.heap.size W)) HZ.out.2.1) (NodeAt.below ⟨Ak, ck, Bk, ek, rfl, q1, q2, q3, q4⟩ (below_drew (Below.refl W.heap.size W))) h
  have HCT := Aside0.mk hct
  have hgo := fun W => enters_ Try.func22 (by kernel_rfl) rfl #[.agg #[.int .i64 y.f0, .slice Ak y.f1.length ck, .int .i64 y.f2, .int .i64 y.f3, .slice Bk y.f4.length ek], .pointer (some ⟨gs, 0, none⟩), .pointer (some ⟨gp, 0, none⟩)] W
  have u1 : ((0 : Int) < (1 : Int)) = True := eq_true (by omega)
  rw [a1] at z4
  rw [a1]
  clear hct h q1 q2 q3 q4 hx hy
  by_cases a4 : x3 < 0
  · have p2 : decide (x3 < 0) = true := decide_eq_true a4
    clear a2 a3 a4
    go_upto_region 14 with (fail)
    go_still_tail 26, (by kernel_rfl)
    change wpList _ _ _ _ _ W.drew
    go_wp2_with ((with_reducible refine HCT.out.mono ?_); rintro e w' ⟨rfl, hb⟩; have HB := Aside0.mk hb; clear hb)
    go_ret
    exact ⟨rfl, below_step HJ.out.below (below_step (below_drew (Below.refl _ _)) HB.out)⟩
  · have p2 : decide (x3 < 0) = false := decide_eq_false a4
    have p3 : decide (x3 ≥ x2) = true := decide_eq_true (by omega)
    have p3' : decide (x2 ≤ x3) = true := decide_eq_true (by omega)
    clear a2 a3 a4
    go_upto_region 14 with (fail)
    go_still_tail 26, (by kernel_rfl)
    change wpList _ _ _ _ _ W.drew
    go_wp2_with ((with_reducible refine HCT.out.mono ?_); rintro e w' ⟨rfl, hb⟩; have HB := Aside0.mk hb; clear hb)
    go_ret
    exact ⟨rfl, below_step HJ.out.below (below_step (below_drew (Below.refl _ _)) HB.out)⟩
theorem null_calls (st sp : Bool) : ∀ n, NullN st sp n
  | 0 => fun x v r w _ h => by simp [nullS] at h
  | n + 1 => fun x v r w hN h => by
    obtain ⟨A1, c1, A4, c4, rfl, l1, g1, l4, g4⟩ := hN
    obtain ⟨x0, x1, x2, x3, x4⟩ := x
    exact null_step st sp n (null_calls st sp n) x0 A1 c1 x1 x2 x3 A4 c4 x4 w r g4 h
end Go.Proofs.Ytaphbechnjmlgaa.P
namespace Go.Proofs.Ytaphbechnjmlgaa.P
open Go.RowKit Go.Proofs.YtaphbechnjmlgaaW.PrintWords Go.Proofs.YtaphbechnjmlgaaW.PrintLast
set_option linter.unusedVariables false
set_option linter.unusedSimpArgs false

/-- Two lists' elements one by one: the first pair that a test does not let ends it. -/
def eqS (t : S25 → S25 → Option Bool) : List S25 → List S25 → Option Bool
  | x :: l, y :: m => (t x y).bind fun b => if b = true then eqS t l m else some false
  | _, _ => some true
/-- Are two trees the same, of a depth up to n? -/
def sameS (k : Nat) : Nat → S25 → S25 → Option Bool
  | 0, _, _ => none
  | n + 1, x, y => if x.f0 = y.f0 then if x.f2 = y.f2 then if x.f3 = y.f3 then (slices_Equal_api_Range.f k x.f1 y.f1).bind fun b =>
      if b = true then (if x.f4.length = y.f4.length then eqS (sameS k n) x.f4 y.f4 else some false) else some false else some false else some false else some false
/-- What a call of the function value answers at the nodes of two lists. -/
abbrev TestNN (t : S25 → S25 → Option Bool) (w : World) : Prop :=
  ∀ (x y : S25) (vx vy : Value) (b : Bool) (W : World), Below w.heap.size w W → NodeAt W x vx → NodeAt W y vy → t x y = some b → Calls Try.prog 47 #[vx, vy] W fun e w' => e = .returned (.bool b) ∧ Below W.heap.size W w'
set_option maxHeartbeats 4000000 in
set_option maxRecDepth 100000 in
theorem eqfunc_node (t : S25 → S25 → Option Bool) (A0 : Option Addr) (c0 : Nat) (l0 : List S25) (A1 : Option Addr) (c1 : Nat) (l1 : List S25) (w : World) (r : Bool) (hr0 : k25.C w A0 l0.length l0) (hr1 : k25.C w A1 l1.length l1) (ht : TestNN t w) (h : (if l0.length = l1.length then eqS t l0 l1 else some false) = some r) :
    Calls Try.prog 55 #[.slice A0 l0.length c0, .slice A1 l1.length c1, .func (.func 47) #[] #[]] w fun e w' => e = .returned (.bool r) ∧ Below w.heap.size w w' := by
  have hgo := fun (v u : Value) W => enters_ Try.func47 (by kernel_rfl) rfl #[v, u] W
  have HGO := Aside0.mk hgo
  have HL := Aside0.mk (Kd.C_max hr0)
  have HR0 := Aside0.mk hr0
  have HR1 := Aside0.mk hr1
  have HT := Aside0.mk ht
  by_cases hl : l0.length = l1.length
  rotate_left
  · rw [if_neg hl] at h
    obtain rfl := Option.some.inj h
    have p1 : ((l0.length : Int) != (l1.length : Int)) = true := bne_iff_ne.mpr (by omega)
    clear h hl hr0 hr1 ht hgo
    go_enter Try.func55, Try.ntmps55
    go_wp2
    go_ret
    exact ⟨rfl, Below.refl _ _⟩
  rw [if_pos hl] at h
  have p1 : ((l0.length : Int) != (l1.length : Int)) = false := bne_eq_false_iff_eq.mpr (by omega)
  have HH := Aside0.mk h
  have HE := Aside0.mk hl
  clear h hl hr0 hr1 ht hgo
  go_enter Try.func55, Try.ntmps55
  go_wp2
  go_loopw [17] (fun v wr => ∃ i : Nat, v = .int .i64 (i : Int) ∧ i ≤ l0.length ∧ Below w.heap.size w wr ∧ eqS t (l0.drop i) (l1.drop i) = some r) (fun v wr => l0.length - (intOf v).toNat)
  case atStart => exact ⟨0, rfl, by omega, Below.refl _ _, by simpa using HH.out⟩
  case round =>
    clear p1
    obtain ⟨i, rfl, hi, hB, hidx⟩ := hrel
    have HB := Aside0.mk hB
    by_cases h : i < l0.length
    · have h' : i < l1.length := by have := HE.out; omega
      obtain ⟨ad, B1, b1, B4, b4, e, h0, h1, h2, h3, h4, q1, q2, q3, q4⟩ := at_T25 (Kd.C_below HR0.out hB) (i : Int) (by omega) (by omega)
      obtain ⟨ad', D1, d1, D4, d4, e', m0, m1, m2, m3, m4, s1, s2, s3, s4⟩ := at_T25 (Kd.C_below HR1.out hB) (i : Int) (by omega) (by omega)
      cases e
      cases e'
      rw [Int.toNat_natCast] at h0 h1 h2 h3 h4 m0 m1 m2 m3 m4
      rw [sn_drop z25 l0 i h, sn_drop z25 l1 i h'] at hidx
      have hx : rd_T25 l0 (i : Int) = l0.getD i z25 := rfl
      have hy : rd_T25 l1 (i : Int) = l1.getD i z25 := rfl
      rw [hx] at h0 h1 h2 h3 h4 q1 q2 q3 q4
      rw [hy] at m0 m1 m2 m3 m4 s1 s2 s3 s4
      obtain ⟨x, hxx⟩ : ∃ x, l0.getD i z25 = x := ⟨_, rfl⟩
      obtain ⟨y, hyy⟩ : ∃ y, l1.getD i z25 = y := ⟨_, rfl⟩
      rw [hxx] at h0 h1 h2 h3 h4 q1 q2 q3 q4 hidx
      rw [hyy] at m0 m1 m2 m3 m4 s1 s2 s3 s4 hidx
      have hNA : NodeAt wr x _ := ⟨B1, b1, B4, b4, rfl, q1, q2, q3, q4⟩
      have hNB : NodeAt wr y _ := ⟨D1, d1, D4, d4, rfl, s1, s2, s3, s4⟩
      simp only [eqS] at hidx
      obtain ⟨b, hb, hidx⟩ := Option.bind_eq_some_iff.mp hidx
      have HNA := Aside0.mk hNA
      have HNB := Aside0.mk hNB
      have HBB := Aside0.mk hb
      have H := Aside0.mk hidx
      have p1 : decide ((i : Int) < (l0.length : Int)) = true := decide_eq_true (by omega)
      have p2 : ((0 : Int) ≤ (i : Int)) = True := eq_true (by omega)
      have p3 : ((i : Int) < (l0.length : Int)) = True := eq_true (by omega)
      have p4 : ((i : Int) < (l1.length : Int)) = True := eq_true (by omega)
      have hgo1 := fun W => HGO.out (.agg #[.int .i64 x.f0, .slice B1 x.f1.length b1, .int .i64 x.f2, .int .i64 x.f3, .slice B4 x.f4.length b4]) (.agg #[.int .i64 y.f0, .slice D1 y.f1.length d1, .int .i64 y.f2, .int .i64 y.f3, .slice D4 y.f4.length d4]) W
      have HWA := Aside0.mk (below_alloc (Below.refl wr.heap.size wr) (.cells #[.int .i64 x.f0, .slice B1 x.f1.length b1, .int .i64 x.f2, .int .i64 x.f3, .slice B4 x.f4.length b4] 25))
      replace m0 := cell_later HWA.out m0
      replace m1 := cell_later HWA.out m1
      replace m2 := cell_later HWA.out m2
      replace m3 := cell_later HWA.out m3
      replace m4 := cell_later HWA.out m4
      have HHI := Aside0.mk h
      have hb2 : Below wr.heap.size wr ((wr.alloc (.cells #[.int .i64 x.f0, .slice B1 x.f1.length b1, .int .i64 x.f2, .int .i64 x.f3, .slice B4 x.f4.length b4] 25)).alloc (.cells #[.int .i64 y.f0, .slice D1 y.f1.length d1, .int .i64 y.f2, .int .i64 y.f3, .slice D4 y.f4.length d4] 25)) := below_alloc (below_alloc (Below.refl _ _) _) _
      have hcall := HT.out x y _ _ b _ (below_step hB hb2) (hNA.below hb2) (hNB.below hb2) hb
      have HCT := Aside0.mk hcall
      clear hidx hB hx hxx hy hyy hb hNA hNB q1 q2 q3 q4 s1 s2 s3 s4 h' hcall hb2
      cases b with
      | true =>
        go_wp2_with ((with_reducible refine HCT.out.mono ?_); rintro e w' ⟨rfl, hb1⟩; have HB1 := Aside0.mk hb1; clear hb1)
        have hw := sn_wrap i (by have := HL.out; omega)
        refine ⟨⟨i + 1, by rw [hw], by omega, below_step HB.out (below_step (below_alloc (below_alloc (Below.refl _ _) _) _) HB1.out), ?_⟩, ?_⟩
        · have := H.out
          first | rw [if_pos rfl] at this | rw [if_pos trivial] at this
          exact this
        · rw [hw]
          show l0.length - (((i + 1 : Nat) : Int)).toNat < l0.length - ((i : Int)).toNat
          clear hw
          omega
      | false =>
        go_wp2_with ((with_reducible refine HCT.out.mono ?_); rintro e w' ⟨rfl, hb1⟩; have HB1 := Aside0.mk hb1; clear hb1)
        go_ret
        refine ⟨?_, below_step HB.out (below_step (below_alloc (below_alloc (Below.refl _ _) _) _) HB1.out)⟩
        have := H.out
        rw [if_neg (by simp)] at this
        rw [← Option.some.inj this]
        rfl
    · have hn : i = l0.length := by omega
      subst hn
      have p1 : decide ((l0.length : Int) < (l0.length : Int)) = false := decide_eq_false (by omega)
      have H := Aside0.mk hidx
      clear hidx hB
      go_wp2
      go_ret
      refine ⟨?_, HB.out⟩
      have := H.out
      rw [List.drop_length, List.drop_eq_nil_of_le (by have := HE.out; omega)] at this
      simp only [eqS] at this
      rw [← Option.some.inj this]
      rfl
/-- tree.Same answers sameS, up to a depth. -/
abbrev SameN (k n : Nat) : Prop := ∀ (x y : S25) (vx vy : Value) (r : Bool) (w : World), NodeAt w x vx → NodeAt w y vy → sameS k n x y = some r → Calls Try.prog 47 #[vx, vy] w fun e w' => e = .returned (.bool r) ∧ Below w.heap.size w w'
set_option maxHeartbeats 8000000 in
set_option maxRecDepth 100000 in
theorem same_step (k n : Nat) (ih : SameN k n) (x0 : Int) (A1 : Option Addr) (c1 : Nat) (x1 : List S52) (x2 x3 : Int) (A4 : Option Addr) (c4 : Nat) (x4 : List S25) (y0 : Int) (B1 : Option Addr) (d1 : Nat) (y1 : List S52) (y2 y3 : Int) (B4 : Option Addr) (d4 : Nat) (y4 : List S25) (w : World) (r : Bool)
    (hx1 : k52.C w A1 x1.length x1) (hc1 : x1.length ≤ c1) (hx4 : k25.C w A4 x4.length x4) (hy1 : k52.C w B1 y1.length y1) (hd1 : y1.length ≤ d1) (hy4 : k25.C w B4 y4.length y4) (h : sameS k (n + 1) ⟨x0, x1, x2, x3, x4⟩ ⟨y0, y1, y2, y3, y4⟩ = some r) :
    Calls Try.prog 47 #[.agg #[.int .i64 x0, .slice A1 x1.length c1, .int .i64 x2, .int .i64 x3, .slice A4 x4.length c4], .agg #[.int .i64 y0, .slice B1 y1.length d1, .int .i64 y2, .int .i64 y3, .slice B4 y4.length d4]] w fun e w' => e = .returned (.bool r) ∧ Below w.heap.size w w' := by
  have hu := Try.underlying25
  rw [sameS] at h
  dsimp only at h
  have HX := Aside0.mk (And.intro hx1 (And.intro hc1 (And.intro hx4 (And.intro hy1 (And.intro hd1 hy4)))))
  have HIH := Aside0.mk ih
  clear hx1 hc1 hx4 hy1 hd1 hy4 ih
  by_cases c0 : x0 = y0
  rotate_left
  · rw [if_neg c0] at h
    obtain rfl := Option.some.inj h
    have p0 : (x0 == y0) = false := beq_eq_false_iff_ne.mpr c0
    clear h c0
    go_enter Try.func47, Try.ntmps47
    go_wp2
    go_ret
    exact ⟨rfl, below_alloc (below_alloc (Below.refl _ _) _) _⟩
  rw [if_pos c0] at h
  subst c0
  have p0 : (x0 == x0) = true := beq_self_eq_true _
  by_cases c2 : x2 = y2
  rotate_left
  · rw [if_neg c2] at h
    obtain rfl := Option.some.inj h
    have p2 : (x2 == y2) = false := beq_eq_false_iff_ne.mpr c2
    clear h c2
    go_enter Try.func47, Try.ntmps47
    go_wp2
    go_ret
    exact ⟨rfl, below_alloc (below_alloc (Below.refl _ _) _) _⟩
  rw [if_pos c2] at h
  subst c2
  by_cases c3 : x3 = y3
  rotate_left
  · rw [if_neg c3] at h
    obtain rfl := Option.some.inj h
    have p3 : (x3 == y3) = false := beq_eq_false_iff_ne.mpr c3
    clear h c3
    go_enter Try.func47, Try.ntmps47
    go_wp2
    go_ret
    exact ⟨rfl, below_alloc (below_alloc (Below.refl _ _) _) _⟩
  rw [if_pos c3] at h
  subst c3
  obtain ⟨b, hb, h⟩ := Option.bind_eq_some_iff.mp h
  have HBB := Aside0.mk hb
  have HBL := Aside0.mk (show Below w.heap.size w ((w.alloc (.cells #[.int .i64 x0, .slice A1 x1.length c1, .int .i64 x2, .int .i64 x3, .slice A4 x4.length c4] 25)).alloc (.cells #[.int .i64 x0, .slice B1 y1.length d1, .int .i64 x2, .int .i64 x3, .slice B4 y4.length d4] 25)) from below_alloc (below_alloc (Below.refl _ _) _) _)
  have hct := slices_Equal_api_Range.calls k A1 c1 x1 B1 d1 y1 b _ (Kd.C_below HX.out.1 HBL.out) HX.out.2.1 (Kd.C_below HX.out.2.2.2.1 HBL.out) HX.out.2.2.2.2.1 hb
  have HCT := Aside0.mk hct
  clear hct hb
  cases b with
  | false =>
    rw [if_neg (by simp)] at h
    obtain rfl := Option.some.inj h
    clear h
    go_enter Try.func47, Try.ntmps47
    go_wp2_with (go_at_call 54; (with_reducible refine HCT.out.mono ?_); rintro e w' ⟨rfl, ⟨nd, rfl⟩⟩)
    go_ret
    exact ⟨rfl, pw_below_drewN HBL.out _⟩
  | true =>
    have h' : (if x4.length = y4.length then eqS (sameS k n) x4 y4 else some false) = some r := by
      first | rwa [if_pos rfl] at h | rwa [if_pos trivial] at h
    have heq := fun (W : World) (hb : Below w.heap.size w W) => eqfunc_node (sameS k n) A4 c4 x4 B4 d4 y4 W r (Kd.C_below HX.out.2.2.1 hb) (Kd.C_below HX.out.2.2.2.2.2 hb) (fun x y vx vy b W2 _ ha hb2 hs => HIH.out x y vx vy b W2 ha hb2 hs) h'
    have HEQ := Aside0.mk heq
    clear h h' heq
    have z := fun (nd : Nat) (a : Addr) (v : Value) (h : ((w.alloc (.cells #[.int .i64 x0, .slice A1 x1.length c1, .int .i64 x2, .int .i64 x3, .slice A4 x4.length c4] 25)).alloc (.cells #[.int .i64 x0, .slice B1 y1.length d1, .int .i64 x2, .int .i64 x3, .slice B4 y4.length d4] 25)).cell? a = some v) => cell_later (pw_below_drewN (Below.refl _ _) nd) h
    go_enter Try.func47, Try.ntmps47
    go_wp2_with (first
      | (go_at_call 54; (with_reducible refine HCT.out.mono ?_); rintro e w' ⟨rfl, ⟨nd, rfl⟩⟩)
      | (go_at_call 55; refine (HEQ.out _ (pw_below_drewN HBL.out nd)).mono ?_; rintro e w' ⟨rfl, hb⟩; have HB := Aside0.mk hb; clear hb))
    go_ret
    exact ⟨rfl, below_step (pw_below_drewN HBL.out _) HB.out⟩
theorem same_calls (k : Nat) : ∀ n, SameN k n
  | 0 => fun x y vx vy r w _ _ h => by simp [sameS] at h
  | n + 1 => fun x y vx vy r w hN hM h => by
    obtain ⟨A1, c1, A4, c4, rfl, l1, g1, l4, g4⟩ := hN
    obtain ⟨B1, d1, B4, d4, rfl, m1, h1, m4, h4⟩ := hM
    obtain ⟨x0, x1, x2, x3, x4⟩ := x
    obtain ⟨y0, y1, y2, y3, y4⟩ := y
    exact same_step k n (same_calls k n) x0 A1 c1 x1 x2 x3 A4 c4 x4 y0 B1 d1 y1 y2 y3 B4 d4 y4 w r g1 l1 g4 h1 m1 h4 h
end Go.Proofs.Ytaphbechnjmlgaa.P
namespace Go.Proofs.Ytaphbechnjmlgaa.P
open Go.RowKit Go.Proofs.YtaphbechnjmlgaaW.PrintWords Go.Proofs.YtaphbechnjmlgaaW.PrintLast Go.Proofs.YtaphbechnjmlgaaW.PrintMore
set_option linter.unusedVariables false
set_option linter.unusedSimpArgs false

set_option maxHeartbeats 4000000 in
theorem or1_calls (k n : Nat) (b : Nat) (x y : DNode) (v : Value) (cy : Array Value) (r : Bool) (W : World) (hb : W.heap[b]? = some (.cells cy 25 (0, 0))) (hM : NodeAt W y (.agg cy)) (hN : NodeAt W x v) (h : sameS k n x y = some r) :
    Calls Try.prog 46 #[v, .pointer (some ⟨b, 0, none⟩)] W fun e w' => e = .returned (.bool r) ∧ Below W.heap.size W w' := by
  have hct := fun W' (hb : Below W.heap.size W W') => same_calls k n x y v _ r W' (hN.below hb) (hM.below hb) h
  obtain ⟨A1, c1, A4, c4, rfl, _⟩ := hN
  obtain ⟨B1, d1, B4, d4, e, _⟩ := hM
  cases e
  have HCT := Aside0.mk hct
  have hb2 := blk_below hb (below_alloc (Below.refl W.heap.size W) (.cells #[.int .i64 x.f0, .slice A1 x.f1.length c1, .int .i64 x.f2, .int .i64 x.f3, .slice A4 x.f4.length c4] 25))
  have y0 := blk_cell hb2 0
  have y1 := blk_cell hb2 1
  have y2 := blk_cell hb2 2
  have y3 := blk_cell hb2 3
  have y4 := blk_cell hb2 4
  clear hct h hb hb2
  have hu := Try.underlying25
  go_enter Try.func46, Try.ntmps46
  go_wp2_with (go_at_call 47; refine (HCT.out _ (below_alloc (Below.refl _ _) _)).mono ?_; rintro e w' ⟨rfl, hb⟩; have HB := Aside0.mk hb; clear hb)
  go_ret
  exact ⟨rfl, below_step (below_alloc (Below.refl _ _) _) HB.out⟩
/-- A row that is gone through: it lies in S, what its elements lead to in P0. -/
def RowF (w : World) (P0 S : Nat → Prop) (A : Option Addr) (n : Nat) (ys : List DNode) : Prop :=
  Foot (fun W => ReadsRow (fun x c => Kd.FK k25 W P0 x c) k25.sz W A n ys) w (fun k => P0 k ∨ S k)
theorem RowF.of_F {w : World} {P0 S : Nat → Prop} {A : Option Addr} {n : Nat} {ys : List DNode} (h : Kd.F k25 w P0 A n ys) : RowF w P0 S A n ys :=
  fun W' hW => Kd.F_rows (Kd.F_step h fun k hk hl => hW k (.inl hk) hl)
theorem RowF.one {w : World} {P0 : Nat → Prop} {b : Nat} {x : DNode} {cs : List Value} (hb : w.heap[b]? = some (.cells cs.toArray 25 (0, 0))) (hl : cs.length = 5) (hF : Kd.FK k25 w P0 x cs) : RowF w P0 (fun k => k = b) (some ⟨b, 0, none⟩) 1 [x] := by
  intro W' hW
  have hb' : W'.heap[b]? = some (.cells cs.toArray 25 (0, 0)) := (hW b (.inr rfl) (blk_lt hb)).trans hb
  have hF' : Kd.FK k25 W' P0 x cs := Foot.step hF fun k hk hl => hW k (.inl hk) hl
  refine ⟨rfl, by decide, fun _ => ⟨_, rfl, fun j p hj => ⟨cs, hl, ?_, fun i u hu => ?_⟩⟩⟩
  · rcases j with _ | j
    · simp only [List.getElem?_cons_zero, Option.some.injEq] at hj
      rw [← hj]
      exact hF'
    · simp at hj
  · rcases j with _ | j
    · rw [add_plain, blk_cell hb']
      simpa using hu
    · simp at hj
theorem RowF.step {w w1 : World} {P0 S : Nat → Prop} {A : Option Addr} {n : Nat} {ys : List DNode} (h : RowF w P0 S A n ys) (hm : ∀ k, P0 k ∨ S k → k < w.heap.size → w1.heap[k]? = w.heap[k]?) : RowF w1 P0 S A n ys := Foot.step h hm
theorem RowF.below {w w1 : World} {P0 S : Nat → Prop} {A : Option Addr} {n : Nat} {ys : List DNode} (h : RowF w P0 S A n ys) (hb : Below w.heap.size w w1) : RowF w1 P0 S A n ys := h.step fun k _ hk => hb.block k hk
/-- An element of it. -/
theorem at_R {w : World} {P0 S : Nat → Prop} {A : Option Addr} {n : Nat} {ys : List DNode} (h : RowF w P0 S A n ys) (i : Nat) (h1 : i < n) :
    ∃ ad A1 c1 A4 c4, A = some ad ∧ w.cell? (ad.add (i * 5)) = some (.int .i64 (ys.getD i z25).f0) ∧ w.cell? ⟨(ad.add (i * 5)).block, (ad.add (i * 5)).off + 1, none⟩ = some (.slice A1 (ys.getD i z25).f1.length c1) ∧ w.cell? ⟨(ad.add (i * 5)).block, (ad.add (i * 5)).off + 2, none⟩ = some (.int .i64 (ys.getD i z25).f2) ∧ w.cell? ⟨(ad.add (i * 5)).block, (ad.add (i * 5)).off + 3, none⟩ = some (.int .i64 (ys.getD i z25).f3) ∧ w.cell? ⟨(ad.add (i * 5)).block, (ad.add (i * 5)).off + 4, none⟩ = some (.slice A4 (ys.getD i z25).f4.length c4) ∧
      (ys.getD i z25).f1.length ≤ c1 ∧ Kd.F k52 w P0 A1 (ys.getD i z25).f1.length (ys.getD i z25).f1 ∧ (ys.getD i z25).f4.length ≤ c4 ∧ Kd.F k25 w P0 A4 (ys.getD i z25).f4.length (ys.getD i z25).f4 := by
  obtain ⟨hl, hm, hn⟩ := Foot.now h
  obtain ⟨ad, e, hr⟩ := hn (by omega)
  have hi : i < ys.length := by omega
  obtain ⟨c, hcl, hF, hcc⟩ := hr i ys[i] (List.getElem?_eq_getElem hi)
  have hg : ys.getD i z25 = ys[i] := by rw [List.getD_eq_getElem?_getD, List.getElem?_eq_getElem hi, Option.getD_some]
  rw [hg]
  have hc : ∀ j u, c[j]? = some u → w.cell? (ad.add (i * 5 + j)) = some u := hcc
  obtain ⟨A1, c1, A4, c4, rfl, l1, g1, l4, g4⟩ := k25_openF hF
  exact ⟨ad, A1, c1, A4, c4, e, hc 0 _ rfl, by rw [← add_field _ _ 1 (by omega)]; exact hc 1 _ rfl, by rw [← add_field _ _ 2 (by omega)]; exact hc 2 _ rfl, by rw [← add_field _ _ 3 (by omega)]; exact hc 3 _ rfl, by rw [← add_field _ _ 4 (by omega)]; exact hc 4 _ rfl, l1, g1, l4, g4⟩
/-- The kids of an or, one more, if it is not one of them. -/
def addO (k n : Nat) (acc : List DNode) (y : DNode) : Option (List DNode) :=
  (anyS (fun x => sameS k n x y) acc).bind fun b => if b = true then some acc else if acc.length < 1099511627776 then some (acc ++ [y]) else none
def addsO (k n : Nat) : List DNode → List DNode → Option (List DNode)
  | acc, [] => some acc
  | acc, y :: l => (addO k n acc y).bind fun a => addsO k n a l
def okids (k n : Nat) : List DNode → List DNode → Option (List DNode)
  | [], acc => some acc
  | x :: l, acc => if x.f0 = 0 then okids k n l acc else (addsO k n acc (if x.f0 = 4 then x.f4 else [x])).bind fun a => okids k n l a
def orK : List DNode → DNode
  | [] => ⟨0, [], 0, 0, []⟩
  | [y] => y
  | ks => ⟨4, [], 0, 0, ks⟩
-- WALK
set_option maxHeartbeats 8000000 in
set_option maxRecDepth 100000 in
theorem or_calls (k n : Nat) (P : Nat → Prop) (A : Option Addr) (c : Nat) (l ks : List DNode) (w0 : World) (hl : Kd.F k25 w0 P A l.length l) (h : okids k n l [] = some ks) :
    Calls Try.prog 37 #[.slice A l.length c] w0 fun e w' => ∃ v, e = .returned v ∧ NodeF w' (fun k => P k ∨ w0.heap.size ≤ k) (orK ks) v ∧ Below w0.heap.size w0 w' := by
  have hu := Try.underlying25
  have HL := Aside0.mk (Kd.F_bound hl)
  have HH := Aside0.mk h
  have HN := Aside0.mk (Kd.F_max hl)
  clear hl h
  go_enter Try.func37, Try.ntmps37
  have HB0 := Aside0.mk (Below.refl w0.heap.size w0)
  go_wp2_with (((with_reducible refine gate_dst (N := 2) rfl ?_); refine box_event ?hg (N := 2) ?hd (cs := #[.int .i64 0, .slice none 0 0, .int .i64 0, .int .i64 0, .slice none 0 0]) (t := 25) ?hr ?_; (case hd => rfl); (case hg => rfl); (case hr => first | (go_simp; done) | (go_simp; rfl)); intro gr hg w1 hbox hb; have HB1 := Aside0.mk (below_step HB0.out hb); have HG := Aside0.mk (by rw [hg]; exact Nat.le_refl _ : w0.heap.size ≤ gr); have HGR := Aside0.mk hbox; clear hb hbox hg))
  clear HB0
  go_loopw [3, 11] (fun s3 s11 wx => ∃ (i : Nat) (acc : List DNode), s11 = .int .i64 (i : Int) ∧ i ≤ l.length ∧ Aside0 (okids k n (l.drop i) acc = some ks) ∧ Aside0 (Kd.N k25 25 wx w0.heap.size (fun k => (P k ∨ w0.heap.size ≤ k) ∧ k ≠ gr) s3 acc) ∧ Aside0 (wx.heap[gr]? = some (.cells #[.int .i64 0, .slice none 0 0, .int .i64 0, .int .i64 0, .slice none 0 0] 25 (0, 0))) ∧ Aside0 (Below w0.heap.size w0 wx)) (fun _ s11 _ => l.length - (intOf s11).toNat)
  case atStart => exact ⟨0, [], rfl, by omega, by simpa using HH, ⟨Kd.N_nil _ _ _ _ _⟩, HGR, HB1⟩
  case round =>
    clear HH HGR HB1
    obtain ⟨i, acc, rfl, hi, HH, HO, HGR, HB⟩ := hrel
    by_cases hlt : i < l.length
    · obtain ⟨ad, A1, c1, A4, c4, e, h0, h1, h2, h3, h4, q1, q2, q3, q4⟩ := at_F (Kd.F_below HL.out HB.out) i hlt
      cases e
      have hh := HH.out
      rw [sn_drop z25 l i hlt] at hh
      obtain ⟨x, hxx⟩ : ∃ x, l.getD i z25 = x := ⟨_, rfl⟩
      rw [hxx] at h0 h1 h2 h3 h4 q1 q2 q3 q4 hh
      obtain ⟨x0, x1, x2, x3, x4⟩ := x
      simp only [okids] at hh
      dsimp only at h0 h1 h2 h3 h4 q1 q2 q3 q4
      have HQ := Aside0.mk (And.intro q1 (And.intro q2 (And.intro q3 q4)))
      have g1 : decide ((i : Int) < (l.length : Int)) = true := decide_eq_true (by omega)
      have g2 : ((0 : Int) ≤ (i : Int)) = True := eq_true (by omega)
      have g3 : ((i : Int) < (l.length : Int)) = True := eq_true (by omega)
      have HWA := Aside0.mk (below_alloc (Below.refl wr.heap.size wr) (.cells #[.int .i64 x0, .slice A1 x1.length c1, .int .i64 x2, .int .i64 x3, .slice A4 x4.length c4] 25))
      have HLI := Aside0.mk hlt
      have hw := sn_wrap i (by have := HN.out; have := HLI.out; omega)
      have hm : l.length - (i + 1) < l.length - i := by have := HLI.out; omega
      clear hxx q1 q2 q3 q4 hlt HH
      go_upto_region 6 with (fail)
      generalize hW2 : ((wr.alloc (.cells #[.int .i64 x0, .slice A1 x1.length c1, .int .i64 x2, .int .i64 x3, .slice A4 x4.length c4] 25)).alloc (.cells #[.int .i64 x0, .slice A1 x1.length c1, .int .i64 x2, .int .i64 x3, .slice A4 x4.length c4] 25)) = W2
      have hb5 : W2.heap[wr.heap.size]? = some (.cells #[.int .i64 x0, .slice A1 x1.length c1, .int .i64 x2, .int .i64 x3, .slice A4 x4.length c4] 25 (0, 0)) := by rw [← hW2]; exact blk_alloc (heap_alloc_new wr _) _
      have hb6 : W2.heap[wr.heap.size + 1]? = some (.cells #[.int .i64 x0, .slice A1 x1.length c1, .int .i64 x2, .int .i64 x3, .slice A4 x4.length c4] 25 (0, 0)) := by
        have h9 := heap_alloc_new (wr.alloc (.cells #[.int .i64 x0, .slice A1 x1.length c1, .int .i64 x2, .int .i64 x3, .slice A4 x4.length c4] 25)) (.cells #[.int .i64 x0, .slice A1 x1.length c1, .int .i64 x2, .int .i64 x3, .slice A4 x4.length c4] 25)
        rw [hW2, show (wr.alloc (.cells #[.int .i64 x0, .slice A1 x1.length c1, .int .i64 x2, .int .i64 x3, .slice A4 x4.length c4] 25)).heap.size = wr.heap.size + 1 from by simp] at h9
        exact h9
      have hWB : Below wr.heap.size wr W2 := by rw [← hW2]; exact below_alloc (below_alloc (Below.refl _ _) _) _
      clear hW2 HWA
      obtain ⟨b5, e5⟩ : ∃ b5, wr.heap.size = b5 := ⟨_, rfl⟩
      obtain ⟨b6, e6⟩ : ∃ b6, wr.heap.size + 1 = b6 := ⟨_, rfl⟩
      have HSZ := Aside0.mk (And.intro e5 e6)
      rw [e6] at hb6 ⊢
      rw [e5] at hb5 ⊢
      have HX5 := Aside0.mk hb5
      have HX6 := Aside0.mk hb6
      have HWB := Aside0.mk hWB
      have v0 := blk_cell hb5 0
      have v1 := blk_cell hb5 1
      have v2 := blk_cell hb5 2
      have v3 := blk_cell hb5 3
      have v4 := blk_cell hb5 4
      clear hb5 hb6 hWB h0 h1 h2 h3 h4 e5 e6
      have HBB6 := Aside0.mk (show w0.heap.size ≤ b6 by have := HB.out.size; have := HSZ.out.2; omega)
      have HG2 := Aside0.mk (blk_below HGR.out HWB.out)
      have HB2 := Aside0.mk (below_step HB.out HWB.out)
      have HO2 := Aside0.mk (Kd.N_below HO.out HWB.out)
      by_cases c0 : x0 = 0
      · rw [if_pos c0] at hh
        have HH := Aside0.mk hh
        subst c0
        clear hh
        go_wp2
        refine ⟨⟨i + 1, acc, by rw [hw], HLI.out, HH, HO2, HG2, HB2⟩, ?_⟩
        rw [hw]
        show l.length - (((i + 1 : Nat) : Int)).toNat < l.length - ((i : Int)).toNat
        simp only [Int.toNat_natCast]
        exact hm
      rw [if_neg c0] at hh
      have k0 : (x0 == 0) = false := beq_eq_false_iff_ne.mpr c0
      by_cases c4' : x0 = 4
      · skip
        rw [if_pos c4'] at hh
        have k4 : (x0 == 4) = true := beq_iff_eq.mpr c4'
        obtain ⟨accE, hadd, hrest⟩ := Option.bind_eq_some_iff.mp hh
        have HADD := Aside0.mk hadd
        have HREST := Aside0.mk hrest
        obtain ⟨ys, hys⟩ : ∃ ys : List DNode, x4 = ys := ⟨_, rfl⟩
        have hrow : RowF W2 (fun k => P k ∧ k < w0.heap.size) (fun _ => False) A4 ys.length ys := by rw [← hys]; exact RowF.of_F (Kd.F_below HQ.out.2.2.2 HWB.out)
        have v4' : W2.cell? ⟨b5, 4, none⟩ = some (.slice A4 ys.length c4) := by rw [← hys]; exact v4
        rw [hys] at HADD v4 hh
        have HROW := Aside0.mk hrow
        have HOI := Aside0.mk (Kd.N_mono (ok' := (fun k => ((P k ∨ w0.heap.size ≤ k) ∧ k ≠ gr) ∧ ¬ ((fun _ => False) k))) (Kd.N_below (Kd.N_bound HO.out) HWB.out) (fun k hk => ⟨hk.1, fun hs => by exact hs⟩))
        clear hh hadd hrest hrow c4' c0
        go_wp2
        go_loopw [3, 27] (fun s3 s27 wy => ∃ (j : Nat) (ac : List DNode), s27 = .int .i64 (j : Int) ∧ j ≤ ys.length ∧ Aside0 (addsO k n ac (ys.drop j) = some accE) ∧ Aside0 (Kd.N k25 25 wy w0.heap.size (fun k => ((P k ∨ w0.heap.size ≤ k) ∧ k ≠ gr) ∧ ¬ ((fun _ => False) k)) s3 ac) ∧ Aside0 (RowF wy (fun k => P k ∧ k < w0.heap.size) (fun _ => False) A4 ys.length ys) ∧ Aside0 (wy.heap[gr]? = some (.cells #[.int .i64 0, .slice none 0 0, .int .i64 0, .int .i64 0, .slice none 0 0] 25 (0, 0))) ∧ Aside0 (Below w0.heap.size w0 wy)) (fun _ s27 _ => ys.length - (intOf s27).toNat)
        case atStart => exact ⟨0, acc, rfl, by omega, by simpa using HADD, HOI, HROW, HG2, HB2⟩
        case round =>
          obtain ⟨j, ac, rfl, hj, HAD, HOK, HRW, HGW, HBW⟩ := hrel
          by_cases hjl : j < ys.length
          · obtain ⟨ae, E1, e1, E4, e4, ee, m0, m1, m2, m3, m4, r1, r2, r3, r4⟩ := at_R HRW.out j (by omega)
            cases ee
            have had := HAD.out
            rw [sn_drop z25 ys j hjl] at had
            obtain ⟨y, hy⟩ : ∃ y, ys.getD j z25 = y := ⟨_, rfl⟩
            rw [hy] at m0 m1 m2 m3 m4 r1 r2 r3 r4 had
            obtain ⟨y0, y1, y2, y3, y4⟩ := y
            dsimp only at m0 m1 m2 m3 m4 r1 r2 r3 r4
            simp only [addsO] at had
            obtain ⟨a2, hadd, hrest⟩ := Option.bind_eq_some_iff.mp had
            unfold addO at hadd
            obtain ⟨bb, hany, hadd⟩ := Option.bind_eq_some_iff.mp hadd
            obtain ⟨A3, c3, e3⟩ := Kd.N_slice HOK.out
            subst e3
            have hct := contains_node 46 #[.pointer (some ⟨wr.heap.size, 0, none⟩)] (fun x => sameS k n x ⟨y0, y1, y2, y3, y4⟩) A3 c3 ac (wr.alloc (.cells #[.int .i64 y0, .slice E1 y1.length e1, .int .i64 y2, .int .i64 y3, .slice E4 y4.length e4] 25)) bb (Kd.C_alloc (Kd.N_reads' HOK.out).2.2 _) (fun x v b' W9 hb2 hN ht => or1_calls k n wr.heap.size x ⟨y0, y1, y2, y3, y4⟩ v #[.int .i64 y0, .slice E1 y1.length e1, .int .i64 y2, .int .i64 y3, .slice E4 y4.length e4] b' W9 (blk_below (heap_alloc_new wr _) hb2) (NodeAt.below ⟨E1, e1, E4, e4, rfl, r1, Kd.C_alloc (Kd.F_now r2) _, r3, Kd.C_alloc (Kd.F_now r4) _⟩ hb2) hN ht) (fun v W => enters_ Try.func46 (by kernel_rfl) rfl _ W) hany
            have HCT := Aside0.mk hct
            have HRR := Aside0.mk (And.intro r1 (And.intro r2 (And.intro r3 r4)))
            have HJL := Aside0.mk hjl
            have HRS := Aside0.mk hrest
            have HWY := Aside0.mk (below_alloc (Below.refl wr.heap.size wr) (.cells #[.int .i64 y0, .slice E1 y1.length e1, .int .i64 y2, .int .i64 y3, .slice E4 y4.length e4] 25))
            have HYB := Aside0.mk (heap_alloc_new wr (.cells #[.int .i64 y0, .slice E1 y1.length e1, .int .i64 y2, .int .i64 y3, .slice E4 y4.length e4] 25))
            have p1 : decide ((j : Int) < (ys.length : Int)) = true := decide_eq_true (by omega)
            have p2 : ((0 : Int) ≤ (j : Int)) = True := eq_true (by omega)
            have p3 : ((j : Int) < (ys.length : Int)) = True := eq_true (by omega)
            clear hct hany had hy r1 r2 r3 r4 hrest hj hjl
            cases bb with
            | true =>
              have h9 : a2 = ac := by first | (rw [if_pos rfl] at hadd; exact (Option.some.inj hadd).symm) | (rw [if_pos trivial] at hadd; exact (Option.some.inj hadd).symm)
              subst h9
              clear hadd
              go_wp2_with (go_at_call 23; (with_reducible refine HCT.out.mono ?_); rintro e_ w6 ⟨rfl, hb⟩; have HW6 := Aside0.mk (below_step HWY.out hb); have HY6 := Aside0.mk (blk_below HYB.out hb); have z0 := blk_cell HY6.out 0; have z1 := blk_cell HY6.out 1; have z2 := blk_cell HY6.out 2; have z3 := blk_cell HY6.out 3; have z4 := blk_cell HY6.out 4; clear hb)
              have hw2 := sn_wrap j (by have := (Foot.now HRW.out).2.1; have := HJL.out; omega)
              refine ⟨⟨j + 1, _, by first | (rw [hw2]; done) | rfl | (simp; done), HJL.out, HRS, ⟨Kd.N_below HOK.out HW6.out⟩, ⟨HRW.out.below HW6.out⟩, ⟨blk_below HGW.out HW6.out⟩, ⟨below_step HBW.out HW6.out⟩⟩, ?_⟩
              first | (rw [hw2]) | skip
              show ys.length - _ < ys.length - _
              have := HJL.out
              simp only [intOf, Int.toNat_natCast]
              omega
            | false =>
              rw [if_neg (by simp)] at hadd
              by_cases ca : ac.length < 1099511627776
              rotate_left
              · rw [if_neg ca] at hadd
                cases hadd
              rw [if_pos ca] at hadd
              obtain rfl := Option.some.inj hadd
              have HAC := Aside0.mk ca
              clear hadd ca
              go_wp2_with (first
          | (go_at_call 23; (with_reducible refine HCT.out.mono ?_); rintro e_ w6 ⟨rfl, hb⟩; have HW6 := Aside0.mk (below_step HWY.out hb); have HY6 := Aside0.mk (blk_below HYB.out hb); have z0 := blk_cell HY6.out 0; have z1 := blk_cell HY6.out 1; have z2 := blk_cell HY6.out 2; have z3 := blk_cell HY6.out 3; have z4 := blk_cell HY6.out 4; clear hb)
          | ((with_reducible refine gate_builtin (b := .append) (xs := #[.tmp 35, .tmp 37]) rfl ?_); at_builtin; refine Kd.N_append k25 (w0 := w0) w0.heap.size rfl (.tmp 35) (.tmp 37) 23 25 (.agg #[.int .i64 0, .slice none 0 0, .int .i64 0, .int .i64 0, .slice none 0 0]) 72 rfl Try.underlying23 ninfo rfl (by decide) (by decide) _ ac ⟨y0, y1, y2, y3, y4⟩ [.int .i64 y0, .slice E1 y1.length e1, .int .i64 y2, .int .i64 y3, .slice E4 y4.length e4] (fun k => ((P k ∨ w0.heap.size ≤ k) ∧ k ≠ gr) ∧ ¬ ((fun _ => False) k)) (fun k => P k ∧ k < w0.heap.size) rfl rfl (k25_mkF _ _ ⟨y0, y1, y2, y3, y4⟩ HRR.out.1 (Kd.F_below HRR.out.2.1 HW6.out) HRR.out.2.2.1 (Kd.F_below HRR.out.2.2.2 HW6.out)) ?sK ?sF (Kd.N_below HOK.out HW6.out) ?sB ?sS ?sL ?_; (case sK => (intro k hk; exact ⟨⟨⟨.inl hk.1, by have := HG.out; have := hk.2; omega⟩, fun hs => by exact hs⟩, fun he => by have := Kd.N_base HOK.out k he.symm; have := hk.2; omega⟩)); (case sF => (intro k hk; exact ⟨⟨.inr (Nat.le_trans (below_step HBW.out HW6.out).size hk), by have := blk_lt HGW.out; have := HW6.out.size; omega⟩, fun hs => by exact hs⟩)); (case sB => exact below_step HBW.out HW6.out); (case sS => exact (below_step HBW.out HW6.out).size); (case sL => (have := HAC.out; omega)); intro v1 w7 hn hb hg hat; have HO7 := Aside0.mk hn; have HB7 := Aside0.mk hb; have HG7 := Aside0.mk (blk_grown (blk_below HGW.out HW6.out) hg (Kd.N_away HOK.out (fun k hk => hk.1.2))); have HR7 := Aside0.mk ((HRW.out.below HW6.out).step (fun k hk hl => hg.block k hl (fun he => hk.elim (fun hp => by have := Kd.N_base HOK.out k he.symm; have := hp.2; omega) (fun hs => (HOK.out.1 k he.symm).2 hs)))); clear hn hb hg hat))
              have hw2 := sn_wrap j (by have := (Foot.now HRW.out).2.1; have := HJL.out; omega)
              refine ⟨⟨j + 1, _, by first | (rw [hw2]; done) | rfl | (simp; done), HJL.out, HRS, HO7, HR7, HG7, HB7⟩, ?_⟩
              first | (rw [hw2]) | skip
              show ys.length - _ < ys.length - _
              have := HJL.out
              simp only [intOf, Int.toNat_natCast]
              omega
          · have hn : j = ys.length := by omega
            subst hn
            have p1 : decide ((ys.length : Int) < (ys.length : Int)) = false := decide_eq_false (by omega)
            have had := HAD.out
            rw [List.drop_length] at had
            simp only [addsO] at had
            obtain rfl := Option.some.inj had
            clear had hj hjl
            go_wp2
            refine ⟨⟨i + 1, ac, by rw [hw], HLI.out, HREST, ⟨Kd.N_mono HOK.out (fun k hk => hk.1)⟩, HGW, HBW⟩, ?_⟩
            rw [hw]
            show l.length - (((i + 1 : Nat) : Int)).toNat < l.length - ((i : Int)).toNat
            simp only [Int.toNat_natCast]
            exact hm
      rw [if_neg c4'] at hh
      have k4 : (x0 == 4) = false := beq_eq_false_iff_ne.mpr c4'
      obtain ⟨accE, hadd, hrest⟩ := Option.bind_eq_some_iff.mp hh
      have HADD := Aside0.mk hadd
      have HREST := Aside0.mk hrest
      obtain ⟨ys, hys⟩ : ∃ ys : List DNode, [⟨x0, x1, x2, x3, x4⟩] = ys := ⟨_, rfl⟩
      have hrow : RowF W2 (fun k => P k ∧ k < w0.heap.size) (fun k => k = b6) (some ⟨b6, 0, none⟩) 1 ys := by rw [← hys]; exact RowF.one (cs := [.int .i64 x0, .slice A1 x1.length c1, .int .i64 x2, .int .i64 x3, .slice A4 x4.length c4]) HX6.out rfl (k25_mkF _ _ ⟨x0, x1, x2, x3, x4⟩ HQ.out.1 (Kd.F_below HQ.out.2.1 HWB.out) HQ.out.2.2.1 (Kd.F_below HQ.out.2.2.2 HWB.out))
      have hyl : ys.length = 1 := by rw [← hys]; rfl
      rw [hys] at HADD
      have HROW := Aside0.mk hrow
      have HOI := Aside0.mk (Kd.N_mono (ok' := (fun k => ((P k ∨ w0.heap.size ≤ k) ∧ k ≠ gr) ∧ ¬ ((fun k => k = b6) k))) (Kd.N_below (Kd.N_bound HO.out) HWB.out) (fun k hk => ⟨hk.1, fun hs => by have := HSZ.out.2; have := hk.2; have hs' : k = b6 := hs; omega⟩))
      clear hh hadd hrest hrow c4' c0
      go_wp2
      go_loopw [3, 27] (fun s3 s27 wy => ∃ (j : Nat) (ac : List DNode), s27 = .int .i64 (j : Int) ∧ j ≤ ys.length ∧ Aside0 (addsO k n ac (ys.drop j) = some accE) ∧ Aside0 (Kd.N k25 25 wy w0.heap.size (fun k => ((P k ∨ w0.heap.size ≤ k) ∧ k ≠ gr) ∧ ¬ ((fun k => k = b6) k)) s3 ac) ∧ Aside0 (RowF wy (fun k => P k ∧ k < w0.heap.size) (fun k => k = b6) (some ⟨b6, 0, none⟩) 1 ys) ∧ Aside0 (wy.heap[gr]? = some (.cells #[.int .i64 0, .slice none 0 0, .int .i64 0, .int .i64 0, .slice none 0 0] 25 (0, 0))) ∧ Aside0 (Below w0.heap.size w0 wy)) (fun _ s27 _ => ys.length - (intOf s27).toNat)
      case atStart => exact ⟨0, acc, rfl, by omega, by simpa using HADD, HOI, HROW, HG2, HB2⟩
      case round =>
        obtain ⟨j, ac, rfl, hj, HAD, HOK, HRW, HGW, HBW⟩ := hrel
        by_cases hjl : j < ys.length
        · obtain ⟨ae, E1, e1, E4, e4, ee, m0, m1, m2, m3, m4, r1, r2, r3, r4⟩ := at_R HRW.out j (by omega)
          obtain rfl : j = 0 := by omega
          cases ee
          have ea : (⟨b6, 0, none⟩ : Addr).add (0 * 5) = ⟨b6, 0, none⟩ := rfl
          rw [ea] at m0 m1 m2 m3 m4
          have had := HAD.out
          rw [sn_drop z25 ys 0 hjl] at had
          obtain ⟨y, hy⟩ : ∃ y, ys.getD 0 z25 = y := ⟨_, rfl⟩
          rw [hy] at m0 m1 m2 m3 m4 r1 r2 r3 r4 had
          obtain ⟨y0, y1, y2, y3, y4⟩ := y
          dsimp only at m0 m1 m2 m3 m4 r1 r2 r3 r4
          simp only [addsO] at had
          obtain ⟨a2, hadd, hrest⟩ := Option.bind_eq_some_iff.mp had
          unfold addO at hadd
          obtain ⟨bb, hany, hadd⟩ := Option.bind_eq_some_iff.mp hadd
          obtain ⟨A3, c3, e3⟩ := Kd.N_slice HOK.out
          subst e3
          have hct := contains_node 46 #[.pointer (some ⟨wr.heap.size, 0, none⟩)] (fun x => sameS k n x ⟨y0, y1, y2, y3, y4⟩) A3 c3 ac (wr.alloc (.cells #[.int .i64 y0, .slice E1 y1.length e1, .int .i64 y2, .int .i64 y3, .slice E4 y4.length e4] 25)) bb (Kd.C_alloc (Kd.N_reads' HOK.out).2.2 _) (fun x v b' W9 hb2 hN ht => or1_calls k n wr.heap.size x ⟨y0, y1, y2, y3, y4⟩ v #[.int .i64 y0, .slice E1 y1.length e1, .int .i64 y2, .int .i64 y3, .slice E4 y4.length e4] b' W9 (blk_below (heap_alloc_new wr _) hb2) (NodeAt.below ⟨E1, e1, E4, e4, rfl, r1, Kd.C_alloc (Kd.F_now r2) _, r3, Kd.C_alloc (Kd.F_now r4) _⟩ hb2) hN ht) (fun v W => enters_ Try.func46 (by kernel_rfl) rfl _ W) hany
          have HCT := Aside0.mk hct
          have HRR := Aside0.mk (And.intro r1 (And.intro r2 (And.intro r3 r4)))
          have HJL := Aside0.mk hjl
          have HRS := Aside0.mk hrest
          have HWY := Aside0.mk (below_alloc (Below.refl wr.heap.size wr) (.cells #[.int .i64 y0, .slice E1 y1.length e1, .int .i64 y2, .int .i64 y3, .slice E4 y4.length e4] 25))
          have HYB := Aside0.mk (heap_alloc_new wr (.cells #[.int .i64 y0, .slice E1 y1.length e1, .int .i64 y2, .int .i64 y3, .slice E4 y4.length e4] 25))
          have p1 : decide ((0 : Int) < (1 : Int)) = true := decide_eq_true (by omega)
          have p2 : ((0 : Int) ≤ (0 : Int)) = True := eq_true (by omega)
          have p3 : ((0 : Int) < (1 : Int)) = True := eq_true (by omega)
          have HLB := Aside0.mk (World.block_lt_of_cell? _ _ m0)
          clear hct hany had hy r1 r2 r3 r4 hrest hj hjl
          cases bb with
          | true =>
            have h9 : a2 = ac := by first | (rw [if_pos rfl] at hadd; exact (Option.some.inj hadd).symm) | (rw [if_pos trivial] at hadd; exact (Option.some.inj hadd).symm)
            subst h9
            clear hadd
            go_wp2_with (go_at_call 23; (with_reducible refine HCT.out.mono ?_); rintro e_ w6 ⟨rfl, hb⟩; have HW6 := Aside0.mk (below_step HWY.out hb); have HY6 := Aside0.mk (blk_below HYB.out hb); have z0 := blk_cell HY6.out 0; have z1 := blk_cell HY6.out 1; have z2 := blk_cell HY6.out 2; have z3 := blk_cell HY6.out 3; have z4 := blk_cell HY6.out 4; clear hb)
            have hw2 := sn_wrap 0 (by omega)
            refine ⟨⟨0 + 1, _, by first | (rw [hw2]; done) | rfl | (simp; done), HJL.out, HRS, ⟨Kd.N_below HOK.out HW6.out⟩, ⟨HRW.out.below HW6.out⟩, ⟨blk_below HGW.out HW6.out⟩, ⟨below_step HBW.out HW6.out⟩⟩, ?_⟩
            first | (rw [hw2]) | skip
            show ys.length - _ < ys.length - _
            have := HJL.out
            simp only [intOf, Int.toNat_natCast]
            omega
          | false =>
            rw [if_neg (by simp)] at hadd
            by_cases ca : ac.length < 1099511627776
            rotate_left
            · rw [if_neg ca] at hadd
              cases hadd
            rw [if_pos ca] at hadd
            obtain rfl := Option.some.inj hadd
            have HAC := Aside0.mk ca
            clear hadd ca
            go_wp2_with (first
          | (go_at_call 23; (with_reducible refine HCT.out.mono ?_); rintro e_ w6 ⟨rfl, hb⟩; have HW6 := Aside0.mk (below_step HWY.out hb); have HY6 := Aside0.mk (blk_below HYB.out hb); have z0 := blk_cell HY6.out 0; have z1 := blk_cell HY6.out 1; have z2 := blk_cell HY6.out 2; have z3 := blk_cell HY6.out 3; have z4 := blk_cell HY6.out 4; clear hb)
          | ((with_reducible refine gate_builtin (b := .append) (xs := #[.tmp 35, .tmp 37]) rfl ?_); at_builtin; refine Kd.N_append k25 (w0 := w0) w0.heap.size rfl (.tmp 35) (.tmp 37) 23 25 (.agg #[.int .i64 0, .slice none 0 0, .int .i64 0, .int .i64 0, .slice none 0 0]) 72 rfl Try.underlying23 ninfo rfl (by decide) (by decide) _ ac ⟨y0, y1, y2, y3, y4⟩ [.int .i64 y0, .slice E1 y1.length e1, .int .i64 y2, .int .i64 y3, .slice E4 y4.length e4] (fun k => ((P k ∨ w0.heap.size ≤ k) ∧ k ≠ gr) ∧ ¬ ((fun k => k = b6) k)) (fun k => P k ∧ k < w0.heap.size) rfl rfl (k25_mkF _ _ ⟨y0, y1, y2, y3, y4⟩ HRR.out.1 (Kd.F_below HRR.out.2.1 HW6.out) HRR.out.2.2.1 (Kd.F_below HRR.out.2.2.2 HW6.out)) ?sK ?sF (Kd.N_below HOK.out HW6.out) ?sB ?sS ?sL ?_; (case sK => (intro k hk; exact ⟨⟨⟨.inl hk.1, by have := HG.out; have := hk.2; omega⟩, fun hs => by have hs' : k = b6 := hs; have := HBB6.out; have := hk.2; omega⟩, fun he => by have := Kd.N_base HOK.out k he.symm; have := hk.2; omega⟩)); (case sF => (intro k hk; exact ⟨⟨.inr (Nat.le_trans (below_step HBW.out HW6.out).size hk), by have := blk_lt HGW.out; have := HW6.out.size; omega⟩, fun hs => by have hs' : k = b6 := hs; have := HLB.out; have := HW6.out.size; omega⟩)); (case sB => exact below_step HBW.out HW6.out); (case sS => exact (below_step HBW.out HW6.out).size); (case sL => (have := HAC.out; omega)); intro v1 w7 hn hb hg hat; have HO7 := Aside0.mk hn; have HB7 := Aside0.mk hb; have HG7 := Aside0.mk (blk_grown (blk_below HGW.out HW6.out) hg (Kd.N_away HOK.out (fun k hk => hk.1.2))); have HR7 := Aside0.mk ((HRW.out.below HW6.out).step (fun k hk hl => hg.block k hl (fun he => hk.elim (fun hp => by have := Kd.N_base HOK.out k he.symm; have := hp.2; omega) (fun hs => (HOK.out.1 k he.symm).2 hs)))); clear hn hb hg hat))
            have hw2 := sn_wrap 0 (by omega)
            refine ⟨⟨0 + 1, _, by first | (rw [hw2]; done) | rfl | (simp; done), HJL.out, HRS, HO7, HR7, HG7, HB7⟩, ?_⟩
            first | (rw [hw2]) | skip
            show ys.length - _ < ys.length - _
            have := HJL.out
            simp only [intOf, Int.toNat_natCast]
            omega
        · obtain rfl : j = 1 := by omega
          have had := HAD.out
          rw [List.drop_eq_nil_of_le (by omega)] at had
          simp only [addsO] at had
          obtain rfl := Option.some.inj had
          clear had hj hjl
          go_wp2
          refine ⟨⟨i + 1, ac, by rw [hw], HLI.out, HREST, ⟨Kd.N_mono HOK.out (fun k hk => hk.1)⟩, HGW, HBW⟩, ?_⟩
          rw [hw]
          show l.length - (((i + 1 : Nat) : Int)).toNat < l.length - ((i : Int)).toNat
          simp only [Int.toNat_natCast]
          exact hm
    · have hn : i = l.length := by omega
      subst hn
      have g1 : decide ((l.length : Int) < (l.length : Int)) = false := decide_eq_false (by omega)
      have hh := HH.out
      rw [List.drop_length] at hh
      simp only [okids] at hh
      obtain rfl := Option.some.inj hh
      obtain ⟨A3, c3, e3⟩ := Kd.N_slice HO.out
      subst e3
      clear hh HH hi
      cases acc with
      | nil =>
        go_wp2_with (go_at_call 27; (with_reducible refine (deriv_none.calls 0 [] 0 0 [] _ rfl).mono ?_); rintro e_ w5 ⟨v1, v4, rfl, hv1, hv4, hb⟩; obtain ⟨D1, d1, rfl⟩ := Kd.R_slice hv1; obtain ⟨D4, d4, rfl⟩ := Kd.R_slice hv4; have HB5 := Aside0.mk (below_step HB.out hb); have HGG := Aside0.mk (blk_below HGR.out hb); have t0 := blk_cell HGG.out 0; have t1 := blk_cell HGG.out 1; have t2 := blk_cell HGG.out 2; have t3 := blk_cell HGG.out 3; have t4 := blk_cell HGG.out 4; have f0 := blk_frozen HGG.out 0; have f1 := blk_frozen HGG.out 1; have f2 := blk_frozen HGG.out 2; have f3 := blk_frozen HGG.out 3; have f4 := blk_frozen HGG.out 4; clear hv1 hv4 hb)
        refine bodyPost_ret (results_cell_row rfl _ _ gr 25 #[.int .i64 0, .slice D1 0 d1, .int .i64 0, .int .i64 0, .slice D4 0 d4] (0, 0) _ rfl (blk_put (blk_put (blk_put (blk_put (blk_put HGG.out 0 _ rfl) 1 _ rfl) 2 _ rfl) 3 _ rfl) 4 _ rfl) Try.underlying25 rfl (by kernel_rfl)) rfl ?_
        exact ⟨_, rfl, ⟨D1, d1, D4, d4, rfl, Nat.zero_le _, F_zero _, Nat.zero_le _, F_zero _⟩, below_set (below_set (below_set (below_set (below_set HB5.out HG.out) HG.out) HG.out) HG.out) HG.out⟩
      | cons y rest =>
        cases rest with
        | nil =>
          obtain ⟨ad, E1, e1, E4, e4, ee, h0, h1, h2, h3, h4, q1, q2, q3, q4⟩ := at_F (Kd.N_F HO.out) 0 (by simp)
          cases ee
          have ea : ad.add (0 * 5) = ad := by
            show ad.add 0 = ad
            cases ad
            simp [Addr.add]
          rw [ea] at h0 h1 h2 h3 h4
          have hy : ([y] : List DNode).getD 0 z25 = y := rfl
          rw [hy] at h0 h1 h2 h3 h4 q1 q2 q3 q4
          have HNF := Aside0.mk (show NodeF wr (fun k => (P k ∨ w0.heap.size ≤ k) ∧ k ≠ gr) y _ from ⟨E1, e1, E4, e4, rfl, q1, q2, q3, q4⟩)
          have HGG := HGR
          have u1 : ((0 : Int) < (1 : Int)) = True := eq_true (by omega)
          have t0 := blk_cell HGG.out 0
          have t1 := blk_cell HGG.out 1
          have t2 := blk_cell HGG.out 2
          have t3 := blk_cell HGG.out 3
          have t4 := blk_cell HGG.out 4
          have f0 := blk_frozen HGG.out 0
          have f1 := blk_frozen HGG.out 1
          have f2 := blk_frozen HGG.out 2
          have f3 := blk_frozen HGG.out 3
          have f4 := blk_frozen HGG.out 4
          clear q1 q2 q3 q4 hy
          go_wp2
          refine bodyPost_ret (results_cell_row rfl _ _ gr 25 #[.int .i64 y.f0, .slice E1 y.f1.length e1, .int .i64 y.f2, .int .i64 y.f3, .slice E4 y.f4.length e4] (0, 0) _ rfl (blk_put (blk_put (blk_put (blk_put (blk_put HGG.out 0 _ rfl) 1 _ rfl) 2 _ rfl) 3 _ rfl) 4 _ rfl) Try.underlying25 rfl (by kernel_rfl)) rfl ?_
          exact ⟨_, rfl, (((((HNF.out.far (fun k hk => hk.2) _).far (fun k hk => hk.2) _).far (fun k hk => hk.2) _).far (fun k hk => hk.2) _).far (fun k hk => hk.2) _).mono (fun k hk => hk.1), below_set (below_set (below_set (below_set (below_set HB.out HG.out) HG.out) HG.out) HG.out) HG.out⟩
        | cons z rest =>
          have HGG := HGR
          have HNF := Aside0.mk (show NodeF wr (fun k => (P k ∨ w0.heap.size ≤ k) ∧ k ≠ gr) ⟨4, [], 0, 0, y :: z :: rest⟩ (.agg #[.int .i64 4, .slice none 0 0, .int .i64 0, .int .i64 0, .slice A3 (y :: z :: rest).length c3]) from ⟨none, 0, A3, c3, rfl, Nat.le_refl _, F_zero _, (Kd.N_reads' HO.out).2.1, Kd.N_F HO.out⟩)
          have t0 := blk_cell HGG.out 0
          have t1 := blk_cell HGG.out 1
          have t2 := blk_cell HGG.out 2
          have t3 := blk_cell HGG.out 3
          have t4 := blk_cell HGG.out 4
          have f0 := blk_frozen HGG.out 0
          have f1 := blk_frozen HGG.out 1
          have f2 := blk_frozen HGG.out 2
          have f3 := blk_frozen HGG.out 3
          have f4 := blk_frozen HGG.out 4
          have p0 : (((y :: z :: rest).length : Int) == 0) = false := beq_eq_false_iff_ne.mpr (by simp only [List.length_cons]; omega)
          have p1 : (((y :: z :: rest).length : Int) == 1) = false := beq_eq_false_iff_ne.mpr (by simp only [List.length_cons]; omega)
          obtain ⟨n9, hn9⟩ : ∃ n9, (y :: z :: rest).length = n9 := ⟨_, rfl⟩
          obtain ⟨ll, hll⟩ : ∃ ll, y :: z :: rest = ll := ⟨_, rfl⟩
          rw [hll] at p0 p1 HNF ⊢
          go_wp2
          refine bodyPost_ret (results_cell_row rfl _ _ gr 25 #[.int .i64 4, .slice none 0 0, .int .i64 0, .int .i64 0, .slice A3 ll.length c3] (0, 0) _ rfl (blk_put (blk_put (blk_put (blk_put (blk_put HGG.out 0 _ rfl) 1 _ rfl) 2 _ rfl) 3 _ rfl) 4 _ rfl) Try.underlying25 rfl (by kernel_rfl)) rfl ?_
          subst hll
          exact ⟨_, rfl, (((((HNF.out.far (fun k hk => hk.2) _).far (fun k hk => hk.2) _).far (fun k hk => hk.2) _).far (fun k hk => hk.2) _).far (fun k hk => hk.2) _).mono (fun k hk => hk.1), below_set (below_set (below_set (below_set (below_set HB.out HG.out) HG.out) HG.out) HG.out) HG.out⟩
end Go.Proofs.Ytaphbechnjmlgaa.P
namespace Go.Proofs.Ytaphbechnjmlgaa.P
open Go.RowKit Go.Proofs.YtaphbechnjmlgaaW.PrintWords Go.Proofs.YtaphbechnjmlgaaW.PrintLast
set_option linter.unusedVariables false
set_option linter.unusedSimpArgs false

def inRg (c : Int) (r : S52) : Bool := decide (r.f0 ≤ c) && decide (c ≤ r.f1)
def hasM (l : List S52) (c : Int) : Bool := l.any (inRg c)
set_option maxHeartbeats 4000000 in
theorem inRg_calls (x : Int) (c : Nat) (f0 f1 : Int) (w : World) (hc : w.cell? ⟨c, 0, none⟩ = some (.int .i64 x)) :
    Calls Try.prog 44 #[.agg #[.int .i64 f0, .int .i64 f1], .pointer (some ⟨c, 0, none⟩)] w fun e w' => e = .returned (.bool (inRg x ⟨f0, f1⟩)) ∧ Below w.heap.size w w' := by
  have hu := Try.underlying52
  have hc2 := fun o => cell_later (below_alloc (Below.refl w.heap.size w) o) hc
  have hc3 := hc2 (.cells #[.int .i64 f0, .int .i64 f1] 52)
  clear hc2
  by_cases h0 : f0 ≤ x
  · have k0 : decide (f0 ≤ x) = true := decide_eq_true h0
    have hi : inRg x ⟨f0, f1⟩ = decide (x ≤ f1) := by simp [inRg, h0]
    rw [hi]
    clear hi h0
    go_enter Try.func44, Try.ntmps44
    go_wp2
    go_ret
    exact ⟨rfl, below_alloc (Below.refl _ _) _⟩
  · have k0 : decide (f0 ≤ x) = false := decide_eq_false h0
    have hi : inRg x ⟨f0, f1⟩ = false := by simp [inRg, h0]
    rw [hi]
    clear hi h0
    go_enter Try.func44, Try.ntmps44
    go_wp2
    go_ret
    exact ⟨rfl, below_alloc (Below.refl _ _) _⟩
set_option maxHeartbeats 4000000 in
set_option maxRecDepth 100000 in
theorem index_range (g : Nat) (caps : Array Value) (t : S52 → Bool) (A0 : Option Addr) (c0 : Nat) (l0 : List S52) (w : World) (hr0 : k52.C w A0 l0.length l0)
    (ht : ∀ (x : S52) (W : World), Below w.heap.size w W → Calls Try.prog g (#[.agg #[.int .i64 x.f0, .int .i64 x.f1]] ++ caps) W fun e w' => e = .returned (.bool (t x)) ∧ Below W.heap.size W w')
    (hgo : ∀ (v : Value) (W : World), (callFunc g (#[v] ++ caps)).run Try.prog W = .ok (.enter g (#[v] ++ caps)) W) :
    Calls Try.prog 53 #[.slice A0 l0.length c0, .func (.func g) #[] caps] w fun e w' => (∃ i : Int, e = .returned (.int .i64 i) ∧ decide (i ≥ 0) = l0.any t) ∧ Below w.heap.size w w' := by
  have HL := Aside0.mk (Kd.C_max hr0)
  have HR0 := Aside0.mk hr0
  have HT := Aside0.mk ht
  obtain ⟨r, hr⟩ : ∃ r, l0.any t = r := ⟨_, rfl⟩
  rw [hr]
  have HH := Aside0.mk hr
  clear hr0 ht hr
  go_enter Try.func53, Try.ntmps53
  go_wp2
  go_loopw [8] (fun v wr => ∃ i : Nat, v = .int .i64 (i : Int) ∧ i ≤ l0.length ∧ Below w.heap.size w wr ∧ (l0.drop i).any t = r) (fun v wr => l0.length - (intOf v).toNat)
  case atStart => exact ⟨0, rfl, by omega, Below.refl _ _, by simpa using HH.out⟩
  case round =>
    obtain ⟨i, rfl, hi, hB, hidx⟩ := hrel
    have HB := Aside0.mk hB
    by_cases h : i < l0.length
    · obtain ⟨ad, e, h0, h1⟩ := at_T52 (Kd.C_below HR0.out hB) (i : Int) (by omega) (by omega)
      cases e
      rw [Int.toNat_natCast] at h0 h1
      rw [sn_drop z52 l0 i h] at hidx
      have hx : rd_T52 l0 (i : Int) = l0.getD i z52 := rfl
      rw [hx] at h0 h1
      obtain ⟨x, hxx⟩ : ∃ x, l0.getD i z52 = x := ⟨_, rfl⟩
      rw [hxx] at h0 h1 hidx
      simp only [List.any_cons] at hidx
      have hcall := HT.out x wr hB
      have p1 : decide ((i : Int) < (l0.length : Int)) = true := decide_eq_true (by omega)
      have p2 : ((0 : Int) ≤ (i : Int)) = True := eq_true (by omega)
      have p3 : ((i : Int) < (l0.length : Int)) = True := eq_true (by omega)
      have hgo1 := hgo (.agg #[.int .i64 x.f0, .int .i64 x.f1])
      obtain ⟨b, hb⟩ : ∃ b, t x = b := ⟨_, rfl⟩
      rw [hb] at hcall hidx
      have H := Aside0.mk hidx
      clear hidx hB hx hxx hb
      cases b with
      | true =>
        go_wp2_with (refine hcall.mono ?_; rintro e w' ⟨rfl, hb1⟩; have HB1 := Aside0.mk hb1; clear hb1)
        go_ret
        refine ⟨⟨_, rfl, ?_⟩, below_step HB.out HB1.out⟩
        have := H.out
        rw [Bool.true_or] at this
        rw [← this]
        exact decide_eq_true (by omega)
      | false =>
        go_wp2_with (refine hcall.mono ?_; rintro e w' ⟨rfl, hb1⟩; have HB1 := Aside0.mk hb1; clear hb1)
        have hw := sn_wrap i (by have := HL.out; omega)
        refine ⟨⟨i + 1, by rw [hw], by omega, below_step HB.out HB1.out, ?_⟩, ?_⟩
        · have := H.out
          rw [Bool.false_or] at this
          exact this
        · rw [hw]
          show l0.length - (((i + 1 : Nat) : Int)).toNat < l0.length - ((i : Int)).toNat
          clear hw
          omega
    · have hn : i = l0.length := by omega
      subst hn
      have p1 : decide ((l0.length : Int) < (l0.length : Int)) = false := decide_eq_false (by omega)
      have H := Aside0.mk hidx
      clear hidx hB
      go_wp2
      go_ret
      refine ⟨⟨_, rfl, ?_⟩, HB.out⟩
      have := H.out
      rw [List.drop_length] at this
      rw [← this]
      exact decide_eq_false (by omega)
set_option maxHeartbeats 4000000 in
theorem contains_range (g : Nat) (caps : Array Value) (t : S52 → Bool) (A0 : Option Addr) (c0 : Nat) (l0 : List S52) (w : World) (hr0 : k52.C w A0 l0.length l0)
    (ht : ∀ (x : S52) (W : World), Below w.heap.size w W → Calls Try.prog g (#[.agg #[.int .i64 x.f0, .int .i64 x.f1]] ++ caps) W fun e w' => e = .returned (.bool (t x)) ∧ Below W.heap.size W w')
    (hgo : ∀ (v : Value) (W : World), (callFunc g (#[v] ++ caps)).run Try.prog W = .ok (.enter g (#[v] ++ caps)) W) :
    Calls Try.prog 43 #[.slice A0 l0.length c0, .func (.func g) #[] caps] w fun e w' => e = .returned (.bool (l0.any t)) ∧ Below w.heap.size w w' := by
  have hct := index_range g caps t A0 c0 l0 w hr0 ht hgo
  clear hr0 ht hgo
  go_enter Try.func43, Try.ntmps43
  go_wp2_with (go_at_call 53; (with_reducible refine hct.mono ?_); rintro e w' ⟨⟨i, rfl, hi⟩, hb⟩; have HB := Aside0.mk hb; have HI := Aside0.mk hi; clear hb hi)
  go_ret
  exact ⟨by rw [← HI.out]; rfl, HB.out⟩
def tree_Has.f (l0 : List S52) (a1 : Int) : Option Bool := some (hasM l0 a1)
set_option maxHeartbeats 4000000 in
theorem tree_Has.calls (A0 : Option Addr) (c0 : Nat) (l0 : List S52) (a1 : Int) (r : Bool) (w : World) (hr0 : Kd.C k52 w A0 l0.length l0) (hc0 : l0.length ≤ c0) (h : tree_Has.f l0 a1 = some r) :
    Calls Try.prog 34 #[.slice A0 l0.length c0, .int .i64 a1] w fun e w' => e = .returned (.bool r) ∧ Below w.heap.size w w' := by
  obtain rfl := Option.some.inj h
  have hct := contains_range 44 #[.pointer (some ⟨w.heap.size, 0, none⟩)] (inRg a1) A0 c0 l0 (w.alloc (.cells #[.int .i64 a1] 3)) (Kd.C_alloc hr0 _) (fun x W2 hb2 => inRg_calls a1 w.heap.size x.f0 x.f1 W2 (cell_later hb2 (blk_cell (heap_alloc_new w _) 0))) (fun v W => enters_ Try.func44 (by kernel_rfl) rfl _ W)
  have HCT := Aside0.mk hct
  clear h hc0 hr0 hct
  go_enter Try.func34, Try.ntmps34
  go_wp2_with (go_at_call 43; (with_reducible refine HCT.out.mono ?_); rintro e w' ⟨rfl, hb⟩; have HB := Aside0.mk hb; clear hb)
  go_ret
  exact ⟨rfl, below_step (below_alloc (Below.refl _ _) _) HB.out⟩
end Go.Proofs.Ytaphbechnjmlgaa.P
