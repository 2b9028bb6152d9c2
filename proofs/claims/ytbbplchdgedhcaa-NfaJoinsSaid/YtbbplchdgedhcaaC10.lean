/- Texts of this claim put together by a program of its own (Px0, SCloneR, SCompL, SCompA, SNode, SLetN, SCompN, SCompJ, SCompR, SCompO), what the law does not use left out: each part's statements bear their own conditions. -/
import Derived.Test.YtbbplchdgedhcaaProg
import Derived.Below
import Derived.Deep.Draws
import Derived.Deep.AppendLies
import Derived.Maps.AppendAt
import Derived.OwnWalk
import Derived.Laws.BytesArg
import Derived.Laws.MakeOwn
import Derived.Laws.OwnMore
import Derived.Deep.OwnRows
import Derived.Tactics
import Derived.Lib.ConvBytes
import Derived.Laws.Slices
import Derived.WalkKit
import Derived.KernelRfl
import Derived.RowKit3
import Derived.Deep.LoopGhost
import Derived.Deep.QuietTactic
import Derived.BigQuiet
import Derived.WideLaws
import Derived.Deep.DeepCutAuto
import Derived.Deep.CutBlock
import Derived.Deep.RegionHeld3
import Derived.Laws.Rows
import Derived.Lib.AppendStr
import Derived.ArgAppend
import Derived.Laws.IdiomCopy
import Derived.OrdersHeld
import Derived.Laws.BitsLemmas
import Derived.RowKit
import Derived.Test.YtbbplchdgedhcaaC0
import Derived.Test.YtbbplchdgedhcaaC1
import Derived.Test.YtbbplchdgedhcaaC2
import Derived.Test.YtbbplchdgedhcaaC3
import Derived.Test.YtbbplchdgedhcaaC4
import Derived.Test.YtbbplchdgedhcaaC5
import Derived.Test.YtbbplchdgedhcaaC6
import Derived.Test.YtbbplchdgedhcaaC7
import Derived.Test.YtbbplchdgedhcaaC8
import Derived.Test.YtbbplchdgedhcaaC9
import Derived.Lib.SliceRun
import Derived.WalkSpells
import Derived.ProofKit
namespace Go.Proofs.Ytbbplchdgedhcaa.P
open Go.RowKit Go.Proofs.YtbbplchdgedhcaaW.PrintWords Go.Proofs.YtbbplchdgedhcaaW.PrintLast Go.Proofs.YtbbplchdgedhcaaW.PrintMore
attribute [local go_sem] max2_int min2_int max_two min_two
set_option linter.unusedVariables false
set_option linter.unusedSimpArgs false



def errW : Option Int → Value
  | none => .nilIface
  | some c => .iface 0 (.int .i64 c)
theorem errW_none : errW none = .nilIface := rfl
theorem errW_some (c : Int) : errW (some c) = .iface 0 (.int .i64 c) := rfl

theorem info39 : (Try.prog.info? 39).map (fun i => (i.zero, i.size, i.bytes)) = some (some (.agg #[(.int .i64 0), (.slice none 0 0), (.int .i64 0), (.int .i64 0)]), 4, 48) := by kernel_rfl
-- the values' own types
structure S42 where
  f0 : Int
  f1 : Int
def z42 : S42 := ⟨(0 : Int), (0 : Int)⟩
def k42 : Kd S42 := Kd.iso (Kd.pair (Kd.int .i64) (Kd.int .i64)) (fun x : S42 => (x.f0, x.f1))
theorem k42_open {w : World} {x : S42} {cs : List Value} (h : k42.K w x cs) : cs = [.int .i64 x.f0, .int .i64 x.f1] := by
  obtain ⟨_, _, rfl, rfl, rfl⟩ := h
  exact rfl
theorem k42_mk (w : World) (x : S42)  : k42.K w x [.int .i64 x.f0, .int .i64 x.f1] := ⟨[.int .i64 x.f0], [.int .i64 x.f1], rfl, rfl, rfl⟩
def rd_T42 (xs : List S42) (i : Int) : S42 := xs.getD i.toNat z42
theorem at_T42 {w : World} {A : Option Addr} {n : Nat} {xs : List S42} (h : Kd.C k42 w A n xs) (i : Int) (h0 : 0 ≤ i) (h1 : i < n) : ∃ ad , A = some ad ∧ w.cell? (ad.add (i.toNat * 2)) = some (.int .i64 (rd_T42 xs i).f0) ∧ w.cell? ⟨(ad.add (i.toNat * 2)).block, (ad.add (i.toNat * 2)).off + 1, none⟩ = some (.int .i64 (rd_T42 xs i).f1) := by
  obtain ⟨ad, c, e, _, hK, hc0⟩ := Kd.C_get h z42 i h0 h1
  have hc : ∀ j u, c[j]? = some u → w.cell? (ad.add (i.toNat * 2 + j)) = some u := hc0
  obtain rfl := k42_open hK
  exact ⟨ad, e, hc 0 _ rfl, by rw [← add_field _ _ 1 (by omega)]; exact hc 1 _ rfl⟩

structure S25 where
  f0 : Int
  f1 : (List S42)
  f2 : Int
  f3 : Int
  f4 : (List S25)
def z25 : S25 := ⟨(0 : Int), ([] : List S42), (0 : Int), (0 : Int), ([] : List S25)⟩
def F25 (d : Kd S25) : Kd S25 := Kd.iso (Kd.pair (Kd.int .i64) (Kd.pair (Kd.slice 42 k42) (Kd.pair (Kd.int .i64) (Kd.pair (Kd.int .i64) (Kd.slice 25 d))))) (fun x : S25 => (x.f0, x.f1, x.f2, x.f3, x.f4))
theorem mono25 : Kd.Mono F25 := Kd.mono_iso _ (Kd.mono_pair (Kd.mono_const _) (Kd.mono_pair (Kd.mono_const _) (Kd.mono_pair (Kd.mono_const _) (Kd.mono_pair (Kd.mono_const _) (Kd.mono_slice 25 Kd.mono_id)))))
theorem sub25 : Kd.Sub F25 [25, 42] := Kd.sub_iso _ (Kd.sub_pair (Kd.sub_const _ (by decide)) (Kd.sub_pair (Kd.sub_const _ (by decide)) (Kd.sub_pair (Kd.sub_const _ (by decide)) (Kd.sub_pair (Kd.sub_const _ (by decide)) (Kd.sub_slice 25 (by decide) Kd.sub_id)))))
theorem sz25 : ∀ n, (Kd.upto F25 5 [25, 42] n).sz = 5 := Kd.upto_sz (fun _ => rfl)
def k25 : Kd S25 := Kd.fix F25 5 [25, 42] sz25 (Kd.upto_E sub25)
theorem k25_open {w : World} {x : S25} {cs : List Value} (h : k25.K w x cs) : ∃ A1 c1 A4 c4, cs = [.int .i64 x.f0, .slice A1 x.f1.length c1, .int .i64 x.f2, .int .i64 x.f3, .slice A4 x.f4.length c4] ∧ x.f1.length ≤ c1 ∧ k42.C w A1 x.f1.length x.f1 ∧ x.f4.length ≤ c4 ∧ k25.C w A4 x.f4.length x.f4 := by
  obtain ⟨n, h⟩ := h
  cases n with
  | zero => exact h.elim
  | succ n =>
    obtain ⟨_, _, rfl, rfl, ⟨_, _, rfl, ⟨A1, c1, rfl, l1, g1⟩, ⟨_, _, rfl, rfl, ⟨_, _, rfl, rfl, ⟨A4, c4, rfl, l4, g4⟩⟩⟩⟩⟩ := h
    exact ⟨A1, c1, A4, c4, rfl, l1, g1, l4, Kd.fix_C g4⟩
theorem k25_mk (w : World) (x : S25) {A1 : Option Addr} {c1 : Nat} (l1 : x.f1.length ≤ c1) (g1 : k42.C w A1 x.f1.length x.f1) {A4 : Option Addr} {c4 : Nat} (l4 : x.f4.length ≤ c4) (g4 : k25.C w A4 x.f4.length x.f4) : k25.K w x [.int .i64 x.f0, .slice A1 x.f1.length c1, .int .i64 x.f2, .int .i64 x.f3, .slice A4 x.f4.length c4] := by
  obtain ⟨n4, q4⟩ := Kd.fix_C_back mono25 g4
  have r4 := Kd.upto_C_le mono25 sz25 (show n4 ≤ n4 by omega) q4
  exact ⟨n4 + 1, ⟨[.int .i64 x.f0], [.slice A1 x.f1.length c1, .int .i64 x.f2, .int .i64 x.f3, .slice A4 x.f4.length c4], rfl, rfl, ⟨[.slice A1 x.f1.length c1], [.int .i64 x.f2, .int .i64 x.f3, .slice A4 x.f4.length c4], rfl, ⟨A1, c1, rfl, l1, g1⟩, ⟨[.int .i64 x.f2], [.int .i64 x.f3, .slice A4 x.f4.length c4], rfl, rfl, ⟨[.int .i64 x.f3], [.slice A4 x.f4.length c4], rfl, rfl, ⟨A4, c4, rfl, l4, r4⟩⟩⟩⟩⟩⟩
def rd_T25 (xs : List S25) (i : Int) : S25 := xs.getD i.toNat z25
theorem at_T25 {w : World} {A : Option Addr} {n : Nat} {xs : List S25} (h : Kd.C k25 w A n xs) (i : Int) (h0 : 0 ≤ i) (h1 : i < n) : ∃ ad A1 c1 A4 c4, A = some ad ∧ w.cell? (ad.add (i.toNat * 5)) = some (.int .i64 (rd_T25 xs i).f0) ∧ w.cell? ⟨(ad.add (i.toNat * 5)).block, (ad.add (i.toNat * 5)).off + 1, none⟩ = some (.slice A1 (rd_T25 xs i).f1.length c1) ∧ w.cell? ⟨(ad.add (i.toNat * 5)).block, (ad.add (i.toNat * 5)).off + 2, none⟩ = some (.int .i64 (rd_T25 xs i).f2) ∧ w.cell? ⟨(ad.add (i.toNat * 5)).block, (ad.add (i.toNat * 5)).off + 3, none⟩ = some (.int .i64 (rd_T25 xs i).f3) ∧ w.cell? ⟨(ad.add (i.toNat * 5)).block, (ad.add (i.toNat * 5)).off + 4, none⟩ = some (.slice A4 (rd_T25 xs i).f4.length c4) ∧ (rd_T25 xs i).f1.length ≤ c1 ∧ k42.C w A1 (rd_T25 xs i).f1.length (rd_T25 xs i).f1 ∧ (rd_T25 xs i).f4.length ≤ c4 ∧ k25.C w A4 (rd_T25 xs i).f4.length (rd_T25 xs i).f4 := by
  obtain ⟨ad, c, e, _, hK, hc0⟩ := Kd.C_get h z25 i h0 h1
  have hc : ∀ j u, c[j]? = some u → w.cell? (ad.add (i.toNat * 5 + j)) = some u := hc0
  obtain ⟨A1, c1, A4, c4, rfl, l1, g1, l4, g4⟩ := k25_open hK
  exact ⟨ad, A1, c1, A4, c4, e, hc 0 _ rfl, by rw [← add_field _ _ 1 (by omega)]; exact hc 1 _ rfl, by rw [← add_field _ _ 2 (by omega)]; exact hc 2 _ rfl, by rw [← add_field _ _ 3 (by omega)]; exact hc 3 _ rfl, by rw [← add_field _ _ 4 (by omega)]; exact hc 4 _ rfl, l1, g1, l4, g4⟩

structure S39 where
  f0 : Int
  f1 : (List S42)
  f2 : Int
  f3 : Int
def z39 : S39 := ⟨(0 : Int), ([] : List S42), (0 : Int), (0 : Int)⟩
def k39 : Kd S39 := Kd.iso (Kd.pair (Kd.int .i64) (Kd.pair (Kd.slice 42 k42) (Kd.pair (Kd.int .i64) (Kd.int .i64)))) (fun x : S39 => (x.f0, x.f1, x.f2, x.f3))
theorem k39_open {w : World} {x : S39} {cs : List Value} (h : k39.K w x cs) : ∃ A1 c1, cs = [.int .i64 x.f0, .slice A1 x.f1.length c1, .int .i64 x.f2, .int .i64 x.f3] ∧ x.f1.length ≤ c1 ∧ k42.C w A1 x.f1.length x.f1 := by
  obtain ⟨_, _, rfl, rfl, ⟨_, _, rfl, ⟨A1, c1, rfl, l1, g1⟩, ⟨_, _, rfl, rfl, rfl⟩⟩⟩ := h
  exact ⟨A1, c1, rfl, l1, g1⟩
theorem k39_openM {w : World} {base : Nat} {ok : Nat → Prop} {x : S39} {cs : List Value} (h : k39.M w base ok x cs) : ∃ v1, cs = [.int .i64 x.f0, v1, .int .i64 x.f2, .int .i64 x.f3] ∧ k42.R 42 w base ok v1 x.f1 := by
  obtain ⟨_, _, rfl, rfl, ⟨_, _, rfl, ⟨v1, rfl, g1⟩, ⟨_, _, rfl, rfl, rfl⟩⟩⟩ := h
  exact ⟨v1, rfl, g1⟩
theorem k39_mk (w : World) (x : S39) {A1 : Option Addr} {c1 : Nat} (l1 : x.f1.length ≤ c1) (g1 : k42.C w A1 x.f1.length x.f1) : k39.K w x [.int .i64 x.f0, .slice A1 x.f1.length c1, .int .i64 x.f2, .int .i64 x.f3] := ⟨[.int .i64 x.f0], [.slice A1 x.f1.length c1, .int .i64 x.f2, .int .i64 x.f3], rfl, rfl, ⟨[.slice A1 x.f1.length c1], [.int .i64 x.f2, .int .i64 x.f3], rfl, ⟨A1, c1, rfl, l1, g1⟩, ⟨[.int .i64 x.f2], [.int .i64 x.f3], rfl, rfl, rfl⟩⟩⟩
theorem k39_mkM (w : World) (base : Nat) (ok : Nat → Prop) (x : S39) {v1 : Value} (g1 : k42.R 42 w base ok v1 x.f1) : k39.M w base ok x [.int .i64 x.f0, v1, .int .i64 x.f2, .int .i64 x.f3] := ⟨[.int .i64 x.f0], [v1, .int .i64 x.f2, .int .i64 x.f3], rfl, rfl, ⟨[v1], [.int .i64 x.f2, .int .i64 x.f3], rfl, ⟨v1, rfl, g1⟩, ⟨[.int .i64 x.f2], [.int .i64 x.f3], rfl, rfl, rfl⟩⟩⟩
def rd_T39 (xs : List S39) (i : Int) : S39 := xs.getD i.toNat z39
theorem at_T39 {w : World} {A : Option Addr} {n : Nat} {xs : List S39} (h : Kd.C k39 w A n xs) (i : Int) (h0 : 0 ≤ i) (h1 : i < n) : ∃ ad A1 c1, A = some ad ∧ w.cell? (ad.add (i.toNat * 4)) = some (.int .i64 (rd_T39 xs i).f0) ∧ w.cell? ⟨(ad.add (i.toNat * 4)).block, (ad.add (i.toNat * 4)).off + 1, none⟩ = some (.slice A1 (rd_T39 xs i).f1.length c1) ∧ w.cell? ⟨(ad.add (i.toNat * 4)).block, (ad.add (i.toNat * 4)).off + 2, none⟩ = some (.int .i64 (rd_T39 xs i).f2) ∧ w.cell? ⟨(ad.add (i.toNat * 4)).block, (ad.add (i.toNat * 4)).off + 3, none⟩ = some (.int .i64 (rd_T39 xs i).f3) ∧ (rd_T39 xs i).f1.length ≤ c1 ∧ k42.C w A1 (rd_T39 xs i).f1.length (rd_T39 xs i).f1 := by
  obtain ⟨ad, c, e, _, hK, hc0⟩ := Kd.C_get h z39 i h0 h1
  have hc : ∀ j u, c[j]? = some u → w.cell? (ad.add (i.toNat * 4 + j)) = some u := hc0
  obtain ⟨A1, c1, rfl, l1, g1⟩ := k39_open hK
  exact ⟨ad, A1, c1, e, hc 0 _ rfl, by rw [← add_field _ _ 1 (by omega)]; exact hc 1 _ rfl, by rw [← add_field _ _ 2 (by omega)]; exact hc 2 _ rfl, by rw [← add_field _ _ 3 (by omega)]; exact hc 3 _ rfl, l1, g1⟩

end Go.Proofs.Ytbbplchdgedhcaa.P
namespace Go.Proofs.Ytbbplchdgedhcaa.P
open Go.RowKit Go.Proofs.YtbbplchdgedhcaaW.PrintWords Go.Proofs.YtbbplchdgedhcaaW.PrintLast
set_option linter.unusedVariables false

def slices_Clone_Range.f (l0 : List S42) : Option (List S42) := if l0.length < 8796093022208 then some l0 else none
theorem cinfo42 : (Try.prog.info? 42).map (fun i => (i.zero, i.size, i.bytes)) = some (some (.agg #[.int .i64 0, .int .i64 0]), 2, 16) := by kernel_rfl

set_option maxHeartbeats 4000000 in
set_option maxRecDepth 100000 in
theorem slices_Clone_Range.calls (A0 : Option Addr) (c0 : Nat) (l0 : List S42) (r : List S42) (w : World) (hr0 : Kd.C k42 w A0 l0.length l0) (hc0 : l0.length ≤ c0) (h : slices_Clone_Range.f l0 = some r) :
    Calls Try.prog 33 #[.slice A0 l0.length c0] w fun e w' => ∃ v0_ : Value, e = .returned (v0_) ∧ Kd.R k42 42 w' w.heap.size (fun _ => True) v0_ r ∧ Below w.heap.size w w' := by
  have HL : Aside0 (l0.length < 8796093022208) := by
    refine ⟨?_⟩
    unfold slices_Clone_Range.f at h
    by_cases hl : l0.length < 8796093022208
    · exact hl
    · rw [if_neg hl] at h
      cases h
  obtain rfl : l0 = r := by
    unfold slices_Clone_Range.f at h
    rw [if_pos HL.out] at h
    exact Option.some.inj h
  clear h
  have HR0 := Aside0.mk hr0
  have HC0 := Aside0.mk hc0
  clear hr0 hc0
  have qT : ∀ (W : World) (a : Option Addr) (n c n' c' : Nat), (binOp .eql 22 (.slice a n c) (.slice none n' c')).run Try.prog W = .ok (.bool a.isNone) W := fun W a n c n' c' => Lib.run_eql_slice_nil W _ _ a n c n' c' Try.underlying22
  have HB := Aside0.mk (Below.refl w.heap.size w)
  cases A0 with
  | none =>
    have h0 : l0 = [] := by
      rcases Nat.eq_zero_or_pos l0.length with h0 | h0
      · exact List.eq_nil_of_length_eq_zero h0
      · have h1 := Kd.C_get HR0.out z42 0 (by omega) (by omega)
        obtain ⟨ad, c, e, _⟩ := h1
        cases e
    subst h0
    go_enter Try.func33, Try.ntmps33
    go_wp2
    go_ret
    exact ⟨_, rfl, Kd.R_nil _ _ _ _ _, HB.out⟩
  | some ad =>
    go_enter Try.func33, Try.ntmps33
    go_wp2_with (first
      | ((with_reducible refine gate_dst (N := 5) rfl ?_); refine Kd.R_lit k42 _ 42 ?hg (N := 5) ?hd (xs := ([] : List S42)) (inner := []) (ok := fun _ => True) (okp := fun _ => True) ?hr ?hp (fun _ hk => hk) trivial (Below.refl _ _) (Nat.le_refl _) (by simp) ?_; (case hd => rfl); (case hg => rfl); (case hr => first | (go_simp; done) | (go_simp; rfl)); (case hp => exact (Reps.none _ _)); intro v254 w32 ho33 hb hg_ hnew_; clear hg_ hnew_; have HO := Aside0.mk ho33; have n6_ := Aside0.mk (below_step (by exact HB.out) hb); clear HB; have HB := n6_; clear n6_; clear hb ho33)
      | ((with_reducible refine gate_builtin (b := .append) (xs := #[.tmp 5, .tmp 6]) rfl ?_); at_builtin; refine Kd.R_append_rows k42 (w0 := w) w.heap.size rfl (.tmp 5) (.tmp 6) 22 42 (.agg #[.int .i64 0, .int .i64 0]) 16 rfl Try.underlying22 cinfo42 rfl (by decide) (by omega) v254 ([] : List S42) l0 _ _ _ (fun k_ => True) (fun _ => False) rfl rfl ?aO ?aR (fun _ _ h => h) (fun _ h => h.elim) ?aF ?aB ?aS ?aL ?_; (case aR => exact (Kd.C_below HR0.out HB.out)); (case aB => exact HB.out); (case aF => exact (fun k_ hk => trivial)); (case aO => exact Kd.R_lower (Kd.R_mono HO.out (fun _ _ => trivial)) (Nat.le_refl _)); (case aS => exact (below_size HB.out)); (case aL => have := HL.out; simp; omega); intro v257 w34 ho hb hg hat; have HO2 := Aside0.mk ho; clear HB; have HB := Aside0.mk hb; clear ho hb hg hat))
    go_ret
    exact ⟨_, rfl, by simpa using HO2.out, HB.out⟩
end Go.Proofs.Ytbbplchdgedhcaa.P
namespace Go.Proofs.Ytbbplchdgedhcaa.P
open Go.RowKit Go.Proofs.YtbbplchdgedhcaaW.PrintWords Go.Proofs.YtbbplchdgedhcaaW.PrintLast
set_option linter.unusedVariables false
set_option linter.unusedSimpArgs false

/-- The compiler's program is p', in its block g; all else is as it was in w but the row that it was, and what is new. -/
def CompSt (B g : Nat) (w w' : World) (v : Value) (p' : List S39) : Prop :=
  ∃ v', w'.heap[g]? = some (.cells #[v'] 44 (0, 0)) ∧ k39.R 39 w' B (fun _ => True) v' p' ∧ KeepBut w w' g v.ownBlock ∧ (v'.ownBlock = v.ownBlock ∨ ∃ b, v'.ownBlock = some b ∧ w.heap.size ≤ b) ∧ Below B w w'
theorem iinfo39 : (Try.prog.info? 39).map (fun i => (i.zero, i.size, i.bytes)) = some (some (.agg #[.int .i64 0, .slice none 0 0, .int .i64 0, .int .i64 0]), 4, 48) := by kernel_rfl
/-- A new instruction's ranges are none of the row's. -/
theorem inst_apart {w : World} {B : Nat} {v rv : Value} {p : List S39} {x : S39} (hR : k39.R 39 w B (fun _ => True) v p) (hx : k42.R 42 w B (fun _ => True) rv x.f1) :
    k39.M w B (fun k => True ∧ some k ≠ v.ownBlock) x [.int .i64 x.f0, rv, .int .i64 x.f2, .int .i64 x.f3] :=
  k39_mkM w B _ x (Kd.R_apart' hx (Kd.R_typed hR) (by decide))
section
variable {ops : Array Oper} {o : Oper} {a : Act} {Q : Exit → Act → World → Prop} {Kc : Act → World → Prop}
/-- append of an instruction, at a step of a drawn region. -/
theorem inst_step {W : World} (B : Nat) (hw : Region.wanted o (yielded ops a.tmps) = true) (s x : Operand) (ho : o.op = .call { callee := .builtin .append, args := #[s, x], argTypes := #[29, 29] })
    (v : Value) (p : List S39) (y : S39) (cs : List Value) (hs : a.eval s = v) (hx : a.eval x = .slice (some ⟨W.heap.size, 0, none⟩) 1 1) (hp : k39.M W B (fun k => True ∧ some k ≠ v.ownBlock) y cs)
    (HO : k39.R 39 W B (fun _ => True) v p) (hbase : B ≤ W.heap.size) (hl : (p.length + 1) * 48 ≤ 140737488355328)
    (h : ∀ v1 w1, k39.R 39 w1 B (fun _ => True) v1 (p ++ [y]) → Below B W w1 → W.grownBy w1 v.ownBlock → (v1.ownBlock = v.ownBlock ∨ ∃ b, v1.ownBlock = some b ∧ W.heap.size ≤ b) → Kc (a.put o.dst v1) w1) :
    if Region.wanted o (yielded ops a.tmps) = true then Oper.wp Try.prog o a (W.alloc (.cells cs.toArray 39)) Kc Q else Kc (a.put o.dst undef) (W.alloc (.cells cs.toArray 39)) :=
  Kd.R_append_step (W := W) (w0 := W) k39 B hw s x 29 39 (.agg #[.int .i64 0, .slice none 0 0, .int .i64 0, .int .i64 0]) 48 ho Try.underlying29 iinfo39 rfl (by decide) (by decide) v p y cs (fun _ => True) _ hs hx hp (fun _ hk => hk) (fun _ _ => trivial) HO (Below.refl _ _) hbase hl (fun v1 w1 h1 h2 h3 h4 => h v1 w1 h1 h2 h3 h4)
end
set_option maxHeartbeats 4000000 in
set_option maxRecDepth 100000 in
theorem lay_calls (B g : Nat) (w : World) (v : Value) (p : List S39) (x : S39) (rv : Value) (hg : B ≤ g) (hk : w.heap[g]? = some (.cells #[v] 44 (0, 0))) (hR : k39.R 39 w B (fun _ => True) v p) (hx : k42.R 42 w B (fun _ => True) rv x.f1) (hl : p.length < 1099511627776) :
    Calls Try.prog 21 #[.pointer (some ⟨g, 0, none⟩), .agg #[.int .i64 x.f0, rv, .int .i64 x.f2, .int .i64 x.f3]] w fun e w' => e = .returned (.int .i64 (p.length : Int)) ∧ CompSt B g w w' v (p ++ [x]) := by
  have hu := Try.underlying39
  have hM := inst_apart hR hx
  obtain ⟨Ax, cx, rfl⟩ := Kd.R_slice hx
  obtain ⟨Av, cv, rfl⟩ := Kd.R_slice hR
  obtain ⟨f0, f1, f2, f3⟩ := x
  dsimp only at hM hx ⊢
  have HK := Aside0.mk hk
  have HR := Aside0.mk hR
  have HM := Aside0.mk hM
  have HG := Aside0.mk hg
  have t0 : w.cell? ⟨g, 0, none⟩ = some (.slice Av p.length cv) := blk_cell hk 0
  have t0' : (w.alloc (.cells #[.int .i64 f0, .slice Ax f1.length cx, .int .i64 f2, .int .i64 f3] 39)).cell? ⟨g, 0, none⟩ = some (.slice Av p.length cv) := cell_later (below_alloc (Below.refl _ _) _) t0
  have HL := hl
  clear hk hR hM hx hg hl
  go_enter Try.func21, Try.ntmps21
  go_wp2
  have hS : (w.alloc (.cells #[.int .i64 f0, .slice Ax f1.length cx, .int .i64 f2, .int .i64 f3] 39)).heap[w.heap.size]? = some (.cells #[.int .i64 f0, .slice Ax f1.length cx, .int .i64 f2, .int .i64 f3] 39 (0, 0)) := heap_alloc_new w _
  have HK1 := Aside0.mk (blk_alloc HK.out (.cells #[.int .i64 f0, .slice Ax f1.length cx, .int .i64 f2, .int .i64 f3] 39))
  have HR1 := Aside0.mk (Kd.R_alloc HR.out (.cells #[.int .i64 f0, .slice Ax f1.length cx, .int .i64 f2, .int .i64 f3] 39))
  have HM1 := Aside0.mk (Kd.M_alloc HM.out (.cells #[.int .i64 f0, .slice Ax f1.length cx, .int .i64 f2, .int .i64 f3] 39))
  have HB1 := Aside0.mk (below_alloc (Below.refl w.heap.size w) (.cells #[.int .i64 f0, .slice Ax f1.length cx, .int .i64 f2, .int .i64 f3] 39))
  have s0 : (w.alloc (.cells #[.int .i64 f0, .slice Ax f1.length cx, .int .i64 f2, .int .i64 f3] 39)).cell? ⟨w.heap.size, 0, none⟩ = some (.int .i64 f0) := blk_cell hS 0
  have s1 : (w.alloc (.cells #[.int .i64 f0, .slice Ax f1.length cx, .int .i64 f2, .int .i64 f3] 39)).cell? ⟨w.heap.size, 1, none⟩ = some (.slice Ax f1.length cx) := blk_cell hS 1
  have s2 : (w.alloc (.cells #[.int .i64 f0, .slice Ax f1.length cx, .int .i64 f2, .int .i64 f3] 39)).cell? ⟨w.heap.size, 2, none⟩ = some (.int .i64 f2) := blk_cell hS 2
  have s3 : (w.alloc (.cells #[.int .i64 f0, .slice Ax f1.length cx, .int .i64 f2, .int .i64 f3] 39)).cell? ⟨w.heap.size, 3, none⟩ = some (.int .i64 f3) := blk_cell hS 3
  have HS := Aside0.mk hS
  have HLT := Aside0.mk (Kd.R_lt HR.out)
  have HNE := Aside0.mk (Kd.R_ne HR.out HK.out (by decide))
  have HGL := Aside0.mk (blk_lt HK.out)
  obtain ⟨W0, hW0⟩ : ∃ W0, w = W0 := ⟨_, rfl⟩
  generalize w.alloc (.cells #[.int .i64 f0, .slice Ax f1.length cx, .int .i64 f2, .int .i64 f3] 39) = W1 at t0' s0 s1 s2 s3 HK1 HR1 HM1 HB1 HS ⊢
  generalize hgs : w.heap.size = gs at s0 s1 s2 s3 HS HLT HGL ⊢
  have HGS := Aside0.mk hgs
  clear t0 hS hgs
  have f0g := blk_frozen HK1.out 0
  refine start_ (n := 11) (S := fun w' => w'.cell? ⟨g, 0, none⟩ = some (.slice Av p.length cv) ∧ w'.cell? ⟨gs, 0, none⟩ = some (.int .i64 f0) ∧ w'.cell? ⟨gs, 1, none⟩ = some (.slice Ax f1.length cx) ∧ w'.cell? ⟨gs, 2, none⟩ = some (.int .i64 f2) ∧ w'.cell? ⟨gs, 3, none⟩ = some (.int .i64 f3)) (ds := [10]) #[false, false, false, false, false, false, false, false, false, false, false] (by kernel_rfl) rfl rfl ⟨t0', s0, s1, s2, s3⟩ (fun hHeld => ?_)
  have n0_ := Aside0.mk (blk_drew HK1.out)
  have n1_ := Aside0.mk (Kd.R_drew HR1.out)
  have n2_ := Aside0.mk (Kd.M_below HM1.out (below_drew (Below.refl _ _)))
  have n3_ := Aside0.mk (blk_drew HS.out)
  have n4_ := Aside0.mk (below_drew1 HB1.out)
  clear HK1 HR1 HM1 HS HB1
  have HK1 := n0_
  have HR1 := n1_
  have HM1 := n2_
  have HS := n3_
  have HB1 := n4_
  clear n0_ n1_ n2_ n3_ n4_ t0' s0 s1 s2 s3
  generalize W1.drew = W2 at HK1 HR1 HM1 HS HB1 hHeld ⊢
  refine pure_ (i := 0) (N := some 5) (v := ?_) (a' := ?_) #[true, false, false, false, false, false, false, false, false, false, false] rfl rfl (by kernel_rfl) (fun _ _ _ h => h) (Or.inl ⟨by rfl, ?_⟩) ?_ ?_
  rotate_left
  · intro w'
    go_simp
    with_reducible rfl
  rotate_left
  · simp only [Act.put, List.setIfInBounds_toArray, List.set_cons_zero, List.set_cons_succ, i64_w, i32_w]
    rfl
  refine pure_ (i := 1) (N := some 6) (v := ?_) (a' := ?_) #[true, true, false, false, false, false, false, false, false, false, false] rfl rfl (by kernel_rfl) (fun _ _ _ h => h) (Or.inl ⟨by rfl, ?_⟩) ?_ ?_
  rotate_left
  · intro w'
    go_simp
    with_reducible rfl
  rotate_left
  · simp only [Act.put, List.setIfInBounds_toArray, List.set_cons_zero, List.set_cons_succ, i64_w, i32_w]
    rfl
  refine pure_ (i := 2) (N := some 7) (v := ?_) (a' := ?_) #[true, true, true, false, false, false, false, false, false, false, false] rfl rfl (by kernel_rfl) (fun _ _ _ h => h) (Or.inl ⟨by rfl, ?_⟩) ?_ ?_
  rotate_left
  · intro w'
    go_simp
    with_reducible rfl
  rotate_left
  · simp only [Act.put, List.setIfInBounds_toArray, List.set_cons_zero, List.set_cons_succ, i64_w, i32_w]
    rfl
  refine pure_ (i := 3) (N := some 8) (v := ?_) (a' := ?_) #[true, true, true, true, false, false, false, false, false, false, false] rfl rfl (by kernel_rfl) (fun _ _ _ h => h) (Or.inl ⟨by rfl, ?_⟩) ?_ ?_
  rotate_left
  · intro w'
    go_simp
    with_reducible rfl
  rotate_left
  · simp only [Act.put, List.setIfInBounds_toArray, List.set_cons_zero, List.set_cons_succ, i64_w, i32_w]
    rfl
  refine take_ (i := 4) (N := some 9) (v := ?_) (a' := ?_) #[true, true, true, true, true, false, false, false, false, false, false] rfl rfl (by kernel_rfl) (fun _ _ _ h => h) (Or.inl ⟨by rfl, ?_⟩) hHeld ?_ ?_
  rotate_left
  · rintro w' ⟨s0_, s1_, s2_, s3_, s4_⟩
    go_simp
    with_reducible rfl
  rotate_left
  · simp only [Act.put, List.setIfInBounds_toArray, List.set_cons_zero, List.set_cons_succ, i64_w, i32_w]
    rfl
  refine take_ (i := 5) (N := some 10) (v := ?_) (a' := ?_) #[true, true, true, true, true, true, false, false, false, false, false] rfl rfl (by kernel_rfl) (fun _ _ _ h => h) (Or.inl ⟨by rfl, ?_⟩) hHeld ?_ ?_
  rotate_left
  · rintro w' ⟨s0_, s1_, s2_, s3_, s4_⟩
    go_simp
    with_reducible rfl
  rotate_left
  · simp only [Act.put, List.setIfInBounds_toArray, List.set_cons_zero, List.set_cons_succ, i64_w, i32_w]
    rfl
  refine one_ (i := 6) (N := some 11) #[true, true, true, true, true, true, true, false, false, false, false] rfl rfl (by kernel_rfl) (by decide) (fun K hK => ?_)
  refine value_ (w1 := W2.alloc (.cells #[.int .i64 f0, .slice Ax f1.length cx, .int .i64 f2, .int .i64 f3] 39)) (v := .slice (some ⟨W2.heap.size, 0, none⟩) 1 1) (by rfl) rfl ?_ ?_
  · first | (go_simp; done) | (go_simp; rfl)
  refine hK.out _ _ ⟨cell_later (below_alloc (Below.refl _ _) _) hHeld.1, cell_later (below_alloc (Below.refl _ _) _) hHeld.2.1, cell_later (below_alloc (Below.refl _ _) _) hHeld.2.2.1, cell_later (below_alloc (Below.refl _ _) _) hHeld.2.2.2.1, cell_later (below_alloc (Below.refl _ _) _) hHeld.2.2.2.2⟩ (fun hHeld => ?_)
  clear hK K
  refine norm_ (a' := ?_) ?_ ?_
  rotate_left
  · show Act.put _ (some 11) _ = _
    simp only [Act.put, List.setIfInBounds_toArray, List.set_cons_zero, List.set_cons_succ, i64_w, i32_w]
    rfl
  refine one_ (i := 7) (N := some 12) #[true, true, true, true, true, true, true, true, false, false, false] rfl rfl (by kernel_rfl) (by decide) (fun K hK => ?_)
  refine inst_step B (by rfl) _ _ (by rfl) (.slice Av p.length cv) p (⟨f0, f1, f2, f3⟩ : S39) [.int .i64 f0, .slice Ax f1.length cx, .int .i64 f2, .int .i64 f3] (by rfl) (by rfl) HM1.out HR1.out (by have := HG.out; have := blk_lt HK1.out; omega) (by omega) ?_
  intro v1 w1 hR1 hB1 hg1 hat1
  obtain ⟨A1, c1, rfl⟩ := Kd.R_slice hR1
  rw [show (p ++ [(⟨f0, f1, f2, f3⟩ : S39)]).length = p.length + 1 from by simp] at hR1 hat1
  have hk1 := blk_grown HK1.out hg1 HNE.out
  have hs1 := blk_grown HS.out hg1 (fun e => by have := HLT.out gs e.symm; omega)
  have v0g := blk_frozen hk1 0
  have u0g : w1.cell? ⟨g, 0, none⟩ = some (.slice Av p.length cv) := blk_cell hk1 0
  have HRN := Aside0.mk hR1
  have HBN := Aside0.mk hB1
  have HGN := Aside0.mk hg1
  have HAN := Aside0.mk hat1
  have HKN := Aside0.mk hk1
  clear hR1 hB1 hg1 hat1
  refine hK.out _ _ ⟨blk_cell hk1 0, blk_cell hs1 0, blk_cell hs1 1, blk_cell hs1 2, blk_cell hs1 3⟩ (fun hHeld => ?_)
  clear hK K
  refine norm_ (a' := ?_) ?_ ?_
  rotate_left
  · show Act.put _ (some 12) _ = _
    simp only [Act.put, List.setIfInBounds_toArray, List.set_cons_zero, List.set_cons_succ, i64_w, i32_w]
    rfl
  clear hk1 hs1 hHeld
  refine pure_ (i := 8) (N := some 13) (v := ?_) (a' := ?_) #[true, true, true, true, true, true, true, true, true, false, false] rfl rfl (by kernel_rfl) (fun _ _ _ h => h) (Or.inl ⟨by rfl, ?_⟩) ?_ ?_
  rotate_left
  · intro w'
    go_simp
    with_reducible rfl
  rotate_left
  · simp only [Act.put, List.setIfInBounds_toArray, List.set_cons_zero, List.set_cons_succ, i64_w, i32_w]
    rfl
  refine pure_ (i := 9) (N := some 14) (v := ?_) (a' := ?_) #[true, true, true, true, true, true, true, true, true, true, false] rfl rfl (by kernel_rfl) (fun _ _ _ h => h) (Or.inl ⟨by rfl, ?_⟩) ?_ ?_
  rotate_left
  · intro w'
    go_simp
    with_reducible rfl
  rotate_left
  · simp only [Act.put, List.setIfInBounds_toArray, List.set_cons_zero, List.set_cons_succ, i64_w, i32_w]
    rfl
  refine last_ (i := 10) (N := none) #[true, true, true, true, true, true, true, true, true, true, true] rfl rfl (by kernel_rfl) (by decide) (fun K hK => ?_)
  refine skip_ (w1 := ?_) (by rfl) rfl ?_ ?_
  rotate_left
  · go_simp
    rfl
  refine hK.out _ _ ?_
  clear hK K
  refine done_ (by kernel_rfl) ?_
  have x0g : (w1.setCell ⟨g, 0, none⟩ (.slice A1 (p.length + 1) c1)).cell? ⟨g, 0, none⟩ = some (.slice A1 (p.length + 1) c1) := blk_cell (blk_set HKN.out 0 _) 0
  go_wp2
  go_ret
  have hb2 : B ≤ w.heap.size := by
    have := HG.out
    have := HGL.out
    have := HGS.out
    omega
  refine ⟨rfl, .slice A1 (p.length + 1) c1, blk_set HKN.out 0 _, Kd.R_set HRN.out HKN.out (by decide) 0 _, ((KeepBut.of_below HB1.out g _).trans (KeepBut.of_grown HGN.out g) (.inl rfl)).set_ 0 _, ?_, ((HB1.out.mono hb2).trans HBN.out).setCell HG.out _⟩
  rcases HAN.out with h | ⟨b, h1, h2⟩
  · exact .inl h
  · exact .inr ⟨b, h1, by have := HB1.out.size; omega⟩
end Go.Proofs.Ytbbplchdgedhcaa.P
namespace Go.Proofs.Ytbbplchdgedhcaa.P
open Go.RowKit Go.Proofs.YtbbplchdgedhcaaW.PrintWords Go.Proofs.YtbbplchdgedhcaaW.PrintLast
set_option linter.unusedVariables false
set_option linter.unusedSimpArgs false

/-- Other rows stay, by their types. -/
theorem R_keepT {α : Type} {d : Kd α} {e : Nat} {w w1 : World} {base : Nat} {ok : Nat → Prop} {v : Value} {xs : List α} {g t t' : Nat} {row : Option Nat} {cs : Array Value} (h : d.R e w base ok v xs) (hk : KeepBut w w1 g row) (hg : w.heap[g]? = some (.cells cs t (0, 0)))
    (hr : ∀ k, row = some k → ∃ cs, w.heap[k]? = some (.cells cs t' (0, 0))) (ht : ∀ q, q ∈ e :: d.E → q ≠ t ∧ q ≠ t') : d.R e w1 base ok v xs := by
  refine Kd.R_mono (Kd.R_move (Kd.R_bound h) (fun k hk' => ?_)) (fun _ hk' => hk'.1)
  obtain ⟨_, _, hlt, q, hq, cells, hc⟩ := hk'
  refine hk.2 k hlt ?_ ?_
  · rintro rfl
    rw [hc] at hg
    injection hg with hg
    injection hg with _ hg
    exact (ht q hq).1 hg
  · intro he
    obtain ⟨cs', hc'⟩ := hr k he.symm
    rw [hc] at hc'
    injection hc' with hc'
    injection hc' with _ hc'
    exact (ht q hq).2 hc'
/-- A block of another type stays. -/
theorem blk_keepT {w w1 : World} {g t t' u : Nat} {row : Option Nat} {cs cs' : Array Value} {b : Nat} (hb : w.heap[b]? = some (.cells cs' u (0, 0))) (hk : KeepBut w w1 g row) (hg : w.heap[g]? = some (.cells cs t (0, 0))) (hr : ∀ k, row = some k → ∃ cs, w.heap[k]? = some (.cells cs t' (0, 0))) (h1 : u ≠ t) (h2 : u ≠ t') : w1.heap[b]? = some (.cells cs' u (0, 0)) := by
  refine (hk.2 b (blk_lt hb) (blk_ne hb hg h1) ?_).trans hb
  intro he
  obtain ⟨cs'', hc⟩ := hr b he.symm
  rw [hb] at hc
  injection hc with hc
  injection hc with _ hc
  exact h2 hc
set_option maxHeartbeats 4000000 in
set_option maxRecDepth 100000 in
theorem split_calls (B g : Nat) (w : World) (v : Value) (p : List S39) (hg : B ≤ g) (hk : w.heap[g]? = some (.cells #[v] 44 (0, 0))) (hR : k39.R 39 w B (fun _ => True) v p) (hl : p.length < 1099511627776) :
    Calls Try.prog 38 #[.pointer (some ⟨g, 0, none⟩)] w fun e w' => e = .returned (.int .i64 (p.length : Int)) ∧ CompSt B g w w' v (p ++ [⟨2, [], (p.length : Int) + 1, 0⟩]) := by
  have hct := lay_calls B g w v p ⟨2, [], (p.length : Int) + 1, 0⟩ (.slice none 0 0) hg hk hR (Kd.R_nil _ _ _ _ _) hl
  obtain ⟨Av, cv, rfl⟩ := Kd.R_slice hR
  have hu := Try.underlying39
  have t0 : w.cell? ⟨g, 0, none⟩ = some (.slice Av p.length cv) := blk_cell hk 0
  have i1 : IntKind.i64.wrap ((p.length : Int) + 1) = (p.length : Int) + 1 := by rw [IntKind.wrap_i64]; omega
  have HL := Aside0.mk hl
  clear hk hR
  go_enter Try.func38, Try.ntmps38
  go_wp2_with (go_at_call 21; (with_reducible refine hct.mono ?_); rintro e w' ⟨rfl, hst⟩; have HST := Aside0.mk hst; clear hst)
  go_ret
  exact ⟨rfl, HST.out⟩
/-- An instruction goes on at n, else. -/
def altP (n : Int) (p : List S39) (j : Int) : List S39 := p.set j.toNat ⟨(p.getD j.toNat z39).f0, (p.getD j.toNat z39).f1, (p.getD j.toNat z39).f2, n⟩
theorem altP_length (n : Int) (p : List S39) (j : Int) : (altP n p j).length = p.length := by simp [altP]
theorem alts_length (n : Int) : ∀ (js : List Int) (p : List S39), (js.foldl (altP n) p).length = p.length
  | [], _ => rfl
  | j :: js, p => by rw [List.foldl_cons, alts_length n js, altP_length]
theorem sa_take (xs : List Int) (i : Nat) (h : i < xs.length) : xs.take (i + 1) = xs.take i ++ [rd xs (i : Int)] := by
  unfold rd
  rw [Int.toNat_natCast, List.getD_eq_getElem?_getD, List.getElem?_eq_getElem h, Option.getD_some]
  exact List.take_succ_eq_append_getElem h
theorem sa_mem (xs : List Int) (i : Nat) (h : i < xs.length) : rd xs (i : Int) ∈ xs := by
  unfold rd
  rw [Int.toNat_natCast, List.getD_eq_getElem?_getD, List.getElem?_eq_getElem h, Option.getD_some]
  exact List.getElem_mem h
theorem sa_wrap (i : Nat) (h : i < 9223372036854775807) : wrap64 ((i : Int) + 1) = ((i + 1 : Nat) : Int) := by
  unfold wrap64
  omega
set_option maxHeartbeats 4000000 in
set_option maxRecDepth 100000 in
theorem alts_calls (B g : Nat) (w : World) (v : Value) (p : List S39) (A : Option Addr) (c : Nat) (js : List Int) (hg : B ≤ g) (hk : w.heap[g]? = some (.cells #[v] 44 (0, 0))) (hR : k39.R 39 w B (fun _ => True) v p) (hJ : (Kd.int .i64).R 3 w B (fun _ => True) (.slice A js.length c) js) (hj : ∀ j ∈ js, 0 ≤ j ∧ j < (p.length : Int)) :
    Calls Try.prog 39 #[.pointer (some ⟨g, 0, none⟩), .slice A js.length c] w fun e w' => e = .returned (.tuple #[]) ∧ CompSt B g w w' v (js.foldl (altP (p.length : Int)) p) := by
  have HL := Aside0.mk (Kd.C_max (Kd.R_reads' hJ).2.2)
  have HJ0 := Aside0.mk hJ
  have HR0 := Aside0.mk hR
  have HK0 := Aside0.mk hk
  have HJJ := Aside0.mk hj
  have HG := Aside0.mk hg
  clear hk hR hJ hj hg
  have hui := Try.underlying39
  go_enter Try.func39, Try.ntmps39
  go_wp2
  go_loopw [8] (fun s8 wr => ∃ i : Nat, s8 = .int .i64 (i : Int) ∧ i ≤ js.length ∧ Aside0 (wr.heap[g]? = some (.cells #[v] 44 (0, 0))) ∧ Aside0 (k39.R 39 wr B (fun _ => True) v ((js.take i).foldl (altP (p.length : Int)) p)) ∧ Aside0 (KeepBut w wr g v.ownBlock) ∧ Aside0 (Below B w wr) ∧ Aside0 ((Kd.int .i64).R 3 wr B (fun _ => True) (.slice A js.length c) js)) (fun s8 wr => js.length - (intOf s8).toNat)
  case atStart => exact ⟨0, rfl, by omega, HK0, HR0, ⟨KeepBut.refl _ _ _⟩, ⟨Below.refl _ _⟩, HJ0⟩
  case round =>
    obtain ⟨i, rfl, hi, HK, HR, KB, HB, HJ⟩ := hrel
    by_cases h : i < js.length
    · have hjm := HJJ.out _ (sa_mem js i h)
      have hts := sa_take js i h
      obtain ⟨ad, e, hx⟩ := Kd.at_int (Kd.R_reads' HJ.out).2.2 (i : Int) (by omega) (by omega)
      cases e
      rw [Int.toNat_natCast] at hx
      obtain ⟨j, hjj⟩ : ∃ j, rd js (i : Int) = j := ⟨_, rfl⟩
      rw [hjj] at hx hjm hts
      obtain ⟨pp, hpp⟩ : ∃ pp, (js.take i).foldl (altP (p.length : Int)) p = pp := ⟨_, rfl⟩
      have hpl : pp.length = p.length := by rw [← hpp]; exact alts_length _ _ _
      have hnx : (js.take (i + 1)).foldl (altP (p.length : Int)) p = altP (p.length : Int) pp j := by rw [hts, List.foldl_append, hpp]; rfl
      rw [hpp] at HR
      have hR := HR.out
      obtain ⟨go, cap, hv, _, _, _⟩ := Kd.R_form hR (by omega)
      rw [hpl] at hv
      subst hv
      obtain ⟨ce, hcl, hM, hcc, hfr⟩ := Kd.R_elem hR z39 j hjm.1 hjm.2
      obtain ⟨x, hxx⟩ : ∃ x, pp.getD j.toNat z39 = x := ⟨_, rfl⟩
      rw [hxx] at hM
      obtain ⟨v1, rfl, hv1⟩ := k39_openM hM
      obtain ⟨Ax, cx, rfl⟩ := Kd.R_slice hv1
      have hnx2 : altP (p.length : Int) pp j = pp.set j.toNat ⟨x.f0, x.f1, x.f2, (p.length : Int)⟩ := by unfold altP; rw [hxx]
      obtain ⟨x0, x1, x2, x3⟩ := x
      dsimp only at hM hcc hv1 hnx2
      have hc3 : wr.cell? ⟨go, j.toNat * 4 + 3, none⟩ = some (.int .i64 x3) := hcc 3 _ rfl
      have hf3 : wr.frozen? ⟨go, j.toNat * 4 + 3, none⟩ = false := hfr 3
      have hg0 : wr.cell? ⟨g, 0, none⟩ = some (.slice (some ⟨go, 0, none⟩) p.length cap) := blk_cell HK.out 0
      have HM := Aside0.mk hM
      have HCC : Aside0 (∀ (j_ : Nat) (u : Value), ([.int .i64 x0, .slice Ax x1.length cx, .int .i64 x2, .int .i64 x3] : List Value)[j_]? = some u → wr.cell? ⟨go, j.toNat * 4 + j_, none⟩ = some u) := ⟨hcc⟩
      have HPL := Aside0.mk hpl
      have HNX := Aside0.mk (hnx.trans hnx2)
      have HJM := Aside0.mk hjm
      have h1 : decide ((i : Int) < (js.length : Int)) = true := decide_eq_true (by omega)
      have h2 : ((0 : Int) ≤ (i : Int)) = True := eq_true (by omega)
      have h3 : ((i : Int) < (js.length : Int)) = True := eq_true (by omega)
      have h4 : ((0 : Int) ≤ j) = True := eq_true hjm.1
      have h5 : (j < (p.length : Int)) = True := eq_true hjm.2
      clear hjm hts hjj hpp hpl hnx hnx2 hR hM hcc hfr hxx hcl hv1
      go_wp2
      refine start_ (n := 13) (S := fun w' => w'.cell? ⟨g, 0, none⟩ = some (.slice (some ⟨go, 0, none⟩) p.length cap)) (ds := [12]) #[false, false, false, false, false, false, false, false, false, false, false, false, false] (by kernel_rfl) rfl rfl hg0 (fun hHeld => ?_)
      have n0_ := Aside0.mk (blk_drew HK.out)
      have n1_ := Aside0.mk (Kd.R_drew HR.out)
      have n2_ := Aside0.mk (KB.out.trans (KeepBut.of_below (below_drew (Below.refl wr.heap.size wr)) g _) (.inl rfl))
      have n3_ := Aside0.mk (below_drew HB.out)
      have n4_ := Aside0.mk (Kd.R_drew HJ.out)
      have n5_ : wr.drew.cell? ⟨go, j.toNat * 4 + 3, none⟩ = some (.int .i64 x3) := hc3
      have n6_ : wr.drew.frozen? ⟨go, j.toNat * 4 + 3, none⟩ = false := hf3
      have n7_ := Aside0.mk (below_drew (Below.refl B wr))
      clear HK HR KB HB HJ hc3 hf3 hg0
      have HK := n0_
      have HR := n1_
      have KB := n2_
      have HB := n3_
      have HJ := n4_
      have hc3 := n5_
      have hf3 := n6_
      clear n0_ n1_ n2_ n3_ n4_ n5_ n6_
      have HM1 := Aside0.mk (Kd.M_below HM.out (below_drew (Below.refl wr.heap.size wr)))
      have HCC1 : Aside0 (∀ (j_ : Nat) (u : Value), ([.int .i64 x0, .slice Ax x1.length cx, .int .i64 x2, .int .i64 x3] : List Value)[j_]? = some u → wr.drew.cell? ⟨go, j.toNat * 4 + j_, none⟩ = some u) := ⟨HCC.out⟩
      clear HM HCC n7_
      generalize wr.drew = W2 at HK HR KB HB HJ hc3 hf3 HM1 HCC1 hHeld ⊢
      refine pure_ (i := 0) (N := some 12) (v := ?_) (a' := ?_) #[true, false, false, false, false, false, false, false, false, false, false, false, false] rfl rfl (by kernel_rfl) (fun _ _ _ h => h) (Or.inl ⟨by rfl, ?_⟩) ?_ ?_
      rotate_left
      · intro w'
        go_simp
        with_reducible rfl
      rotate_left
      · simp only [Act.put, List.setIfInBounds_toArray, List.set_cons_zero, List.set_cons_succ, i64_w, i32_w]
        rfl
      refine pure_ (i := 1) (N := some 13) (v := ?_) (a' := ?_) #[true, true, false, false, false, false, false, false, false, false, false, false, false] rfl rfl (by kernel_rfl) (fun _ _ _ h => h) (Or.inl ⟨by rfl, ?_⟩) ?_ ?_
      rotate_left
      · intro w'
        go_simp
        with_reducible rfl
      rotate_left
      · simp only [Act.put, List.setIfInBounds_toArray, List.set_cons_zero, List.set_cons_succ, i64_w, i32_w]
        rfl
      refine pure_ (i := 2) (N := some 14) (v := ?_) (a' := ?_) #[true, true, true, false, false, false, false, false, false, false, false, false, false] rfl rfl (by kernel_rfl) (fun _ _ _ h => h) (Or.inl ⟨by rfl, ?_⟩) ?_ ?_
      rotate_left
      · intro w'
        go_simp
        with_reducible rfl
      rotate_left
      · simp only [Act.put, List.setIfInBounds_toArray, List.set_cons_zero, List.set_cons_succ, i64_w, i32_w]
        rfl
      refine pure_ (i := 4) (N := some 16) (v := ?_) (a' := ?_) #[true, true, true, false, true, false, false, false, false, false, false, false, false] rfl rfl (by kernel_rfl) (fun _ _ _ h => h) (Or.inl ⟨by rfl, ?_⟩) ?_ ?_
      rotate_left
      · intro w'
        go_simp
        with_reducible rfl
      rotate_left
      · simp only [Act.put, List.setIfInBounds_toArray, List.set_cons_zero, List.set_cons_succ, i64_w, i32_w]
        rfl
      refine pure_ (i := 5) (N := some 17) (v := ?_) (a' := ?_) #[true, true, true, false, true, true, false, false, false, false, false, false, false] rfl rfl (by kernel_rfl) (fun _ _ _ h => h) (Or.inl ⟨by rfl, ?_⟩) ?_ ?_
      rotate_left
      · intro w'
        go_simp
        with_reducible rfl
      rotate_left
      · simp only [Act.put, List.setIfInBounds_toArray, List.set_cons_zero, List.set_cons_succ, i64_w, i32_w]
        rfl
      refine pure_ (i := 6) (N := some 18) (v := ?_) (a' := ?_) #[true, true, true, false, true, true, true, false, false, false, false, false, false] rfl rfl (by kernel_rfl) (fun _ _ _ h => h) (Or.inl ⟨by rfl, ?_⟩) ?_ ?_
      rotate_left
      · intro w'
        go_simp
        with_reducible rfl
      rotate_left
      · simp only [Act.put, List.setIfInBounds_toArray, List.set_cons_zero, List.set_cons_succ, i64_w, i32_w]
        rfl
      refine pure_ (i := 7) (N := some 19) (v := ?_) (a' := ?_) #[true, true, true, false, true, true, true, true, false, false, false, false, false] rfl rfl (by kernel_rfl) (fun _ _ _ h => h) (Or.inl ⟨by rfl, ?_⟩) ?_ ?_
      rotate_left
      · intro w'
        go_simp
        with_reducible rfl
      rotate_left
      · simp only [Act.put, List.setIfInBounds_toArray, List.set_cons_zero, List.set_cons_succ, i64_w, i32_w]
        rfl
      refine take_ (i := 3) (N := some 15) (v := ?_) (a' := ?_) #[true, true, true, true, true, true, true, true, false, false, false, false, false] rfl rfl (by kernel_rfl) (fun _ _ _ h => h) (Or.inl ⟨by rfl, ?_⟩) hHeld ?_ ?_
      rotate_left
      · rintro w' s0
        go_simp
        with_reducible rfl
      rotate_left
      · simp only [Act.put, List.setIfInBounds_toArray, List.set_cons_zero, List.set_cons_succ, i64_w, i32_w]
        rfl
      refine take_ (i := 8) (N := some 20) (v := ?_) (a' := ?_) #[true, true, true, true, true, true, true, true, true, false, false, false, false] rfl rfl (by kernel_rfl) (fun _ _ _ h => h) (Or.inl ⟨by rfl, ?_⟩) hHeld ?_ ?_
      rotate_left
      · rintro w' s0
        go_simp
        with_reducible rfl
      rotate_left
      · simp only [Act.put, List.setIfInBounds_toArray, List.set_cons_zero, List.set_cons_succ, i64_w, i32_w]
        rfl
      refine pure_ (i := 9) (N := some 21) (v := ?_) (a' := ?_) #[true, true, true, true, true, true, true, true, true, true, false, false, false] rfl rfl (by kernel_rfl) (fun _ _ _ h => h) (Or.inl ⟨by rfl, ?_⟩) ?_ ?_
      rotate_left
      · intro w'
        go_simp
        with_reducible rfl
      rotate_left
      · simp only [Act.put, List.setIfInBounds_toArray, List.set_cons_zero, List.set_cons_succ, i64_w, i32_w]
        rfl
      refine pure_ (i := 10) (N := some 22) (v := ?_) (a' := ?_) #[true, true, true, true, true, true, true, true, true, true, true, false, false] rfl rfl (by kernel_rfl) (fun _ _ _ h => h) (Or.inl ⟨by rfl, ?_⟩) ?_ ?_
      rotate_left
      · intro w'
        go_simp
        with_reducible rfl
      rotate_left
      · simp only [Act.put, List.setIfInBounds_toArray, List.set_cons_zero, List.set_cons_succ, i64_w, i32_w]
        rfl
      refine pure_ (i := 11) (N := some 23) (v := ?_) (a' := ?_) #[true, true, true, true, true, true, true, true, true, true, true, true, false] rfl rfl (by kernel_rfl) (fun _ _ _ h => h) (Or.inl ⟨by rfl, ?_⟩) ?_ ?_
      rotate_left
      · intro w'
        go_simp
        with_reducible rfl
      rotate_left
      · simp only [Act.put, List.setIfInBounds_toArray, List.set_cons_zero, List.set_cons_succ, i64_w, i32_w]
        rfl
      refine last_ (i := 12) (N := none) #[true, true, true, true, true, true, true, true, true, true, true, true, true] rfl rfl (by kernel_rfl) (by decide) (fun K hK => ?_)
      refine skip_ (w1 := ?_) (by rfl) rfl ?_ ?_
      rotate_left
      · go_simp
        rfl
      refine hK.out _ _ ?_
      clear hK K
      refine done_ (by kernel_rfl) ?_
      obtain ⟨hR2, hG2⟩ := Kd.R_seg (seg := [.int .i64 (p.length : Int)]) (j := 3) (x' := (⟨x0, x1, x2, (p.length : Int)⟩ : S39)) (okp := fun k => True ∧ k ≠ go) HR.out j HJM.out.1 (by have := HJM.out.2; exact this) rfl HCC1.out (Nat.le_refl 4) (by
        obtain ⟨v1, he, hv1⟩ := k39_openM HM1.out
        obtain rfl : Value.slice Ax x1.length cx = v1 := by injection he with _ he; injection he
        exact k39_mkM _ _ _ (⟨x0, x1, x2, (p.length : Int)⟩ : S39) hv1) (fun _ hk => hk)
      have HR3 := Aside0.mk hR2
      have HG3 := Aside0.mk hG2
      have hkk := blk_grown HK.out hG2 (Kd.R_ne HR.out HK.out (by decide))
      have HK3 := Aside0.mk hkk
      have HJ3 := Aside0.mk (Kd.R_over' HJ.out (v := .slice (some ⟨go, 0, none⟩) p.length cap) (fun k hk => Kd.R_typed HR.out k hk) (by decide) (by exact hG2))
      clear hR2 hG2 hkk
      go_wp2
      refine ⟨⟨i + 1, by rw [sa_wrap i (by have := HL.out; omega)], by omega, HK3, ⟨?_⟩, ⟨?_⟩, ⟨?_⟩, HJ3⟩, ?_⟩
      · rw [HNX.out]
        exact HR3.out
      · exact KB.out.trans (KeepBut.of_grown HG3.out g) (.inl rfl)
      · exact HB.out.setCell (by have := Kd.R_base HR.out go (by simp [Value.ownBlock]); exact this) _
      · rw [sa_wrap i (by have := HL.out; omega)]
        show js.length - (((i + 1 : Nat) : Int)).toNat < js.length - ((i : Int)).toNat
        omega
    · have hn : i = js.length := by omega
      subst hn
      have h1 : decide ((js.length : Int) < (js.length : Int)) = false := decide_eq_false (by omega)
      rw [List.take_length] at HR
      go_wp2
      go_end0
      exact ⟨rfl, v, HK.out, HR.out, KB.out, .inl rfl, HB.out⟩
end Go.Proofs.Ytbbplchdgedhcaa.P
namespace Go.Proofs.Ytbbplchdgedhcaa.P
open Go.RowKit Go.Proofs.YtbbplchdgedhcaaW.PrintWords Go.Proofs.YtbbplchdgedhcaaW.PrintLast
set_option linter.unusedVariables false
set_option linter.unusedSimpArgs false

/-- A node as a call takes it. -/
def NodeAt (w : World) (x : S25) (v : Value) : Prop :=
  ∃ A1 c1 A4 c4, v = .agg #[.int .i64 x.f0, .slice A1 x.f1.length c1, .int .i64 x.f2, .int .i64 x.f3, .slice A4 x.f4.length c4] ∧ x.f1.length ≤ c1 ∧ k42.C w A1 x.f1.length x.f1 ∧ x.f4.length ≤ c4 ∧ k25.C w A4 x.f4.length x.f4
theorem NodeAt.below {w w1 : World} {x : S25} {v : Value} (h : NodeAt w x v) (hb : Below w.heap.size w w1) : NodeAt w1 x v := by
  obtain ⟨A1, c1, A4, c4, rfl, l1, g1, l4, g4⟩ := h
  exact ⟨A1, c1, A4, c4, rfl, l1, Kd.C_below g1 hb, l4, Kd.C_below g4 hb⟩
theorem sn_drop {α : Type} (z : α) (xs : List α) (i : Nat) (h : i < xs.length) : xs.drop i = xs.getD i z :: xs.drop (i + 1) := by
  rw [List.getD_eq_getElem?_getD, List.getElem?_eq_getElem h, Option.getD_some]
  exact List.drop_eq_getElem_cons h
theorem sn_wrap (i : Nat) (h : i < 9223372036854775807) : wrap64 ((i : Int) + 1) = ((i + 1 : Nat) : Int) := by
  unfold wrap64
  omega
end Go.Proofs.Ytbbplchdgedhcaa.P
namespace Go.Proofs.Ytbbplchdgedhcaa.P
open Go.RowKit Go.Proofs.YtbbplchdgedhcaaW.PrintWords Go.Proofs.YtbbplchdgedhcaaW.PrintLast
set_option linter.unusedVariables false
set_option linter.unusedSimpArgs false

/-- A list's elements one by one: the first that a test lets ends it. -/
def anyS (t : S25 → Option Bool) : List S25 → Option Bool
  | [] => some false
  | x :: l => (t x).bind fun b => if b = true then some true else anyS t l
/-- May a node be compiled, with all within it, of a depth up to n? -/
def letS : Nat → S25 → Option Bool
  | 0, _ => none
  | n + 1, x => if x.f0 = 1 ∨ x.f0 = 2 ∨ x.f0 = 6 ∨ x.f0 = 7 then some true
      else if x.f0 = 5 ∧ (x.f4.length ≠ 1 ∨ x.f2 < 0 ∨ x.f2 > 20 ∨ x.f3 < -1 ∨ x.f3 > 20 ∨ x.f3 ≥ 0 ∧ x.f3 < x.f2) then some false
      else if x.f0 = 3 ∨ x.f0 = 4 ∨ x.f0 = 5 then (anyS (fun k => (letS n k).map (!·)) x.f4).map (!·)
      else some false
/-- What a call of a function value that captures nothing answers at the nodes of a list. -/
abbrev TestN (g : Nat) (t : S25 → Option Bool) (w : World) : Prop :=
  ∀ (x : S25) (v : Value) (b : Bool) (W : World), Below w.heap.size w W → NodeAt W x v → t x = some b → Calls Try.prog g #[v] W fun e w' => e = .returned (.bool b) ∧ Below W.heap.size W w'

set_option maxHeartbeats 4000000 in
set_option maxRecDepth 100000 in
theorem index_node (g : Nat) (t : S25 → Option Bool) (A0 : Option Addr) (c0 : Nat) (l0 : List S25) (w : World) (r : Bool) (hr0 : k25.C w A0 l0.length l0) (ht : TestN g t w) (hgo : ∀ (v : Value) (W : World), (callFunc g #[v]).run Try.prog W = .ok (.enter g #[v]) W) (h : anyS t l0 = some r) :
    Calls Try.prog 37 #[.slice A0 l0.length c0, .func (.func g) #[] #[]] w fun e w' => (∃ i : Int, e = .returned (.int .i64 i) ∧ decide (i ≥ 0) = r) ∧ Below w.heap.size w w' := by
  have HL := Aside0.mk (Kd.C_max hr0)
  have HR0 := Aside0.mk hr0
  have HT := Aside0.mk ht
  have HH := Aside0.mk h
  clear hr0 ht h
  go_enter Try.func37, Try.ntmps37
  go_wp2
  go_loopw [8] (fun v wr => ∃ i : Nat, v = .int .i64 (i : Int) ∧ i ≤ l0.length ∧ Below w.heap.size w wr ∧ anyS t (l0.drop i) = some r) (fun v wr => l0.length - (intOf v).toNat)
  case atStart => exact ⟨0, rfl, by omega, Below.refl _ _, by simpa using HH.out⟩
  case round =>
    obtain ⟨i, rfl, hi, hB, hidx⟩ := hrel
    have HB := Aside0.mk hB
    by_cases h : i < l0.length
    · obtain ⟨ad, A1, c1, A4, c4, e, h0, h1, h2, h3, h4, q1, q2, q3, q4⟩ := at_T25 (Kd.C_below HR0.out hB) (i : Int) (by omega) (by omega)
      cases e
      rw [Int.toNat_natCast] at h0 h1 h2 h3 h4
      rw [sn_drop z25 l0 i h] at hidx
      have hx : rd_T25 l0 (i : Int) = l0.getD i z25 := rfl
      rw [hx] at h0 h1 h2 h3 h4 q1 q2 q3 q4
      obtain ⟨x, hxx⟩ : ∃ x, l0.getD i z25 = x := ⟨_, rfl⟩
      rw [hxx] at h0 h1 h2 h3 h4 q1 q2 q3 q4 hidx
      have hNA : NodeAt wr x _ := ⟨A1, c1, A4, c4, rfl, q1, q2, q3, q4⟩
      simp only [anyS] at hidx
      obtain ⟨b, hb, hidx⟩ := Option.bind_eq_some_iff.mp hidx
      have hcall := HT.out x _ b wr hB hNA hb
      have H := Aside0.mk hidx
      have p1 : decide ((i : Int) < (l0.length : Int)) = true := decide_eq_true (by omega)
      have p2 : ((0 : Int) ≤ (i : Int)) = True := eq_true (by omega)
      have p3 : ((i : Int) < (l0.length : Int)) = True := eq_true (by omega)
      have hgo1 := hgo (.agg #[.int .i64 x.f0, .slice A1 x.f1.length c1, .int .i64 x.f2, .int .i64 x.f3, .slice A4 x.f4.length c4])
      clear hidx hB hx hxx hb hNA q1 q2 q3 q4
      cases b with
      | true =>
        go_wp2_with (refine hcall.mono ?_; rintro e w' ⟨rfl, hb1⟩; have HB1 := Aside0.mk hb1; clear hb1)
        go_ret
        refine ⟨⟨_, rfl, ?_⟩, below_step HB.out HB1.out⟩
        have := H.out
        first | rw [if_pos rfl] at this | rw [if_pos trivial] at this
        rw [← Option.some.inj this]
        exact decide_eq_true (by omega)
      | false =>
        go_wp2_with (refine hcall.mono ?_; rintro e w' ⟨rfl, hb1⟩; have HB1 := Aside0.mk hb1; clear hb1)
        have hw := sn_wrap i (by have := HL.out; omega)
        refine ⟨⟨i + 1, by rw [hw], by omega, below_step HB.out HB1.out, ?_⟩, ?_⟩
        · have := H.out
          rw [if_neg (by simp)] at this
          exact this
        · rw [hw]
          show l0.length - (((i + 1 : Nat) : Int)).toNat < l0.length - ((i : Int)).toNat
          clear hw
          omega
    · have hn : i = l0.length := by omega
      subst hn
      have p1 : decide ((l0.length : Int) < (l0.length : Int)) = false := decide_eq_false (by omega)
      have H := Aside0.mk hidx
      clear hidx hB
      go_wp2
      go_ret
      refine ⟨⟨_, rfl, ?_⟩, HB.out⟩
      have := H.out
      rw [List.drop_length] at this
      rw [← Option.some.inj this]
      exact decide_eq_false (by omega)
set_option maxHeartbeats 4000000 in
theorem contains_node (g : Nat) (t : S25 → Option Bool) (A0 : Option Addr) (c0 : Nat) (l0 : List S25) (w : World) (r : Bool) (hr0 : k25.C w A0 l0.length l0) (ht : TestN g t w) (hgo : ∀ (v : Value) (W : World), (callFunc g #[v]).run Try.prog W = .ok (.enter g #[v]) W) (h : anyS t l0 = some r) :
    Calls Try.prog 31 #[.slice A0 l0.length c0, .func (.func g) #[] #[]] w fun e w' => e = .returned (.bool r) ∧ Below w.heap.size w w' := by
  have hct := index_node g t A0 c0 l0 w r hr0 ht hgo h
  clear hr0 ht hgo h
  go_enter Try.func31, Try.ntmps31
  go_wp2_with (go_at_call 37; (with_reducible refine hct.mono ?_); rintro e w' ⟨⟨i, rfl, hi⟩, hb⟩; have HB := Aside0.mk hb; have HI := Aside0.mk hi; clear hb hi)
  go_ret
  exact ⟨by rw [HI.out]; rfl, HB.out⟩
/-- nfa.let answers letS, up to a depth. -/
abbrev LetN (n : Nat) : Prop := ∀ (x : S25) (v : Value) (r : Bool) (w : World), NodeAt w x v → letS n x = some r → Calls Try.prog 19 #[v] w fun e w' => e = .returned (.bool r) ∧ Below w.heap.size w w'
theorem go_node (g : Nat) (fn : Func) (hf : Try.prog.funcs[g]? = some fn) (hname : (fn.name == "runtime.NumGoroutine") = false) (hb : fn.body.isSome = true) (v : Value) (W : World) : (callFunc g #[v]).run Try.prog W = .ok (.enter g #[v]) W := enters_ hf hname hb #[v] W
set_option maxHeartbeats 4000000 in
theorem let_not (n : Nat) (ih : LetN n) (w : World) : TestN 32 (fun k => (letS n k).map (!·)) w := by
  intro x v b W _ hN h
  obtain ⟨b', hb', rfl⟩ := Option.map_eq_some_iff.mp h
  have hct := fun W' (hb : Below W.heap.size W W') => ih x v b' W' (hN.below hb) hb'
  obtain ⟨A1, c1, A4, c4, rfl, _⟩ := hN
  have HCT := Aside0.mk hct
  clear hct h hb' ih
  have hu := Try.underlying25
  go_enter Try.func32, Try.ntmps32
  go_wp2_with (go_at_call 19; refine (HCT.out _ (below_alloc (Below.refl _ _) _)).mono ?_; rintro e w' ⟨rfl, hb⟩; have HB := Aside0.mk hb; clear hb)
  go_ret
  exact ⟨rfl, below_step (below_alloc (Below.refl _ _) _) HB.out⟩
set_option maxHeartbeats 4000000 in
theorem let_true (f0 : Int) (A1 : Option Addr) (n1 c1 : Nat) (f2 f3 : Int) (A4 : Option Addr) (n4 c4 : Nat) (w : World) (h : f0 = 1 ∨ f0 = 2 ∨ f0 = 6 ∨ f0 = 7) :
    Calls Try.prog 19 #[.agg #[.int .i64 f0, .slice A1 n1 c1, .int .i64 f2, .int .i64 f3, .slice A4 n4 c4]] w fun e w' => e = .returned (.bool true) ∧ Below w.heap.size w w' := by
  have hu := Try.underlying25
  rcases h with rfl | rfl | rfl | rfl
  all_goals
    go_enter Try.func19, Try.ntmps19
    go_wp2
    go_ret
    exact ⟨rfl, below_alloc (Below.refl _ _) _⟩
set_option maxHeartbeats 4000000 in
theorem let_else (f0 : Int) (A1 : Option Addr) (n1 c1 : Nat) (f2 f3 : Int) (A4 : Option Addr) (n4 c4 : Nat) (w : World) (h1 : f0 ≠ 1) (h2 : f0 ≠ 2) (h6 : f0 ≠ 6) (h7 : f0 ≠ 7) (h3 : f0 ≠ 3) (h4 : f0 ≠ 4) (h5 : f0 ≠ 5) :
    Calls Try.prog 19 #[.agg #[.int .i64 f0, .slice A1 n1 c1, .int .i64 f2, .int .i64 f3, .slice A4 n4 c4]] w fun e w' => e = .returned (.bool false) ∧ Below w.heap.size w w' := by
  have hu := Try.underlying25
  have k1 : (f0 == 1) = false := beq_eq_false_iff_ne.mpr h1
  have k2 : (f0 == 2) = false := beq_eq_false_iff_ne.mpr h2
  have k3 : (f0 == 3) = false := beq_eq_false_iff_ne.mpr h3
  have k4 : (f0 == 4) = false := beq_eq_false_iff_ne.mpr h4
  have k5 : (f0 == 5) = false := beq_eq_false_iff_ne.mpr h5
  have k6 : (f0 == 6) = false := beq_eq_false_iff_ne.mpr h6
  have k7 : (f0 == 7) = false := beq_eq_false_iff_ne.mpr h7
  clear h1 h2 h3 h4 h5 h6 h7
  go_enter Try.func19, Try.ntmps19
  go_wp2
  go_ret
  exact ⟨rfl, below_alloc (Below.refl _ _) _⟩
set_option maxHeartbeats 4000000 in
theorem let_bad (A1 : Option Addr) (n1 c1 : Nat) (f2 f3 : Int) (A4 : Option Addr) (n4 c4 : Nat) (w : World) (h : n4 ≠ 1 ∨ f2 < 0 ∨ f2 > 20 ∨ f3 < -1 ∨ f3 > 20 ∨ f3 ≥ 0 ∧ f3 < f2) :
    Calls Try.prog 19 #[.agg #[.int .i64 5, .slice A1 n1 c1, .int .i64 f2, .int .i64 f3, .slice A4 n4 c4]] w fun e w' => e = .returned (.bool false) ∧ Below w.heap.size w w' := by
  have hu := Try.underlying25
  by_cases a1 : n4 = 1
  rotate_left
  · have k1 : ((n4 : Int) != 1) = true := bne_iff_ne.mpr (by omega)
    clear h a1
    go_enter Try.func19, Try.ntmps19
    go_wp2
    go_ret
    exact ⟨rfl, below_alloc (Below.refl _ _) _⟩
  subst a1
  by_cases a2 : f2 < 0
  · have k2 : decide (f2 < 0) = true := decide_eq_true a2
    clear h a2
    go_enter Try.func19, Try.ntmps19
    go_wp2
    go_ret
    exact ⟨rfl, below_alloc (Below.refl _ _) _⟩
  have k2 : decide (f2 < 0) = false := decide_eq_false a2
  by_cases a3 : f2 > 20
  · have k3 : decide (f2 > 20) = true := decide_eq_true a3
    have k3' : decide (20 < f2) = true := decide_eq_true a3
    clear h a2 a3
    go_enter Try.func19, Try.ntmps19
    go_wp2
    go_ret
    exact ⟨rfl, below_alloc (Below.refl _ _) _⟩
  have k3 : decide (f2 > 20) = false := decide_eq_false a3
  have k3' : decide (20 < f2) = false := decide_eq_false a3
  by_cases a4 : f3 < -1
  · have k4 : decide (f3 < -1) = true := decide_eq_true a4
    clear h a2 a3 a4
    go_enter Try.func19, Try.ntmps19
    go_wp2
    go_ret
    exact ⟨rfl, below_alloc (Below.refl _ _) _⟩
  have k4 : decide (f3 < -1) = false := decide_eq_false a4
  by_cases a5 : f3 > 20
  · have k5 : decide (f3 > 20) = true := decide_eq_true a5
    have k5' : decide (20 < f3) = true := decide_eq_true a5
    clear h a2 a3 a4 a5
    go_enter Try.func19, Try.ntmps19
    go_wp2
    go_ret
    exact ⟨rfl, below_alloc (Below.refl _ _) _⟩
  have k5 : decide (f3 > 20) = false := decide_eq_false a5
  have k5' : decide (20 < f3) = false := decide_eq_false a5
  have k6 : decide (f3 ≥ 0) = true := decide_eq_true (by omega)
  have k6' : decide (0 ≤ f3) = true := decide_eq_true (by omega)
  have k7 : decide (f3 < f2) = true := decide_eq_true (by omega)
  clear h a2 a3 a4 a5
  go_enter Try.func19, Try.ntmps19
  go_wp2
  go_ret
  exact ⟨rfl, below_alloc (Below.refl _ _) _⟩
set_option maxHeartbeats 4000000 in
theorem let_any (f0 : Int) (A1 : Option Addr) (n1 c1 : Nat) (f2 f3 : Int) (A4 : Option Addr) (n4 c4 : Nat) (w : World) (b : Bool) (h0 : f0 = 3 ∨ f0 = 4 ∨ f0 = 5) (h : f0 = 5 → ¬ (n4 ≠ 1 ∨ f2 < 0 ∨ f2 > 20 ∨ f3 < -1 ∨ f3 > 20 ∨ f3 ≥ 0 ∧ f3 < f2))
    (hct : ∀ W, Below w.heap.size w W → Calls Try.prog 31 #[.slice A4 n4 c4, .func (.func 32) #[] #[]] W fun e w' => e = .returned (.bool b) ∧ Below W.heap.size W w') :
    Calls Try.prog 19 #[.agg #[.int .i64 f0, .slice A1 n1 c1, .int .i64 f2, .int .i64 f3, .slice A4 n4 c4]] w fun e w' => e = .returned (.bool (!b)) ∧ Below w.heap.size w w' := by
  have hu := Try.underlying25
  have HCT := Aside0.mk hct
  clear hct
  rcases h0 with rfl | rfl | rfl
  · clear h
    go_enter Try.func19, Try.ntmps19
    go_wp2_with (go_at_call 31; refine (HCT.out _ (below_alloc (Below.refl _ _) _)).mono ?_; rintro e w' ⟨rfl, hb⟩; have HB := Aside0.mk hb; clear hb)
    go_ret
    exact ⟨rfl, below_step (below_alloc (Below.refl _ _) _) HB.out⟩
  · clear h
    go_enter Try.func19, Try.ntmps19
    go_wp2_with (go_at_call 31; refine (HCT.out _ (below_alloc (Below.refl _ _) _)).mono ?_; rintro e w' ⟨rfl, hb⟩; have HB := Aside0.mk hb; clear hb)
    go_ret
    exact ⟨rfl, below_step (below_alloc (Below.refl _ _) _) HB.out⟩
  · have h := h rfl
    obtain rfl : n4 = 1 := by omega
    have k2 : decide (f2 < 0) = false := decide_eq_false (by omega)
    have k3 : decide (f2 > 20) = false := decide_eq_false (by omega)
    have k3' : decide (20 < f2) = false := decide_eq_false (by omega)
    have k4 : decide (f3 < -1) = false := decide_eq_false (by omega)
    have k5 : decide (f3 > 20) = false := decide_eq_false (by omega)
    have k5' : decide (20 < f3) = false := decide_eq_false (by omega)
    by_cases a6 : f3 ≥ 0
    · have k6 : decide (f3 ≥ 0) = true := decide_eq_true a6
      have k6' : decide (0 ≤ f3) = true := decide_eq_true a6
      have k7 : decide (f3 < f2) = false := decide_eq_false (by omega)
      clear h a6
      go_enter Try.func19, Try.ntmps19
      go_wp2_with (go_at_call 31; refine (HCT.out _ (below_alloc (Below.refl _ _) _)).mono ?_; rintro e w' ⟨rfl, hb⟩; have HB := Aside0.mk hb; clear hb)
      go_ret
      exact ⟨rfl, below_step (below_alloc (Below.refl _ _) _) HB.out⟩
    · have k6 : decide (f3 ≥ 0) = false := decide_eq_false a6
      have k6' : decide (0 ≤ f3) = false := decide_eq_false a6
      clear h a6
      go_enter Try.func19, Try.ntmps19
      go_wp2_with (go_at_call 31; refine (HCT.out _ (below_alloc (Below.refl _ _) _)).mono ?_; rintro e w' ⟨rfl, hb⟩; have HB := Aside0.mk hb; clear hb)
      go_ret
      exact ⟨rfl, below_step (below_alloc (Below.refl _ _) _) HB.out⟩
theorem let_calls : ∀ n, LetN n
  | 0 => fun x v r w _ h => by simp [letS] at h
  | n + 1 => by
    intro x v r w hN h
    have ih := let_calls n
    obtain ⟨A1, c1, A4, c4, rfl, l1, g1, l4, g4⟩ := hN
    simp only [letS] at h
    by_cases e1 : x.f0 = 1 ∨ x.f0 = 2 ∨ x.f0 = 6 ∨ x.f0 = 7
    · rw [if_pos e1] at h
      cases h
      exact let_true _ _ _ _ _ _ _ _ _ _ e1
    rw [if_neg e1] at h
    by_cases e2 : x.f0 = 5 ∧ (x.f4.length ≠ 1 ∨ x.f2 < 0 ∨ x.f2 > 20 ∨ x.f3 < -1 ∨ x.f3 > 20 ∨ x.f3 ≥ 0 ∧ x.f3 < x.f2)
    · rw [if_pos e2] at h
      cases h
      rw [e2.1]
      exact let_bad _ _ _ _ _ _ _ _ _ e2.2
    rw [if_neg e2] at h
    by_cases e3 : x.f0 = 3 ∨ x.f0 = 4 ∨ x.f0 = 5
    · rw [if_pos e3] at h
      obtain ⟨b, hb, rfl⟩ := Option.map_eq_some_iff.mp h
      exact let_any _ _ _ _ _ _ _ _ _ _ b e3 (fun h5 hh => e2 ⟨h5, hh⟩) (fun W hW => contains_node _ _ A4 c4 x.f4 W b (Kd.C_below g4 hW) (let_not n ih W) (fun v W => go_node 32 _ Try.func32 (by kernel_rfl) rfl v W) hb)
    · rw [if_neg e3] at h
      cases h
      exact let_else _ _ _ _ _ _ _ _ _ _ (by omega) (by omega) (by omega) (by omega) (by omega) (by omega) (by omega)
end Go.Proofs.Ytbbplchdgedhcaa.P
namespace Go.Proofs.Ytbbplchdgedhcaa.P
open Go.RowKit Go.Proofs.YtbbplchdgedhcaaW.PrintWords Go.Proofs.YtbbplchdgedhcaaW.PrintLast
set_option linter.unusedVariables false
set_option linter.unusedSimpArgs false

abbrev Inst : Type := S39
abbrev Node : Type := S25
/-- An instruction more. -/
def layI (p : List Inst) (x : Inst) : Option (List Inst) := if p.length < 1099511627776 then some (p ++ [x]) else none
def altsC (p : List Inst) (js : List Int) : Option (List Inst) := if ∀ j ∈ js, 0 ≤ j ∧ j < (p.length : Int) then some (js.foldl (altP (p.length : Int)) p) else none
/-- An instruction goes on at n. -/
def toP (n : Int) (p : List Inst) (j : Int) : List Inst := p.set j.toNat ⟨(p.getD j.toNat z39).f0, (p.getD j.toNat z39).f1, n, (p.getD j.toNat z39).f3⟩
def tosC (p : List Inst) (js : List Int) : Option (List Inst) := if ∀ j ∈ js, 0 ≤ j ∧ j < (p.length : Int) then some (js.foldl (toP (p.length : Int)) p) else none
def joinC (f : Node → List Inst → Option (List Inst)) : List Node → List Inst → Option (List Inst)
  | [], p => some p
  | k :: ks, p => (f k p).bind (joinC f ks)
def timesC (f : List Inst → Option (List Inst)) : Nat → List Inst → Option (List Inst)
  | 0, p => some p
  | n + 1, p => (f p).bind (timesC f n)
def orL (f : Node → List Inst → Option (List Inst)) : List Node → List Inst → List Int → Option (List Inst × List Int)
  | [], p, js => some (p, js)
  | k :: ks, p, js => if ks.length = 0 then (f k p).map (·, js) else if js.length < 1099511627776 then
      (layI p ⟨2, [], (p.length : Int) + 1, 0⟩).bind fun p1 => (f k p1).bind fun p2 => (layI p2 ⟨3, [], 0, 0⟩).bind fun p3 => (altsC p3 [(p.length : Int)]).bind fun p4 => orL f ks p4 (js ++ [(p2.length : Int)]) else none
def orC (f : Node → List Inst → Option (List Inst)) (l : List Node) (p : List Inst) : Option (List Inst) := (orL f l p []).bind fun q => tosC q.1 q.2
def optC (f : List Inst → Option (List Inst)) : Nat → List Inst → List Int → Option (List Inst × List Int)
  | 0, p, js => some (p, js)
  | n + 1, p, js => if js.length < 1099511627776 then (layI p ⟨2, [], (p.length : Int) + 1, 0⟩).bind fun p1 => (f p1).bind fun p2 => optC f n p2 (js ++ [(p.length : Int)]) else none
def repC (f : Node → List Inst → Option (List Inst)) (x : Node) (p : List Inst) : Option (List Inst) :=
  if x.f4.length = 0 then none else if 0 ≤ x.f2 ∧ x.f2 ≤ 20 ∧ -1 ≤ x.f3 ∧ x.f3 ≤ 20 then
    (timesC (f (x.f4.getD 0 z25)) x.f2.toNat p).bind fun p1 =>
      if x.f3 < 0 then (layI p1 ⟨2, [], (p1.length : Int) + 1, 0⟩).bind fun p2 => (f (x.f4.getD 0 z25) p2).bind fun p3 => (layI p3 ⟨3, [], (p1.length : Int), 0⟩).bind fun p4 => altsC p4 [(p1.length : Int)]
      else (optC (f (x.f4.getD 0 z25)) (x.f3 - x.f2).toNat p1 []).bind fun q => altsC q.1 q.2
  else none
/-- What a node does to a program, up to a depth. -/
def nodeC : Nat → Node → List Inst → Option (List Inst)
  | 0, _, _ => none
  | n + 1, x, p => if x.f0 = 2 then (if x.f1.length < 8796093022208 then layI p ⟨1, x.f1, 0, 0⟩ else none) else if x.f0 = 6 then layI p ⟨4, [], 0, 0⟩ else if x.f0 = 7 then layI p ⟨5, [], 0, 0⟩
      else if x.f0 = 3 then joinC (nodeC n) x.f4 p else if x.f0 = 4 then orC (nodeC n) x.f4 p else if x.f0 = 5 then repC (nodeC n) x p else some p

/-- How it stands: a program p behind v in block g, since w, where it stood behind u. -/
structure Acc (w0 : World) (g : Nat) (w : World) (u : Value) (wr : World) (v : Value) (p : List Inst) : Prop where
  blk : wr.heap[g]? = some (.cells #[v] 44 (0, 0))
  row : k39.R 39 wr w0.heap.size (fun _ => True) v p
  keep : KeepBut w wr g u.ownBlock
  own : v.ownBlock = u.ownBlock ∨ ∃ b, v.ownBlock = some b ∧ w.heap.size ≤ b
  below : Below w0.heap.size w wr
  all : Below w0.heap.size w0 wr
theorem Acc.start {w0 w : World} {g : Nat} {v : Value} {p : List Inst} (hk : w.heap[g]? = some (.cells #[v] 44 (0, 0))) (hR : k39.R 39 w w0.heap.size (fun _ => True) v p) (hb : Below w0.heap.size w0 w) : Acc w0 g w v w v p :=
  ⟨hk, hR, KeepBut.refl _ _ _, .inl rfl, Below.refl _ _, hb⟩
theorem Acc.step {w0 w wr w2 : World} {g : Nat} {u v : Value} {p q : List Inst} (h : Acc w0 g w u wr v p) (hs : CompSt w0.heap.size g wr w2 v q) : ∃ v2, Acc w0 g w u w2 v2 q := by
  obtain ⟨v2, h1, h2, h3, h4, h5⟩ := hs
  refine ⟨v2, h1, h2, h.keep.trans h3 h.own, ?_, h.below.trans h5, h.all.trans h5⟩
  rcases h4 with h4 | ⟨b, h4, h6⟩
  · rw [h4]
    exact h.own
  · exact .inr ⟨b, h4, by have := h.below.size; omega⟩
theorem Acc.more {w0 w wr w2 : World} {g : Nat} {u v : Value} {p : List Inst} (h : Acc w0 g w u wr v p) (hb : Below wr.heap.size wr w2) : Acc w0 g w u w2 v p :=
  ⟨blk_below h.blk hb, Kd.R_below h.row hb, h.keep.trans (KeepBut.of_below hb g u.ownBlock) (.inl rfl), h.own, h.below.trans (hb.mono h.all.size), h.all.trans (hb.mono h.all.size)⟩
theorem Acc.done {w0 w wr : World} {g : Nat} {u v : Value} {p : List Inst} (h : Acc w0 g w u wr v p) : CompSt w0.heap.size g w wr u p := ⟨v, h.blk, h.row, h.keep, h.own, h.below⟩
theorem Acc.ge {w0 w wr : World} {g : Nat} {u v : Value} {p : List Inst} (h : Acc w0 g w u wr v p) : w0.heap.size ≤ wr.heap.size := h.all.size
/-- Behind a step, a block of another type is as it was. -/
theorem Acc.other {w0 w wr w2 : World} {g b t : Nat} {u v : Value} {p q : List Inst} {cs : Array Value} (h : Acc w0 g w u wr v p) (hs : CompSt w0.heap.size g wr w2 v q) (hb : wr.heap[b]? = some (.cells cs t (0, 0))) (h1 : t ≠ 44) (h2 : t ≠ 39) : w2.heap[b]? = some (.cells cs t (0, 0)) := by
  obtain ⟨v2, _, _, h3, _, _⟩ := hs
  exact blk_keepT hb h3 h.blk (Kd.R_typed h.row) h1 h2
theorem Acc.ints {w0 w wr w2 : World} {g bs : Nat} {u v jv : Value} {p q : List Inst} {js : List Int} (h : Acc w0 g w u wr v p) (hs : CompSt w0.heap.size g wr w2 v q) (hj : (Kd.int .i64).R 3 wr bs (fun _ => True) jv js) : (Kd.int .i64).R 3 w2 bs (fun _ => True) jv js := by
  obtain ⟨v2, _, _, h3, _, _⟩ := hs
  exact R_keepT hj h3 h.blk (Kd.R_typed h.row) (by decide)
/-- A row of numbers of one's own is written. -/
theorem Acc.grow {w0 w wr w1 : World} {g : Nat} {u v jv : Value} {p : List Inst} {js : List Int} (h : Acc w0 g w u wr v p) (hw : w0.heap.size ≤ w.heap.size) (hj : (Kd.int .i64).R 3 wr w.heap.size (fun _ => True) jv js) (hg : wr.grownBy w1 jv.ownBlock) : Acc w0 g w u w1 v p := by
  have ht := Kd.R_typed hj
  have hb := Kd.R_base hj
  have hne : some g ≠ jv.ownBlock := Kd.R_ne hj h.blk (by decide)
  refine ⟨blk_grown h.blk hg hne, Kd.R_over' h.row ht (by decide) hg, ⟨Nat.le_trans h.keep.1 hg.size, fun i hi h1 h2 => ?_⟩, h.own, h.below.grown hg h.ge (fun k hk => by have := hb k hk; omega), h.all.grown hg h.ge (fun k hk => by have := hb k hk; omega)⟩
  have hi2 := h.keep.1
  refine (hg.block i (by omega) (fun e => ?_)).trans (h.keep.2 i hi h1 h2)
  have := hb i e.symm
  omega
theorem blk_ints {wr w1 : World} {bs b t : Nat} {jv : Value} {js : List Int} {cs : Array Value} (hb : wr.heap[b]? = some (.cells cs t (0, 0))) (hj : (Kd.int .i64).R 3 wr bs (fun _ => True) jv js) (hg : wr.grownBy w1 jv.ownBlock) (ht : 3 ≠ t) : w1.heap[b]? = some (.cells cs t (0, 0)) := blk_grown hb hg (Kd.R_ne hj hb ht)
theorem Acc.lay {w0 w wr : World} {g : Nat} {u v : Value} {p q : List Inst} (h : Acc w0 g w u wr v p) (hg : w0.heap.size ≤ g) (x : Inst) (rv : Value) (hx : k42.R 42 wr w0.heap.size (fun _ => True) rv x.f1) (hl : layI p x = some q) :
    Calls Try.prog 21 #[.pointer (some ⟨g, 0, none⟩), .agg #[.int .i64 x.f0, rv, .int .i64 x.f2, .int .i64 x.f3]] wr fun e w' => e = .returned (.int .i64 (p.length : Int)) ∧ CompSt w0.heap.size g wr w' v q := by
  unfold layI at hl
  by_cases c : p.length < 1099511627776
  · rw [if_pos c] at hl
    cases hl
    exact lay_calls _ g wr v p x rv hg h.blk h.row hx c
  · rw [if_neg c] at hl
    cases hl
theorem Acc.split {w0 w wr : World} {g : Nat} {u v : Value} {p q : List Inst} (h : Acc w0 g w u wr v p) (hg : w0.heap.size ≤ g) (hl : layI p ⟨2, [], (p.length : Int) + 1, 0⟩ = some q) :
    Calls Try.prog 38 #[.pointer (some ⟨g, 0, none⟩)] wr fun e w' => e = .returned (.int .i64 (p.length : Int)) ∧ CompSt w0.heap.size g wr w' v q := by
  unfold layI at hl
  by_cases c : p.length < 1099511627776
  · rw [if_pos c] at hl
    cases hl
    exact split_calls _ g wr v p hg h.blk h.row c
  · rw [if_neg c] at hl
    cases hl
theorem Acc.alts {w0 w wr : World} {g : Nat} {u v : Value} {p q : List Inst} (h : Acc w0 g w u wr v p) (hg : w0.heap.size ≤ g) {A : Option Addr} {c : Nat} {js : List Int} (hj : (Kd.int .i64).R 3 wr w0.heap.size (fun _ => True) (.slice A js.length c) js) (hl : altsC p js = some q) :
    Calls Try.prog 39 #[.pointer (some ⟨g, 0, none⟩), .slice A js.length c] wr fun e w' => e = .returned (.tuple #[]) ∧ CompSt w0.heap.size g wr w' v q := by
  unfold altsC at hl
  by_cases d : ∀ j ∈ js, 0 ≤ j ∧ j < (p.length : Int)
  · rw [if_pos d] at hl
    cases hl
    exact alts_calls _ g wr v p A c js hg h.blk h.row hj d
  · rw [if_neg d] at hl
    cases hl
/-- A call of node answers f. -/
abbrev NodeF (f : Node → List Inst → Option (List Inst)) : Prop := ∀ (w0 w wr : World) (g : Nat) (u v : Value) (p q : List Inst) (x : Node) (nv : Value), Acc w0 g w u wr v p → w0.heap.size ≤ g → NodeAt w0 x nv → f x p = some q →
  Calls Try.prog 20 #[.pointer (some ⟨g, 0, none⟩), nv] wr fun e w' => e = .returned (.tuple #[]) ∧ CompSt w0.heap.size g wr w' v q
abbrev OrF (f : Node → List Inst → Option (List Inst)) : Prop := ∀ (w0 w wr : World) (g : Nat) (u v : Value) (p q : List Inst) (A : Option Addr) (c : Nat) (l : List Node), Acc w0 g w u wr v p → w0.heap.size ≤ g → k25.C w0 A l.length l → orC f l p = some q →
  Calls Try.prog 34 #[.pointer (some ⟨g, 0, none⟩), .slice A l.length c] wr fun e w' => e = .returned (.tuple #[]) ∧ CompSt w0.heap.size g wr w' v q
abbrev RepF (f : Node → List Inst → Option (List Inst)) : Prop := ∀ (w0 w wr : World) (g : Nat) (u v : Value) (p q : List Inst) (x : Node) (nv : Value), Acc w0 g w u wr v p → w0.heap.size ≤ g → NodeAt w0 x nv → repC f x p = some q →
  Calls Try.prog 35 #[.pointer (some ⟨g, 0, none⟩), nv] wr fun e w' => e = .returned (.tuple #[]) ∧ CompSt w0.heap.size g wr w' v q
end Go.Proofs.Ytbbplchdgedhcaa.P
namespace Go.Proofs.Ytbbplchdgedhcaa.P
open Go.RowKit Go.Proofs.YtbbplchdgedhcaaW.PrintWords Go.Proofs.YtbbplchdgedhcaaW.PrintLast
set_option linter.unusedVariables false
set_option linter.unusedSimpArgs false

set_option maxHeartbeats 4000000 in
set_option maxRecDepth 100000 in
theorem node_set (w0 w wr : World) (g : Nat) (u v : Value) (p q : List Inst) (A1 : Option Addr) (c1 : Nat) (f1 : List S42) (f2 f3 : Int) (A4 : Option Addr) (c4 : Nat) (f4 : List Node) (h : Acc w0 g w u wr v p) (hg : w0.heap.size ≤ g) (hc : k42.C w0 A1 f1.length f1) (hcc : f1.length ≤ c1) (hf : f1.length < 8796093022208) (hl : layI p ⟨1, f1, 0, 0⟩ = some q) :
    Calls Try.prog 20 #[.pointer (some ⟨g, 0, none⟩), .agg #[.int .i64 2, .slice A1 f1.length c1, .int .i64 f2, .int .i64 f3, .slice A4 f4.length c4]] wr fun e w' => e = .returned (.tuple #[]) ∧ CompSt w0.heap.size g wr w' v q := by
  have hu := Try.underlying25
  have hui := Try.underlying39
  have hs := Acc.start h.blk h.row h.all
  have HA := Aside0.mk (hs.more (below_alloc (Below.refl _ _) (.cells #[.int .i64 2, .slice A1 f1.length c1, .int .i64 f2, .int .i64 f3, .slice A4 f4.length c4] 25)))
  have HC := Aside0.mk hc
  have HF := Aside0.mk (show slices_Clone_Range.f f1 = some f1 from if_pos hf)
  have HL := Aside0.mk hl
  clear h hs hc hf hl
  go_enter Try.func20, Try.ntmps20
  go_wp2_with (first
    | (go_at_call 33; (with_reducible refine (slices_Clone_Range.calls _ _ f1 f1 _ ?s1 hcc HF.out).mono ?_); (case s1 => exact Kd.C_below HC.out HA.out.all); rintro e w2 ⟨rv, rfl, hrv, hb⟩; have HA2 := Aside0.mk (HA.out.more hb); have HRV := Aside0.mk (Kd.R_lower hrv HA.out.ge); obtain ⟨Ar, cr, rfl⟩ := Kd.R_slice hrv; clear hrv hb)
    | (go_at_call 21; (with_reducible refine (HA2.out.lay hg ⟨1, f1, 0, 0⟩ _ HRV.out HL.out).mono ?_); rintro e w3 ⟨rfl, hst⟩; have HST := Aside0.mk hst; clear hst))
  go_end0
  obtain ⟨v2, h2⟩ := HA2.out.step HST.out
  exact ⟨rfl, h2.done⟩
set_option maxHeartbeats 4000000 in
set_option maxRecDepth 100000 in
theorem node_start (w0 w wr : World) (g : Nat) (u v : Value) (p q : List Inst) (A1 : Option Addr) (c1 : Nat) (f1 : List S42) (f2 f3 : Int) (A4 : Option Addr) (c4 : Nat) (f4 : List Node) (h : Acc w0 g w u wr v p) (hg : w0.heap.size ≤ g) (hl : layI p ⟨4, [], 0, 0⟩ = some q) :
    Calls Try.prog 20 #[.pointer (some ⟨g, 0, none⟩), .agg #[.int .i64 6, .slice A1 f1.length c1, .int .i64 f2, .int .i64 f3, .slice A4 f4.length c4]] wr fun e w' => e = .returned (.tuple #[]) ∧ CompSt w0.heap.size g wr w' v q := by
  have hu := Try.underlying25
  have hui := Try.underlying39
  have hs := Acc.start h.blk h.row h.all
  have HA := Aside0.mk (hs.more (below_alloc (Below.refl _ _) (.cells #[.int .i64 6, .slice A1 f1.length c1, .int .i64 f2, .int .i64 f3, .slice A4 f4.length c4] 25)))
  have HL := Aside0.mk hl
  clear h hs hl
  go_enter Try.func20, Try.ntmps20
  go_wp2_with (go_at_call 21; (with_reducible refine (HA.out.lay hg ⟨4, [], 0, 0⟩ _ (Kd.R_nil _ _ _ _ _) HL.out).mono ?_); rintro e w3 ⟨rfl, hst⟩; have HST := Aside0.mk hst; clear hst)
  go_end0
  obtain ⟨v2, h2⟩ := HA.out.step HST.out
  exact ⟨rfl, h2.done⟩
set_option maxHeartbeats 4000000 in
set_option maxRecDepth 100000 in
theorem node_stop (w0 w wr : World) (g : Nat) (u v : Value) (p q : List Inst) (A1 : Option Addr) (c1 : Nat) (f1 : List S42) (f2 f3 : Int) (A4 : Option Addr) (c4 : Nat) (f4 : List Node) (h : Acc w0 g w u wr v p) (hg : w0.heap.size ≤ g) (hl : layI p ⟨5, [], 0, 0⟩ = some q) :
    Calls Try.prog 20 #[.pointer (some ⟨g, 0, none⟩), .agg #[.int .i64 7, .slice A1 f1.length c1, .int .i64 f2, .int .i64 f3, .slice A4 f4.length c4]] wr fun e w' => e = .returned (.tuple #[]) ∧ CompSt w0.heap.size g wr w' v q := by
  have hu := Try.underlying25
  have hui := Try.underlying39
  have hs := Acc.start h.blk h.row h.all
  have HA := Aside0.mk (hs.more (below_alloc (Below.refl _ _) (.cells #[.int .i64 7, .slice A1 f1.length c1, .int .i64 f2, .int .i64 f3, .slice A4 f4.length c4] 25)))
  have HL := Aside0.mk hl
  clear h hs hl
  go_enter Try.func20, Try.ntmps20
  go_wp2_with (go_at_call 21; (with_reducible refine (HA.out.lay hg ⟨5, [], 0, 0⟩ _ (Kd.R_nil _ _ _ _ _) HL.out).mono ?_); rintro e w3 ⟨rfl, hst⟩; have HST := Aside0.mk hst; clear hst)
  go_end0
  obtain ⟨v2, h2⟩ := HA.out.step HST.out
  exact ⟨rfl, h2.done⟩
set_option maxHeartbeats 4000000 in
set_option maxRecDepth 100000 in
theorem node_or (f : Node → List Inst → Option (List Inst)) (hf : OrF f) (w0 w wr : World) (g : Nat) (u v : Value) (p q : List Inst) (A1 : Option Addr) (c1 : Nat) (f1 : List S42) (f2 f3 : Int) (A4 : Option Addr) (c4 : Nat) (f4 : List Node) (h : Acc w0 g w u wr v p) (hg : w0.heap.size ≤ g) (hc : k25.C w0 A4 f4.length f4) (hl : orC f f4 p = some q) :
    Calls Try.prog 20 #[.pointer (some ⟨g, 0, none⟩), .agg #[.int .i64 4, .slice A1 f1.length c1, .int .i64 f2, .int .i64 f3, .slice A4 f4.length c4]] wr fun e w' => e = .returned (.tuple #[]) ∧ CompSt w0.heap.size g wr w' v q := by
  have hu := Try.underlying25
  have hui := Try.underlying39
  have hs := Acc.start h.blk h.row h.all
  have HA := Aside0.mk (hs.more (below_alloc (Below.refl _ _) (.cells #[.int .i64 4, .slice A1 f1.length c1, .int .i64 f2, .int .i64 f3, .slice A4 f4.length c4] 25)))
  have HF := Aside0.mk hf
  have HC := Aside0.mk hc
  have HL := Aside0.mk hl
  clear h hs hl hf hc
  go_enter Try.func20, Try.ntmps20
  go_wp2_with (go_at_call 34; (with_reducible refine (HF.out _ _ _ _ _ _ _ _ _ _ f4 HA.out hg HC.out HL.out).mono ?_); rintro e w3 ⟨rfl, hst⟩; have HST := Aside0.mk hst; clear hst)
  go_end0
  obtain ⟨v2, h2⟩ := HA.out.step HST.out
  exact ⟨rfl, h2.done⟩
set_option maxHeartbeats 4000000 in
set_option maxRecDepth 100000 in
theorem node_rep (f : Node → List Inst → Option (List Inst)) (hf : RepF f) (w0 w wr : World) (g : Nat) (u v : Value) (p q : List Inst) (A1 : Option Addr) (c1 : Nat) (f1 : List S42) (f2 f3 : Int) (A4 : Option Addr) (c4 : Nat) (f4 : List Node) (h : Acc w0 g w u wr v p) (hg : w0.heap.size ≤ g) (hN : NodeAt w0 ⟨5, f1, f2, f3, f4⟩ (.agg #[.int .i64 5, .slice A1 f1.length c1, .int .i64 f2, .int .i64 f3, .slice A4 f4.length c4])) (hl : repC f ⟨5, f1, f2, f3, f4⟩ p = some q) :
    Calls Try.prog 20 #[.pointer (some ⟨g, 0, none⟩), .agg #[.int .i64 5, .slice A1 f1.length c1, .int .i64 f2, .int .i64 f3, .slice A4 f4.length c4]] wr fun e w' => e = .returned (.tuple #[]) ∧ CompSt w0.heap.size g wr w' v q := by
  have hu := Try.underlying25
  have hui := Try.underlying39
  have hs := Acc.start h.blk h.row h.all
  have HA := Aside0.mk (hs.more (below_alloc (Below.refl _ _) (.cells #[.int .i64 5, .slice A1 f1.length c1, .int .i64 f2, .int .i64 f3, .slice A4 f4.length c4] 25)))
  have HF := Aside0.mk hf
  have HN := Aside0.mk hN
  have HL := Aside0.mk hl
  clear h hs hl hf hN
  go_enter Try.func20, Try.ntmps20
  go_wp2_with (go_at_call 35; (with_reducible refine (HF.out _ _ _ _ _ _ _ _ ⟨5, f1, f2, f3, f4⟩ _ HA.out hg HN.out HL.out).mono ?_); rintro e w3 ⟨rfl, hst⟩; have HST := Aside0.mk hst; clear hst)
  go_end0
  obtain ⟨v2, h2⟩ := HA.out.step HST.out
  exact ⟨rfl, h2.done⟩
set_option maxHeartbeats 4000000 in
set_option maxRecDepth 100000 in
theorem node_none (w0 w wr : World) (g : Nat) (u v : Value) (p q : List Inst) (A1 : Option Addr) (c1 : Nat) (f1 : List S42) (f2 f3 : Int) (A4 : Option Addr) (c4 : Nat) (f4 : List Node) (h : Acc w0 g w u wr v p) (hg : w0.heap.size ≤ g) (k : Int) (k2 : k ≠ 2) (k6 : k ≠ 6) (k7 : k ≠ 7) (k3 : k ≠ 3) (k4 : k ≠ 4) (k5 : k ≠ 5) (hl : p = q) :
    Calls Try.prog 20 #[.pointer (some ⟨g, 0, none⟩), .agg #[.int .i64 k, .slice A1 f1.length c1, .int .i64 f2, .int .i64 f3, .slice A4 f4.length c4]] wr fun e w' => e = .returned (.tuple #[]) ∧ CompSt w0.heap.size g wr w' v q := by
  have hu := Try.underlying25
  have hui := Try.underlying39
  have hs := Acc.start h.blk h.row h.all
  have HA := Aside0.mk (hs.more (below_alloc (Below.refl _ _) (.cells #[.int .i64 k, .slice A1 f1.length c1, .int .i64 f2, .int .i64 f3, .slice A4 f4.length c4] 25)))
  subst hl
  have e2 : (k == 2) = false := beq_eq_false_iff_ne.mpr k2
  have e3 : (k == 3) = false := beq_eq_false_iff_ne.mpr k3
  have e4 : (k == 4) = false := beq_eq_false_iff_ne.mpr k4
  have e5 : (k == 5) = false := beq_eq_false_iff_ne.mpr k5
  have e6 : (k == 6) = false := beq_eq_false_iff_ne.mpr k6
  have e7 : (k == 7) = false := beq_eq_false_iff_ne.mpr k7
  clear h hs k2 k3 k4 k5 k6 k7
  go_enter Try.func20, Try.ntmps20
  go_wp2
  go_end0
  exact ⟨rfl, HA.out.done⟩
theorem nj_drop {α : Type} (z : α) (xs : List α) (i : Nat) (h : i < xs.length) : xs.drop i = xs.getD i z :: xs.drop (i + 1) := by
  rw [List.getD_eq_getElem?_getD, List.getElem?_eq_getElem h, Option.getD_some]
  exact List.drop_eq_getElem_cons h
theorem nj_wrap (i : Nat) (h : i < 9223372036854775807) : wrap64 ((i : Int) + 1) = ((i + 1 : Nat) : Int) := by
  unfold wrap64
  omega
set_option maxHeartbeats 4000000 in
set_option maxRecDepth 100000 in
theorem node_join (f : Node → List Inst → Option (List Inst)) (hf : NodeF f) (w0 w wr : World) (g : Nat) (u v : Value) (p q : List Inst) (A1 : Option Addr) (c1 : Nat) (f1 : List S42) (f2 f3 : Int) (A4 : Option Addr) (c4 : Nat) (f4 : List Node) (h : Acc w0 g w u wr v p) (hg : w0.heap.size ≤ g) (hc : k25.C w0 A4 f4.length f4) (hl : joinC f f4 p = some q) :
    Calls Try.prog 20 #[.pointer (some ⟨g, 0, none⟩), .agg #[.int .i64 3, .slice A1 f1.length c1, .int .i64 f2, .int .i64 f3, .slice A4 f4.length c4]] wr fun e w' => e = .returned (.tuple #[]) ∧ CompSt w0.heap.size g wr w' v q := by
  have hu := Try.underlying25
  have hui := Try.underlying39
  have hs := Acc.start h.blk h.row h.all
  have HA := Aside0.mk (hs.more (below_alloc (Below.refl _ _) (.cells #[.int .i64 3, .slice A1 f1.length c1, .int .i64 f2, .int .i64 f3, .slice A4 f4.length c4] 25)))
  have HF := Aside0.mk hf
  have HC := Aside0.mk hc
  have HLL := Aside0.mk hl
  have HN := Aside0.mk (Kd.C_max hc)
  clear h hs hl hf hc
  go_enter Try.func20, Try.ntmps20
  go_wp2
  go_loopw [31] (fun s31 wx => ∃ (i : Nat) (v1 : Value) (p1 : List Inst), s31 = .int .i64 (i : Int) ∧ i ≤ f4.length ∧ Aside0 (Acc w0 g wr v wx v1 p1) ∧ Aside0 (joinC f (f4.drop i) p1 = some q)) (fun s31 _ => f4.length - (intOf s31).toNat)
  case atStart => exact ⟨0, v, p, rfl, by omega, HA, by simpa using HLL⟩
  case round =>
    clear HA HLL
    obtain ⟨i, v1, p1, rfl, hi, HA, HLL⟩ := hrel
    by_cases hlt : i < f4.length
    · obtain ⟨ad, B1, d1, B4, d4, e, h0, h1, h2, h3, h4, q1, q2, q3, q4⟩ := at_T25 HC.out (i : Int) (by omega) (by omega)
      cases e
      rw [Int.toNat_natCast] at h0 h1 h2 h3 h4
      have hx : rd_T25 f4 (i : Int) = f4.getD i z25 := rfl
      have hh := HLL.out
      rw [nj_drop z25 f4 i hlt] at hh
      rw [hx] at h0 h1 h2 h3 h4 q1 q2 q3 q4
      obtain ⟨x, hxx⟩ : ∃ x, f4.getD i z25 = x := ⟨_, rfl⟩
      rw [hxx] at h0 h1 h2 h3 h4 q1 q2 q3 q4 hh
      have hNA : NodeAt w0 x _ := ⟨B1, d1, B4, d4, rfl, q1, q2, q3, q4⟩
      simp only [joinC] at hh
      obtain ⟨p2, hp2, hh2⟩ := Option.bind_eq_some_iff.mp hh
      obtain ⟨x0, x1, x2, x3, x4⟩ := x
      dsimp only at h0 h1 h2 h3 h4 hNA
      replace h0 := cell_later (HA.out.all.mono (Nat.le_refl _)) h0
      replace h1 := cell_later (HA.out.all.mono (Nat.le_refl _)) h1
      replace h2 := cell_later (HA.out.all.mono (Nat.le_refl _)) h2
      replace h3 := cell_later (HA.out.all.mono (Nat.le_refl _)) h3
      replace h4 := cell_later (HA.out.all.mono (Nat.le_refl _)) h4
      have HNA := Aside0.mk hNA
      have HP2 := Aside0.mk hp2
      have HH := Aside0.mk hh2
      have g1 : decide ((i : Int) < (f4.length : Int)) = true := decide_eq_true (by omega)
      have g2 : ((0 : Int) ≤ (i : Int)) = True := eq_true (by omega)
      have g3 : ((i : Int) < (f4.length : Int)) = True := eq_true (by omega)
      have HA1 := Aside0.mk (HA.out.more (below_alloc (Below.refl _ _) (.cells #[.int .i64 x0, .slice B1 x1.length d1, .int .i64 x2, .int .i64 x3, .slice B4 x4.length d4] 25)))
      clear hx hxx q1 q2 q3 q4 hNA hp2 hh hh2 HLL
      go_wp2_with (go_at_call 20; (with_reducible refine (HF.out _ _ _ _ _ _ _ _ _ _ HA1.out hg HNA.out HP2.out).mono ?_); rintro e w3 ⟨rfl, hst⟩; have HST := Aside0.mk hst; clear hst)
      obtain ⟨v2, h2⟩ := HA1.out.step HST.out
      have hw := nj_wrap i (by have := HN.out; omega)
      refine ⟨⟨i + 1, v2, p2, by rw [hw], by omega, ⟨h2⟩, HH⟩, ?_⟩
      rw [hw]
      show f4.length - (((i + 1 : Nat) : Int)).toNat < f4.length - ((i : Int)).toNat
      clear hw
      omega
    · obtain rfl : i = f4.length := by omega
      have g1 : decide ((f4.length : Int) < (f4.length : Int)) = false := decide_eq_false (by omega)
      have hh := HLL.out
      rw [List.drop_length] at hh
      simp only [joinC, Option.some.injEq] at hh
      subst hh
      clear HLL
      go_wp2
      go_end0
      exact ⟨rfl, HA.out.done⟩
end Go.Proofs.Ytbbplchdgedhcaa.P
namespace Go.Proofs.Ytbbplchdgedhcaa.P
open Go.RowKit Go.Proofs.YtbbplchdgedhcaaW.PrintWords Go.Proofs.YtbbplchdgedhcaaW.PrintLast
set_option linter.unusedVariables false
set_option linter.unusedSimpArgs false

theorem rinfo3 : (Try.prog.info? 3).map (fun i => (i.zero, i.size, i.bytes)) = some (some (.int .i64 0), 1, 8) := by kernel_rfl
set_option maxHeartbeats 8000000 in
set_option maxRecDepth 100000 in
theorem rep_star (f : Node → List Inst → Option (List Inst)) (hf : NodeF f) (w0 w wo : World) (g : Nat) (u v : Value) (p q : List Inst) (x : Node) (nv : Value) (h : Acc w0 g w u wo v p) (hg : w0.heap.size ≤ g) (hN : NodeAt w0 x nv) (hl : repC f x p = some q) :
    Calls Try.prog 35 #[.pointer (some ⟨g, 0, none⟩), nv] wo fun e w' => e = .returned (.tuple #[]) ∧ CompSt w0.heap.size g wo w' v q := by
  have hu := Try.underlying25
  have hui := Try.underlying39
  obtain ⟨A1, c1, A4, c4, rfl, l1, g1, l4, g4⟩ := hN
  unfold repC at hl
  by_cases e4 : x.f4.length = 0
  · rw [if_pos e4] at hl
    cases hl
  rw [if_neg e4] at hl
  by_cases eb : 0 ≤ x.f2 ∧ x.f2 ≤ 20 ∧ -1 ≤ x.f3 ∧ x.f3 ≤ 20
  rotate_left
  · rw [if_neg eb] at hl
    cases hl
  rw [if_pos eb] at hl
  obtain ⟨ad, B1, d1, B4, d4, e, h0, h1, h2, h3, h4, q1, q2, q3, q4⟩ := at_T25 g4 (0 : Int) (by omega) (by omega)
  cases e
  have ea : ad.add ((0 : Int).toNat * 5) = ad := by unfold Addr.add; simp
  rw [ea] at h0 h1 h2 h3 h4
  have hx : rd_T25 x.f4 (0 : Int) = x.f4.getD 0 z25 := rfl
  rw [hx] at h0 h1 h2 h3 h4 q1 q2 q3 q4
  obtain ⟨k, hk⟩ : ∃ k, x.f4.getD 0 z25 = k := ⟨_, rfl⟩
  rw [hk] at h0 h1 h2 h3 h4 q1 q2 q3 q4 hl
  have hNA : NodeAt w0 k _ := ⟨B1, d1, B4, d4, rfl, q1, q2, q3, q4⟩
  obtain ⟨p1, hp1, hl2⟩ := Option.bind_eq_some_iff.mp hl
  obtain ⟨f0, f1, f2, f3, f4⟩ := x
  obtain ⟨k0, k1, k2, k3, k4⟩ := k
  dsimp only at h0 h1 h2 h3 h4 hNA hp1 hl2 eb e4 l1 g1 l4 g4 ⊢
  obtain ⟨m, rfl⟩ : ∃ m : Nat, f2 = (m : Int) := ⟨f2.toNat, by omega⟩
  rw [Int.toNat_natCast] at hp1
  have hs := Acc.start h.blk h.row h.all
  have HW := Aside0.mk h.ge
  have HA1 := Aside0.mk (hs.more (below_alloc (Below.refl _ _) (.cells #[.int .i64 f0, .slice A1 f1.length c1, .int .i64 (m : Int), .int .i64 f3, .slice (some ad) f4.length c4] 25)))
  have HA2 := Aside0.mk (HA1.out.more (below_alloc (Below.refl _ _) (.cells #[.int .i64 k0, .slice B1 k1.length d1, .int .i64 k2, .int .i64 k3, .slice B4 k4.length d4] 25)))
  replace h0 := cell_later HA1.out.all h0
  replace h1 := cell_later HA1.out.all h1
  replace h2 := cell_later HA1.out.all h2
  replace h3 := cell_later HA1.out.all h3
  replace h4 := cell_later HA1.out.all h4
  have hl0 : ((0 : Int) < (f4.length : Int)) = True := eq_true (by omega)
  have hl1 : 0 < f4.length := by omega
  have HX := Aside0.mk (show ((wo.alloc (.cells #[.int .i64 f0, .slice A1 f1.length c1, .int .i64 (m : Int), .int .i64 f3, .slice (some ad) f4.length c4] 25)).alloc (.cells #[.int .i64 k0, .slice B1 k1.length d1, .int .i64 k2, .int .i64 k3, .slice B4 k4.length d4] 25)).heap[wo.heap.size]? = some (.cells #[.int .i64 f0, .slice A1 f1.length c1, .int .i64 (m : Int), .int .i64 f3, .slice (some ad) f4.length c4] 25 (0, 0)) from blk_alloc (heap_alloc_new wo _) _)
  have HKB := Aside0.mk (show ((wo.alloc (.cells #[.int .i64 f0, .slice A1 f1.length c1, .int .i64 (m : Int), .int .i64 f3, .slice (some ad) f4.length c4] 25)).alloc (.cells #[.int .i64 k0, .slice B1 k1.length d1, .int .i64 k2, .int .i64 k3, .slice B4 k4.length d4] 25)).heap[wo.heap.size + 1]? = some (.cells #[.int .i64 k0, .slice B1 k1.length d1, .int .i64 k2, .int .i64 k3, .slice B4 k4.length d4] 25 (0, 0)) from by have h9 := heap_alloc_new (wo.alloc (.cells #[.int .i64 f0, .slice A1 f1.length c1, .int .i64 (m : Int), .int .i64 f3, .slice (some ad) f4.length c4] 25)) (.cells #[.int .i64 k0, .slice B1 k1.length d1, .int .i64 k2, .int .i64 k3, .slice B4 k4.length d4] 25); rwa [show (wo.alloc (.cells #[.int .i64 f0, .slice A1 f1.length c1, .int .i64 (m : Int), .int .i64 f3, .slice (some ad) f4.length c4] 25)).heap.size = wo.heap.size + 1 from by simp] at h9)
  have HF := Aside0.mk hf
  have HNA := Aside0.mk hNA
  have HP1 := Aside0.mk hp1
  have HL2 := Aside0.mk hl2
  have HM := Aside0.mk eb
  clear ea h hs hl hf hNA hp1 hl2 eb hk hx q1 q2 q3 q4 l1 g1 l4 g4 e4
  go_enter Try.func35, Try.ntmps35
  go_wp2
  go_loopw [13] (fun s13 wx => ∃ (i : Nat) (v1 : Value) (pi : List Inst), s13 = .int .i64 (i : Int) ∧ i ≤ m ∧ Aside0 (Acc w0 g wo v wx v1 pi) ∧ Aside0 (timesC (f (⟨k0, k1, k2, k3, k4⟩ : Node)) (m - i) pi = some p1) ∧ Aside0 (wx.heap[wo.heap.size]? = some (.cells #[.int .i64 f0, .slice A1 f1.length c1, .int .i64 (m : Int), .int .i64 f3, .slice (some ad) f4.length c4] 25 (0, 0))) ∧ Aside0 (wx.heap[wo.heap.size + 1]? = some (.cells #[.int .i64 k0, .slice B1 k1.length d1, .int .i64 k2, .int .i64 k3, .slice B4 k4.length d4] 25 (0, 0)))) (fun s13 _ => m - (intOf s13).toNat)
  case atStart => exact ⟨0, v, p, rfl, by omega, HA2, HP1, HX, HKB⟩
  case round =>
    clear HA1 HA2 HP1 HX HKB h0 h1 h2 h3 h4
    obtain ⟨i, v1, pi, rfl, hi, HA, HP, HX, HKB⟩ := hrel
    by_cases hlt : i < m
    · have hp := HP.out
      obtain ⟨mi, hmi⟩ : ∃ mi, m - i = mi + 1 := ⟨m - i - 1, by omega⟩
      rw [hmi] at hp
      simp only [timesC] at hp
      obtain ⟨p2, hp2, hp3⟩ := Option.bind_eq_some_iff.mp hp
      have HP2 := Aside0.mk hp2
      have HP3 := Aside0.mk hp3
      have z0 : wr.cell? ⟨wo.heap.size + 1, 0, none⟩ = some (.int .i64 k0) := blk_cell HKB.out 0
      have z1 : wr.cell? ⟨wo.heap.size + 1, 1, none⟩ = some (.slice B1 k1.length d1) := blk_cell HKB.out 1
      have z2 : wr.cell? ⟨wo.heap.size + 1, 2, none⟩ = some (.int .i64 k2) := blk_cell HKB.out 2
      have z3 : wr.cell? ⟨wo.heap.size + 1, 3, none⟩ = some (.int .i64 k3) := blk_cell HKB.out 3
      have z4 : wr.cell? ⟨wo.heap.size + 1, 4, none⟩ = some (.slice B4 k4.length d4) := blk_cell HKB.out 4
      have g1 : decide ((i : Int) < (m : Int)) = true := decide_eq_true (by omega)
      clear hp hp2 hp3 HP
      go_wp2_with (go_at_call 20; (with_reducible refine (HF.out _ _ _ _ _ _ _ _ _ _ HA.out hg HNA.out HP2.out).mono ?_); rintro e w3 ⟨rfl, hst⟩; have HST := Aside0.mk hst; clear hst)
      obtain ⟨v2, h2⟩ := HA.out.step HST.out
      have hw := nj_wrap i (by have := HM.out; omega)
      refine ⟨⟨i + 1, v2, p2, by rw [hw], by omega, ⟨h2⟩, ⟨by rw [show m - (i + 1) = mi by omega]; exact HP3.out⟩, ⟨HA.out.other HST.out HX.out (by decide) (by decide)⟩, ⟨HA.out.other HST.out HKB.out (by decide) (by decide)⟩⟩, ?_⟩
      rw [hw]
      show m - (((i + 1 : Nat) : Int)).toNat < m - ((i : Int)).toNat
      clear hw
      omega
    · obtain rfl : i = m := by omega
      have hp := HP.out
      rw [Nat.sub_self] at hp
      simp only [timesC, Option.some.injEq] at hp
      subst hp
      clear HP
      have g1 : decide ((i : Int) < (i : Int)) = false := decide_eq_false (by omega)
      have z0 : wr.cell? ⟨wo.heap.size + 1, 0, none⟩ = some (.int .i64 k0) := blk_cell HKB.out 0
      have z1 : wr.cell? ⟨wo.heap.size + 1, 1, none⟩ = some (.slice B1 k1.length d1) := blk_cell HKB.out 1
      have z2 : wr.cell? ⟨wo.heap.size + 1, 2, none⟩ = some (.int .i64 k2) := blk_cell HKB.out 2
      have z3 : wr.cell? ⟨wo.heap.size + 1, 3, none⟩ = some (.int .i64 k3) := blk_cell HKB.out 3
      have z4 : wr.cell? ⟨wo.heap.size + 1, 4, none⟩ = some (.slice B4 k4.length d4) := blk_cell HKB.out 4
      have y3 : wr.cell? ⟨wo.heap.size, 3, none⟩ = some (.int .i64 f3) := blk_cell HX.out 3
      have y2 : wr.cell? ⟨wo.heap.size, 2, none⟩ = some (.int .i64 (i : Int)) := blk_cell HX.out 2
      by_cases hneg : f3 < 0
      · have hl2 := HL2.out
        rw [if_pos hneg] at hl2
        have g2 : decide (f3 < 0) = true := decide_eq_true hneg
        obtain ⟨p2, hp2, hl3⟩ := Option.bind_eq_some_iff.mp hl2
        obtain ⟨p3, hp3, hl4⟩ := Option.bind_eq_some_iff.mp hl3
        obtain ⟨p4, hp4, hl5⟩ := Option.bind_eq_some_iff.mp hl4
        have HP2 := Aside0.mk hp2
        have HP3 := Aside0.mk hp3
        have HP4 := Aside0.mk hp4
        have HL5 := Aside0.mk hl5
        clear hl2 hp2 hl3 hp3 hl4 hp4 hl5 HL2 hneg
        go_wp2_with (first
          | (go_at_call 38; (with_reducible refine (HA.out.split hg HP2.out).mono ?_); rintro e w3 ⟨rfl, hst⟩; obtain ⟨va, ha⟩ := HA.out.step hst; have HAa := Aside0.mk ha; have hkb := HA.out.other hst HKB.out (by decide) (by decide); have x0 := blk_cell hkb 0; have x1 := blk_cell hkb 1; have x2 := blk_cell hkb 2; have x3 := blk_cell hkb 3; have x4 := blk_cell hkb 4; clear hst ha hkb)
          | (go_at_call 20; (with_reducible refine (HF.out _ _ _ _ _ _ _ _ _ _ HAa.out hg HNA.out HP3.out).mono ?_); rintro e w4 ⟨rfl, hst⟩; obtain ⟨vb, hb⟩ := HAa.out.step hst; have HAb := Aside0.mk hb; clear hst hb)
          | (go_at_call 21; (with_reducible refine (HAb.out.lay hg ⟨3, [], (pi.length : Int), 0⟩ _ (Kd.R_nil _ _ _ _ _) HP4.out).mono ?_); rintro e w5 ⟨rfl, hst⟩; obtain ⟨vc, hc⟩ := HAb.out.step hst; have HAc := Aside0.mk hc; clear hst hc)
          | ((with_reducible refine gate_dst (N := 33) rfl ?_); refine Kd.R_lit (Kd.int .i64) _ 3 ?hg (N := 33) ?hd (xs := ([(pi.length : Int)] : List Int)) (inner := [.int .i64 (pi.length : Int)]) (ok := fun _ => True) (okp := fun _ => True) ?hr ?hp (fun _ hk => hk) trivial (Below.refl _ _) (Nat.le_refl _) (by simp) ?_; (case hd => rfl); (case hg => rfl); (case hr => first | (go_simp; done) | (go_simp; rfl)); (case hp => exact Kd.reps_scalar [(pi.length : Int)]); intro vj w6 hj hb6 _ _; have HAd := Aside0.mk (HAc.out.more hb6); have HJ := Aside0.mk (Kd.R_lower hj HAc.out.ge); obtain ⟨Aj, cj, rfl⟩ := Kd.R_slice hj; clear hj hb6)
          | (go_at_call 39; refine (HAd.out.alts hg HJ.out HL5.out).mono ?_; rintro e w7 ⟨rfl, hst⟩; obtain ⟨ve, he⟩ := HAd.out.step hst; have HAe := Aside0.mk he; clear hst he))
        exact bodyPost_ret (results_none rfl _ _ _) rfl ⟨rfl, HAe.out.done⟩
      · have hl2 := HL2.out
        rw [if_neg hneg] at hl2
        have g2 : decide (f3 < 0) = false := decide_eq_false hneg
        obtain ⟨⟨qe, je⟩, hq, hl3⟩ := Option.bind_eq_some_iff.mp hl2
        dsimp only at hl3
        obtain ⟨md, hmd⟩ : ∃ md, (f3 - (i : Int)).toNat = md := ⟨_, rfl⟩
        rw [hmd] at hq
        obtain ⟨dd, hdd⟩ : ∃ dd : Int, f3 - (i : Int) = dd := ⟨_, rfl⟩
        have i1 : IntKind.i64.wrap (f3 - (i : Int)) = dd := by rw [IntKind.wrap_i64, hdd]; have := HM.out; omega
        have hd2 : dd.toNat = md := by rw [← hdd]; exact hmd
        have hd3 : dd ≤ 20 := by have := HM.out; omega
        have HQ := Aside0.mk hq
        have HL3 := Aside0.mk hl3
        have HD2 := Aside0.mk hd2
        have HD3 := Aside0.mk hd3
        clear hl2 hq hl3 HL2 hneg hmd hdd hd2 hd3 z0 z1 z2 z3 z4
        obtain ⟨w8, hw8⟩ : ∃ w8 : World, w8 = wr := ⟨_, rfl⟩
        subst hw8
        go_wp2
        clear i1
        go_loopw [6, 40] (fun s6 s40 wx => ∃ (n : Nat) (v1 : Value) (p2 : List Inst) (js : List Int), s40 = .int .i64 (n : Int) ∧ n ≤ md ∧ Aside0 (Acc w0 g wo v wx v1 p2) ∧ Aside0 (optC (f (⟨k0, k1, k2, k3, k4⟩ : Node)) (md - n) p2 js = some (qe, je)) ∧ Aside0 (wx.heap[wo.heap.size + 1]? = some (.cells #[.int .i64 k0, .slice B1 k1.length d1, .int .i64 k2, .int .i64 k3, .slice B4 k4.length d4] 25 (0, 0))) ∧ Aside0 ((Kd.int .i64).R 3 wx wo.heap.size (fun _ => True) s6 js)) (fun _ s40 _ => md - (intOf s40).toNat)
        case atStart => exact ⟨0, v1, pi, [], rfl, by omega, HA, HQ, HKB, ⟨Kd.R_nil _ _ _ _ _⟩⟩
        case round =>
          clear HA HQ HKB HX y2 y3
          obtain ⟨n, v2, p2, js, rfl, hn, HA, HQ, HKB, HJ⟩ := hrel
          by_cases hlt : n < md
          · have hq := HQ.out
            obtain ⟨mi, hmi⟩ : ∃ mi, md - n = mi + 1 := ⟨md - n - 1, by omega⟩
            rw [hmi] at hq
            simp only [optC] at hq
            by_cases hjl : js.length < 1099511627776
            rotate_left
            · rw [if_neg hjl] at hq
              cases hq
            rw [if_pos hjl] at hq
            obtain ⟨p3, hp3, hq2⟩ := Option.bind_eq_some_iff.mp hq
            obtain ⟨p4, hp4, hq3⟩ := Option.bind_eq_some_iff.mp hq2
            have HP3 := Aside0.mk hp3
            have HP4 := Aside0.mk hp4
            have HQ3 := Aside0.mk hq3
            have HJL := Aside0.mk hjl
            have g3 : decide ((n : Int) < dd) = true := decide_eq_true (by have := HD2.out; omega)
            have hnw : n < 9223372036854775807 := by have := HD2.out; have := HD3.out; omega
            have hn1 : n + 1 ≤ md := hlt
            have hn2 : md - (n + 1) = mi := by omega
            have HNW := Aside0.mk (And.intro hnw (And.intro hn1 hn2))
            obtain ⟨Aj, cj, ej⟩ := Kd.R_slice HJ.out
            subst ej
            clear hq hp3 hq2 hp4 hq3 HQ hjl hnw hn1 hn2 hmi
            go_wp2_with (first
              | (go_at_call 38; (with_reducible refine (HA.out.split hg HP3.out).mono ?_); rintro e w3 ⟨rfl, hst⟩; obtain ⟨va, ha⟩ := HA.out.step hst; have HAa := Aside0.mk ha; have HKBa := Aside0.mk (HA.out.other hst HKB.out (by decide) (by decide)); have HJa := Aside0.mk (HA.out.ints hst HJ.out); clear hst ha)
              | ((with_reducible refine gate_builtin (b := .append) (xs := #[.tmp 42, .tmp 45]) rfl ?_); at_builtin; refine Kd.R_append (Kd.int .i64) (w0 := w3) wo.heap.size rfl (.tmp 42) (.tmp 45) 58 3 (.int .i64 0) 8 rfl Try.underlying58 rinfo3 rfl (by decide) (by omega) (.slice Aj js.length cj) js (p2.length : Int) [.int .i64 (p2.length : Int)] (fun _ => True) (fun _ => False) rfl rfl ?aP (fun _ hk => hk.elim) (fun _ _ => trivial) ?aO ?aB ?aS ?aL ?_; (case aP => exact rfl); (case aO => exact HJa.out); (case aB => exact Below.refl _ _); (case aS => exact HAa.out.keep.1); (case aL => have := HJL.out; omega);
                  intro vj w4 hj4 hb4 hg4 hat4; obtain ⟨Ak, ck, rfl⟩ := Kd.R_slice hj4; rw [show (js ++ [(p2.length : Int)]).length = js.length + 1 from by simp] at hj4; have HAb := Aside0.mk (HAa.out.grow HW.out HJa.out hg4); have HKBb := Aside0.mk (blk_ints HKBa.out HJa.out hg4 (by decide)); have HJb := Aside0.mk hj4; have x0 := blk_cell HKBb.out 0; have x1 := blk_cell HKBb.out 1; have x2 := blk_cell HKBb.out 2; have x3 := blk_cell HKBb.out 3; have x4 := blk_cell HKBb.out 4; clear hj4 hb4 hg4 hat4)
              | (go_at_call 20; (with_reducible refine (HF.out _ _ _ _ _ _ _ _ _ _ HAb.out hg HNA.out HP4.out).mono ?_); rintro e w5 ⟨rfl, hst⟩; obtain ⟨vb, hb⟩ := HAb.out.step hst; have HAc := Aside0.mk hb; have HKBc := Aside0.mk (HAb.out.other hst HKBb.out (by decide) (by decide)); have HJc := Aside0.mk (HAb.out.ints hst HJb.out); clear hst hb))
            have hw := nj_wrap n HNW.out.1
            refine ⟨⟨n + 1, vb, p4, _, by rw [hw], HNW.out.2.1, HAc, ⟨by rw [HNW.out.2.2]; exact HQ3.out⟩, HKBc, ⟨HJc.out⟩⟩, ?_⟩
            rw [hw]
            clear hw
            show md - (((n + 1 : Nat) : Int)).toNat < md - ((n : Int)).toNat
            have hlt2 := HNW.out.2.1
            simp only [Int.toNat_natCast]
            exact Nat.sub_lt_sub_left hlt2 (Nat.lt_succ_self n)
          · obtain rfl : n = md := by omega
            have hq := HQ.out
            rw [Nat.sub_self] at hq
            simp only [optC, Option.some.injEq, Prod.mk.injEq] at hq
            obtain ⟨rfl, rfl⟩ := hq
            clear HQ
            have g3 : decide ((n : Int) < dd) = false := decide_eq_false (by have := HD2.out; omega)
            obtain ⟨Aj, cj, ej⟩ := Kd.R_slice HJ.out
            subst ej
            go_wp2_with (go_at_call 39; refine (HA.out.alts hg (Kd.R_lower HJ.out HW.out) HL3.out).mono ?_; rintro e w7 ⟨rfl, hst⟩; obtain ⟨ve, he⟩ := HA.out.step hst; have HAe := Aside0.mk he; clear hst he)
            go_end0
            exact ⟨rfl, HAe.out.done⟩
end Go.Proofs.Ytbbplchdgedhcaa.P
namespace Go.Proofs.Ytbbplchdgedhcaa.P
open Go.RowKit Go.Proofs.YtbbplchdgedhcaaW.PrintWords Go.Proofs.YtbbplchdgedhcaaW.PrintLast
set_option linter.unusedVariables false
set_option linter.unusedSimpArgs false

theorem toP_length (n : Int) (p : List Inst) (j : Int) : (toP n p j).length = p.length := by simp [toP]
theorem tos_length (n : Int) : ∀ (js : List Int) (p : List Inst), (js.foldl (toP n) p).length = p.length
  | [], _ => rfl
  | j :: js, p => by rw [List.foldl_cons, tos_length n js, toP_length]
/-- A cell of the program's own row is stored over. -/
theorem Acc.put {w0 w wr w1 : World} {g go n cap : Nat} {u : Value} {p q : List Inst} (h : Acc w0 g w u wr (.slice (some ⟨go, 0, none⟩) n cap) p) (hR : k39.R 39 w1 w0.heap.size (fun _ => True) (.slice (some ⟨go, 0, none⟩) n cap) q) (hg : wr.grownBy w1 (some go)) : Acc w0 g w u w1 (.slice (some ⟨go, 0, none⟩) n cap) q := by
  have hb : w0.heap.size ≤ go := Kd.R_base h.row go (by simp [Value.ownBlock])
  refine ⟨blk_grown h.blk hg (Kd.R_ne h.row h.blk (by decide)), hR, h.keep.trans (KeepBut.of_grown hg g) ?_, h.own, h.below.grown hg h.ge (fun k hk => by injection hk with hk; omega), h.all.grown hg h.ge (fun k hk => by injection hk with hk; omega)⟩
  rcases h.own with ho | ⟨b, ho, hb2⟩
  · exact .inl (by rw [← ho]; simp [Value.ownBlock])
  · exact .inr ⟨b, by rw [← ho]; simp [Value.ownBlock], hb2⟩
set_option maxHeartbeats 8000000 in
set_option maxRecDepth 100000 in
theorem or_calls (f : Node → List Inst → Option (List Inst)) (hf : NodeF f) (w0 w wo : World) (g : Nat) (u v : Value) (p q : List Inst) (A : Option Addr) (c : Nat) (l : List Node) (h : Acc w0 g w u wo v p) (hg : w0.heap.size ≤ g) (hc : k25.C w0 A l.length l) (hl : orC f l p = some q) :
    Calls Try.prog 34 #[.pointer (some ⟨g, 0, none⟩), .slice A l.length c] wo fun e w' => e = .returned (.tuple #[]) ∧ CompSt w0.heap.size g wo w' v q := by
  have hu := Try.underlying25
  have hui := Try.underlying39
  obtain ⟨⟨qe, je⟩, hq, hto⟩ := Option.bind_eq_some_iff.mp hl
  dsimp only at hto
  have HF := Aside0.mk hf
  have HC := Aside0.mk hc
  have HQ := Aside0.mk hq
  have HT := Aside0.mk hto
  have HN := Aside0.mk (Kd.C_max hc)
  have HW := Aside0.mk h.ge
  have HA := Aside0.mk (Acc.start h.blk h.row h.all)
  clear h hl hf hc hq hto
  go_enter Try.func34, Try.ntmps34
  go_upto_block 0 with (fail)
  go_cut [4] (fun v4 wc => ∃ vc : Value, Aside0 (Acc w0 g wo v wc vc qe) ∧ Aside0 ((Kd.int .i64).R 3 wc wo.heap.size (fun _ => True) v4 je))
  case first =>
    clear HT
    go_wp2
    go_loopw [4, 12] (fun s4 s12 wx => ∃ (i : Nat) (v1 : Value) (p1 : List Inst) (js : List Int), s12 = .int .i64 (i : Int) ∧ i ≤ l.length ∧ Aside0 (Acc w0 g wo v wx v1 p1) ∧ Aside0 (orL f (l.drop i) p1 js = some (qe, je)) ∧ Aside0 ((Kd.int .i64).R 3 wx wo.heap.size (fun _ => True) s4 js)) (fun _ s12 _ => l.length - (intOf s12).toNat)
    case atStart => exact ⟨0, v, p, [], rfl, by omega, HA, by simpa using HQ, ⟨Kd.R_nil _ _ _ _ _⟩⟩
    case round =>
      clear HA HQ
      obtain ⟨i, v1, p1, js, rfl, hi, HA, HQ, HJ⟩ := hrel
      by_cases hlt : i < l.length
      · obtain ⟨ad, B1, d1, B4, d4, e, h0, h1, h2, h3, h4, q1, q2, q3, q4⟩ := at_T25 HC.out (i : Int) (by omega) (by omega)
        cases e
        rw [Int.toNat_natCast] at h0 h1 h2 h3 h4
        have hx : rd_T25 l (i : Int) = l.getD i z25 := rfl
        have hh := HQ.out
        rw [nj_drop z25 l i hlt] at hh
        rw [hx] at h0 h1 h2 h3 h4 q1 q2 q3 q4
        obtain ⟨x, hxx⟩ : ∃ x, l.getD i z25 = x := ⟨_, rfl⟩
        rw [hxx] at h0 h1 h2 h3 h4 q1 q2 q3 q4 hh
        have hNA : NodeAt w0 x _ := ⟨B1, d1, B4, d4, rfl, q1, q2, q3, q4⟩
        simp only [orL, List.length_drop] at hh
        obtain ⟨x0, x1, x2, x3, x4⟩ := x
        dsimp only at h0 h1 h2 h3 h4 hNA
        replace h0 := cell_later HA.out.all h0
        replace h1 := cell_later HA.out.all h1
        replace h2 := cell_later HA.out.all h2
        replace h3 := cell_later HA.out.all h3
        replace h4 := cell_later HA.out.all h4
        have HNA := Aside0.mk hNA
        have g1 : decide ((i : Int) < (l.length : Int)) = true := decide_eq_true (by omega)
        have g2 : ((0 : Int) ≤ (i : Int)) = True := eq_true (by omega)
        have g3 : ((i : Int) < (l.length : Int)) = True := eq_true (by omega)
        have HA1 := Aside0.mk (HA.out.more (below_alloc (Below.refl _ _) (.cells #[.int .i64 x0, .slice B1 x1.length d1, .int .i64 x2, .int .i64 x3, .slice B4 x4.length d4] 25)))
        have HKB := Aside0.mk (show (wr.alloc (.cells #[.int .i64 x0, .slice B1 x1.length d1, .int .i64 x2, .int .i64 x3, .slice B4 x4.length d4] 25)).heap[wr.heap.size]? = some (.cells #[.int .i64 x0, .slice B1 x1.length d1, .int .i64 x2, .int .i64 x3, .slice B4 x4.length d4] 25 (0, 0)) from heap_alloc_new wr _)
        have HJ1 := Aside0.mk (Kd.R_alloc HJ.out (.cells #[.int .i64 x0, .slice B1 x1.length d1, .int .i64 x2, .int .i64 x3, .slice B4 x4.length d4] 25))
        obtain ⟨n, hn⟩ : ∃ n, l.length = n + 1 := ⟨l.length - 1, by omega⟩
        have i1 : IntKind.i64.wrap ((l.length : Int) - 1) = (n : Int) := by rw [IntKind.wrap_i64]; have := HN.out; omega
        have HNI := Aside0.mk (And.intro hn hlt)
        by_cases hlast : l.length - (i + 1) = 0
        · rw [if_pos hlast] at hh
          obtain ⟨q2', hq2, hq3⟩ := Option.map_eq_some_iff.mp hh
          simp only [Prod.mk.injEq] at hq3
          obtain ⟨rfl, rfl⟩ := hq3
          have HP2 := Aside0.mk hq2
          have g4 : ((i : Int) == (n : Int)) = true := beq_iff_eq.mpr (by omega)
          have g5 : ((i : Int) == (l.length : Int) - 1) = true := beq_iff_eq.mpr (by omega)
          clear hx hxx q1 q2 q3 q4 hNA hh hq2 HQ hn hlast
          go_wp2_with (go_at_call 20; (with_reducible refine (HF.out _ _ _ _ _ _ _ _ _ _ HA1.out hg HNA.out HP2.out).mono ?_); rintro e w3 ⟨rfl, hst⟩; have HST := Aside0.mk hst; clear hst)
          go_meet
          case rel =>
            obtain ⟨v2, h2⟩ := HA1.out.step HST.out
            exact ⟨v2, ⟨h2⟩, ⟨HA1.out.ints HST.out HJ1.out⟩⟩
        · rw [if_neg hlast] at hh
          by_cases hjl : js.length < 1099511627776
          rotate_left
          · rw [if_neg hjl] at hh
            cases hh
          rw [if_pos hjl] at hh
          obtain ⟨p2, hp2, hh2⟩ := Option.bind_eq_some_iff.mp hh
          obtain ⟨p3, hp3, hh3⟩ := Option.bind_eq_some_iff.mp hh2
          obtain ⟨p4, hp4, hh4⟩ := Option.bind_eq_some_iff.mp hh3
          obtain ⟨p5, hp5, hh5⟩ := Option.bind_eq_some_iff.mp hh4
          have HP2 := Aside0.mk hp2
          have HP3 := Aside0.mk hp3
          have HP4 := Aside0.mk hp4
          have HP5 := Aside0.mk hp5
          have HH5 := Aside0.mk hh5
          have HJL := Aside0.mk hjl
          have g4 : ((i : Int) == (n : Int)) = false := beq_eq_false_iff_ne.mpr (by omega)
          have g5 : ((i : Int) == (l.length : Int) - 1) = false := beq_eq_false_iff_ne.mpr (by omega)
          obtain ⟨Aj, cj, ej⟩ := Kd.R_slice HJ1.out
          subst ej
          clear hx hxx q1 q2 q3 q4 hNA hh hh2 hh3 hh4 hh5 hp2 hp3 hp4 hp5 HQ hn hlast hjl HJ
          go_wp2_with (first
            | (go_at_call 38; (with_reducible refine (HA1.out.split hg HP2.out).mono ?_); rintro e w3 ⟨rfl, hst⟩; obtain ⟨va, ha⟩ := HA1.out.step hst; have HAa := Aside0.mk ha; have hkb := HA1.out.other hst HKB.out (by decide) (by decide); have x0' := blk_cell hkb 0; have x1' := blk_cell hkb 1; have x2' := blk_cell hkb 2; have x3' := blk_cell hkb 3; have x4' := blk_cell hkb 4; have HJa := Aside0.mk (HA1.out.ints hst HJ1.out); clear hst ha hkb)
            | (go_at_call 20; (with_reducible refine (HF.out _ _ _ _ _ _ _ _ _ _ HAa.out hg HNA.out HP3.out).mono ?_); rintro e w4 ⟨rfl, hst⟩; obtain ⟨vb, hb⟩ := HAa.out.step hst; have HAb := Aside0.mk hb; have HJb := Aside0.mk (HAa.out.ints hst HJa.out); clear hst hb)
            | (go_at_call 21; (with_reducible refine (HAb.out.lay hg ⟨3, [], 0, 0⟩ _ (Kd.R_nil _ _ _ _ _) HP4.out).mono ?_); rintro e w5 ⟨rfl, hst⟩; obtain ⟨vc, hc⟩ := HAb.out.step hst; have HAc := Aside0.mk hc; have HJc := Aside0.mk (HAb.out.ints hst HJb.out); clear hst hc)
            | ((with_reducible refine gate_builtin (b := .append) (xs := #[.tmp 30, .tmp 34]) rfl ?_); at_builtin; refine Kd.R_append (Kd.int .i64) (w0 := w5) wo.heap.size rfl (.tmp 30) (.tmp 34) 58 3 (.int .i64 0) 8 rfl Try.underlying58 rinfo3 rfl (by decide) (by omega) (.slice Aj js.length cj) js (p3.length : Int) [.int .i64 (p3.length : Int)] (fun _ => True) (fun _ => False) rfl rfl ?aP (fun _ hk => hk.elim) (fun _ _ => trivial) ?aO ?aB ?aS ?aL ?_; (case aP => exact rfl); (case aO => exact HJc.out); (case aB => exact Below.refl _ _); (case aS => exact HAc.out.keep.1); (case aL => have := HJL.out; omega);
                intro vj w6 hj4 hb4 hg4 hat4; obtain ⟨Ak, ck, rfl⟩ := Kd.R_slice hj4; rw [show (js ++ [(p3.length : Int)]).length = js.length + 1 from by simp] at hj4; have HAd := Aside0.mk (HAc.out.grow HW.out HJc.out hg4); have HJd := Aside0.mk hj4; clear hj4 hb4 hg4 hat4)
            | ((with_reducible refine gate_dst (N := 38) rfl ?_); refine Kd.R_lit (Kd.int .i64) _ 3 ?hg (N := 38) ?hd (xs := ([(p1.length : Int)] : List Int)) (inner := [.int .i64 (p1.length : Int)]) (ok := fun _ => True) (okp := fun _ => True) ?hr ?hp (fun _ hk => hk) trivial (Below.refl _ _) (Nat.le_refl _) (by simp) ?_; (case hd => rfl); (case hg => rfl); (case hr => first | (go_simp; done) | (go_simp; rfl)); (case hp => exact Kd.reps_scalar [(p1.length : Int)]); intro vj w7 hj hb6 _ _; have HAe := Aside0.mk (HAd.out.more hb6); have HL1 := Aside0.mk (Kd.R_lower hj HAd.out.ge); have HJe := Aside0.mk (Kd.R_below HJd.out hb6); obtain ⟨Al, cl, rfl⟩ := Kd.R_slice hj; clear hj hb6)
            | (go_at_call 39; refine (HAe.out.alts hg HL1.out HP5.out).mono ?_; rintro e w8 ⟨rfl, hst⟩; obtain ⟨vf, hf⟩ := HAe.out.step hst; have HAf := Aside0.mk hf; have HJf := Aside0.mk (HAe.out.ints hst HJe.out); clear hst hf))
          clear i1
          have hw := nj_wrap i (by have := HN.out; have := HNI.out.2; omega)
          refine ⟨⟨i + 1, vf, p5, _, by rw [hw], HNI.out.2, HAf, HH5, ⟨HJf.out⟩⟩, ?_⟩
          rw [hw]
          clear hw
          show l.length - (((i + 1 : Nat) : Int)).toNat < l.length - ((i : Int)).toNat
          simp only [Int.toNat_natCast]
          exact Nat.sub_lt_sub_left HNI.out.2 (Nat.lt_succ_self i)
      · obtain rfl : i = l.length := by omega
        have hh := HQ.out
        rw [List.drop_length] at hh
        simp only [orL, Option.some.injEq, Prod.mk.injEq] at hh
        obtain ⟨rfl, rfl⟩ := hh
        have g1 : decide ((l.length : Int) < (l.length : Int)) = false := decide_eq_false (by omega)
        clear HQ
        go_wp2
        go_meet
        case rel => exact ⟨v1, HA, HJ⟩
  case rest =>
    clear HA HQ HC HF
    obtain ⟨vc, HA, HJ⟩ := hcut
    have hto := HT.out
    unfold tosC at hto
    by_cases hjj : ∀ j ∈ je, 0 ≤ j ∧ j < (qe.length : Int)
    rotate_left
    · rw [if_neg hjj] at hto
      cases hto
    rw [if_pos hjj] at hto
    have hto2 := Option.some.inj hto
    have HTO := Aside0.mk hto2
    have HJJ := Aside0.mk hjj
    obtain ⟨Aj, cj, ej⟩ := Kd.R_slice HJ.out
    subst ej
    have HL := Aside0.mk (Kd.C_max (Kd.R_reads' HJ.out).2.2)
    clear hto hto2 hjj HT
    go_wp2
    go_loopw [43] (fun s43 wx => ∃ i : Nat, s43 = .int .i64 (i : Int) ∧ i ≤ je.length ∧ Aside0 (Acc w0 g wo v wx vc ((je.take i).foldl (toP (qe.length : Int)) qe)) ∧ Aside0 ((Kd.int .i64).R 3 wx wo.heap.size (fun _ => True) (.slice Aj je.length cj) je)) (fun s43 _ => je.length - (intOf s43).toNat)
    case atStart => exact ⟨0, rfl, by omega, HA, HJ⟩
    case round =>
      clear HA HJ
      obtain ⟨i, rfl, hi, HA, HJ⟩ := hrel
      by_cases h : i < je.length
      · have hjm := HJJ.out _ (sa_mem je i h)
        have hts := sa_take je i h
        obtain ⟨ad, e, hx⟩ := Kd.at_int (Kd.R_reads' HJ.out).2.2 (i : Int) (by omega) (by omega)
        cases e
        rw [Int.toNat_natCast] at hx
        obtain ⟨j, hjj⟩ : ∃ j, rd je (i : Int) = j := ⟨_, rfl⟩
        rw [hjj] at hx hjm hts
        obtain ⟨pp, hpp⟩ : ∃ pp, (je.take i).foldl (toP (qe.length : Int)) qe = pp := ⟨_, rfl⟩
        have hpl : pp.length = qe.length := by rw [← hpp]; exact tos_length _ _ _
        have hnx : (je.take (i + 1)).foldl (toP (qe.length : Int)) qe = toP (qe.length : Int) pp j := by rw [hts, List.foldl_append, hpp]; rfl
        rw [hpp] at HA
        rw [← hpl] at hnx hjm
        have hR := HA.out.row
        obtain ⟨go, cap, hv, _, _, _⟩ := Kd.R_form hR (by omega)
        subst hv
        obtain ⟨ce, hcl, hM, hcc, hfr⟩ := Kd.R_elem hR z39 j hjm.1 hjm.2
        obtain ⟨x, hxx⟩ : ∃ x, pp.getD j.toNat z39 = x := ⟨_, rfl⟩
        rw [hxx] at hM
        obtain ⟨v1, rfl, hv1⟩ := k39_openM hM
        obtain ⟨Ax, cx, rfl⟩ := Kd.R_slice hv1
        have hnx2 : toP (pp.length : Int) pp j = pp.set j.toNat ⟨x.f0, x.f1, (pp.length : Int), x.f3⟩ := by unfold toP; rw [hxx]
        obtain ⟨x0, x1, x2, x3⟩ := x
        dsimp only at hM hcc hv1 hnx2
        have hc3 : wr.cell? ⟨go, j.toNat * 4 + 2, none⟩ = some (.int .i64 x2) := hcc 2 _ rfl
        have hf3 : wr.frozen? ⟨go, j.toNat * 4 + 2, none⟩ = false := hfr 2
        have hg0 : wr.cell? ⟨g, 0, none⟩ = some (.slice (some ⟨go, 0, none⟩) pp.length cap) := blk_cell HA.out.blk 0
        have HM := Aside0.mk hM
        have HCC : Aside0 (∀ (j_ : Nat) (u : Value), ([.int .i64 x0, .slice Ax x1.length cx, .int .i64 x2, .int .i64 x3] : List Value)[j_]? = some u → wr.cell? ⟨go, j.toNat * 4 + j_, none⟩ = some u) := ⟨hcc⟩
        have HNX := Aside0.mk (hnx.trans hnx2)
        have HJM := Aside0.mk hjm
        have HPL := Aside0.mk hpl
        have h1 : decide ((i : Int) < (je.length : Int)) = true := decide_eq_true (by omega)
        have h2 : ((0 : Int) ≤ (i : Int)) = True := eq_true (by omega)
        have h3 : ((i : Int) < (je.length : Int)) = True := eq_true (by omega)
        have h4 : ((0 : Int) ≤ j) = True := eq_true hjm.1
        have h5 : (j < (pp.length : Int)) = True := eq_true hjm.2
        clear hjm hts hjj hpp hpl hnx hnx2 hR hM hcc hfr hxx hcl hv1
        go_wp2
        refine start_ (n := 13) (S := fun w' => w'.cell? ⟨g, 0, none⟩ = some (.slice (some ⟨go, 0, none⟩) pp.length cap)) (ds := [12]) #[false, false, false, false, false, false, false, false, false, false, false, false, false] (by kernel_rfl) rfl rfl hg0 (fun hHeld => ?_)
        have n0_ := Aside0.mk (HA.out.more (below_drew (Below.refl wr.heap.size wr)))
        have n4_ := Aside0.mk (Kd.R_drew HJ.out)
        have n5_ : wr.drew.cell? ⟨go, j.toNat * 4 + 2, none⟩ = some (.int .i64 x2) := hc3
        have n6_ : wr.drew.frozen? ⟨go, j.toNat * 4 + 2, none⟩ = false := hf3
        clear HA HJ hc3 hf3 hg0
        have HA := n0_
        have HJ := n4_
        have hc3 := n5_
        have hf3 := n6_
        clear n0_ n4_ n5_ n6_
        have HM1 := Aside0.mk (Kd.M_below HM.out (below_drew (Below.refl wr.heap.size wr)))
        have HCC1 : Aside0 (∀ (j_ : Nat) (u : Value), ([.int .i64 x0, .slice Ax x1.length cx, .int .i64 x2, .int .i64 x3] : List Value)[j_]? = some u → wr.drew.cell? ⟨go, j.toNat * 4 + j_, none⟩ = some u) := ⟨HCC.out⟩
        clear HM HCC
        generalize wr.drew = W2 at HA HJ hc3 hf3 HM1 HCC1 hHeld ⊢
        refine pure_ (i := 0) (N := some 47) (v := ?_) (a' := ?_) #[true, false, false, false, false, false, false, false, false, false, false, false, false] rfl rfl (by kernel_rfl) (fun _ _ _ h => h) (Or.inl ⟨by rfl, ?_⟩) ?_ ?_
        rotate_left
        · intro w'
          go_simp
          with_reducible rfl
        rotate_left
        · simp only [Act.put, List.setIfInBounds_toArray, List.set_cons_zero, List.set_cons_succ, i64_w, i32_w]
          rfl
        refine pure_ (i := 1) (N := some 48) (v := ?_) (a' := ?_) #[true, true, false, false, false, false, false, false, false, false, false, false, false] rfl rfl (by kernel_rfl) (fun _ _ _ h => h) (Or.inl ⟨by rfl, ?_⟩) ?_ ?_
        rotate_left
        · intro w'
          go_simp
          with_reducible rfl
        rotate_left
        · simp only [Act.put, List.setIfInBounds_toArray, List.set_cons_zero, List.set_cons_succ, i64_w, i32_w]
          rfl
        refine pure_ (i := 2) (N := some 49) (v := ?_) (a' := ?_) #[true, true, true, false, false, false, false, false, false, false, false, false, false] rfl rfl (by kernel_rfl) (fun _ _ _ h => h) (Or.inl ⟨by rfl, ?_⟩) ?_ ?_
        rotate_left
        · intro w'
          go_simp
          with_reducible rfl
        rotate_left
        · simp only [Act.put, List.setIfInBounds_toArray, List.set_cons_zero, List.set_cons_succ, i64_w, i32_w]
          rfl
        refine pure_ (i := 4) (N := some 51) (v := ?_) (a' := ?_) #[true, true, true, false, true, false, false, false, false, false, false, false, false] rfl rfl (by kernel_rfl) (fun _ _ _ h => h) (Or.inl ⟨by rfl, ?_⟩) ?_ ?_
        rotate_left
        · intro w'
          go_simp
          with_reducible rfl
        rotate_left
        · simp only [Act.put, List.setIfInBounds_toArray, List.set_cons_zero, List.set_cons_succ, i64_w, i32_w]
          rfl
        refine pure_ (i := 5) (N := some 52) (v := ?_) (a' := ?_) #[true, true, true, false, true, true, false, false, false, false, false, false, false] rfl rfl (by kernel_rfl) (fun _ _ _ h => h) (Or.inl ⟨by rfl, ?_⟩) ?_ ?_
        rotate_left
        · intro w'
          go_simp
          with_reducible rfl
        rotate_left
        · simp only [Act.put, List.setIfInBounds_toArray, List.set_cons_zero, List.set_cons_succ, i64_w, i32_w]
          rfl
        refine pure_ (i := 6) (N := some 53) (v := ?_) (a' := ?_) #[true, true, true, false, true, true, true, false, false, false, false, false, false] rfl rfl (by kernel_rfl) (fun _ _ _ h => h) (Or.inl ⟨by rfl, ?_⟩) ?_ ?_
        rotate_left
        · intro w'
          go_simp
          with_reducible rfl
        rotate_left
        · simp only [Act.put, List.setIfInBounds_toArray, List.set_cons_zero, List.set_cons_succ, i64_w, i32_w]
          rfl
        refine pure_ (i := 7) (N := some 54) (v := ?_) (a' := ?_) #[true, true, true, false, true, true, true, true, false, false, false, false, false] rfl rfl (by kernel_rfl) (fun _ _ _ h => h) (Or.inl ⟨by rfl, ?_⟩) ?_ ?_
        rotate_left
        · intro w'
          go_simp
          with_reducible rfl
        rotate_left
        · simp only [Act.put, List.setIfInBounds_toArray, List.set_cons_zero, List.set_cons_succ, i64_w, i32_w]
          rfl
        refine take_ (i := 3) (N := some 50) (v := ?_) (a' := ?_) #[true, true, true, true, true, true, true, true, false, false, false, false, false] rfl rfl (by kernel_rfl) (fun _ _ _ h => h) (Or.inl ⟨by rfl, ?_⟩) hHeld ?_ ?_
        rotate_left
        · rintro w' s0
          go_simp
          with_reducible rfl
        rotate_left
        · simp only [Act.put, List.setIfInBounds_toArray, List.set_cons_zero, List.set_cons_succ, i64_w, i32_w]
          rfl
        refine take_ (i := 8) (N := some 55) (v := ?_) (a' := ?_) #[true, true, true, true, true, true, true, true, true, false, false, false, false] rfl rfl (by kernel_rfl) (fun _ _ _ h => h) (Or.inl ⟨by rfl, ?_⟩) hHeld ?_ ?_
        rotate_left
        · rintro w' s0
          go_simp
          with_reducible rfl
        rotate_left
        · simp only [Act.put, List.setIfInBounds_toArray, List.set_cons_zero, List.set_cons_succ, i64_w, i32_w]
          rfl
        refine pure_ (i := 9) (N := some 56) (v := ?_) (a' := ?_) #[true, true, true, true, true, true, true, true, true, true, false, false, false] rfl rfl (by kernel_rfl) (fun _ _ _ h => h) (Or.inl ⟨by rfl, ?_⟩) ?_ ?_
        rotate_left
        · intro w'
          go_simp
          with_reducible rfl
        rotate_left
        · simp only [Act.put, List.setIfInBounds_toArray, List.set_cons_zero, List.set_cons_succ, i64_w, i32_w]
          rfl
        refine pure_ (i := 10) (N := some 57) (v := ?_) (a' := ?_) #[true, true, true, true, true, true, true, true, true, true, true, false, false] rfl rfl (by kernel_rfl) (fun _ _ _ h => h) (Or.inl ⟨by rfl, ?_⟩) ?_ ?_
        rotate_left
        · intro w'
          go_simp
          with_reducible rfl
        rotate_left
        · simp only [Act.put, List.setIfInBounds_toArray, List.set_cons_zero, List.set_cons_succ, i64_w, i32_w]
          rfl
        refine pure_ (i := 11) (N := some 58) (v := ?_) (a' := ?_) #[true, true, true, true, true, true, true, true, true, true, true, true, false] rfl rfl (by kernel_rfl) (fun _ _ _ h => h) (Or.inl ⟨by rfl, ?_⟩) ?_ ?_
        rotate_left
        · intro w'
          go_simp
          with_reducible rfl
        rotate_left
        · simp only [Act.put, List.setIfInBounds_toArray, List.set_cons_zero, List.set_cons_succ, i64_w, i32_w]
          rfl
        refine last_ (i := 12) (N := none) #[true, true, true, true, true, true, true, true, true, true, true, true, true] rfl rfl (by kernel_rfl) (by decide) (fun K hK => ?_)
        refine skip_ (w1 := ?_) (by rfl) rfl ?_ ?_
        rotate_left
        · go_simp
          rfl
        refine hK.out _ _ ?_
        clear hK K
        refine done_ (by kernel_rfl) ?_
        obtain ⟨hR2, hG2⟩ := Kd.R_seg (seg := [.int .i64 (pp.length : Int)]) (j := 2) (x' := (⟨x0, x1, (pp.length : Int), x3⟩ : S39)) (okp := fun k => True ∧ k ≠ go) HA.out.row j HJM.out.1 (by have := HJM.out.2; exact this) rfl HCC1.out (by show 2 + 1 ≤ 4; decide) (by
          obtain ⟨v1, he, hv1⟩ := k39_openM HM1.out
          obtain rfl : Value.slice Ax x1.length cx = v1 := by injection he with _ he; injection he
          exact k39_mkM _ _ _ (⟨x0, x1, (pp.length : Int), x3⟩ : S39) hv1) (fun _ hk => hk)
        have HA3 := Aside0.mk (HA.out.put hR2 hG2)
        have HJ3 := Aside0.mk (Kd.R_over' HJ.out (v := .slice (some ⟨go, 0, none⟩) pp.length cap) (fun k hk => Kd.R_typed HA.out.row k hk) (by decide) (by exact hG2))
        clear hR2 hG2
        go_wp2
        refine ⟨⟨i + 1, by rw [sa_wrap i (by have := HL.out; omega)], by omega, ⟨?_⟩, HJ3⟩, ?_⟩
        · rw [← HPL.out, HNX.out]
          exact HA3.out
        · rw [sa_wrap i (by have := HL.out; omega)]
          show je.length - (((i + 1 : Nat) : Int)).toNat < je.length - ((i : Int)).toNat
          omega
      · obtain rfl : i = je.length := by omega
        have h1 : decide ((je.length : Int) < (je.length : Int)) = false := decide_eq_false (by omega)
        rw [List.take_length, HTO.out] at HA
        go_wp2
        go_end0
        exact ⟨rfl, HA.out.done⟩
theorem node_calls : ∀ n, NodeF (nodeC n)
  | 0 => fun _ _ _ _ _ _ _ _ _ _ _ _ _ hl => by simp [nodeC] at hl
  | n + 1 => by
    intro w0 w wr g u v p q x nv h hg hN hl
    have ih := node_calls n
    have hN' := hN
    obtain ⟨A1, c1, A4, c4, rfl, l1, g1, l4, g4⟩ := hN
    obtain ⟨f0, f1, f2, f3, f4⟩ := x
    dsimp only at l1 g1 l4 g4 hN' ⊢
    simp only [nodeC] at hl
    by_cases e2 : f0 = 2
    · subst e2
      rw [if_pos rfl] at hl
      by_cases hf : f1.length < 8796093022208
      · rw [if_pos hf] at hl
        exact node_set w0 w wr g u v p q A1 c1 f1 f2 f3 A4 c4 f4 h hg g1 l1 hf hl
      · rw [if_neg hf] at hl
        cases hl
    rw [if_neg e2] at hl
    by_cases e6 : f0 = 6
    · subst e6
      rw [if_pos rfl] at hl
      exact node_start w0 w wr g u v p q A1 c1 f1 f2 f3 A4 c4 f4 h hg hl
    rw [if_neg e6] at hl
    by_cases e7 : f0 = 7
    · subst e7
      rw [if_pos rfl] at hl
      exact node_stop w0 w wr g u v p q A1 c1 f1 f2 f3 A4 c4 f4 h hg hl
    rw [if_neg e7] at hl
    by_cases e3 : f0 = 3
    · subst e3
      rw [if_pos rfl] at hl
      exact node_join (nodeC n) ih w0 w wr g u v p q A1 c1 f1 f2 f3 A4 c4 f4 h hg g4 hl
    rw [if_neg e3] at hl
    by_cases e4 : f0 = 4
    · subst e4
      rw [if_pos rfl] at hl
      exact node_or (nodeC n) (or_calls (nodeC n) ih) w0 w wr g u v p q A1 c1 f1 f2 f3 A4 c4 f4 h hg g4 hl
    rw [if_neg e4] at hl
    by_cases e5 : f0 = 5
    · subst e5
      rw [if_pos rfl] at hl
      exact node_rep (nodeC n) (rep_star (nodeC n) ih) w0 w wr g u v p q A1 c1 f1 f2 f3 A4 c4 f4 h hg hN' hl
    rw [if_neg e5] at hl
    exact node_none w0 w wr g u v p q A1 c1 f1 f2 f3 A4 c4 f4 h hg f0 e2 e6 e7 e3 e4 e5 (Option.some.inj hl)
end Go.Proofs.Ytbbplchdgedhcaa.P
